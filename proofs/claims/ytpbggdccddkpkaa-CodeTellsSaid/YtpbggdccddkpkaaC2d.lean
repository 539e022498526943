/- Contracts of the functions that the statement reaches. No condition. -/
import Derived.Test.YtpbggdccddkpkaaC2c
import Derived.Test.YtpbggdccddkpkaaPL1b
set_option linter.all false
set_option maxRecDepth 10000
namespace Go.AM.L2
open Go.AM.PL
theorem codeTells_ok (b st0 : List UInt8) (n cut most : Int) (hb : b.length + 512 ≤ 2 ^ 47) (hn : i64 n) (hc : i64 cut) (hm : i64 most) : WpCallG A 5 [.fsl 1 (b.map encB), .v (.int .i64 n), .v (.string ⟨(st0).toArray⟩), .v (.int .i64 cut), .v (.int .i64 most)] [] (fun v H => v = .v (.bool true) ∧ H = []) := by
  obtain ⟨st, hst, hst2⟩ := cut200 st0
  obtain ⟨q, hq, hq2⟩ := and_rng1 n 63 (by decide)
  obtain ⟨r, hr, hr2⟩ := and_rng1 most 63 (by decide)
  have hpb := putB_le n
  have hpb2 := putB_le (st.length : Int)
  refine WpCallG.intro g5 rfl rfl ?_
  unfold af5
  change WpG _ _ _ _ _
  refine WpG.seq ?_
  refine WpG.reg ?_
  refine G.mv rfl ?_
  refine WpOpsG.nil ?_
  change WpG _ _ _ _ _
  refine WpG.seqJ ([(0, .fsl 1 (b.map encB)), (1, .v (.int .i64 n)), (2, .v (.string ⟨(st).toArray⟩)), (3, .v (.int .i64 cut)), (4, .v (.int .i64 most))]) ([]) ⟨rfl, rfl⟩ ?_ ?_
  · change WpG _ _ _ _ _
    refine WpG.seq ?_
    refine WpG.reg ?_
    refine G.mv rfl ?_
    refine G.lenStr rfl ?_
    rw [show (((⟨st0.toArray⟩ : ByteArray).size : Nat) : Int) = ((st0.length : Nat) : Int) from rfl]
    refine G.bin rfl rfl rfl ?_
    refine WpOpsG.nil ?_
    change WpG _ _ _ _ _
    refine WpG.cond rfl (fun hq1 => ?_) (fun hq1 => ?_)
    · (try simp only [decide_eq_true_eq, decide_eq_false_iff_not, Bool.or_eq_true, Bool.and_eq_true, Bool.or_eq_false_iff, Bool.and_eq_false_iff, bne_iff_ne, beq_iff_eq, beq_eq_false_iff_ne, bne_eq_false_iff_eq, ne_eq, Bool.not_eq_true', Bool.not_eq_false', Int.not_lt, Int.not_le, Decidable.not_not, List.length_map, List.length_cons, List.length_nil] at hq1)
      refine WpG.reg ?_
      refine G.mv rfl ?_
      refine G.sstr rfl (bndG_some rfl ⟨by decide, by show (200 : Int) ≤ (st0.length : Int); omega⟩) rfl ?_
      rw [show (⟨st0.toArray⟩ : ByteArray).extract 0 ((200 : Int).toNat) = ⟨(st0.take 200).toArray⟩ from extract_take st0 200]
      refine G.mv rfl ?_
      refine WpOpsG.nil ?_
      first
        | (rw [if_pos (by omega)] at hst; subst hst; exact ⟨⟨rfl, rfl, rfl, rfl, rfl, trivial⟩, trivial, rfl⟩)
        | (rw [if_neg (by omega)] at hst; subst hst; exact ⟨⟨rfl, rfl, rfl, rfl, rfl, trivial⟩, trivial, rfl⟩)
    · (try simp only [decide_eq_true_eq, decide_eq_false_iff_not, Bool.or_eq_true, Bool.and_eq_true, Bool.or_eq_false_iff, Bool.and_eq_false_iff, bne_iff_ne, beq_iff_eq, beq_eq_false_iff_ne, bne_eq_false_iff_eq, ne_eq, Bool.not_eq_true', Bool.not_eq_false', Int.not_lt, Int.not_le, Decidable.not_not, List.length_map, List.length_cons, List.length_nil] at hq1)
      refine WpG.skip ?_
      first
        | (rw [if_pos (by omega)] at hst; subst hst; exact ⟨⟨rfl, rfl, rfl, rfl, rfl, trivial⟩, trivial, rfl⟩)
        | (rw [if_neg (by omega)] at hst; subst hst; exact ⟨⟨rfl, rfl, rfl, rfl, rfl, trivial⟩, trivial, rfl⟩)
  change WpG _ _ _ _ _
  refine WpG.seq ?_
  refine WpG.reg ?_
  refine G.mv rfl ?_
  refine G.call0 rfl rfl ((nil1 (rput_ok [] n (by decide) hn)).ren [(0, 20)]) ?_
  rintro _ _ ⟨_, _, ⟨rfl, rfl⟩, rfl, rfl⟩
  change newOk _ _ [(20, _)] = true ∧ _
  refine ⟨rfl, ?_⟩
  change WpOpsG _ _ ((19, .osl 20) :: _) ([(20, .arr .yes 1 ((putB n).map encB))] ++ _) _
  refine G.mv rfl ?_
  refine G.lend rfl rfl ((rtext_ok (putB n) st (by omega)).ren [(0, 21)]) ?_
  rintro _ _ ⟨_, _, ⟨rfl, rfl⟩, rfl, rfl⟩
  refine ⟨rfl, ⟨flat_map (fun _ => rfl), trivial⟩, rfl, ?_⟩
  change WpOpsG _ _ ((21, .osl 21) :: _) ([(21, .arr .yes 1 ((putB n ++ putB (st.length : Int) ++ st).map encB))] ++ _) _
  refine G.mv rfl ?_
  refine G.app (ds := b.map encB) rfl rfl rfl rfl trivial (by simp only [List.length_map, List.length_append]; omega) ?_
  rw [← List.map_append]
  obtain ⟨x, hx⟩ : ∃ x, x = putB n ++ putB (st.length : Int) ++ st ++ b := ⟨_, rfl⟩
  rw [← hx]
  have hxl : x.length ≤ 2 ^ 47 := by rw [hx]; simp only [List.length_append]; omega
  refine WpOpsG.freeze 21 rfl ?_
  change WpOpsG _ _ ((23, .fsl 1 (x.map encB)) :: _) _ _
  refine G.mv rfl ?_
  refine WpOpsG.nil ?_
  change WpG _ _ _ _ _
  refine WpG.seq ?_
  refine WpG.reg ?_
  refine G.mv rfl ?_
  refine G.mv rfl ?_
  first | refine G.lenM rfl ?_ | refine G.lenOM rfl rfl ?_ | refine G.lenF rfl ?_ | refine G.lenO rfl rfl ?_ | refine G.lenNil rfl ?_
  refine G.call0 rfl rfl (within_ok cut 0 (x.length : Int) hc (by decide) (by omega) (by omega)) ?_
  rintro _ _ ⟨rfl, rfl⟩
  refine ⟨rfl, ?_⟩
  change WpOpsG _ _ ((27, _) :: _) _ _
  obtain ⟨k, hk, hk2⟩ := within_nat1 cut x.length
  rw [hk]
  refine G.mv rfl ?_
  refine WpOpsG.nil ?_
  change WpG _ _ _ _ _
  refine WpG.seq ?_
  refine WpG.reg ?_
  refine G.mv rfl ?_
  refine G.mv rfl ?_
  refine G.mv rfl ?_
  refine G.call0 rfl rfl (puts_ok b st n (by omega) hn) ?_
  rintro _ _ ⟨rfl, rfl⟩
  refine ⟨rfl, ?_⟩
  change WpOpsG _ _ ((31, _) :: _) _ _
  refine G.mv rfl ?_
  refine G.yes rfl ?_
  refine G.mv rfl ?_
  refine G.yes rfl ?_
  refine G.mv rfl ?_
  refine G.yes rfl ?_
  refine G.mv rfl ?_
  refine G.yes rfl ?_
  refine G.andK rfl rfl ?_
  rw [show andI .i64 n 63 = (q : Int) from hq]
  refine G.yes rfl ?_
  first | refine G.convU64B rfl ?_ | refine G.convU .u64 rfl (by rw [wrap_u64]; omega) ?_ | refine G.convi rfl ?_
  refine G.yes rfl ?_
  refine G.bin rfl rfl rfl ?_
  refine G.yes rfl ?_
  refine G.mv rfl ?_
  refine G.yes rfl ?_
  refine G.call0 rfl rfl (puts_ok b st _ (by omega) (fdiv_rng hn _)) ?_
  rintro _ _ ⟨rfl, rfl⟩
  refine ⟨rfl, ?_⟩
  change WpOpsG _ _ ((40, _) :: _) _ _
  first | refine G.pickT rfl rfl ?_ | refine G.pickF rfl rfl ?_ | refine G.pick rfl rfl rfl ?_
  refine G.mv rfl ?_
  refine G.yes rfl ?_
  refine G.mv rfl ?_
  refine G.yes rfl ?_
  refine G.mv rfl ?_
  refine G.yes rfl ?_
  refine G.call0 rfl rfl (reads_ok b most (by omega) hm) ?_
  rintro _ _ ⟨rfl, rfl⟩
  refine ⟨rfl, ?_⟩
  change WpOpsG _ _ ((45, _) :: _) _ _
  first | refine G.pickT rfl rfl ?_ | refine G.pickF rfl rfl ?_ | refine G.pick rfl rfl rfl ?_
  refine G.mv rfl ?_
  refine G.yes rfl ?_
  refine G.mv rfl ?_
  refine G.yes rfl ?_
  refine G.mv rfl ?_
  refine G.yes rfl ?_
  refine G.andK rfl rfl ?_
  rw [show andI .i64 most 63 = (r : Int) from hr]
  refine G.yes rfl ?_
  refine G.call0 rfl rfl (reads_ok x (r : Int) (by omega) (by unfold i64; omega)) ?_
  rintro _ _ ⟨rfl, rfl⟩
  refine ⟨rfl, ?_⟩
  change WpOpsG _ _ ((51, _) :: _) _ _
  first | refine G.pickT rfl rfl ?_ | refine G.pickF rfl rfl ?_ | refine G.pick rfl rfl rfl ?_
  refine G.mv rfl ?_
  refine G.yes rfl ?_
  refine G.mv rfl ?_
  refine G.yes rfl ?_
  refine G.mv rfl ?_
  refine G.yes rfl ?_
  refine G.slTake (n := k) rfl rfl (by first | omega | (simp only [List.length_map, List.length_append, List.length_cons, List.length_nil, List.length_replicate, List.length_take, List.length_drop, List.length_set]; omega)) ?_
  refine G.yes rfl ?_
  refine G.call0 rfl rfl (reads_ok (x.take k) 300 (by rw [List.length_take]; omega) (by unfold i64; decide)) ?_
  rintro _ _ ⟨rfl, rfl⟩
  refine ⟨rfl, ?_⟩
  change WpOpsG _ _ ((57, _) :: _) _ _
  first | refine G.pickT rfl rfl ?_ | refine G.pickF rfl rfl ?_ | refine G.pick rfl rfl rfl ?_
  refine G.mv rfl ?_
  refine G.yes rfl ?_
  refine G.mv rfl ?_
  refine G.yes rfl ?_
  refine G.mv rfl ?_
  refine G.yes rfl ?_
  refine G.slDrop (n := k) rfl rfl (by first | omega | (simp only [List.length_map, List.length_append, List.length_cons, List.length_nil, List.length_replicate, List.length_take, List.length_drop, List.length_set]; omega)) ?_
  refine G.yes rfl ?_
  refine G.mv rfl ?_
  refine G.yes rfl ?_
  refine G.call0 rfl rfl (reads_ok (x.drop k) most (by rw [List.length_drop]; omega) hm) ?_
  rintro _ _ ⟨rfl, rfl⟩
  refine ⟨rfl, ?_⟩
  change WpOpsG _ _ ((64, _) :: _) _ _
  first | refine G.pickT rfl rfl ?_ | refine G.pickF rfl rfl ?_ | refine G.pick rfl rfl rfl ?_
  refine G.mv rfl ?_
  refine G.yes rfl ?_
  refine G.call0 rfl rfl (known2_ok) ?_
  rintro _ _ ⟨rfl, rfl⟩
  refine ⟨rfl, ?_⟩
  change WpOpsG _ _ ((67, _) :: _) _ _
  first | refine G.pickT rfl rfl ?_ | refine G.pickF rfl rfl ?_ | refine G.pick rfl rfl rfl ?_
  refine G.mv rfl ?_
  refine WpOpsG.nil ?_
  change WpG _ _ _ _ _
  refine WpG.ret ?_
  refine ⟨_, [], rfl, (hasP_le (by repeat (first | exact trivial | refine ⟨rfl, ?_⟩))), rfl, rfl, rfl, ?_⟩
  exact ⟨rfl, rfl⟩
theorem codeBack_ok (ns : List Int) (more : List UInt8) (cut : Int) (hns : ns.length ≤ 2 ^ 50) (hn : ∀ x ∈ ns, i64 x) (hb : more.length + 512 ≤ 2 ^ 47) (hc : i64 cut) : WpCallG A 3 [.fsl 1 (ns.map encK), .fsl 1 (more.map encB), .v (.int .i64 cut)] [] (fun v H => v = .v (.bool true) ∧ H = []) := by
  obtain ⟨k, hk⟩ : ∃ k, k = min ns.length 20 := ⟨_, rfl⟩
  have hpk := puts_le (ns.take k)
  rw [List.length_take] at hpk
  refine WpCallG.intro g3 rfl rfl ?_
  unfold af3
  change WpG _ _ _ _ _
  refine WpG.seq ?_
  refine WpG.reg ?_
  refine G.mv rfl ?_
  refine WpOpsG.nil ?_
  change WpG _ _ _ _ _
  refine WpG.seq ?_
  refine WpG.reg ?_
  refine G.mv rfl ?_
  refine WpOpsG.nil ?_
  change WpG _ _ _ _ _
  refine WpG.seq ?_
  refine WpG.reg ?_
  refine G.mv rfl ?_
  first | refine G.lenM rfl ?_ | refine G.lenOM rfl rfl ?_ | refine G.lenF rfl ?_ | refine G.lenO rfl rfl ?_ | refine G.lenNil rfl ?_
  refine G.mn rfl rfl ?_
  rw [show min (ns.length : Int) 20 = (k : Int) by omega]
  refine G.mv rfl ?_
  refine WpOpsG.nil ?_
  change WpG _ _ _ _ _
  refine WpG.seq ?_
  refine WpG.seq ?_
  refine WpG.reg ?_
  refine G.mv rfl ?_
  refine WpOpsG.nil ?_
  change WpG _ _ _ _ _
  refine WpG.block ?_
  refine WpG.ownNil (g := 30) (k := 7) (w := 1) rfl rfl ?_
  refine WpG.loop (S := Nat) (fun i => [(0, .fsl 1 (ns.map encK)), (1, .fsl 1 (more.map encB)), (2, .v (.int .i64 cut)), (7, .osl 30), (8, .v (.int .i64 k)), (9, .v (.int .i64 i))]) (fun i => [(30, .arr .yes 1 ((puts (ns.take i)).map encB))]) (fun i => i ≤ k) (fun i => k - i) (fun s => ⟨rfl, rfl⟩) ?_ 0 ?_ (by repeat (first | exact trivial | refine ⟨rfl, ?_⟩)) (by repeat (first | exact trivial | refine ⟨rfl, ?_⟩)) rfl
  · intro i hI
    have hpl := puts_le (ns.take i)
    rw [List.length_take] at hpl
    refine WpG.seq ?_
    refine WpG.seq ?_
    refine WpG.reg ?_
    refine G.mv rfl ?_
    refine G.mv rfl ?_
    refine G.bin rfl rfl rfl ?_
    refine WpOpsG.nil ?_
    change WpG _ _ _ _ _
    refine WpG.cond rfl (fun hq1 => ?_) (fun hq1 => ?_)
    · (try simp only [decide_eq_true_eq, decide_eq_false_iff_not, Bool.or_eq_true, Bool.and_eq_true, Bool.or_eq_false_iff, Bool.and_eq_false_iff, bne_iff_ne, beq_iff_eq, beq_eq_false_iff_ne, bne_eq_false_iff_eq, ne_eq, Bool.not_eq_true', Bool.not_eq_false', Int.not_lt, Int.not_le, Decidable.not_not, List.length_map, List.length_cons, List.length_nil] at hq1)
      refine WpG.skip ?_
      change WpG _ _ _ _ _
      refine WpG.seq ?_
      refine WpG.block ?_
      refine WpG.freeze 30 rfl ?_
      refine WpG.reg ?_
      refine G.mv rfl ?_
      refine G.mv rfl ?_
      refine G.mv rfl ?_
      first | refine G.iaddrN rfl rfl (List.getElem?_eq_getElem (by first | omega | (simp only [List.length_map, List.length_append, List.length_cons, List.length_nil, List.length_replicate, List.length_take, List.length_drop, List.length_set]; omega))) ?_ | refine G.iaddrM rfl rfl (by omega) (List.getElem?_eq_getElem (by first | omega | (simp only [List.length_map, List.length_append, List.length_cons, List.length_nil, List.length_replicate, List.length_take, List.length_drop, List.length_set]; omega))) ?_ | refine G.iaddrF rfl rfl (by omega) rfl ?_ | refine G.iaddrO rfl rfl rfl (by omega) (by first | omega | (simp only [List.length_map, List.length_append, List.length_cons, List.length_nil, List.length_replicate, List.length_take, List.length_drop, List.length_set]; omega)) ?_ | refine G.iaddrF rfl rfl (by omega) (List.getElem?_eq_getElem (by first | omega | (simp only [List.length_map, List.length_append, List.length_cons, List.length_nil, List.length_replicate, List.length_take, List.length_drop, List.length_set]; omega))) ?_
      first | refine G.load1B rfl rfl rfl ?_ | refine G.load1F rfl rfl ?_ | refine G.load1E rfl rfl (List.getElem?_eq_getElem (by first | omega | (simp only [List.length_map, List.length_append, List.length_cons, List.length_nil, List.length_replicate, List.length_take, List.length_drop, List.length_set]; omega))) rfl ?_ | refine G.load1EM rfl rfl (List.getElem?_eq_getElem (by first | omega | (simp only [List.length_map, List.length_append, List.length_cons, List.length_nil, List.length_replicate, List.length_take, List.length_drop, List.length_set]; omega))) rfl ?_
      refine G.call0 rfl rfl ((put_ok (puts (ns.take i)) ns[i] (by omega) (hn _ (List.getElem_mem _))).ren [(0, 30)]) ?_
      rintro _ _ ⟨_, _, ⟨rfl, rfl⟩, rfl, rfl⟩
      change newOk _ _ [(30, _)] = true ∧ _
      refine ⟨rfl, ?_⟩
      change WpOpsG _ _ ((30, .osl 30) :: _) ([(30, .arr .yes 1 ((puts (ns.take i) ++ putB ns[i]).map encB))] ++ _) _
      refine G.mv rfl ?_
      refine WpOpsG.nil ?_
      change WpG _ _ _ _ _
      refine WpG.reg ?_
      refine G.mv rfl ?_
      first | refine G.addI rfl rfl (by omega) ?_ | refine G.bin rfl rfl rfl ?_
      refine G.mv rfl ?_
      refine WpOpsG.nil ?_
      exact ⟨i + 1, by omega, by omega, ⟨rfl, rfl, rfl, rfl, rfl, rfl, trivial⟩, ⟨by rw [puts_snoc (by omega)]; rfl, trivial⟩, rfl⟩
    · (try simp only [decide_eq_true_eq, decide_eq_false_iff_not, Bool.or_eq_true, Bool.and_eq_true, Bool.or_eq_false_iff, Bool.and_eq_false_iff, bne_iff_ne, beq_iff_eq, beq_eq_false_iff_ne, bne_eq_false_iff_eq, ne_eq, Bool.not_eq_true', Bool.not_eq_false', Int.not_lt, Int.not_le, Decidable.not_not, List.length_map, List.length_cons, List.length_nil] at hq1)
      refine WpG.exit ?_
      change WpG _ _ _ _ _
      refine WpG.seq ?_
      obtain rfl : k = i := by omega
      refine WpG.reg ?_
      refine G.mv rfl ?_
      first | refine G.lenM rfl ?_ | refine G.lenOM rfl rfl ?_ | refine G.lenF rfl ?_ | refine G.lenO rfl rfl ?_ | refine G.lenNil rfl ?_
      refine G.mv rfl ?_
      refine WpOpsG.nil ?_
      change WpG _ _ _ _ _
      refine WpG.seq ?_
      refine WpG.reg ?_
      refine G.mv rfl ?_
      refine G.mv rfl ?_
      refine G.app (ds := more.map encB) rfl rfl rfl rfl trivial (by simp only [List.length_map]; omega) ?_
      rw [← List.map_append]
      refine WpOpsG.freeze 30 rfl ?_
      change WpOpsG _ _ ((35, .fsl 1 ((puts (ns.take k) ++ more).map encB)) :: _) _ _
      refine G.mv rfl ?_
      refine WpOpsG.nil ?_
      change WpG _ _ _ _ _
      refine WpG.seq ?_
      refine WpG.reg ?_
      refine G.mv rfl ?_
      refine WpOpsG.nil ?_
      change WpG _ _ _ _ _
      refine WpG.seq ?_
      refine WpG.seq ?_
      refine WpG.reg ?_
      refine G.mv rfl ?_
      refine WpOpsG.nil ?_
      change WpG _ _ _ _ _
      refine WpG.block ?_
      refine WpG.loop (S := Nat) (fun i => [(0, .fsl 1 (ns.map encK)), (2, .v (.int .i64 cut)), (7, .fsl 1 ((puts (ns.take k) ++ more).map encB)), (8, .v (.int .i64 k)), (10, .v (.int .i64 ((puts (ns.take k)).length : Nat))), (11, .v (.int .i64 ((puts (ns.take i)).length : Nat))), (12, .v (.int .i64 i))]) (fun _ => []) (fun i => i ≤ k) (fun i => k - i) (fun s => ⟨rfl, rfl⟩) ?_ 0 ?_ (by repeat (first | exact trivial | refine ⟨rfl, ?_⟩)) (by repeat (first | exact trivial | refine ⟨rfl, ?_⟩)) rfl
      · intro i hI
        have hpm := puts_mono ns hI
        refine WpG.seq ?_
        refine WpG.seq ?_
        refine WpG.reg ?_
        refine G.mv rfl ?_
        refine G.mv rfl ?_
        refine G.bin rfl rfl rfl ?_
        refine WpOpsG.nil ?_
        change WpG _ _ _ _ _
        refine WpG.cond rfl (fun hq2 => ?_) (fun hq2 => ?_)
        · (try simp only [decide_eq_true_eq, decide_eq_false_iff_not, Bool.or_eq_true, Bool.and_eq_true, Bool.or_eq_false_iff, Bool.and_eq_false_iff, bne_iff_ne, beq_iff_eq, beq_eq_false_iff_ne, bne_eq_false_iff_eq, ne_eq, Bool.not_eq_true', Bool.not_eq_false', Int.not_lt, Int.not_le, Decidable.not_not, List.length_map, List.length_cons, List.length_nil] at hq2)
          refine WpG.skip ?_
          change WpG _ _ _ _ _
          refine WpG.seq ?_
          refine WpG.block ?_
          refine WpG.seq ?_
          have hd := puts_drop (ns := ns) (k := k) (i := i) (by omega) (by omega) more
          have hpb := putB_le ns[i]
          have hdl := congrArg List.length hd
          rw [List.length_drop, List.length_append] at hdl
          have hdl2 := List.length_append (as := putB ns[i]) (bs := (puts ((ns.take k).drop (i + 1)) ++ more))
          refine WpG.reg ?_
          refine G.mv rfl ?_
          refine G.mv rfl ?_
          refine G.slDrop (n := (puts (ns.take i)).length) rfl rfl (by first | omega | (simp only [List.length_map, List.length_append, List.length_cons, List.length_nil, List.length_replicate, List.length_take, List.length_drop, List.length_set]; omega)) ?_
          rw [hd]
          refine G.call0 rfl rfl (get_ok (putB ns[i] ++ (puts ((ns.take k).drop (i + 1)) ++ more)) (by omega)) ?_
          rintro _ _ ⟨rfl, rfl⟩
          refine ⟨rfl, ?_⟩
          change WpOpsG _ _ ((45, _) :: _) _ _
          rw [get_put (hn _ (List.getElem_mem _))]
          change WpOpsG _ _ ((45, .tup [.v (.int .i64 ns[i]), .v (.int .i64 ((putB ns[i]).length : Int))]) :: _) _ _
          refine G.mv rfl ?_
          refine G.ext rfl rfl ?_
          refine G.ext rfl rfl ?_
          refine G.mv rfl ?_
          refine G.mv rfl ?_
          refine WpOpsG.nil ?_
          change WpG _ _ _ _ _
          refine WpG.seq ?_
          refine WpG.seq ?_
          refine WpG.reg ?_
          refine G.mv rfl ?_
          refine G.mv rfl ?_
          refine G.mv rfl ?_
          first | refine G.iaddrN rfl rfl (List.getElem?_eq_getElem (by first | omega | (simp only [List.length_map, List.length_append, List.length_cons, List.length_nil, List.length_replicate, List.length_take, List.length_drop, List.length_set]; omega))) ?_ | refine G.iaddrM rfl rfl (by omega) (List.getElem?_eq_getElem (by first | omega | (simp only [List.length_map, List.length_append, List.length_cons, List.length_nil, List.length_replicate, List.length_take, List.length_drop, List.length_set]; omega))) ?_ | refine G.iaddrF rfl rfl (by omega) rfl ?_ | refine G.iaddrO rfl rfl rfl (by omega) (by first | omega | (simp only [List.length_map, List.length_append, List.length_cons, List.length_nil, List.length_replicate, List.length_take, List.length_drop, List.length_set]; omega)) ?_ | refine G.iaddrF rfl rfl (by omega) (List.getElem?_eq_getElem (by first | omega | (simp only [List.length_map, List.length_append, List.length_cons, List.length_nil, List.length_replicate, List.length_take, List.length_drop, List.length_set]; omega))) ?_
          first | refine G.load1B rfl rfl rfl ?_ | refine G.load1F rfl rfl ?_ | refine G.load1E rfl rfl (List.getElem?_eq_getElem (by first | omega | (simp only [List.length_map, List.length_append, List.length_cons, List.length_nil, List.length_replicate, List.length_take, List.length_drop, List.length_set]; omega))) rfl ?_ | refine G.load1EM rfl rfl (List.getElem?_eq_getElem (by first | omega | (simp only [List.length_map, List.length_append, List.length_cons, List.length_nil, List.length_replicate, List.length_take, List.length_drop, List.length_set]; omega))) rfl ?_
          refine G.bin rfl rfl rfl ?_
          rw [show (ns[i] != ns[i]) = false by simp]
          refine G.mv rfl ?_
          refine G.yes rfl ?_
          refine G.mv rfl ?_
          refine G.yes rfl ?_
          refine G.bin rfl rfl rfl ?_
          rw [show decide (((putB ns[i]).length : Int) < 1) = false from decide_eq_false (by omega)]
          first | refine G.pickT rfl rfl ?_ | refine G.pickF rfl rfl ?_ | refine G.pick rfl rfl rfl ?_
          refine G.mv rfl ?_
          refine G.yes rfl ?_
          refine G.mv rfl ?_
          refine G.yes rfl ?_
          refine G.bin rfl rfl rfl ?_
          rw [show decide (((putB ns[i]).length : Int) > 9) = false from decide_eq_false (by omega)]
          first | refine G.pickT rfl rfl ?_ | refine G.pickF rfl rfl ?_ | refine G.pick rfl rfl rfl ?_
          refine WpOpsG.nil ?_
          change WpG _ _ _ _ _
          refine WpG.cond rfl (fun hq3 => absurd hq3 (by first | decide | simp)) (fun hq3 => ?_)
          refine WpG.skip ?_
          change WpG _ _ _ _ _
          refine WpG.seq ?_
          refine WpG.seq ?_
          refine WpG.reg ?_
          refine G.mv rfl ?_
          refine G.mv rfl ?_
          refine G.mv rfl ?_
          refine G.mv rfl ?_
          refine G.mv rfl ?_
          first | refine G.subI rfl rfl (by omega) ?_ | refine G.bin rfl rfl rfl ?_
          rw [show ((putB ns[i]).length : Int) - 1 = (((putB ns[i]).length - 1 : Nat) : Int) by omega]
          refine G.call0 rfl rfl (within_ok cut 0 (((putB ns[i]).length - 1 : Nat) : Int) hc (by decide) (by omega) (by omega)) ?_
          rintro _ _ ⟨rfl, rfl⟩
          refine ⟨rfl, ?_⟩
          change WpOpsG _ _ ((69, _) :: _) _ _
          obtain ⟨w, hw, hw2⟩ := within_nat1 cut ((putB ns[i]).length - 1)
          rw [hw]
          first | refine G.addI rfl rfl (by omega) ?_ | refine G.bin rfl rfl rfl ?_
          rw [show ((puts (ns.take i)).length : Int) + (w : Int) = (((puts (ns.take i)).length + w : Nat) : Int) by omega]
          refine G.slMid (n := (puts (ns.take i)).length) (m := (puts (ns.take i)).length + w) rfl rfl rfl (by first | omega | (simp only [List.length_map, List.length_append, List.length_cons, List.length_nil, List.length_replicate, List.length_take, List.length_drop, List.length_set]; omega)) (by first | omega | (simp only [List.length_map, List.length_append, List.length_cons, List.length_nil, List.length_replicate, List.length_take, List.length_drop, List.length_set]; omega)) ?_
          rw [mid_take, hd]
          refine G.call0 rfl rfl (get_ok ((putB ns[i] ++ (puts ((ns.take k).drop (i + 1)) ++ more)).take w) (by rw [List.length_take]; omega)) ?_
          rintro _ _ ⟨rfl, rfl⟩
          refine ⟨rfl, ?_⟩
          change WpOpsG _ _ ((72, _) :: _) _ _
          rw [get_short ns[i] _ w (by omega)]
          refine G.mv rfl ?_
          refine G.ext rfl rfl ?_
          refine G.ext rfl rfl ?_
          refine G.mv rfl ?_
          refine G.mv rfl ?_
          refine WpOpsG.nil ?_
          change WpG _ _ _ _ _
          refine WpG.seq ?_
          refine WpG.reg ?_
          refine G.mv rfl ?_
          refine G.bin rfl rfl rfl ?_
          refine WpOpsG.nil ?_
          change WpG _ _ _ _ _
          refine WpG.cond rfl (fun hq4 => absurd hq4 (by first | decide | simp)) (fun hq4 => ?_)
          refine WpG.skip ?_
          change WpG _ _ _ _ _
          refine WpG.reg ?_
          refine G.mv rfl ?_
          refine G.mv rfl ?_
          first | refine G.addI rfl rfl (by omega) ?_ | refine G.bin rfl rfl rfl ?_
          refine G.mv rfl ?_
          refine WpOpsG.nil ?_
          change WpG _ _ _ _ _
          refine WpG.reg ?_
          refine G.mv rfl ?_
          first | refine G.addI rfl rfl (by omega) ?_ | refine G.bin rfl rfl rfl ?_
          refine G.mv rfl ?_
          refine WpOpsG.nil ?_
          exact ⟨i + 1, by omega, by omega, ⟨rfl, rfl, rfl, rfl, rfl, by rw [puts_snoc (by omega), List.length_append]; rfl, rfl, trivial⟩, trivial, rfl⟩
        · (try simp only [decide_eq_true_eq, decide_eq_false_iff_not, Bool.or_eq_true, Bool.and_eq_true, Bool.or_eq_false_iff, Bool.and_eq_false_iff, bne_iff_ne, beq_iff_eq, beq_eq_false_iff_ne, bne_eq_false_iff_eq, ne_eq, Bool.not_eq_true', Bool.not_eq_false', Int.not_lt, Int.not_le, Decidable.not_not, List.length_map, List.length_cons, List.length_nil] at hq2)
          refine WpG.exit ?_
          change WpG _ _ _ _ _
          refine WpG.seq ?_
          obtain rfl : k = i := by omega
          refine WpG.reg ?_
          refine G.mv rfl ?_
          refine G.mv rfl ?_
          refine G.bin rfl rfl rfl ?_
          rw [show (((puts (ns.take k)).length : Int) == ((puts (ns.take k)).length : Int)) = true by simp]
          refine G.mv rfl ?_
          refine G.yes rfl ?_
          refine G.call0 rfl rfl (known2_ok) ?_
          rintro _ _ ⟨rfl, rfl⟩
          refine ⟨rfl, ?_⟩
          change WpOpsG _ _ ((84, _) :: _) _ _
          first | refine G.pickT rfl rfl ?_ | refine G.pickF rfl rfl ?_ | refine G.pick rfl rfl rfl ?_
          refine G.mv rfl ?_
          refine WpOpsG.nil ?_
          change WpG _ _ _ _ _
          refine WpG.ret ?_
          refine ⟨_, [], rfl, (hasP_le (by repeat (first | exact trivial | refine ⟨rfl, ?_⟩))), rfl, rfl, rfl, ?_⟩
          exact ⟨rfl, rfl⟩
      · exact Nat.zero_le _
  · exact Nat.zero_le _
theorem codeTexts_ok (ls : List (List UInt8)) (more : List UInt8) (hns : ls.length ≤ 2 ^ 50) (hs : ∀ s ∈ ls, s.length ≤ 2 ^ 50) (hb : more.length + 4096 ≤ 2 ^ 47) : WpCallG A 6 [.fsl 1 (ls.map encT), .fsl 1 (more.map encB)] [] (fun v H => v = .v (.bool true) ∧ H = []) := by
  obtain ⟨k, hk⟩ : ∃ k, k = min ls.length 10 := ⟨_, rfl⟩
  have hwl : ((ls.take k).map cut60).length = k := by rw [List.length_map, List.length_take]; omega
  have hpk := texts_le ((ls.take k).map cut60) cuts_mem
  rw [hwl] at hpk
  have hlt : (ls.take k).length = k := by rw [List.length_take]; omega
  refine WpCallG.intro g6 rfl rfl ?_
  unfold af6
  change WpG _ _ _ _ _
  refine WpG.seq ?_
  refine WpG.reg ?_
  refine G.mv rfl ?_
  refine WpOpsG.nil ?_
  change WpG _ _ _ _ _
  refine WpG.seq ?_
  refine WpG.reg ?_
  refine G.mv rfl ?_
  refine WpOpsG.nil ?_
  change WpG _ _ _ _ _
  refine WpG.seq ?_
  refine WpG.reg ?_
  refine G.mv rfl ?_
  first | refine G.lenM rfl ?_ | refine G.lenOM rfl rfl ?_ | refine G.lenF rfl ?_ | refine G.lenO rfl rfl ?_ | refine G.lenNil rfl ?_
  refine G.mn rfl rfl ?_
  rw [show min (ls.length : Int) 10 = (k : Int) by omega]
  refine G.mv rfl ?_
  refine WpOpsG.nil ?_
  change WpG _ _ _ _ _
  refine WpG.seq ?_
  refine WpG.reg ?_
  refine G.mv rfl ?_
  refine WpOpsG.nil ?_
  change WpG _ _ _ _ _
  refine WpG.seq ?_
  refine WpG.seq ?_
  refine WpG.reg ?_
  refine G.mv rfl ?_
  refine WpOpsG.nil ?_
  change WpG _ _ _ _ _
  refine WpG.block ?_
  refine WpG.ownNil (g := 31) (k := 7) (w := 1) rfl rfl ?_
  refine WpG.ownNil (g := 30) (k := 5) (w := 1) rfl rfl ?_
  refine WpG.loop (S := Nat) (fun i => [(0, .fsl 1 (ls.map encT)), (1, .fsl 1 (more.map encB)), (5, .osl 30), (6, .v (.int .i64 k)), (7, .osl 31), (8, .v (.int .i64 i))]) (fun i => [(30, .arr .yes 1 ((texts ((ls.take i).map cut60)).map encB)), (31, .arr .yes 1 (((ls.take i).map cut60).map encT))]) (fun i => i ≤ k) (fun i => k - i) (fun s => ⟨rfl, rfl⟩) ?_ 0 ?_ (by repeat (first | exact trivial | refine ⟨rfl, ?_⟩)) (by repeat (first | exact trivial | refine ⟨rfl, ?_⟩)) rfl
  · intro i hI
    have hpl := texts_le ((ls.take i).map cut60) cuts_mem
    rw [List.length_map, List.length_take] at hpl
    refine WpG.seq ?_
    refine WpG.seq ?_
    refine WpG.reg ?_
    refine G.mv rfl ?_
    refine G.mv rfl ?_
    refine G.bin rfl rfl rfl ?_
    refine WpOpsG.nil ?_
    change WpG _ _ _ _ _
    refine WpG.cond rfl (fun hq1 => ?_) (fun hq1 => ?_)
    · (try simp only [decide_eq_true_eq, decide_eq_false_iff_not, Bool.or_eq_true, Bool.and_eq_true, Bool.or_eq_false_iff, Bool.and_eq_false_iff, bne_iff_ne, beq_iff_eq, beq_eq_false_iff_ne, bne_eq_false_iff_eq, ne_eq, Bool.not_eq_true', Bool.not_eq_false', Int.not_lt, Int.not_le, Decidable.not_not, List.length_map, List.length_cons, List.length_nil] at hq1)
      refine WpG.skip ?_
      change WpG _ _ _ _ _
      refine WpG.seq ?_
      refine WpG.block ?_
      refine WpG.seq ?_
      refine WpG.reg ?_
      refine G.mv rfl ?_
      refine G.mv rfl ?_
      first | refine G.iaddrN rfl rfl (List.getElem?_eq_getElem (by first | (first | omega | (simp only [List.length_append]; omega)) | (simp only [List.length_map, List.length_append, List.length_cons, List.length_nil, List.length_replicate, List.length_take, List.length_drop, List.length_set]; omega))) ?_ | refine G.iaddrM rfl rfl (by (first | omega | (simp only [List.length_append]; omega))) (List.getElem?_eq_getElem (by first | (first | omega | (simp only [List.length_append]; omega)) | (simp only [List.length_map, List.length_append, List.length_cons, List.length_nil, List.length_replicate, List.length_take, List.length_drop, List.length_set]; omega))) ?_ | refine G.iaddrF rfl rfl (by (first | omega | (simp only [List.length_append]; omega))) rfl ?_ | refine G.iaddrO rfl rfl rfl (by (first | omega | (simp only [List.length_append]; omega))) (by first | (first | omega | (simp only [List.length_append]; omega)) | (simp only [List.length_map, List.length_append, List.length_cons, List.length_nil, List.length_replicate, List.length_take, List.length_drop, List.length_set]; omega)) ?_ | refine G.iaddrF rfl rfl (by (first | omega | (simp only [List.length_append]; omega))) (List.getElem?_eq_getElem (by first | (first | omega | (simp only [List.length_append]; omega)) | (simp only [List.length_map, List.length_append, List.length_cons, List.length_nil, List.length_replicate, List.length_take, List.length_drop, List.length_set]; omega))) ?_
      first | refine G.load1B rfl rfl rfl ?_ | refine G.load1F rfl rfl ?_ | refine G.load1E rfl rfl (List.getElem?_eq_getElem (by first | (first | omega | (simp only [List.length_append]; omega)) | (simp only [List.length_map, List.length_append, List.length_cons, List.length_nil, List.length_replicate, List.length_take, List.length_drop, List.length_set]; omega))) rfl ?_ | refine G.load1EM rfl rfl (List.getElem?_eq_getElem (by first | (first | omega | (simp only [List.length_append]; omega)) | (simp only [List.length_map, List.length_append, List.length_cons, List.length_nil, List.length_replicate, List.length_take, List.length_drop, List.length_set]; omega))) rfl ?_
      refine G.mv rfl ?_
      refine WpOpsG.nil ?_
      change WpG _ _ _ _ _
      refine WpG.seqJ ([(0, .fsl 1 (ls.map encT)), (1, .fsl 1 (more.map encB)), (5, .osl 30), (6, .v (.int .i64 k)), (7, .osl 31), (8, .v (.int .i64 i)), (9, .v (.string ⟨(cut60 ls[i]).toArray⟩))]) ([(30, .arr .yes 1 ((texts ((ls.take i).map cut60)).map encB)), (31, .arr .yes 1 (((ls.take i).map cut60).map encT))]) ⟨rfl, rfl⟩ ?_ ?_
      · change WpG _ _ _ _ _
        refine WpG.seq ?_
        refine WpG.reg ?_
        refine G.mv rfl ?_
        refine G.lenStr rfl ?_
        rw [show (((⟨ls[i].toArray⟩ : ByteArray).size : Nat) : Int) = ((ls[i].length : Nat) : Int) from rfl]
        refine G.bin rfl rfl rfl ?_
        refine WpOpsG.nil ?_
        change WpG _ _ _ _ _
        refine WpG.cond rfl (fun hq2 => ?_) (fun hq2 => ?_)
        · (try simp only [decide_eq_true_eq, decide_eq_false_iff_not, Bool.or_eq_true, Bool.and_eq_true, Bool.or_eq_false_iff, Bool.and_eq_false_iff, bne_iff_ne, beq_iff_eq, beq_eq_false_iff_ne, bne_eq_false_iff_eq, ne_eq, Bool.not_eq_true', Bool.not_eq_false', Int.not_lt, Int.not_le, Decidable.not_not, List.length_map, List.length_cons, List.length_nil] at hq2)
          refine WpG.reg ?_
          refine G.mv rfl ?_
          refine G.sstr rfl (bndG_some rfl ⟨by decide, by show (60 : Int) ≤ (ls[i].length : Int); omega⟩) rfl ?_
          rw [show (⟨ls[i].toArray⟩ : ByteArray).extract 0 ((60 : Int).toNat) = ⟨(ls[i].take 60).toArray⟩ from extract_take ls[i] 60]
          refine G.mv rfl ?_
          refine WpOpsG.nil ?_
          first
            | (have e : cut60 ls[i] = ls[i].take 60 := by unfold cut60; rw [if_pos (by omega)]
               rw [e]; exact ⟨⟨rfl, rfl, rfl, rfl, rfl, rfl, rfl, trivial⟩, ⟨rfl, rfl, trivial⟩, rfl⟩)
            | (have e : cut60 ls[i] = ls[i] := by unfold cut60; rw [if_neg (by omega)]
               rw [e]; exact ⟨⟨rfl, rfl, rfl, rfl, rfl, rfl, rfl, trivial⟩, ⟨rfl, rfl, trivial⟩, rfl⟩)
        · (try simp only [decide_eq_true_eq, decide_eq_false_iff_not, Bool.or_eq_true, Bool.and_eq_true, Bool.or_eq_false_iff, Bool.and_eq_false_iff, bne_iff_ne, beq_iff_eq, beq_eq_false_iff_ne, bne_eq_false_iff_eq, ne_eq, Bool.not_eq_true', Bool.not_eq_false', Int.not_lt, Int.not_le, Decidable.not_not, List.length_map, List.length_cons, List.length_nil] at hq2)
          refine WpG.skip ?_
          first
            | (have e : cut60 ls[i] = ls[i].take 60 := by unfold cut60; rw [if_pos (by omega)]
               rw [e]; exact ⟨⟨rfl, rfl, rfl, rfl, rfl, rfl, rfl, trivial⟩, ⟨rfl, rfl, trivial⟩, rfl⟩)
            | (have e : cut60 ls[i] = ls[i] := by unfold cut60; rw [if_neg (by omega)]
               rw [e]; exact ⟨⟨rfl, rfl, rfl, rfl, rfl, rfl, rfl, trivial⟩, ⟨rfl, rfl, trivial⟩, rfl⟩)
      change WpG _ _ _ _ _
      refine WpG.seq ?_
      refine WpG.reg ?_
      refine G.mv rfl ?_
      refine G.mv rfl ?_
      refine G.bsliceF rfl rfl rfl ?_
      refine G.app (ds := [cut60 ls[i]].map encT) rfl rfl rfl rfl trivial (by simp only [List.length_map, List.length_take, List.length_cons, List.length_nil]; omega) ?_
      refine G.mv rfl ?_
      refine WpOpsG.nil ?_
      change WpG _ _ _ _ _
      refine WpG.freeze 30 rfl ?_
      refine WpG.reg ?_
      refine G.mv rfl ?_
      refine G.mv rfl ?_
      refine G.call0 rfl rfl ((text_ok (texts ((ls.take i).map cut60)) (cut60 ls[i]) (by have := cut60_le ls[i]; omega)).ren [(0, 30)]) ?_
      rintro _ _ ⟨_, _, ⟨rfl, rfl⟩, rfl, rfl⟩
      change newOk _ _ [(30, _)] = true ∧ _
      refine ⟨rfl, ?_⟩
      change WpOpsG _ _ ((40, .osl 30) :: _) ([(30, .arr .yes 1 ((texts ((ls.take i).map cut60) ++ putB ((cut60 ls[i]).length : Int) ++ cut60 ls[i]).map encB))] ++ _) _
      refine G.mv rfl ?_
      refine WpOpsG.nil ?_
      change WpG _ _ _ _ _
      refine WpG.reg ?_
      refine G.mv rfl ?_
      first | refine G.addI rfl rfl (by (first | omega | (simp only [List.length_append]; omega))) ?_ | refine G.bin rfl rfl rfl ?_
      refine G.mv rfl ?_
      refine WpOpsG.nil ?_
      refine ⟨i + 1, by omega, by omega, ⟨rfl, rfl, rfl, rfl, rfl, rfl, trivial⟩, ⟨?_, ?_, trivial⟩, rfl⟩
      · rw [cuts_take (k := k) (by omega) (by omega), texts_app]; rfl
      · rw [cuts_take (k := k) (by omega) (by omega), List.map_append (f := encT)]; rfl
    · (try simp only [decide_eq_true_eq, decide_eq_false_iff_not, Bool.or_eq_true, Bool.and_eq_true, Bool.or_eq_false_iff, Bool.and_eq_false_iff, bne_iff_ne, beq_iff_eq, beq_eq_false_iff_ne, bne_eq_false_iff_eq, ne_eq, Bool.not_eq_true', Bool.not_eq_false', Int.not_lt, Int.not_le, Decidable.not_not, List.length_map, List.length_cons, List.length_nil] at hq1)
      refine WpG.exit ?_
      change WpG _ _ _ _ _
      refine WpG.seq ?_
      obtain rfl : k = i := by omega
      refine WpG.freeze 31 rfl ?_
      refine WpG.reg ?_
      refine G.mv rfl ?_
      refine G.mv rfl ?_
      refine G.app (ds := more.map encB) rfl rfl rfl rfl trivial (by simp only [List.length_map]; omega) ?_
      rw [← List.map_append]
      refine WpOpsG.freeze 30 rfl ?_
      change WpOpsG _ _ ((43, .fsl 1 ((texts ((ls.take k).map cut60) ++ more).map encB)) :: _) _ _
      refine G.mv rfl ?_
      refine WpOpsG.nil ?_
      change WpG _ _ _ _ _
      refine WpG.seq ?_
      refine WpG.reg ?_
      refine G.mv rfl ?_
      refine WpOpsG.nil ?_
      change WpG _ _ _ _ _
      refine WpG.seq ?_
      refine WpG.seq ?_
      refine WpG.reg ?_
      refine G.mv rfl ?_
      first | refine G.lenM rfl ?_ | refine G.lenOM rfl rfl ?_ | refine G.lenF rfl ?_ | refine G.lenO rfl rfl ?_ | refine G.lenNil rfl ?_
      refine G.mv rfl ?_
      refine WpOpsG.nil ?_
      change WpG _ _ _ _ _
      refine WpG.block ?_
      refine WpG.loop (S := Nat) (fun i => [(1, .fsl 1 (more.map encB)), (5, .fsl 1 ((texts ((ls.take k).map cut60) ++ more).map encB)), (10, .v (.int .i64 ((texts (((ls.take k).map cut60).take i)).length : Nat))), (44, .fsl 1 (((ls.take k).map cut60).map encT)), (45, .v (.int .i64 (((ls.take k).map cut60).length))), (46, .v (.int .i64 i))]) (fun _ => []) (fun i => i ≤ ((ls.take k).map cut60).length) (fun i => ((ls.take k).map cut60).length - i) (fun s => ⟨rfl, rfl⟩) ?_ 0 ?_ (by repeat (first | exact trivial | refine ⟨rfl, ?_⟩)) (by repeat (first | exact trivial | refine ⟨rfl, ?_⟩)) rfl
      · rintro i hI
        refine WpG.seq ?_
        refine WpG.reg ?_
        refine G.bin rfl rfl rfl ?_
        refine WpOpsG.nil ?_
        change WpG _ _ _ _ _
        refine WpG.seq ?_
        refine WpG.cond rfl (fun hq3 => ?_) (fun hq3 => ?_)
        · (try simp only [decide_eq_true_eq, decide_eq_false_iff_not, Bool.or_eq_true, Bool.and_eq_true, Bool.or_eq_false_iff, Bool.and_eq_false_iff, bne_iff_ne, beq_iff_eq, beq_eq_false_iff_ne, bne_eq_false_iff_eq, ne_eq, Bool.not_eq_true', Bool.not_eq_false', Int.not_lt, Int.not_le, Decidable.not_not, List.length_map, List.length_cons, List.length_nil] at hq3)
          refine WpG.skip ?_
          change WpG _ _ _ _ _
          refine WpG.seq ?_
          refine WpG.block ?_
          refine WpG.seq ?_
          have hiw : i < ((ls.take k).map cut60).length := by omega
          have hs60 : ((ls.take k).map cut60)[i].length ≤ 60 := cuts_mem _ (List.getElem_mem hiw)
          have hpb := putB_le (((ls.take k).map cut60)[i].length : Int)
          have hd := texts_drop hiw more
          have hdl := congrArg List.length hd
          have hdl2 := List.length_append (as := putB (((ls.take k).map cut60)[i].length : Int)) (bs := ((ls.take k).map cut60)[i] ++ (texts (((ls.take k).map cut60).drop (i + 1)) ++ more))
          rw [List.length_drop, List.length_append] at hdl
          have htl : (texts (((ls.take k).map cut60).take i)).length ≤ (texts ((ls.take k).map cut60)).length := by
            have := congrArg List.length hd
            have h2 := texts_tl ((ls.take k).map cut60) i
            exact h2
          refine WpG.reg ?_
          first | refine G.iaddrN rfl rfl (List.getElem?_eq_getElem (by first | (first | omega | (simp only [List.length_append]; omega)) | (simp only [List.length_map, List.length_append, List.length_cons, List.length_nil, List.length_replicate, List.length_take, List.length_drop, List.length_set]; omega))) ?_ | refine G.iaddrM rfl rfl (by (first | omega | (simp only [List.length_append]; omega))) (List.getElem?_eq_getElem (by first | (first | omega | (simp only [List.length_append]; omega)) | (simp only [List.length_map, List.length_append, List.length_cons, List.length_nil, List.length_replicate, List.length_take, List.length_drop, List.length_set]; omega))) ?_ | refine G.iaddrF rfl rfl (by (first | omega | (simp only [List.length_append]; omega))) rfl ?_ | refine G.iaddrO rfl rfl rfl (by (first | omega | (simp only [List.length_append]; omega))) (by first | (first | omega | (simp only [List.length_append]; omega)) | (simp only [List.length_map, List.length_append, List.length_cons, List.length_nil, List.length_replicate, List.length_take, List.length_drop, List.length_set]; omega)) ?_ | refine G.iaddrF rfl rfl (by (first | omega | (simp only [List.length_append]; omega))) (List.getElem?_eq_getElem (by first | (first | omega | (simp only [List.length_append]; omega)) | (simp only [List.length_map, List.length_append, List.length_cons, List.length_nil, List.length_replicate, List.length_take, List.length_drop, List.length_set]; omega))) ?_
          first | refine G.load1B rfl rfl rfl ?_ | refine G.load1F rfl rfl ?_ | refine G.load1E rfl rfl (List.getElem?_eq_getElem (by first | (first | omega | (simp only [List.length_append]; omega)) | (simp only [List.length_map, List.length_append, List.length_cons, List.length_nil, List.length_replicate, List.length_take, List.length_drop, List.length_set]; omega))) rfl ?_ | refine G.load1EM rfl rfl (List.getElem?_eq_getElem (by first | (first | omega | (simp only [List.length_append]; omega)) | (simp only [List.length_map, List.length_append, List.length_cons, List.length_nil, List.length_replicate, List.length_take, List.length_drop, List.length_set]; omega))) rfl ?_
          refine G.mv rfl ?_
          refine WpOpsG.nil ?_
          change WpG _ _ _ _ _
          refine WpG.seq ?_
          refine WpG.reg ?_
          refine G.mv rfl ?_
          refine G.mv rfl ?_
          refine G.slDrop (n := (texts (((ls.take k).map cut60).take i)).length) rfl rfl (by first | (first | omega | (simp only [List.length_append]; omega)) | (simp only [List.length_map, List.length_append, List.length_cons, List.length_nil, List.length_replicate, List.length_take, List.length_drop, List.length_set]; omega)) ?_
          rw [hd]
          refine G.call0 rfl rfl (cut_ok (putB (((ls.take k).map cut60)[i].length : Int) ++ (((ls.take k).map cut60)[i] ++ (texts (((ls.take k).map cut60).drop (i + 1)) ++ more))) 60 (by omega) (by unfold i64; decide)) ?_
          rintro _ _ ⟨rfl, rfl⟩
          refine ⟨rfl, ?_⟩
          change WpOpsG _ _ ((54, _) :: _) _ _
          rw [cut_put ((ls.take k).map cut60)[i] _ (by omega) (by omega)]
          change WpOpsG _ _ ((54, .tup [.v (.string ⟨((ls.take k).map cut60)[i].toArray⟩), .v (.int .i64 (((putB (((ls.take k).map cut60)[i].length : Int)).length + ((ls.take k).map cut60)[i].length : Nat) : Int))]) :: _) _ _
          refine G.mv rfl ?_
          refine G.ext rfl rfl ?_
          refine G.ext rfl rfl ?_
          refine G.mv rfl ?_
          refine G.mv rfl ?_
          refine WpOpsG.nil ?_
          change WpG _ _ _ _ _
          refine WpG.seq ?_
          refine WpG.reg ?_
          refine G.mv rfl ?_
          refine G.mv rfl ?_
          refine G.slDrop (n := (texts (((ls.take k).map cut60).take i)).length) rfl rfl (by first | (first | omega | (simp only [List.length_append]; omega)) | (simp only [List.length_map, List.length_append, List.length_cons, List.length_nil, List.length_replicate, List.length_take, List.length_drop, List.length_set]; omega)) ?_
          rw [hd]
          refine G.mv rfl ?_
          refine G.lenStr rfl ?_
          rw [show (((⟨((ls.take k).map cut60)[i].toArray⟩ : ByteArray).size : Nat) : Int) = ((((ls.take k).map cut60)[i].length : Nat) : Int) from rfl]
          first | refine G.subI rfl rfl (by (first | omega | (simp only [List.length_append]; omega))) ?_ | refine G.bin rfl rfl rfl ?_
          refine G.call0 rfl rfl (cut_ok (putB (((ls.take k).map cut60)[i].length : Int) ++ (((ls.take k).map cut60)[i] ++ (texts (((ls.take k).map cut60).drop (i + 1)) ++ more))) ((((ls.take k).map cut60)[i].length : Int) - 1) (by omega) (by unfold i64; omega)) ?_
          rintro _ _ ⟨rfl, rfl⟩
          refine ⟨rfl, ?_⟩
          change WpOpsG _ _ ((64, _) :: _) _ _
          rw [cut_short ((ls.take k).map cut60)[i] _ (by omega) (by omega)]
          refine G.mv rfl ?_
          refine G.ext rfl rfl ?_
          refine G.ext rfl rfl ?_
          refine G.mv rfl ?_
          refine G.mv rfl ?_
          refine WpOpsG.nil ?_
          change WpG _ _ _ _ _
          refine WpG.seq ?_
          refine WpG.seq ?_
          refine WpG.reg ?_
          refine G.mv rfl ?_
          refine G.mv rfl ?_
          refine G.bin rfl rfl rfl ?_
          rw [show (!((⟨((ls.take k).map cut60)[i].toArray⟩ : ByteArray).toList == (⟨((ls.take k).map cut60)[i].toArray⟩ : ByteArray).toList)) = false by simp]
          refine G.mv rfl ?_
          refine G.yes rfl ?_
          refine G.mv rfl ?_
          refine G.yes rfl ?_
          refine G.mv rfl ?_
          refine G.yes rfl ?_
          refine G.lenStr rfl ?_
          rw [show (((⟨((ls.take k).map cut60)[i].toArray⟩ : ByteArray).size : Nat) : Int) = ((((ls.take k).map cut60)[i].length : Nat) : Int) from rfl]
          refine G.yes rfl ?_
          refine G.bin rfl rfl rfl ?_
          rw [show decide ((((putB (((ls.take k).map cut60)[i].length : Int)).length + ((ls.take k).map cut60)[i].length : Nat) : Int) ≤ (((ls.take k).map cut60)[i].length : Int)) = false from decide_eq_false (by omega)]
          first | refine G.pickT rfl rfl ?_ | refine G.pickF rfl rfl ?_ | refine G.pick rfl rfl rfl ?_
          refine G.mv rfl ?_
          refine G.yes rfl ?_
          refine G.mv rfl ?_
          refine G.yes rfl ?_
          refine G.bin rfl rfl rfl ?_
          first | refine G.pickT rfl rfl ?_ | refine G.pickF rfl rfl ?_ | refine G.pick rfl rfl rfl ?_
          refine WpOpsG.nil ?_
          change WpG _ _ _ _ _
          refine WpG.cond rfl (fun hq4 => absurd hq4 (by first | decide | simp)) (fun hq4 => ?_)
          refine WpG.skip ?_
          change WpG _ _ _ _ _
          refine WpG.reg ?_
          refine G.mv rfl ?_
          refine G.mv rfl ?_
          first | refine G.addI rfl rfl (by (first | omega | (simp only [List.length_append]; omega))) ?_ | refine G.bin rfl rfl rfl ?_
          refine G.mv rfl ?_
          refine WpOpsG.nil ?_
          change WpG _ _ _ _ _
          refine WpG.reg ?_
          first | refine G.addI rfl rfl (by (first | omega | (simp only [List.length_append]; omega))) ?_ | refine G.bin rfl rfl rfl ?_
          refine G.mv rfl ?_
          refine WpOpsG.nil ?_
          refine ⟨i + 1, by omega, by omega, ⟨rfl, rfl, ?_, rfl, rfl, rfl, trivial⟩, (by repeat (first | exact trivial | refine ⟨rfl, ?_⟩)), rfl⟩
          · rw [texts_snoc (by omega), List.length_append, List.length_append, Nat.add_assoc]; rfl
        · (try simp only [decide_eq_true_eq, decide_eq_false_iff_not, Bool.or_eq_true, Bool.and_eq_true, Bool.or_eq_false_iff, Bool.and_eq_false_iff, bne_iff_ne, beq_iff_eq, beq_eq_false_iff_ne, bne_eq_false_iff_eq, ne_eq, Bool.not_eq_true', Bool.not_eq_false', Int.not_lt, Int.not_le, Decidable.not_not, List.length_map, List.length_cons, List.length_nil] at hq3)
          refine WpG.exit ?_
          change WpG _ _ _ _ _
          refine WpG.seq ?_
          rw [show ((ls.take k).map cut60).take i = ((ls.take k).map cut60) from take_all (by omega)]
          refine WpG.reg ?_
          refine G.mv rfl ?_
          refine G.mv rfl ?_
          first | refine G.lenM rfl ?_ | refine G.lenOM rfl rfl ?_ | refine G.lenF rfl ?_ | refine G.lenO rfl rfl ?_ | refine G.lenNil rfl ?_
          refine G.mv rfl ?_
          first | refine G.lenM rfl ?_ | refine G.lenOM rfl rfl ?_ | refine G.lenF rfl ?_ | refine G.lenO rfl rfl ?_ | refine G.lenNil rfl ?_
          first | refine G.subI rfl rfl (by (first | omega | (simp only [List.length_append]; omega))) ?_ | refine G.bin rfl rfl rfl ?_
          rw [show (((texts ((ls.take k).map cut60) ++ more).length : Nat) : Int) - (more.length : Int) = ((texts ((ls.take k).map cut60)).length : Int) by rw [List.length_append]; omega]
          refine G.bin rfl rfl rfl ?_
          rw [show (((texts ((ls.take k).map cut60)).length : Int) == ((texts ((ls.take k).map cut60)).length : Int)) = true by simp]
          refine G.mv rfl ?_
          refine G.yes rfl ?_
          refine G.call0 rfl rfl (known2_ok) ?_
          rintro _ _ ⟨rfl, rfl⟩
          refine ⟨rfl, ?_⟩
          change WpOpsG _ _ ((92, _) :: _) _ _
          first | refine G.pickT rfl rfl ?_ | refine G.pickF rfl rfl ?_ | refine G.pick rfl rfl rfl ?_
          refine G.mv rfl ?_
          refine WpOpsG.nil ?_
          change WpG _ _ _ _ _
          refine WpG.ret ?_
          refine ⟨_, [], rfl, (hasP_le (by repeat (first | exact trivial | refine ⟨rfl, ?_⟩))), rfl, rfl, rfl, ?_⟩
          exact ⟨rfl, rfl⟩
      · exact Nat.zero_le _
  · exact Nat.zero_le _
end Go.AM.L2
