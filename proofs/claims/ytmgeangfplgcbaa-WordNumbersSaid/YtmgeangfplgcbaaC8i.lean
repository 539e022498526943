/- Contracts of the functions that the statement reaches. No condition. -/
import Derived.Test.YtmgeangfplgcbaaC8h
set_option linter.all false
set_option maxRecDepth 10000
namespace Go.AM.L8
open Go.AM.PL
theorem wordTells_ok (t u ats : List Int) (bits a b : Int) (ht : t.length ≤ 2 ^ 50) (hi : ∀ x ∈ t, i64 x) (htu : u.length ≤ 2 ^ 50) (hiu : ∀ x ∈ u, i64 x) (hats : ats.length ≤ 2 ^ 50) (hai : ∀ x ∈ ats, i64 x) (h1 : i64 a) (h2 : i64 b) : WpCallG A 4 [.fsl 1 (t.map encK), .fsl 1 (u.map encK), .fsl 1 (ats.map encK), .v (.int .i64 bits), .v (.int .i64 a), .v (.int .i64 b)] [] (fun v H => v = .v (.bool true) ∧ H = []) := by
  refine WpCallG.intro g4 rfl rfl ?_
  unfold af4
  change WpG _ _ _ _ _
  refine WpG.seq ?_
  refine WpG.reg ?_
  refine G.mv rfl ?_
  refine WpOpsG.nil ?_
  change WpG _ _ _ _ _
  refine WpG.seq ?_
  refine WpG.reg ?_
  refine G.mv rfl ?_
  refine G.build rfl ?_
  refine G.box (g := 11) rfl rfl rfl ?_
  change WpOpsG _ _ _ ((11, tbox t 0) :: _) _
  refine G.call (P := [(11, tbox t 0)]) rfl (by repeat (first | exact trivial | refine ⟨rfl, ?_⟩)) rfl rfl ((truns_ok t 0 5 20 ht hi (by omega) (by decide) (by decide)).ren [(0, 11)]) ?_
  rintro _ _ ⟨_, _, ⟨rfl, rfl⟩, rfl, rfl⟩
  change newOk _ _ [(11, tbox t _)] = true ∧ _
  refine ⟨rfl, ?_⟩
  change WpOpsG _ _ ((20, .fsl 2 ((tapeRuns t 0 5 20).1.map encN)) :: _) ([(11, tbox t _)] ++ _) _
  have hl := tapeRuns_ok t 0 5 20 (by decide) (by decide) (by omega)
  obtain ⟨l, el⟩ : ∃ rs, rs = (tapeRuns t 0 5 20).1 := ⟨_, rfl⟩
  rw [← el] at hl ⊢
  have lN := okT_N5 hl.1
  have ll : l.length ≤ 20 := by have := hl.2.2.1; omega
  refine G.mv rfl ?_
  refine WpOpsG.nil ?_
  change WpG _ _ _ _ _
  refine WpG.seq ?_
  refine WpG.reg ?_
  refine G.mv rfl ?_
  refine G.build rfl ?_
  refine G.box (g := 12) rfl rfl rfl ?_
  change WpOpsG _ _ _ ((12, tbox u 0) :: _) _
  refine G.call (P := [(12, tbox u 0)]) rfl (by repeat (first | exact trivial | refine ⟨rfl, ?_⟩)) rfl rfl ((truns_ok u 0 5 20 htu hiu (by omega) (by decide) (by decide)).ren [(0, 12)]) ?_
  rintro _ _ ⟨_, _, ⟨rfl, rfl⟩, rfl, rfl⟩
  change newOk _ _ [(12, tbox u _)] = true ∧ _
  refine ⟨rfl, ?_⟩
  change WpOpsG _ _ ((24, .fsl 2 ((tapeRuns u 0 5 20).1.map encN)) :: _) ([(12, tbox u _)] ++ _) _
  have hmm := tapeRuns_ok u 0 5 20 (by decide) (by decide) (by omega)
  obtain ⟨mm, emm⟩ : ∃ rs, rs = (tapeRuns u 0 5 20).1 := ⟨_, rfl⟩
  rw [← emm] at hmm ⊢
  have mmN := okT_N5 hmm.1
  have mml : mm.length ≤ 20 := by have := hmm.2.2.1; omega
  refine G.mv rfl ?_
  refine WpOpsG.nil ?_
  change WpG _ _ _ _ _
  refine WpG.seq ?_
  refine WpG.reg ?_
  refine G.mv rfl ?_
  refine G.call0 rfl rfl (within_ok a 0 6 h1 (by decide) (by decide) (by decide)) ?_
  rintro _ _ ⟨rfl, rfl⟩
  refine ⟨rfl, ?_⟩
  change WpOpsG _ _ ((26, _) :: _) _ _
  obtain ⟨n, hn, hn6⟩ := within_nat1 a 6
  rw [show within a 0 6 = (n : Int) from hn]
  refine G.mv rfl ?_
  refine G.call0 rfl rfl (dependence_ok n bits (by omega)) ?_
  rintro _ _ ⟨rfl, rfl⟩
  refine ⟨rfl, ?_⟩
  change WpOpsG _ _ ((28, _) :: _) _ _
  refine G.mv rfl ?_
  refine WpOpsG.nil ?_
  change WpG _ _ _ _ _
  refine WpG.seq ?_
  refine WpG.reg ?_
  refine G.mv rfl ?_
  refine G.mv rfl ?_
  refine G.call0 rfl rfl ((turned_w l ats (by omega) hats hai).ren [(0, 20)]) ?_
  rintro _ _ ⟨_, _, ⟨rfl, rfl⟩, rfl, rfl⟩
  change newOk _ _ [(20, _)] = true ∧ _
  refine ⟨rfl, ?_⟩
  change WpOpsG _ _ ((31, .osl 20) :: _) ([(20, .arr .yes 2 ((turnedV l ats).map encN))] ++ _) _
  obtain ⟨x, hx⟩ : ∃ x, turnedV l ats = x := ⟨_, rfl⟩
  have xN : ∀ r ∈ x, okN r := by rw [← hx]; exact turned_ok lN
  have xl : x.length ≤ 2 ^ 30 := by rw [← hx, turned_len]; omega
  rw [hx]
  refine WpOpsG.freeze 20 rfl ?_
  refine G.mv rfl ?_
  refine WpOpsG.nil ?_
  change WpG _ _ _ _ _
  refine WpG.seq ?_
  refine WpG.reg ?_
  refine G.mv rfl ?_
  refine G.mv rfl ?_
  refine G.mv rfl ?_
  refine G.mv rfl ?_
  refine G.mv rfl ?_
  refine G.call0 rfl rfl (same8_ok l x (depM n bits) (by omega) lN (by omega) xN (by rw [depM_len]; omega) (fun r hr => by rw [depM_rows r hr, depM_len]) a b) ?_
  rintro _ _ ⟨rfl, rfl⟩
  refine ⟨rfl, ?_⟩
  change WpOpsG _ _ ((37, _) :: _) _ _
  refine G.mv rfl ?_
  refine WpOpsG.known 38 true rfl rfl ?_
  refine G.mv rfl ?_
  refine G.mv rfl ?_
  refine G.mv rfl ?_
  refine G.mv rfl ?_
  refine G.andK rfl rfl ?_
  obtain ⟨p, ep, hp⟩ := and_rng1 a 7 (by decide)
  rw [show andI .i64 a 7 = (p : Int) from ep]
  first | refine G.subI rfl rfl (by omega) ?_ | refine G.bin rfl rfl rfl ?_
  refine G.mv rfl ?_
  refine G.andK rfl rfl ?_
  obtain ⟨q, eq, hq⟩ := and_rng1 b 7 (by decide)
  rw [show andI .i64 b 7 = (q : Int) from eq]
  first | refine G.subI rfl rfl (by omega) ?_ | refine G.bin rfl rfl rfl ?_
  refine G.call0 rfl rfl (same8_ok l x (depM n bits) (by omega) lN (by omega) xN (by rw [depM_len]; omega) (fun r hr => by rw [depM_rows r hr, depM_len]) ((p : Int) - 1) ((q : Int) - 1)) ?_
  rintro _ _ ⟨rfl, rfl⟩
  refine ⟨rfl, ?_⟩
  change WpOpsG _ _ ((48, _) :: _) _ _
  first | refine G.pickT rfl rfl ?_ | refine G.pickF rfl rfl ?_ | refine G.pick rfl rfl rfl ?_
  refine G.mv rfl ?_
  refine WpOpsG.known 50 true rfl rfl ?_
  refine G.mv rfl ?_
  refine G.mv rfl ?_
  refine G.mv rfl ?_
  refine G.call0 rfl rfl (same8_ok l mm (depM n bits) (by omega) lN (by omega) mmN (by rw [depM_len]; omega) (fun r hr => by rw [depM_rows r hr, depM_len]) 0 1) ?_
  rintro _ _ ⟨rfl, rfl⟩
  refine ⟨rfl, ?_⟩
  change WpOpsG _ _ ((54, _) :: _) _ _
  first | refine G.pickT rfl rfl ?_ | refine G.pickF rfl rfl ?_ | refine G.pick rfl rfl rfl ?_
  refine G.mv rfl ?_
  refine WpOpsG.known 56 true rfl rfl ?_
  refine G.mv rfl ?_
  refine G.bslice (g := 30) rfl rfl rfl rfl ?_
  refine G.mv rfl ?_
  refine G.app (ds := l.map encN) rfl rfl rfl rfl trivial (by rw [List.length_map]; show (0 + l.length) * 16 ≤ 2 ^ 47; omega) ?_
  refine G.mv rfl ?_
  refine G.app (cs := l.map encN) (ds := mm.map encN) rfl rfl rfl rfl trivial (by rw [List.length_map, List.length_map]; omega) ?_
  rw [← List.map_append]
  refine WpOpsG.freeze 30 rfl ?_
  change WpOpsG _ _ ((62, .fsl 2 ((l ++ mm).map encN)) :: _) _ _
  refine G.mv rfl ?_
  refine G.call0 rfl rfl (same8_ok x (l ++ mm) (depM n bits) (by omega) xN (by rw [List.length_append]; omega) (ok_app lN mmN) (by rw [depM_len]; omega) (fun r hr => by rw [depM_rows r hr, depM_len]) 2 1) ?_
  rintro _ _ ⟨rfl, rfl⟩
  refine ⟨rfl, ?_⟩
  change WpOpsG _ _ ((64, _) :: _) _ _
  first | refine G.pickT rfl rfl ?_ | refine G.pickF rfl rfl ?_ | refine G.pick rfl rfl rfl ?_
  refine G.mv rfl ?_
  refine WpOpsG.known 66 true rfl rfl ?_
  refine G.mv rfl ?_
  refine G.mv rfl ?_
  refine G.call0 rfl rfl ((rtidy_ok x (by omega) xN).ren [(0, 21)]) ?_
  rintro _ _ ⟨_, _, ⟨rfl, rfl⟩, rfl, rfl⟩
  change newOk _ _ [(21, _)] = true ∧ _
  refine ⟨rfl, ?_⟩
  change WpOpsG _ _ ((69, .osl 21) :: _) ([(21, .arr .yes 2 ((tidyV x).map encN))] ++ _) _
  refine WpOpsG.freeze 21 rfl ?_
  refine G.mv rfl ?_
  refine G.call0 rfl rfl (same8_ok l (tidyV x) (depM n bits) (by omega) lN (Nat.le_trans (tidyV_len _) (by omega)) (tidyV_ok xN) (by rw [depM_len]; omega) (fun r hr => by rw [depM_rows r hr, depM_len]) 0 2) ?_
  rintro _ _ ⟨rfl, rfl⟩
  refine ⟨rfl, ?_⟩
  change WpOpsG _ _ ((71, _) :: _) _ _
  first | refine G.pickT rfl rfl ?_ | refine G.pickF rfl rfl ?_ | refine G.pick rfl rfl rfl ?_
  refine G.mv rfl ?_
  refine WpOpsG.known 73 true rfl rfl ?_
  refine G.call0 rfl rfl (known8_ok) ?_
  rintro _ _ ⟨rfl, rfl⟩
  refine ⟨rfl, ?_⟩
  change WpOpsG _ _ ((74, _) :: _) _ _
  first | refine G.pickT rfl rfl ?_ | refine G.pickF rfl rfl ?_ | refine G.pick rfl rfl rfl ?_
  refine G.mv rfl ?_
  refine WpOpsG.nil ?_
  change WpG _ _ _ _ _
  refine WpG.ret ?_
  refine ⟨_, [], rfl, (hasP_le (by repeat (first | exact trivial | refine ⟨rfl, ?_⟩))), rfl, rfl, rfl, ?_⟩
  exact ⟨rfl, rfl⟩
theorem tape_ok (k : Nat) (hk : k ≤ 1000) : WpCallG A 9 [.v (.int .i64 (k : Int))] [] (fun v H => v = .osl 0 ∧ H = [(0, .arr .yes 1 ((tapeL 43 k 400).map encK))]) := by
  refine WpCallG.intro g9 rfl rfl ?_
  unfold af9
  change WpG _ _ _ _ _
  refine WpG.seq ?_
  refine WpG.reg ?_
  refine G.mv rfl ?_
  refine WpOpsG.nil ?_
  change WpG _ _ _ _ _
  refine WpG.seq ?_
  refine WpG.reg ?_
  refine G.mv rfl ?_
  refine WpOpsG.nil ?_
  change WpG _ _ _ _ _
  refine WpG.seq ?_
  refine WpG.seq ?_
  refine WpG.reg ?_
  refine G.mv rfl ?_
  refine WpOpsG.nil ?_
  change WpG _ _ _ _ _
  refine WpG.block ?_
  refine WpG.ownNil (g := 0) (k := 3) (w := 1) rfl rfl ?_
  refine WpG.loop (S := Nat) (fun i => [(0, .v (.int .i64 (k : Int))), (3, .osl 0), (4, .v (.int .i64 (i : Int)))]) (fun i => [(0, .arr .yes 1 ((tapeL 43 k i).map encK))]) (fun i => i ≤ 400) (fun i => 400 - i) (fun s => ⟨rfl, rfl⟩) ?_ 0 ?_ (by repeat (first | exact trivial | refine ⟨rfl, ?_⟩)) (by repeat (first | exact trivial | refine ⟨rfl, ?_⟩)) rfl
  · intro i hI
    refine WpG.seq ?_
    refine WpG.seq ?_
    refine WpG.reg ?_
    refine G.mv rfl ?_
    refine G.bin rfl rfl rfl ?_
    refine WpOpsG.nil ?_
    change WpG _ _ _ _ _
    refine WpG.cond rfl (fun hq1 => ?_) (fun hq1 => ?_)
    · (try simp only [decide_eq_true_eq, decide_eq_false_iff_not, Bool.or_eq_true, Bool.and_eq_true, Bool.or_eq_false_iff, Bool.and_eq_false_iff, bne_iff_ne, beq_iff_eq, beq_eq_false_iff_ne, bne_eq_false_iff_eq, ne_eq, Bool.not_eq_true', Bool.not_eq_false', Int.not_lt, Int.not_le, Decidable.not_not, List.length_map, List.length_cons, List.length_nil] at hq1)
      refine WpG.skip ?_
      change WpG _ _ _ _ _
      refine WpG.seq ?_
      refine WpG.block ?_
      have e1 := mul_le' (a := i) (b := i) (m := 400) (n := 400) (by omega) (by omega)
      have e2 := mul_le' (a := i) (b := k) (m := 400) (n := 1000) (by omega) (by omega)
      refine WpG.reg ?_
      refine G.mv rfl ?_
      refine G.mv rfl ?_
      refine G.mv rfl ?_
      first | refine G.mulI rfl rfl (by omega) ?_ | refine G.bin rfl rfl rfl ?_
      first | refine G.mulI rfl rfl (by omega) ?_ | refine G.bin rfl rfl rfl ?_
      refine G.mv rfl ?_
      first | refine G.mulI rfl rfl (by omega) ?_ | refine G.bin rfl rfl rfl ?_
      first | refine G.addI rfl rfl (by omega) ?_ | refine G.bin rfl rfl rfl ?_
      refine G.mv rfl ?_
      refine G.mv rfl ?_
      first | refine G.mulI rfl rfl (by omega) ?_ | refine G.bin rfl rfl rfl ?_
      first | refine G.addI rfl rfl (by omega) ?_ | refine G.bin rfl rfl rfl ?_
      first | refine G.remN rfl rfl (by omega) (by omega) ?_ | refine G.remP rfl rfl (by omega) ?_
      refine G.bsliceF rfl rfl rfl ?_
      refine G.app rfl rfl rfl rfl trivial (by rw [List.length_map, tapeL_len]; show (i + 1) * 8 ≤ 2 ^ 47; omega) ?_
      refine G.mv rfl ?_
      refine WpOpsG.nil ?_
      change WpG _ _ _ _ _
      refine WpG.reg ?_
      refine G.mv rfl ?_
      first | refine G.addI rfl rfl (by omega) ?_ | refine G.bin rfl rfl rfl ?_
      refine G.mv rfl ?_
      refine WpOpsG.nil ?_
      refine ⟨i + 1, by omega, by omega, ⟨rfl, rfl, rfl, trivial⟩, ⟨?_, trivial⟩, rfl⟩
      rw [tapeL_snoc, List.map_append]; rfl
    · (try simp only [decide_eq_true_eq, decide_eq_false_iff_not, Bool.or_eq_true, Bool.and_eq_true, Bool.or_eq_false_iff, Bool.and_eq_false_iff, bne_iff_ne, beq_iff_eq, beq_eq_false_iff_ne, bne_eq_false_iff_eq, ne_eq, Bool.not_eq_true', Bool.not_eq_false', Int.not_lt, Int.not_le, Decidable.not_not, List.length_map, List.length_cons, List.length_nil] at hq1)
      refine WpG.exit ?_
      change WpG _ _ _ _ _
      refine WpG.seq ?_
      obtain rfl : i = 400 := by omega
      refine WpG.reg ?_
      refine G.mv rfl ?_
      refine G.mv rfl ?_
      refine WpOpsG.nil ?_
      change WpG _ _ _ _ _
      refine WpG.ret ?_
      refine ⟨_, [(0, .arr .yes 1 ((tapeL 43 k 400).map encK))], rfl, (hasP_le (by repeat (first | exact trivial | refine ⟨rfl, ?_⟩))), rfl, rfl, rfl, ?_⟩
      exact ⟨rfl, rfl⟩
  · exact Nat.zero_le _
end Go.AM.L8
