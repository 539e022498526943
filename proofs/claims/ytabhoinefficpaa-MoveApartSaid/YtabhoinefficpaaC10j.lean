/- Contracts of the functions that the statement reaches. No condition. -/
import Derived.Test.YtabhoinefficpaaC10i
set_option linter.all false
set_option maxRecDepth 10000
namespace Go.AM.L10
open Go.AM.PL
theorem within_ok (n lo hi : Int) (hn : -2 ^ 63 ≤ n ∧ n < 2 ^ 63) (hlo : -1099511627776 ≤ lo) (hle : lo ≤ hi) (hhi : hi ≤ 2 ^ 50)  : WpCallG A 17 [.v (.int .i64 n), .v (.int .i64 lo), .v (.int .i64 hi)] [] (fun v H => v = .v (.int .i64 (within n lo hi)) ∧ H = []) := by
  have h1 := Int.tmod_lt_of_pos n (show 0 < hi - lo + 1 by omega)
  have h2 := Int.lt_tmod_of_pos n (show 0 < hi - lo + 1 by omega)
  refine WpCallG.intro g17 rfl rfl ?_
  unfold af17
  change WpG _ _ _ _ _
  refine WpG.seq ?_
  refine WpG.reg ?_
  refine G.mv rfl ?_
  refine WpOpsG.nil ?_
  change WpG _ _ _ _ _
  refine WpG.seq ?_
  refine WpG.seq ?_
  refine WpG.reg ?_
  refine G.mv rfl ?_
  refine G.mv rfl ?_
  refine G.bin rfl rfl rfl ?_
  refine G.mv rfl ?_
  apply G.andS rfl rfl rfl rfl rfl rfl
  case hB =>
    intro hs1
    (try simp only [zN] at hs1)
    refine G.mv rfl ?_
    refine G.mv rfl ?_
    refine G.bin rfl rfl rfl ?_
    refine WpOpsG.nil ?_
    exact ⟨rfl, (by repeat (first | exact LLe.refl _ | refine LLe.cons rfl ?_)), (by repeat (first | exact HLe.refl _ | refine HLe.cons rfl ?_)), rfl⟩
  refine WpOpsG.nil ?_
  change WpG _ _ _ _ _
  refine WpG.cond rfl (fun hq2 => ?_) (fun hq2 => ?_)
  · (try simp only [zN] at hq2)
    refine WpG.seq ?_
    refine WpG.reg ?_
    refine G.mv rfl ?_
    refine G.mv rfl ?_
    refine WpOpsG.nil ?_
    change WpG _ _ _ _ _
    refine WpG.ret ?_
    refine ⟨_, [], rfl, (hasP_le (by repeat (first | exact trivial | refine ⟨rfl, ?_⟩))), rfl, rfl, rfl, ?_⟩
    refine ⟨?_, rfl⟩
    unfold within; rw [if_pos (by omega)]; rfl
  · (try simp only [zN] at hq2)
    refine WpG.skip ?_
    change WpG _ _ _ _ _
    refine WpG.seq ?_
    refine WpG.reg ?_
    refine G.mv rfl ?_
    refine G.mv rfl ?_
    refine G.mv rfl ?_
    refine G.subI rfl rfl (by omega) ?_
    refine G.addI rfl rfl (by omega) ?_
    refine G.remP rfl rfl (by omega) ?_
    refine G.mv rfl ?_
    refine WpOpsG.nil ?_
    change WpG _ _ _ _ _
    refine WpG.seqJ ([(0, .v (.int .i64 (wrem n lo hi))), (1, .v (.int .i64 lo))]) ([]) ⟨rfl, rfl⟩ ?_ ?_
    · change WpG _ _ _ _ _
      refine WpG.seq ?_
      refine WpG.reg ?_
      refine G.mv rfl ?_
      refine G.bin rfl rfl rfl ?_
      refine WpOpsG.nil ?_
      change WpG _ _ _ _ _
      refine WpG.cond rfl (fun hq3 => ?_) (fun hq3 => ?_)
      · (try simp only [zN] at hq3)
        refine WpG.reg ?_
        refine G.mv rfl ?_
        refine G.mv rfl ?_
        refine G.addI rfl rfl (by omega) ?_
        refine G.mv rfl ?_
        refine G.subI rfl rfl (by omega) ?_
        refine G.addI rfl rfl (by omega) ?_
        refine G.mv rfl ?_
        refine WpOpsG.nil ?_
        refine ⟨⟨?_, rfl, trivial⟩, trivial, rfl⟩
        show some (GV.v (.int .i64 _)) = some (GV.v (.int .i64 (wrem n lo hi)))
        unfold wrem
        (rw [if_pos (by omega)]; done)
      · (try simp only [zN] at hq3)
        refine WpG.skip ?_
        refine ⟨⟨?_, rfl, trivial⟩, trivial, rfl⟩
        show some (GV.v (.int .i64 _)) = some (GV.v (.int .i64 (wrem n lo hi)))
        unfold wrem
        (rw [if_neg (by omega)]; done)
    have hw := within_rng n lo hi hle
    have hwr : 0 ≤ wrem n lo hi ∧ wrem n lo hi ≤ hi - lo := by
      unfold wrem; split <;> omega
    change WpG _ _ _ _ _
    refine WpG.seq ?_
    refine WpG.reg ?_
    refine G.mv rfl ?_
    refine G.mv rfl ?_
    refine G.addI rfl rfl (by omega) ?_
    refine G.mv rfl ?_
    refine WpOpsG.nil ?_
    change WpG _ _ _ _ _
    refine WpG.ret ?_
    refine ⟨_, [], rfl, (hasP_le (by repeat (first | exact trivial | refine ⟨rfl, ?_⟩))), rfl, rfl, rfl, ?_⟩
    refine ⟨?_, rfl⟩
    unfold within; rw [if_neg (by omega)]; rfl
theorem next_ok (t : List Int) (a : Nat) (n : Int) (ht : t.length ≤ 2 ^ 50) (hi : ∀ x ∈ t, i64 x) (ha : a ≤ t.length) (hn : n ≤ 2 ^ 50) : WpCallG A 23 [.bptr 0 0, .v (.int .i64 n)] [(0, tbox t a)] (fun v H => v = .v (.int .i64 (nx t a n)) ∧ H = [(0, tbox t (na t a n))]) := by
  refine WpCallG.intro g23 rfl rfl ?_
  unfold af23
  change WpG _ _ _ _ _
  refine WpG.seq ?_
  refine WpG.reg ?_
  refine G.mv rfl ?_
  refine WpOpsG.nil ?_
  change WpG _ _ _ _ _
  refine WpG.seq ?_
  refine WpG.seq ?_
  refine WpG.reg ?_
  refine G.mv rfl ?_
  refine G.nilcB rfl ?_
  refine G.faddrB rfl ?_
  refine G.load1B rfl rfl rfl ?_
  refine G.mv rfl ?_
  refine G.nilcB rfl ?_
  refine G.faddrB rfl ?_
  refine G.load1B rfl rfl rfl ?_
  refine G.lenM rfl ?_
  refine G.bin rfl rfl rfl ?_
  refine G.mv rfl ?_
  apply G.orS rfl rfl rfl rfl rfl rfl
  case hB =>
    intro hs1
    (try simp only [zN] at hs1)
    refine G.mv rfl ?_
    refine G.bin rfl rfl rfl ?_
    refine WpOpsG.nil ?_
    exact ⟨rfl, (by repeat (first | exact LLe.refl _ | refine LLe.cons rfl ?_)), (by repeat (first | exact HLe.refl _ | refine HLe.cons rfl ?_)), rfl⟩
  refine WpOpsG.nil ?_
  change WpG _ _ _ _ _
  refine WpG.cond rfl (fun hq2 => ?_) (fun hq2 => ?_)
  · (try simp only [zN] at hq2)
    refine WpG.seq ?_
    refine WpG.reg ?_
    refine G.mv rfl ?_
    refine WpOpsG.nil ?_
    change WpG _ _ _ _ _
    refine WpG.ret ?_
    refine ⟨_, [(0, tbox t a)], rfl, (hasP_le (by repeat (first | exact trivial | refine ⟨rfl, ?_⟩))), rfl, rfl, rfl, ?_⟩
    have e1 : nx t a n = 0 := by unfold nx; rw [if_neg (by omega)]
    have e2 : na t a n = a := by unfold na; rw [if_neg (by omega)]
    rw [e1, e2]
    exact ⟨rfl, rfl⟩
  · (try simp only [zN] at hq2)
    have hlt : a < t.length := by omega
    have h64 := hi _ (List.getElem_mem hlt)
    have he : t[((a : Int) + 1 - 1).toNat]? = some (t[a]) := by rw [show ((a : Int) + 1 - 1).toNat = a by omega]; exact List.getElem?_eq_getElem hlt
    have hw := within_rng t[a] 0 1073741824 (by decide)
    refine WpG.skip ?_
    change WpG _ _ _ _ _
    refine WpG.seq ?_
    refine WpG.reg ?_
    refine G.mv rfl ?_
    refine G.nilcB rfl ?_
    refine G.faddrB rfl ?_
    refine G.load1B rfl rfl rfl ?_
    refine G.addI rfl rfl (by omega) ?_
    refine G.nilcB rfl ?_
    refine G.faddrB rfl ?_
    refine G.storeB rfl rfl rfl rfl rfl rfl ?_
    refine WpOpsG.nil ?_
    change WpG _ _ _ _ _
    refine WpG.seq ?_
    refine WpG.reg ?_
    refine G.mv rfl ?_
    refine G.nilcB rfl ?_
    refine G.faddrB rfl ?_
    refine G.load1B rfl rfl rfl ?_
    refine G.mv rfl ?_
    refine G.nilcB rfl ?_
    refine G.faddrB rfl ?_
    refine G.load1B rfl rfl rfl ?_
    refine G.subI rfl rfl (by omega) ?_
    refine G.iaddrM rfl rfl (by omega) he ?_
    refine G.load1F rfl rfl ?_
    refine G.call0 rfl rfl (within_ok _ 0 1073741824 h64 (by decide) (by decide) (by decide)) ?_
    rintro _ _ ⟨rfl, rfl⟩
    refine ⟨rfl, ?_⟩
    change WpOpsG _ _ (_ :: _) _ _
    refine G.mv rfl ?_
    refine G.remN rfl rfl (by omega) (by omega) ?_
    refine G.mv rfl ?_
    refine WpOpsG.nil ?_
    change WpG _ _ _ _ _
    refine WpG.ret ?_
    refine ⟨_, [(0, .box [.fsl 1 (t.map encK), .v (.int .i64 ((a : Int) + 1))])], rfl, (hasP_le (by repeat (first | exact trivial | refine ⟨rfl, ?_⟩))), rfl, rfl, rfl, ?_⟩
    have e1 : nx t a n = within t[a] 0 1073741824 % n := by
      unfold nx; rw [if_pos (by omega), List.getD_eq_getElem?_getD, List.getElem?_eq_getElem hlt]; rfl
    have e2 : na t a n = a + 1 := by unfold na; rw [if_pos (by omega)]
    rw [e1, e2]
    exact ⟨rfl, rfl⟩
theorem truns_ok (t : List Int) (a : Nat) (parts most : Int) (ht : t.length ≤ 2 ^ 50) (hi : ∀ x ∈ t, i64 x) (ha : a ≤ t.length) (hp : 0 ≤ parts ∧ parts ≤ 2 ^ 40) (hm : 1 ≤ most ∧ most ≤ 2 ^ 20) : WpCallG A 10 [.bptr 0 0, .v (.int .i64 parts), .v (.int .i64 most)] [(0, tbox t a)] (fun v H => v = .fsl 2 ((tapeRuns t a parts most).1.map encN) ∧ H = [(0, tbox t (tapeRuns t a parts most).2)]) := by
  have h1 := nx_rng t a most
  obtain ⟨kk, hkk⟩ : ∃ kk, kk = (1 + nx t a most).toNat := ⟨_, rfl⟩
  refine WpCallG.intro g10 rfl rfl ?_
  unfold af10
  change WpG _ _ _ _ _
  refine WpG.seq ?_
  refine WpG.reg ?_
  refine G.mv rfl ?_
  refine WpOpsG.nil ?_
  change WpG _ _ _ _ _
  refine WpG.seq ?_
  refine WpG.reg ?_
  refine G.mv rfl ?_
  refine WpOpsG.nil ?_
  change WpG _ _ _ _ _
  refine WpG.seq ?_
  refine WpG.seq ?_
  refine WpG.reg ?_
  refine G.mv rfl ?_
  refine G.mv rfl ?_
  refine G.call (P := [(0, tbox t a)]) rfl (by repeat (first | exact trivial | refine ⟨rfl, ?_⟩)) rfl rfl (next_ok t a most ht hi ha (by omega)) ?_
  rintro _ _ ⟨rfl, rfl⟩
  refine ⟨rfl, ?_⟩
  change WpOpsG _ _ ((11, _) :: _) ((0, tbox t (na t a most)) :: _) _
  refine G.addI rfl rfl (by omega) ?_
  refine G.mv rfl ?_
  refine WpOpsG.nil ?_
  change WpG _ _ _ _ _
  refine WpG.block ?_
  have e8 : 1 + nx t a most = (kk : Int) := by omega
  rw [e8]
  refine WpG.ownNil (g := 30) (k := 7) (w := 2) rfl rfl ?_
  refine WpG.loop (S := Nat × Nat × List Rn) (fun s => [(0, .bptr 0 0), (1, .v (.int .i64 parts)), (7, .osl 30), (8, .v (.int .i64 s.1))]) (fun s => [(30, .arr .yes 2 (s.2.2.map encN)), (0, tbox t s.2.1)]) (fun s => s.2.1 ≤ t.length ∧ s.1 + s.2.2.length = kk ∧ rgo t parts s.1 s.2.1 s.2.2 = tapeRuns t a parts most) (fun s => s.1) (fun s => ⟨rfl, rfl⟩) ?_ (kk, na t a most, []) ?_ (by repeat (first | exact trivial | refine ⟨rfl, ?_⟩)) (by repeat (first | exact trivial | refine ⟨rfl, ?_⟩)) rfl
  · rintro ⟨k, b, out⟩ ⟨hb, hk, hT⟩
    dsimp only at hb hk hT ⊢
    refine WpG.seq ?_
    refine WpG.seq ?_
    refine WpG.reg ?_
    refine G.mv rfl ?_
    refine G.bin rfl rfl rfl ?_
    refine WpOpsG.nil ?_
    change WpG _ _ _ _ _
    refine WpG.cond rfl (fun hq1 => ?_) (fun hq1 => ?_)
    · (try simp only [zN] at hq1)
      refine WpG.skip ?_
      change WpG _ _ _ _ _
      refine WpG.seq ?_
      refine WpG.block ?_
      refine WpG.reg ?_
      refine G.mv rfl ?_
      refine G.mv rfl ?_
      refine G.mv rfl ?_
      refine G.addI rfl rfl (by omega) ?_
      refine G.call (P := [(0, tbox t b)]) rfl (by repeat (first | exact trivial | refine ⟨rfl, ?_⟩)) rfl rfl (next_ok t b (parts + 1) ht hi hb (by omega)) ?_
      rintro _ _ ⟨rfl, rfl⟩
      refine ⟨rfl, ?_⟩
      change WpOpsG _ _ ((21, _) :: _) _ _
      have h2 := nx_rng t b (parts + 1)
      have hb1 : na t b (parts + 1) ≤ t.length := na_le hb
      refine G.subI rfl rfl (by omega) ?_
      refine G.mv rfl ?_
      refine G.call (P := [(0, tbox t (na t b (parts + 1)))]) rfl (by repeat (first | exact trivial | refine ⟨rfl, ?_⟩)) rfl rfl (next_ok t (na t b (parts + 1)) 4 ht hi hb1 (by omega)) ?_
      rintro _ _ ⟨rfl, rfl⟩
      refine ⟨rfl, ?_⟩
      change WpOpsG _ _ ((24, _) :: _) _ _
      have h3 := nx_rng t (na t b (parts + 1)) 4
      refine G.addI rfl rfl (by omega) ?_
      refine G.build rfl ?_
      refine G.bsliceF rfl rfl rfl ?_
      refine G.app rfl rfl rfl rfl trivial (by (simp only [List.length_map, List.length_append, List.length_cons, List.length_nil, List.length_replicate, List.length_take, List.length_drop, List.length_set]; omega)) ?_
      refine G.mv rfl ?_
      refine WpOpsG.nil ?_
      change WpG _ _ _ _ _
      refine WpG.reg ?_
      refine G.mv rfl ?_
      refine G.subI rfl rfl (by omega) ?_
      refine G.mv rfl ?_
      refine WpOpsG.nil ?_
      obtain ⟨k, rfl⟩ : ∃ j, k = j + 1 := ⟨k - 1, by omega⟩
      refine ⟨(k, na t (na t b (parts + 1)) 4, out ++ [⟨nx t b (parts + 1) - 1, 1 + nx t (na t b (parts + 1)) 4⟩]), by show k < k + 1; omega, ⟨na_le hb1, ?_, by rw [← hT, rgo]⟩, ⟨rfl, rfl, rfl, ?_, trivial⟩, ⟨?_, rfl, trivial⟩, rfl⟩
      · show k + (out ++ [_]).length = kk
        rw [List.length_append]; simp only [List.length_cons, List.length_nil]; omega
      · show some (GV.v (.int .i64 (((k + 1 : Nat) : Int) - 1))) = some (GV.v (.int .i64 (k : Int)))
        congr 3; omega
      · rw [List.map_append]; rfl
    · (try simp only [zN] at hq1)
      refine WpG.exit ?_
      change WpG _ _ _ _ _
      refine WpG.seq ?_
      refine WpG.reg ?_
      refine G.mv rfl ?_
      refine G.mv rfl ?_
      refine WpOpsG.nil ?_
      change WpG _ _ _ _ _
      refine WpG.freeze 30 rfl ?_
      refine WpG.ret ?_
      refine ⟨_, [(0, tbox t b)], rfl, (hasP_le (by repeat (first | exact trivial | refine ⟨rfl, ?_⟩))), rfl, rfl, rfl, ?_⟩
      obtain rfl : k = 0 := by omega
      rw [← hT]
      exact ⟨rfl, rfl⟩
  · refine ⟨na_le ha, by simp, ?_⟩
    subst hkk; rfl
theorem moveApart_ok (t : List Int) (ht : t.length ≤ 2 ^ 50) (hi : ∀ x ∈ t, i64 x) : WpCallG A 7 [.fsl 1 (t.map encK)] [] (fun v H => v = .v (.bool true) ∧ H = []) := by
  refine WpCallG.intro g7 rfl rfl ?_
  unfold af7
  change WpG _ _ _ _ _
  refine WpG.seq ?_
  refine WpG.reg ?_
  refine G.mv rfl ?_
  refine WpOpsG.nil ?_
  change WpG _ _ _ _ _
  refine WpG.seq ?_
  refine WpG.reg ?_
  refine G.mv rfl ?_
  refine G.build rfl ?_
  refine G.box (g := 11) rfl rfl rfl ?_
  change WpOpsG _ _ _ ((11, tbox t 0) :: _) _
  refine G.call (P := [(11, tbox t 0)]) rfl (by repeat (first | exact trivial | refine ⟨rfl, ?_⟩)) rfl rfl ((truns_ok t 0 3 14 ht hi (by omega) (by decide) (by decide)).ren [(0, 11)]) ?_
  rintro _ _ ⟨_, _, ⟨rfl, rfl⟩, rfl, rfl⟩
  change newOk _ _ [(11, tbox t _)] = true ∧ _
  refine ⟨rfl, ?_⟩
  change WpOpsG _ _ ((12, .fsl 2 ((tapeRuns t 0 3 14).1.map encN)) :: _) ([(11, tbox t _)] ++ _) _
  have hr := tapeRuns_ok t 0 3 14 (by decide) (by decide) (by omega)
  obtain ⟨rs, hrs⟩ : ∃ rs, rs = (tapeRuns t 0 3 14).1 := ⟨_, rfl⟩
  rw [← hrs] at hr ⊢
  have hrN := okT_N (by decide) hr.1
  have hrl : rs.length ≤ 14 := by have := hr.2.2.1; omega
  refine G.call0 rfl rfl ((rtidy_ok rs (by omega) hrN).ren [(0, 20)]) ?_
  rintro _ _ ⟨_, _, ⟨rfl, rfl⟩, rfl, rfl⟩
  change newOk _ _ [(20, _)] = true ∧ _
  refine ⟨rfl, ?_⟩
  change WpOpsG _ _ ((13, .osl 20) :: _) ([(20, .arr .yes 2 ((tidyV rs).map encN))] ++ _) _
  refine WpOpsG.freeze 20 rfl ?_
  have hlp : ∀ r ∈ tidyV rs, -1 ≤ r.p ∧ r.p < 3 := tidyV_part (P := fun p => -1 ≤ p ∧ p < 3) fun r hr2 => ⟨(hr.1 r hr2).1, (hr.1 r hr2).2.1⟩
  have hll := tidyV_len rs
  obtain ⟨l, hl⟩ : ∃ l, tidyV rs = l := ⟨_, rfl⟩
  rw [hl] at hlp hll ⊢
  change WpOpsG _ _ ((13, .fsl 2 (l.map encN)) :: _) _ _
  refine G.mv rfl ?_
  refine WpOpsG.nil ?_
  change WpG _ _ _ _ _
  refine WpG.seq ?_
  refine WpG.reg ?_
  refine G.bsliceF rfl rfl rfl ?_
  refine G.bsliceF rfl rfl rfl ?_
  refine G.bsliceF rfl rfl rfl ?_
  refine G.bsliceF rfl rfl rfl ?_
  change WpOpsG _ _ ((17, .fsl 1 (all3.map encBs)) :: _) _ _
  refine G.mv rfl ?_
  refine WpOpsG.nil ?_
  change WpG _ _ _ _ _
  refine WpG.seq ?_
  refine WpG.seq ?_
  refine WpG.reg ?_
  refine G.mv rfl ?_
  refine G.mv rfl ?_
  refine G.call0 rfl rfl (all_ok l all3 (by omega) (by decide) (by decide)) ?_
  rintro _ _ ⟨rfl, rfl⟩
  refine ⟨rfl, ?_⟩
  change WpOpsG _ _ ((20, _) :: _) _ _
  have hmem : ∀ m ∈ allV l all3, _ := fun m hm => all_mem hm
  have hless := all_less (l := l) (less_nil (e := all3))
  have hall := allM_len (l := l) (dep := all3) l.length
  have hall2 : 2 * l.length * l.length ≤ 2 * 14 * 14 := Nat.mul_le_mul (by omega) (by omega)
  have hall3 : (allV l all3).length ≤ 2 * 14 * 14 := Nat.le_trans hall hall2
  obtain ⟨ms, hms⟩ : ∃ ms, allV l all3 = ms := ⟨_, rfl⟩
  rw [hms] at hmem hless hall3 ⊢
  refine G.lenM rfl ?_
  refine G.mv rfl ?_
  refine WpOpsG.nil ?_
  change WpG _ _ _ _ _
  refine WpG.block ?_
  refine WpG.loop (S := Nat) (fun a => [(2, .v (.bool false)), (3, .fsl 2 (l.map encN)), (4, .fsl 1 (all3.map encBs)), (20, .fsl 3 (ms.map encMv)), (21, .v (.int .i64 (ms.length : Int))), (22, .v (.int .i64 ((a : Nat) : Int)))]) (fun _ => []) (fun a => a ≤ ms.length) (fun a => ms.length - a) (fun s => ⟨rfl, rfl⟩) ?_ 0 ?_ (by repeat (first | exact trivial | refine ⟨rfl, ?_⟩)) (by repeat (first | exact trivial | refine ⟨rfl, ?_⟩)) rfl
  · intro a ha
    refine WpG.seq ?_
    refine WpG.reg ?_
    refine G.bin rfl rfl rfl ?_
    refine WpOpsG.nil ?_
    change WpG _ _ _ _ _
    refine WpG.seq ?_
    refine WpG.cond rfl (fun hq1 => ?_) (fun hq1 => ?_)
    · (try simp only [zN] at hq1)
      refine WpG.skip ?_
      change WpG _ _ _ _ _
      refine WpG.seq ?_
      refine WpG.block ?_
      refine WpG.seq ?_
      refine WpG.reg ?_
      refine G.iaddrN rfl rfl (List.getElem?_eq_getElem (by omega)) ?_
      have hmm := hmem ms[a] (List.getElem_mem (by omega))
      obtain ⟨⟨mi, mj, mr⟩, hm⟩ : ∃ m, ms[a] = m := ⟨_, rfl⟩
      rw [hm] at hmm ⊢
      obtain ⟨i, j, e1, e2, h3, h4, h5⟩ := hmm
      have e1 : mi = (i : Int) := e1
      have e2 : mj = (j : Int) := e2
      subst e1 e2
      change WpOpsG _ _ ((24, .fptr [.v (.int .i64 (i : Int)), .v (.int .i64 (j : Int)), .v (.bool mr)] 0) :: _) _ _
      refine G.loadNF rfl rfl ?_
      refine G.box (g := 12) rfl rfl rfl ?_
      refine G.storeB rfl rfl rfl rfl rfl rfl ?_
      refine WpOpsG.nil ?_
      change WpG _ _ _ _ _
      refine WpG.seq ?_
      refine WpG.seq ?_
      refine WpG.reg ?_
      refine G.faddrB rfl ?_
      refine G.load1B rfl rfl rfl ?_
      refine G.bin rfl rfl rfl ?_
      refine G.mv rfl ?_
      apply G.orS rfl rfl rfl rfl rfl rfl
      case hB =>
        intro hs2
        (try simp only [zN] at hs2)
        refine G.faddrB rfl ?_
        refine G.load1B rfl rfl rfl ?_
        refine G.faddrB rfl ?_
        refine G.load1B rfl rfl rfl ?_
        refine G.bin rfl rfl rfl ?_
        refine WpOpsG.nil ?_
        exact ⟨rfl, (by repeat (first | exact LLe.refl _ | refine LLe.cons rfl ?_)), (by repeat (first | exact HLe.refl _ | refine HLe.cons rfl ?_)), rfl⟩
      refine G.mv rfl ?_
      apply G.orS rfl rfl rfl rfl rfl rfl
      case hB =>
        intro hs3
        (try simp only [zN] at hs3)
        refine G.faddrB rfl ?_
        refine G.load1B rfl rfl rfl ?_
        refine G.mv rfl ?_
        refine G.lenM rfl ?_
        refine G.bin rfl rfl rfl ?_
        refine WpOpsG.nil ?_
        exact ⟨rfl, (by repeat (first | exact LLe.refl _ | refine LLe.cons rfl ?_)), (by repeat (first | exact HLe.refl _ | refine HLe.cons rfl ?_)), rfl⟩
      refine WpOpsG.nil ?_
      change WpG _ _ _ _ _
      refine WpG.cond rfl (fun hq4 => ?_) (fun hq4 => ?_)
      · (try simp only [zN] at hq4)
        exfalso; omega
      · (try simp only [zN] at hq4)
        refine WpG.skip ?_
        change WpG _ _ _ _ _
        refine WpG.seq ?_
        refine WpG.seq ?_
        refine WpG.reg ?_
        refine G.mv rfl ?_
        refine G.faddrB rfl ?_
        refine G.load1B rfl rfl rfl ?_
        refine G.addI rfl rfl (by omega) ?_
        rw [show (i : Int) + 1 = ((i + 1 : Nat) : Int) by omega]
        refine G.faddrB rfl ?_
        refine G.load1B rfl rfl rfl ?_
        refine G.slMid (n := i + 1) (m := j) rfl rfl rfl (by omega) (by omega) ?_
        have hMp : ∀ r ∈ midV l i j, _ := fun r hr2 => apart_r hlp h5 hr2
        have hml : (midV l i j).length = j - (i + 1) := mid_len (by omega)
        change WpOpsG _ _ ((49, .fsl 2 ((midV l i j).map encN)) :: _) _ _
        obtain ⟨M, hM⟩ : ∃ M, midV l i j = M := ⟨_, rfl⟩
        rw [hM] at hMp hml ⊢
        refine G.lenM rfl ?_
        refine G.mv rfl ?_
        refine WpOpsG.nil ?_
        change WpG _ _ _ _ _
        refine WpG.block ?_
        refine WpG.loop (S := Nat) (fun k => [(2, .v (.bool false)), (3, .fsl 2 (l.map encN)), (4, .fsl 1 (all3.map encBs)), (6, .bptr 12 0), (20, .fsl 3 (ms.map encMv)), (21, .v (.int .i64 (ms.length : Int))), (22, .v (.int .i64 ((a : Nat) : Int))), (49, .fsl 2 (M.map encN)), (50, .v (.int .i64 (M.length : Int))), (51, .v (.int .i64 ((k : Nat) : Int)))]) (fun k => [(12, .box [.v (.int .i64 (i : Int)), .v (.int .i64 (j : Int)), .v (.bool mr)])]) (fun k => k ≤ M.length) (fun k => M.length - k) (fun s => ⟨rfl, rfl⟩) ?_ 0 ?_ (by repeat (first | exact trivial | refine ⟨rfl, ?_⟩)) (by repeat (first | exact trivial | refine ⟨rfl, ?_⟩)) rfl
        · intro k hk
          refine WpG.seq ?_
          refine WpG.reg ?_
          refine G.bin rfl rfl rfl ?_
          refine WpOpsG.nil ?_
          change WpG _ _ _ _ _
          refine WpG.seq ?_
          refine WpG.cond rfl (fun hq5 => ?_) (fun hq5 => ?_)
          · (try simp only [zN] at hq5)
            refine WpG.skip ?_
            change WpG _ _ _ _ _
            refine WpG.seq ?_
            refine WpG.block ?_
            refine WpG.seq ?_
            refine WpG.reg ?_
            refine G.iaddrN rfl rfl (List.getElem?_eq_getElem (by omega)) ?_
            refine G.loadNF rfl rfl ?_
            refine G.box (g := 13) rfl rfl rfl ?_
            refine G.storeB rfl rfl rfl rfl rfl rfl ?_
            refine WpOpsG.nil ?_
            change WpG _ _ _ _ _
            refine WpG.seq ?_
            refine WpG.reg ?_
            refine G.mv rfl ?_
            refine G.faddrB rfl ?_
            refine G.load1B rfl rfl rfl ?_
            refine G.iaddrM rfl rfl (by omega) (gd17 (⟨0, 0⟩ : Rn) (by omega)) ?_
            try rw [Int.toNat_natCast]
            refine G.faddrF rfl ?_
            refine G.load1F rfl rfl ?_
            refine G.bin rfl rfl rfl ?_
            refine G.mv rfl ?_
            apply G.andS rfl rfl rfl rfl rfl rfl
            case hB =>
              intro hs6
              (try simp only [zN] at hs6)
              refine G.faddrB rfl ?_
              refine G.load1B rfl rfl rfl ?_
              refine G.bin rfl rfl rfl ?_
              refine WpOpsG.nil ?_
              exact ⟨rfl, (by repeat (first | exact LLe.refl _ | refine LLe.cons rfl ?_)), (by repeat (first | exact HLe.refl _ | refine HLe.cons rfl ?_)), rfl⟩
            refine G.mv rfl ?_
            apply G.orS rfl rfl rfl rfl rfl rfl
            case hB =>
              intro hs7
              (try simp only [zN] at hs7)
              refine G.faddrB rfl ?_
              refine G.load1B rfl rfl rfl ?_
              refine G.mv rfl ?_
              refine G.faddrB rfl ?_
              refine G.load1B rfl rfl rfl ?_
              refine G.iaddrM rfl rfl (by omega) (gd17 (⟨0, 0⟩ : Rn) (by omega)) ?_
              try rw [Int.toNat_natCast]
              refine G.faddrF rfl ?_
              refine G.load1F rfl rfl ?_
              refine G.bin rfl rfl rfl ?_
              refine WpOpsG.nil ?_
              exact ⟨rfl, (by repeat (first | exact LLe.refl _ | refine LLe.cons rfl ?_)), (by repeat (first | exact HLe.refl _ | refine HLe.cons rfl ?_)), rfl⟩
            refine WpOpsG.nil ?_
            change WpG _ _ _ _ _
            refine WpG.cond rfl (fun hq8 => ?_) (fun hq8 => ?_)
            · (try simp only [zN] at hq8)
              exact absurd hq8 (hMp _ (List.getElem_mem (by omega)))
            · (try simp only [zN] at hq8)
              refine WpG.skip ?_
              change WpG _ _ _ _ _
              refine WpG.reg ?_
              refine G.addI rfl rfl (by omega) ?_
              refine G.mv rfl ?_
              refine WpOpsG.nil ?_
              exact ⟨k + 1, by omega, by omega, ⟨rfl, rfl, rfl, rfl, rfl, rfl, rfl, rfl, rfl, rfl, trivial⟩, ⟨rfl, trivial⟩, rfl⟩
          · (try simp only [zN] at hq5)
            refine WpG.exit ?_
            change WpG _ _ _ _ _
            refine WpG.seq ?_
            refine WpG.reg ?_
            refine G.mv rfl ?_
            refine G.loadNB rfl rfl rfl ?_
            refine G.call0 rfl rfl (nil2 (may_ok l [] (i : Int) (j : Int) mr (by omega) (by decide) (by decide))) ?_
            rintro _ _ ⟨rfl, rfl⟩
            refine ⟨rfl, ?_⟩
            change WpOpsG _ _ ((81, _) :: _) _ _
            rw [may_less less_nil h5]
            refine G.un rfl rfl ?_
            refine WpOpsG.nil ?_
            change WpG _ _ _ _ _
            refine WpG.cond rfl (fun hq9 => absurd hq9 (by decide)) (fun hq9 => ?_)
            refine WpG.skip ?_
            change WpG _ _ _ _ _
            refine WpG.reg ?_
            refine G.addI rfl rfl (by omega) ?_
            refine G.mv rfl ?_
            refine WpOpsG.nil ?_
            exact ⟨a + 1, by omega, by omega, ⟨rfl, rfl, rfl, rfl, rfl, rfl, trivial⟩, trivial, rfl⟩
        · exact Nat.zero_le _
    · (try simp only [zN] at hq1)
      refine WpG.exit ?_
      change WpG _ _ _ _ _
      refine WpG.seq ?_
      refine WpG.reg ?_
      refine G.mv rfl ?_
      refine G.mv rfl ?_
      refine G.call0 rfl rfl (all_ok l all3 (by omega) (by decide) (by decide)) ?_
      rintro _ _ ⟨rfl, rfl⟩
      refine ⟨rfl, ?_⟩
      change WpOpsG _ _ ((86, _) :: _) _ _
      rw [hms]
      refine G.lenM rfl ?_
      refine G.mv rfl ?_
      refine G.call0 rfl rfl (nil2 (all_ok l [] (by omega) (by decide) (by decide))) ?_
      rintro _ _ ⟨rfl, rfl⟩
      refine ⟨rfl, ?_⟩
      change WpOpsG _ _ ((89, _) :: _) _ _
      refine G.lenM rfl ?_
      refine G.bin rfl rfl rfl ?_
      rw [decide_eq_true (by omega)]
      refine G.mv rfl ?_
      refine WpOpsG.known 92 true rfl rfl ?_
      refine G.call0 rfl rfl (known10_ok) ?_
      rintro _ _ ⟨rfl, rfl⟩
      refine ⟨rfl, ?_⟩
      change WpOpsG _ _ ((93, _) :: _) _ _
      refine G.pickT rfl rfl ?_
      refine G.mv rfl ?_
      refine WpOpsG.nil ?_
      change WpG _ _ _ _ _
      refine WpG.ret ?_
      refine ⟨_, [], rfl, (hasP_le (by repeat (first | exact trivial | refine ⟨rfl, ?_⟩))), rfl, rfl, rfl, ?_⟩
      exact ⟨rfl, rfl⟩
  · exact Nat.zero_le _
end Go.AM.L10
