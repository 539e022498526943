/- Contracts of the functions that the statement reaches. No condition. -/
import Derived.Test.YtmgeangfplgcbaaC8d
import Derived.Test.YtmgeangfplgcbaaPL8e
set_option linter.all false
set_option maxRecDepth 10000
namespace Go.AM.L8
open Go.AM.PL
theorem turned_w (l : List Rn) (ats : List Int) (hn : l.length ≤ 2 ^ 30) (hats : ats.length ≤ 2 ^ 50) (hai : ∀ x ∈ ats, i64 x) : WpCallG A 17 [.fsl 2 (l.map encN), .fsl 1 (ats.map encK)] [] (fun v H => v = .osl 0 ∧ H = [(0, .arr .yes 2 ((turnedV l ats).map encN))]) := by
  refine WpCallG.intro g17 rfl rfl ?_
  unfold af17
  change WpG _ _ _ _ _
  refine WpG.seq ?_
  refine WpG.reg ?_
  refine G.mv rfl ?_
  refine WpOpsG.nil ?_
  change WpG _ _ _ _ _
  refine WpG.seq ?_
  refine WpG.reg ?_
  refine G.bslice (g := 0) rfl rfl rfl rfl ?_
  refine G.mv rfl ?_
  refine G.app (ds := l.map encN) rfl rfl rfl rfl trivial (by rw [List.length_map]; show (0 + l.length) * 16 ≤ 2 ^ 47; omega) ?_
  change WpOpsG _ _ _ ((0, .arr .yes 2 (l.map encN)) :: _) _
  refine G.mv rfl ?_
  refine WpOpsG.nil ?_
  change WpG _ _ _ _ _
  refine WpG.seq ?_
  refine WpG.seq ?_
  refine WpG.reg ?_
  refine G.mv rfl ?_
  refine WpOpsG.nil ?_
  change WpG _ _ _ _ _
  refine WpG.block ?_
  refine WpG.loop (S := Nat) (fun i => [(1, .fsl 1 (ats.map encK)), (5, .osl 0), (6, .v (.int .i64 (i : Int)))]) (fun i => [(0, .arr .yes 2 ((turnV l (ats.take i)).map encN))]) (fun i => i ≤ ats.length ∧ i ≤ 30 ∧ (i = 0 ∨ 1 < l.length)) (fun i => 30 - i) (fun s => ⟨rfl, rfl⟩) ?_ 0 ?_ (by repeat (first | exact trivial | refine ⟨rfl, ?_⟩)) (by repeat (first | exact trivial | refine ⟨rfl, ?_⟩)) rfl
  · rintro i ⟨hI, hI2, hI3⟩
    refine WpG.seq ?_
    refine WpG.seq ?_
    obtain ⟨X, hX⟩ : ∃ X, turnV l (ats.take i) = X := ⟨_, rfl⟩
    have hXl : X.length = l.length := by rw [← hX]; exact turn_len _ _
    rw [hX]
    refine WpG.reg ?_
    refine G.mv rfl ?_
    refine G.mv rfl ?_
    first | refine G.lenM rfl ?_ | refine G.lenOM rfl rfl ?_ | refine G.lenF rfl ?_ | refine G.lenO rfl rfl ?_ | refine G.lenNil rfl ?_
    refine G.bin rfl rfl rfl ?_
    refine G.mv rfl ?_
    apply G.andS rfl rfl rfl rfl rfl rfl
    case hB =>
      intro hs1
      (try simp only [decide_eq_true_eq, decide_eq_false_iff_not, Bool.or_eq_true, Bool.and_eq_true, Bool.or_eq_false_iff, Bool.and_eq_false_iff, bne_iff_ne, beq_iff_eq, beq_eq_false_iff_ne, bne_eq_false_iff_eq, ne_eq, Bool.not_eq_true', Bool.not_eq_false', Int.not_lt, Int.not_le, Decidable.not_not, List.length_map, List.length_cons, List.length_nil] at hs1)
      refine G.mv rfl ?_
      refine G.bin rfl rfl rfl ?_
      refine WpOpsG.nil ?_
      exact ⟨rfl, (by repeat (first | exact LLe.refl _ | refine LLe.cons rfl ?_)), (by repeat (first | exact HLe.refl _ | refine HLe.cons rfl ?_)), rfl⟩
    refine G.mv rfl ?_
    apply G.andS rfl rfl rfl rfl rfl rfl
    case hB =>
      intro hs2
      (try simp only [decide_eq_true_eq, decide_eq_false_iff_not, Bool.or_eq_true, Bool.and_eq_true, Bool.or_eq_false_iff, Bool.and_eq_false_iff, bne_iff_ne, beq_iff_eq, beq_eq_false_iff_ne, bne_eq_false_iff_eq, ne_eq, Bool.not_eq_true', Bool.not_eq_false', Int.not_lt, Int.not_le, Decidable.not_not, List.length_map, List.length_cons, List.length_nil] at hs2)
      refine G.mv rfl ?_
      first | refine G.lenM rfl ?_ | refine G.lenOM rfl rfl ?_ | refine G.lenF rfl ?_ | refine G.lenO rfl rfl ?_ | refine G.lenNil rfl ?_
      refine G.bin rfl rfl rfl ?_
      refine WpOpsG.nil ?_
      exact ⟨rfl, (by repeat (first | exact LLe.refl _ | refine LLe.cons rfl ?_)), (by repeat (first | exact HLe.refl _ | refine HLe.cons rfl ?_)), rfl⟩
    refine WpOpsG.nil ?_
    change WpG _ _ _ _ _
    refine WpG.cond rfl (fun hq3 => ?_) (fun hq3 => ?_)
    · (try simp only [decide_eq_true_eq, decide_eq_false_iff_not, Bool.or_eq_true, Bool.and_eq_true, Bool.or_eq_false_iff, Bool.and_eq_false_iff, bne_iff_ne, beq_iff_eq, beq_eq_false_iff_ne, bne_eq_false_iff_eq, ne_eq, Bool.not_eq_true', Bool.not_eq_false', Int.not_lt, Int.not_le, Decidable.not_not, List.length_map, List.length_cons, List.length_nil] at hq3)
      refine WpG.skip ?_
      change WpG _ _ _ _ _
      refine WpG.seq ?_
      refine WpG.block ?_
      refine WpG.seq ?_
      refine WpG.reg ?_
      refine G.mv rfl ?_
      refine G.mv rfl ?_
      first | refine G.iaddrN rfl rfl (List.getElem?_eq_getElem (by first | omega | (simp only [List.length_map, List.length_append, List.length_cons, List.length_nil, List.length_replicate, List.length_take, List.length_drop, List.length_set]; omega))) ?_ | refine G.iaddrM rfl rfl (by omega) (List.getElem?_eq_getElem (by first | omega | (simp only [List.length_map, List.length_append, List.length_cons, List.length_nil, List.length_replicate, List.length_take, List.length_drop, List.length_set]; omega))) ?_ | refine G.iaddrF rfl rfl (by omega) rfl ?_ | refine G.iaddrO rfl rfl rfl (by omega) (by first | omega | (simp only [List.length_map, List.length_append, List.length_cons, List.length_nil, List.length_replicate, List.length_take, List.length_drop, List.length_set]; omega)) ?_ | refine G.iaddrF rfl rfl (by omega) (List.getElem?_eq_getElem (by first | omega | (simp only [List.length_map, List.length_append, List.length_cons, List.length_nil, List.length_replicate, List.length_take, List.length_drop, List.length_set]; omega))) ?_
      first | refine G.load1B rfl rfl rfl ?_ | refine G.load1F rfl rfl ?_ | refine G.load1E rfl rfl (List.getElem?_eq_getElem (by first | omega | (simp only [List.length_map, List.length_append, List.length_cons, List.length_nil, List.length_replicate, List.length_take, List.length_drop, List.length_set]; omega))) rfl ?_ | refine G.load1EM rfl rfl (List.getElem?_eq_getElem (by first | omega | (simp only [List.length_map, List.length_append, List.length_cons, List.length_nil, List.length_replicate, List.length_take, List.length_drop, List.length_set]; omega))) rfl ?_
      refine G.mv rfl ?_
      first | refine G.lenM rfl ?_ | refine G.lenOM rfl rfl ?_ | refine G.lenF rfl ?_ | refine G.lenO rfl rfl ?_ | refine G.lenNil rfl ?_
      rw [hXl]
      first | refine G.subI rfl rfl (by omega) ?_ | refine G.bin rfl rfl rfl ?_
      rw [show (l.length : Int) - 2 = ((l.length - 2 : Nat) : Int) by omega]
      refine G.call0 rfl rfl (within_ok ats[i] 0 ((l.length - 2 : Nat) : Int) (hai _ (List.getElem_mem (by omega))) (by decide) (by omega) (by omega)) ?_
      rintro _ _ ⟨rfl, rfl⟩
      refine ⟨rfl, ?_⟩
      change WpOpsG _ _ ((33, _) :: _) _ _
      obtain ⟨k, hk, hk2⟩ := within_nat1 ats[i] (l.length - 2)
      rw [hk]
      have hkl : k + 1 < X.length := by omega
      refine G.mv rfl ?_
      refine WpOpsG.nil ?_
      change WpG _ _ _ _ _
      refine WpG.reg ?_
      refine G.mv rfl ?_
      refine G.mv rfl ?_
      refine G.mv rfl ?_
      refine G.mv rfl ?_
      first | refine G.addI rfl rfl (by omega) ?_ | refine G.bin rfl rfl rfl ?_
      rw [show (k : Int) + 1 = ((k + 1 : Nat) : Int) by omega]
      refine G.mv rfl ?_
      refine G.mv rfl ?_
      first | refine G.addI rfl rfl (by omega) ?_ | refine G.bin rfl rfl rfl ?_
      rw [show (k : Int) + 1 = ((k + 1 : Nat) : Int) by omega]
      refine G.iaddrO rfl rfl rfl (by omega) (by rw [List.length_map]; omega) ?_
      refine G.loadNEM rfl rfl (gd8 ⟨0, 0⟩ (by omega)) rfl ?_
      refine G.mv rfl ?_
      refine G.mv rfl ?_
      refine G.iaddrO rfl rfl rfl (by omega) (by rw [List.length_map]; omega) ?_
      refine G.loadNEM rfl rfl (gd8 ⟨0, 0⟩ (by omega)) rfl ?_
      refine G.iaddrO rfl rfl rfl (by omega) (by rw [List.length_map]; omega) ?_
      refine G.storeEM (X.getD (k + 1) ⟨0, 0⟩) rfl rfl rfl (gd8 ⟨0, 0⟩ (by omega)) rfl rfl rfl rfl ?_
      refine G.iaddrO rfl rfl rfl (by omega) (by rw [List.length_map, List.length_set]; omega) ?_
      refine G.storeEM (X.getD k ⟨0, 0⟩) rfl rfl rfl (gd8 ⟨0, 0⟩ (by rw [List.length_set]; omega)) rfl rfl rfl rfl ?_
      refine WpOpsG.nil ?_
      change WpG _ _ _ _ _
      refine WpG.reg ?_
      refine G.mv rfl ?_
      first | refine G.addI rfl rfl (by omega) ?_ | refine G.bin rfl rfl rfl ?_
      refine G.mv rfl ?_
      refine WpOpsG.nil ?_
      refine ⟨i + 1, by omega, ⟨by omega, by omega, .inr (by omega)⟩, ⟨rfl, rfl, rfl, trivial⟩, ⟨?_, trivial⟩, rfl⟩
      rw [turn_snoc (by omega), hX, show (l.length : Int) - 2 = ((l.length - 2 : Nat) : Int) by omega, hk, swap_set hkl]; rfl
    · (try simp only [decide_eq_true_eq, decide_eq_false_iff_not, Bool.or_eq_true, Bool.and_eq_true, Bool.or_eq_false_iff, Bool.and_eq_false_iff, bne_iff_ne, beq_iff_eq, beq_eq_false_iff_ne, bne_eq_false_iff_eq, ne_eq, Bool.not_eq_true', Bool.not_eq_false', Int.not_lt, Int.not_le, Decidable.not_not, List.length_map, List.length_cons, List.length_nil] at hq3)
      refine WpG.exit ?_
      change WpG _ _ _ _ _
      refine WpG.seq ?_
      have hres : X = turnedV l ats := by
        unfold turnedV
        by_cases c : 1 < l.length
        · rw [if_pos c, ← hX]
          congr 1
          rw [List.take_eq_take_iff]; omega
        · rw [if_neg c, ← hX, show i = 0 by omega]; rfl
      rw [hres]
      refine WpG.reg ?_
      refine G.mv rfl ?_
      refine G.mv rfl ?_
      refine WpOpsG.nil ?_
      change WpG _ _ _ _ _
      refine WpG.ret ?_
      refine ⟨_, [(0, .arr .yes 2 ((turnedV l ats).map encN))], rfl, (hasP_le (by repeat (first | exact trivial | refine ⟨rfl, ?_⟩))), rfl, rfl, rfl, ?_⟩
      exact ⟨rfl, rfl⟩
  · exact ⟨Nat.zero_le _, by decide, .inl rfl⟩
theorem wordOrder_ok (t a b : List Int) (bits more : Int) (ht : t.length ≤ 2 ^ 50) (hi : ∀ x ∈ t, i64 x) (hta : a.length ≤ 2 ^ 50) (hia : ∀ x ∈ a, i64 x) (htb : b.length ≤ 2 ^ 50) (hib : ∀ x ∈ b, i64 x) : WpCallG A 6 [.fsl 1 (t.map encK), .fsl 1 (a.map encK), .fsl 1 (b.map encK), .v (.int .i64 bits), .v (.int .i64 more)] [] (fun v H => v = .v (.bool true) ∧ H = []) := by
  refine WpCallG.intro g6 rfl rfl ?_
  unfold af6
  change WpG _ _ _ _ _
  refine WpG.seq ?_
  refine WpG.reg ?_
  refine G.mv rfl ?_
  refine WpOpsG.nil ?_
  change WpG _ _ _ _ _
  refine WpG.seq ?_
  refine WpG.reg ?_
  refine G.mv rfl ?_
  refine G.build rfl ?_
  refine G.box (g := 11) rfl rfl rfl ?_
  change WpOpsG _ _ _ ((11, tbox t 0) :: _) _
  refine G.call (P := [(11, tbox t 0)]) rfl (by repeat (first | exact trivial | refine ⟨rfl, ?_⟩)) rfl rfl ((truns_ok t 0 4 14 ht hi (by omega) (by decide) (by decide)).ren [(0, 11)]) ?_
  rintro _ _ ⟨_, _, ⟨rfl, rfl⟩, rfl, rfl⟩
  change newOk _ _ [(11, tbox t _)] = true ∧ _
  refine ⟨rfl, ?_⟩
  change WpOpsG _ _ ((22, .fsl 2 ((tapeRuns t 0 4 14).1.map encN)) :: _) ([(11, tbox t _)] ++ _) _
  have hr := tapeRuns_ok t 0 4 14 (by decide) (by decide) (by omega)
  obtain ⟨rs, hrs⟩ : ∃ rs, rs = (tapeRuns t 0 4 14).1 := ⟨_, rfl⟩
  rw [← hrs] at hr ⊢
  have hrN := okT_N4 hr.1
  have hl16 : rs.length ≤ 14 := by have := hr.2.2.1; omega
  have rsN := hrN
  refine G.mv rfl ?_
  refine WpOpsG.nil ?_
  change WpG _ _ _ _ _
  refine WpG.seq ?_
  refine WpG.reg ?_
  refine G.mv rfl ?_
  refine G.mv rfl ?_
  refine G.call0 rfl rfl ((turned_w rs a (by omega) hta hia).ren [(0, 20)]) ?_
  rintro _ _ ⟨_, _, ⟨rfl, rfl⟩, rfl, rfl⟩
  change newOk _ _ [(20, _)] = true ∧ _
  refine ⟨rfl, ?_⟩
  change WpOpsG _ _ ((25, .osl 20) :: _) ([(20, .arr .yes 2 ((turnedV rs a).map encN))] ++ _) _
  obtain ⟨x, hx⟩ : ∃ x, turnedV rs a = x := ⟨_, rfl⟩
  have xN : ∀ r ∈ x, okN r := by rw [← hx]; exact turned_ok rsN
  have xl : x.length ≤ 2 ^ 30 := by rw [← hx, turned_len]; omega
  rw [hx]
  refine WpOpsG.freeze 20 rfl ?_
  refine G.mv rfl ?_
  refine WpOpsG.nil ?_
  change WpG _ _ _ _ _
  refine WpG.seq ?_
  refine WpG.reg ?_
  refine G.mv rfl ?_
  refine G.mv rfl ?_
  refine G.call0 rfl rfl ((turned_w x b xl htb hib).ren [(0, 21)]) ?_
  rintro _ _ ⟨_, _, ⟨rfl, rfl⟩, rfl, rfl⟩
  change newOk _ _ [(21, _)] = true ∧ _
  refine ⟨rfl, ?_⟩
  change WpOpsG _ _ ((28, .osl 21) :: _) ([(21, .arr .yes 2 ((turnedV x b).map encN))] ++ _) _
  obtain ⟨y, hy⟩ : ∃ y, turnedV x b = y := ⟨_, rfl⟩
  have yN : ∀ r ∈ y, okN r := by rw [← hy]; exact turned_ok xN
  have yl : y.length ≤ 2 ^ 30 := by rw [← hy, turned_len]; omega
  rw [hy]
  refine WpOpsG.freeze 21 rfl ?_
  refine G.mv rfl ?_
  refine WpOpsG.nil ?_
  change WpG _ _ _ _ _
  refine WpG.seq ?_
  refine WpG.reg ?_
  refine G.mv rfl ?_
  refine G.call0 rfl rfl (dependence_ok 4 bits (by decide)) ?_
  rintro _ _ ⟨rfl, rfl⟩
  refine ⟨rfl, ?_⟩
  change WpOpsG _ _ ((30, _) :: _) _ _
  refine G.mv rfl ?_
  refine G.mv rfl ?_
  refine G.orK rfl rfl ?_
  refine G.call0 rfl rfl (dependence_ok 4 (orI .i64 bits more) (by decide)) ?_
  rintro _ _ ⟨rfl, rfl⟩
  refine ⟨rfl, ?_⟩
  change WpOpsG _ _ ((34, _) :: _) _ _
  refine G.mv rfl ?_
  refine G.mv rfl ?_
  refine WpOpsG.nil ?_
  change WpG _ _ _ _ _
  refine WpG.seq ?_
  refine WpG.reg ?_
  refine G.mv rfl ?_
  refine G.mv rfl ?_
  refine G.mv rfl ?_
  refine G.call0 rfl rfl (wsame_ok x y (depM 4 bits) (by omega) xN (by omega) yN (by rw [depM_len]; decide) (fun r hr => by rw [depM_rows r hr]; decide)) ?_
  rintro _ _ ⟨rfl, rfl⟩
  refine ⟨rfl, ?_⟩
  change WpOpsG _ _ ((38, _) :: _) _ _
  refine G.mv rfl ?_
  refine G.mv rfl ?_
  refine G.mv rfl ?_
  refine G.call0 rfl rfl (wsame_ok rs x (depM 4 bits) (by omega) rsN (by omega) xN (by rw [depM_len]; decide) (fun r hr => by rw [depM_rows r hr]; decide)) ?_
  rintro _ _ ⟨rfl, rfl⟩
  refine ⟨rfl, ?_⟩
  change WpOpsG _ _ ((42, _) :: _) _ _
  refine G.mv rfl ?_
  refine G.mv rfl ?_
  refine G.mv rfl ?_
  refine G.call0 rfl rfl (wsame_ok rs y (depM 4 bits) (by omega) rsN (by omega) yN (by rw [depM_len]; decide) (fun r hr => by rw [depM_rows r hr]; decide)) ?_
  rintro _ _ ⟨rfl, rfl⟩
  refine ⟨rfl, ?_⟩
  change WpOpsG _ _ ((46, _) :: _) _ _
  refine G.mv rfl ?_
  refine G.mv rfl ?_
  refine G.mv rfl ?_
  refine WpOpsG.nil ?_
  change WpG _ _ _ _ _
  refine WpG.seq ?_
  refine WpG.reg ?_
  refine G.mv rfl ?_
  refine G.mv rfl ?_
  refine G.call0 rfl rfl ((rtidy_ok rs (by omega) rsN).ren [(0, 22)]) ?_
  rintro _ _ ⟨_, _, ⟨rfl, rfl⟩, rfl, rfl⟩
  change newOk _ _ [(22, _)] = true ∧ _
  refine ⟨rfl, ?_⟩
  change WpOpsG _ _ ((49, .osl 22) :: _) ([(22, .arr .yes 2 ((tidyV rs).map encN))] ++ _) _
  refine WpOpsG.freeze 22 rfl ?_
  refine G.mv rfl ?_
  refine G.call0 rfl rfl (wsame_ok rs (tidyV rs) (depM 4 bits) (by omega) rsN (Nat.le_trans (tidyV_len rs) (by omega)) (tidyV_ok rsN) (by rw [depM_len]; decide) (fun r hr => by rw [depM_rows r hr]; decide)) ?_
  rintro _ _ ⟨rfl, rfl⟩
  refine ⟨rfl, ?_⟩
  change WpOpsG _ _ ((51, _) :: _) _ _
  rw [same_val (okP_tidy rs (depM 4 bits) rsN)]
  refine G.mv rfl ?_
  refine WpOpsG.known 52 true rfl rfl ?_
  refine G.mv rfl ?_
  refine G.mv rfl ?_
  refine G.mv rfl ?_
  refine G.call0 rfl rfl (wsame_ok x rs (depM 4 bits) (by omega) xN (by omega) rsN (by rw [depM_len]; decide) (fun r hr => by rw [depM_rows r hr]; decide)) ?_
  rintro _ _ ⟨rfl, rfl⟩
  refine ⟨rfl, ?_⟩
  change WpOpsG _ _ ((56, _) :: _) _ _
  rw [same_symm]
  refine G.mv rfl ?_
  refine G.beq rfl rfl rfl ?_
  rw [beq_self_eq_true]
  first | refine G.pickT rfl rfl ?_ | refine G.pickF rfl rfl ?_ | refine G.pick rfl rfl rfl ?_
  refine G.mv rfl ?_
  refine WpOpsG.known 60 true rfl rfl ?_
  refine G.mv rfl ?_
  refine G.un rfl rfl ?_
  refine G.mv rfl ?_
  apply G.orS rfl rfl rfl rfl rfl rfl
  case hB =>
    intro hs1
    (try simp only [decide_eq_true_eq, decide_eq_false_iff_not, Bool.or_eq_true, Bool.and_eq_true, Bool.or_eq_false_iff, Bool.and_eq_false_iff, bne_iff_ne, beq_iff_eq, beq_eq_false_iff_ne, bne_eq_false_iff_eq, ne_eq, Bool.not_eq_true', Bool.not_eq_false', Int.not_lt, Int.not_le, Decidable.not_not, List.length_map, List.length_cons, List.length_nil] at hs1)
    refine G.mv rfl ?_
    refine G.un rfl rfl ?_
    refine WpOpsG.nil ?_
    exact ⟨rfl, (by repeat (first | exact LLe.refl _ | refine LLe.cons rfl ?_)), (by repeat (first | exact HLe.refl _ | refine HLe.cons rfl ?_)), rfl⟩
  refine G.mv rfl ?_
  apply G.orS rfl rfl rfl rfl rfl rfl
  case hB =>
    intro hs2
    (try simp only [decide_eq_true_eq, decide_eq_false_iff_not, Bool.or_eq_true, Bool.and_eq_true, Bool.or_eq_false_iff, Bool.and_eq_false_iff, bne_iff_ne, beq_iff_eq, beq_eq_false_iff_ne, bne_eq_false_iff_eq, ne_eq, Bool.not_eq_true', Bool.not_eq_false', Int.not_lt, Int.not_le, Decidable.not_not, List.length_map, List.length_cons, List.length_nil] at hs2)
    refine G.mv rfl ?_
    refine WpOpsG.nil ?_
    exact ⟨rfl, (by repeat (first | exact LLe.refl _ | refine LLe.cons rfl ?_)), (by repeat (first | exact HLe.refl _ | refine HLe.cons rfl ?_)), rfl⟩
  first | refine G.pickT rfl rfl ?_ | refine G.pickF rfl rfl ?_ | refine G.pick rfl rfl rfl ?_
  refine G.mv rfl ?_
  rw [order_val]
  refine WpOpsG.known 71 true rfl rfl ?_
  refine G.mv rfl ?_
  refine G.mv rfl ?_
  refine G.mv rfl ?_
  refine G.call0 rfl rfl (wsame_ok rs x (depM 4 (orI .i64 bits more)) (by omega) rsN (by omega) xN (by rw [depM_len]; decide) (fun r hr => by rw [depM_rows r hr]; decide)) ?_
  rintro _ _ ⟨rfl, rfl⟩
  refine ⟨rfl, ?_⟩
  change WpOpsG _ _ ((75, _) :: _) _ _
  refine G.un rfl rfl ?_
  refine G.mv rfl ?_
  apply G.orS rfl rfl rfl rfl rfl rfl
  case hB =>
    intro hs3
    (try simp only [decide_eq_true_eq, decide_eq_false_iff_not, Bool.or_eq_true, Bool.and_eq_true, Bool.or_eq_false_iff, Bool.and_eq_false_iff, bne_iff_ne, beq_iff_eq, beq_eq_false_iff_ne, bne_eq_false_iff_eq, ne_eq, Bool.not_eq_true', Bool.not_eq_false', Int.not_lt, Int.not_le, Decidable.not_not, List.length_map, List.length_cons, List.length_nil] at hs3)
    refine G.mv rfl ?_
    refine WpOpsG.nil ?_
    exact ⟨rfl, (by repeat (first | exact LLe.refl _ | refine LLe.cons rfl ?_)), (by repeat (first | exact HLe.refl _ | refine HLe.cons rfl ?_)), rfl⟩
  first | refine G.pickT rfl rfl ?_ | refine G.pickF rfl rfl ?_ | refine G.pick rfl rfl rfl ?_
  refine G.mv rfl ?_
  rw [more_val]
  refine WpOpsG.known 81 true rfl rfl ?_
  refine G.call0 rfl rfl (known8_ok) ?_
  rintro _ _ ⟨rfl, rfl⟩
  refine ⟨rfl, ?_⟩
  change WpOpsG _ _ ((82, _) :: _) _ _
  first | refine G.pickT rfl rfl ?_ | refine G.pickF rfl rfl ?_ | refine G.pick rfl rfl rfl ?_
  refine G.mv rfl ?_
  refine WpOpsG.nil ?_
  change WpG _ _ _ _ _
  refine WpG.ret ?_
  refine ⟨_, [], rfl, (hasP_le (by repeat (first | exact trivial | refine ⟨rfl, ?_⟩))), rfl, rfl, rfl, ?_⟩
  exact ⟨rfl, rfl⟩
end Go.AM.L8
