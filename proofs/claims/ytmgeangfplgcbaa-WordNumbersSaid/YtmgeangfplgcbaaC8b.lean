/- Contracts of the functions that the statement reaches. No condition. -/
import Derived.Test.YtmgeangfplgcbaaC8a
set_option linter.all false
set_option maxRecDepth 10000
namespace Go.AM.L8
open Go.AM.PL
theorem to_ok (dep : List (List Bool)) (a b : Int) (hd : dep.length ≤ 2 ^ 50) (hd2 : ∀ r ∈ dep, r.length ≤ 2 ^ 50) : WpCallG A 35 [.fsl 1 (dep.map encBs), .v (.int .i64 a), .v (.int .i64 b)] [] (fun v H => v = .v (.bool (toV dep a b)) ∧ H = []) := by
  refine WpCallG.intro g35 rfl rfl ?_
  unfold af35
  change WpG _ _ _ _ _
  refine WpG.seq ?_
  refine WpG.reg ?_
  refine G.mv rfl ?_
  refine WpOpsG.nil ?_
  change WpG _ _ _ _ _
  refine WpG.seq ?_
  refine WpG.reg ?_
  refine G.mv rfl ?_
  refine G.bin rfl rfl rfl ?_
  refine G.mv rfl ?_
  apply G.andS rfl rfl rfl rfl rfl rfl
  case hB =>
    intro hs1
    (try simp only [decide_eq_true_eq, decide_eq_false_iff_not, Bool.or_eq_true, Bool.and_eq_true, Bool.or_eq_false_iff, Bool.and_eq_false_iff, bne_iff_ne, beq_iff_eq, beq_eq_false_iff_ne, bne_eq_false_iff_eq, ne_eq, Bool.not_eq_true', Bool.not_eq_false', Int.not_lt, Int.not_le, Decidable.not_not, List.length_map, List.length_cons, List.length_nil] at hs1)
    refine G.mv rfl ?_
    refine G.bin rfl rfl rfl ?_
    refine WpOpsG.nil ?_
    exact ⟨rfl, (by repeat (first | exact LLe.refl _ | refine LLe.cons rfl ?_)), (by repeat (first | exact HLe.refl _ | refine HLe.cons rfl ?_)), rfl⟩
  refine G.mv rfl ?_
  apply G.andS rfl rfl rfl rfl rfl rfl
  case hB =>
    intro hs2
    (try simp only [decide_eq_true_eq, decide_eq_false_iff_not, Bool.or_eq_true, Bool.and_eq_true, Bool.or_eq_false_iff, Bool.and_eq_false_iff, bne_iff_ne, beq_iff_eq, beq_eq_false_iff_ne, bne_eq_false_iff_eq, ne_eq, Bool.not_eq_true', Bool.not_eq_false', Int.not_lt, Int.not_le, Decidable.not_not, List.length_map, List.length_cons, List.length_nil] at hs2)
    refine G.mv rfl ?_
    refine G.mv rfl ?_
    first | refine G.lenM rfl ?_ | refine G.lenOM rfl rfl ?_ | refine G.lenF rfl ?_ | refine G.lenO rfl rfl ?_ | refine G.lenNil rfl ?_
    refine G.bin rfl rfl rfl ?_
    refine WpOpsG.nil ?_
    exact ⟨rfl, (by repeat (first | exact LLe.refl _ | refine LLe.cons rfl ?_)), (by repeat (first | exact HLe.refl _ | refine HLe.cons rfl ?_)), rfl⟩
  refine G.mv rfl ?_
  apply G.andS rfl rfl rfl rfl rfl rfl
  case hB =>
    intro hs3
    (try simp only [decide_eq_true_eq, decide_eq_false_iff_not, Bool.or_eq_true, Bool.and_eq_true, Bool.or_eq_false_iff, Bool.and_eq_false_iff, bne_iff_ne, beq_iff_eq, beq_eq_false_iff_ne, bne_eq_false_iff_eq, ne_eq, Bool.not_eq_true', Bool.not_eq_false', Int.not_lt, Int.not_le, Decidable.not_not, List.length_map, List.length_cons, List.length_nil] at hs3)
    refine G.mv rfl ?_
    refine G.mv rfl ?_
    refine G.mv rfl ?_
    refine G.iaddrM rfl rfl (by omega) (gd8 [] (by omega)) ?_
    first | refine G.load1B rfl rfl rfl ?_ | refine G.load1F rfl rfl ?_ | refine G.load1E rfl rfl (List.getElem?_eq_getElem (by first | omega | (simp only [List.length_map, List.length_append, List.length_cons, List.length_nil, List.length_replicate, List.length_take, List.length_drop, List.length_set]; omega))) rfl ?_ | refine G.load1EM rfl rfl (List.getElem?_eq_getElem (by first | omega | (simp only [List.length_map, List.length_append, List.length_cons, List.length_nil, List.length_replicate, List.length_take, List.length_drop, List.length_set]; omega))) rfl ?_
    first | refine G.lenM rfl ?_ | refine G.lenOM rfl rfl ?_ | refine G.lenF rfl ?_ | refine G.lenO rfl rfl ?_ | refine G.lenNil rfl ?_
    refine G.bin rfl rfl rfl ?_
    refine WpOpsG.nil ?_
    exact ⟨rfl, (by repeat (first | exact LLe.refl _ | refine LLe.cons rfl ?_)), (by repeat (first | exact HLe.refl _ | refine HLe.cons rfl ?_)), rfl⟩
  refine G.mv rfl ?_
  apply G.andS rfl rfl rfl rfl rfl rfl
  case hB =>
    intro hs4
    (try simp only [decide_eq_true_eq, decide_eq_false_iff_not, Bool.or_eq_true, Bool.and_eq_true, Bool.or_eq_false_iff, Bool.and_eq_false_iff, bne_iff_ne, beq_iff_eq, beq_eq_false_iff_ne, bne_eq_false_iff_eq, ne_eq, Bool.not_eq_true', Bool.not_eq_false', Int.not_lt, Int.not_le, Decidable.not_not, List.length_map, List.length_cons, List.length_nil] at hs4)
    refine G.mv rfl ?_
    refine G.mv rfl ?_
    refine G.iaddrM rfl rfl (by omega) (gd8 [] (by omega)) ?_
    first | refine G.load1B rfl rfl rfl ?_ | refine G.load1F rfl rfl ?_ | refine G.load1E rfl rfl (List.getElem?_eq_getElem (by first | omega | (simp only [List.length_map, List.length_append, List.length_cons, List.length_nil, List.length_replicate, List.length_take, List.length_drop, List.length_set]; omega))) rfl ?_ | refine G.load1EM rfl rfl (List.getElem?_eq_getElem (by first | omega | (simp only [List.length_map, List.length_append, List.length_cons, List.length_nil, List.length_replicate, List.length_take, List.length_drop, List.length_set]; omega))) rfl ?_
    refine G.mv rfl ?_
    refine G.iaddrM rfl rfl (by omega) (gd8 false (by omega)) ?_
    first | refine G.load1B rfl rfl rfl ?_ | refine G.load1F rfl rfl ?_ | refine G.load1E rfl rfl (List.getElem?_eq_getElem (by first | omega | (simp only [List.length_map, List.length_append, List.length_cons, List.length_nil, List.length_replicate, List.length_take, List.length_drop, List.length_set]; omega))) rfl ?_ | refine G.load1EM rfl rfl (List.getElem?_eq_getElem (by first | omega | (simp only [List.length_map, List.length_append, List.length_cons, List.length_nil, List.length_replicate, List.length_take, List.length_drop, List.length_set]; omega))) rfl ?_
    refine WpOpsG.nil ?_
    exact ⟨rfl, (by repeat (first | exact LLe.refl _ | refine LLe.cons rfl ?_)), (by repeat (first | exact HLe.refl _ | refine HLe.cons rfl ?_)), rfl⟩
  refine G.mv rfl ?_
  refine WpOpsG.nil ?_
  change WpG _ _ _ _ _
  refine WpG.ret ?_
  refine ⟨_, [], rfl, (hasP_le (by repeat (first | exact trivial | refine ⟨rfl, ?_⟩))), rfl, rfl, rfl, ?_⟩
  exact ⟨rfl, rfl⟩
theorem depends_ok (dep : List (List Bool)) (a b : Int) (hd : dep.length ≤ 2 ^ 50) (hd2 : ∀ r ∈ dep, r.length ≤ 2 ^ 50) : WpCallG A 30 [.fsl 1 (dep.map encBs), .v (.int .i64 a), .v (.int .i64 b)] [] (fun v H => v = .v (.bool (depV8 dep a b)) ∧ H = []) := by
  refine WpCallG.intro g30 rfl rfl ?_
  unfold af30
  change WpG _ _ _ _ _
  refine WpG.seq ?_
  refine WpG.reg ?_
  refine G.mv rfl ?_
  refine WpOpsG.nil ?_
  change WpG _ _ _ _ _
  refine WpG.seq ?_
  refine WpG.reg ?_
  refine G.mv rfl ?_
  refine G.mv rfl ?_
  refine G.bin rfl rfl rfl ?_
  refine G.mv rfl ?_
  apply G.orS rfl rfl rfl rfl rfl rfl
  case hB =>
    intro hs1
    (try simp only [decide_eq_true_eq, decide_eq_false_iff_not, Bool.or_eq_true, Bool.and_eq_true, Bool.or_eq_false_iff, Bool.and_eq_false_iff, bne_iff_ne, beq_iff_eq, beq_eq_false_iff_ne, bne_eq_false_iff_eq, ne_eq, Bool.not_eq_true', Bool.not_eq_false', Int.not_lt, Int.not_le, Decidable.not_not, List.length_map, List.length_cons, List.length_nil] at hs1)
    refine G.mv rfl ?_
    refine G.mv rfl ?_
    refine G.mv rfl ?_
    refine G.call0 rfl rfl (to_ok dep a b hd hd2) ?_
    rintro _ _ ⟨rfl, rfl⟩
    refine ⟨rfl, ?_⟩
    change WpOpsG _ _ ((14, _) :: _) _ _
    refine WpOpsG.nil ?_
    exact ⟨rfl, (by repeat (first | exact LLe.refl _ | refine LLe.cons rfl ?_)), (by repeat (first | exact HLe.refl _ | refine HLe.cons rfl ?_)), rfl⟩
  refine G.mv rfl ?_
  apply G.orS rfl rfl rfl rfl rfl rfl
  case hB =>
    intro hs2
    (try simp only [decide_eq_true_eq, decide_eq_false_iff_not, Bool.or_eq_true, Bool.and_eq_true, Bool.or_eq_false_iff, Bool.and_eq_false_iff, bne_iff_ne, beq_iff_eq, beq_eq_false_iff_ne, bne_eq_false_iff_eq, ne_eq, Bool.not_eq_true', Bool.not_eq_false', Int.not_lt, Int.not_le, Decidable.not_not, List.length_map, List.length_cons, List.length_nil] at hs2)
    refine G.mv rfl ?_
    refine G.mv rfl ?_
    refine G.mv rfl ?_
    refine G.call0 rfl rfl (to_ok dep b a hd hd2) ?_
    rintro _ _ ⟨rfl, rfl⟩
    refine ⟨rfl, ?_⟩
    change WpOpsG _ _ ((20, _) :: _) _ _
    refine WpOpsG.nil ?_
    exact ⟨rfl, (by repeat (first | exact LLe.refl _ | refine LLe.cons rfl ?_)), (by repeat (first | exact HLe.refl _ | refine HLe.cons rfl ?_)), rfl⟩
  refine G.mv rfl ?_
  refine WpOpsG.nil ?_
  change WpG _ _ _ _ _
  refine WpG.ret ?_
  refine ⟨_, [], rfl, (hasP_le (by repeat (first | exact trivial | refine ⟨rfl, ?_⟩))), rfl, rfl, rfl, ?_⟩
  exact ⟨rfl, rfl⟩
theorem differ_ok (a b : List Rn) (dep : List (List Bool)) (ha : a.length ≤ 2 ^ 40) (hao : ∀ r ∈ a, okN r) (hb : b.length ≤ 2 ^ 40) (hbo : ∀ r ∈ b, okN r) (hd : dep.length ≤ 2 ^ 50) (hd2 : ∀ r ∈ dep, r.length ≤ 2 ^ 50) : WpCallG A 21 [.fsl 2 (a.map encN), .fsl 2 (b.map encN), .fsl 1 (dep.map encBs)] [] (fun v H => v = .tup [.v (.int .i64 (differV a b dep).1), .v (.int .i64 (differV a b dep).2.1), .v (.bool (differV a b dep).2.2)] ∧ H = []) := by
  refine WpCallG.intro g21 rfl rfl ?_
  unfold af21
  change WpG _ _ _ _ _
  refine WpG.seq ?_
  refine WpG.reg ?_
  refine G.mv rfl ?_
  refine G.mv rfl ?_
  refine G.mv rfl ?_
  refine WpOpsG.nil ?_
  change WpG _ _ _ _ _
  refine WpG.seq ?_
  refine WpG.seq ?_
  refine WpG.reg ?_
  refine G.mv rfl ?_
  refine WpOpsG.nil ?_
  change WpG _ _ _ _ _
  refine WpG.block ?_
  refine WpG.loop (S := Nat) (fun x => [(0, .fsl 2 (a.map encN)), (1, .fsl 2 (b.map encN)), (2, .fsl 1 (dep.map encBs)), (11, .v (.int .i64 (x : Int)))]) (fun _ => []) (fun x => x ≤ 6 ∧ dxV a b dep (6 - x) x = dxV a b dep 6 0) (fun x => 6 - x) (fun s => ⟨rfl, rfl⟩) ?_ 0 ?_ (by repeat (first | exact trivial | refine ⟨rfl, ?_⟩)) (by repeat (first | exact trivial | refine ⟨rfl, ?_⟩)) rfl
  · rintro x ⟨hx, hT⟩
    refine WpG.seq ?_
    refine WpG.reg ?_
    refine G.bin rfl rfl rfl ?_
    refine WpOpsG.nil ?_
    change WpG _ _ _ _ _
    refine WpG.seq ?_
    refine WpG.cond rfl (fun hq1 => ?_) (fun hq1 => ?_)
    · (try simp only [decide_eq_true_eq, decide_eq_false_iff_not, Bool.or_eq_true, Bool.and_eq_true, Bool.or_eq_false_iff, Bool.and_eq_false_iff, bne_iff_ne, beq_iff_eq, beq_eq_false_iff_ne, bne_eq_false_iff_eq, ne_eq, Bool.not_eq_true', Bool.not_eq_false', Int.not_lt, Int.not_le, Decidable.not_not, List.length_map, List.length_cons, List.length_nil] at hq1)
      refine WpG.skip ?_
      change WpG _ _ _ _ _
      refine WpG.seq ?_
      refine WpG.block ?_
      refine WpG.seq ?_
      refine WpG.reg ?_
      refine G.mv rfl ?_
      refine G.mv rfl ?_
      refine WpOpsG.nil ?_
      change WpG _ _ _ _ _
      refine WpG.seq ?_
      refine WpG.reg ?_
      refine G.mv rfl ?_
      refine G.mv rfl ?_
      refine WpOpsG.nil ?_
      change WpG _ _ _ _ _
      refine WpG.block ?_
      refine WpG.loop (S := Nat) (fun y => [(0, .fsl 2 (a.map encN)), (1, .fsl 2 (b.map encN)), (2, .fsl 1 (dep.map encBs)), (9, .v (.int .i64 (x : Int))), (10, .v (.int .i64 (y : Int))), (11, .v (.int .i64 (x : Int)))]) (fun _ => []) (fun y => x ≤ y ∧ y ≤ 6 ∧ dyV a b dep x (6 - y) y = dyV a b dep x (6 - x) x) (fun y => 6 - y) (fun s => ⟨rfl, rfl⟩) ?_ x ?_ (by repeat (first | exact trivial | refine ⟨rfl, ?_⟩)) (by repeat (first | exact trivial | refine ⟨rfl, ?_⟩)) rfl
      · rintro y ⟨hy0, hy, hE⟩
        refine WpG.seq ?_
        refine WpG.seq ?_
        refine WpG.reg ?_
        refine G.mv rfl ?_
        refine G.bin rfl rfl rfl ?_
        refine WpOpsG.nil ?_
        change WpG _ _ _ _ _
        refine WpG.cond rfl (fun hq2 => ?_) (fun hq2 => ?_)
        · (try simp only [decide_eq_true_eq, decide_eq_false_iff_not, Bool.or_eq_true, Bool.and_eq_true, Bool.or_eq_false_iff, Bool.and_eq_false_iff, bne_iff_ne, beq_iff_eq, beq_eq_false_iff_ne, bne_eq_false_iff_eq, ne_eq, Bool.not_eq_true', Bool.not_eq_false', Int.not_lt, Int.not_le, Decidable.not_not, List.length_map, List.length_cons, List.length_nil] at hq2)
          refine WpG.skip ?_
          change WpG _ _ _ _ _
          refine WpG.seq ?_
          refine WpG.block ?_
          refine WpG.seq ?_
          refine WpG.reg ?_
          refine G.mv rfl ?_
          refine G.mv rfl ?_
          refine G.mv rfl ?_
          refine G.call0 rfl rfl (depends_ok dep (x : Int) (y : Int) hd hd2) ?_
          rintro _ _ ⟨rfl, rfl⟩
          refine ⟨rfl, ?_⟩
          change WpOpsG _ _ ((22, _) :: _) _ _
          refine G.mv rfl ?_
          apply G.andS rfl rfl rfl rfl rfl rfl
          case hB =>
            intro hs3
            (try simp only [decide_eq_true_eq, decide_eq_false_iff_not, Bool.or_eq_true, Bool.and_eq_true, Bool.or_eq_false_iff, Bool.and_eq_false_iff, bne_iff_ne, beq_iff_eq, beq_eq_false_iff_ne, bne_eq_false_iff_eq, ne_eq, Bool.not_eq_true', Bool.not_eq_false', Int.not_lt, Int.not_le, Decidable.not_not, List.length_map, List.length_cons, List.length_nil] at hs3)
            refine G.mv rfl ?_
            refine G.mv rfl ?_
            refine G.mv rfl ?_
            refine G.call0 rfl rfl ((project_ok a (x : Int) (y : Int) ha hao).ren [(0, 20)]) ?_
            rintro _ _ ⟨_, _, ⟨rfl, rfl⟩, rfl, rfl⟩
            change newOk _ _ [(20, _)] = true ∧ _
            refine ⟨rfl, ?_⟩
            change WpOpsG _ _ ((27, .osl 20) :: _) ([(20, .arr .yes 2 ((projV a (x : Int) (y : Int)).map encN))] ++ _) _
            refine G.mv rfl ?_
            refine G.mv rfl ?_
            refine G.mv rfl ?_
            refine G.call0 rfl rfl ((project_ok b (x : Int) (y : Int) hb hbo).ren [(0, 21)]) ?_
            rintro _ _ ⟨_, _, ⟨rfl, rfl⟩, rfl, rfl⟩
            change newOk _ _ [(21, _)] = true ∧ _
            refine ⟨rfl, ?_⟩
            change WpOpsG _ _ ((31, .osl 21) :: _) ([(21, .arr .yes 2 ((projV b (x : Int) (y : Int)).map encN))] ++ _) _
            refine G.lend rfl rfl (equalN_ok (projV a (x : Int) (y : Int)) (projV b (x : Int) (y : Int)) (by have := projV_len a (x : Int) (y : Int); omega) (by have := projV_len b (x : Int) (y : Int); omega)) ?_
            rintro _ _ ⟨rfl, rfl⟩
            refine ⟨rfl, trivial, rfl, ?_⟩
            change WpOpsG _ _ ((32, _) :: _) _ _
            refine G.un rfl rfl ?_
            refine WpOpsG.nil ?_
            exact ⟨rfl, (by repeat (first | exact LLe.refl _ | refine LLe.cons rfl ?_)), (by repeat (first | exact HLe.refl _ | refine HLe.cons rfl ?_)), rfl⟩
          refine WpOpsG.nil ?_
          change WpG _ _ _ _ _
          refine WpG.cond rfl (fun hq4 => ?_) (fun hq4 => ?_)
          · (try simp only [decide_eq_true_eq, decide_eq_false_iff_not, Bool.or_eq_true, Bool.and_eq_true, Bool.or_eq_false_iff, Bool.and_eq_false_iff, bne_iff_ne, beq_iff_eq, beq_eq_false_iff_ne, bne_eq_false_iff_eq, ne_eq, Bool.not_eq_true', Bool.not_eq_false', Int.not_lt, Int.not_le, Decidable.not_not, List.length_map, List.length_cons, List.length_nil] at hq4)
            refine WpG.seq ?_
            refine WpG.reg ?_
            refine G.mv rfl ?_
            refine G.mv rfl ?_
            refine G.mv rfl ?_
            refine G.mv rfl ?_
            refine G.mv rfl ?_
            refine WpOpsG.nil ?_
            change WpG _ _ _ _ _
            refine WpG.ret ?_
            refine ⟨_, [], rfl, (hasP_le (by repeat (first | exact trivial | refine ⟨rfl, ?_⟩))), rfl, rfl, rfl, ?_⟩
            have hE2 := hE
            rw [show 6 - y = (6 - (y + 1)) + 1 by omega, dyV, if_pos (difV_T hq4)] at hE2
            have hT2 := hT
            rw [show 6 - x = (6 - (x + 1)) + 1 by omega, dxV, ← hE2] at hT2
            have e : differV a b dep = ((x : Int), (y : Int), true) := by unfold differV; rw [← hT2]
            rw [e]; exact ⟨rfl, rfl⟩
          · (try simp only [decide_eq_true_eq, decide_eq_false_iff_not, Bool.or_eq_true, Bool.and_eq_true, Bool.or_eq_false_iff, Bool.and_eq_false_iff, bne_iff_ne, beq_iff_eq, beq_eq_false_iff_ne, bne_eq_false_iff_eq, ne_eq, Bool.not_eq_true', Bool.not_eq_false', Int.not_lt, Int.not_le, Decidable.not_not, List.length_map, List.length_cons, List.length_nil] at hq4)
            refine WpG.skip ?_
            change WpG _ _ _ _ _
            refine WpG.reg ?_
            refine G.mv rfl ?_
            first | refine G.addI rfl rfl (by omega) ?_ | refine G.bin rfl rfl rfl ?_
            refine G.mv rfl ?_
            refine WpOpsG.nil ?_
            have hE2 := hE
            rw [show 6 - y = (6 - (y + 1)) + 1 by omega, dyV, if_neg (difV_F hq4)] at hE2
            exact ⟨y + 1, by omega, ⟨by omega, by omega, hE2⟩, ⟨rfl, rfl, rfl, rfl, rfl, rfl, trivial⟩, trivial, rfl⟩
        · (try simp only [decide_eq_true_eq, decide_eq_false_iff_not, Bool.or_eq_true, Bool.and_eq_true, Bool.or_eq_false_iff, Bool.and_eq_false_iff, bne_iff_ne, beq_iff_eq, beq_eq_false_iff_ne, bne_eq_false_iff_eq, ne_eq, Bool.not_eq_true', Bool.not_eq_false', Int.not_lt, Int.not_le, Decidable.not_not, List.length_map, List.length_cons, List.length_nil] at hq2)
          refine WpG.exit ?_
          change WpG _ _ _ _ _
          refine WpG.reg ?_
          first | refine G.addI rfl rfl (by omega) ?_ | refine G.bin rfl rfl rfl ?_
          refine G.mv rfl ?_
          refine WpOpsG.nil ?_
          have hy6 : y = 6 := by omega
          subst hy6
          have hE0 : dyV a b dep x (6 - x) x = none := by rw [← hE]; rfl
          rw [show 6 - x = (6 - (x + 1)) + 1 by omega, dxV, show 6 - x = 6 - x from rfl, hE0] at hT
          exact ⟨x + 1, by omega, ⟨by omega, hT⟩, ⟨rfl, rfl, rfl, rfl, trivial⟩, trivial, rfl⟩
      · exact ⟨Nat.le_refl _, hx, rfl⟩
    · (try simp only [decide_eq_true_eq, decide_eq_false_iff_not, Bool.or_eq_true, Bool.and_eq_true, Bool.or_eq_false_iff, Bool.and_eq_false_iff, bne_iff_ne, beq_iff_eq, beq_eq_false_iff_ne, bne_eq_false_iff_eq, ne_eq, Bool.not_eq_true', Bool.not_eq_false', Int.not_lt, Int.not_le, Decidable.not_not, List.length_map, List.length_cons, List.length_nil] at hq1)
      refine WpG.exit ?_
      change WpG _ _ _ _ _
      refine WpG.seq ?_
      refine WpG.reg ?_
      refine G.mv rfl ?_
      refine G.call0 rfl rfl (uticks_ok a (-1) ha hao) ?_
      rintro _ _ ⟨rfl, rfl⟩
      refine ⟨rfl, ?_⟩
      change WpOpsG _ _ ((39, _) :: _) _ _
      refine G.mv rfl ?_
      refine G.call0 rfl rfl (uticks_ok b (-1) hb hbo) ?_
      rintro _ _ ⟨rfl, rfl⟩
      refine ⟨rfl, ?_⟩
      change WpOpsG _ _ ((41, _) :: _) _ _
      refine G.bin rfl rfl rfl ?_
      refine G.mv rfl ?_
      refine G.mv rfl ?_
      refine G.mv rfl ?_
      refine WpOpsG.nil ?_
      change WpG _ _ _ _ _
      refine WpG.ret ?_
      refine ⟨_, [], rfl, (hasP_le (by repeat (first | exact trivial | refine ⟨rfl, ?_⟩))), rfl, rfl, rfl, ?_⟩
      have hx6 : x = 6 := by omega
      subst hx6
      have e : differV a b dep = (-1, -1, tickV a (-1) != tickV b (-1)) := by unfold differV; rw [← hT]; rfl
      rw [e]; exact ⟨rfl, rfl⟩
  · exact ⟨by decide, rfl⟩
theorem wsame_ok (a b : List Rn) (dep : List (List Bool)) (ha : a.length ≤ 2 ^ 40) (hao : ∀ r ∈ a, okN r) (hb : b.length ≤ 2 ^ 40) (hbo : ∀ r ∈ b, okN r) (hd : dep.length ≤ 2 ^ 50) (hd2 : ∀ r ∈ dep, r.length ≤ 2 ^ 50) : WpCallG A 19 [.fsl 2 (a.map encN), .fsl 2 (b.map encN), .fsl 1 (dep.map encBs)] [] (fun v H => v = .v (.bool (!(differV a b dep).2.2)) ∧ H = []) := by
  refine WpCallG.intro g19 rfl rfl ?_
  unfold af19
  change WpG _ _ _ _ _
  refine WpG.seq ?_
  refine WpG.reg ?_
  refine G.mv rfl ?_
  refine WpOpsG.nil ?_
  change WpG _ _ _ _ _
  refine WpG.seq ?_
  refine WpG.reg ?_
  refine G.mv rfl ?_
  refine G.mv rfl ?_
  refine G.mv rfl ?_
  refine G.call0 rfl rfl (differ_ok a b dep ha hao hb hbo hd hd2) ?_
  rintro _ _ ⟨rfl, rfl⟩
  refine ⟨rfl, ?_⟩
  change WpOpsG _ _ ((14, _) :: _) _ _
  refine G.mv rfl ?_
  refine G.ext rfl rfl ?_
  refine G.ext rfl rfl ?_
  refine G.ext rfl rfl ?_
  refine G.mv rfl ?_
  refine G.mv rfl ?_
  refine G.mv rfl ?_
  refine WpOpsG.nil ?_
  change WpG _ _ _ _ _
  refine WpG.seq ?_
  refine WpG.reg ?_
  refine G.mv rfl ?_
  refine G.un rfl rfl ?_
  refine G.mv rfl ?_
  refine WpOpsG.nil ?_
  change WpG _ _ _ _ _
  refine WpG.ret ?_
  refine ⟨_, [], rfl, (hasP_le (by repeat (first | exact trivial | refine ⟨rfl, ?_⟩))), rfl, rfl, rfl, ?_⟩
  exact ⟨rfl, rfl⟩
theorem swap_ok (l : List Rn) (a : Int) (hn : l.length ≤ 2 ^ 40) (ha : i64 a) : WpCallG A 11 [.fsl 2 (l.map encN), .v (.int .i64 a)] [] (fun v H => v = .osl 0 ∧ H = [(0, .arr .yes 2 ((swapV l a).map encN))]) := by
  unfold i64 at ha
  refine WpCallG.intro g11 rfl rfl ?_
  unfold af11
  change WpG _ _ _ _ _
  refine WpG.seq ?_
  refine WpG.reg ?_
  refine G.mv rfl ?_
  refine WpOpsG.nil ?_
  change WpG _ _ _ _ _
  refine WpG.seq ?_
  refine WpG.reg ?_
  refine G.mv rfl ?_
  refine G.call0 rfl rfl (cloneN_ok l (by omega)) ?_
  rintro _ _ ⟨rfl, rfl⟩
  refine ⟨rfl, ?_⟩
  change WpOpsG _ _ ((7, .osl 0) :: _) ((0, .arr .yes 2 (l.map encN)) :: _) _
  refine G.mv rfl ?_
  refine WpOpsG.nil ?_
  change WpG _ _ _ _ _
  refine WpG.seq ?_
  refine WpG.seq ?_
  refine WpG.reg ?_
  refine G.mv rfl ?_
  refine G.bin rfl rfl rfl ?_
  refine G.mv rfl ?_
  apply G.andS rfl rfl rfl rfl rfl rfl
  case hB =>
    intro hs1
    (try simp only [decide_eq_true_eq, decide_eq_false_iff_not, Bool.or_eq_true, Bool.and_eq_true, Bool.or_eq_false_iff, Bool.and_eq_false_iff, bne_iff_ne, beq_iff_eq, beq_eq_false_iff_ne, bne_eq_false_iff_eq, ne_eq, Bool.not_eq_true', Bool.not_eq_false', Int.not_lt, Int.not_le, Decidable.not_not, List.length_map, List.length_cons, List.length_nil] at hs1)
    refine G.mv rfl ?_
    refine G.mv rfl ?_
    first | refine G.lenM rfl ?_ | refine G.lenOM rfl rfl ?_ | refine G.lenF rfl ?_ | refine G.lenO rfl rfl ?_ | refine G.lenNil rfl ?_
    first | refine G.subI rfl rfl (by omega) ?_ | refine G.bin rfl rfl rfl ?_
    refine G.bin rfl rfl rfl ?_
    refine WpOpsG.nil ?_
    exact ⟨rfl, (by repeat (first | exact LLe.refl _ | refine LLe.cons rfl ?_)), (by repeat (first | exact HLe.refl _ | refine HLe.cons rfl ?_)), rfl⟩
  refine WpOpsG.nil ?_
  change WpG _ _ _ _ _
  refine WpG.cond rfl (fun hq2 => ?_) (fun hq2 => ?_)
  · (try simp only [decide_eq_true_eq, decide_eq_false_iff_not, Bool.or_eq_true, Bool.and_eq_true, Bool.or_eq_false_iff, Bool.and_eq_false_iff, bne_iff_ne, beq_iff_eq, beq_eq_false_iff_ne, bne_eq_false_iff_eq, ne_eq, Bool.not_eq_true', Bool.not_eq_false', Int.not_lt, Int.not_le, Decidable.not_not, List.length_map, List.length_cons, List.length_nil] at hq2)
    obtain ⟨q, rfl⟩ : ∃ q : Nat, a = (q : Int) := ⟨a.toNat, by omega⟩
    refine WpG.reg ?_
    refine G.mv rfl ?_
    refine G.mv rfl ?_
    refine G.mv rfl ?_
    refine G.mv rfl ?_
    first | refine G.addI rfl rfl (by omega) ?_ | refine G.bin rfl rfl rfl ?_
    rw [show (q : Int) + 1 = ((q + 1 : Nat) : Int) by omega]
    refine G.mv rfl ?_
    refine G.mv rfl ?_
    first | refine G.addI rfl rfl (by omega) ?_ | refine G.bin rfl rfl rfl ?_
    rw [show (q : Int) + 1 = ((q + 1 : Nat) : Int) by omega]
    refine G.iaddrO rfl rfl rfl (by omega) (by rw [List.length_map]; omega) ?_
    refine G.loadNEM rfl rfl (gd8 ⟨0, 0⟩ (by omega)) rfl ?_
    refine G.mv rfl ?_
    refine G.mv rfl ?_
    refine G.iaddrO rfl rfl rfl (by omega) (by rw [List.length_map]; omega) ?_
    refine G.loadNEM rfl rfl (gd8 ⟨0, 0⟩ (by omega)) rfl ?_
    refine G.iaddrO rfl rfl rfl (by omega) (by rw [List.length_map]; omega) ?_
    refine G.storeEM (l.getD (q + 1) ⟨0, 0⟩) rfl rfl rfl (gd8 ⟨0, 0⟩ (by omega)) rfl rfl rfl rfl ?_
    refine G.iaddrO rfl rfl rfl (by omega) (by rw [List.length_map, List.length_set]; omega) ?_
    refine G.storeEM (l.getD q ⟨0, 0⟩) rfl rfl rfl (gd8 ⟨0, 0⟩ (by rw [List.length_set]; omega)) rfl rfl rfl rfl ?_
    refine WpOpsG.nil ?_
    change WpG _ _ _ _ _
    refine WpG.seq ?_
    refine WpG.reg ?_
    refine G.mv rfl ?_
    refine G.mv rfl ?_
    refine WpOpsG.nil ?_
    change WpG _ _ _ _ _
    refine WpG.ret ?_
    refine ⟨_, [(0, .arr .yes 2 (((l.set q (l.getD (q + 1) ⟨0, 0⟩)).set (q + 1) (l.getD q ⟨0, 0⟩)).map encN))], rfl, (hasP_le (by repeat (first | exact trivial | refine ⟨rfl, ?_⟩))), rfl, rfl, rfl, ?_⟩
    have e : swapV l (q : Int) = (l.set q (l.getD (q + 1) ⟨0, 0⟩)).set (q + 1) (l.getD q ⟨0, 0⟩) := by unfold swapV; rw [if_pos (by omega), Int.toNat_natCast]
    rw [e]; exact ⟨rfl, rfl⟩
  · (try simp only [decide_eq_true_eq, decide_eq_false_iff_not, Bool.or_eq_true, Bool.and_eq_true, Bool.or_eq_false_iff, Bool.and_eq_false_iff, bne_iff_ne, beq_iff_eq, beq_eq_false_iff_ne, bne_eq_false_iff_eq, ne_eq, Bool.not_eq_true', Bool.not_eq_false', Int.not_lt, Int.not_le, Decidable.not_not, List.length_map, List.length_cons, List.length_nil] at hq2)
    refine WpG.skip ?_
    change WpG _ _ _ _ _
    refine WpG.seq ?_
    refine WpG.reg ?_
    refine G.mv rfl ?_
    refine G.mv rfl ?_
    refine WpOpsG.nil ?_
    change WpG _ _ _ _ _
    refine WpG.ret ?_
    refine ⟨_, [(0, .arr .yes 2 (l.map encN))], rfl, (hasP_le (by repeat (first | exact trivial | refine ⟨rfl, ?_⟩))), rfl, rfl, rfl, ?_⟩
    have e : swapV l a = l := by unfold swapV; rw [if_neg (by omega)]
    rw [e]; exact ⟨rfl, rfl⟩
end Go.AM.L8
