/- Contracts of the functions that the statement reaches. No condition. -/
import Derived.Test.YtomglcfneeelgaaC7c
set_option linter.all false
set_option maxRecDepth 10000
namespace Go.AM.L7
open Go.AM.PL
theorem gfree_ok (P : List Pt) (C : List Ch) (ts : List (List GV)) (hP : P.length ≤ 2 ^ 30) (hC : C.length ≤ 2 ^ 30) (a b : Int) : WpCallG A 18 [.agg [.fsl 11 (P.map encP), .fsl 6 (C.map encC), .fsl 1 ts], .v (.int .i64 a), .v (.int .i64 b)] [] (fun v H => v = .v (.bool (freeG P C a b)) ∧ H = []) := by
  refine WpCallG.intro g18 rfl rfl ?_
  unfold af18
  change WpG _ _ _ _ _
  refine WpG.seq ?_
  refine WpG.reg ?_
  refine G.box (g := 10) rfl rfl rfl ?_
  refine G.mv rfl ?_
  refine WpOpsG.nil ?_
  change WpG _ _ _ _ _
  refine WpG.seq ?_
  refine WpG.seq ?_
  refine WpG.reg ?_
  refine G.mv rfl ?_
  refine G.bin rfl rfl rfl ?_
  refine G.mv rfl ?_
  apply G.orS rfl rfl rfl rfl rfl rfl
  case hB =>
    intro hs1
    (try simp only [zN] at hs1)
    refine G.mv rfl ?_
    refine G.bin rfl rfl rfl ?_
    refine WpOpsG.nil ?_
    exact ⟨rfl, (by repeat (first | exact LLe.refl _ | refine LLe.cons rfl ?_)), (by repeat (first | exact HLe.refl _ | refine HLe.cons rfl ?_)), rfl⟩
  refine G.mv rfl ?_
  apply G.orS rfl rfl rfl rfl rfl rfl
  case hB =>
    intro hs2
    (try simp only [zN] at hs2)
    refine G.mv rfl ?_
    refine G.faddrB rfl ?_
    refine G.load1B rfl rfl rfl ?_
    refine G.lenM rfl ?_
    refine G.bin rfl rfl rfl ?_
    refine WpOpsG.nil ?_
    exact ⟨rfl, (by repeat (first | exact LLe.refl _ | refine LLe.cons rfl ?_)), (by repeat (first | exact HLe.refl _ | refine HLe.cons rfl ?_)), rfl⟩
  refine G.mv rfl ?_
  apply G.orS rfl rfl rfl rfl rfl rfl
  case hB =>
    intro hs3
    (try simp only [zN] at hs3)
    refine G.mv rfl ?_
    refine G.faddrB rfl ?_
    refine G.load1B rfl rfl rfl ?_
    refine G.lenM rfl ?_
    refine G.bin rfl rfl rfl ?_
    refine WpOpsG.nil ?_
    exact ⟨rfl, (by repeat (first | exact LLe.refl _ | refine LLe.cons rfl ?_)), (by repeat (first | exact HLe.refl _ | refine HLe.cons rfl ?_)), rfl⟩
  refine WpOpsG.nil ?_
  change WpG _ _ _ _ _
  refine WpG.cond rfl (fun hq4 => ?_) (fun hq4 => ?_)
  · (try simp only [zN] at hq4)
    refine WpG.seq ?_
    refine WpG.reg ?_
    refine G.mv rfl ?_
    refine WpOpsG.nil ?_
    change WpG _ _ _ _ _
    refine WpG.ret ?_
    refine ⟨_, [], rfl, (hasP_le (by repeat (first | exact trivial | refine ⟨rfl, ?_⟩))), rfl, rfl, rfl, ?_⟩
    have e : freeG P C a b = false := by unfold freeG; rw [if_pos (by omega)]
    rw [e]; exact ⟨rfl, rfl⟩
  · (try simp only [zN] at hq4)
    refine WpG.skip ?_
    change WpG _ _ _ _ _
    refine WpG.seq ?_
    refine WpG.reg ?_
    refine G.mv rfl ?_
    refine G.bin rfl rfl rfl ?_
    refine G.mv rfl ?_
    apply G.orS rfl rfl rfl rfl rfl rfl
    case hB =>
      intro hs5
      (try simp only [zN] at hs5)
      refine G.mv rfl ?_
      refine G.bin rfl rfl rfl ?_
      refine WpOpsG.nil ?_
      exact ⟨rfl, (by repeat (first | exact LLe.refl _ | refine LLe.cons rfl ?_)), (by repeat (first | exact HLe.refl _ | refine HLe.cons rfl ?_)), rfl⟩
    refine G.mv rfl ?_
    apply G.orS rfl rfl rfl rfl rfl rfl
    case hB =>
      intro hs6
      (try simp only [zN] at hs6)
      refine G.loadNB rfl rfl rfl ?_
      refine G.call0 rfl rfl (gdep_ok P C ts hP hC) ?_
      rintro _ _ ⟨rfl, rfl⟩
      refine ⟨rfl, ?_⟩
      change WpOpsG _ _ ((35, _) :: _) _ _
      refine G.mv rfl ?_
      refine G.iaddrM rfl rfl (by omega) (gd17 [] (by rw [matF_len]; omega)) ?_
      refine G.load1F rfl rfl ?_
      refine G.mv rfl ?_
      refine G.iaddrM rfl rfl (by omega) (gd17 false (by rw [matF_row (by omega)]; omega)) ?_
      refine G.load1F rfl rfl ?_
      refine G.un rfl rfl ?_
      refine WpOpsG.nil ?_
      exact ⟨rfl, (by repeat (first | exact LLe.refl _ | refine LLe.cons rfl ?_)), (by repeat (first | exact HLe.refl _ | refine HLe.cons rfl ?_)), rfl⟩
    refine G.mv rfl ?_
    refine WpOpsG.nil ?_
    change WpG _ _ _ _ _
    refine WpG.ret ?_
    refine ⟨_, [], rfl, (hasP_le (by repeat (first | exact trivial | refine ⟨rfl, ?_⟩))), rfl, rfl, rfl, ?_⟩
    rw [← free_val (by omega)]; exact ⟨rfl, rfl⟩
theorem rfree_ok (P : List Pt) (C : List Ch) (ts : List (List GV)) (hP : P.length ≤ 2 ^ 30) (hC : C.length ≤ 2 ^ 30) (a b : Int) : WpCallG A 26 [.agg [.fsl 11 (P.map encP), .fsl 6 (C.map encC), .fsl 1 ts], .v (.int .i64 a), .v (.int .i64 b)] [] (fun v H => v = .v (.bool (freeG P C a b)) ∧ H = []) := by
  refine WpCallG.intro g26 rfl rfl ?_
  unfold af26
  change WpG _ _ _ _ _
  refine WpG.seq ?_
  refine WpG.reg ?_
  refine G.box (g := 10) rfl rfl rfl ?_
  refine G.mv rfl ?_
  refine WpOpsG.nil ?_
  change WpG _ _ _ _ _
  refine WpG.seq ?_
  refine WpG.seq ?_
  refine WpG.reg ?_
  refine G.mv rfl ?_
  refine G.bin rfl rfl rfl ?_
  refine G.mv rfl ?_
  apply G.andS rfl rfl rfl rfl rfl rfl
  case hB =>
    intro hs1
    (try simp only [zN] at hs1)
    refine G.loadNB rfl rfl rfl ?_
    refine G.mv rfl ?_
    refine G.call0 rfl rfl (gin_ok P C ts a (by omega)) ?_
    rintro _ _ ⟨rfl, rfl⟩
    refine ⟨rfl, ?_⟩
    change WpOpsG _ _ ((12, _) :: _) _ _
    refine G.un rfl rfl ?_
    refine WpOpsG.nil ?_
    exact ⟨rfl, (by repeat (first | exact LLe.refl _ | refine LLe.cons rfl ?_)), (by repeat (first | exact HLe.refl _ | refine HLe.cons rfl ?_)), rfl⟩
  refine G.mv rfl ?_
  apply G.orS rfl rfl rfl rfl rfl rfl
  case hB =>
    intro hs2
    (try simp only [zN] at hs2)
    refine G.mv rfl ?_
    refine G.bin rfl rfl rfl ?_
    refine G.mv rfl ?_
    apply G.andS rfl rfl rfl rfl rfl rfl
    case hB =>
      intro hs3
      (try simp only [zN] at hs3)
      refine G.loadNB rfl rfl rfl ?_
      refine G.mv rfl ?_
      refine G.call0 rfl rfl (gin_ok P C ts b (by omega)) ?_
      rintro _ _ ⟨rfl, rfl⟩
      refine ⟨rfl, ?_⟩
      change WpOpsG _ _ ((21, _) :: _) _ _
      refine G.un rfl rfl ?_
      refine WpOpsG.nil ?_
      exact ⟨rfl, (by repeat (first | exact LLe.refl _ | refine LLe.cons rfl ?_)), (by repeat (first | exact HLe.refl _ | refine HLe.cons rfl ?_)), rfl⟩
    refine WpOpsG.nil ?_
    exact ⟨rfl, (by repeat (first | exact LLe.refl _ | refine LLe.cons rfl ?_)), (by repeat (first | exact HLe.refl _ | refine HLe.cons rfl ?_)), rfl⟩
  refine WpOpsG.nil ?_
  change WpG _ _ _ _ _
  refine WpG.cond rfl (fun hq4 => ?_) (fun hq4 => ?_)
  · (try simp only [zN] at hq4)
    have hno : ((a < -1 ∨ b < -1) ∨ a ≥ (P.length : Int)) ∨ b ≥ (P.length : Int) := gfree_T hq4
    refine WpG.seq ?_
    refine WpG.reg ?_
    refine G.mv rfl ?_
    refine WpOpsG.nil ?_
    change WpG _ _ _ _ _
    refine WpG.ret ?_
    refine ⟨_, [], rfl, (hasP_le (by repeat (first | exact trivial | refine ⟨rfl, ?_⟩))), rfl, rfl, rfl, ?_⟩
    have e : freeG P C a b = false := by unfold freeG; rw [if_pos hno]
    rw [e]; exact ⟨rfl, rfl⟩
  · (try simp only [zN] at hq4)
    have hno : ¬ (((a < -1 ∨ b < -1) ∨ a ≥ (P.length : Int)) ∨ b ≥ (P.length : Int)) := gfree_F hq4
    refine WpG.skip ?_
    change WpG _ _ _ _ _
    refine WpG.seq ?_
    refine WpG.reg ?_
    refine G.mv rfl ?_
    refine G.bin rfl rfl rfl ?_
    refine G.mv rfl ?_
    apply G.orS rfl rfl rfl rfl rfl rfl
    case hB =>
      intro hs5
      (try simp only [zN] at hs5)
      refine G.mv rfl ?_
      refine G.bin rfl rfl rfl ?_
      refine WpOpsG.nil ?_
      exact ⟨rfl, (by repeat (first | exact LLe.refl _ | refine LLe.cons rfl ?_)), (by repeat (first | exact HLe.refl _ | refine HLe.cons rfl ?_)), rfl⟩
    refine G.mv rfl ?_
    apply G.orS rfl rfl rfl rfl rfl rfl
    case hB =>
      intro hs6
      (try simp only [zN] at hs6)
      refine G.loadNB rfl rfl rfl ?_
      refine G.call0 rfl rfl (rdep_ok P C ts hP hC) ?_
      rintro _ _ ⟨rfl, rfl⟩
      refine ⟨rfl, ?_⟩
      change WpOpsG _ _ ((33, _) :: _) _ _
      refine G.mv rfl ?_
      refine G.iaddrM rfl rfl (by omega) (gd17 [] (by rw [matF_len]; omega)) ?_
      refine G.load1F rfl rfl ?_
      refine G.mv rfl ?_
      refine G.iaddrM rfl rfl (by omega) (gd17 false (by rw [matF_row (by omega)]; omega)) ?_
      refine G.load1F rfl rfl ?_
      refine G.un rfl rfl ?_
      refine WpOpsG.nil ?_
      exact ⟨rfl, (by repeat (first | exact LLe.refl _ | refine LLe.cons rfl ?_)), (by repeat (first | exact HLe.refl _ | refine HLe.cons rfl ?_)), rfl⟩
    refine G.mv rfl ?_
    refine WpOpsG.nil ?_
    change WpG _ _ _ _ _
    refine WpG.ret ?_
    refine ⟨_, [], rfl, (hasP_le (by repeat (first | exact trivial | refine ⟨rfl, ?_⟩))), rfl, rfl, rfl, ?_⟩
    rw [← free_val hno]; exact ⟨rfl, rfl⟩
theorem clipI_ok (l : List Nat) : WpCallG A 33 [.osl 0] [(0, .arr .yes 1 (l.map encI))] (fun v H => v = .osl 0 ∧ H = [(0, .arr .yes 1 (l.map encI))]) := by
  refine WpCallG.intro g33 rfl rfl ?_
  unfold af33
  change WpG _ _ _ _ _
  refine WpG.seq ?_
  refine WpG.reg ?_
  refine G.mv rfl ?_
  refine WpOpsG.nil ?_
  change WpG _ _ _ _ _
  refine WpG.seq ?_
  refine WpG.reg ?_
  refine G.mv rfl ?_
  refine G.mv rfl ?_
  refine G.lenOM rfl rfl ?_
  refine G.mv rfl ?_
  refine G.lenOM rfl rfl ?_
  refine G.sl3O (n := l.length) rfl rfl rfl rfl (by rw [List.length_map]) ?_
  refine G.mv rfl ?_
  refine WpOpsG.nil ?_
  change WpG _ _ _ _ _
  refine WpG.ret ?_
  refine ⟨_, [(0, .arr .yes 1 (l.map encI))], rfl, (hasP_le (by repeat (first | exact trivial | refine ⟨rfl, ?_⟩))), rfl, rfl, rfl, ?_⟩
  exact ⟨rfl, rfl⟩
theorem greach_ok (P : List Pt) (C : List Ch) (ts : List (List GV)) (hP : P.length ≤ 2 ^ 30) (hC : C.length ≤ 2 ^ 30) (p : Int) : WpCallG A 20 [.agg [.fsl 11 (P.map encP), .fsl 6 (C.map encC), .fsl 1 ts], .v (.int .i64 p)] [] (fun v H => v = .fsl 1 ((reV P.length (clo (swG P C) P.length) p).map encI) ∧ H = []) := by
  refine WpCallG.intro g20 rfl rfl ?_
  unfold af20
  change WpG _ _ _ _ _
  refine WpG.seq ?_
  refine WpG.reg ?_
  refine G.box (g := 10) rfl rfl rfl ?_
  refine G.mv rfl ?_
  refine WpOpsG.nil ?_
  change WpG _ _ _ _ _
  refine WpG.seq ?_
  refine WpG.seq ?_
  refine WpG.reg ?_
  refine G.loadNB rfl rfl rfl ?_
  refine G.mv rfl ?_
  refine G.call0 rfl rfl (gis_ok P C ts p (by omega)) ?_
  rintro _ _ ⟨rfl, rfl⟩
  refine ⟨rfl, ?_⟩
  change WpOpsG _ _ ((10, _) :: _) _ _
  refine G.un rfl rfl ?_
  refine WpOpsG.nil ?_
  change WpG _ _ _ _ _
  refine WpG.cond rfl (fun hq1 => ?_) (fun hq1 => ?_)
  · (try simp only [zN] at hq1)
    refine WpG.seq ?_
    refine WpG.reg ?_
    refine G.mv rfl ?_
    refine WpOpsG.nil ?_
    change WpG _ _ _ _ _
    refine WpG.ownNil (g := 31) (k := 4) (w := 1) rfl rfl ?_
    refine WpG.freeze 31 rfl ?_
    refine WpG.ret ?_
    refine ⟨_, [], rfl, (hasP_le (by repeat (first | exact trivial | refine ⟨rfl, ?_⟩))), rfl, rfl, rfl, ?_⟩
    have e : reV P.length (clo (swG P C) P.length) p = [] := by unfold reV; rw [if_neg (by simpa using hq1)]
    rw [e]; exact ⟨rfl, rfl⟩
  · (try simp only [zN] at hq1)
    refine WpG.skip ?_
    change WpG _ _ _ _ _
    refine WpG.seq ?_
    have hp : isP P.length p = true := by simpa using hq1
    have hp2 := isP_T hp
    refine WpG.reg ?_
    refine G.mv rfl ?_
    refine WpOpsG.nil ?_
    change WpG _ _ _ _ _
    refine WpG.seq ?_
    refine WpG.seq ?_
    refine WpG.reg ?_
    refine G.loadNB rfl rfl rfl ?_
    refine G.call0 rfl rfl (gsw_ok P C ts hP hC) ?_
    rintro _ _ ⟨rfl, rfl⟩
    refine ⟨rfl, ?_⟩
    change WpOpsG _ _ ((13, _) :: _) _ _
    refine G.call0 rfl rfl (gclo_ok (matF P.length (swG P C)) (by rw [matF_len]; exact hP) (fun r hr => by rw [matF_rows r hr]; omega)) ?_
    rintro _ _ ⟨rfl, rfl⟩
    refine ⟨rfl, ?_⟩
    change WpOpsG _ _ ((14, _) :: _) _ _
    rw [clo_mat]
    refine G.lenM rfl ?_
    rw [matF_len]
    refine G.mv rfl ?_
    refine WpOpsG.nil ?_
    change WpG _ _ _ _ _
    refine WpG.block ?_
    refine WpG.ownNil (g := 0) (k := 5) (w := 1) rfl rfl ?_
    refine WpG.loop (S := Nat) (fun i => [(1, .v (.int .i64 p)), (5, .osl 0), (14, .fsl 1 ((matF P.length (clo (swG P C) P.length)).map encBs)), (15, .v (.int .i64 (P.length : Int))), (16, .v (.int .i64 ((i : Nat) : Int)))]) (fun i => [(0, .arr .yes 1 (((List.range i).filter (fun a => clo (swG P C) P.length a p.toNat)).map encI))]) (fun i => i ≤ P.length) (fun i => P.length - i) (fun s => ⟨rfl, rfl⟩) ?_ 0 ?_ (by repeat (first | exact trivial | refine ⟨rfl, ?_⟩)) (by repeat (first | exact trivial | refine ⟨rfl, ?_⟩)) rfl
    · intro i hi
      refine WpG.seq ?_
      refine WpG.reg ?_
      refine G.bin rfl rfl rfl ?_
      refine WpOpsG.nil ?_
      change WpG _ _ _ _ _
      refine WpG.seq ?_
      refine WpG.cond rfl (fun hq2 => ?_) (fun hq2 => ?_)
      · (try simp only [zN] at hq2)
        refine WpG.skip ?_
        change WpG _ _ _ _ _
        refine WpG.seq ?_
        refine WpG.block ?_
        refine WpG.seq ?_
        refine WpG.reg ?_
        refine G.mv rfl ?_
        refine G.iaddrM rfl rfl (by omega) (gd17 [] (by rw [matF_len]; omega)) ?_
        rw [Int.toNat_natCast]
        refine G.load1F rfl rfl ?_
        refine G.mv rfl ?_
        refine G.mv rfl ?_
        refine WpOpsG.nil ?_
        change WpG _ _ _ _ _
        refine WpG.seq ?_
        have hrl := re_len (k := i) (f := (fun a => clo (swG P C) P.length a p.toNat))
        refine WpG.reg ?_
        refine G.mv rfl ?_
        refine G.mv rfl ?_
        refine G.iaddrM rfl rfl (by omega) (gd17 false (by rw [matF_row (by omega)]; omega)) ?_
        refine G.load1F rfl rfl ?_
        rw [matF_get (by omega) (by omega)]
        refine WpOpsG.nil ?_
        change WpG _ _ _ _ _
        refine WpG.cond rfl (fun hq3 => ?_) (fun hq3 => ?_)
        · (try simp only [zN] at hq3)
          have hcc := hq3
          refine WpG.reg ?_
          refine G.mv rfl ?_
          refine G.mv rfl ?_
          refine G.bsliceF rfl rfl rfl ?_
          refine G.app rfl rfl rfl rfl trivial (by rw [List.length_map]; show (_ + 1) * 8 ≤ 2 ^ 47; omega) ?_
          refine G.mv rfl ?_
          refine WpOpsG.nil ?_
          change WpG _ _ _ _ _
          refine WpG.reg ?_
          refine G.addI rfl rfl (by omega) ?_
          refine G.mv rfl ?_
          refine WpOpsG.nil ?_
          refine ⟨i + 1, by omega, by omega, ⟨rfl, rfl, rfl, rfl, rfl, trivial⟩, ⟨?_, trivial⟩, rfl⟩
          rw [re_snoc]
          first
            | (rw [if_neg hcc, List.append_nil]; rfl)
            | (rw [if_pos hcc, List.map_append]; rfl)
        · (try simp only [zN] at hq3)
          have hcc : ¬ clo (swG P C) P.length i p.toNat = true := by rw [hq3]; decide
          refine WpG.skip ?_
          change WpG _ _ _ _ _
          refine WpG.reg ?_
          refine G.addI rfl rfl (by omega) ?_
          refine G.mv rfl ?_
          refine WpOpsG.nil ?_
          refine ⟨i + 1, by omega, by omega, ⟨rfl, rfl, rfl, rfl, rfl, trivial⟩, ⟨?_, trivial⟩, rfl⟩
          rw [re_snoc]
          first
            | (rw [if_neg hcc, List.append_nil]; rfl)
            | (rw [if_pos hcc, List.map_append]; rfl)
      · (try simp only [zN] at hq2)
        refine WpG.exit ?_
        change WpG _ _ _ _ _
        refine WpG.seq ?_
        refine WpG.reg ?_
        refine G.mv rfl ?_
        refine G.call (P := [(0, .arr .yes 1 (((List.range i).filter (fun a => clo (swG P C) P.length a p.toNat)).map encI))]) rfl (by repeat (first | exact trivial | refine ⟨rfl, ?_⟩)) rfl rfl (clipI_ok ((List.range i).filter (fun a => clo (swG P C) P.length a p.toNat))) ?_
        rintro _ _ ⟨rfl, rfl⟩
        refine ⟨rfl, ?_⟩
        change WpOpsG _ _ ((31, .osl 0) :: _) ((0, .arr .yes 1 (((List.range i).filter (fun a => clo (swG P C) P.length a p.toNat)).map encI)) :: _) _
        refine G.mv rfl ?_
        refine WpOpsG.nil ?_
        change WpG _ _ _ _ _
        refine WpG.freeze 0 rfl ?_
        refine WpG.ret ?_
        refine ⟨_, [], rfl, (hasP_le (by repeat (first | exact trivial | refine ⟨rfl, ?_⟩))), rfl, rfl, rfl, ?_⟩
        have e : reV P.length (clo (swG P C) P.length) p = ((List.range i).filter (fun a => clo (swG P C) P.length a p.toNat)) := by unfold reV; rw [if_pos hp, show i = P.length by omega]
        rw [e]; exact ⟨rfl, rfl⟩
    · exact Nat.zero_le _
theorem rreach_ok (P : List Pt) (C : List Ch) (ts : List (List GV)) (hP : P.length ≤ 2 ^ 30) (hC : C.length ≤ 2 ^ 30) (p : Int) : WpCallG A 28 [.agg [.fsl 11 (P.map encP), .fsl 6 (C.map encC), .fsl 1 ts], .v (.int .i64 p)] [] (fun v H => v = .fsl 1 ((reV P.length (clo (swG P C) P.length) p).map encI) ∧ H = []) := by
  refine WpCallG.intro g28 rfl rfl ?_
  unfold af28
  change WpG _ _ _ _ _
  refine WpG.seq ?_
  refine WpG.reg ?_
  refine G.box (g := 10) rfl rfl rfl ?_
  refine G.mv rfl ?_
  refine WpOpsG.nil ?_
  change WpG _ _ _ _ _
  refine WpG.seq ?_
  refine WpG.reg ?_
  refine G.mv rfl ?_
  refine WpOpsG.nil ?_
  change WpG _ _ _ _ _
  refine WpG.seq ?_
  refine WpG.reg ?_
  refine G.loadNB rfl rfl rfl ?_
  refine G.call0 rfl rfl (rsw_ok P C ts hP hC) ?_
  rintro _ _ ⟨rfl, rfl⟩
  refine ⟨rfl, ?_⟩
  change WpOpsG _ _ ((9, _) :: _) _ _
  refine G.call0 rfl rfl (rclo_ok (matF P.length (swG P C)) (by rw [matF_len]; exact hP) (fun r hr => by rw [matF_rows r hr]; omega)) ?_
  rintro _ _ ⟨rfl, rfl⟩
  refine ⟨rfl, ?_⟩
  change WpOpsG _ _ ((10, _) :: _) _ _
  rw [clo_mat]
  refine G.mv rfl ?_
  refine WpOpsG.nil ?_
  change WpG _ _ _ _ _
  refine WpG.seq ?_
  refine WpG.seq ?_
  refine WpG.reg ?_
  refine G.mv rfl ?_
  refine WpOpsG.nil ?_
  change WpG _ _ _ _ _
  refine WpG.block ?_
  refine WpG.ownNil (g := 0) (k := 5) (w := 1) rfl rfl ?_
  refine WpG.loop (S := Nat) (fun i => [(1, .v (.int .i64 p)), (2, .bptr 10 0), (5, .osl 0), (6, .fsl 1 ((matF P.length (clo (swG P C) P.length)).map encBs)), (7, .v (.int .i64 ((i : Nat) : Int)))]) (fun i => [(0, .arr .yes 1 (((List.range i).filter (fun a => clo (swG P C) P.length a p.toNat)).map encI)), (10, .box [.fsl 11 (P.map encP), .fsl 6 (C.map encC), .fsl 1 ts])]) (fun i => i ≤ P.length ∧ (0 < i → isP P.length p = true)) (fun i => P.length - i) (fun s => ⟨rfl, rfl⟩) ?_ 0 ?_ (by repeat (first | exact trivial | refine ⟨rfl, ?_⟩)) (by repeat (first | exact trivial | refine ⟨rfl, ?_⟩)) rfl
  · rintro i ⟨hi, hi2⟩
    refine WpG.seq ?_
    refine WpG.seq ?_
    refine WpG.reg ?_
    refine G.mv rfl ?_
    refine G.mv rfl ?_
    refine G.lenM rfl ?_
    rw [matF_len]
    refine G.bin rfl rfl rfl ?_
    refine G.mv rfl ?_
    apply G.andS rfl rfl rfl rfl rfl rfl
    case hB =>
      intro hs1
      (try simp only [zN] at hs1)
      refine G.loadNB rfl rfl rfl ?_
      refine G.mv rfl ?_
      refine G.call0 rfl rfl (gin_ok P C ts p (by omega)) ?_
      rintro _ _ ⟨rfl, rfl⟩
      refine ⟨rfl, ?_⟩
      change WpOpsG _ _ ((18, _) :: _) _ _
      refine WpOpsG.nil ?_
      exact ⟨rfl, (by repeat (first | exact LLe.refl _ | refine LLe.cons rfl ?_)), (by repeat (first | exact HLe.refl _ | refine HLe.cons rfl ?_)), rfl⟩
    refine WpOpsG.nil ?_
    change WpG _ _ _ _ _
    refine WpG.cond rfl (fun hq2 => ?_) (fun hq2 => ?_)
    · (try simp only [zN] at hq2)
      refine WpG.skip ?_
      change WpG _ _ _ _ _
      refine WpG.seq ?_
      refine WpG.block ?_
      refine WpG.seq ?_
      have hp := hq2.2
      have hp2 := isP_T hp
      refine WpG.reg ?_
      refine G.mv rfl ?_
      refine G.mv rfl ?_
      refine G.iaddrM rfl rfl (by omega) (gd17 [] (by rw [matF_len]; omega)) ?_
      rw [Int.toNat_natCast]
      refine G.load1F rfl rfl ?_
      refine G.mv rfl ?_
      refine G.iaddrM rfl rfl (by omega) (gd17 false (by rw [matF_row (by omega)]; omega)) ?_
      refine G.load1F rfl rfl ?_
      rw [matF_get (by omega) (by omega)]
      refine WpOpsG.nil ?_
      change WpG _ _ _ _ _
      refine WpG.cond rfl (fun hq3 => ?_) (fun hq3 => ?_)
      · (try simp only [zN] at hq3)
        have hcc := hq3
        have hrl := re_len (k := i) (f := (fun a => clo (swG P C) P.length a p.toNat))
        refine WpG.reg ?_
        refine G.mv rfl ?_
        refine G.mv rfl ?_
        refine G.bsliceF rfl rfl rfl ?_
        refine G.app rfl rfl rfl rfl trivial (by rw [List.length_map]; show (_ + 1) * 8 ≤ 2 ^ 47; omega) ?_
        refine G.mv rfl ?_
        refine WpOpsG.nil ?_
        change WpG _ _ _ _ _
        refine WpG.reg ?_
        refine G.mv rfl ?_
        refine G.addI rfl rfl (by omega) ?_
        refine G.mv rfl ?_
        refine WpOpsG.nil ?_
        refine ⟨i + 1, by omega, ⟨by omega, fun _ => hp⟩, ⟨rfl, rfl, rfl, rfl, rfl, trivial⟩, ⟨?_, rfl, trivial⟩, rfl⟩
        rw [re_snoc]
        first
          | (rw [if_neg hcc, List.append_nil]; rfl)
          | (rw [if_pos hcc, List.map_append]; rfl)
      · (try simp only [zN] at hq3)
        have hcc : ¬ clo (swG P C) P.length i p.toNat = true := by rw [hq3]; decide
        refine WpG.skip ?_
        change WpG _ _ _ _ _
        refine WpG.reg ?_
        refine G.mv rfl ?_
        refine G.addI rfl rfl (by omega) ?_
        refine G.mv rfl ?_
        refine WpOpsG.nil ?_
        refine ⟨i + 1, by omega, ⟨by omega, fun _ => hp⟩, ⟨rfl, rfl, rfl, rfl, rfl, trivial⟩, ⟨?_, rfl, trivial⟩, rfl⟩
        rw [re_snoc]
        first
          | (rw [if_neg hcc, List.append_nil]; rfl)
          | (rw [if_pos hcc, List.map_append]; rfl)
    · (try simp only [zN] at hq2)
      refine WpG.exit ?_
      change WpG _ _ _ _ _
      refine WpG.seq ?_
      refine WpG.reg ?_
      refine G.mv rfl ?_
      refine G.mv rfl ?_
      refine WpOpsG.nil ?_
      change WpG _ _ _ _ _
      refine WpG.freeze 0 rfl ?_
      refine WpG.ret ?_
      refine ⟨_, [], rfl, (hasP_le (by repeat (first | exact trivial | refine ⟨rfl, ?_⟩))), rfl, rfl, rfl, ?_⟩
      rw [show reV P.length (clo (swG P C) P.length) p = ((List.range i).filter (fun a => clo (swG P C) P.length a p.toNat)) from reach_end hi hi2 (reach_no hq2)]; exact ⟨rfl, rfl⟩
  · exact ⟨Nat.zero_le _, fun h => by omega⟩
end Go.AM.L7
