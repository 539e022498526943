/- Contracts of the functions that the statement reaches. No condition. -/
import Derived.Test.YtomglcfneeelgaaB7
import Derived.Test.YtomglcfneeelgaaPL7
set_option linter.all false
set_option maxRecDepth 10000
namespace Go.AM.L7
open Go.AM.PL
theorem cloneO_ok (l : List Bool) (hl : l.length * 1 ≤ 2 ^ 47) : WpCallG A 30 [.fsl 1 (l.map encO)] [] (fun v H => v = .osl 0 ∧ H = [(0, .arr .yes 1 (l.map encO))]) := by
  refine WpCallG.intro g30 rfl rfl ?_
  unfold af30
  change WpG _ _ _ _ _
  refine WpG.seq ?_
  refine WpG.reg ?_
  refine G.mv rfl ?_
  refine WpOpsG.nil ?_
  change WpG _ _ _ _ _
  refine WpG.seq ?_
  refine WpG.seq ?_
  refine WpG.reg ?_
  refine G.mv rfl ?_
  refine G.eqnilF rfl (fun hnil4 hnil4_e => ?_)
  refine WpOpsG.nil ?_
  change WpG _ _ _ _ _
  refine WpG.cond rfl (fun hq1 => ?_) (fun hq1 => ?_)
  · (try simp only [zN] at hq1)
    refine WpG.seq ?_
    refine WpG.reg ?_
    refine G.mv rfl ?_
    refine WpOpsG.nil ?_
    change WpG _ _ _ _ _
    refine WpG.ownNil (g := 0) (k := 2) (w := 1) rfl rfl ?_
    refine WpG.ret ?_
    refine ⟨_, [(0, .arr .yes 1 [])], rfl, (hasP_le (by repeat (first | exact trivial | refine ⟨rfl, ?_⟩))), rfl, rfl, rfl, ?_⟩
    have e : l = [] := List.map_eq_nil_iff.1 (hnil4_e (by simpa using hq1))
    rw [e]; exact ⟨rfl, rfl⟩
  · (try simp only [zN] at hq1)
    refine WpG.skip ?_
    change WpG _ _ _ _ _
    refine WpG.seq ?_
    refine WpG.reg ?_
    refine G.bslice (g := 0) rfl rfl rfl rfl ?_
    refine G.mv rfl ?_
    refine G.app rfl rfl rfl rfl trivial (by (simp only [List.length_map, List.length_append, List.length_cons, List.length_nil, List.length_replicate, List.length_take, List.length_drop, List.length_set]; omega)) ?_
    refine G.mv rfl ?_
    refine WpOpsG.nil ?_
    change WpG _ _ _ _ _
    refine WpG.ret ?_
    refine ⟨_, [(0, .arr .yes 1 (l.map encO))], rfl, (hasP_le (by repeat (first | exact trivial | refine ⟨rfl, ?_⟩))), rfl, rfl, rfl, ?_⟩
    exact ⟨rfl, rfl⟩
theorem gis_ok (P : List Pt) (C : List Ch) (ts : List (List GV)) (p : Int) (hP : P.length ≤ 2 ^ 50) : WpCallG A 32 [.agg [.fsl 11 (P.map encP), .fsl 6 (C.map encC), .fsl 1 ts], .v (.int .i64 p)] [] (fun v H => v = .v (.bool (isP P.length p)) ∧ H = []) := by
  refine WpCallG.intro g32 rfl rfl ?_
  unfold af32
  change WpG _ _ _ _ _
  refine WpG.seq ?_
  refine WpG.reg ?_
  refine G.box (g := 10) rfl rfl rfl ?_
  refine G.mv rfl ?_
  refine WpOpsG.nil ?_
  change WpG _ _ _ _ _
  refine WpG.seq ?_
  refine WpG.reg ?_
  refine G.mv rfl ?_
  refine G.bin rfl rfl rfl ?_
  refine G.mv rfl ?_
  apply G.andS rfl rfl rfl rfl rfl rfl
  case hB =>
    intro hs1
    (try simp only [zN] at hs1)
    refine G.mv rfl ?_
    refine G.faddrB rfl ?_
    refine G.load1B rfl rfl rfl ?_
    refine G.lenM rfl ?_
    refine G.bin rfl rfl rfl ?_
    refine WpOpsG.nil ?_
    exact ⟨rfl, (by repeat (first | exact LLe.refl _ | refine LLe.cons rfl ?_)), (by repeat (first | exact HLe.refl _ | refine HLe.cons rfl ?_)), rfl⟩
  refine G.mv rfl ?_
  refine WpOpsG.nil ?_
  change WpG _ _ _ _ _
  refine WpG.ret ?_
  refine ⟨_, [], rfl, (hasP_le (by repeat (first | exact trivial | refine ⟨rfl, ?_⟩))), rfl, rfl, rfl, ?_⟩
  exact ⟨rfl, rfl⟩
theorem gin_ok (P : List Pt) (C : List Ch) (ts : List (List GV)) (p : Int) (hP : P.length ≤ 2 ^ 50) : WpCallG A 41 [.agg [.fsl 11 (P.map encP), .fsl 6 (C.map encC), .fsl 1 ts], .v (.int .i64 p)] [] (fun v H => v = .v (.bool (isP P.length p)) ∧ H = []) := by
  refine WpCallG.intro g41 rfl rfl ?_
  unfold af41
  change WpG _ _ _ _ _
  refine WpG.seq ?_
  refine WpG.reg ?_
  refine G.box (g := 10) rfl rfl rfl ?_
  refine G.mv rfl ?_
  refine WpOpsG.nil ?_
  change WpG _ _ _ _ _
  refine WpG.seq ?_
  refine WpG.reg ?_
  refine G.mv rfl ?_
  refine G.bin rfl rfl rfl ?_
  refine G.mv rfl ?_
  apply G.andS rfl rfl rfl rfl rfl rfl
  case hB =>
    intro hs1
    (try simp only [zN] at hs1)
    refine G.mv rfl ?_
    refine G.faddrB rfl ?_
    refine G.load1B rfl rfl rfl ?_
    refine G.lenM rfl ?_
    refine G.bin rfl rfl rfl ?_
    refine WpOpsG.nil ?_
    exact ⟨rfl, (by repeat (first | exact LLe.refl _ | refine LLe.cons rfl ?_)), (by repeat (first | exact HLe.refl _ | refine HLe.cons rfl ?_)), rfl⟩
  refine G.mv rfl ?_
  refine WpOpsG.nil ?_
  change WpG _ _ _ _ _
  refine WpG.ret ?_
  refine ⟨_, [], rfl, (hasP_le (by repeat (first | exact trivial | refine ⟨rfl, ?_⟩))), rfl, rfl, rfl, ?_⟩
  exact ⟨rfl, rfl⟩
theorem gsq_ok (n : Nat) (hn : n ≤ 2 ^ 30) : WpCallG A 31 [.v (.int .i64 (n : Int))] [] (fun v H => v = .msl 0 ∧ H = [(0, .mat 1 (bM n noF))]) := by
  refine WpCallG.intro g31 rfl rfl ?_
  unfold af31
  change WpG _ _ _ _ _
  refine WpG.seq ?_
  refine WpG.reg ?_
  refine G.mv rfl ?_
  refine WpOpsG.nil ?_
  change WpG _ _ _ _ _
  refine WpG.seq ?_
  refine WpG.reg ?_
  refine G.mv rfl ?_
  refine WpOpsG.nil ?_
  change WpG _ _ _ _ _
  refine WpG.seq ?_
  refine WpG.seq ?_
  refine WpG.reg ?_
  refine G.mv rfl ?_
  refine G.mv rfl ?_
  refine WpOpsG.nil ?_
  change WpG _ _ _ _ _
  refine WpG.block ?_
  refine WpG.ownNilM (g := 0) (k := 3) 1 rfl rfl ?_
  refine WpG.loop (S := Nat) (fun i => [(0, .v (.int .i64 (n : Int))), (3, .msl 0), (4, .v (.int .i64 ((n : Nat) : Int))), (5, .v (.int .i64 ((i : Nat) : Int)))]) (fun i => [(0, .mat 1 (kM i n noF))]) (fun i => i ≤ n) (fun i => n - i) (fun s => ⟨rfl, rfl⟩) ?_ 0 ?_ (by repeat (first | exact trivial | refine ⟨rfl, ?_⟩)) (by repeat (first | exact trivial | refine ⟨rfl, ?_⟩)) rfl
  · intro i hI
    refine WpG.seq ?_
    refine WpG.reg ?_
    refine G.bin rfl rfl rfl ?_
    refine WpOpsG.nil ?_
    change WpG _ _ _ _ _
    refine WpG.seq ?_
    refine WpG.cond rfl (fun hq1 => ?_) (fun hq1 => ?_)
    · (try simp only [zN] at hq1)
      refine WpG.skip ?_
      change WpG _ _ _ _ _
      refine WpG.seq ?_
      refine WpG.block ?_
      refine WpG.reg ?_
      refine G.mv rfl ?_
      refine G.mv rfl ?_
      refine G.mkslice (g := 11) rfl rfl (by omega) (by omega) (by omega) (by omega) rfl rfl rfl rfl ?_
      rw [Int.toNat_natCast]
      change WpOpsG _ _ _ ((11, .arr .yes 1 (List.replicate n [GV.v (.bool false)])) :: _) _
      refine G.bsliceMt (gn := 12) rfl rfl rfl ?_
      refine G.appMt (g := 0) (g2 := 12) (w := 1) (rows := kM i n noF) (rows2 := [some (List.replicate n [GV.v (.bool false)])]) rfl rfl rfl rfl (Nat.succ_pos _) (by rw [kM_len]; show (i + 1) * 24 ≤ 2 ^ 47; omega) ?_
      rw [no_row (a := i), ← kM_snoc]
      refine G.mv rfl ?_
      refine WpOpsG.nil ?_
      change WpG _ _ _ _ _
      refine WpG.reg ?_
      refine G.addI rfl rfl (by omega) ?_
      refine G.mv rfl ?_
      refine WpOpsG.nil ?_
      exact ⟨i + 1, by omega, by omega, ⟨rfl, rfl, rfl, rfl, trivial⟩, ⟨rfl, trivial⟩, rfl⟩
    · (try simp only [zN] at hq1)
      refine WpG.exit ?_
      change WpG _ _ _ _ _
      refine WpG.seq ?_
      obtain rfl : i = n := by omega
      refine WpG.reg ?_
      refine G.mv rfl ?_
      refine G.mv rfl ?_
      refine WpOpsG.nil ?_
      change WpG _ _ _ _ _
      refine WpG.ret ?_
      refine ⟨_, [(0, .mat 1 (bM i noF))], rfl, (hasP_le (by repeat (first | exact trivial | refine ⟨rfl, ?_⟩))), rfl, rfl, rfl, ?_⟩
      exact ⟨rfl, rfl⟩
  · exact Nat.zero_le _
theorem rsq_ok (n : Nat) (hn : n ≤ 2 ^ 30) : WpCallG A 40 [.v (.int .i64 (n : Int))] [] (fun v H => v = .msl 0 ∧ H = [(0, .mat 1 (bM n eqF))]) := by
  refine WpCallG.intro g40 rfl rfl ?_
  unfold af40
  change WpG _ _ _ _ _
  refine WpG.seq ?_
  refine WpG.reg ?_
  refine G.mv rfl ?_
  refine WpOpsG.nil ?_
  change WpG _ _ _ _ _
  refine WpG.seq ?_
  refine WpG.reg ?_
  refine G.mv rfl ?_
  refine G.mkslice (g := 0) rfl rfl (by omega) (by omega) (by omega) (by omega) rfl rfl rfl rfl ?_
  rw [Int.toNat_natCast]
  refine WpOpsG.toMat 0 1 (n := n) rfl ?_
  rw [← kR_0 (f := eqF)]
  refine G.mv rfl ?_
  refine WpOpsG.nil ?_
  change WpG _ _ _ _ _
  refine WpG.seq ?_
  refine WpG.seq ?_
  refine WpG.reg ?_
  refine G.mv rfl ?_
  refine G.lenMt rfl rfl ?_
  rw [kR_len (Nat.zero_le _)]
  refine G.mv rfl ?_
  refine WpOpsG.nil ?_
  change WpG _ _ _ _ _
  refine WpG.block ?_
  refine WpG.loop (S := Nat) (fun i => [(0, .v (.int .i64 (n : Int))), (3, .msl 0), (8, .v (.int .i64 ((n : Nat) : Int))), (9, .v (.int .i64 ((i : Nat) : Int)))]) (fun i => [(0, .mat 1 (kR i n eqF))]) (fun i => i ≤ n) (fun i => n - i) (fun s => ⟨rfl, rfl⟩) ?_ 0 ?_ (by repeat (first | exact trivial | refine ⟨rfl, ?_⟩)) (by repeat (first | exact trivial | refine ⟨rfl, ?_⟩)) rfl
  · intro i hI
    refine WpG.seq ?_
    refine WpG.reg ?_
    refine G.bin rfl rfl rfl ?_
    refine WpOpsG.nil ?_
    change WpG _ _ _ _ _
    refine WpG.seq ?_
    refine WpG.cond rfl (fun hq1 => ?_) (fun hq1 => ?_)
    · (try simp only [zN] at hq1)
      refine WpG.skip ?_
      change WpG _ _ _ _ _
      refine WpG.seq ?_
      refine WpG.block ?_
      refine WpG.seq ?_
      refine WpG.reg ?_
      refine G.mv rfl ?_
      refine G.mv rfl ?_
      refine WpOpsG.nil ?_
      change WpG _ _ _ _ _
      refine WpG.seq ?_
      refine WpG.reg ?_
      refine G.mv rfl ?_
      refine G.mv rfl ?_
      refine G.mv rfl ?_
      refine G.mkslice (g := 11) rfl rfl (by omega) (by omega) (by omega) (by omega) rfl rfl rfl rfl ?_
      rw [Int.toNat_natCast]
      change WpOpsG _ _ _ ((11, .arr .yes 1 (List.replicate n [GV.v (.bool false)])) :: _) _
      refine G.iaddrMt rfl rfl rfl (by omega) (by rw [kR_len (by omega)]; omega) ?_
      rw [Int.toNat_natCast]
      refine G.storeMt (g := 0) (g' := 11) rfl rfl rfl rfl (by rw [kR_len (by omega)]; omega) ?_
      rw [kR_set (by omega)]
      refine WpOpsG.nil ?_
      change WpG _ _ _ _ _
      refine WpG.reg ?_
      refine G.mv rfl ?_
      refine G.mv rfl ?_
      refine G.iaddrMt rfl rfl rfl (by omega) (by rw [← kR_set (by omega), List.length_set, kR_len (by omega)]; omega) ?_
      rw [Int.toNat_natCast]
      refine G.load1Mt rfl rfl kR_at ?_
      refine G.mv rfl ?_
      refine G.iaddrR rfl rfl kR_at rfl (by omega) (by rw [List.length_replicate]; omega) ?_
      rw [Int.toNat_natCast]
      refine G.storeR (vs := [.v (.bool true)]) (c := [.v (.bool false)]) (c' := [.v (.bool true)]) rfl rfl rfl kR_at (by rw [List.getElem?_replicate, if_pos (by omega)]) rfl rfl rfl rfl ?_
      rw [kR_step row_upd]
      refine WpOpsG.nil ?_
      change WpG _ _ _ _ _
      refine WpG.reg ?_
      refine G.addI rfl rfl (by omega) ?_
      refine G.mv rfl ?_
      refine WpOpsG.nil ?_
      exact ⟨i + 1, by omega, by omega, ⟨rfl, rfl, rfl, rfl, trivial⟩, ⟨rfl, trivial⟩, rfl⟩
    · (try simp only [zN] at hq1)
      refine WpG.exit ?_
      change WpG _ _ _ _ _
      refine WpG.seq ?_
      obtain rfl : i = n := by omega
      rw [kR_n]
      refine WpG.reg ?_
      refine G.mv rfl ?_
      refine G.mv rfl ?_
      refine WpOpsG.nil ?_
      change WpG _ _ _ _ _
      refine WpG.ret ?_
      refine ⟨_, [(0, .mat 1 (bM i eqF))], rfl, (hasP_le (by repeat (first | exact trivial | refine ⟨rfl, ?_⟩))), rfl, rfl, rfl, ?_⟩
      exact ⟨rfl, rfl⟩
  · exact Nat.zero_le _
theorem sameO_ok (xs ys : List Bool) (hx : xs.length ≤ 2 ^ 50) (hy : ys.length ≤ 2 ^ 50) : WpCallG A 29 [.fsl 1 (xs.map encO), .fsl 1 (ys.map encO)] [] (fun v H => v = .v (.bool (decide (xs = ys))) ∧ H = []) := by
  refine WpCallG.intro g29 rfl rfl ?_
  unfold af29
  change WpG _ _ _ _ _
  refine WpG.seq ?_
  refine WpG.reg ?_
  refine G.mv rfl ?_
  refine WpOpsG.nil ?_
  change WpG _ _ _ _ _
  refine WpG.seq ?_
  refine WpG.seq ?_
  refine WpG.reg ?_
  refine G.mv rfl ?_
  refine G.lenM rfl ?_
  refine G.mv rfl ?_
  refine G.lenM rfl ?_
  refine G.bin rfl rfl rfl ?_
  refine WpOpsG.nil ?_
  change WpG _ _ _ _ _
  refine WpG.cond rfl (fun hq1 => ?_) (fun hq1 => ?_)
  · (try simp only [zN] at hq1)
    refine WpG.seq ?_
    refine WpG.reg ?_
    refine G.mv rfl ?_
    refine WpOpsG.nil ?_
    change WpG _ _ _ _ _
    refine WpG.ret ?_
    refine ⟨_, [], rfl, (hasP_le (by repeat (first | exact trivial | refine ⟨rfl, ?_⟩))), rfl, rfl, rfl, ?_⟩
    rw [decide_eq_false (fun h => by subst h; omega)]
    exact ⟨rfl, rfl⟩
  · (try simp only [zN] at hq1)
    refine WpG.skip ?_
    change WpG _ _ _ _ _
    refine WpG.seq ?_
    refine WpG.seq ?_
    refine WpG.reg ?_
    refine G.mv rfl ?_
    refine WpOpsG.nil ?_
    change WpG _ _ _ _ _
    refine WpG.block ?_
    refine WpG.loop (S := Nat) (fun i => [(0, .fsl 1 (xs.map encO)), (1, .fsl 1 (ys.map encO)), (5, .v (.int .i64 i))]) (fun _ => []) (fun i => i ≤ xs.length ∧ xs.take i = ys.take i) (fun i => xs.length - i) (fun s => ⟨rfl, rfl⟩) ?_ 0 ?_ (by repeat (first | exact trivial | refine ⟨rfl, ?_⟩)) (by repeat (first | exact trivial | refine ⟨rfl, ?_⟩)) rfl
    · rintro i ⟨hI, hT⟩
      refine WpG.seq ?_
      refine WpG.seq ?_
      refine WpG.reg ?_
      refine G.mv rfl ?_
      refine G.mv rfl ?_
      refine G.lenM rfl ?_
      refine G.bin rfl rfl rfl ?_
      refine WpOpsG.nil ?_
      change WpG _ _ _ _ _
      refine WpG.cond rfl (fun hq2 => ?_) (fun hq2 => ?_)
      · (try simp only [zN] at hq2)
        refine WpG.skip ?_
        change WpG _ _ _ _ _
        refine WpG.seq ?_
        refine WpG.block ?_
        refine WpG.seq ?_
        refine WpG.reg ?_
        refine G.mv rfl ?_
        refine G.mv rfl ?_
        refine G.iaddrN rfl rfl (List.getElem?_eq_getElem (by omega)) ?_
        refine G.load1F rfl rfl ?_
        refine G.mv rfl ?_
        refine G.mv rfl ?_
        refine G.iaddrN rfl rfl (List.getElem?_eq_getElem (by omega)) ?_
        refine G.load1F rfl rfl ?_
        refine G.beq rfl rfl rfl ?_
        refine WpOpsG.nil ?_
        change WpG _ _ _ _ _
        refine WpG.cond rfl (fun hq3 => ?_) (fun hq3 => ?_)
        · (try simp only [zN] at hq3)
          refine WpG.seq ?_
          refine WpG.reg ?_
          refine G.mv rfl ?_
          refine WpOpsG.nil ?_
          change WpG _ _ _ _ _
          refine WpG.ret ?_
          refine ⟨_, [], rfl, (hasP_le (by repeat (first | exact trivial | refine ⟨rfl, ?_⟩))), rfl, rfl, rfl, ?_⟩
          rw [decide_eq_false (fun h => by subst h; exact (by simp at hq3))]
          exact ⟨rfl, rfl⟩
        · (try simp only [zN] at hq3)
          refine WpG.skip ?_
          change WpG _ _ _ _ _
          refine WpG.reg ?_
          refine G.mv rfl ?_
          refine G.addI rfl rfl (by omega) ?_
          refine G.mv rfl ?_
          refine WpOpsG.nil ?_
          have he : xs[i] = ys[i] := by first | exact hq3 | simpa using hq3
          exact ⟨i + 1, by omega, ⟨by omega, (take_stepG (by omega) (by omega) hT).2 he⟩, ⟨rfl, rfl, rfl, trivial⟩, trivial, rfl⟩
      · (try simp only [zN] at hq2)
        refine WpG.exit ?_
        change WpG _ _ _ _ _
        refine WpG.seq ?_
        refine WpG.reg ?_
        refine G.mv rfl ?_
        refine WpOpsG.nil ?_
        change WpG _ _ _ _ _
        refine WpG.ret ?_
        refine ⟨_, [], rfl, (hasP_le (by repeat (first | exact trivial | refine ⟨rfl, ?_⟩))), rfl, rfl, rfl, ?_⟩
        have he : xs = ys := by
          have e1 : xs.take i = xs := take_allG (by omega)
          have e2 : ys.take i = ys := take_allG (by omega)
          rw [← e1, ← e2]; exact hT
        rw [decide_eq_true he]
        exact ⟨rfl, rfl⟩
    · exact ⟨Nat.zero_le _, rfl⟩
theorem sameI_ok (xs ys : List Nat) (hx : xs.length ≤ 2 ^ 50) (hy : ys.length ≤ 2 ^ 50) : WpCallG A 27 [.fsl 1 (xs.map encI), .fsl 1 (ys.map encI)] [] (fun v H => v = .v (.bool (decide (xs = ys))) ∧ H = []) := by
  refine WpCallG.intro g27 rfl rfl ?_
  unfold af27
  change WpG _ _ _ _ _
  refine WpG.seq ?_
  refine WpG.reg ?_
  refine G.mv rfl ?_
  refine WpOpsG.nil ?_
  change WpG _ _ _ _ _
  refine WpG.seq ?_
  refine WpG.seq ?_
  refine WpG.reg ?_
  refine G.mv rfl ?_
  refine G.lenM rfl ?_
  refine G.mv rfl ?_
  refine G.lenM rfl ?_
  refine G.bin rfl rfl rfl ?_
  refine WpOpsG.nil ?_
  change WpG _ _ _ _ _
  refine WpG.cond rfl (fun hq1 => ?_) (fun hq1 => ?_)
  · (try simp only [zN] at hq1)
    refine WpG.seq ?_
    refine WpG.reg ?_
    refine G.mv rfl ?_
    refine WpOpsG.nil ?_
    change WpG _ _ _ _ _
    refine WpG.ret ?_
    refine ⟨_, [], rfl, (hasP_le (by repeat (first | exact trivial | refine ⟨rfl, ?_⟩))), rfl, rfl, rfl, ?_⟩
    rw [decide_eq_false (fun h => by subst h; omega)]
    exact ⟨rfl, rfl⟩
  · (try simp only [zN] at hq1)
    refine WpG.skip ?_
    change WpG _ _ _ _ _
    refine WpG.seq ?_
    refine WpG.seq ?_
    refine WpG.reg ?_
    refine G.mv rfl ?_
    refine WpOpsG.nil ?_
    change WpG _ _ _ _ _
    refine WpG.block ?_
    refine WpG.loop (S := Nat) (fun i => [(0, .fsl 1 (xs.map encI)), (1, .fsl 1 (ys.map encI)), (5, .v (.int .i64 i))]) (fun _ => []) (fun i => i ≤ xs.length ∧ xs.take i = ys.take i) (fun i => xs.length - i) (fun s => ⟨rfl, rfl⟩) ?_ 0 ?_ (by repeat (first | exact trivial | refine ⟨rfl, ?_⟩)) (by repeat (first | exact trivial | refine ⟨rfl, ?_⟩)) rfl
    · rintro i ⟨hI, hT⟩
      refine WpG.seq ?_
      refine WpG.seq ?_
      refine WpG.reg ?_
      refine G.mv rfl ?_
      refine G.mv rfl ?_
      refine G.lenM rfl ?_
      refine G.bin rfl rfl rfl ?_
      refine WpOpsG.nil ?_
      change WpG _ _ _ _ _
      refine WpG.cond rfl (fun hq2 => ?_) (fun hq2 => ?_)
      · (try simp only [zN] at hq2)
        refine WpG.skip ?_
        change WpG _ _ _ _ _
        refine WpG.seq ?_
        refine WpG.block ?_
        refine WpG.seq ?_
        refine WpG.reg ?_
        refine G.mv rfl ?_
        refine G.mv rfl ?_
        refine G.iaddrN rfl rfl (List.getElem?_eq_getElem (by omega)) ?_
        refine G.load1F rfl rfl ?_
        refine G.mv rfl ?_
        refine G.mv rfl ?_
        refine G.iaddrN rfl rfl (List.getElem?_eq_getElem (by omega)) ?_
        refine G.load1F rfl rfl ?_
        refine G.bin rfl rfl rfl ?_
        refine WpOpsG.nil ?_
        change WpG _ _ _ _ _
        refine WpG.cond rfl (fun hq3 => ?_) (fun hq3 => ?_)
        · (try simp only [zN] at hq3)
          refine WpG.seq ?_
          refine WpG.reg ?_
          refine G.mv rfl ?_
          refine WpOpsG.nil ?_
          change WpG _ _ _ _ _
          refine WpG.ret ?_
          refine ⟨_, [], rfl, (hasP_le (by repeat (first | exact trivial | refine ⟨rfl, ?_⟩))), rfl, rfl, rfl, ?_⟩
          rw [decide_eq_false (fun h => by subst h; exact hq3 rfl)]
          exact ⟨rfl, rfl⟩
        · (try simp only [zN] at hq3)
          refine WpG.skip ?_
          change WpG _ _ _ _ _
          refine WpG.reg ?_
          refine G.mv rfl ?_
          refine G.addI rfl rfl (by omega) ?_
          refine G.mv rfl ?_
          refine WpOpsG.nil ?_
          have he : xs[i] = ys[i] := by omega
          exact ⟨i + 1, by omega, ⟨by omega, (take_stepG (by omega) (by omega) hT).2 he⟩, ⟨rfl, rfl, rfl, trivial⟩, trivial, rfl⟩
      · (try simp only [zN] at hq2)
        refine WpG.exit ?_
        change WpG _ _ _ _ _
        refine WpG.seq ?_
        refine WpG.reg ?_
        refine G.mv rfl ?_
        refine WpOpsG.nil ?_
        change WpG _ _ _ _ _
        refine WpG.ret ?_
        refine ⟨_, [], rfl, (hasP_le (by repeat (first | exact trivial | refine ⟨rfl, ?_⟩))), rfl, rfl, rfl, ?_⟩
        have he : xs = ys := by
          have e1 : xs.take i = xs := take_allG (by omega)
          have e2 : ys.take i = ys := take_allG (by omega)
          rw [← e1, ← e2]; exact hT
        rw [decide_eq_true he]
        exact ⟨rfl, rfl⟩
    · exact ⟨Nat.zero_le _, rfl⟩
theorem matrix_ok (a b : List (List Bool)) (ha : a.length ≤ 2 ^ 50) (hb : b.length ≤ 2 ^ 50) (ha2 : ∀ r ∈ a, r.length ≤ 2 ^ 50) (hb2 : ∀ r ∈ b, r.length ≤ 2 ^ 50) : WpCallG A 11 [.fsl 1 (a.map encBs), .fsl 1 (b.map encBs)] [] (fun v H => v = .v (.bool (decide (a = b))) ∧ H = []) := by
  refine WpCallG.intro g11 rfl rfl ?_
  unfold af11
  change WpG _ _ _ _ _
  refine WpG.seq ?_
  refine WpG.reg ?_
  refine G.mv rfl ?_
  refine WpOpsG.nil ?_
  change WpG _ _ _ _ _
  refine WpG.seq ?_
  refine WpG.seq ?_
  refine WpG.reg ?_
  refine G.mv rfl ?_
  refine G.lenM rfl ?_
  refine G.mv rfl ?_
  refine G.lenM rfl ?_
  refine G.bin rfl rfl rfl ?_
  refine WpOpsG.nil ?_
  change WpG _ _ _ _ _
  refine WpG.cond rfl (fun hq1 => ?_) (fun hq1 => ?_)
  · (try simp only [zN] at hq1)
    refine WpG.seq ?_
    refine WpG.reg ?_
    refine G.mv rfl ?_
    refine WpOpsG.nil ?_
    change WpG _ _ _ _ _
    refine WpG.ret ?_
    refine ⟨_, [], rfl, (hasP_le (by repeat (first | exact trivial | refine ⟨rfl, ?_⟩))), rfl, rfl, rfl, ?_⟩
    rw [decide_eq_false (fun h => by subst h; omega)]
    exact ⟨rfl, rfl⟩
  · (try simp only [zN] at hq1)
    refine WpG.skip ?_
    change WpG _ _ _ _ _
    refine WpG.seq ?_
    refine WpG.seq ?_
    refine WpG.reg ?_
    refine G.mv rfl ?_
    refine G.lenM rfl ?_
    refine G.mv rfl ?_
    refine WpOpsG.nil ?_
    change WpG _ _ _ _ _
    refine WpG.block ?_
    refine WpG.loop (S := Nat) (fun i => [(0, .fsl 1 (a.map encBs)), (1, .fsl 1 (b.map encBs)), (12, .v (.int .i64 ((a.length : Nat) : Int))), (13, .v (.int .i64 ((i : Nat) : Int)))]) (fun _ => []) (fun i => i ≤ a.length ∧ a.take i = b.take i) (fun i => a.length - i) (fun s => ⟨rfl, rfl⟩) ?_ 0 ?_ (by repeat (first | exact trivial | refine ⟨rfl, ?_⟩)) (by repeat (first | exact trivial | refine ⟨rfl, ?_⟩)) rfl
    · rintro i ⟨hI, hT⟩
      refine WpG.seq ?_
      refine WpG.reg ?_
      refine G.bin rfl rfl rfl ?_
      refine WpOpsG.nil ?_
      change WpG _ _ _ _ _
      refine WpG.seq ?_
      refine WpG.cond rfl (fun hq2 => ?_) (fun hq2 => ?_)
      · (try simp only [zN] at hq2)
        refine WpG.skip ?_
        change WpG _ _ _ _ _
        refine WpG.seq ?_
        refine WpG.block ?_
        refine WpG.seq ?_
        refine WpG.reg ?_
        refine G.mv rfl ?_
        refine G.mv rfl ?_
        refine WpOpsG.nil ?_
        change WpG _ _ _ _ _
        refine WpG.seq ?_
        refine WpG.reg ?_
        refine G.mv rfl ?_
        refine G.mv rfl ?_
        refine G.iaddrM rfl rfl (by omega) (List.getElem?_eq_getElem (by omega)) ?_
        try rw [Int.toNat_natCast]
        refine G.load1F rfl rfl ?_
        refine G.mv rfl ?_
        refine G.mv rfl ?_
        refine G.iaddrM rfl rfl (by omega) (List.getElem?_eq_getElem (by omega)) ?_
        try rw [Int.toNat_natCast]
        refine G.load1F rfl rfl ?_
        refine G.call0 rfl rfl (sameO_ok a[i] b[i] (ha2 _ (List.getElem_mem (by omega))) (hb2 _ (List.getElem_mem (by omega)))) ?_
        rintro _ _ ⟨rfl, rfl⟩
        refine ⟨rfl, ?_⟩
        change WpOpsG _ _ ((24, _) :: _) _ _
        refine G.un rfl rfl ?_
        refine WpOpsG.nil ?_
        change WpG _ _ _ _ _
        refine WpG.cond rfl (fun hq3 => ?_) (fun hq3 => ?_)
        · (try simp only [zN] at hq3)
          refine WpG.seq ?_
          refine WpG.reg ?_
          refine G.mv rfl ?_
          refine WpOpsG.nil ?_
          change WpG _ _ _ _ _
          refine WpG.ret ?_
          refine ⟨_, [], rfl, (hasP_le (by repeat (first | exact trivial | refine ⟨rfl, ?_⟩))), rfl, rfl, rfl, ?_⟩
          rw [decide_eq_false (fun h => by subst h; simp at hq3)]
          exact ⟨rfl, rfl⟩
        · (try simp only [zN] at hq3)
          refine WpG.skip ?_
          change WpG _ _ _ _ _
          refine WpG.reg ?_
          refine G.addI rfl rfl (by omega) ?_
          refine G.mv rfl ?_
          refine WpOpsG.nil ?_
          have he : a[i] = b[i] := of_decide_eq_true (by simpa using hq3)
          exact ⟨i + 1, by omega, ⟨by omega, (take_stepG (by omega) (by omega) hT).2 he⟩, ⟨rfl, rfl, rfl, rfl, trivial⟩, trivial, rfl⟩
      · (try simp only [zN] at hq2)
        refine WpG.exit ?_
        change WpG _ _ _ _ _
        refine WpG.seq ?_
        refine WpG.reg ?_
        refine G.mv rfl ?_
        refine WpOpsG.nil ?_
        change WpG _ _ _ _ _
        refine WpG.ret ?_
        refine ⟨_, [], rfl, (hasP_le (by repeat (first | exact trivial | refine ⟨rfl, ?_⟩))), rfl, rfl, rfl, ?_⟩
        have he : a = b := by
          have e1 : a.take i = a := take_allG (by omega)
          have e2 : b.take i = b := take_allG (by omega)
          rw [← e1, ← e2]; exact hT
        rw [decide_eq_true he]
        exact ⟨rfl, rfl⟩
    · exact ⟨Nat.zero_le _, rfl⟩
end Go.AM.L7
