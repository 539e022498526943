/- Contracts of the functions that the statement reaches. No condition. -/
import Derived.Test.YtabhoinefficpaaB10
import Derived.Test.YtabhoinefficpaaPL10b
set_option linter.all false
set_option maxRecDepth 10000
namespace Go.AM.L10
open Go.AM.PL
theorem gis_ok (P : List Pt) (C : List Ch) (ts : List (List GV)) (p : Int) (hP : P.length ≤ 2 ^ 50) : WpCallG A 65 [.agg [.fsl 11 (P.map encP), .fsl 6 (C.map encC), .fsl 1 ts], .v (.int .i64 p)] [] (fun v H => v = .v (.bool (isP P.length p)) ∧ H = []) := by
 refine WpCallG.intro g65 rfl rfl ?_
 unfold af65
 change WpG _ _ _ _ _
 refine WpG.seq ?_
 refine WpG.reg ?_
 refine G.box (g := 10) rfl rfl rfl ?_
 refine G.mv rfl ?_
 refine WpOpsG.nil ?_
 change WpG _ _ _ _ _
 refine WpG.seq ?_
 refine WpG.reg ?_
 refine G.mv rfl ?_
 refine G.bin rfl rfl rfl ?_
 refine G.mv rfl ?_
 apply G.andS rfl rfl rfl rfl rfl rfl
 case hB =>
  intro hs1
  (try simp only [zN] at hs1)
  refine G.mv rfl ?_
  refine G.faddrB rfl ?_
  refine G.load1B rfl rfl rfl ?_
  refine G.lenM rfl ?_
  refine G.bin rfl rfl rfl ?_
  refine WpOpsG.nil ?_
  exact ⟨rfl, (by repeat (first | exact LLe.refl _ | refine LLe.cons rfl ?_)), (by repeat (first | exact HLe.refl _ | refine HLe.cons rfl ?_)), rfl⟩
 refine G.mv rfl ?_
 refine WpOpsG.nil ?_
 change WpG _ _ _ _ _
 refine WpG.ret ?_
 refine ⟨_, [], rfl, (hasP_le (by repeat (first | exact trivial | refine ⟨rfl, ?_⟩))), rfl, rfl, rfl, ?_⟩
 exact ⟨rfl, rfl⟩
theorem gin_ok (P : List Pt) (C : List Ch) (ts : List (List GV)) (p : Int) (hP : P.length ≤ 2 ^ 50) : WpCallG A 37 [.agg [.fsl 11 (P.map encP), .fsl 6 (C.map encC), .fsl 1 ts], .v (.int .i64 p)] [] (fun v H => v = .v (.bool (isP P.length p)) ∧ H = []) := by
 refine WpCallG.intro g37 rfl rfl ?_
 unfold af37
 change WpG _ _ _ _ _
 refine WpG.seq ?_
 refine WpG.reg ?_
 refine G.box (g := 10) rfl rfl rfl ?_
 refine G.mv rfl ?_
 refine WpOpsG.nil ?_
 change WpG _ _ _ _ _
 refine WpG.seq ?_
 refine WpG.reg ?_
 refine G.mv rfl ?_
 refine G.bin rfl rfl rfl ?_
 refine G.mv rfl ?_
 apply G.andS rfl rfl rfl rfl rfl rfl
 case hB =>
  intro hs1
  (try simp only [zN] at hs1)
  refine G.mv rfl ?_
  refine G.faddrB rfl ?_
  refine G.load1B rfl rfl rfl ?_
  refine G.lenM rfl ?_
  refine G.bin rfl rfl rfl ?_
  refine WpOpsG.nil ?_
  exact ⟨rfl, (by repeat (first | exact LLe.refl _ | refine LLe.cons rfl ?_)), (by repeat (first | exact HLe.refl _ | refine HLe.cons rfl ?_)), rfl⟩
 refine G.mv rfl ?_
 refine WpOpsG.nil ?_
 change WpG _ _ _ _ _
 refine WpG.ret ?_
 refine ⟨_, [], rfl, (hasP_le (by repeat (first | exact trivial | refine ⟨rfl, ?_⟩))), rfl, rfl, rfl, ?_⟩
 exact ⟨rfl, rfl⟩
theorem gsq_ok (n : Nat) (hn : n ≤ 2 ^ 30) : WpCallG A 64 [.v (.int .i64 (n : Int))] [] (fun v H => v = .msl 0 ∧ H = [(0, .mat 1 (bM n noF))]) := by
 refine WpCallG.intro g64 rfl rfl ?_
 unfold af64
 change WpG _ _ _ _ _
 refine WpG.seq ?_
 refine WpG.reg ?_
 refine G.mv rfl ?_
 refine WpOpsG.nil ?_
 change WpG _ _ _ _ _
 refine WpG.seq ?_
 refine WpG.reg ?_
 refine G.mv rfl ?_
 refine WpOpsG.nil ?_
 change WpG _ _ _ _ _
 refine WpG.seq ?_
 refine WpG.seq ?_
 refine WpG.reg ?_
 refine G.mv rfl ?_
 refine G.mv rfl ?_
 refine WpOpsG.nil ?_
 change WpG _ _ _ _ _
 refine WpG.block ?_
 refine WpG.ownNilM (g := 0) (k := 3) 1 rfl rfl ?_
 refine WpG.loop (S := Nat) (fun i => [(0, .v (.int .i64 (n : Int))), (3, .msl 0), (4, .v (.int .i64 ((n : Nat) : Int))), (5, .v (.int .i64 ((i : Nat) : Int)))]) (fun i => [(0, .mat 1 (kM i n noF))]) (fun i => i ≤ n) (fun i => n - i) (fun s => ⟨rfl, rfl⟩) ?_ 0 ?_ (by repeat (first | exact trivial | refine ⟨rfl, ?_⟩)) (by repeat (first | exact trivial | refine ⟨rfl, ?_⟩)) rfl
 ·intro i hI
  refine WpG.seq ?_
  refine WpG.reg ?_
  refine G.bin rfl rfl rfl ?_
  refine WpOpsG.nil ?_
  change WpG _ _ _ _ _
  refine WpG.seq ?_
  refine WpG.cond rfl (fun hq1 => ?_) (fun hq1 => ?_)
  ·(try simp only [zN] at hq1)
   refine WpG.skip ?_
   change WpG _ _ _ _ _
   refine WpG.seq ?_
   refine WpG.block ?_
   refine WpG.reg ?_
   refine G.mv rfl ?_
   refine G.mv rfl ?_
   refine G.mkslice (g := 11) rfl rfl (by omega) (by omega) (by omega) (by omega) rfl rfl rfl rfl ?_
   rw [Int.toNat_natCast]
   change WpOpsG _ _ _ ((11, .arr .yes 1 (List.replicate n [GV.v (.bool false)])) :: _) _
   refine G.bsliceMt (gn := 12) rfl rfl rfl ?_
   refine G.appMt (g := 0) (g2 := 12) (w := 1) (rows := kM i n noF) (rows2 := [some (List.replicate n [GV.v (.bool false)])]) rfl rfl rfl rfl (Nat.succ_pos _) (by rw [kM_len]; show (i + 1) * 24 ≤ 2 ^ 47; omega) ?_
   rw [no_row (a := i), ← kM_snoc]
   refine G.mv rfl ?_
   refine WpOpsG.nil ?_
   change WpG _ _ _ _ _
   refine WpG.reg ?_
   refine G.addI rfl rfl (by omega) ?_
   refine G.mv rfl ?_
   refine WpOpsG.nil ?_
   exact ⟨i + 1, by omega, by omega, ⟨rfl, rfl, rfl, rfl, trivial⟩, ⟨rfl, trivial⟩, rfl⟩
  ·(try simp only [zN] at hq1)
   refine WpG.exit ?_
   change WpG _ _ _ _ _
   refine WpG.seq ?_
   obtain rfl : i = n := by omega
   refine WpG.reg ?_
   refine G.mv rfl ?_
   refine G.mv rfl ?_
   refine WpOpsG.nil ?_
   change WpG _ _ _ _ _
   refine WpG.ret ?_
   refine ⟨_, [(0, .mat 1 (bM i noF))], rfl, (hasP_le (by repeat (first | exact trivial | refine ⟨rfl, ?_⟩))), rfl, rfl, rfl, ?_⟩
   exact ⟨rfl, rfl⟩
 ·exact Nat.zero_le _
theorem rsq_ok (n : Nat) (hn : n ≤ 2 ^ 30) : WpCallG A 36 [.v (.int .i64 (n : Int))] [] (fun v H => v = .msl 0 ∧ H = [(0, .mat 1 (bM n eqF))]) := by
 refine WpCallG.intro g36 rfl rfl ?_
 unfold af36
 change WpG _ _ _ _ _
 refine WpG.seq ?_
 refine WpG.reg ?_
 refine G.mv rfl ?_
 refine WpOpsG.nil ?_
 change WpG _ _ _ _ _
 refine WpG.seq ?_
 refine WpG.reg ?_
 refine G.mv rfl ?_
 refine G.mkslice (g := 0) rfl rfl (by omega) (by omega) (by omega) (by omega) rfl rfl rfl rfl ?_
 rw [Int.toNat_natCast]
 refine WpOpsG.toMat 0 1 (n := n) rfl ?_
 rw [← kR_0 (f := eqF)]
 refine G.mv rfl ?_
 refine WpOpsG.nil ?_
 change WpG _ _ _ _ _
 refine WpG.seq ?_
 refine WpG.seq ?_
 refine WpG.reg ?_
 refine G.mv rfl ?_
 refine G.lenMt rfl rfl ?_
 rw [kR_len (Nat.zero_le _)]
 refine G.mv rfl ?_
 refine WpOpsG.nil ?_
 change WpG _ _ _ _ _
 refine WpG.block ?_
 refine WpG.loop (S := Nat) (fun i => [(0, .v (.int .i64 (n : Int))), (3, .msl 0), (8, .v (.int .i64 ((n : Nat) : Int))), (9, .v (.int .i64 ((i : Nat) : Int)))]) (fun i => [(0, .mat 1 (kR i n eqF))]) (fun i => i ≤ n) (fun i => n - i) (fun s => ⟨rfl, rfl⟩) ?_ 0 ?_ (by repeat (first | exact trivial | refine ⟨rfl, ?_⟩)) (by repeat (first | exact trivial | refine ⟨rfl, ?_⟩)) rfl
 ·intro i hI
  refine WpG.seq ?_
  refine WpG.reg ?_
  refine G.bin rfl rfl rfl ?_
  refine WpOpsG.nil ?_
  change WpG _ _ _ _ _
  refine WpG.seq ?_
  refine WpG.cond rfl (fun hq1 => ?_) (fun hq1 => ?_)
  ·(try simp only [zN] at hq1)
   refine WpG.skip ?_
   change WpG _ _ _ _ _
   refine WpG.seq ?_
   refine WpG.block ?_
   refine WpG.seq ?_
   refine WpG.reg ?_
   refine G.mv rfl ?_
   refine G.mv rfl ?_
   refine WpOpsG.nil ?_
   change WpG _ _ _ _ _
   refine WpG.seq ?_
   refine WpG.reg ?_
   refine G.mv rfl ?_
   refine G.mv rfl ?_
   refine G.mv rfl ?_
   refine G.mkslice (g := 11) rfl rfl (by omega) (by omega) (by omega) (by omega) rfl rfl rfl rfl ?_
   rw [Int.toNat_natCast]
   change WpOpsG _ _ _ ((11, .arr .yes 1 (List.replicate n [GV.v (.bool false)])) :: _) _
   refine G.iaddrMt rfl rfl rfl (by omega) (by rw [kR_len (by omega)]; omega) ?_
   rw [Int.toNat_natCast]
   refine G.storeMt (g := 0) (g' := 11) rfl rfl rfl rfl (by rw [kR_len (by omega)]; omega) ?_
   rw [kR_set (by omega)]
   refine WpOpsG.nil ?_
   change WpG _ _ _ _ _
   refine WpG.reg ?_
   refine G.mv rfl ?_
   refine G.mv rfl ?_
   refine G.iaddrMt rfl rfl rfl (by omega) (by rw [← kR_set (by omega), List.length_set, kR_len (by omega)]; omega) ?_
   rw [Int.toNat_natCast]
   refine G.load1Mt rfl rfl kR_at ?_
   refine G.mv rfl ?_
   refine G.iaddrR rfl rfl kR_at rfl (by omega) (by rw [List.length_replicate]; omega) ?_
   rw [Int.toNat_natCast]
   refine G.storeR (vs := [.v (.bool true)]) (c := [.v (.bool false)]) (c' := [.v (.bool true)]) rfl rfl rfl kR_at (by rw [List.getElem?_replicate, if_pos (by omega)]) rfl rfl rfl rfl ?_
   rw [kR_step row_upd]
   refine WpOpsG.nil ?_
   change WpG _ _ _ _ _
   refine WpG.reg ?_
   refine G.addI rfl rfl (by omega) ?_
   refine G.mv rfl ?_
   refine WpOpsG.nil ?_
   exact ⟨i + 1, by omega, by omega, ⟨rfl, rfl, rfl, rfl, trivial⟩, ⟨rfl, trivial⟩, rfl⟩
  ·(try simp only [zN] at hq1)
   refine WpG.exit ?_
   change WpG _ _ _ _ _
   refine WpG.seq ?_
   obtain rfl : i = n := by omega
   rw [kR_n]
   refine WpG.reg ?_
   refine G.mv rfl ?_
   refine G.mv rfl ?_
   refine WpOpsG.nil ?_
   change WpG _ _ _ _ _
   refine WpG.ret ?_
   refine ⟨_, [(0, .mat 1 (bM i eqF))], rfl, (hasP_le (by repeat (first | exact trivial | refine ⟨rfl, ?_⟩))), rfl, rfl, rfl, ?_⟩
   exact ⟨rfl, rfl⟩
 ·exact Nat.zero_le _
end Go.AM.L10
