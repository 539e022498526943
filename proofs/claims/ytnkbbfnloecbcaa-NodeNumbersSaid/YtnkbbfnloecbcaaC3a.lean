/- Contracts of the functions that the statement reaches. No condition. -/
import Derived.Test.YtnkbbfnloecbcaaB3
import Derived.Test.YtnkbbfnloecbcaaPLm
set_option linter.all false
set_option maxRecDepth 10000
namespace Go.AM.L3
open Go.AM.PL
theorem within_ok (n lo hi : Int) (hn : -2 ^ 63 ≤ n ∧ n < 2 ^ 63) (hlo : -1099511627776 ≤ lo) (hle : lo ≤ hi) (hhi : hi ≤ 2 ^ 50)  : WpCallG A 12 [.v (.int .i64 n), .v (.int .i64 lo), .v (.int .i64 hi)] [] (fun v H => v = .v (.int .i64 (within n lo hi)) ∧ H = []) := by
 have h1 := Int.tmod_lt_of_pos n (show 0 < hi - lo + 1 by omega)
 have h2 := Int.lt_tmod_of_pos n (show 0 < hi - lo + 1 by omega)
 refine WpCallG.intro g12 rfl rfl ?_
 unfold af12
 change WpG _ _ _ _ _
 refine WpG.seq ?_
 refine WpG.reg ?_
 refine G.mv rfl ?_
 refine WpOpsG.nil ?_
 change WpG _ _ _ _ _
 refine WpG.seq ?_
 refine WpG.seq ?_
 refine WpG.reg ?_
 refine G.mv rfl ?_
 refine G.mv rfl ?_
 refine G.bin rfl rfl rfl ?_
 refine G.mv rfl ?_
 apply G.andS rfl rfl rfl rfl rfl rfl
 case hB =>
  intro hs1
  (try simp only [zN] at hs1)
  refine G.mv rfl ?_
  refine G.mv rfl ?_
  refine G.bin rfl rfl rfl ?_
  refine WpOpsG.nil ?_
  exact ⟨rfl, (by repeat (first | exact LLe.refl _ | refine LLe.cons rfl ?_)), (by repeat (first | exact HLe.refl _ | refine HLe.cons rfl ?_)), rfl⟩
 refine WpOpsG.nil ?_
 change WpG _ _ _ _ _
 refine WpG.cond rfl (fun hq2 => ?_) (fun hq2 => ?_)
 ·(try simp only [zN] at hq2)
  refine WpG.seq ?_
  refine WpG.reg ?_
  refine G.mv rfl ?_
  refine G.mv rfl ?_
  refine WpOpsG.nil ?_
  change WpG _ _ _ _ _
  refine WpG.ret ?_
  refine ⟨_, [], rfl, (hasP_le (by repeat (first | exact trivial | refine ⟨rfl, ?_⟩))), rfl, rfl, rfl, ?_⟩
  refine ⟨?_, rfl⟩
  unfold within; rw [if_pos (by omega)]; rfl
 ·(try simp only [zN] at hq2)
  refine WpG.skip ?_
  change WpG _ _ _ _ _
  refine WpG.seq ?_
  refine WpG.reg ?_
  refine G.mv rfl ?_
  refine G.mv rfl ?_
  refine G.mv rfl ?_
  refine G.subI rfl rfl (by omega) ?_
  refine G.addI rfl rfl (by omega) ?_
  refine G.remP rfl rfl (by omega) ?_
  refine G.mv rfl ?_
  refine WpOpsG.nil ?_
  change WpG _ _ _ _ _
  refine WpG.seqJ ([(0, .v (.int .i64 (wrem n lo hi))), (1, .v (.int .i64 lo))]) ([]) ⟨rfl, rfl⟩ ?_ ?_
  ·change WpG _ _ _ _ _
   refine WpG.seq ?_
   refine WpG.reg ?_
   refine G.mv rfl ?_
   refine G.bin rfl rfl rfl ?_
   refine WpOpsG.nil ?_
   change WpG _ _ _ _ _
   refine WpG.cond rfl (fun hq3 => ?_) (fun hq3 => ?_)
   ·(try simp only [zN] at hq3)
    refine WpG.reg ?_
    refine G.mv rfl ?_
    refine G.mv rfl ?_
    refine G.addI rfl rfl (by omega) ?_
    refine G.mv rfl ?_
    refine G.subI rfl rfl (by omega) ?_
    refine G.addI rfl rfl (by omega) ?_
    refine G.mv rfl ?_
    refine WpOpsG.nil ?_
    refine ⟨⟨?_, rfl, trivial⟩, trivial, rfl⟩
    show some (GV.v (.int .i64 _)) = some (GV.v (.int .i64 (wrem n lo hi)))
    unfold wrem
    (rw [if_pos (by omega)]; done)
   ·(try simp only [zN] at hq3)
    refine WpG.skip ?_
    refine ⟨⟨?_, rfl, trivial⟩, trivial, rfl⟩
    show some (GV.v (.int .i64 _)) = some (GV.v (.int .i64 (wrem n lo hi)))
    unfold wrem
    (rw [if_neg (by omega)]; done)
  have hw := within_rng n lo hi hle
  have hwr : 0 ≤ wrem n lo hi ∧ wrem n lo hi ≤ hi - lo := by
   unfold wrem; split <;> omega
  change WpG _ _ _ _ _
  refine WpG.seq ?_
  refine WpG.reg ?_
  refine G.mv rfl ?_
  refine G.mv rfl ?_
  refine G.addI rfl rfl (by omega) ?_
  refine G.mv rfl ?_
  refine WpOpsG.nil ?_
  change WpG _ _ _ _ _
  refine WpG.ret ?_
  refine ⟨_, [], rfl, (hasP_le (by repeat (first | exact trivial | refine ⟨rfl, ?_⟩))), rfl, rfl, rfl, ?_⟩
  refine ⟨?_, rfl⟩
  unfold within; rw [if_neg (by omega)]; rfl
theorem kidsX_ok (x : Nd) : WpCallG A 27 [.agg (encD x)] [] (fun v H => v = .v (.int .i64 (kidV x)) ∧ H = []) := by
 refine WpCallG.intro g27 rfl rfl ?_
 unfold af27
 change WpG _ _ _ _ _
 refine WpG.seq ?_
 refine WpG.reg ?_
 refine G.box (g := 10) rfl rfl rfl ?_
 refine G.mv rfl ?_
 refine WpOpsG.nil ?_
 change WpG _ _ _ _ _
 refine WpG.seq ?_
 refine WpG.block ?_
 refine WpG.seq ?_
 refine WpG.reg ?_
 refine G.faddrB rfl ?_
 refine G.load1B rfl rfl rfl ?_
 refine G.bin rfl rfl rfl ?_
 refine G.mv rfl ?_
 apply G.orS rfl rfl rfl rfl rfl rfl
 case hB =>
  intro hs1
  (try simp only [zN] at hs1)
  refine G.faddrB rfl ?_
  refine G.load1B rfl rfl rfl ?_
  refine G.bin rfl rfl rfl ?_
  refine G.mv rfl ?_
  apply G.andS rfl rfl rfl rfl rfl rfl
  case hB =>
   intro hs2
   (try simp only [zN] at hs2)
   refine G.faddrB rfl ?_
   refine G.load1B rfl rfl rfl ?_
   refine G.bin rfl rfl rfl ?_
   refine WpOpsG.nil ?_
   exact ⟨rfl, (by repeat (first | exact LLe.refl _ | refine LLe.cons rfl ?_)), (by repeat (first | exact HLe.refl _ | refine HLe.cons rfl ?_)), rfl⟩
  refine WpOpsG.nil ?_
  exact ⟨rfl, (by repeat (first | exact LLe.refl _ | refine LLe.cons rfl ?_)), (by repeat (first | exact HLe.refl _ | refine HLe.cons rfl ?_)), rfl⟩
 refine G.mv rfl ?_
 refine WpOpsG.nil ?_
 change WpG _ _ _ _ _
 refine WpG.cond rfl (fun hq3 => ?_) (fun hq3 => ?_)
 ·(try simp only [zN] at hq3)
  refine WpG.seq ?_
  refine WpG.reg ?_
  refine G.mv rfl ?_
  refine WpOpsG.nil ?_
  change WpG _ _ _ _ _
  refine WpG.ret ?_
  refine ⟨_, [], rfl, (hasP_le (by repeat (first | exact trivial | refine ⟨rfl, ?_⟩))), rfl, rfl, rfl, ?_⟩
  first
   | (exfalso; omega)
   | (have e : kidV x = -1 := by unfold kidV; (repeat' split) <;> omega
      rw [e]; exact ⟨rfl, rfl⟩)
   | (have e : kidV x = 0 := by unfold kidV; (repeat' split) <;> omega
      rw [e]; exact ⟨rfl, rfl⟩)
   | (have e : kidV x = x.n := by unfold kidV; (repeat' split) <;> omega
      rw [e]; exact ⟨rfl, rfl⟩)
   | (have e : kidV x = 1 := by unfold kidV; (repeat' split) <;> omega
      rw [e]; exact ⟨rfl, rfl⟩)
 ·(try simp only [zN] at hq3)
  refine WpG.seq ?_
  refine WpG.seq ?_
  refine WpG.reg ?_
  refine G.faddrB rfl ?_
  refine G.load1B rfl rfl rfl ?_
  refine G.bin rfl rfl rfl ?_
  refine G.mv rfl ?_
  apply G.andS rfl rfl rfl rfl rfl rfl
  case hB =>
   intro hs4
   (try simp only [zN] at hs4)
   refine G.faddrB rfl ?_
   refine G.load1B rfl rfl rfl ?_
   refine G.bin rfl rfl rfl ?_
   refine WpOpsG.nil ?_
   exact ⟨rfl, (by repeat (first | exact LLe.refl _ | refine LLe.cons rfl ?_)), (by repeat (first | exact HLe.refl _ | refine HLe.cons rfl ?_)), rfl⟩
  refine G.mv rfl ?_
  apply G.andS rfl rfl rfl rfl rfl rfl
  case hB =>
   intro hs5
   (try simp only [zN] at hs5)
   refine G.faddrB rfl ?_
   refine G.load1B rfl rfl rfl ?_
   refine G.bin rfl rfl rfl ?_
   refine WpOpsG.nil ?_
   exact ⟨rfl, (by repeat (first | exact LLe.refl _ | refine LLe.cons rfl ?_)), (by repeat (first | exact HLe.refl _ | refine HLe.cons rfl ?_)), rfl⟩
  refine G.mv rfl ?_
  refine WpOpsG.nil ?_
  change WpG _ _ _ _ _
  refine WpG.cond rfl (fun hq6 => ?_) (fun hq6 => ?_)
  ·(try simp only [zN] at hq6)
   refine WpG.skip ?_
   change WpG _ _ _ _ _
   refine WpG.cond rfl (fun hq7 => ?_) (fun hq7 => ?_)
   ·(try simp only [zN] at hq7)
    refine WpG.seq ?_
    refine WpG.reg ?_
    refine G.mv rfl ?_
    refine WpOpsG.nil ?_
    change WpG _ _ _ _ _
    refine WpG.ret ?_
    refine ⟨_, [], rfl, (hasP_le (by repeat (first | exact trivial | refine ⟨rfl, ?_⟩))), rfl, rfl, rfl, ?_⟩
    first
     | (exfalso; omega)
     | (have e : kidV x = -1 := by unfold kidV; (repeat' split) <;> omega
        rw [e]; exact ⟨rfl, rfl⟩)
     | (have e : kidV x = 0 := by unfold kidV; (repeat' split) <;> omega
        rw [e]; exact ⟨rfl, rfl⟩)
     | (have e : kidV x = x.n := by unfold kidV; (repeat' split) <;> omega
        rw [e]; exact ⟨rfl, rfl⟩)
     | (have e : kidV x = 1 := by unfold kidV; (repeat' split) <;> omega
        rw [e]; exact ⟨rfl, rfl⟩)
   ·(try simp only [zN] at hq7)
    refine WpG.seq ?_
    refine WpG.reg ?_
    refine G.faddrB rfl ?_
    refine G.load1B rfl rfl rfl ?_
    refine G.bin rfl rfl rfl ?_
    refine G.mv rfl ?_
    apply G.andS rfl rfl rfl rfl rfl rfl
    case hB =>
     intro hs8
     (try simp only [zN] at hs8)
     refine G.faddrB rfl ?_
     refine G.load1B rfl rfl rfl ?_
     refine G.bin rfl rfl rfl ?_
     refine WpOpsG.nil ?_
     exact ⟨rfl, (by repeat (first | exact LLe.refl _ | refine LLe.cons rfl ?_)), (by repeat (first | exact HLe.refl _ | refine HLe.cons rfl ?_)), rfl⟩
    refine G.mv rfl ?_
    refine WpOpsG.nil ?_
    change WpG _ _ _ _ _
    refine WpG.cond rfl (fun hq9 => ?_) (fun hq9 => ?_)
    ·(try simp only [zN] at hq9)
     refine WpG.seq ?_
     refine WpG.reg ?_
     refine G.faddrB rfl ?_
     refine G.load1B rfl rfl rfl ?_
     refine G.mv rfl ?_
     refine WpOpsG.nil ?_
     change WpG _ _ _ _ _
     refine WpG.ret ?_
     refine ⟨_, [], rfl, (hasP_le (by repeat (first | exact trivial | refine ⟨rfl, ?_⟩))), rfl, rfl, rfl, ?_⟩
     first
      | (exfalso; omega)
      | (have e : kidV x = -1 := by unfold kidV; (repeat' split) <;> omega
         rw [e]; exact ⟨rfl, rfl⟩)
      | (have e : kidV x = 0 := by unfold kidV; (repeat' split) <;> omega
         rw [e]; exact ⟨rfl, rfl⟩)
      | (have e : kidV x = x.n := by unfold kidV; (repeat' split) <;> omega
         rw [e]; exact ⟨rfl, rfl⟩)
      | (have e : kidV x = 1 := by unfold kidV; (repeat' split) <;> omega
         rw [e]; exact ⟨rfl, rfl⟩)
    ·(try simp only [zN] at hq9)
     refine WpG.seq ?_
     refine WpG.reg ?_
     refine G.faddrB rfl ?_
     refine G.load1B rfl rfl rfl ?_
     refine G.bin rfl rfl rfl ?_
     refine G.mv rfl ?_
     refine WpOpsG.nil ?_
     change WpG _ _ _ _ _
     refine WpG.cond rfl (fun hq10 => ?_) (fun hq10 => ?_)
     ·(try simp only [zN] at hq10)
      refine WpG.seq ?_
      refine WpG.reg ?_
      refine G.mv rfl ?_
      refine WpOpsG.nil ?_
      change WpG _ _ _ _ _
      refine WpG.ret ?_
      refine ⟨_, [], rfl, (hasP_le (by repeat (first | exact trivial | refine ⟨rfl, ?_⟩))), rfl, rfl, rfl, ?_⟩
      first
       | (exfalso; omega)
       | (have e : kidV x = -1 := by unfold kidV; (repeat' split) <;> omega
          rw [e]; exact ⟨rfl, rfl⟩)
       | (have e : kidV x = 0 := by unfold kidV; (repeat' split) <;> omega
          rw [e]; exact ⟨rfl, rfl⟩)
       | (have e : kidV x = x.n := by unfold kidV; (repeat' split) <;> omega
          rw [e]; exact ⟨rfl, rfl⟩)
       | (have e : kidV x = 1 := by unfold kidV; (repeat' split) <;> omega
          rw [e]; exact ⟨rfl, rfl⟩)
     ·(try simp only [zN] at hq10)
      refine WpG.skip ?_
      change WpG _ _ _ _ _
      refine WpG.seq ?_
      refine WpG.reg ?_
      refine G.mv rfl ?_
      refine WpOpsG.nil ?_
      change WpG _ _ _ _ _
      refine WpG.ret ?_
      refine ⟨_, [], rfl, (hasP_le (by repeat (first | exact trivial | refine ⟨rfl, ?_⟩))), rfl, rfl, rfl, ?_⟩
      first
       | (exfalso; omega)
       | (have e : kidV x = -1 := by unfold kidV; (repeat' split) <;> omega
          rw [e]; exact ⟨rfl, rfl⟩)
       | (have e : kidV x = 0 := by unfold kidV; (repeat' split) <;> omega
          rw [e]; exact ⟨rfl, rfl⟩)
       | (have e : kidV x = x.n := by unfold kidV; (repeat' split) <;> omega
          rw [e]; exact ⟨rfl, rfl⟩)
       | (have e : kidV x = 1 := by unfold kidV; (repeat' split) <;> omega
          rw [e]; exact ⟨rfl, rfl⟩)
  ·(try simp only [zN] at hq6)
   refine WpG.reg ?_
   refine G.faddrB rfl ?_
   refine G.load1B rfl rfl rfl ?_
   refine G.bin rfl rfl rfl ?_
   refine G.mv rfl ?_
   refine WpOpsG.nil ?_
   change WpG _ _ _ _ _
   refine WpG.cond rfl (fun hq11 => ?_) (fun hq11 => ?_)
   ·(try simp only [zN] at hq11)
    refine WpG.seq ?_
    refine WpG.reg ?_
    refine G.mv rfl ?_
    refine WpOpsG.nil ?_
    change WpG _ _ _ _ _
    refine WpG.ret ?_
    refine ⟨_, [], rfl, (hasP_le (by repeat (first | exact trivial | refine ⟨rfl, ?_⟩))), rfl, rfl, rfl, ?_⟩
    first
     | (exfalso; omega)
     | (have e : kidV x = -1 := by unfold kidV; (repeat' split) <;> omega
        rw [e]; exact ⟨rfl, rfl⟩)
     | (have e : kidV x = 0 := by unfold kidV; (repeat' split) <;> omega
        rw [e]; exact ⟨rfl, rfl⟩)
     | (have e : kidV x = x.n := by unfold kidV; (repeat' split) <;> omega
        rw [e]; exact ⟨rfl, rfl⟩)
     | (have e : kidV x = 1 := by unfold kidV; (repeat' split) <;> omega
        rw [e]; exact ⟨rfl, rfl⟩)
   ·(try simp only [zN] at hq11)
    refine WpG.seq ?_
    refine WpG.reg ?_
    refine G.faddrB rfl ?_
    refine G.load1B rfl rfl rfl ?_
    refine G.bin rfl rfl rfl ?_
    refine G.mv rfl ?_
    apply G.andS rfl rfl rfl rfl rfl rfl
    case hB =>
     intro hs12
     (try simp only [zN] at hs12)
     refine G.faddrB rfl ?_
     refine G.load1B rfl rfl rfl ?_
     refine G.bin rfl rfl rfl ?_
     refine WpOpsG.nil ?_
     exact ⟨rfl, (by repeat (first | exact LLe.refl _ | refine LLe.cons rfl ?_)), (by repeat (first | exact HLe.refl _ | refine HLe.cons rfl ?_)), rfl⟩
    refine G.mv rfl ?_
    refine WpOpsG.nil ?_
    change WpG _ _ _ _ _
    refine WpG.cond rfl (fun hq13 => ?_) (fun hq13 => ?_)
    ·(try simp only [zN] at hq13)
     refine WpG.seq ?_
     refine WpG.reg ?_
     refine G.faddrB rfl ?_
     refine G.load1B rfl rfl rfl ?_
     refine G.mv rfl ?_
     refine WpOpsG.nil ?_
     change WpG _ _ _ _ _
     refine WpG.ret ?_
     refine ⟨_, [], rfl, (hasP_le (by repeat (first | exact trivial | refine ⟨rfl, ?_⟩))), rfl, rfl, rfl, ?_⟩
     first
      | (exfalso; omega)
      | (have e : kidV x = -1 := by unfold kidV; (repeat' split) <;> omega
         rw [e]; exact ⟨rfl, rfl⟩)
      | (have e : kidV x = 0 := by unfold kidV; (repeat' split) <;> omega
         rw [e]; exact ⟨rfl, rfl⟩)
      | (have e : kidV x = x.n := by unfold kidV; (repeat' split) <;> omega
         rw [e]; exact ⟨rfl, rfl⟩)
      | (have e : kidV x = 1 := by unfold kidV; (repeat' split) <;> omega
         rw [e]; exact ⟨rfl, rfl⟩)
    ·(try simp only [zN] at hq13)
     refine WpG.seq ?_
     refine WpG.reg ?_
     refine G.faddrB rfl ?_
     refine G.load1B rfl rfl rfl ?_
     refine G.bin rfl rfl rfl ?_
     refine G.mv rfl ?_
     refine WpOpsG.nil ?_
     change WpG _ _ _ _ _
     refine WpG.cond rfl (fun hq14 => ?_) (fun hq14 => ?_)
     ·(try simp only [zN] at hq14)
      refine WpG.seq ?_
      refine WpG.reg ?_
      refine G.mv rfl ?_
      refine WpOpsG.nil ?_
      change WpG _ _ _ _ _
      refine WpG.ret ?_
      refine ⟨_, [], rfl, (hasP_le (by repeat (first | exact trivial | refine ⟨rfl, ?_⟩))), rfl, rfl, rfl, ?_⟩
      first
       | (exfalso; omega)
       | (have e : kidV x = -1 := by unfold kidV; (repeat' split) <;> omega
          rw [e]; exact ⟨rfl, rfl⟩)
       | (have e : kidV x = 0 := by unfold kidV; (repeat' split) <;> omega
          rw [e]; exact ⟨rfl, rfl⟩)
       | (have e : kidV x = x.n := by unfold kidV; (repeat' split) <;> omega
          rw [e]; exact ⟨rfl, rfl⟩)
       | (have e : kidV x = 1 := by unfold kidV; (repeat' split) <;> omega
          rw [e]; exact ⟨rfl, rfl⟩)
     ·(try simp only [zN] at hq14)
      refine WpG.skip ?_
      change WpG _ _ _ _ _
      refine WpG.seq ?_
      refine WpG.reg ?_
      refine G.mv rfl ?_
      refine WpOpsG.nil ?_
      change WpG _ _ _ _ _
      refine WpG.ret ?_
      refine ⟨_, [], rfl, (hasP_le (by repeat (first | exact trivial | refine ⟨rfl, ?_⟩))), rfl, rfl, rfl, ?_⟩
      first
       | (exfalso; omega)
       | (have e : kidV x = -1 := by unfold kidV; (repeat' split) <;> omega
          rw [e]; exact ⟨rfl, rfl⟩)
       | (have e : kidV x = 0 := by unfold kidV; (repeat' split) <;> omega
          rw [e]; exact ⟨rfl, rfl⟩)
       | (have e : kidV x = x.n := by unfold kidV; (repeat' split) <;> omega
          rw [e]; exact ⟨rfl, rfl⟩)
       | (have e : kidV x = 1 := by unfold kidV; (repeat' split) <;> omega
          rw [e]; exact ⟨rfl, rfl⟩)
theorem times_ok (a b : Int) : WpCallG A 33 [.v (.int .i64 a), .v (.int .i64 b)] [] (fun v H => v = .v (.int .i64 (timV a b)) ∧ H = []) := by
 refine WpCallG.intro g33 rfl rfl ?_
 unfold af33
 change WpG _ _ _ _ _
 refine WpG.seq ?_
 refine WpG.reg ?_
 refine G.mv rfl ?_
 refine WpOpsG.nil ?_
 change WpG _ _ _ _ _
 refine WpG.seq ?_
 refine WpG.reg ?_
 refine G.mv rfl ?_
 refine G.mn rfl rfl ?_
 refine G.mv rfl ?_
 refine G.bin rfl rfl rfl ?_
 refine G.mn rfl rfl ?_
 refine G.mv rfl ?_
 refine WpOpsG.nil ?_
 change WpG _ _ _ _ _
 refine WpG.ret ?_
 refine ⟨_, [], rfl, (hasP_le (by repeat (first | exact trivial | refine ⟨rfl, ?_⟩))), rfl, rfl, rfl, ?_⟩
 exact ⟨rfl, rfl⟩
theorem addX_ok (a b : Int) : WpCallG A 34 [.v (.int .i64 a), .v (.int .i64 b)] [] (fun v H => v = .v (.int .i64 (addV a b)) ∧ H = []) := by
 refine WpCallG.intro g34 rfl rfl ?_
 unfold af34
 change WpG _ _ _ _ _
 refine WpG.seq ?_
 refine WpG.reg ?_
 refine G.mv rfl ?_
 refine WpOpsG.nil ?_
 change WpG _ _ _ _ _
 refine WpG.seq ?_
 refine WpG.reg ?_
 refine G.mv rfl ?_
 refine G.mv rfl ?_
 refine G.mn rfl rfl ?_
 refine G.bin rfl rfl rfl ?_
 refine G.mn rfl rfl ?_
 refine G.mv rfl ?_
 refine WpOpsG.nil ?_
 change WpG _ _ _ _ _
 refine WpG.ret ?_
 refine ⟨_, [], rfl, (hasP_le (by repeat (first | exact trivial | refine ⟨rfl, ?_⟩))), rfl, rfl, rfl, ?_⟩
 exact ⟨rfl, rfl⟩
theorem nsize_ok (l : List Nd) (a : Int) (hl : l.length ≤ 2 ^ 43) (ha : i64 a) : WpCallG A 16 [.fsl 3 (l.map encD), .v (.int .i64 a)] [] (fun v H => v = .v (.int .i64 (sizeV l a)) ∧ H = []) := by
 unfold i64 at ha
 refine WpCallG.intro g16 rfl rfl ?_
 unfold af16
 change WpG _ _ _ _ _
 refine WpG.seq ?_
 refine WpG.reg ?_
 refine G.mv rfl ?_
 refine WpOpsG.nil ?_
 change WpG _ _ _ _ _
 refine WpG.seq ?_
 refine WpG.seq ?_
 refine WpG.reg ?_
 refine G.mv rfl ?_
 refine G.bin rfl rfl rfl ?_
 refine G.mv rfl ?_
 apply G.orS rfl rfl rfl rfl rfl rfl
 case hB =>
  intro hs1
  (try simp only [zN] at hs1)
  refine G.mv rfl ?_
  refine G.mv rfl ?_
  refine G.lenM rfl ?_
  refine G.bin rfl rfl rfl ?_
  refine WpOpsG.nil ?_
  exact ⟨rfl, (by repeat (first | exact LLe.refl _ | refine LLe.cons rfl ?_)), (by repeat (first | exact HLe.refl _ | refine HLe.cons rfl ?_)), rfl⟩
 refine WpOpsG.nil ?_
 change WpG _ _ _ _ _
 refine WpG.cond rfl (fun hq2 => ?_) (fun hq2 => ?_)
 ·(try simp only [zN] at hq2)
  refine WpG.seq ?_
  refine WpG.reg ?_
  refine G.mv rfl ?_
  refine WpOpsG.nil ?_
  change WpG _ _ _ _ _
  refine WpG.ret ?_
  refine ⟨_, [], rfl, (hasP_le (by repeat (first | exact trivial | refine ⟨rfl, ?_⟩))), rfl, rfl, rfl, ?_⟩
  have e : sizeV l a = 0 := by unfold sizeV; rw [if_pos (by omega)]
  rw [e]; exact ⟨rfl, rfl⟩
 ·(try simp only [zN] at hq2)
  refine WpG.skip ?_
  change WpG _ _ _ _ _
  refine WpG.seq ?_
  obtain ⟨q, rfl⟩ : ∃ q : Nat, a = q := ⟨a.toNat, by omega⟩
  have hq0 : sizeV l q = scan (l.drop q) 1 0 := by unfold sizeV; rw [if_neg (by omega), Int.toNat_natCast]
  refine WpG.reg ?_
  refine G.mv rfl ?_
  refine WpOpsG.nil ?_
  change WpG _ _ _ _ _
  refine WpG.seq ?_
  refine WpG.seq ?_
  refine WpG.reg ?_
  refine G.mv rfl ?_
  refine G.mv rfl ?_
  refine WpOpsG.nil ?_
  change WpG _ _ _ _ _
  refine WpG.block ?_
  refine WpG.loop (S := Nat × Int) (fun s => [(0, .fsl 3 (l.map encD)), (1, .v (.int .i64 (q : Int))), (5, .v (.int .i64 s.2)), (6, .v (.int .i64 (s.1 : Int)))]) (fun _ => []) (fun s => (q ≤ s.1 ∧ s.1 ≤ l.length) ∧ (1 ≤ s.2 ∧ s.2 ≤ 1 + 128 * s.1) ∧ scan (l.drop s.1) s.2 ((s.1 : Int) - q) = sizeV l q) (fun s => l.length - s.1) (fun s => ⟨rfl, rfl⟩) ?_ (q, 1) ?_ (by repeat (first | exact trivial | refine ⟨rfl, ?_⟩)) (by repeat (first | exact trivial | refine ⟨rfl, ?_⟩)) rfl
  ·rintro ⟨i, s⟩ ⟨⟨hI0, hI⟩, hs, hT⟩
   dsimp only at hI0 hI hs hT ⊢
   refine WpG.seq ?_
   refine WpG.seq ?_
   refine WpG.reg ?_
   refine G.mv rfl ?_
   refine G.mv rfl ?_
   refine G.lenM rfl ?_
   refine G.bin rfl rfl rfl ?_
   refine WpOpsG.nil ?_
   change WpG _ _ _ _ _
   refine WpG.cond rfl (fun hq3 => ?_) (fun hq3 => ?_)
   ·(try simp only [zN] at hq3)
    refine WpG.skip ?_
    change WpG _ _ _ _ _
    refine WpG.seq ?_
    refine WpG.block ?_
    refine WpG.seq ?_
    have hlt : i < l.length := by omega
    have hd := List.drop_eq_getElem_cons hlt
    rw [hd, scan] at hT
    have hkr := kidV_rng l[i]
    refine WpG.reg ?_
    refine G.mv rfl ?_
    refine G.mv rfl ?_
    refine G.iaddrN rfl rfl (List.getElem?_eq_getElem (by omega)) ?_
    refine G.loadNF rfl rfl ?_
    refine G.call0 rfl rfl (kidsX_ok l[i]) ?_
    rintro _ _ ⟨rfl, rfl⟩
    refine ⟨rfl, ?_⟩
    change WpOpsG _ _ ((27, _) :: _) _ _
    refine G.mv rfl ?_
    refine WpOpsG.nil ?_
    change WpG _ _ _ _ _
    refine WpG.seq ?_
    refine WpG.seq ?_
    refine WpG.reg ?_
    refine G.mv rfl ?_
    refine G.bin rfl rfl rfl ?_
    refine WpOpsG.nil ?_
    change WpG _ _ _ _ _
    refine WpG.cond rfl (fun hq4 => ?_) (fun hq4 => ?_)
    ·(try simp only [zN] at hq4)
     refine WpG.seq ?_
     refine WpG.reg ?_
     refine G.mv rfl ?_
     refine WpOpsG.nil ?_
     change WpG _ _ _ _ _
     refine WpG.ret ?_
     refine ⟨_, [], rfl, (hasP_le (by repeat (first | exact trivial | refine ⟨rfl, ?_⟩))), rfl, rfl, rfl, ?_⟩
     rw [if_pos (by omega)] at hT
     rw [← hT]; exact ⟨rfl, rfl⟩
    ·(try simp only [zN] at hq4)
     refine WpG.skip ?_
     change WpG _ _ _ _ _
     refine WpG.seq ?_
     refine WpG.reg ?_
     refine G.mv rfl ?_
     refine G.mv rfl ?_
     refine G.subI rfl rfl (by omega) ?_
     refine G.addI rfl rfl (by omega) ?_
     refine G.mv rfl ?_
     refine WpOpsG.nil ?_
     change WpG _ _ _ _ _
     refine WpG.seq ?_
     refine WpG.reg ?_
     refine G.mv rfl ?_
     refine G.bin rfl rfl rfl ?_
     refine WpOpsG.nil ?_
     change WpG _ _ _ _ _
     refine WpG.cond rfl (fun hq5 => ?_) (fun hq5 => ?_)
     ·(try simp only [zN] at hq5)
      refine WpG.seq ?_
      refine WpG.reg ?_
      refine G.mv rfl ?_
      refine G.addI rfl rfl (by omega) ?_
      refine G.mv rfl ?_
      refine G.subI rfl rfl (by omega) ?_
      refine G.mv rfl ?_
      refine WpOpsG.nil ?_
      change WpG _ _ _ _ _
      refine WpG.ret ?_
      refine ⟨_, [], rfl, (hasP_le (by repeat (first | exact trivial | refine ⟨rfl, ?_⟩))), rfl, rfl, rfl, ?_⟩
      rw [if_neg (by omega), if_pos (by omega)] at hT
      rw [← hT, show (i : Int) - q + 1 = (i : Int) + 1 - q by omega]; exact ⟨rfl, rfl⟩
     ·(try simp only [zN] at hq5)
      refine WpG.skip ?_
      change WpG _ _ _ _ _
      refine WpG.reg ?_
      refine G.mv rfl ?_
      refine G.addI rfl rfl (by omega) ?_
      refine G.mv rfl ?_
      refine WpOpsG.nil ?_
      rw [if_neg (by omega), if_neg (by omega)] at hT
      exact ⟨(i + 1, s + (kidV l[i] - 1)), by show l.length - (i + 1) < l.length - i; omega, ⟨⟨by dsimp only; omega, by dsimp only; omega⟩, ⟨by dsimp only; omega, by dsimp only; omega⟩, by dsimp only; rw [← hT]; congr 1; omega⟩, ⟨rfl, rfl, rfl, rfl, trivial⟩, trivial, rfl⟩
   ·(try simp only [zN] at hq3)
    refine WpG.exit ?_
    change WpG _ _ _ _ _
    refine WpG.seq ?_
    refine WpG.reg ?_
    refine G.mv rfl ?_
    refine WpOpsG.nil ?_
    change WpG _ _ _ _ _
    refine WpG.ret ?_
    refine ⟨_, [], rfl, (hasP_le (by repeat (first | exact trivial | refine ⟨rfl, ?_⟩))), rfl, rfl, rfl, ?_⟩
    rw [← hT, List.drop_eq_nil_of_le (by omega)]; exact ⟨rfl, rfl⟩
  ·exact ⟨⟨Nat.le_refl _, by dsimp only; omega⟩, ⟨by dsimp only; omega, by dsimp only; omega⟩, by dsimp only; rw [hq0, Int.sub_self]⟩
theorem whole_ok (l : List Nd) (hl : l.length ≤ 2 ^ 43) : WpCallG A 26 [.fsl 3 (l.map encD)] [] (fun v H => v = .v (.bool (wholeV l)) ∧ H = []) := by
 refine WpCallG.intro g26 rfl rfl ?_
 unfold af26
 change WpG _ _ _ _ _
 refine WpG.seq ?_
 refine WpG.reg ?_
 refine G.mv rfl ?_
 refine WpOpsG.nil ?_
 change WpG _ _ _ _ _
 refine WpG.seq ?_
 refine WpG.reg ?_
 refine G.mv rfl ?_
 refine G.lenM rfl ?_
 refine G.bin rfl rfl rfl ?_
 refine G.mv rfl ?_
 apply G.andS rfl rfl rfl rfl rfl rfl
 case hB =>
  intro hs1
  (try simp only [zN] at hs1)
  refine G.mv rfl ?_
  refine G.call0 rfl rfl (nsize_ok l 0 hl (by unfold i64; decide)) ?_
  rintro _ _ ⟨rfl, rfl⟩
  refine ⟨rfl, ?_⟩
  change WpOpsG _ _ ((8, _) :: _) _ _
  refine G.mv rfl ?_
  refine G.lenM rfl ?_
  refine G.bin rfl rfl rfl ?_
  refine WpOpsG.nil ?_
  exact ⟨rfl, (by repeat (first | exact LLe.refl _ | refine LLe.cons rfl ?_)), (by repeat (first | exact HLe.refl _ | refine HLe.cons rfl ?_)), rfl⟩
 refine G.mv rfl ?_
 refine WpOpsG.nil ?_
 change WpG _ _ _ _ _
 refine WpG.ret ?_
 refine ⟨_, [], rfl, (hasP_le (by repeat (first | exact trivial | refine ⟨rfl, ?_⟩))), rfl, rfl, rfl, ?_⟩
 refine ⟨?_, rfl⟩
 show GV.v (.bool (decide ((l.length : Int) > 0) && (sizeV l 0 == (l.length : Int)))) = _
 unfold wholeV
 rw [show decide ((l.length : Int) > 0) = decide (0 < l.length) from decide_eq_decide.2 (by omega)]; rfl
end Go.AM.L3
