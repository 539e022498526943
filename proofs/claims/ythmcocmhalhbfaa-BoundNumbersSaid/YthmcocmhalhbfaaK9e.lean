/- Contracts of the functions that the statement reaches. No condition. -/
import Derived.Test.YthmcocmhalhbfaaK9d
import Derived.Test.YthmcocmhalhbfaaPLp
set_option linter.all false
set_option maxRecDepth 10000
namespace Go.AM.L9
open Go.AM.PL
theorem name_ok (s : ByteArray) (hs : s.size ≤ 2 ^ 40) : WpCallG A 47 [.v (.string s)] [] (fun v H => ∃ b : Bool, v = .v (.bool b) ∧ H = []) := by
 refine WpCallG.intro g47 rfl rfl ?_
 unfold af47
 change WpG _ _ _ _ _
 refine WpG.seq ?_
 refine WpG.reg ?_
 refine G.mv rfl ?_
 refine WpOpsG.nil ?_
 change WpG _ _ _ _ _
 refine WpG.seq ?_
 refine WpG.seq ?_
 refine WpG.reg ?_
 refine G.mv rfl ?_
 refine WpOpsG.nil ?_
 change WpG _ _ _ _ _
 refine WpG.block ?_
 refine WpG.loop (S := Nat) (fun i => [(0, .v (.string s)), (3, .v (.int .i64 (i : Int)))]) (fun _ => []) (fun i => i ≤ s.size) (fun i => s.size - i) (fun s => ⟨rfl, rfl⟩) ?_ 0 ?_ (by repeat (first | exact trivial | refine ⟨rfl, ?_⟩)) (by repeat (first | exact trivial | refine ⟨rfl, ?_⟩)) rfl
 ·intro i hI
  refine WpG.seq ?_
  refine WpG.seq ?_
  refine WpG.reg ?_
  refine G.mv rfl ?_
  refine G.mv rfl ?_
  refine G.lenStr rfl ?_
  refine G.bin rfl rfl rfl ?_
  refine WpOpsG.nil ?_
  change WpG _ _ _ _ _
  refine WpG.cond rfl (fun hq1 => ?_) (fun hq1 => ?_)
  ·(try simp only [zN] at hq1)
   refine WpG.skip ?_
   change WpG _ _ _ _ _
   refine WpG.seq ?_
   refine WpG.block ?_
   refine WpG.seq ?_
   refine WpG.reg ?_
   refine G.mv rfl ?_
   refine G.mv rfl ?_
   refine G.sidx rfl rfl (by omega) (str_at (by omega)) ?_
   refine G.bin rfl rfl rfl ?_
   refine G.mv rfl ?_
   apply G.andS rfl rfl rfl rfl rfl rfl
   case hB =>
    intro hs2
    (try simp only [zN] at hs2)
    refine G.mv rfl ?_
    refine G.mv rfl ?_
    refine G.sidx rfl rfl (by omega) (str_at (by omega)) ?_
    refine G.bin rfl rfl rfl ?_
    refine WpOpsG.nil ?_
    exact ⟨rfl, (by repeat (first | exact LLe.refl _ | refine LLe.cons rfl ?_)), (by repeat (first | exact HLe.refl _ | refine HLe.cons rfl ?_)), rfl⟩
   refine G.mv rfl ?_
   apply G.orS rfl rfl rfl rfl rfl rfl
   case hB =>
    intro hs3
    (try simp only [zN] at hs3)
    refine G.mv rfl ?_
    refine G.mv rfl ?_
    refine G.sidx rfl rfl (by omega) (str_at (by omega)) ?_
    refine G.bin rfl rfl rfl ?_
    refine WpOpsG.nil ?_
    exact ⟨rfl, (by repeat (first | exact LLe.refl _ | refine LLe.cons rfl ?_)), (by repeat (first | exact HLe.refl _ | refine HLe.cons rfl ?_)), rfl⟩
   refine G.mv rfl ?_
   refine WpOpsG.nil ?_
   change WpG _ _ _ _ _
   refine WpG.seq ?_
   refine WpG.reg ?_
   refine G.mv rfl ?_
   refine G.mv rfl ?_
   refine G.sidx rfl rfl (by omega) (str_at (by omega)) ?_
   refine G.bin rfl rfl rfl ?_
   refine G.mv rfl ?_
   apply G.orS rfl rfl rfl rfl rfl rfl
   case hB =>
    intro hs4
    (try simp only [zN] at hs4)
    refine G.mv rfl ?_
    refine G.mv rfl ?_
    refine G.sidx rfl rfl (by omega) (str_at (by omega)) ?_
    refine G.bin rfl rfl rfl ?_
    refine WpOpsG.nil ?_
    exact ⟨rfl, (by repeat (first | exact LLe.refl _ | refine LLe.cons rfl ?_)), (by repeat (first | exact HLe.refl _ | refine HLe.cons rfl ?_)), rfl⟩
   refine G.mv rfl ?_
   apply G.andS rfl rfl rfl rfl rfl rfl
   case hB =>
    intro hs5
    (try simp only [zN] at hs5)
    refine G.mv rfl ?_
    refine G.un rfl rfl ?_
    refine G.mv rfl ?_
    apply G.orS rfl rfl rfl rfl rfl rfl
    case hB =>
     intro hs6
     (try simp only [zN] at hs6)
     refine G.mv rfl ?_
     refine G.bin rfl rfl rfl ?_
     refine WpOpsG.nil ?_
     exact ⟨rfl, (by repeat (first | exact LLe.refl _ | refine LLe.cons rfl ?_)), (by repeat (first | exact HLe.refl _ | refine HLe.cons rfl ?_)), rfl⟩
    refine WpOpsG.nil ?_
    exact ⟨rfl, (by repeat (first | exact LLe.refl _ | refine LLe.cons rfl ?_)), (by repeat (first | exact HLe.refl _ | refine HLe.cons rfl ?_)), rfl⟩
   refine WpOpsG.nil ?_
   change WpG _ _ _ _ _
   refine WpG.cond rfl (fun hq7 => ?_) (fun hq7 => ?_)
   ·(try simp only [zN] at hq7)
    refine WpG.seq ?_
    refine WpG.reg ?_
    refine G.mv rfl ?_
    refine WpOpsG.nil ?_
    change WpG _ _ _ _ _
    refine WpG.ret ?_
    refine ⟨_, [], rfl, (hasP_le (by repeat (first | exact trivial | refine ⟨rfl, ?_⟩))), rfl, rfl, rfl, ?_⟩
    exact ⟨_, rfl, rfl⟩
   ·(try simp only [zN] at hq7)
    refine WpG.skip ?_
    change WpG _ _ _ _ _
    refine WpG.reg ?_
    refine G.mv rfl ?_
    refine G.addI rfl rfl (by omega) ?_
    refine G.mv rfl ?_
    refine WpOpsG.nil ?_
    exact ⟨i + 1, by omega, by omega, ⟨rfl, rfl, trivial⟩, trivial, rfl⟩
  ·(try simp only [zN] at hq1)
   refine WpG.exit ?_
   change WpG _ _ _ _ _
   refine WpG.seq ?_
   refine WpG.reg ?_
   refine G.mv rfl ?_
   refine G.lenStr rfl ?_
   refine G.bin rfl rfl rfl ?_
   refine G.mv rfl ?_
   apply G.andS rfl rfl rfl rfl rfl rfl
   case hB =>
    intro hs8
    (try simp only [zN] at hs8)
    refine G.mv rfl ?_
    refine G.lenStr rfl ?_
    refine G.bin rfl rfl rfl ?_
    refine WpOpsG.nil ?_
    exact ⟨rfl, (by repeat (first | exact LLe.refl _ | refine LLe.cons rfl ?_)), (by repeat (first | exact HLe.refl _ | refine HLe.cons rfl ?_)), rfl⟩
   refine G.mv rfl ?_
   refine WpOpsG.nil ?_
   change WpG _ _ _ _ _
   refine WpG.ret ?_
   refine ⟨_, [], rfl, (hasP_le (by repeat (first | exact trivial | refine ⟨rfl, ?_⟩))), rfl, rfl, rfl, ?_⟩
   exact ⟨_, rfl, rfl⟩
 ·exact Nat.zero_le _
theorem partRight_ok (c : Pc) (hc : c.pr.length ≤ 2 ^ 40) : WpCallG A 48 [.agg (encX c)] [] (fun v H => ∃ b : Bool, v = .v (.bool b) ∧ H = []) := by
 refine WpCallG.intro g48 rfl rfl ?_
 unfold af48
 change WpG _ _ _ _ _
 refine WpG.seq ?_
 refine WpG.reg ?_
 refine G.box (g := 10) rfl rfl rfl ?_
 refine G.mv rfl ?_
 refine WpOpsG.nil ?_
 change WpG _ _ _ _ _
 refine WpG.seq ?_
 refine WpG.seq ?_
 refine WpG.reg ?_
 refine G.faddrB rfl ?_
 refine G.load1B rfl rfl rfl ?_
 refine G.lenM rfl ?_
 refine G.bin rfl rfl rfl ?_
 refine G.mv rfl ?_
 apply G.orS rfl rfl rfl rfl rfl rfl
 case hB =>
  intro hs1
  (try simp only [zN] at hs1)
  refine G.faddrB rfl ?_
  refine G.load1B rfl rfl rfl ?_
  refine G.lenM rfl ?_
  refine G.bin rfl rfl rfl ?_
  refine WpOpsG.nil ?_
  exact ⟨rfl, (by repeat (first | exact LLe.refl _ | refine LLe.cons rfl ?_)), (by repeat (first | exact HLe.refl _ | refine HLe.cons rfl ?_)), rfl⟩
 refine WpOpsG.nil ?_
 change WpG _ _ _ _ _
 refine WpG.cond rfl (fun hq2 => ?_) (fun hq2 => ?_)
 ·(try simp only [zN] at hq2)
  refine WpG.seq ?_
  refine WpG.reg ?_
  refine G.mv rfl ?_
  refine WpOpsG.nil ?_
  change WpG _ _ _ _ _
  refine WpG.ret ?_
  refine ⟨_, [], rfl, (hasP_le (by repeat (first | exact trivial | refine ⟨rfl, ?_⟩))), rfl, rfl, rfl, ?_⟩
  exact ⟨_, rfl, rfl⟩
 ·(try simp only [zN] at hq2)
  refine WpG.skip ?_
  change WpG _ _ _ _ _
  refine WpG.seq ?_
  refine WpG.seq ?_
  refine WpG.reg ?_
  refine G.faddrB rfl ?_
  refine G.load1B rfl rfl rfl ?_
  refine G.lenM rfl ?_
  refine G.mv rfl ?_
  refine WpOpsG.nil ?_
  change WpG _ _ _ _ _
  refine WpG.block ?_
  refine WpG.loop (S := Nat) (fun i => [(1, .bptr 10 0), (18, .fsl 2 (c.pr.map encSp)), (19, .v (.int .i64 (c.pr.length : Int))), (20, .v (.int .i64 (i : Int)))]) (fun i => [(10, .box (encX c))]) (fun i => i ≤ c.pr.length) (fun i => c.pr.length - i) (fun s => ⟨rfl, rfl⟩) ?_ 0 ?_ (by repeat (first | exact trivial | refine ⟨rfl, ?_⟩)) (by repeat (first | exact trivial | refine ⟨rfl, ?_⟩)) rfl
  ·intro i hI
   refine WpG.seq ?_
   refine WpG.reg ?_
   refine G.bin rfl rfl rfl ?_
   refine WpOpsG.nil ?_
   change WpG _ _ _ _ _
   refine WpG.seq ?_
   refine WpG.cond rfl (fun hq3 => ?_) (fun hq3 => ?_)
   ·(try simp only [zN] at hq3)
    refine WpG.skip ?_
    change WpG _ _ _ _ _
    refine WpG.seq ?_
    refine WpG.block ?_
    refine WpG.seq ?_
    refine WpG.reg ?_
    refine G.iaddrN rfl rfl (List.getElem?_eq_getElem (by omega)) ?_
    refine G.loadNF rfl rfl ?_
    refine G.box (g := 11) rfl rfl rfl ?_
    refine G.storeB rfl rfl rfl rfl rfl rfl ?_
    refine WpOpsG.nil ?_
    change WpG _ _ _ _ _
    refine WpG.seq ?_
    refine WpG.reg ?_
    refine G.faddrB rfl ?_
    refine G.load1B rfl rfl rfl ?_
    refine G.bin rfl rfl rfl ?_
    refine G.mv rfl ?_
    apply G.orS rfl rfl rfl rfl rfl rfl
    case hB =>
     intro hs4
     (try simp only [zN] at hs4)
     refine G.faddrB rfl ?_
     refine G.load1B rfl rfl rfl ?_
     refine G.bin rfl rfl rfl ?_
     refine WpOpsG.nil ?_
     exact ⟨rfl, (by repeat (first | exact LLe.refl _ | refine LLe.cons rfl ?_)), (by repeat (first | exact HLe.refl _ | refine HLe.cons rfl ?_)), rfl⟩
    refine G.mv rfl ?_
    apply G.orS rfl rfl rfl rfl rfl rfl
    case hB =>
     intro hs5
     (try simp only [zN] at hs5)
     refine G.faddrB rfl ?_
     refine G.load1B rfl rfl rfl ?_
     refine G.bin rfl rfl rfl ?_
     refine WpOpsG.nil ?_
     exact ⟨rfl, (by repeat (first | exact LLe.refl _ | refine LLe.cons rfl ?_)), (by repeat (first | exact HLe.refl _ | refine HLe.cons rfl ?_)), rfl⟩
    refine G.mv rfl ?_
    apply G.orS rfl rfl rfl rfl rfl rfl
    case hB =>
     intro hs6
     (try simp only [zN] at hs6)
     refine G.faddrB rfl ?_
     refine G.load1B rfl rfl rfl ?_
     refine G.bin rfl rfl rfl ?_
     refine WpOpsG.nil ?_
     exact ⟨rfl, (by repeat (first | exact LLe.refl _ | refine LLe.cons rfl ?_)), (by repeat (first | exact HLe.refl _ | refine HLe.cons rfl ?_)), rfl⟩
    refine WpOpsG.nil ?_
    change WpG _ _ _ _ _
    refine WpG.cond rfl (fun hq7 => ?_) (fun hq7 => ?_)
    ·(try simp only [zN] at hq7)
     refine WpG.seq ?_
     refine WpG.reg ?_
     refine G.mv rfl ?_
     refine WpOpsG.nil ?_
     change WpG _ _ _ _ _
     refine WpG.ret ?_
     refine ⟨_, [], rfl, (hasP_le (by repeat (first | exact trivial | refine ⟨rfl, ?_⟩))), rfl, rfl, rfl, ?_⟩
     exact ⟨_, rfl, rfl⟩
    ·(try simp only [zN] at hq7)
     refine WpG.skip ?_
     change WpG _ _ _ _ _
     refine WpG.reg ?_
     refine G.addI rfl rfl (by omega) ?_
     refine G.mv rfl ?_
     refine WpOpsG.nil ?_
     exact ⟨i + 1, by omega, by omega, ⟨rfl, rfl, rfl, rfl, trivial⟩, ⟨rfl, trivial⟩, rfl⟩
   ·(try simp only [zN] at hq3)
    refine WpG.exit ?_
    change WpG _ _ _ _ _
    refine WpG.seq ?_
    refine WpG.seq ?_
    refine WpG.reg ?_
    refine G.faddrB rfl ?_
    refine G.loadNB rfl rfl rfl ?_
    refine G.mv rfl ?_
    refine WpOpsG.nil ?_
    change WpG _ _ _ _ _
    refine WpG.block ?_
    refine WpG.loop (S := Nat) (fun k => [(1, .bptr 10 0), (44, .agg [.v (.int .i64 c.p.h0), .v (.int .i64 c.p.h1), .v (.int .i64 c.p.h2), .v (.int .i64 c.p.h3), .v (.int .i64 c.p.h4)]), (45, .v (.int .i64 (k : Int)))]) (fun k => [(10, .box (encX c))]) (fun k => k ≤ 5) (fun k => 5 - k) (fun s => ⟨rfl, rfl⟩) ?_ 0 ?_ (by repeat (first | exact trivial | refine ⟨rfl, ?_⟩)) (by repeat (first | exact trivial | refine ⟨rfl, ?_⟩)) rfl
    ·intro k hk
     refine WpG.seq ?_
     refine WpG.reg ?_
     refine G.bin rfl rfl rfl ?_
     refine WpOpsG.nil ?_
     change WpG _ _ _ _ _
     refine WpG.seq ?_
     refine WpG.cond rfl (fun hq8 => ?_) (fun hq8 => ?_)
     ·(try simp only [zN] at hq8)
      refine WpG.skip ?_
      change WpG _ _ _ _ _
      refine WpG.seq ?_
      refine WpG.block ?_
      refine WpG.seq ?_
      refine WpG.reg ?_
      refine G.aidx rfl rfl (by omega) (by omega) (by rw [Int.toNat_natCast]; exact hs5_at (c := c) (by omega)) ?_
      refine G.mv rfl ?_
      refine WpOpsG.nil ?_
      change WpG _ _ _ _ _
      refine WpG.seq ?_
      refine WpG.reg ?_
      refine G.mv rfl ?_
      refine G.bin rfl rfl rfl ?_
      refine G.mv rfl ?_
      apply G.orS rfl rfl rfl rfl rfl rfl
      case hB =>
       intro hs9
       (try simp only [zN] at hs9)
       refine G.mv rfl ?_
       refine G.bin rfl rfl rfl ?_
       refine WpOpsG.nil ?_
       exact ⟨rfl, (by repeat (first | exact LLe.refl _ | refine LLe.cons rfl ?_)), (by repeat (first | exact HLe.refl _ | refine HLe.cons rfl ?_)), rfl⟩
      refine WpOpsG.nil ?_
      change WpG _ _ _ _ _
      refine WpG.cond rfl (fun hq10 => ?_) (fun hq10 => ?_)
      ·(try simp only [zN] at hq10)
       refine WpG.seq ?_
       refine WpG.reg ?_
       refine G.mv rfl ?_
       refine WpOpsG.nil ?_
       change WpG _ _ _ _ _
       refine WpG.ret ?_
       refine ⟨_, [], rfl, (hasP_le (by repeat (first | exact trivial | refine ⟨rfl, ?_⟩))), rfl, rfl, rfl, ?_⟩
       exact ⟨_, rfl, rfl⟩
      ·(try simp only [zN] at hq10)
       refine WpG.skip ?_
       change WpG _ _ _ _ _
       refine WpG.reg ?_
       refine G.addI rfl rfl (by omega) ?_
       refine G.mv rfl ?_
       refine WpOpsG.nil ?_
       exact ⟨k + 1, by omega, by omega, ⟨rfl, rfl, rfl, trivial⟩, ⟨rfl, trivial⟩, rfl⟩
     ·(try simp only [zN] at hq8)
      refine WpG.exit ?_
      change WpG _ _ _ _ _
      refine WpG.seq ?_
      refine WpG.seq ?_
      refine WpG.reg ?_
      refine G.faddrB rfl ?_
      refine G.load1B rfl rfl rfl ?_
      refine G.bin rfl rfl rfl ?_
      refine G.mv rfl ?_
      apply G.andS rfl rfl rfl rfl rfl rfl
      case hB =>
       intro hs11
       (try simp only [zN] at hs11)
       refine G.faddrB rfl ?_
       refine G.load1B rfl rfl rfl ?_
       refine G.bin rfl rfl rfl ?_
       refine WpOpsG.nil ?_
       exact ⟨rfl, (by repeat (first | exact LLe.refl _ | refine LLe.cons rfl ?_)), (by repeat (first | exact HLe.refl _ | refine HLe.cons rfl ?_)), rfl⟩
      refine WpOpsG.nil ?_
      change WpG _ _ _ _ _
      refine WpG.cond rfl (fun hq12 => ?_) (fun hq12 => ?_)
      ·(try simp only [zN] at hq12)
       refine WpG.seq ?_
       refine WpG.reg ?_
       refine G.mv rfl ?_
       refine WpOpsG.nil ?_
       change WpG _ _ _ _ _
       refine WpG.ret ?_
       refine ⟨_, [], rfl, (hasP_le (by repeat (first | exact trivial | refine ⟨rfl, ?_⟩))), rfl, rfl, rfl, ?_⟩
       exact ⟨_, rfl, rfl⟩
      ·(try simp only [zN] at hq12)
       refine WpG.skip ?_
       change WpG _ _ _ _ _
       refine WpG.seq ?_
       refine WpG.reg ?_
       refine G.faddrB rfl ?_
       refine G.load1B rfl rfl rfl ?_
       refine G.bin rfl rfl rfl ?_
       refine G.mv rfl ?_
       apply G.andS rfl rfl rfl rfl rfl rfl
       case hB =>
        intro hs13
        (try simp only [zN] at hs13)
        refine G.faddrB rfl ?_
        refine G.load1B rfl rfl rfl ?_
        refine G.bin rfl rfl rfl ?_
        refine WpOpsG.nil ?_
        exact ⟨rfl, (by repeat (first | exact LLe.refl _ | refine LLe.cons rfl ?_)), (by repeat (first | exact HLe.refl _ | refine HLe.cons rfl ?_)), rfl⟩
       refine G.mv rfl ?_
       apply G.andS rfl rfl rfl rfl rfl rfl
       case hB =>
        intro hs14
        (try simp only [zN] at hs14)
        refine G.faddrB rfl ?_
        refine G.load1B rfl rfl rfl ?_
        refine G.faddrB rfl ?_
        refine G.load1B rfl rfl rfl ?_
        refine G.bin rfl rfl rfl ?_
        refine WpOpsG.nil ?_
        exact ⟨rfl, (by repeat (first | exact LLe.refl _ | refine LLe.cons rfl ?_)), (by repeat (first | exact HLe.refl _ | refine HLe.cons rfl ?_)), rfl⟩
       refine G.mv rfl ?_
       apply G.andS rfl rfl rfl rfl rfl rfl
       case hB =>
        intro hs15
        (try simp only [zN] at hs15)
        refine G.faddrB rfl ?_
        refine G.load1B rfl rfl rfl ?_
        refine G.bin rfl rfl rfl ?_
        refine WpOpsG.nil ?_
        exact ⟨rfl, (by repeat (first | exact LLe.refl _ | refine LLe.cons rfl ?_)), (by repeat (first | exact HLe.refl _ | refine HLe.cons rfl ?_)), rfl⟩
       refine G.mv rfl ?_
       refine WpOpsG.nil ?_
       change WpG _ _ _ _ _
       refine WpG.ret ?_
       refine ⟨_, [], rfl, (hasP_le (by repeat (first | exact trivial | refine ⟨rfl, ?_⟩))), rfl, rfl, rfl, ?_⟩
       exact ⟨_, rfl, rfl⟩
    ·exact Nat.zero_le _
  ·exact Nat.zero_le _
theorem chanRight_ok (x : Ch) (n : Int) : WpCallG A 49 [.agg (encC x), .v (.int .i64 n)] [] (fun v H => ∃ b : Bool, v = .v (.bool b) ∧ H = []) := by
 refine WpCallG.intro g49 rfl rfl ?_
 unfold af49
 change WpG _ _ _ _ _
 refine WpG.seq ?_
 refine WpG.reg ?_
 refine G.box (g := 10) rfl rfl rfl ?_
 refine G.mv rfl ?_
 refine WpOpsG.nil ?_
 change WpG _ _ _ _ _
 refine WpG.seq ?_
 refine WpG.seq ?_
 refine WpG.reg ?_
 refine G.faddrB rfl ?_
 refine G.load1B rfl rfl rfl ?_
 refine G.bin rfl rfl rfl ?_
 refine G.mv rfl ?_
 apply G.orS rfl rfl rfl rfl rfl rfl
 case hB =>
  intro hs1
  (try simp only [zN] at hs1)
  refine G.faddrB rfl ?_
  refine G.load1B rfl rfl rfl ?_
  refine G.mv rfl ?_
  refine G.bin rfl rfl rfl ?_
  refine WpOpsG.nil ?_
  exact ⟨rfl, (by repeat (first | exact LLe.refl _ | refine LLe.cons rfl ?_)), (by repeat (first | exact HLe.refl _ | refine HLe.cons rfl ?_)), rfl⟩
 refine G.mv rfl ?_
 apply G.orS rfl rfl rfl rfl rfl rfl
 case hB =>
  intro hs2
  (try simp only [zN] at hs2)
  refine G.faddrB rfl ?_
  refine G.load1B rfl rfl rfl ?_
  refine G.bin rfl rfl rfl ?_
  refine WpOpsG.nil ?_
  exact ⟨rfl, (by repeat (first | exact LLe.refl _ | refine LLe.cons rfl ?_)), (by repeat (first | exact HLe.refl _ | refine HLe.cons rfl ?_)), rfl⟩
 refine G.mv rfl ?_
 apply G.orS rfl rfl rfl rfl rfl rfl
 case hB =>
  intro hs3
  (try simp only [zN] at hs3)
  refine G.faddrB rfl ?_
  refine G.load1B rfl rfl rfl ?_
  refine G.mv rfl ?_
  refine G.bin rfl rfl rfl ?_
  refine WpOpsG.nil ?_
  exact ⟨rfl, (by repeat (first | exact LLe.refl _ | refine LLe.cons rfl ?_)), (by repeat (first | exact HLe.refl _ | refine HLe.cons rfl ?_)), rfl⟩
 refine G.mv rfl ?_
 apply G.orS rfl rfl rfl rfl rfl rfl
 case hB =>
  intro hs4
  (try simp only [zN] at hs4)
  refine G.faddrB rfl ?_
  refine G.load1B rfl rfl rfl ?_
  refine G.faddrB rfl ?_
  refine G.load1B rfl rfl rfl ?_
  refine G.bin rfl rfl rfl ?_
  refine WpOpsG.nil ?_
  exact ⟨rfl, (by repeat (first | exact LLe.refl _ | refine LLe.cons rfl ?_)), (by repeat (first | exact HLe.refl _ | refine HLe.cons rfl ?_)), rfl⟩
 refine G.mv rfl ?_
 apply G.orS rfl rfl rfl rfl rfl rfl
 case hB =>
  intro hs5
  (try simp only [zN] at hs5)
  refine G.faddrB rfl ?_
  refine G.load1B rfl rfl rfl ?_
  refine G.bin rfl rfl rfl ?_
  refine WpOpsG.nil ?_
  exact ⟨rfl, (by repeat (first | exact LLe.refl _ | refine LLe.cons rfl ?_)), (by repeat (first | exact HLe.refl _ | refine HLe.cons rfl ?_)), rfl⟩
 refine G.mv rfl ?_
 apply G.orS rfl rfl rfl rfl rfl rfl
 case hB =>
  intro hs6
  (try simp only [zN] at hs6)
  refine G.faddrB rfl ?_
  refine G.load1B rfl rfl rfl ?_
  refine G.bin rfl rfl rfl ?_
  refine WpOpsG.nil ?_
  exact ⟨rfl, (by repeat (first | exact LLe.refl _ | refine LLe.cons rfl ?_)), (by repeat (first | exact HLe.refl _ | refine HLe.cons rfl ?_)), rfl⟩
 refine WpOpsG.nil ?_
 change WpG _ _ _ _ _
 refine WpG.cond rfl (fun hq7 => ?_) (fun hq7 => ?_)
 ·(try simp only [zN] at hq7)
  refine WpG.seq ?_
  refine WpG.reg ?_
  refine G.mv rfl ?_
  refine WpOpsG.nil ?_
  change WpG _ _ _ _ _
  refine WpG.ret ?_
  refine ⟨_, [], rfl, (hasP_le (by repeat (first | exact trivial | refine ⟨rfl, ?_⟩))), rfl, rfl, rfl, ?_⟩
  exact ⟨_, rfl, rfl⟩
 ·(try simp only [zN] at hq7)
  refine WpG.skip ?_
  change WpG _ _ _ _ _
  refine WpG.seq ?_
  refine WpG.reg ?_
  refine G.faddrB rfl ?_
  refine G.load1B rfl rfl rfl ?_
  refine G.mv rfl ?_
  apply G.andS rfl rfl rfl rfl rfl rfl
  case hB =>
   intro hs8
   (try simp only [zN] at hs8)
   refine G.faddrB rfl ?_
   refine G.load1B rfl rfl rfl ?_
   refine G.bin rfl rfl rfl ?_
   refine WpOpsG.nil ?_
   exact ⟨rfl, (by repeat (first | exact LLe.refl _ | refine LLe.cons rfl ?_)), (by repeat (first | exact HLe.refl _ | refine HLe.cons rfl ?_)), rfl⟩
  refine G.mv rfl ?_
  apply G.andS rfl rfl rfl rfl rfl rfl
  case hB =>
   intro hs9
   (try simp only [zN] at hs9)
   refine G.faddrB rfl ?_
   refine G.load1B rfl rfl rfl ?_
   refine G.bin rfl rfl rfl ?_
   refine WpOpsG.nil ?_
   exact ⟨rfl, (by repeat (first | exact LLe.refl _ | refine LLe.cons rfl ?_)), (by repeat (first | exact HLe.refl _ | refine HLe.cons rfl ?_)), rfl⟩
  refine G.mv rfl ?_
  apply G.orS rfl rfl rfl rfl rfl rfl
  case hB =>
   intro hs10
   (try simp only [zN] at hs10)
   refine G.faddrB rfl ?_
   refine G.load1B rfl rfl rfl ?_
   refine G.un rfl rfl ?_
   refine G.mv rfl ?_
   apply G.andS rfl rfl rfl rfl rfl rfl
   case hB =>
    intro hs11
    (try simp only [zN] at hs11)
    refine G.faddrB rfl ?_
    refine G.load1B rfl rfl rfl ?_
    refine G.bin rfl rfl rfl ?_
    refine WpOpsG.nil ?_
    exact ⟨rfl, (by repeat (first | exact LLe.refl _ | refine LLe.cons rfl ?_)), (by repeat (first | exact HLe.refl _ | refine HLe.cons rfl ?_)), rfl⟩
   refine WpOpsG.nil ?_
   exact ⟨rfl, (by repeat (first | exact LLe.refl _ | refine LLe.cons rfl ?_)), (by repeat (first | exact HLe.refl _ | refine HLe.cons rfl ?_)), rfl⟩
  refine G.mv rfl ?_
  refine WpOpsG.nil ?_
  change WpG _ _ _ _ _
  refine WpG.ret ?_
  refine ⟨_, [], rfl, (hasP_le (by repeat (first | exact trivial | refine ⟨rfl, ?_⟩))), rfl, rfl, rfl, ?_⟩
  exact ⟨_, rfl, rfl⟩
set_option maxHeartbeats 1000000 in
theorem where_ok (X : List Pc) (C : List Ch) (tabs : List (List Nd)) (hX : X.length ≤ 2 ^ 30) (hXs : ∀ c ∈ X, c.p.name.size ≤ 2 ^ 40 ∧ c.pr.length ≤ 2 ^ 40 ∧ i64 c.p.per) (hC : C.length ≤ 2 ^ 30) (hT : tabs.length ≤ 2 ^ 30) (hTs : ∀ t ∈ tabs, t.length ≤ 2 ^ 40) : WpCallG A 42 [.agg [.fsl 11 (X.map encX), .fsl 6 (C.map encC), .fsl 1 (tabs.map encTb)]] [] (fun v H => ∃ e k : Int, v = .tup [.v (.int .i64 e), .v (.int .i64 k)] ∧ H = []) := by
 refine WpCallG.intro g42 rfl rfl ?_
 unfold af42
 change WpG _ _ _ _ _
 refine WpG.seq ?_
 refine WpG.reg ?_
 refine G.box (g := 10) rfl rfl rfl ?_
 refine G.mv rfl ?_
 refine G.mv rfl ?_
 refine WpOpsG.nil ?_
 change WpG _ _ _ _ _
 refine WpG.seq ?_
 refine WpG.seq ?_
 refine WpG.reg ?_
 refine G.faddrB rfl ?_
 refine G.load1B rfl rfl rfl ?_
 refine G.lenM rfl ?_
 refine G.bin rfl rfl rfl ?_
 refine G.mv rfl ?_
 apply G.orS rfl rfl rfl rfl rfl rfl
 case hB =>
  intro hs1
  (try simp only [zN] at hs1)
  refine G.faddrB rfl ?_
  refine G.load1B rfl rfl rfl ?_
  refine G.lenM rfl ?_
  refine G.bin rfl rfl rfl ?_
  refine WpOpsG.nil ?_
  exact ⟨rfl, (by repeat (first | exact LLe.refl _ | refine LLe.cons rfl ?_)), (by repeat (first | exact HLe.refl _ | refine HLe.cons rfl ?_)), rfl⟩
 refine G.mv rfl ?_
 apply G.orS rfl rfl rfl rfl rfl rfl
 case hB =>
  intro hs2
  (try simp only [zN] at hs2)
  refine G.faddrB rfl ?_
  refine G.load1B rfl rfl rfl ?_
  refine G.lenM rfl ?_
  refine G.bin rfl rfl rfl ?_
  refine WpOpsG.nil ?_
  exact ⟨rfl, (by repeat (first | exact LLe.refl _ | refine LLe.cons rfl ?_)), (by repeat (first | exact HLe.refl _ | refine HLe.cons rfl ?_)), rfl⟩
 refine G.mv rfl ?_
 apply G.orS rfl rfl rfl rfl rfl rfl
 case hB =>
  intro hs3
  (try simp only [zN] at hs3)
  refine G.faddrB rfl ?_
  refine G.load1B rfl rfl rfl ?_
  refine G.lenM rfl ?_
  refine G.bin rfl rfl rfl ?_
  refine WpOpsG.nil ?_
  exact ⟨rfl, (by repeat (first | exact LLe.refl _ | refine LLe.cons rfl ?_)), (by repeat (first | exact HLe.refl _ | refine HLe.cons rfl ?_)), rfl⟩
 refine G.mv rfl ?_
 apply G.orS rfl rfl rfl rfl rfl rfl
 case hB =>
  intro hs4
  (try simp only [zN] at hs4)
  refine G.faddrB rfl ?_
  refine G.load1B rfl rfl rfl ?_
  refine G.lenM rfl ?_
  refine G.bin rfl rfl rfl ?_
  refine WpOpsG.nil ?_
  exact ⟨rfl, (by repeat (first | exact LLe.refl _ | refine LLe.cons rfl ?_)), (by repeat (first | exact HLe.refl _ | refine HLe.cons rfl ?_)), rfl⟩
 refine WpOpsG.nil ?_
 change WpG _ _ _ _ _
 refine WpG.cond rfl (fun hq5 => ?_) (fun hq5 => ?_)
 ·(try simp only [zN] at hq5)
  refine WpG.seq ?_
  refine WpG.reg ?_
  refine G.mv rfl ?_
  refine G.mv rfl ?_
  refine WpOpsG.nil ?_
  change WpG _ _ _ _ _
  refine WpG.ret ?_
  refine ⟨_, [], rfl, (hasP_le (by repeat (first | exact trivial | refine ⟨rfl, ?_⟩))), rfl, rfl, rfl, ?_⟩
  exact ⟨_, _, rfl, rfl⟩
 ·(try simp only [zN] at hq5)
  refine WpG.skip ?_
  change WpG _ _ _ _ _
  refine WpG.seq ?_
  refine WpG.seq ?_
  refine WpG.reg ?_
  refine G.faddrB rfl ?_
  refine G.load1B rfl rfl rfl ?_
  refine G.lenM rfl ?_
  refine G.mv rfl ?_
  refine WpOpsG.nil ?_
  change WpG _ _ _ _ _
  refine WpG.block ?_
  refine WpG.loop (S := Nat) (fun i => [(1, .bptr 10 0), (45, .fsl 11 (X.map encX)), (46, .v (.int .i64 (X.length : Int))), (47, .v (.int .i64 (i : Int)))]) (fun i => [(10, .box [.fsl 11 (X.map encX), .fsl 6 (C.map encC), .fsl 1 (tabs.map encTb)])]) (fun i => i ≤ X.length) (fun i => X.length - i) (fun s => ⟨rfl, rfl⟩) ?_ 0 ?_ (by repeat (first | exact trivial | refine ⟨rfl, ?_⟩)) (by repeat (first | exact trivial | refine ⟨rfl, ?_⟩)) rfl
  ·intro i hI
   refine WpG.seq ?_
   refine WpG.reg ?_
   refine G.bin rfl rfl rfl ?_
   refine WpOpsG.nil ?_
   change WpG _ _ _ _ _
   refine WpG.seq ?_
   refine WpG.cond rfl (fun hq6 => ?_) (fun hq6 => ?_)
   ·(try simp only [zN] at hq6)
    refine WpG.skip ?_
    change WpG _ _ _ _ _
    refine WpG.seq ?_
    refine WpG.block ?_
    refine WpG.seq ?_
    refine WpG.reg ?_
    refine G.mv rfl ?_
    refine G.iaddrN rfl rfl (List.getElem?_eq_getElem (by omega)) ?_
    refine G.loadNF rfl rfl ?_
    refine G.box (g := 11) rfl rfl rfl ?_
    refine G.mv rfl ?_
    refine G.storeB rfl rfl rfl rfl rfl rfl ?_
    refine WpOpsG.nil ?_
    change WpG _ _ _ _ _
    refine WpG.seq ?_
    refine WpG.seq ?_
    refine WpG.reg ?_
    refine G.faddrB rfl ?_
    refine G.load1B rfl rfl rfl ?_
    refine G.call0 rfl rfl (name_ok X[i].p.name (hXs _ (List.getElem_mem (by omega))).1) ?_
    rintro _ _ ⟨b1, rfl, rfl⟩
    refine ⟨rfl, ?_⟩
    change WpOpsG _ _ ((54, _) :: _) _ _
    refine G.un rfl rfl ?_
    refine WpOpsG.nil ?_
    change WpG _ _ _ _ _
    refine WpG.cond rfl (fun hq7 => ?_) (fun hq7 => ?_)
    ·(try simp only [zN] at hq7)
     refine WpG.seq ?_
     refine WpG.reg ?_
     refine G.mv rfl ?_
     refine G.mv rfl ?_
     refine G.mv rfl ?_
     refine WpOpsG.nil ?_
     change WpG _ _ _ _ _
     refine WpG.ret ?_
     refine ⟨_, [], rfl, (hasP_le (by repeat (first | exact trivial | refine ⟨rfl, ?_⟩))), rfl, rfl, rfl, ?_⟩
     exact ⟨_, _, rfl, rfl⟩
    ·(try simp only [zN] at hq7)
     refine WpG.skip ?_
     change WpG _ _ _ _ _
     refine WpG.seq ?_
     refine WpG.seq ?_
     refine WpG.reg ?_
     refine G.mv rfl ?_
     refine WpOpsG.nil ?_
     change WpG _ _ _ _ _
     refine WpG.block ?_
     refine WpG.loop (S := Nat) (fun k => [(1, .bptr 10 0), (4, .v (.int .i64 (i : Int))), (5, .bptr 11 0), (6, .v (.int .i64 (k : Int))), (45, .fsl 11 (X.map encX)), (46, .v (.int .i64 (X.length : Int))), (47, .v (.int .i64 (i : Int)))]) (fun k => [(10, .box [.fsl 11 (X.map encX), .fsl 6 (C.map encC), .fsl 1 (tabs.map encTb)]), (11, .box (encX X[i]))]) (fun k => k ≤ i) (fun k => i - k) (fun s => ⟨rfl, rfl⟩) ?_ 0 ?_ (by repeat (first | exact trivial | refine ⟨rfl, ?_⟩)) (by repeat (first | exact trivial | refine ⟨rfl, ?_⟩)) rfl
     ·intro k hk
      refine WpG.seq ?_
      refine WpG.seq ?_
      refine WpG.reg ?_
      refine G.mv rfl ?_
      refine G.mv rfl ?_
      refine G.bin rfl rfl rfl ?_
      refine WpOpsG.nil ?_
      change WpG _ _ _ _ _
      refine WpG.cond rfl (fun hq8 => ?_) (fun hq8 => ?_)
      ·(try simp only [zN] at hq8)
       refine WpG.skip ?_
       change WpG _ _ _ _ _
       refine WpG.seq ?_
       refine WpG.block ?_
       refine WpG.seq ?_
       refine WpG.reg ?_
       refine G.faddrB rfl ?_
       refine G.load1B rfl rfl rfl ?_
       refine G.mv rfl ?_
       refine G.iaddrN rfl rfl (List.getElem?_eq_getElem (by omega)) ?_
       refine G.faddrF rfl ?_
       refine G.load1F rfl rfl ?_
       refine G.faddrB rfl ?_
       refine G.load1B rfl rfl rfl ?_
       refine G.bin rfl rfl rfl ?_
       refine WpOpsG.nil ?_
       change WpG _ _ _ _ _
       refine WpG.cond rfl (fun hq9 => ?_) (fun hq9 => ?_)
       ·(try simp only [zN] at hq9)
        refine WpG.seq ?_
        refine WpG.reg ?_
        refine G.mv rfl ?_
        refine G.mv rfl ?_
        refine G.mv rfl ?_
        refine WpOpsG.nil ?_
        change WpG _ _ _ _ _
        refine WpG.ret ?_
        refine ⟨_, [], rfl, (hasP_le (by repeat (first | exact trivial | refine ⟨rfl, ?_⟩))), rfl, rfl, rfl, ?_⟩
        exact ⟨_, _, rfl, rfl⟩
       ·(try simp only [zN] at hq9)
        refine WpG.skip ?_
        change WpG _ _ _ _ _
        refine WpG.reg ?_
        refine G.mv rfl ?_
        refine G.addI rfl rfl (by omega) ?_
        refine G.mv rfl ?_
        refine WpOpsG.nil ?_
        exact ⟨k + 1, by omega, by omega, ⟨rfl, rfl, rfl, rfl, rfl, rfl, rfl, trivial⟩, ⟨rfl, rfl, trivial⟩, rfl⟩
      ·(try simp only [zN] at hq8)
       refine WpG.exit ?_
       change WpG _ _ _ _ _
       refine WpG.seq ?_
       refine WpG.reg ?_
       refine G.loadNB rfl rfl rfl ?_
       refine G.call0 rfl rfl (partRight_ok X[i] (hXs _ (List.getElem_mem (by omega))).2.1) ?_
       rintro _ _ ⟨b2, rfl, rfl⟩
       refine ⟨rfl, ?_⟩
       change WpOpsG _ _ ((73, _) :: _) _ _
       refine G.un rfl rfl ?_
       refine WpOpsG.nil ?_
       change WpG _ _ _ _ _
       refine WpG.cond rfl (fun hq10 => ?_) (fun hq10 => ?_)
       ·(try simp only [zN] at hq10)
        refine WpG.seq ?_
        refine WpG.reg ?_
        refine G.mv rfl ?_
        refine G.mv rfl ?_
        refine G.mv rfl ?_
        refine WpOpsG.nil ?_
        change WpG _ _ _ _ _
        refine WpG.ret ?_
        refine ⟨_, [], rfl, (hasP_le (by repeat (first | exact trivial | refine ⟨rfl, ?_⟩))), rfl, rfl, rfl, ?_⟩
        exact ⟨_, _, rfl, rfl⟩
       ·(try simp only [zN] at hq10)
        refine WpG.skip ?_
        change WpG _ _ _ _ _
        refine WpG.reg ?_
        refine G.addI rfl rfl (by omega) ?_
        refine G.mv rfl ?_
        refine WpOpsG.nil ?_
        exact ⟨i + 1, by omega, by omega, ⟨rfl, rfl, rfl, rfl, trivial⟩, ⟨rfl, trivial⟩, rfl⟩
     ·exact Nat.zero_le _
   ·(try simp only [zN] at hq6)
    refine WpG.exit ?_
    change WpG _ _ _ _ _
    refine WpG.seq ?_
    refine WpG.seq ?_
    refine WpG.reg ?_
    refine G.faddrB rfl ?_
    refine G.load1B rfl rfl rfl ?_
    refine G.lenM rfl ?_
    refine G.mv rfl ?_
    refine WpOpsG.nil ?_
    change WpG _ _ _ _ _
    refine WpG.block ?_
    refine WpG.loop (S := Nat) (fun i => [(1, .bptr 10 0), (78, .fsl 6 (C.map encC)), (79, .v (.int .i64 (C.length : Int))), (80, .v (.int .i64 (i : Int)))]) (fun i => [(10, .box [.fsl 11 (X.map encX), .fsl 6 (C.map encC), .fsl 1 (tabs.map encTb)])]) (fun i => i ≤ C.length) (fun i => C.length - i) (fun s => ⟨rfl, rfl⟩) ?_ 0 ?_ (by repeat (first | exact trivial | refine ⟨rfl, ?_⟩)) (by repeat (first | exact trivial | refine ⟨rfl, ?_⟩)) rfl
    ·intro i hI
     refine WpG.seq ?_
     refine WpG.reg ?_
     refine G.bin rfl rfl rfl ?_
     refine WpOpsG.nil ?_
     change WpG _ _ _ _ _
     refine WpG.seq ?_
     refine WpG.cond rfl (fun hq11 => ?_) (fun hq11 => ?_)
     ·(try simp only [zN] at hq11)
      refine WpG.skip ?_
      change WpG _ _ _ _ _
      refine WpG.seq ?_
      refine WpG.block ?_
      refine WpG.seq ?_
      refine WpG.reg ?_
      refine G.mv rfl ?_
      refine G.iaddrN rfl rfl (List.getElem?_eq_getElem (by omega)) ?_
      refine G.loadNF rfl rfl ?_
      refine G.box (g := 12) rfl rfl rfl ?_
      refine G.mv rfl ?_
      refine G.storeB rfl rfl rfl rfl rfl rfl ?_
      refine WpOpsG.nil ?_
      change WpG _ _ _ _ _
      refine WpG.seq ?_
      refine WpG.reg ?_
      refine G.loadNB rfl rfl rfl ?_
      refine G.faddrB rfl ?_
      refine G.load1B rfl rfl rfl ?_
      refine G.lenM rfl ?_
      refine G.call0 rfl rfl (chanRight_ok C[i] (X.length : Int)) ?_
      rintro _ _ ⟨b3, rfl, rfl⟩
      refine ⟨rfl, ?_⟩
      change WpOpsG _ _ ((89, _) :: _) _ _
      refine G.un rfl rfl ?_
      refine WpOpsG.nil ?_
      change WpG _ _ _ _ _
      refine WpG.cond rfl (fun hq12 => ?_) (fun hq12 => ?_)
      ·(try simp only [zN] at hq12)
       refine WpG.seq ?_
       refine WpG.reg ?_
       refine G.mv rfl ?_
       refine G.mv rfl ?_
       refine G.mv rfl ?_
       refine WpOpsG.nil ?_
       change WpG _ _ _ _ _
       refine WpG.ret ?_
       refine ⟨_, [], rfl, (hasP_le (by repeat (first | exact trivial | refine ⟨rfl, ?_⟩))), rfl, rfl, rfl, ?_⟩
       exact ⟨_, _, rfl, rfl⟩
      ·(try simp only [zN] at hq12)
       refine WpG.skip ?_
       change WpG _ _ _ _ _
       refine WpG.reg ?_
       refine G.addI rfl rfl (by omega) ?_
       refine G.mv rfl ?_
       refine WpOpsG.nil ?_
       exact ⟨i + 1, by omega, by omega, ⟨rfl, rfl, rfl, rfl, trivial⟩, ⟨rfl, trivial⟩, rfl⟩
     ·(try simp only [zN] at hq11)
      refine WpG.exit ?_
      change WpG _ _ _ _ _
      refine WpG.seq ?_
      refine WpG.seq ?_
      refine WpG.reg ?_
      refine G.faddrB rfl ?_
      refine G.load1B rfl rfl rfl ?_
      refine G.lenM rfl ?_
      refine G.mv rfl ?_
      refine WpOpsG.nil ?_
      change WpG _ _ _ _ _
      refine WpG.block ?_
      refine WpG.loop (S := Nat) (fun i => [(1, .bptr 10 0), (94, .fsl 1 (tabs.map encTb)), (95, .v (.int .i64 (tabs.length : Int))), (96, .v (.int .i64 (i : Int)))]) (fun i => [(10, .box [.fsl 11 (X.map encX), .fsl 6 (C.map encC), .fsl 1 (tabs.map encTb)])]) (fun i => i ≤ tabs.length) (fun i => tabs.length - i) (fun s => ⟨rfl, rfl⟩) ?_ 0 ?_ (by repeat (first | exact trivial | refine ⟨rfl, ?_⟩)) (by repeat (first | exact trivial | refine ⟨rfl, ?_⟩)) rfl
      ·intro i hI
       refine WpG.seq ?_
       refine WpG.reg ?_
       refine G.bin rfl rfl rfl ?_
       refine WpOpsG.nil ?_
       change WpG _ _ _ _ _
       refine WpG.seq ?_
       refine WpG.cond rfl (fun hq13 => ?_) (fun hq13 => ?_)
       ·(try simp only [zN] at hq13)
        refine WpG.skip ?_
        change WpG _ _ _ _ _
        refine WpG.seq ?_
        refine WpG.block ?_
        refine WpG.seq ?_
        refine WpG.reg ?_
        refine G.mv rfl ?_
        refine G.iaddrN rfl rfl (List.getElem?_eq_getElem (by omega)) ?_
        refine G.load1F rfl rfl ?_
        refine G.mv rfl ?_
        refine G.mv rfl ?_
        refine WpOpsG.nil ?_
        change WpG _ _ _ _ _
        refine WpG.seq ?_
        refine WpG.reg ?_
        refine G.mv rfl ?_
        refine G.call0 rfl rfl (of_ok tabs[i] (hTs _ (List.getElem_mem (by omega)))) ?_
        rintro _ _ ⟨r, e, rfl, rfl, hg⟩
        refine ⟨rfl, ?_⟩
        change WpOpsG _ _ ((103, _) :: _) _ _
        have hg2 := hg.2
        refine G.mv rfl ?_
        refine G.ext rfl rfl ?_
        refine G.ext rfl rfl ?_
        refine G.mv rfl ?_
        refine G.mv rfl ?_
        refine WpOpsG.nil ?_
        change WpG _ _ _ _ _
        refine WpG.seq ?_
        refine WpG.seq ?_
        refine WpG.reg ?_
        refine G.mv rfl ?_
        refine G.bin rfl rfl rfl ?_
        refine WpOpsG.nil ?_
        change WpG _ _ _ _ _
        refine WpG.cond rfl (fun hq14 => ?_) (fun hq14 => ?_)
        ·(try simp only [zN] at hq14)
         refine WpG.seq ?_
         refine WpG.reg ?_
         refine G.mv rfl ?_
         refine G.mv rfl ?_
         refine G.mv rfl ?_
         refine G.mv rfl ?_
         refine WpOpsG.nil ?_
         change WpG _ _ _ _ _
         refine WpG.ret ?_
         refine ⟨_, [], rfl, (hasP_le (by repeat (first | exact trivial | refine ⟨rfl, ?_⟩))), rfl, rfl, rfl, ?_⟩
         exact ⟨_, _, rfl, rfl⟩
        ·(try simp only [zN] at hq14)
         refine WpG.skip ?_
         change WpG _ _ _ _ _
         refine WpG.seq ?_
         refine WpG.seq ?_
         refine WpG.reg ?_
         refine G.mv rfl ?_
         refine G.lenM rfl ?_
         refine G.mv rfl ?_
         refine WpOpsG.nil ?_
         change WpG _ _ _ _ _
         refine WpG.block ?_
         refine WpG.loop (S := Nat) (fun k => [(1, .bptr 10 0), (9, .v (.int .i64 (i : Int))), (11, .fsl 2 (r.map encN)), (94, .fsl 1 (tabs.map encTb)), (95, .v (.int .i64 (tabs.length : Int))), (96, .v (.int .i64 (i : Int))), (110, .fsl 2 (r.map encN)), (111, .v (.int .i64 (r.length : Int))), (112, .v (.int .i64 (k : Int)))]) (fun k => [(10, .box [.fsl 11 (X.map encX), .fsl 6 (C.map encC), .fsl 1 (tabs.map encTb)])]) (fun k => k ≤ r.length) (fun k => r.length - k) (fun s => ⟨rfl, rfl⟩) ?_ 0 ?_ (by repeat (first | exact trivial | refine ⟨rfl, ?_⟩)) (by repeat (first | exact trivial | refine ⟨rfl, ?_⟩)) rfl
         ·intro k hk
          refine WpG.seq ?_
          refine WpG.reg ?_
          refine G.bin rfl rfl rfl ?_
          refine WpOpsG.nil ?_
          change WpG _ _ _ _ _
          refine WpG.seq ?_
          refine WpG.cond rfl (fun hq15 => ?_) (fun hq15 => ?_)
          ·(try simp only [zN] at hq15)
           refine WpG.skip ?_
           change WpG _ _ _ _ _
           refine WpG.seq ?_
           refine WpG.block ?_
           refine WpG.seq ?_
           refine WpG.reg ?_
           refine G.iaddrN rfl rfl (List.getElem?_eq_getElem (by omega)) ?_
           refine G.loadNF rfl rfl ?_
           refine G.box (g := 13) rfl rfl rfl ?_
           refine G.storeB rfl rfl rfl rfl rfl rfl ?_
           refine WpOpsG.nil ?_
           change WpG _ _ _ _ _
           refine WpG.seq ?_
           refine WpG.reg ?_
           refine G.faddrB rfl ?_
           refine G.load1B rfl rfl rfl ?_
           refine G.faddrB rfl ?_
           refine G.load1B rfl rfl rfl ?_
           refine G.lenM rfl ?_
           refine G.bin rfl rfl rfl ?_
           refine WpOpsG.nil ?_
           change WpG _ _ _ _ _
           refine WpG.cond rfl (fun hq16 => ?_) (fun hq16 => ?_)
           ·(try simp only [zN] at hq16)
            refine WpG.seq ?_
            refine WpG.reg ?_
            refine G.mv rfl ?_
            refine G.mv rfl ?_
            refine G.mv rfl ?_
            refine WpOpsG.nil ?_
            change WpG _ _ _ _ _
            refine WpG.ret ?_
            refine ⟨_, [], rfl, (hasP_le (by repeat (first | exact trivial | refine ⟨rfl, ?_⟩))), rfl, rfl, rfl, ?_⟩
            exact ⟨_, _, rfl, rfl⟩
           ·(try simp only [zN] at hq16)
            refine WpG.skip ?_
            change WpG _ _ _ _ _
            refine WpG.reg ?_
            refine G.addI rfl rfl (by omega) ?_
            refine G.mv rfl ?_
            refine WpOpsG.nil ?_
            exact ⟨k + 1, by omega, by omega, ⟨rfl, rfl, rfl, rfl, rfl, rfl, rfl, rfl, rfl, trivial⟩, ⟨rfl, trivial⟩, rfl⟩
          ·(try simp only [zN] at hq15)
           refine WpG.exit ?_
           change WpG _ _ _ _ _
           refine WpG.seq ?_
           refine WpG.reg ?_
           refine G.loadNB rfl rfl rfl ?_
           refine G.mv rfl ?_
           refine G.call0 rfl rfl (cfgAny (rholds_ok C (parts X) (tabs.map encTb) r (by omega) (by rw [parts_len]; omega) (fun p hp => by
            obtain ⟨c, hc, rfl⟩ := List.mem_map.1 hp
            exact (hXs c hc).2.2) (by omega) (fun r hr => (hg.1 r hr).2) (by omega))) ?_
           rintro _ _ ⟨rfl, rfl⟩
           refine ⟨rfl, ?_⟩
           change WpOpsG _ _ ((126, _) :: _) _ _
           refine G.mv rfl ?_
           refine WpOpsG.nil ?_
           change WpG _ _ _ _ _
           refine WpG.seq ?_
           refine WpG.reg ?_
           refine G.mv rfl ?_
           refine G.bin rfl rfl rfl ?_
           refine WpOpsG.nil ?_
           change WpG _ _ _ _ _
           refine WpG.cond rfl (fun hq17 => ?_) (fun hq17 => ?_)
           ·(try simp only [zN] at hq17)
            refine WpG.seq ?_
            refine WpG.reg ?_
            refine G.mv rfl ?_
            refine G.mv rfl ?_
            refine G.mv rfl ?_
            refine G.mv rfl ?_
            refine WpOpsG.nil ?_
            change WpG _ _ _ _ _
            refine WpG.ret ?_
            refine ⟨_, [], rfl, (hasP_le (by repeat (first | exact trivial | refine ⟨rfl, ?_⟩))), rfl, rfl, rfl, ?_⟩
            exact ⟨_, _, rfl, rfl⟩
           ·(try simp only [zN] at hq17)
            refine WpG.skip ?_
            change WpG _ _ _ _ _
            refine WpG.reg ?_
            refine G.addI rfl rfl (by omega) ?_
            refine G.mv rfl ?_
            refine WpOpsG.nil ?_
            exact ⟨i + 1, by omega, by omega, ⟨rfl, rfl, rfl, rfl, trivial⟩, ⟨rfl, trivial⟩, rfl⟩
         ·exact Nat.zero_le _
       ·(try simp only [zN] at hq13)
        refine WpG.exit ?_
        change WpG _ _ _ _ _
        refine WpG.seq ?_
        refine WpG.reg ?_
        refine G.mv rfl ?_
        refine G.mv rfl ?_
        refine WpOpsG.nil ?_
        change WpG _ _ _ _ _
        refine WpG.ret ?_
        refine ⟨_, [], rfl, (hasP_le (by repeat (first | exact trivial | refine ⟨rfl, ?_⟩))), rfl, rfl, rfl, ?_⟩
        exact ⟨_, _, rfl, rfl⟩
      ·exact Nat.zero_le _
    ·exact Nat.zero_le _
  ·exact Nat.zero_le _
theorem right12_ok (X : List Pc) (C : List Ch) (tabs : List (List Nd)) (hX : X.length ≤ 2 ^ 30) (hXs : ∀ c ∈ X, c.p.name.size ≤ 2 ^ 40 ∧ c.pr.length ≤ 2 ^ 40 ∧ i64 c.p.per) (hC : C.length ≤ 2 ^ 30) (hT : tabs.length ≤ 2 ^ 30) (hTs : ∀ t ∈ tabs, t.length ≤ 2 ^ 40) : WpCallG A 38 [.agg [.fsl 11 (X.map encX), .fsl 6 (C.map encC), .fsl 1 (tabs.map encTb)]] [] (fun v H => ∃ e : Int, v = .v (.int .i64 e) ∧ H = []) := by
 refine WpCallG.intro g38 rfl rfl ?_
 unfold af38
 change WpG _ _ _ _ _
 refine WpG.seq ?_
 refine WpG.reg ?_
 refine G.box (g := 10) rfl rfl rfl ?_
 refine G.mv rfl ?_
 refine WpOpsG.nil ?_
 change WpG _ _ _ _ _
 refine WpG.seq ?_
 refine WpG.reg ?_
 refine G.loadNB rfl rfl rfl ?_
 refine G.call0 rfl rfl (where_ok X C tabs hX hXs hC hT hTs) ?_
 rintro _ _ ⟨e, k, rfl, rfl⟩
 refine ⟨rfl, ?_⟩
 change WpOpsG _ _ ((7, _) :: _) _ _
 refine G.mv rfl ?_
 refine G.ext rfl rfl ?_
 refine G.ext rfl rfl ?_
 refine G.mv rfl ?_
 refine G.mv rfl ?_
 refine WpOpsG.nil ?_
 change WpG _ _ _ _ _
 refine WpG.seq ?_
 refine WpG.reg ?_
 refine G.mv rfl ?_
 refine G.mv rfl ?_
 refine WpOpsG.nil ?_
 change WpG _ _ _ _ _
 refine WpG.ret ?_
 refine ⟨_, [], rfl, (hasP_le (by repeat (first | exact trivial | refine ⟨rfl, ?_⟩))), rfl, rfl, rfl, ?_⟩
 exact ⟨_, rfl, rfl⟩
end Go.AM.L9
