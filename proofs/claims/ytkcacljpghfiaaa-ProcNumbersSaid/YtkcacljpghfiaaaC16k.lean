/- Contracts of the functions that the statement reaches. No condition. -/
import Derived.Test.YtkcacljpghfiaaaC16g
import Derived.Test.YtkcacljpghfiaaaPL16c
set_option linter.all false
set_option maxRecDepth 10000
namespace Go.AM.L16
open Go.AM.PL
theorem ppick_ok (l : List Sp) (wk : List Int) (en : List Bool) (ps : List Pr) (now : Int) (h : RelP l ps wk en) (hn : l.length ≤ 1000) : WpCallG A 26 [.fptr [.fsl 2 (l.map encSp), .fsl 1 (wk.map encK), .fsl 1 (en.map encO)] 0, .v (.int .i64 now)] [] (fun v H => v = .v (.int .i64 (pickV ps now)) ∧ H = []) := by
 refine WpCallG.intro g26 rfl rfl ?_
 unfold af26
 change WpG _ _ _ _ _
 refine WpG.seq ?_
 refine WpG.reg ?_
 refine G.mv rfl ?_
 refine WpOpsG.nil ?_
 change WpG _ _ _ _ _
 refine WpG.seq ?_
 refine WpG.reg ?_
 refine G.mv rfl ?_
 refine WpOpsG.nil ?_
 change WpG _ _ _ _ _
 refine WpG.seq ?_
 refine WpG.seq ?_
 refine WpG.reg ?_
 refine G.mv rfl ?_
 refine G.nilcF rfl ?_
 refine G.faddrF rfl ?_
 refine G.load1F rfl rfl ?_
 refine G.lenM rfl ?_
 refine G.mv rfl ?_
 refine WpOpsG.nil ?_
 change WpG _ _ _ _ _
 refine WpG.block ?_
 refine WpG.loop (S := Nat) (fun i => [(0, .fptr [.fsl 2 (l.map encSp), .fsl 1 (wk.map encK), .fsl 1 (en.map encO)] 0), (1, .v (.int .i64 now)), (5, .v (.int .i64 (pickS ps now i))), (11, .v (.int .i64 (l.length : Int))), (12, .v (.int .i64 (i : Int)))]) (fun _ => []) (fun i => i ≤ l.length) (fun i => l.length - i) (fun s => ⟨rfl, rfl⟩) ?_ 0 ?_ (by repeat (first | exact trivial | refine ⟨rfl, ?_⟩)) (by repeat (first | exact trivial | refine ⟨rfl, ?_⟩)) rfl
 ·intro i hI
  have hr := pickS_rng (ps := ps) (now := now) i
  refine WpG.seq ?_
  refine WpG.reg ?_
  refine G.bin rfl rfl rfl ?_
  refine WpOpsG.nil ?_
  change WpG _ _ _ _ _
  refine WpG.seq ?_
  refine WpG.cond rfl (fun hq1 => ?_) (fun hq1 => ?_)
  ·(try simp only [zN] at hq1)
   refine WpG.skip ?_
   change WpG _ _ _ _ _
   refine WpG.seq ?_
   refine WpG.block ?_
   refine WpG.seq ?_
   refine WpG.reg ?_
   refine G.mv rfl ?_
   refine G.mv rfl ?_
   refine WpOpsG.nil ?_
   change WpG _ _ _ _ _
   refine WpG.seq ?_
   refine WpG.reg ?_
   refine G.mv rfl ?_
   refine G.nilcF rfl ?_
   refine G.faddrF rfl ?_
   refine G.load1F rfl rfl ?_
   refine G.mv rfl ?_
   refine G.iaddrM rfl rfl (by omega) (gd17 false (by have := h.n1; have := h.n2; have := h.n3; omega)) ?_
   try rw [Int.toNat_natCast]
   refine G.load1F rfl rfl ?_
   refine G.un rfl rfl ?_
   refine G.mv rfl ?_
   apply G.andS rfl rfl rfl rfl rfl rfl
   case hB =>
    intro hs2
    (try simp only [zN] at hs2)
    refine G.mv rfl ?_
    refine G.nilcF rfl ?_
    refine G.faddrF rfl ?_
    refine G.load1F rfl rfl ?_
    refine G.mv rfl ?_
    refine G.iaddrM rfl rfl (by omega) (gd17 (0 : Int) (by have := h.n1; have := h.n2; have := h.n3; omega)) ?_
    try rw [Int.toNat_natCast]
    refine G.load1F rfl rfl ?_
    refine G.mv rfl ?_
    refine G.bin rfl rfl rfl ?_
    refine WpOpsG.nil ?_
    exact ⟨rfl, (by repeat (first | exact LLe.refl _ | refine LLe.cons rfl ?_)), (by repeat (first | exact HLe.refl _ | refine HLe.cons rfl ?_)), rfl⟩
   refine G.mv rfl ?_
   apply G.andS rfl rfl rfl rfl rfl rfl
   case hB =>
    intro hs3
    (try simp only [zN] at hs3)
    refine G.mv rfl ?_
    refine G.bin rfl rfl rfl ?_
    refine G.mv rfl ?_
    apply G.orS rfl rfl rfl rfl rfl rfl
    case hB =>
     intro hs4
     (try simp only [zN] at hs4)
     refine G.mv rfl ?_
     refine G.nilcF rfl ?_
     refine G.faddrF rfl ?_
     refine G.load1F rfl rfl ?_
     refine G.mv rfl ?_
     refine G.iaddrM rfl rfl (by omega) (gd17 ((0, 0) : Sp) (by have := pickS_rng (ps := ps) (now := now) i; omega)) ?_
     try rw [Int.toNat_natCast]
     refine G.faddrF rfl ?_
     refine G.load1F rfl rfl ?_
     refine G.mv rfl ?_
     refine G.nilcF rfl ?_
     refine G.faddrF rfl ?_
     refine G.load1F rfl rfl ?_
     refine G.mv rfl ?_
     refine G.iaddrM rfl rfl (by omega) (gd17 ((0, 0) : Sp) (by have := pickS_rng (ps := ps) (now := now) i; omega)) ?_
     try rw [Int.toNat_natCast]
     refine G.faddrF rfl ?_
     refine G.load1F rfl rfl ?_
     refine G.bin rfl rfl rfl ?_
     refine WpOpsG.nil ?_
     exact ⟨rfl, (by repeat (first | exact LLe.refl _ | refine LLe.cons rfl ?_)), (by repeat (first | exact HLe.refl _ | refine HLe.cons rfl ?_)), rfl⟩
    refine WpOpsG.nil ?_
    exact ⟨rfl, (by repeat (first | exact LLe.refl _ | refine LLe.cons rfl ?_)), (by repeat (first | exact HLe.refl _ | refine HLe.cons rfl ?_)), rfl⟩
   refine WpOpsG.nil ?_
   change WpG _ _ _ _ _
   refine WpG.cond rfl (fun hq5 => ?_) (fun hq5 => ?_)
   ·(try simp only [zN] at hq5)
    have hpk := pick_T (now := now) h (i := i) (by omega) hq5
    refine WpG.reg ?_
    refine G.mv rfl ?_
    refine G.mv rfl ?_
    refine WpOpsG.nil ?_
    change WpG _ _ _ _ _
    refine WpG.reg ?_
    refine G.addI rfl rfl (by omega) ?_
    refine G.mv rfl ?_
    refine WpOpsG.nil ?_
    exact ⟨i + 1, by omega, by omega, ⟨rfl, rfl, by rw [hpk]; rfl, rfl, rfl, trivial⟩, trivial, rfl⟩
   ·(try simp only [zN] at hq5)
    have hpk := pick_F (now := now) h (i := i) (by omega) (fun c => by
     rcases hq5 with (d | d) | d
     ·rw [c.1.1] at d; cases d
     ·exact absurd c.1.2 (by omega)
     ·rcases c.2 with f | f <;> omega)
    refine WpG.skip ?_
    change WpG _ _ _ _ _
    refine WpG.reg ?_
    refine G.addI rfl rfl (by omega) ?_
    refine G.mv rfl ?_
    refine WpOpsG.nil ?_
    exact ⟨i + 1, by omega, by omega, ⟨rfl, rfl, by rw [hpk]; rfl, rfl, rfl, trivial⟩, trivial, rfl⟩
  ·(try simp only [zN] at hq1)
   refine WpG.exit ?_
   change WpG _ _ _ _ _
   refine WpG.seq ?_
   refine WpG.reg ?_
   refine G.mv rfl ?_
   refine G.mv rfl ?_
   refine WpOpsG.nil ?_
   change WpG _ _ _ _ _
   refine WpG.ret ?_
   refine ⟨_, [], rfl, (hasP_le (by repeat (first | exact trivial | refine ⟨rfl, ?_⟩))), rfl, rfl, rfl, ?_⟩
   rw [show pickV ps now = pickS ps now i by unfold pickV; rw [show ps.length = i by have := h.n1; omega]]; exact ⟨rfl, rfl⟩
 ·exact Nat.zero_le _
theorem pnext_ok (l : List Sp) (wk : List Int) (en : List Bool) (ps : List Pr) (now : Int) (h : RelP l ps wk en) (hn : l.length ≤ 1000) : WpCallG A 27 [.fptr [.fsl 2 (l.map encSp), .fsl 1 (wk.map encK), .fsl 1 (en.map encO)] 0, .v (.int .i64 now)] [] (fun v H => v = .v (.int .i64 (nextP ps now)) ∧ H = []) := by
 refine WpCallG.intro g27 rfl rfl ?_
 unfold af27
 change WpG _ _ _ _ _
 refine WpG.seq ?_
 refine WpG.reg ?_
 refine G.mv rfl ?_
 refine WpOpsG.nil ?_
 change WpG _ _ _ _ _
 refine WpG.seq ?_
 refine WpG.reg ?_
 refine G.mv rfl ?_
 refine G.mv rfl ?_
 refine WpOpsG.nil ?_
 change WpG _ _ _ _ _
 refine WpG.seq ?_
 refine WpG.seq ?_
 refine WpG.reg ?_
 refine G.mv rfl ?_
 refine G.nilcF rfl ?_
 refine G.faddrF rfl ?_
 refine G.load1F rfl rfl ?_
 refine G.lenM rfl ?_
 refine G.mv rfl ?_
 refine WpOpsG.nil ?_
 change WpG _ _ _ _ _
 refine WpG.block ?_
 refine WpG.loop (S := Nat) (fun i => [(0, .fptr [.fsl 2 (l.map encSp), .fsl 1 (wk.map encK), .fsl 1 (en.map encO)] 0), (1, .v (.int .i64 now)), (5, .v (.int .i64 (nextS ps now i).1)), (6, .v (.bool (nextS ps now i).2)), (12, .v (.int .i64 (l.length : Int))), (13, .v (.int .i64 (i : Int)))]) (fun _ => []) (fun i => i ≤ l.length) (fun i => l.length - i) (fun s => ⟨rfl, rfl⟩) ?_ 0 ?_ (by repeat (first | exact trivial | refine ⟨rfl, ?_⟩)) (by repeat (first | exact trivial | refine ⟨rfl, ?_⟩)) rfl
 ·intro i hI
  refine WpG.seq ?_
  refine WpG.reg ?_
  refine G.bin rfl rfl rfl ?_
  refine WpOpsG.nil ?_
  change WpG _ _ _ _ _
  refine WpG.seq ?_
  refine WpG.cond rfl (fun hq1 => ?_) (fun hq1 => ?_)
  ·(try simp only [zN] at hq1)
   refine WpG.skip ?_
   change WpG _ _ _ _ _
   refine WpG.seq ?_
   refine WpG.block ?_
   refine WpG.seq ?_
   refine WpG.reg ?_
   refine G.mv rfl ?_
   refine G.mv rfl ?_
   refine WpOpsG.nil ?_
   change WpG _ _ _ _ _
   refine WpG.seq ?_
   refine WpG.reg ?_
   refine G.mv rfl ?_
   refine G.nilcF rfl ?_
   refine G.faddrF rfl ?_
   refine G.load1F rfl rfl ?_
   refine G.mv rfl ?_
   refine G.iaddrM rfl rfl (by omega) (gd17 false (by have := h.n1; have := h.n2; have := h.n3; omega)) ?_
   try rw [Int.toNat_natCast]
   refine G.load1F rfl rfl ?_
   refine G.un rfl rfl ?_
   refine G.mv rfl ?_
   apply G.andS rfl rfl rfl rfl rfl rfl
   case hB =>
    intro hs2
    (try simp only [zN] at hs2)
    refine G.mv rfl ?_
    refine G.nilcF rfl ?_
    refine G.faddrF rfl ?_
    refine G.load1F rfl rfl ?_
    refine G.mv rfl ?_
    refine G.iaddrM rfl rfl (by omega) (gd17 (0 : Int) (by have := h.n1; have := h.n2; have := h.n3; omega)) ?_
    try rw [Int.toNat_natCast]
    refine G.load1F rfl rfl ?_
    refine G.mv rfl ?_
    refine G.bin rfl rfl rfl ?_
    refine WpOpsG.nil ?_
    exact ⟨rfl, (by repeat (first | exact LLe.refl _ | refine LLe.cons rfl ?_)), (by repeat (first | exact HLe.refl _ | refine HLe.cons rfl ?_)), rfl⟩
   refine G.mv rfl ?_
   apply G.andS rfl rfl rfl rfl rfl rfl
   case hB =>
    intro hs3
    (try simp only [zN] at hs3)
    refine G.mv rfl ?_
    refine G.un rfl rfl ?_
    refine G.mv rfl ?_
    apply G.orS rfl rfl rfl rfl rfl rfl
    case hB =>
     intro hs4
     (try simp only [zN] at hs4)
     refine G.mv rfl ?_
     refine G.nilcF rfl ?_
     refine G.faddrF rfl ?_
     refine G.load1F rfl rfl ?_
     refine G.mv rfl ?_
     refine G.iaddrM rfl rfl (by omega) (gd17 (0 : Int) (by have := h.n1; have := h.n2; have := h.n3; omega)) ?_
     try rw [Int.toNat_natCast]
     refine G.load1F rfl rfl ?_
     refine G.mv rfl ?_
     refine G.bin rfl rfl rfl ?_
     refine WpOpsG.nil ?_
     exact ⟨rfl, (by repeat (first | exact LLe.refl _ | refine LLe.cons rfl ?_)), (by repeat (first | exact HLe.refl _ | refine HLe.cons rfl ?_)), rfl⟩
    refine WpOpsG.nil ?_
    exact ⟨rfl, (by repeat (first | exact LLe.refl _ | refine LLe.cons rfl ?_)), (by repeat (first | exact HLe.refl _ | refine HLe.cons rfl ?_)), rfl⟩
   refine WpOpsG.nil ?_
   change WpG _ _ _ _ _
   refine WpG.cond rfl (fun hq5 => ?_) (fun hq5 => ?_)
   ·(try simp only [zN] at hq5)
    have hpk := nextR_T (now := now) h (i := i) (by omega) hq5
    refine WpG.reg ?_
    refine G.mv rfl ?_
    refine G.nilcF rfl ?_
    refine G.faddrF rfl ?_
    refine G.load1F rfl rfl ?_
    refine G.mv rfl ?_
    refine G.iaddrM rfl rfl (by omega) (gd17 (0 : Int) (by have := h.n1; have := h.n2; have := h.n3; omega)) ?_
    try rw [Int.toNat_natCast]
    refine G.load1F rfl rfl ?_
    refine G.mv rfl ?_
    refine G.mv rfl ?_
    refine WpOpsG.nil ?_
    change WpG _ _ _ _ _
    refine WpG.reg ?_
    refine G.addI rfl rfl (by omega) ?_
    refine G.mv rfl ?_
    refine WpOpsG.nil ?_
    exact ⟨i + 1, by omega, by omega, ⟨rfl, rfl, by rw [hpk]; rfl, by rw [hpk]; rfl, rfl, rfl, trivial⟩, trivial, rfl⟩
   ·(try simp only [zN] at hq5)
    have hpk := nextR_F (now := now) h (i := i) (by omega) hq5
    refine WpG.skip ?_
    change WpG _ _ _ _ _
    refine WpG.reg ?_
    refine G.addI rfl rfl (by omega) ?_
    refine G.mv rfl ?_
    refine WpOpsG.nil ?_
    exact ⟨i + 1, by omega, by omega, ⟨rfl, rfl, by rw [hpk]; rfl, by rw [hpk]; rfl, rfl, rfl, trivial⟩, trivial, rfl⟩
  ·(try simp only [zN] at hq1)
   refine WpG.exit ?_
   change WpG _ _ _ _ _
   refine WpG.seq ?_
   refine WpG.reg ?_
   refine G.mv rfl ?_
   refine G.mv rfl ?_
   refine WpOpsG.nil ?_
   change WpG _ _ _ _ _
   refine WpG.ret ?_
   refine ⟨_, [], rfl, (hasP_le (by repeat (first | exact trivial | refine ⟨rfl, ?_⟩))), rfl, rfl, rfl, ?_⟩
   rw [show nextP ps now = (nextS ps now i).1 by unfold nextP; rw [show ps.length = i by have := h.n1; omega]]; exact ⟨rfl, rfl⟩
 ·exact Nat.zero_le _
theorem same16_ok (l : List Sp) (wk : List Int) (en : List Bool) (ps : List Pr) (now : Int) (h : RelP l ps wk en) (hn : l.length ≤ 1000) : WpCallG A 23 [.fptr [.fsl 3 (ps.map encPr)] 0, .fptr [.fsl 2 (l.map encSp), .fsl 1 (wk.map encK), .fsl 1 (en.map encO)] 0, .v (.int .i64 now)] [] (fun v H => v = .v (.bool true) ∧ H = []) := by
 refine WpCallG.intro g23 rfl rfl ?_
 unfold af23
 change WpG _ _ _ _ _
 refine WpG.seq ?_
 refine WpG.reg ?_
 refine G.mv rfl ?_
 refine WpOpsG.nil ?_
 change WpG _ _ _ _ _
 refine WpG.seq ?_
 refine WpG.seq ?_
 refine WpG.reg ?_
 refine G.mv rfl ?_
 refine WpOpsG.nil ?_
 change WpG _ _ _ _ _
 refine WpG.block ?_
 change WpG _ _ ((7, .v (.int .i64 (((0 : Nat) : Int) - 1))) :: _) _ _
 refine WpG.loop (S := Nat) (fun i => [(0, .fptr [.fsl 3 (ps.map encPr)] 0), (1, .fptr [.fsl 2 (l.map encSp), .fsl 1 (wk.map encK), .fsl 1 (en.map encO)] 0), (2, .v (.int .i64 now)), (7, .v (.int .i64 ((i : Int) - 1)))]) (fun _ => []) (fun i => i ≤ l.length + 2) (fun i => l.length + 2 - i) (fun s => ⟨rfl, rfl⟩) ?_ 0 ?_ (by repeat (first | exact trivial | refine ⟨rfl, ?_⟩)) (by repeat (first | exact trivial | refine ⟨rfl, ?_⟩)) rfl
 ·intro i hI
  refine WpG.seq ?_
  refine WpG.seq ?_
  refine WpG.reg ?_
  refine G.mv rfl ?_
  refine G.mv rfl ?_
  refine G.nilcF rfl ?_
  refine G.faddrF rfl ?_
  refine G.load1F rfl rfl ?_
  refine G.lenM rfl ?_
  refine G.bin rfl rfl rfl ?_
  refine WpOpsG.nil ?_
  change WpG _ _ _ _ _
  refine WpG.cond rfl (fun hq1 => ?_) (fun hq1 => ?_)
  ·(try simp only [zN] at hq1)
   refine WpG.skip ?_
   change WpG _ _ _ _ _
   refine WpG.seq ?_
   refine WpG.block ?_
   refine WpG.seq ?_
   refine WpG.reg ?_
   refine G.mv rfl ?_
   refine G.mv rfl ?_
   refine WpOpsG.nil ?_
   change WpG _ _ _ _ _
   refine WpG.seq ?_
   refine WpG.seq ?_
   refine WpG.reg ?_
   refine G.mv rfl ?_
   refine G.bin rfl rfl rfl ?_
   refine G.mv rfl ?_
   apply G.andS rfl rfl rfl rfl rfl rfl
   case hB =>
    intro hs2
    (try simp only [zN] at hs2)
    refine G.mv rfl ?_
    refine G.mv rfl ?_
    refine G.nilcF rfl ?_
    refine G.faddrF rfl ?_
    refine G.load1F rfl rfl ?_
    refine G.lenM rfl ?_
    refine G.bin rfl rfl rfl ?_
    refine WpOpsG.nil ?_
    exact ⟨rfl, (by repeat (first | exact LLe.refl _ | refine LLe.cons rfl ?_)), (by repeat (first | exact HLe.refl _ | refine HLe.cons rfl ?_)), rfl⟩
   refine WpOpsG.nil ?_
   change WpG _ _ _ _ _
   refine WpG.cond rfl (fun hq3 => ?_) (fun hq3 => ?_)
   ·(try simp only [zN] at hq3)
    have hw := rel_wk h (x := ((i : Int) - 1)) (by omega) (by omega)
    refine WpG.reg ?_
    refine G.mv rfl ?_
    refine G.nilcF rfl ?_
    refine G.faddrF rfl ?_
    refine G.load1F rfl rfl ?_
    refine G.mv rfl ?_
    refine G.iaddrM rfl rfl (by omega) (gd17 (0 : Int) (by have := h.n1; have := h.n2; have := h.n3; omega)) ?_
    try rw [Int.toNat_natCast]
    refine G.load1F rfl rfl ?_
    refine G.mv rfl ?_
    refine G.nilcF rfl ?_
    refine G.faddrF rfl ?_
    refine G.load1F rfl rfl ?_
    refine G.mv rfl ?_
    refine G.iaddrM rfl rfl (by omega) (gd17 false (by have := h.n1; have := h.n2; have := h.n3; omega)) ?_
    try rw [Int.toNat_natCast]
    refine G.load1F rfl rfl ?_
    refine G.mv rfl ?_
    refine G.mv rfl ?_
    refine WpOpsG.nil ?_
    change WpG _ _ _ _ _
    refine WpG.seq ?_
    refine WpG.reg ?_
    refine G.mv rfl ?_
    refine G.mv rfl ?_
    refine G.call0 rfl rfl (wake16_ok ps ((i : Int) - 1) (by have := h.n1; omega)) ?_
    rintro _ _ ⟨rfl, rfl⟩
    refine ⟨rfl, ?_⟩
    change WpOpsG _ _ ((46, _) :: _) _ _
    rw [hw.1]
    refine G.mv rfl ?_
    refine G.bin rfl rfl rfl ?_
    rw [bne_self_eq_false]
    refine G.mv rfl ?_
    refine WpOpsG.known 49 false rfl rfl ?_
    refine G.mv rfl ?_
    refine G.mv rfl ?_
    refine G.call0 rfl rfl (ended16_ok ps ((i : Int) - 1) (by have := h.n1; omega)) ?_
    rintro _ _ ⟨rfl, rfl⟩
    refine ⟨rfl, ?_⟩
    change WpOpsG _ _ ((52, _) :: _) _ _
    rw [hw.2]
    refine G.mv rfl ?_
    refine G.beq rfl rfl rfl ?_
    rw [beq_self_eq_true]
    refine G.pickF rfl rfl ?_
    refine WpOpsG.nil ?_
    change WpG _ _ _ _ _
    refine WpG.cond rfl (fun hq4 => absurd hq4 (by decide)) (fun hq4 => ?_)
    refine WpG.skip ?_
    change WpG _ _ _ _ _
    refine WpG.reg ?_
    refine G.mv rfl ?_
    refine G.addI rfl rfl (by omega) ?_
    rw [show (i : Int) - 1 + 1 = ((i + 1 : Nat) : Int) - 1 by omega]
    refine G.mv rfl ?_
    refine WpOpsG.nil ?_
    exact ⟨i + 1, by omega, by omega, ⟨rfl, rfl, rfl, rfl, trivial⟩, trivial, rfl⟩
   ·(try simp only [zN] at hq3)
    have hw := out_wake (ps := ps) (i := ((i : Int) - 1)) (by have := h.n1; omega)
    refine WpG.skip ?_
    change WpG _ _ _ _ _
    refine WpG.seq ?_
    refine WpG.reg ?_
    refine G.mv rfl ?_
    refine G.mv rfl ?_
    refine G.call0 rfl rfl (wake16_ok ps ((i : Int) - 1) (by have := h.n1; omega)) ?_
    rintro _ _ ⟨rfl, rfl⟩
    refine ⟨rfl, ?_⟩
    change WpOpsG _ _ ((46, _) :: _) _ _
    rw [hw.1]
    refine G.mv rfl ?_
    refine G.bin rfl rfl rfl ?_
    rw [bne_self_eq_false]
    refine G.mv rfl ?_
    refine WpOpsG.known 49 false rfl rfl ?_
    refine G.mv rfl ?_
    refine G.mv rfl ?_
    refine G.call0 rfl rfl (ended16_ok ps ((i : Int) - 1) (by have := h.n1; omega)) ?_
    rintro _ _ ⟨rfl, rfl⟩
    refine ⟨rfl, ?_⟩
    change WpOpsG _ _ ((52, _) :: _) _ _
    rw [hw.2]
    refine G.mv rfl ?_
    refine G.beq rfl rfl rfl ?_
    rw [beq_self_eq_true]
    refine G.pickF rfl rfl ?_
    refine WpOpsG.nil ?_
    change WpG _ _ _ _ _
    refine WpG.cond rfl (fun hq5 => absurd hq5 (by decide)) (fun hq5 => ?_)
    refine WpG.skip ?_
    change WpG _ _ _ _ _
    refine WpG.reg ?_
    refine G.mv rfl ?_
    refine G.addI rfl rfl (by omega) ?_
    rw [show (i : Int) - 1 + 1 = ((i + 1 : Nat) : Int) - 1 by omega]
    refine G.mv rfl ?_
    refine WpOpsG.nil ?_
    exact ⟨i + 1, by omega, by omega, ⟨rfl, rfl, rfl, rfl, trivial⟩, trivial, rfl⟩
  ·(try simp only [zN] at hq1)
   refine WpG.exit ?_
   change WpG _ _ _ _ _
   refine WpG.seq ?_
   refine WpG.reg ?_
   refine G.mv rfl ?_
   refine G.mv rfl ?_
   refine G.call0 rfl rfl (pick_ok ps now (by have := h.n1; omega)) ?_
   rintro _ _ ⟨rfl, rfl⟩
   refine ⟨rfl, ?_⟩
   change WpOpsG _ _ ((58, _) :: _) _ _
   refine G.mv rfl ?_
   refine G.mv rfl ?_
   refine G.call0 rfl rfl (ppick_ok l wk en ps now h hn) ?_
   rintro _ _ ⟨rfl, rfl⟩
   refine ⟨rfl, ?_⟩
   change WpOpsG _ _ ((61, _) :: _) _ _
   refine G.bin rfl rfl rfl ?_
   rw [beq_self_eq_true]
   refine G.mv rfl ?_
   refine WpOpsG.known 63 true rfl rfl ?_
   refine G.mv rfl ?_
   refine G.mv rfl ?_
   refine G.call0 rfl rfl (next16_ok ps now (by have := h.n1; omega)) ?_
   rintro _ _ ⟨rfl, rfl⟩
   refine ⟨rfl, ?_⟩
   change WpOpsG _ _ ((66, _) :: _) _ _
   refine G.mv rfl ?_
   refine G.mv rfl ?_
   refine G.call0 rfl rfl (pnext_ok l wk en ps now h hn) ?_
   rintro _ _ ⟨rfl, rfl⟩
   refine ⟨rfl, ?_⟩
   change WpOpsG _ _ ((69, _) :: _) _ _
   refine G.bin rfl rfl rfl ?_
   rw [beq_self_eq_true]
   refine G.pickT rfl rfl ?_
   refine G.mv rfl ?_
   refine WpOpsG.nil ?_
   change WpG _ _ _ _ _
   refine WpG.ret ?_
   refine ⟨_, [], rfl, (hasP_le (by repeat (first | exact trivial | refine ⟨rfl, ?_⟩))), rfl, rfl, rfl, ?_⟩
   exact ⟨rfl, rfl⟩
 ·exact Nat.zero_le _
theorem begin16_ok (l : List Sp) (hn : l.length ≤ 1000) : WpCallG A 22 [.fsl 2 (l.map encSp)] [] (fun v H => v = .bptr 0 0 ∧ H = [(0, .box [.fsl 2 (l.map encSp), .osl 1, .osl 2]), (1, .arr .yes 1 ((List.replicate l.length 0).map encK)), (2, .arr .yes 1 ((List.replicate l.length false).map encO))]) := by
 refine WpCallG.intro g22 rfl rfl ?_
 unfold af22
 change WpG _ _ _ _ _
 refine WpG.seq ?_
 refine WpG.reg ?_
 refine G.mv rfl ?_
 refine WpOpsG.nil ?_
 change WpG _ _ _ _ _
 refine WpG.seq ?_
 refine WpG.reg ?_
 refine G.mv rfl ?_
 refine G.mv rfl ?_
 refine G.lenM rfl ?_
 refine G.mkslice (g := 1) rfl rfl (by omega) (by omega) (by omega) (by omega) rfl rfl rfl rfl ?_
 rw [Int.toNat_natCast]
 change WpOpsG _ _ _ ((1, .arr .yes 1 (List.replicate l.length [.v (.int .i64 0)])) :: _) _
 refine G.mv rfl ?_
 refine G.lenM rfl ?_
 refine G.mkslice (g := 2) rfl rfl (by omega) (by omega) (by omega) (by omega) rfl rfl rfl rfl ?_
 rw [Int.toNat_natCast]
 change WpOpsG _ _ _ ((2, .arr .yes 1 (List.replicate l.length [.v (.bool false)])) :: _) _
 refine G.build rfl ?_
 refine G.box (g := 0) rfl rfl rfl ?_
 refine G.mv rfl ?_
 refine WpOpsG.nil ?_
 change WpG _ _ _ _ _
 refine WpG.ret ?_
 refine ⟨_, [(0, .box [.fsl 2 (l.map encSp), .osl 1, .osl 2]), (1, .arr .yes 1 (List.replicate l.length [.v (.int .i64 0)])), (2, .arr .yes 1 (List.replicate l.length [.v (.bool false)]))], rfl, (hasP_le (by repeat (first | exact trivial | refine ⟨rfl, ?_⟩))), rfl, rfl, rfl, ?_⟩
 exact ⟨rfl, by rw [List.map_replicate, List.map_replicate]; rfl⟩
end Go.AM.L16
