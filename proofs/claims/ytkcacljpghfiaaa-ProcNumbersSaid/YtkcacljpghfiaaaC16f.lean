/- Contracts of the functions that the statement reaches. No condition. -/
import Derived.Test.YtkcacljpghfiaaaC16e
import Derived.Test.YtkcacljpghfiaaaPL16b
set_option linter.all false
set_option maxRecDepth 10000
namespace Go.AM.L16
open Go.AM.PL
theorem is16_ok (ps : List Pr) (i : Int) (hn : ps.length ≤ 1000) : WpCallG A 18 [.fptr [.fsl 3 (ps.map encPr)] 0, .v (.int .i64 i)] [] (fun v H => v = .v (.bool (isV ps i)) ∧ H = []) := by
 refine WpCallG.intro g18 rfl rfl ?_
 unfold af18
 change WpG _ _ _ _ _
 refine WpG.seq ?_
 refine WpG.reg ?_
 refine G.mv rfl ?_
 refine WpOpsG.nil ?_
 change WpG _ _ _ _ _
 refine WpG.seq ?_
 refine WpG.reg ?_
 refine G.mv rfl ?_
 refine G.bin rfl rfl rfl ?_
 refine G.mv rfl ?_
 apply G.andS rfl rfl rfl rfl rfl rfl
 case hB =>
  intro hs1
  (try simp only [zN] at hs1)
  refine G.mv rfl ?_
  refine G.mv rfl ?_
  refine G.nilcF rfl ?_
  refine G.faddrF rfl ?_
  refine G.load1F rfl rfl ?_
  refine G.lenM rfl ?_
  refine G.bin rfl rfl rfl ?_
  refine WpOpsG.nil ?_
  exact ⟨rfl, (by repeat (first | exact LLe.refl _ | refine LLe.cons rfl ?_)), (by repeat (first | exact HLe.refl _ | refine HLe.cons rfl ?_)), rfl⟩
 refine G.mv rfl ?_
 refine WpOpsG.nil ?_
 change WpG _ _ _ _ _
 refine WpG.ret ?_
 refine ⟨_, [], rfl, (hasP_le (by repeat (first | exact trivial | refine ⟨rfl, ?_⟩))), rfl, rfl, rfl, ?_⟩
 exact ⟨rfl, rfl⟩
theorem wake16_ok (ps : List Pr) (i : Int) (hn : ps.length ≤ 1000) : WpCallG A 11 [.fptr [.fsl 3 (ps.map encPr)] 0, .v (.int .i64 i)] [] (fun v H => v = .v (.int .i64 (wakeV ps i)) ∧ H = []) := by
 refine WpCallG.intro g11 rfl rfl ?_
 unfold af11
 change WpG _ _ _ _ _
 refine WpG.seq ?_
 refine WpG.reg ?_
 refine G.mv rfl ?_
 refine WpOpsG.nil ?_
 change WpG _ _ _ _ _
 refine WpG.seq ?_
 refine WpG.seq ?_
 refine WpG.reg ?_
 refine G.mv rfl ?_
 refine G.mv rfl ?_
 refine G.call0 rfl rfl (is16_ok ps i hn) ?_
 rintro _ _ ⟨rfl, rfl⟩
 refine ⟨rfl, ?_⟩
 change WpOpsG _ _ ((7, _) :: _) _ _
 refine G.un rfl rfl ?_
 refine WpOpsG.nil ?_
 change WpG _ _ _ _ _
 refine WpG.cond rfl (fun hq1 => ?_) (fun hq1 => ?_)
 ·(try simp only [zN] at hq1)
  have hno : wakeV ps i = 0 := if_neg (by rw [hq1]; decide)
  refine WpG.seq ?_
  refine WpG.reg ?_
  refine G.mv rfl ?_
  refine WpOpsG.nil ?_
  change WpG _ _ _ _ _
  refine WpG.ret ?_
  refine ⟨_, [], rfl, (hasP_le (by repeat (first | exact trivial | refine ⟨rfl, ?_⟩))), rfl, rfl, rfl, ?_⟩
  rw [hno]; exact ⟨rfl, rfl⟩
 ·(try simp only [zN] at hq1)
  have hyes : wakeV ps i = (prD ps i.toNat).wake := if_pos hq1
  obtain ⟨k, rfl⟩ : ∃ k : Nat, i = (k : Int) := ⟨i.toNat, by have := (isV_iff.1 hq1).1; omega⟩
  have hkl : k < ps.length := by have := isV_iff.1 hq1; omega
  refine WpG.skip ?_
  change WpG _ _ _ _ _
  refine WpG.seq ?_
  refine WpG.reg ?_
  refine G.mv rfl ?_
  refine G.nilcF rfl ?_
  refine G.faddrF rfl ?_
  refine G.load1F rfl rfl ?_
  refine G.mv rfl ?_
  refine G.iaddrM rfl rfl (by omega) (by rw [Int.toNat_natCast]; exact prD_at hkl) ?_
  refine G.faddrF rfl ?_
  refine G.load1F rfl rfl ?_
  refine G.mv rfl ?_
  refine WpOpsG.nil ?_
  change WpG _ _ _ _ _
  refine WpG.ret ?_
  refine ⟨_, [], rfl, (hasP_le (by repeat (first | exact trivial | refine ⟨rfl, ?_⟩))), rfl, rfl, rfl, ?_⟩
  rw [hyes, Int.toNat_natCast]; exact ⟨rfl, rfl⟩
theorem ended16_ok (ps : List Pr) (i : Int) (hn : ps.length ≤ 1000) : WpCallG A 16 [.fptr [.fsl 3 (ps.map encPr)] 0, .v (.int .i64 i)] [] (fun v H => v = .v (.bool (endedV ps i)) ∧ H = []) := by
 refine WpCallG.intro g16 rfl rfl ?_
 unfold af16
 change WpG _ _ _ _ _
 refine WpG.seq ?_
 refine WpG.reg ?_
 refine G.mv rfl ?_
 refine WpOpsG.nil ?_
 change WpG _ _ _ _ _
 refine WpG.seq ?_
 refine WpG.reg ?_
 refine G.mv rfl ?_
 refine G.mv rfl ?_
 refine G.call0 rfl rfl (is16_ok ps i hn) ?_
 rintro _ _ ⟨rfl, rfl⟩
 refine ⟨rfl, ?_⟩
 change WpOpsG _ _ ((7, _) :: _) _ _
 refine G.un rfl rfl ?_
 refine G.mv rfl ?_
 apply G.orS rfl rfl rfl rfl rfl rfl
 case hB =>
  intro hs1
  (try simp only [zN] at hs1)
  refine G.mv rfl ?_
  refine G.nilcF rfl ?_
  refine G.faddrF rfl ?_
  refine G.load1F rfl rfl ?_
  refine G.mv rfl ?_
  refine G.iaddrM rfl rfl (by have := isV_iff.1 hs1; omega) (prD_at (by have := isV_iff.1 hs1; omega)) ?_
  refine G.faddrF rfl ?_
  refine G.load1F rfl rfl ?_
  refine WpOpsG.nil ?_
  exact ⟨rfl, (by repeat (first | exact LLe.refl _ | refine LLe.cons rfl ?_)), (by repeat (first | exact HLe.refl _ | refine HLe.cons rfl ?_)), rfl⟩
 refine G.mv rfl ?_
 refine WpOpsG.nil ?_
 change WpG _ _ _ _ _
 refine WpG.ret ?_
 refine ⟨_, [], rfl, (hasP_le (by repeat (first | exact trivial | refine ⟨rfl, ?_⟩))), rfl, rfl, rfl, ?_⟩
 exact ⟨rfl, rfl⟩
theorem next16_ok (ps : List Pr) (now : Int) (hn : ps.length ≤ 1000) : WpCallG A 12 [.fptr [.fsl 3 (ps.map encPr)] 0, .v (.int .i64 now)] [] (fun v H => v = .v (.int .i64 (nextP ps now)) ∧ H = []) := by
 refine WpCallG.intro g12 rfl rfl ?_
 unfold af12
 change WpG _ _ _ _ _
 refine WpG.seq ?_
 refine WpG.reg ?_
 refine G.mv rfl ?_
 refine WpOpsG.nil ?_
 change WpG _ _ _ _ _
 refine WpG.seq ?_
 refine WpG.reg ?_
 refine G.mv rfl ?_
 refine G.mv rfl ?_
 refine WpOpsG.nil ?_
 change WpG _ _ _ _ _
 refine WpG.seq ?_
 refine WpG.seq ?_
 refine WpG.reg ?_
 refine G.mv rfl ?_
 refine G.nilcF rfl ?_
 refine G.faddrF rfl ?_
 refine G.load1F rfl rfl ?_
 refine G.lenM rfl ?_
 refine G.mv rfl ?_
 refine WpOpsG.nil ?_
 change WpG _ _ _ _ _
 refine WpG.block ?_
 refine WpG.loop (S := Nat) (fun i => [(1, .v (.int .i64 now)), (5, .v (.int .i64 (nextS ps now i).1)), (6, .v (.bool (nextS ps now i).2)), (12, .fsl 3 (ps.map encPr)), (13, .v (.int .i64 (ps.length : Int))), (14, .v (.int .i64 ((i : Nat) : Int)))]) (fun _ => []) (fun i => i ≤ ps.length) (fun i => ps.length - i) (fun s => ⟨rfl, rfl⟩) ?_ 0 ?_ (by repeat (first | exact trivial | refine ⟨rfl, ?_⟩)) (by repeat (first | exact trivial | refine ⟨rfl, ?_⟩)) rfl
 ·intro i hI
  refine WpG.seq ?_
  refine WpG.reg ?_
  refine G.bin rfl rfl rfl ?_
  refine WpOpsG.nil ?_
  change WpG _ _ _ _ _
  refine WpG.seq ?_
  refine WpG.cond rfl (fun hq1 => ?_) (fun hq1 => ?_)
  ·(try simp only [zN] at hq1)
   refine WpG.skip ?_
   change WpG _ _ _ _ _
   refine WpG.seq ?_
   refine WpG.block ?_
   refine WpG.seq ?_
   refine WpG.reg ?_
   refine G.iaddrM rfl rfl (by omega) (by rw [Int.toNat_natCast]; exact prD_at (by omega)) ?_
   refine G.loadNF rfl rfl ?_
   refine G.box (g := 10) rfl rfl rfl ?_
   refine G.storeB rfl rfl rfl rfl rfl rfl ?_
   refine WpOpsG.nil ?_
   change WpG _ _ _ _ _
   refine WpG.seq ?_
   refine WpG.reg ?_
   refine G.faddrB rfl ?_
   refine G.load1B rfl rfl rfl ?_
   refine G.un rfl rfl ?_
   refine G.mv rfl ?_
   apply G.andS rfl rfl rfl rfl rfl rfl
   case hB =>
    intro hs2
    (try simp only [zN] at hs2)
    refine G.faddrB rfl ?_
    refine G.load1B rfl rfl rfl ?_
    refine G.mv rfl ?_
    refine G.bin rfl rfl rfl ?_
    refine WpOpsG.nil ?_
    exact ⟨rfl, (by repeat (first | exact LLe.refl _ | refine LLe.cons rfl ?_)), (by repeat (first | exact HLe.refl _ | refine HLe.cons rfl ?_)), rfl⟩
   refine G.mv rfl ?_
   apply G.andS rfl rfl rfl rfl rfl rfl
   case hB =>
    intro hs3
    (try simp only [zN] at hs3)
    refine G.mv rfl ?_
    refine G.un rfl rfl ?_
    refine G.mv rfl ?_
    apply G.orS rfl rfl rfl rfl rfl rfl
    case hB =>
     intro hs4
     (try simp only [zN] at hs4)
     refine G.faddrB rfl ?_
     refine G.load1B rfl rfl rfl ?_
     refine G.mv rfl ?_
     refine G.bin rfl rfl rfl ?_
     refine WpOpsG.nil ?_
     exact ⟨rfl, (by repeat (first | exact LLe.refl _ | refine LLe.cons rfl ?_)), (by repeat (first | exact HLe.refl _ | refine HLe.cons rfl ?_)), rfl⟩
    refine WpOpsG.nil ?_
    exact ⟨rfl, (by repeat (first | exact LLe.refl _ | refine LLe.cons rfl ?_)), (by repeat (first | exact HLe.refl _ | refine HLe.cons rfl ?_)), rfl⟩
   refine WpOpsG.nil ?_
   change WpG _ _ _ _ _
   refine WpG.cond rfl (fun hq5 => ?_) (fun hq5 => ?_)
   ·(try simp only [zN] at hq5)
    have hgo := hq5
    refine WpG.reg ?_
    refine G.faddrB rfl ?_
    refine G.load1B rfl rfl rfl ?_
    refine G.mv rfl ?_
    refine G.mv rfl ?_
    refine WpOpsG.nil ?_
    change WpG _ _ _ _ _
    refine WpG.reg ?_
    refine G.addI rfl rfl (by omega) ?_
    refine G.mv rfl ?_
    refine WpOpsG.nil ?_
    first
     | (have e : nextS ps now (i + 1) = ((prD ps i).wake, true) := if_pos (next_T hgo)
        exact ⟨i + 1, by omega, by omega, ⟨rfl, by rw [e]; rfl, by rw [e]; rfl, rfl, rfl, rfl, trivial⟩, trivial, rfl⟩)
     | (have e : nextS ps now (i + 1) = nextS ps now i := if_neg (next_F hno)
        exact ⟨i + 1, by omega, by omega, ⟨rfl, by rw [e]; rfl, by rw [e]; rfl, rfl, rfl, rfl, trivial⟩, trivial, rfl⟩)
   ·(try simp only [zN] at hq5)
    have hno := hq5
    refine WpG.skip ?_
    change WpG _ _ _ _ _
    refine WpG.reg ?_
    refine G.addI rfl rfl (by omega) ?_
    refine G.mv rfl ?_
    refine WpOpsG.nil ?_
    first
     | (have e : nextS ps now (i + 1) = ((prD ps i).wake, true) := if_pos (next_T hgo)
        exact ⟨i + 1, by omega, by omega, ⟨rfl, by rw [e]; rfl, by rw [e]; rfl, rfl, rfl, rfl, trivial⟩, trivial, rfl⟩)
     | (have e : nextS ps now (i + 1) = nextS ps now i := if_neg (next_F hno)
        exact ⟨i + 1, by omega, by omega, ⟨rfl, by rw [e]; rfl, by rw [e]; rfl, rfl, rfl, rfl, trivial⟩, trivial, rfl⟩)
  ·(try simp only [zN] at hq1)
   refine WpG.exit ?_
   change WpG _ _ _ _ _
   refine WpG.seq ?_
   refine WpG.reg ?_
   refine G.mv rfl ?_
   refine G.mv rfl ?_
   refine WpOpsG.nil ?_
   change WpG _ _ _ _ _
   refine WpG.ret ?_
   refine ⟨_, [], rfl, (hasP_le (by repeat (first | exact trivial | refine ⟨rfl, ?_⟩))), rfl, rfl, rfl, ?_⟩
   rw [show nextP ps now = (nextS ps now i).1 by unfold nextP; rw [show ps.length = i by omega]]; exact ⟨rfl, rfl⟩
 ·exact Nat.zero_le _
theorem sleep16_ok (ps : List Pr) (i : Int) (u : Int) (hn : ps.length ≤ 1000) : WpCallG A 9 [.bptr 0 0, .v (.int .i64 i), .v (.int .i64 u)] [(0, .box [.osl 1]), (1, .arr .yes 3 (ps.map encPr))] (fun v H => v = .v (.bool (isV ps i)) ∧ H = [(0, .box [.osl 1]), (1, .arr .yes 3 ((sleepV ps i u).map encPr))]) := by
 refine WpCallG.intro g9 rfl rfl ?_
 unfold af9
 change WpG _ _ _ _ _
 refine WpG.seq ?_
 refine WpG.reg ?_
 refine G.mv rfl ?_
 refine WpOpsG.nil ?_
 change WpG _ _ _ _ _
 refine WpG.seq ?_
 refine WpG.seq ?_
 refine WpG.reg ?_
 refine G.mv rfl ?_
 refine G.mv rfl ?_
 refine G.lend rfl rfl (is16_ok ps i (by omega)) ?_
 rintro _ _ ⟨rfl, rfl⟩
 refine ⟨rfl, trivial, rfl, ?_⟩
 change WpOpsG _ _ ((9, _) :: _) _ _
 refine WpOpsG.nil ?_
 change WpG _ _ _ _ _
 refine WpG.cond rfl (fun hq1 => ?_) (fun hq1 => ?_)
 ·(try simp only [zN] at hq1)
  obtain ⟨k, rfl⟩ : ∃ k : Nat, i = (k : Int) := ⟨i.toNat, by have := (isV_iff.1 hq1).1; omega⟩
  have hkl : k < ps.length := by have := isV_iff.1 hq1; omega
  have hyes : ps.set k { prD ps k with wake := u } = (sleepV ps (k : Int) u) := by unfold sleepV; rw [if_pos hq1, Int.toNat_natCast]
  refine WpG.reg ?_
  refine G.mv rfl ?_
  refine G.nilcB rfl ?_
  refine G.faddrB rfl ?_
  refine G.load1B rfl rfl rfl ?_
  refine G.mv rfl ?_
  refine G.mv rfl ?_
  refine G.iaddrO rfl rfl rfl (by omega) (by rw [List.length_map]; omega) ?_
  rw [Int.toNat_natCast]
  refine G.faddrE rfl ?_
  refine G.storeEM ({ prD ps k with wake := u }) rfl rfl rfl (prD_at hkl) rfl rfl rfl rfl ?_
  rw [show ps.set k { prD ps k with wake := u } = (sleepV ps (k : Int) u) from hyes]
  refine WpOpsG.nil ?_
  change WpG _ _ _ _ _
  refine WpG.seq ?_
  refine WpG.reg ?_
  refine G.mv rfl ?_
  refine G.mv rfl ?_
  refine G.lend rfl rfl (by exact is16_ok _ _ (by rw [sleep_len]; omega)) ?_
  rintro _ _ ⟨rfl, rfl⟩
  refine ⟨rfl, trivial, rfl, ?_⟩
  change WpOpsG _ _ ((20, _) :: _) _ _
  rw [is_sleep]
  refine G.mv rfl ?_
  refine WpOpsG.nil ?_
  change WpG _ _ _ _ _
  refine WpG.ret ?_
  refine ⟨_, [(0, .box [.osl 1]), (1, .arr .yes 3 ((sleepV ps (k : Int) u).map encPr))], rfl, (hasP_le (by repeat (first | exact trivial | refine ⟨rfl, ?_⟩))), rfl, rfl, rfl, ?_⟩
  exact ⟨rfl, rfl⟩
 ·(try simp only [zN] at hq1)
  have hno : (sleepV ps i u) = ps := if_neg (by rw [hq1]; decide)
  refine WpG.skip ?_
  change WpG _ _ _ _ _
  refine WpG.seq ?_
  refine WpG.reg ?_
  refine G.mv rfl ?_
  refine G.mv rfl ?_
  refine G.lend rfl rfl (by exact is16_ok _ _ (by omega)) ?_
  rintro _ _ ⟨rfl, rfl⟩
  refine ⟨rfl, trivial, rfl, ?_⟩
  change WpOpsG _ _ ((20, _) :: _) _ _
  skip
  refine G.mv rfl ?_
  refine WpOpsG.nil ?_
  change WpG _ _ _ _ _
  refine WpG.ret ?_
  refine ⟨_, [(0, .box [.osl 1]), (1, .arr .yes 3 (ps.map encPr))], rfl, (hasP_le (by repeat (first | exact trivial | refine ⟨rfl, ?_⟩))), rfl, rfl, rfl, ?_⟩
  rw [hno]; exact ⟨rfl, rfl⟩
theorem end16_ok (ps : List Pr) (i : Int) (hn : ps.length ≤ 1000) : WpCallG A 14 [.bptr 0 0, .v (.int .i64 i)] [(0, .box [.osl 1]), (1, .arr .yes 3 (ps.map encPr))] (fun v H => v = .v (.bool (isV ps i)) ∧ H = [(0, .box [.osl 1]), (1, .arr .yes 3 ((endV ps i).map encPr))]) := by
 refine WpCallG.intro g14 rfl rfl ?_
 unfold af14
 change WpG _ _ _ _ _
 refine WpG.seq ?_
 refine WpG.reg ?_
 refine G.mv rfl ?_
 refine WpOpsG.nil ?_
 change WpG _ _ _ _ _
 refine WpG.seq ?_
 refine WpG.seq ?_
 refine WpG.reg ?_
 refine G.mv rfl ?_
 refine G.mv rfl ?_
 refine G.lend rfl rfl (is16_ok ps i (by omega)) ?_
 rintro _ _ ⟨rfl, rfl⟩
 refine ⟨rfl, trivial, rfl, ?_⟩
 change WpOpsG _ _ ((7, _) :: _) _ _
 refine WpOpsG.nil ?_
 change WpG _ _ _ _ _
 refine WpG.cond rfl (fun hq1 => ?_) (fun hq1 => ?_)
 ·(try simp only [zN] at hq1)
  obtain ⟨k, rfl⟩ : ∃ k : Nat, i = (k : Int) := ⟨i.toNat, by have := (isV_iff.1 hq1).1; omega⟩
  have hkl : k < ps.length := by have := isV_iff.1 hq1; omega
  have hyes : ps.set k { prD ps k with ended := true } = (endV ps (k : Int)) := by unfold endV; rw [if_pos hq1, Int.toNat_natCast]
  refine WpG.reg ?_
  refine G.mv rfl ?_
  refine G.nilcB rfl ?_
  refine G.faddrB rfl ?_
  refine G.load1B rfl rfl rfl ?_
  refine G.mv rfl ?_
  refine G.iaddrO rfl rfl rfl (by omega) (by rw [List.length_map]; omega) ?_
  rw [Int.toNat_natCast]
  refine G.faddrE rfl ?_
  refine G.storeEM ({ prD ps k with ended := true }) rfl rfl rfl (prD_at hkl) rfl rfl rfl rfl ?_
  rw [show ps.set k { prD ps k with ended := true } = (endV ps (k : Int)) from hyes]
  refine WpOpsG.nil ?_
  change WpG _ _ _ _ _
  refine WpG.seq ?_
  refine WpG.reg ?_
  refine G.mv rfl ?_
  refine G.mv rfl ?_
  refine G.lend rfl rfl (by exact is16_ok _ _ (by rw [end_len]; omega)) ?_
  rintro _ _ ⟨rfl, rfl⟩
  refine ⟨rfl, trivial, rfl, ?_⟩
  change WpOpsG _ _ ((17, _) :: _) _ _
  rw [is_end]
  refine G.mv rfl ?_
  refine WpOpsG.nil ?_
  change WpG _ _ _ _ _
  refine WpG.ret ?_
  refine ⟨_, [(0, .box [.osl 1]), (1, .arr .yes 3 ((endV ps (k : Int)).map encPr))], rfl, (hasP_le (by repeat (first | exact trivial | refine ⟨rfl, ?_⟩))), rfl, rfl, rfl, ?_⟩
  exact ⟨rfl, rfl⟩
 ·(try simp only [zN] at hq1)
  have hno : (endV ps i) = ps := if_neg (by rw [hq1]; decide)
  refine WpG.skip ?_
  change WpG _ _ _ _ _
  refine WpG.seq ?_
  refine WpG.reg ?_
  refine G.mv rfl ?_
  refine G.mv rfl ?_
  refine G.lend rfl rfl (by exact is16_ok _ _ (by omega)) ?_
  rintro _ _ ⟨rfl, rfl⟩
  refine ⟨rfl, trivial, rfl, ?_⟩
  change WpOpsG _ _ ((17, _) :: _) _ _
  skip
  refine G.mv rfl ?_
  refine WpOpsG.nil ?_
  change WpG _ _ _ _ _
  refine WpG.ret ?_
  refine ⟨_, [(0, .box [.osl 1]), (1, .arr .yes 3 (ps.map encPr))], rfl, (hasP_le (by repeat (first | exact trivial | refine ⟨rfl, ?_⟩))), rfl, rfl, rfl, ?_⟩
  rw [hno]; exact ⟨rfl, rfl⟩
theorem new16_ok (l : List Sp) (h1 : 1 ≤ l.length) (h3 : l.length ≤ 3) : WpCallG A 7 [.fsl 2 (l.map encSp)] [] (fun v H => v = .bptr 0 0 ∧ H = [(0, .box [.osl 1]), (1, .arr .yes 3 ((newP l).map encPr))]) := by
 refine WpCallG.intro g7 rfl rfl ?_
 unfold af7
 change WpG _ _ _ _ _
 refine WpG.seq ?_
 refine WpG.reg ?_
 refine G.mv rfl ?_
 refine WpOpsG.nil ?_
 change WpG _ _ _ _ _
 refine WpG.seq ?_
 refine WpG.seq ?_
 refine WpG.reg ?_
 refine G.mv rfl ?_
 refine G.lenM rfl ?_
 refine G.bin rfl rfl rfl ?_
 refine G.mv rfl ?_
 apply G.orS rfl rfl rfl rfl rfl rfl
 case hB =>
  intro hs1
  (try simp only [zN] at hs1)
  refine G.mv rfl ?_
  refine G.lenM rfl ?_
  refine G.bin rfl rfl rfl ?_
  refine WpOpsG.nil ?_
  exact ⟨rfl, (by repeat (first | exact LLe.refl _ | refine LLe.cons rfl ?_)), (by repeat (first | exact HLe.refl _ | refine HLe.cons rfl ?_)), rfl⟩
 refine WpOpsG.nil ?_
 change WpG _ _ _ _ _
 refine WpG.cond rfl (fun hq2 => ?_) (fun hq2 => ?_)
 ·(try simp only [zN] at hq2)
  exfalso; omega
 ·(try simp only [zN] at hq2)
  refine WpG.skip ?_
  change WpG _ _ _ _ _
  refine WpG.seq ?_
  refine WpG.reg ?_
  refine G.build rfl ?_
  refine G.box (g := 0) rfl rfl rfl ?_
  refine G.mv rfl ?_
  refine WpOpsG.nil ?_
  change WpG _ _ _ _ _
  refine WpG.seq ?_
  refine WpG.seq ?_
  refine WpG.ownNilB (b := 0) (g := 1) (off := 0) (w := 3) rfl rfl rfl ?_
  refine WpG.reg ?_
  refine G.mv rfl ?_
  refine G.lenM rfl ?_
  refine G.mv rfl ?_
  refine WpOpsG.nil ?_
  change WpG _ _ _ _ _
  refine WpG.block ?_
  refine WpG.loop (S := Nat) (fun i => [(3, .bptr 0 0), (16, .fsl 2 (l.map encSp)), (17, .v (.int .i64 (l.length : Int))), (18, .v (.int .i64 ((i : Nat) : Int)))]) (fun i => [(0, .box [.osl 1]), (1, .arr .yes 3 ((newP (l.take i)).map encPr))]) (fun i => i ≤ l.length) (fun i => l.length - i) (fun s => ⟨rfl, rfl⟩) ?_ 0 ?_ (by repeat (first | exact trivial | refine ⟨rfl, ?_⟩)) (by repeat (first | exact trivial | refine ⟨rfl, ?_⟩)) rfl
  ·intro i hI
   refine WpG.seq ?_
   refine WpG.reg ?_
   refine G.bin rfl rfl rfl ?_
   refine WpOpsG.nil ?_
   change WpG _ _ _ _ _
   refine WpG.seq ?_
   refine WpG.cond rfl (fun hq3 => ?_) (fun hq3 => ?_)
   ·(try simp only [zN] at hq3)
    refine WpG.skip ?_
    change WpG _ _ _ _ _
    refine WpG.seq ?_
    refine WpG.block ?_
    refine WpG.seq ?_
    refine WpG.reg ?_
    refine G.iaddrN rfl rfl (List.getElem?_eq_getElem (by omega)) ?_
    refine G.loadNF rfl rfl ?_
    refine G.box (g := 10) rfl rfl rfl ?_
    refine G.storeB rfl rfl rfl rfl rfl rfl ?_
    refine WpOpsG.nil ?_
    change WpG _ _ _ _ _
    refine WpG.reg ?_
    refine G.mv rfl ?_
    refine G.mv rfl ?_
    refine G.nilcB rfl ?_
    refine G.faddrB rfl ?_
    refine G.load1B rfl rfl rfl ?_
    refine G.faddrB rfl ?_
    refine G.load1B rfl rfl rfl ?_
    refine G.build rfl ?_
    refine G.bsliceF rfl rfl rfl ?_
    change WpOpsG _ _ ((30, .fsl 3 (([⟨l[i].2, 0, false⟩] : List Pr).map encPr)) :: _) _ _
    refine G.app rfl rfl rfl rfl trivial (by rw [List.length_map, newP_len, List.length_take]; show (_ + 1) * 24 ≤ 2 ^ 47; omega) ?_
    rw [← List.map_append]
    refine G.nilcB rfl ?_
    refine G.faddrB rfl ?_
    refine G.storeB rfl rfl rfl rfl rfl rfl ?_
    refine WpOpsG.nil ?_
    change WpG _ _ _ _ _
    refine WpG.reg ?_
    refine G.addI rfl rfl (by omega) ?_
    refine G.mv rfl ?_
    refine WpOpsG.nil ?_
    refine ⟨i + 1, by omega, by omega, ⟨rfl, rfl, rfl, rfl, trivial⟩, ⟨rfl, ?_, trivial⟩, rfl⟩
    rw [newP_snoc (by omega)]; rfl
   ·(try simp only [zN] at hq3)
    refine WpG.exit ?_
    change WpG _ _ _ _ _
    refine WpG.seq ?_
    refine WpG.reg ?_
    refine G.mv rfl ?_
    refine G.mv rfl ?_
    refine WpOpsG.nil ?_
    change WpG _ _ _ _ _
    rw [show l.take i = l from List.take_of_length_le (by omega)]
    refine WpG.ret ?_
    refine ⟨_, [(0, .box [.osl 1]), (1, .arr .yes 3 ((newP l).map encPr))], rfl, (hasP_le (by repeat (first | exact trivial | refine ⟨rfl, ?_⟩))), rfl, rfl, rfl, ?_⟩
    exact ⟨rfl, rfl⟩
  ·exact Nat.zero_le _
theorem newN16_ok (l : List Sp) (hn : l.length ≤ 2 ^ 50) (h : ¬ (1 ≤ l.length ∧ l.length ≤ 3)) : WpCallG A 7 [.fsl 2 (l.map encSp)] [] (fun v H => v = .v (.pointer none) ∧ H = []) := by
 refine WpCallG.intro g7 rfl rfl ?_
 unfold af7
 change WpG _ _ _ _ _
 refine WpG.seq ?_
 refine WpG.reg ?_
 refine G.mv rfl ?_
 refine WpOpsG.nil ?_
 change WpG _ _ _ _ _
 refine WpG.seq ?_
 refine WpG.seq ?_
 refine WpG.reg ?_
 refine G.mv rfl ?_
 refine G.lenM rfl ?_
 refine G.bin rfl rfl rfl ?_
 refine G.mv rfl ?_
 apply G.orS rfl rfl rfl rfl rfl rfl
 case hB =>
  intro hs1
  (try simp only [zN] at hs1)
  refine G.mv rfl ?_
  refine G.lenM rfl ?_
  refine G.bin rfl rfl rfl ?_
  refine WpOpsG.nil ?_
  exact ⟨rfl, (by repeat (first | exact LLe.refl _ | refine LLe.cons rfl ?_)), (by repeat (first | exact HLe.refl _ | refine HLe.cons rfl ?_)), rfl⟩
 refine WpOpsG.nil ?_
 change WpG _ _ _ _ _
 refine WpG.cond rfl (fun hq2 => ?_) (fun hq2 => ?_)
 ·(try simp only [zN] at hq2)
  refine WpG.seq ?_
  refine WpG.reg ?_
  refine G.mv rfl ?_
  refine WpOpsG.nil ?_
  change WpG _ _ _ _ _
  refine WpG.ret ?_
  refine ⟨_, [], rfl, (hasP_le (by repeat (first | exact trivial | refine ⟨rfl, ?_⟩))), rfl, rfl, rfl, ?_⟩
  exact ⟨rfl, rfl⟩
 ·(try simp only [zN] at hq2)
  exfalso; omega
end Go.AM.L16
