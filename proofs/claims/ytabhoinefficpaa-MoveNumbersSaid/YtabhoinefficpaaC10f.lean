/- Contracts of the functions that the statement reaches. No condition. -/
import Derived.Test.YtabhoinefficpaaC10d
set_option linter.all false
set_option maxRecDepth 10000
namespace Go.AM.L10
open Go.AM.PL
theorem doF_ok (l : List Rn) (mi mj : Int) (hn : l.length ≤ 2 ^ 40) (hl : ∀ r ∈ l, okN r) : WpCallG A 18 [.fsl 2 (l.map encN), .agg [.v (.int .i64 mi), .v (.int .i64 mj), .v (.bool false)]] [] (fun v H => v = .osl 0 ∧ H = [(0, .arr .yes 2 ((doV l mi mj false).map encN))]) := by
 refine WpCallG.intro g18 rfl rfl ?_
 unfold af18
 change WpG _ _ _ _ _
 refine WpG.seq ?_
 refine WpG.reg ?_
 refine G.box (g := 10) rfl rfl rfl ?_
 refine G.mv rfl ?_
 refine WpOpsG.nil ?_
 change WpG _ _ _ _ _
 refine WpG.seq ?_
 refine WpG.reg ?_
 refine G.mv rfl ?_
 refine G.call0 rfl rfl (cloneN_ok l (by omega)) ?_
 rintro _ _ ⟨rfl, rfl⟩
 refine ⟨rfl, ?_⟩
 change WpOpsG _ _ ((9, .osl 0) :: _) ((0, .arr .yes 2 (l.map encN)) :: _) _
 refine G.mv rfl ?_
 refine WpOpsG.nil ?_
 change WpG _ _ _ _ _
 refine WpG.seq ?_
 refine WpG.seq ?_
 refine WpG.reg ?_
 refine G.mv rfl ?_
 refine G.loadNB rfl rfl rfl ?_
 refine G.call0 rfl rfl (places_ok l mi mj false (by omega)) ?_
 rintro _ _ ⟨rfl, rfl⟩
 refine ⟨rfl, ?_⟩
 change WpOpsG _ _ ((12, _) :: _) _ _
 refine G.un rfl rfl ?_
 refine WpOpsG.nil ?_
 change WpG _ _ _ _ _
 refine WpG.cond rfl (fun hq1 => ?_) (fun hq1 => ?_)
 ·(try simp only [zN] at hq1)
  have hpf := hq1
  refine WpG.seq ?_
  refine WpG.reg ?_
  refine G.mv rfl ?_
  refine G.mv rfl ?_
  refine WpOpsG.nil ?_
  change WpG _ _ _ _ _
  refine WpG.ret ?_
  refine ⟨_, [(0, .arr .yes 2 (l.map encN))], rfl, (hasP_le (by repeat (first | exact trivial | refine ⟨rfl, ?_⟩))), rfl, rfl, rfl, ?_⟩
  rw [do_0 hpf]; exact ⟨rfl, rfl⟩
 ·(try simp only [zN] at hq1)
  have hpl := plc_iff.1 hq1
  obtain ⟨i, rfl⟩ : ∃ i : Nat, mi = i := ⟨mi.toNat, by omega⟩
  obtain ⟨j, rfl⟩ : ∃ j : Nat, mj = j := ⟨mj.toNat, by omega⟩
  refine WpG.skip ?_
  change WpG _ _ _ _ _
  refine WpG.seq ?_
  refine WpG.reg ?_
  refine G.faddrB rfl ?_
  refine G.load1B rfl rfl rfl ?_
  refine G.faddrB rfl ?_
  refine G.load1B rfl rfl rfl ?_
  refine G.mv rfl ?_
  refine G.mv rfl ?_
  refine WpOpsG.nil ?_
  change WpG _ _ _ _ _
  refine WpG.seq ?_
  refine WpG.seq ?_
  refine WpG.reg ?_
  refine G.faddrB rfl ?_
  refine G.load1B rfl rfl rfl ?_
  refine WpOpsG.nil ?_
  change WpG _ _ _ _ _
  refine WpG.cond rfl (fun hq2 => absurd hq2 (by decide)) (fun hq2 => ?_)
  refine WpG.skip ?_
  change WpG _ _ _ _ _
  refine WpG.seq ?_
  refine WpG.reg ?_
  refine G.mv rfl ?_
  refine G.mv rfl ?_
  refine G.mv rfl ?_
  refine G.mv rfl ?_
  refine G.iaddrM rfl rfl (by omega) (gd17 (⟨0, 0⟩ : Rn) (by omega)) ?_
  try rw [Int.toNat_natCast]
  refine G.faddrF rfl ?_
  refine G.load1F rfl rfl ?_
  refine G.mv rfl ?_
  refine G.mv rfl ?_
  refine G.iaddrM rfl rfl (by omega) (gd17 (⟨0, 0⟩ : Rn) (by omega)) ?_
  try rw [Int.toNat_natCast]
  refine G.faddrF rfl ?_
  refine G.load1F rfl rfl ?_
  refine G.call0 rfl rfl (add_ok (rnD l i).n (rnD l j).n (hl _ (getD_mem (i := i) (by omega))).2 (hl _ (getD_mem (i := j) (by omega))).2) ?_
  rintro _ _ ⟨rfl, rfl⟩
  refine ⟨rfl, ?_⟩
  change WpOpsG _ _ ((37, _) :: _) _ _
  refine G.iaddrO rfl rfl rfl (by omega) (by rw [List.length_map]; omega) ?_
  rw [Int.toNat_natCast]
  refine G.faddrE rfl ?_
  refine G.storeEM (⟨(rnD l i).p, sadd (rnD l i).n (rnD l j).n⟩ : Rn) rfl rfl rfl (gd17 (⟨0, 0⟩ : Rn) (by omega)) rfl rfl rfl rfl ?_
  refine WpOpsG.nil ?_
  change WpG _ _ _ _ _
  refine WpG.seq ?_
  refine WpG.reg ?_
  refine G.mv rfl ?_
  refine G.mv rfl ?_
  refine G.iaddrO rfl rfl rfl (by omega) (by rw [List.length_map, List.length_set]; omega) ?_
  rw [Int.toNat_natCast]
  refine G.faddrE rfl ?_
  refine G.storeEM (⟨(rnD l j).p, 0⟩ : Rn) rfl rfl rfl (set_ne10 (by omega) (by omega)) rfl rfl rfl rfl ?_
  refine WpOpsG.nil ?_
  change WpG _ _ _ _ _
  refine WpG.seq ?_
  refine WpG.reg ?_
  refine G.mv rfl ?_
  refine WpOpsG.freeze 0 rfl ?_
  change WpOpsG _ _ ((44, .fsl 2 ((setM l i j).map encN)) :: _) _ _
  refine G.call0 rfl rfl (tidyN_ok (setM l i j) (by rw [setM_len]; omega) (setM_ok hl (by omega) (by omega))) ?_
  rintro _ _ ⟨rfl, rfl⟩
  refine ⟨rfl, ?_⟩
  change WpOpsG _ _ ((45, .osl 0) :: _) ((0, .arr .yes 2 ((tidyV (setM l i j)).map encN)) :: _) _
  refine G.mv rfl ?_
  refine WpOpsG.nil ?_
  change WpG _ _ _ _ _
  refine WpG.ret ?_
  refine ⟨_, [(0, .arr .yes 2 ((tidyV (setM l i j)).map encN))], rfl, (hasP_le (by repeat (first | exact trivial | refine ⟨rfl, ?_⟩))), rfl, rfl, rfl, ?_⟩
  rw [do_F ⟨by omega, by omega⟩]; exact ⟨rfl, rfl⟩
theorem doT_ok (l : List Rn) (mi mj : Int) (hn : l.length ≤ 2 ^ 40) (hl : ∀ r ∈ l, okN r) : WpCallG A 18 [.fsl 2 (l.map encN), .agg [.v (.int .i64 mi), .v (.int .i64 mj), .v (.bool true)]] [] (fun v H => v = .osl 0 ∧ H = [(0, .arr .yes 2 ((doV l mi mj true).map encN))]) := by
 refine WpCallG.intro g18 rfl rfl ?_
 unfold af18
 change WpG _ _ _ _ _
 refine WpG.seq ?_
 refine WpG.reg ?_
 refine G.box (g := 10) rfl rfl rfl ?_
 refine G.mv rfl ?_
 refine WpOpsG.nil ?_
 change WpG _ _ _ _ _
 refine WpG.seq ?_
 refine WpG.reg ?_
 refine G.mv rfl ?_
 refine G.call0 rfl rfl (cloneN_ok l (by omega)) ?_
 rintro _ _ ⟨rfl, rfl⟩
 refine ⟨rfl, ?_⟩
 change WpOpsG _ _ ((9, .osl 0) :: _) ((0, .arr .yes 2 (l.map encN)) :: _) _
 refine G.mv rfl ?_
 refine WpOpsG.nil ?_
 change WpG _ _ _ _ _
 refine WpG.seq ?_
 refine WpG.seq ?_
 refine WpG.reg ?_
 refine G.mv rfl ?_
 refine G.loadNB rfl rfl rfl ?_
 refine G.call0 rfl rfl (places_ok l mi mj true (by omega)) ?_
 rintro _ _ ⟨rfl, rfl⟩
 refine ⟨rfl, ?_⟩
 change WpOpsG _ _ ((12, _) :: _) _ _
 refine G.un rfl rfl ?_
 refine WpOpsG.nil ?_
 change WpG _ _ _ _ _
 refine WpG.cond rfl (fun hq1 => ?_) (fun hq1 => ?_)
 ·(try simp only [zN] at hq1)
  have hpf := hq1
  refine WpG.seq ?_
  refine WpG.reg ?_
  refine G.mv rfl ?_
  refine G.mv rfl ?_
  refine WpOpsG.nil ?_
  change WpG _ _ _ _ _
  refine WpG.ret ?_
  refine ⟨_, [(0, .arr .yes 2 (l.map encN))], rfl, (hasP_le (by repeat (first | exact trivial | refine ⟨rfl, ?_⟩))), rfl, rfl, rfl, ?_⟩
  rw [do_0 hpf]; exact ⟨rfl, rfl⟩
 ·(try simp only [zN] at hq1)
  have hpl := plc_iff.1 hq1
  obtain ⟨i, rfl⟩ : ∃ i : Nat, mi = i := ⟨mi.toNat, by omega⟩
  obtain ⟨j, rfl⟩ : ∃ j : Nat, mj = j := ⟨mj.toNat, by omega⟩
  refine WpG.skip ?_
  change WpG _ _ _ _ _
  refine WpG.seq ?_
  refine WpG.reg ?_
  refine G.faddrB rfl ?_
  refine G.load1B rfl rfl rfl ?_
  refine G.faddrB rfl ?_
  refine G.load1B rfl rfl rfl ?_
  refine G.mv rfl ?_
  refine G.mv rfl ?_
  refine WpOpsG.nil ?_
  change WpG _ _ _ _ _
  refine WpG.seq ?_
  refine WpG.seq ?_
  refine WpG.reg ?_
  refine G.faddrB rfl ?_
  refine G.load1B rfl rfl rfl ?_
  refine WpOpsG.nil ?_
  change WpG _ _ _ _ _
  refine WpG.cond rfl (fun hq2 => ?_) (fun hq2 => absurd hq2 (by decide))
  refine WpG.reg ?_
  refine G.faddrB rfl ?_
  refine G.load1B rfl rfl rfl ?_
  refine G.faddrB rfl ?_
  refine G.load1B rfl rfl rfl ?_
  refine G.mv rfl ?_
  refine G.mv rfl ?_
  refine WpOpsG.nil ?_
  change WpG _ _ _ _ _
  refine WpG.seq ?_
  refine WpG.reg ?_
  refine G.mv rfl ?_
  refine G.mv rfl ?_
  refine G.mv rfl ?_
  refine G.mv rfl ?_
  refine G.iaddrM rfl rfl (by omega) (gd17 (⟨0, 0⟩ : Rn) (by omega)) ?_
  try rw [Int.toNat_natCast]
  refine G.faddrF rfl ?_
  refine G.load1F rfl rfl ?_
  refine G.mv rfl ?_
  refine G.mv rfl ?_
  refine G.iaddrM rfl rfl (by omega) (gd17 (⟨0, 0⟩ : Rn) (by omega)) ?_
  try rw [Int.toNat_natCast]
  refine G.faddrF rfl ?_
  refine G.load1F rfl rfl ?_
  refine G.call0 rfl rfl (add_ok (rnD l j).n (rnD l i).n (hl _ (getD_mem (i := j) (by omega))).2 (hl _ (getD_mem (i := i) (by omega))).2) ?_
  rintro _ _ ⟨rfl, rfl⟩
  refine ⟨rfl, ?_⟩
  change WpOpsG _ _ ((37, _) :: _) _ _
  refine G.iaddrO rfl rfl rfl (by omega) (by rw [List.length_map]; omega) ?_
  rw [Int.toNat_natCast]
  refine G.faddrE rfl ?_
  refine G.storeEM (⟨(rnD l j).p, sadd (rnD l j).n (rnD l i).n⟩ : Rn) rfl rfl rfl (gd17 (⟨0, 0⟩ : Rn) (by omega)) rfl rfl rfl rfl ?_
  refine WpOpsG.nil ?_
  change WpG _ _ _ _ _
  refine WpG.seq ?_
  refine WpG.reg ?_
  refine G.mv rfl ?_
  refine G.mv rfl ?_
  refine G.iaddrO rfl rfl rfl (by omega) (by rw [List.length_map, List.length_set]; omega) ?_
  rw [Int.toNat_natCast]
  refine G.faddrE rfl ?_
  refine G.storeEM (⟨(rnD l i).p, 0⟩ : Rn) rfl rfl rfl (set_ne10 (by omega) (by omega)) rfl rfl rfl rfl ?_
  refine WpOpsG.nil ?_
  change WpG _ _ _ _ _
  refine WpG.seq ?_
  refine WpG.reg ?_
  refine G.mv rfl ?_
  refine WpOpsG.freeze 0 rfl ?_
  change WpOpsG _ _ ((44, .fsl 2 ((setM l j i).map encN)) :: _) _ _
  refine G.call0 rfl rfl (tidyN_ok (setM l j i) (by rw [setM_len]; omega) (setM_ok hl (by omega) (by omega))) ?_
  rintro _ _ ⟨rfl, rfl⟩
  refine ⟨rfl, ?_⟩
  change WpOpsG _ _ ((45, .osl 0) :: _) ((0, .arr .yes 2 ((tidyV (setM l j i)).map encN)) :: _) _
  refine G.mv rfl ?_
  refine WpOpsG.nil ?_
  change WpG _ _ _ _ _
  refine WpG.ret ?_
  refine ⟨_, [(0, .arr .yes 2 ((tidyV (setM l j i)).map encN))], rfl, (hasP_le (by repeat (first | exact trivial | refine ⟨rfl, ?_⟩))), rfl, rfl, rfl, ?_⟩
  rw [do_T ⟨by omega, by omega⟩]; exact ⟨rfl, rfl⟩
theorem do_ok (l : List Rn) (mi mj : Int) (mr : Bool) (hn : l.length ≤ 2 ^ 40) (hl : ∀ r ∈ l, okN r) : WpCallG A 18 [.fsl 2 (l.map encN), .agg [.v (.int .i64 mi), .v (.int .i64 mj), .v (.bool mr)]] [] (fun v H => v = .osl 0 ∧ H = [(0, .arr .yes 2 ((doV l mi mj mr).map encN))]) := by
 cases mr with
 | false => exact doF_ok l mi mj hn hl
 | true => exact doT_ok l mi mj hn hl
theorem rdoF_ok (l : List Rn) (mi mj : Int) (hn : l.length ≤ 2 ^ 40) (hl : ∀ r ∈ l, okN r) : WpCallG A 32 [.fsl 2 (l.map encN), .agg [.v (.int .i64 mi), .v (.int .i64 mj), .v (.bool false)]] [] (fun v H => v = .osl 0 ∧ H = [(0, .arr .yes 2 ((doV l mi mj false).map encN))]) := by
 refine WpCallG.intro g32 rfl rfl ?_
 unfold af32
 change WpG _ _ _ _ _
 refine WpG.seq ?_
 refine WpG.reg ?_
 refine G.box (g := 10) rfl rfl rfl ?_
 refine G.mv rfl ?_
 refine WpOpsG.nil ?_
 change WpG _ _ _ _ _
 refine WpG.seq ?_
 refine WpG.reg ?_
 refine G.bslice (g := 0) rfl rfl rfl rfl ?_
 refine G.mv rfl ?_
 refine G.app (ds := l.map encN) rfl rfl rfl rfl trivial (by rw [List.length_map]; show (0 + l.length) * 16 ≤ 2 ^ 47; omega) ?_
 change WpOpsG _ _ _ ((0, .arr .yes 2 (l.map encN)) :: _) _
 refine G.mv rfl ?_
 refine WpOpsG.nil ?_
 change WpG _ _ _ _ _
 refine WpG.seq ?_
 refine WpG.seq ?_
 refine WpG.reg ?_
 refine G.faddrB rfl ?_
 refine G.load1B rfl rfl rfl ?_
 refine G.bin rfl rfl rfl ?_
 refine G.mv rfl ?_
 apply G.orS rfl rfl rfl rfl rfl rfl
 case hB =>
  intro hs1
  (try simp only [zN] at hs1)
  refine G.faddrB rfl ?_
  refine G.load1B rfl rfl rfl ?_
  refine G.faddrB rfl ?_
  refine G.load1B rfl rfl rfl ?_
  refine G.bin rfl rfl rfl ?_
  refine WpOpsG.nil ?_
  exact ⟨rfl, (by repeat (first | exact LLe.refl _ | refine LLe.cons rfl ?_)), (by repeat (first | exact HLe.refl _ | refine HLe.cons rfl ?_)), rfl⟩
 refine G.mv rfl ?_
 apply G.orS rfl rfl rfl rfl rfl rfl
 case hB =>
  intro hs2
  (try simp only [zN] at hs2)
  refine G.faddrB rfl ?_
  refine G.load1B rfl rfl rfl ?_
  refine G.mv rfl ?_
  refine G.lenM rfl ?_
  refine G.bin rfl rfl rfl ?_
  refine WpOpsG.nil ?_
  exact ⟨rfl, (by repeat (first | exact LLe.refl _ | refine LLe.cons rfl ?_)), (by repeat (first | exact HLe.refl _ | refine HLe.cons rfl ?_)), rfl⟩
 refine WpOpsG.nil ?_
 change WpG _ _ _ _ _
 refine WpG.cond rfl (fun hq3 => ?_) (fun hq3 => ?_)
 ·(try simp only [zN] at hq3)
  have hpf : plc l mi mj = false := plc_no hq3
  refine WpG.seq ?_
  refine WpG.reg ?_
  refine G.mv rfl ?_
  refine G.mv rfl ?_
  refine WpOpsG.nil ?_
  change WpG _ _ _ _ _
  refine WpG.ret ?_
  refine ⟨_, [(0, .arr .yes 2 (l.map encN))], rfl, (hasP_le (by repeat (first | exact trivial | refine ⟨rfl, ?_⟩))), rfl, rfl, rfl, ?_⟩
  rw [do_0 hpf]; exact ⟨rfl, rfl⟩
 ·(try simp only [zN] at hq3)
  have hpl := hq3
  obtain ⟨i, rfl⟩ : ∃ i : Nat, mi = i := ⟨mi.toNat, by omega⟩
  obtain ⟨j, rfl⟩ : ∃ j : Nat, mj = j := ⟨mj.toNat, by omega⟩
  refine WpG.skip ?_
  change WpG _ _ _ _ _
  refine WpG.seq ?_
  refine WpG.seq ?_
  refine WpG.reg ?_
  refine G.faddrB rfl ?_
  refine G.load1B rfl rfl rfl ?_
  refine WpOpsG.nil ?_
  change WpG _ _ _ _ _
  refine WpG.cond rfl (fun hq4 => absurd hq4 (by decide)) (fun hq4 => ?_)
  refine WpG.reg ?_
  refine G.mv rfl ?_
  refine G.faddrB rfl ?_
  refine G.load1B rfl rfl rfl ?_
  refine G.mv rfl ?_
  refine G.faddrB rfl ?_
  refine G.load1B rfl rfl rfl ?_
  refine G.mv rfl ?_
  refine G.faddrB rfl ?_
  refine G.load1B rfl rfl rfl ?_
  refine G.iaddrO rfl rfl rfl (by omega) (by rw [List.length_map]; omega) ?_
  rw [Int.toNat_natCast]
  refine G.faddrE rfl ?_
  refine G.load1EM rfl rfl (gd17 (⟨0, 0⟩ : Rn) (by omega)) rfl ?_
  refine G.mv rfl ?_
  refine G.faddrB rfl ?_
  refine G.load1B rfl rfl rfl ?_
  refine G.iaddrO rfl rfl rfl (by omega) (by rw [List.length_map]; omega) ?_
  rw [Int.toNat_natCast]
  refine G.faddrE rfl ?_
  refine G.load1EM rfl rfl (gd17 (⟨0, 0⟩ : Rn) (by omega)) rfl ?_
  refine G.ckcall0 rfl rfl rfl (sadd_ok (rnD l j).n (rnD l i).n (hl _ (getD_mem (i := j) (by omega))).2 (hl _ (getD_mem (i := i) (by omega))).2) ?_
  rintro _ _ ⟨rfl, rfl⟩
  refine ⟨rfl, ?_⟩
  change WpOpsG _ _ ((70, _) :: _) _ _
  rw [sadd_comm (rnD l j).n (rnD l i).n]
  refine G.iaddrO rfl rfl rfl (by omega) (by rw [List.length_map]; omega) ?_
  rw [Int.toNat_natCast]
  refine G.faddrE rfl ?_
  refine G.ckX [(0, .arr .yes 2 (l.map encN))] [(72, .eptr 0 i 1), (70, .v (.int .i64 (sadd (rnD l i).n (rnD l j).n)))] (by repeat (first | exact trivial | refine ⟨rfl, ?_⟩)) (by repeat (first | exact trivial | refine ⟨rfl, ?_⟩)) rfl rfl rfl ?_ ?_
  ·refine G.storeEM (⟨(rnD l i).p, sadd (rnD l i).n (rnD l j).n⟩ : Rn) rfl rfl rfl (gd17 (⟨0, 0⟩ : Rn) (by omega)) rfl rfl rfl rfl ?_
   exact WpOpsG.nil trivial
  refine G.storeEM (⟨(rnD l i).p, sadd (rnD l i).n (rnD l j).n⟩ : Rn) rfl rfl rfl (gd17 (⟨0, 0⟩ : Rn) (by omega)) rfl rfl rfl rfl ?_
  refine WpOpsG.nil ?_
  change WpOpsG _ _ _ ((0, _) :: _) _
  refine G.iaddrO rfl rfl rfl (by omega) (by rw [List.length_map, List.length_set]; omega) ?_
  rw [Int.toNat_natCast]
  refine G.faddrE rfl ?_
  refine G.storeEM (⟨(rnD l j).p, 0⟩ : Rn) rfl rfl rfl (set_ne10 (by omega) (by omega)) rfl rfl rfl rfl ?_
  refine WpOpsG.nil ?_
  change WpG _ _ _ _ _
  refine WpG.seq ?_
  refine WpG.reg ?_
  refine G.mv rfl ?_
  refine WpOpsG.freeze 0 rfl ?_
  change WpOpsG _ _ ((75, .fsl 2 ((setM l i j).map encN)) :: _) _ _
  refine G.call0 rfl rfl (rtidy_ok (setM l i j) (by rw [setM_len]; omega) (setM_ok hl (by omega) (by omega))) ?_
  rintro _ _ ⟨rfl, rfl⟩
  refine ⟨rfl, ?_⟩
  change WpOpsG _ _ ((76, .osl 0) :: _) ([(0, .arr .yes 2 ((tidyV (setM l i j)).map encN))] ++ _) _
  refine G.mv rfl ?_
  refine WpOpsG.nil ?_
  change WpG _ _ _ _ _
  refine WpG.ret ?_
  refine ⟨_, [(0, .arr .yes 2 ((tidyV (setM l i j)).map encN))], rfl, (hasP_le (by repeat (first | exact trivial | refine ⟨rfl, ?_⟩))), rfl, rfl, rfl, ?_⟩
  rw [do_F ⟨by omega, by omega⟩]; exact ⟨rfl, rfl⟩
theorem rdoT_ok (l : List Rn) (mi mj : Int) (hn : l.length ≤ 2 ^ 40) (hl : ∀ r ∈ l, okN r) : WpCallG A 32 [.fsl 2 (l.map encN), .agg [.v (.int .i64 mi), .v (.int .i64 mj), .v (.bool true)]] [] (fun v H => v = .osl 0 ∧ H = [(0, .arr .yes 2 ((doV l mi mj true).map encN))]) := by
 refine WpCallG.intro g32 rfl rfl ?_
 unfold af32
 change WpG _ _ _ _ _
 refine WpG.seq ?_
 refine WpG.reg ?_
 refine G.box (g := 10) rfl rfl rfl ?_
 refine G.mv rfl ?_
 refine WpOpsG.nil ?_
 change WpG _ _ _ _ _
 refine WpG.seq ?_
 refine WpG.reg ?_
 refine G.bslice (g := 0) rfl rfl rfl rfl ?_
 refine G.mv rfl ?_
 refine G.app (ds := l.map encN) rfl rfl rfl rfl trivial (by rw [List.length_map]; show (0 + l.length) * 16 ≤ 2 ^ 47; omega) ?_
 change WpOpsG _ _ _ ((0, .arr .yes 2 (l.map encN)) :: _) _
 refine G.mv rfl ?_
 refine WpOpsG.nil ?_
 change WpG _ _ _ _ _
 refine WpG.seq ?_
 refine WpG.seq ?_
 refine WpG.reg ?_
 refine G.faddrB rfl ?_
 refine G.load1B rfl rfl rfl ?_
 refine G.bin rfl rfl rfl ?_
 refine G.mv rfl ?_
 apply G.orS rfl rfl rfl rfl rfl rfl
 case hB =>
  intro hs1
  (try simp only [zN] at hs1)
  refine G.faddrB rfl ?_
  refine G.load1B rfl rfl rfl ?_
  refine G.faddrB rfl ?_
  refine G.load1B rfl rfl rfl ?_
  refine G.bin rfl rfl rfl ?_
  refine WpOpsG.nil ?_
  exact ⟨rfl, (by repeat (first | exact LLe.refl _ | refine LLe.cons rfl ?_)), (by repeat (first | exact HLe.refl _ | refine HLe.cons rfl ?_)), rfl⟩
 refine G.mv rfl ?_
 apply G.orS rfl rfl rfl rfl rfl rfl
 case hB =>
  intro hs2
  (try simp only [zN] at hs2)
  refine G.faddrB rfl ?_
  refine G.load1B rfl rfl rfl ?_
  refine G.mv rfl ?_
  refine G.lenM rfl ?_
  refine G.bin rfl rfl rfl ?_
  refine WpOpsG.nil ?_
  exact ⟨rfl, (by repeat (first | exact LLe.refl _ | refine LLe.cons rfl ?_)), (by repeat (first | exact HLe.refl _ | refine HLe.cons rfl ?_)), rfl⟩
 refine WpOpsG.nil ?_
 change WpG _ _ _ _ _
 refine WpG.cond rfl (fun hq3 => ?_) (fun hq3 => ?_)
 ·(try simp only [zN] at hq3)
  have hpf : plc l mi mj = false := plc_no hq3
  refine WpG.seq ?_
  refine WpG.reg ?_
  refine G.mv rfl ?_
  refine G.mv rfl ?_
  refine WpOpsG.nil ?_
  change WpG _ _ _ _ _
  refine WpG.ret ?_
  refine ⟨_, [(0, .arr .yes 2 (l.map encN))], rfl, (hasP_le (by repeat (first | exact trivial | refine ⟨rfl, ?_⟩))), rfl, rfl, rfl, ?_⟩
  rw [do_0 hpf]; exact ⟨rfl, rfl⟩
 ·(try simp only [zN] at hq3)
  have hpl := hq3
  obtain ⟨i, rfl⟩ : ∃ i : Nat, mi = i := ⟨mi.toNat, by omega⟩
  obtain ⟨j, rfl⟩ : ∃ j : Nat, mj = j := ⟨mj.toNat, by omega⟩
  refine WpG.skip ?_
  change WpG _ _ _ _ _
  refine WpG.seq ?_
  refine WpG.seq ?_
  refine WpG.reg ?_
  refine G.faddrB rfl ?_
  refine G.load1B rfl rfl rfl ?_
  refine WpOpsG.nil ?_
  change WpG _ _ _ _ _
  refine WpG.cond rfl (fun hq4 => ?_) (fun hq4 => absurd hq4 (by decide))
  refine WpG.reg ?_
  refine G.mv rfl ?_
  refine G.faddrB rfl ?_
  refine G.load1B rfl rfl rfl ?_
  refine G.mv rfl ?_
  refine G.faddrB rfl ?_
  refine G.load1B rfl rfl rfl ?_
  refine G.mv rfl ?_
  refine G.faddrB rfl ?_
  refine G.load1B rfl rfl rfl ?_
  refine G.iaddrO rfl rfl rfl (by omega) (by rw [List.length_map]; omega) ?_
  rw [Int.toNat_natCast]
  refine G.faddrE rfl ?_
  refine G.load1EM rfl rfl (gd17 (⟨0, 0⟩ : Rn) (by omega)) rfl ?_
  refine G.mv rfl ?_
  refine G.faddrB rfl ?_
  refine G.load1B rfl rfl rfl ?_
  refine G.iaddrO rfl rfl rfl (by omega) (by rw [List.length_map]; omega) ?_
  rw [Int.toNat_natCast]
  refine G.faddrE rfl ?_
  refine G.load1EM rfl rfl (gd17 (⟨0, 0⟩ : Rn) (by omega)) rfl ?_
  refine G.ckcall0 rfl rfl rfl (sadd_ok (rnD l j).n (rnD l i).n (hl _ (getD_mem (i := j) (by omega))).2 (hl _ (getD_mem (i := i) (by omega))).2) ?_
  rintro _ _ ⟨rfl, rfl⟩
  refine ⟨rfl, ?_⟩
  change WpOpsG _ _ ((47, _) :: _) _ _
  refine G.iaddrO rfl rfl rfl (by omega) (by rw [List.length_map]; omega) ?_
  rw [Int.toNat_natCast]
  refine G.faddrE rfl ?_
  refine G.ckX [(0, .arr .yes 2 (l.map encN))] [(49, .eptr 0 j 1), (47, .v (.int .i64 (sadd (rnD l j).n (rnD l i).n)))] (by repeat (first | exact trivial | refine ⟨rfl, ?_⟩)) (by repeat (first | exact trivial | refine ⟨rfl, ?_⟩)) rfl rfl rfl ?_ ?_
  ·refine G.storeEM (⟨(rnD l j).p, sadd (rnD l j).n (rnD l i).n⟩ : Rn) rfl rfl rfl (gd17 (⟨0, 0⟩ : Rn) (by omega)) rfl rfl rfl rfl ?_
   exact WpOpsG.nil trivial
  refine G.storeEM (⟨(rnD l j).p, sadd (rnD l j).n (rnD l i).n⟩ : Rn) rfl rfl rfl (gd17 (⟨0, 0⟩ : Rn) (by omega)) rfl rfl rfl rfl ?_
  refine WpOpsG.nil ?_
  change WpOpsG _ _ _ ((0, _) :: _) _
  refine G.iaddrO rfl rfl rfl (by omega) (by rw [List.length_map, List.length_set]; omega) ?_
  rw [Int.toNat_natCast]
  refine G.faddrE rfl ?_
  refine G.storeEM (⟨(rnD l i).p, 0⟩ : Rn) rfl rfl rfl (set_ne10 (by omega) (by omega)) rfl rfl rfl rfl ?_
  refine WpOpsG.nil ?_
  change WpG _ _ _ _ _
  refine WpG.seq ?_
  refine WpG.reg ?_
  refine G.mv rfl ?_
  refine WpOpsG.freeze 0 rfl ?_
  change WpOpsG _ _ ((75, .fsl 2 ((setM l j i).map encN)) :: _) _ _
  refine G.call0 rfl rfl (rtidy_ok (setM l j i) (by rw [setM_len]; omega) (setM_ok hl (by omega) (by omega))) ?_
  rintro _ _ ⟨rfl, rfl⟩
  refine ⟨rfl, ?_⟩
  change WpOpsG _ _ ((76, .osl 0) :: _) ([(0, .arr .yes 2 ((tidyV (setM l j i)).map encN))] ++ _) _
  refine G.mv rfl ?_
  refine WpOpsG.nil ?_
  change WpG _ _ _ _ _
  refine WpG.ret ?_
  refine ⟨_, [(0, .arr .yes 2 ((tidyV (setM l j i)).map encN))], rfl, (hasP_le (by repeat (first | exact trivial | refine ⟨rfl, ?_⟩))), rfl, rfl, rfl, ?_⟩
  rw [do_T ⟨by omega, by omega⟩]; exact ⟨rfl, rfl⟩
theorem rdo_ok (l : List Rn) (mi mj : Int) (mr : Bool) (hn : l.length ≤ 2 ^ 40) (hl : ∀ r ∈ l, okN r) : WpCallG A 32 [.fsl 2 (l.map encN), .agg [.v (.int .i64 mi), .v (.int .i64 mj), .v (.bool mr)]] [] (fun v H => v = .osl 0 ∧ H = [(0, .arr .yes 2 ((doV l mi mj mr).map encN))]) := by
 cases mr with
 | false => exact rdoF_ok l mi mj hn hl
 | true => exact rdoT_ok l mi mj hn hl
end Go.AM.L10
