/- Contracts of the functions that the statement reaches. No condition. -/
import Derived.Test.YtnnlhkcpegpfcaaC18c
set_option linter.all false
set_option maxRecDepth 10000
namespace Go.AM.L18
open Go.AM.PL
set_option maxHeartbeats 1000000 in
theorem healthNumbers_ok  : WpCallG A 3 [] [] (fun v H => v = .v (.bool true) ∧ H = []) := by
 refine WpCallG.intro g3 rfl rfl ?_
 unfold af3
 change WpG _ _ _ _ _
 refine WpG.seq ?_
 refine WpG.reg ?_
 refine G.mv rfl ?_
 refine WpOpsG.nil ?_
 change WpG _ _ _ _ _
 refine WpG.seq ?_
 refine WpG.seq ?_
 refine WpG.reg ?_
 refine G.mv rfl ?_
 refine WpOpsG.nil ?_
 change WpG _ _ _ _ _
 refine WpG.block ?_
 refine WpG.loop (S := Nat) (fun k => [(1, .v (.int .i64 (k : Int)))]) (fun _ => []) (fun k => k ≤ 243) (fun k => 243 - k) (fun s => ⟨rfl, rfl⟩) ?_ 0 ?_ (by repeat (first | exact trivial | refine ⟨rfl, ?_⟩)) (by repeat (first | exact trivial | refine ⟨rfl, ?_⟩)) rfl
 ·intro k hk
  refine WpG.seq ?_
  refine WpG.seq ?_
  refine WpG.reg ?_
  refine G.mv rfl ?_
  refine G.bin rfl rfl rfl ?_
  refine WpOpsG.nil ?_
  change WpG _ _ _ _ _
  refine WpG.cond rfl (fun hq1 => ?_) (fun hq1 => ?_)
  ·(try simp only [zN] at hq1)
   refine WpG.skip ?_
   change WpG _ _ _ _ _
   refine WpG.seq ?_
   refine WpG.block ?_
   refine WpG.seq ?_
   refine WpG.reg ?_
   refine G.mv rfl ?_
   refine G.remN rfl rfl (by omega) (by omega) ?_
   refine G.mv rfl ?_
   refine G.quoN rfl rfl (by omega) (by omega) ?_
   refine G.remN rfl rfl (by omega) (by omega) ?_
   refine G.mv rfl ?_
   refine G.quoN rfl rfl (by omega) (by omega) ?_
   refine G.remN rfl rfl (by omega) (by omega) ?_
   refine G.mv rfl ?_
   refine G.quoN rfl rfl (by omega) (by omega) ?_
   refine G.remN rfl rfl (by omega) (by omega) ?_
   refine G.mv rfl ?_
   refine G.quoN rfl rfl (by omega) (by omega) ?_
   refine G.build rfl ?_
   refine G.box (g := 30) rfl rfl rfl ?_
   refine G.storeB rfl rfl rfl rfl rfl rfl ?_
   refine WpOpsG.nil ?_
   change WpG _ _ _ _ _
   refine WpG.seq ?_
   refine WpG.reg ?_
   refine G.loadNB rfl rfl rfl ?_
   refine G.mv rfl ?_
   refine G.remN rfl rfl (by omega) (by omega) ?_
   refine G.addI rfl rfl (by omega) ?_
   refine G.mv rfl ?_
   refine G.quoN rfl rfl (by omega) (by omega) ?_
   refine G.remN rfl rfl (by omega) (by omega) ?_
   refine G.addI rfl rfl (by omega) ?_
   refine G.mv rfl ?_
   refine G.quoN rfl rfl (by omega) (by omega) ?_
   refine G.remN rfl rfl (by omega) (by omega) ?_
   refine G.addI rfl rfl (by omega) ?_
   refine G.bsliceF rfl rfl rfl ?_
   change WpOpsG _ _ ((33, .fsl 1 (([1 + (k : Int) % 5, 1 + (k : Int) / 5 % 5, 1 + (k : Int) / 7 % 5, 6, 1] : List Int).map encK)) :: _) _ _
   refine G.bsliceF rfl rfl rfl ?_
   change WpOpsG _ _ ((34, .fsl 1 (([1, 2, 3, 4, 5] : List Int).map encK)) :: _) _ _
   refine G.bsliceF rfl rfl rfl ?_
   change WpOpsG _ _ ((35, .fsl 1 (([0, 1, 2, -1, 0] : List Int).map encK)) :: _) _ _
   refine G.call0 rfl rfl (play18_ok ((k : Int) % 3) ((k : Int) / 3 % 3) ((k : Int) / 9 % 3) ((k : Int) / 27 % 3) ((k : Int) / 81) [1 + (k : Int) % 5, 1 + (k : Int) / 5 % 5, 1 + (k : Int) / 7 % 5, 6, 1] [1, 2, 3, 4, 5] [0, 1, 2, -1, 0] (by intro x hx; simp only [List.mem_cons, List.not_mem_nil, or_false] at hx; unfold i64; omega) (by simp only [List.length_cons, List.length_nil]; decide) (by decide) (by decide)) ?_
   rintro _ _ ⟨rfl, rfl⟩
   refine ⟨rfl, ?_⟩
   change WpOpsG _ _ ((36, _) :: _) _ _
   refine G.un rfl rfl ?_
   refine WpOpsG.nil ?_
   change WpG _ _ _ _ _
   refine WpG.cond rfl (fun hq2 => absurd hq2 (by decide)) (fun hq2 => ?_)
   refine WpG.skip ?_
   change WpG _ _ _ _ _
   refine WpG.reg ?_
   refine G.mv rfl ?_
   refine G.addI rfl rfl (by omega) ?_
   refine G.mv rfl ?_
   refine WpOpsG.nil ?_
   exact ⟨k + 1, by omega, by omega, ⟨rfl, trivial⟩, trivial, rfl⟩
  ·(try simp only [zN] at hq1)
   refine WpG.exit ?_
   change WpG _ _ _ _ _
   refine WpG.seq ?_
   refine WpG.reg ?_
   refine G.build rfl ?_
   refine G.bsliceF rfl rfl rfl ?_
   change WpOpsG _ _ ((39, .fsl 1 (([4, 5, 4, 1] : List Int).map encK)) :: _) _ _
   refine G.mkslice (g := 31) rfl rfl (by omega) (by omega) (by omega) (by omega) rfl rfl rfl rfl ?_
   change WpOpsG _ _ _ ((31, .arr .yes 1 ((List.replicate 4 (0 : Int)).map encK)) :: _) _
   refine WpOpsG.freeze 31 rfl ?_
   refine G.mkslice (g := 32) rfl rfl (by omega) (by omega) (by omega) (by omega) rfl rfl rfl rfl ?_
   change WpOpsG _ _ _ ((32, .arr .yes 1 ((List.replicate 4 (0 : Int)).map encK)) :: _) _
   refine WpOpsG.freeze 32 rfl ?_
   refine G.call0 rfl rfl (play18_ok (-1) 3 4611686018427387904 0 1 [4, 5, 4, 1] (List.replicate 4 0) (List.replicate 4 0) (by intro x hx; simp only [List.mem_cons, List.not_mem_nil, or_false] at hx; unfold i64; omega) (by simp only [List.length_cons, List.length_nil]; decide) (by decide) (by decide)) ?_
   rintro _ _ ⟨rfl, rfl⟩
   refine ⟨rfl, ?_⟩
   change WpOpsG _ _ ((42, _) :: _) _ _
   refine G.mv rfl ?_
   refine WpOpsG.known 43 true rfl rfl ?_
   refine G.build rfl ?_
   refine G.bsliceF rfl rfl rfl ?_
   change WpOpsG _ _ ((45, .fsl 1 (([1, 2, 1] : List Int).map encK)) :: _) _ _
   refine G.mkslice (g := 33) rfl rfl (by omega) (by omega) (by omega) (by omega) rfl rfl rfl rfl ?_
   change WpOpsG _ _ _ ((33, .arr .yes 1 ((List.replicate 3 (0 : Int)).map encK)) :: _) _
   refine WpOpsG.freeze 33 rfl ?_
   refine G.mkslice (g := 34) rfl rfl (by omega) (by omega) (by omega) (by omega) rfl rfl rfl rfl ?_
   change WpOpsG _ _ _ ((34, .arr .yes 1 ((List.replicate 3 (0 : Int)).map encK)) :: _) _
   refine WpOpsG.freeze 34 rfl ?_
   refine G.call0 rfl rfl (play18_ok 0 7 0 0 0 [1, 2, 1] (List.replicate 3 0) (List.replicate 3 0) (by intro x hx; simp only [List.mem_cons, List.not_mem_nil, or_false] at hx; unfold i64; omega) (by simp only [List.length_cons, List.length_nil]; decide) (by decide) (by decide)) ?_
   rintro _ _ ⟨rfl, rfl⟩
   refine ⟨rfl, ?_⟩
   change WpOpsG _ _ ((48, _) :: _) _ _
   refine G.pickT rfl rfl ?_
   refine G.mv rfl ?_
   refine WpOpsG.known 50 true rfl rfl ?_
   refine G.build rfl ?_
   refine G.bsliceF rfl rfl rfl ?_
   change WpOpsG _ _ ((52, .fsl 1 (([0] : List Int).map encK)) :: _) _ _
   refine G.mkslice (g := 35) rfl rfl (by omega) (by omega) (by omega) (by omega) rfl rfl rfl rfl ?_
   change WpOpsG _ _ _ ((35, .arr .yes 1 ((List.replicate 1 (0 : Int)).map encK)) :: _) _
   refine WpOpsG.freeze 35 rfl ?_
   refine G.mkslice (g := 36) rfl rfl (by omega) (by omega) (by omega) (by omega) rfl rfl rfl rfl ?_
   change WpOpsG _ _ _ ((36, .arr .yes 1 ((List.replicate 1 (0 : Int)).map encK)) :: _) _
   refine WpOpsG.freeze 36 rfl ?_
   refine G.call0 rfl rfl (play18_ok 0 0 0 0 0 [0] (List.replicate 1 0) (List.replicate 1 0) (by intro x hx; simp only [List.mem_cons, List.not_mem_nil, or_false] at hx; unfold i64; omega) (by simp only [List.length_cons, List.length_nil]; decide) (by decide) (by decide)) ?_
   rintro _ _ ⟨rfl, rfl⟩
   refine ⟨rfl, ?_⟩
   change WpOpsG _ _ ((55, _) :: _) _ _
   refine G.pickT rfl rfl ?_
   refine G.mv rfl ?_
   refine WpOpsG.known 57 true rfl rfl ?_
   refine G.call0 rfl rfl (known18_ok) ?_
   rintro _ _ ⟨rfl, rfl⟩
   refine ⟨rfl, ?_⟩
   change WpOpsG _ _ ((58, _) :: _) _ _
   refine G.pickT rfl rfl ?_
   refine G.mv rfl ?_
   refine WpOpsG.nil ?_
   change WpG _ _ _ _ _
   refine WpG.ret ?_
   refine ⟨_, [], rfl, (hasP_le (by repeat (first | exact trivial | refine ⟨rfl, ?_⟩))), rfl, rfl, rfl, ?_⟩
   exact ⟨rfl, rfl⟩
 ·exact Nat.zero_le _
end Go.AM.L18
