/- Contracts of the functions that the statement reaches. No condition. -/
import Derived.Test.YtnnlhkcpegpfcaaC18c
set_option linter.all false
set_option maxRecDepth 10000
namespace Go.AM.L18
open Go.AM.PL
set_option maxHeartbeats 1000000 in
theorem healthTells_ok (a b c d e : Int) (ks ts pr : List Int) (hk : ∀ k ∈ ks, i64 k) (hkl : ks.length ≤ 2 ^ 44) (htl : ts.length ≤ 2 ^ 50) (hpl : pr.length ≤ 2 ^ 50) : WpCallG A 4 [.v (.int .i64 a), .v (.int .i64 b), .v (.int .i64 c), .v (.int .i64 d), .v (.int .i64 e), .fsl 1 (ks.map encK), .fsl 1 (ts.map encK), .fsl 1 (pr.map encK)] [] (fun v H => v = .v (.bool true) ∧ H = []) := by
 refine WpCallG.intro g4 rfl rfl ?_
 unfold af4
 change WpG _ _ _ _ _
 refine WpG.seq ?_
 refine WpG.reg ?_
 refine G.mv rfl ?_
 refine WpOpsG.nil ?_
 change WpG _ _ _ _ _
 refine WpG.seq ?_
 refine WpG.reg ?_
 refine G.mv rfl ?_
 refine WpOpsG.nil ?_
 change WpG _ _ _ _ _
 refine WpG.seq ?_
 refine WpG.seq ?_
 refine WpG.reg ?_
 refine G.mv rfl ?_
 refine G.lenM rfl ?_
 refine G.mv rfl ?_
 refine WpOpsG.nil ?_
 change WpG _ _ _ _ _
 refine WpG.block ?_
 refine WpG.ownNil (g := 22) (k := 17) (w := 1) rfl rfl ?_
 refine WpG.loop (S := Nat × List Int) (fun s => [(0, .v (.int .i64 a)), (1, .v (.int .i64 b)), (2, .v (.int .i64 c)), (3, .v (.int .i64 d)), (4, .v (.int .i64 e)), (6, .fsl 1 (ts.map encK)), (7, .fsl 1 (pr.map encK)), (5, .fsl 1 (ks.map encK)), (17, .osl 22), (21, .fsl 1 (ks.map encK)), (22, .v (.int .i64 (ks.length : Int))), (23, .v (.int .i64 (s.1 : Int)))]) (fun s => [(22, .arr .yes 1 (s.2.map encK))]) (fun s => s.1 ≤ ks.length ∧ s.2.length = s.1 ∧ ∀ x ∈ s.2, i64 x) (fun s => ks.length - s.1) (fun s => ⟨rfl, rfl⟩) ?_ (0, []) ?_ (by repeat (first | exact trivial | refine ⟨rfl, ?_⟩)) (by repeat (first | exact trivial | refine ⟨rfl, ?_⟩)) rfl
 ·rintro ⟨i, L⟩ ⟨hI, hL, hLk⟩
  dsimp only at hI hL hLk ⊢
  refine WpG.seq ?_
  refine WpG.reg ?_
  refine G.bin rfl rfl rfl ?_
  refine WpOpsG.nil ?_
  change WpG _ _ _ _ _
  refine WpG.seq ?_
  refine WpG.cond rfl (fun hq1 => ?_) (fun hq1 => ?_)
  ·(try simp only [zN] at hq1)
   refine WpG.skip ?_
   change WpG _ _ _ _ _
   refine WpG.seq ?_
   refine WpG.block ?_
   refine WpG.seq ?_
   refine WpG.reg ?_
   refine G.iaddrN rfl rfl (List.getElem?_eq_getElem (by omega)) ?_
   refine G.load1F rfl rfl ?_
   refine G.mv rfl ?_
   refine WpOpsG.nil ?_
   change WpG _ _ _ _ _
   refine WpG.reg ?_
   refine G.mv rfl ?_
   refine G.mv rfl ?_
   refine G.remP rfl rfl (by decide) ?_
   have h5 := tm5 ks[i]
   refine G.addI rfl rfl (by omega) ?_
   refine G.remN rfl rfl (by omega) (by omega) ?_
   refine G.addI rfl rfl (by omega) ?_
   refine G.bsliceF rfl rfl rfl ?_
   change WpOpsG _ _ ((33, .fsl 1 (([1 + (ks[i].tmod 5 + 5) % 5] : List Int).map encK)) :: _) _ _
   refine G.app rfl rfl rfl rfl trivial (by rw [List.length_map]; show (L.length + 1) * 8 ≤ 2 ^ 47; omega) ?_
   rw [← List.map_append]
   refine G.mv rfl ?_
   refine WpOpsG.nil ?_
   change WpG _ _ _ _ _
   refine WpG.reg ?_
   refine G.addI rfl rfl (by omega) ?_
   refine G.mv rfl ?_
   refine WpOpsG.nil ?_
   refine ⟨(i + 1, L ++ [1 + (ks[i].tmod 5 + 5) % 5]), by show ks.length - (i + 1) < ks.length - i; omega, ⟨by dsimp only; omega, by dsimp only; rw [List.length_append]; show L.length + 1 = _; omega, fun x hx => ?_⟩, ⟨rfl, rfl, rfl, rfl, rfl, rfl, rfl, rfl, rfl, rfl, rfl, rfl, trivial⟩, ⟨rfl, trivial⟩, rfl⟩
   rcases List.mem_append.1 hx with hx | hx
   ·exact hLk x hx
   ·rw [List.mem_singleton.1 hx]; unfold i64; omega
  ·(try simp only [zN] at hq1)
   refine WpG.exit ?_
   change WpG _ _ _ _ _
   refine WpG.seq ?_
   refine WpG.freeze 22 rfl ?_
   refine WpG.reg ?_
   refine G.mv rfl ?_
   refine G.remP rfl rfl (by decide) ?_
   have ha := tm3 a
   refine G.addI rfl rfl (by omega) ?_
   refine G.remN rfl rfl (by omega) (by omega) ?_
   refine G.mv rfl ?_
   refine G.remP rfl rfl (by decide) ?_
   have hb := tm3 b
   refine G.addI rfl rfl (by omega) ?_
   refine G.remN rfl rfl (by omega) (by omega) ?_
   refine G.mv rfl ?_
   refine G.remP rfl rfl (by decide) ?_
   have hc := tm2 c
   refine G.addI rfl rfl (by omega) ?_
   refine G.remN rfl rfl (by omega) (by omega) ?_
   refine G.mv rfl ?_
   refine G.remP rfl rfl (by decide) ?_
   have hd := tm2 d
   refine G.addI rfl rfl (by omega) ?_
   refine G.remN rfl rfl (by omega) (by omega) ?_
   refine G.mv rfl ?_
   refine G.remP rfl rfl (by decide) ?_
   have he := tm2 e
   refine G.addI rfl rfl (by omega) ?_
   refine G.remN rfl rfl (by omega) (by omega) ?_
   refine G.build rfl ?_
   refine G.box (g := 30) rfl rfl rfl ?_
   refine G.storeB rfl rfl rfl rfl rfl rfl ?_
   refine WpOpsG.nil ?_
   change WpG _ _ _ _ _
   refine WpG.seq ?_
   refine WpG.reg ?_
   refine G.loadNB rfl rfl rfl ?_
   refine G.mv rfl ?_
   refine G.mv rfl ?_
   refine G.mv rfl ?_
   refine G.call0 rfl rfl (play18_ok ((a.tmod 3 + 3) % 3) ((b.tmod 3 + 3) % 3) ((c.tmod 2 + 2) % 2) ((d.tmod 2 + 2) % 2) ((e.tmod 2 + 2) % 2) L ts pr hLk (by omega) htl hpl) ?_
   rintro _ _ ⟨rfl, rfl⟩
   refine ⟨rfl, ?_⟩
   change WpOpsG _ _ ((61, _) :: _) _ _
   refine G.mv rfl ?_
   refine WpOpsG.known 62 true rfl rfl ?_
   refine G.build rfl ?_
   refine G.mv rfl ?_
   refine G.mv rfl ?_
   refine G.mv rfl ?_
   refine G.call0 rfl rfl (play18_ok 0 1 0 1 0 L ts pr hLk (by omega) htl hpl) ?_
   rintro _ _ ⟨rfl, rfl⟩
   refine ⟨rfl, ?_⟩
   change WpOpsG _ _ ((67, _) :: _) _ _
   refine G.pickT rfl rfl ?_
   refine G.mv rfl ?_
   refine WpOpsG.known 69 true rfl rfl ?_
   refine G.mv rfl ?_
   refine G.mv rfl ?_
   refine G.mv rfl ?_
   refine G.mv rfl ?_
   refine G.mv rfl ?_
   refine G.build rfl ?_
   refine G.mv rfl ?_
   refine G.mv rfl ?_
   refine G.mv rfl ?_
   refine G.call0 rfl rfl (play18_ok a b c d e ks ts pr hk (by omega) htl hpl) ?_
   rintro _ _ ⟨rfl, rfl⟩
   refine ⟨rfl, ?_⟩
   change WpOpsG _ _ ((79, _) :: _) _ _
   refine G.pickT rfl rfl ?_
   refine G.mv rfl ?_
   refine WpOpsG.known 81 true rfl rfl ?_
   refine G.loadNB rfl rfl rfl ?_
   refine G.mv rfl ?_
   refine G.mv rfl ?_
   refine G.mv rfl ?_
   refine G.call0 rfl rfl (play18_ok ((a.tmod 3 + 3) % 3) ((b.tmod 3 + 3) % 3) ((c.tmod 2 + 2) % 2) ((d.tmod 2 + 2) % 2) ((e.tmod 2 + 2) % 2) ks ts pr hk (by omega) htl hpl) ?_
   rintro _ _ ⟨rfl, rfl⟩
   refine ⟨rfl, ?_⟩
   change WpOpsG _ _ ((86, _) :: _) _ _
   refine G.pickT rfl rfl ?_
   refine G.mv rfl ?_
   refine WpOpsG.known 88 true rfl rfl ?_
   refine G.call0 rfl rfl (known18_ok) ?_
   rintro _ _ ⟨rfl, rfl⟩
   refine ⟨rfl, ?_⟩
   change WpOpsG _ _ ((89, _) :: _) _ _
   refine G.pickT rfl rfl ?_
   refine G.mv rfl ?_
   refine WpOpsG.nil ?_
   change WpG _ _ _ _ _
   refine WpG.ret ?_
   refine ⟨_, [], rfl, (hasP_le (by repeat (first | exact trivial | refine ⟨rfl, ?_⟩))), rfl, rfl, rfl, ?_⟩
   exact ⟨rfl, rfl⟩
 ·exact ⟨Nat.zero_le _, rfl, fun x hx => by cases hx⟩
end Go.AM.L18
