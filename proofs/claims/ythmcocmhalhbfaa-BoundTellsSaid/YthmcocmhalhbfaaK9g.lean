/- Contracts of the functions that the statement reaches. No condition. -/
import Derived.Test.YthmcocmhalhbfaaK9f
import Derived.Test.YthmcocmhalhbfaaK9c
import Derived.Test.YthmcocmhalhbfaaPLp
set_option linter.all false
set_option maxRecDepth 10000
namespace Go.AM.L9
open Go.AM.PL
theorem frame_ok (t : List Int) (a : Nat) (parts : Int) (ht : t.length ≤ 2 ^ 50) (hi : ∀ x ∈ t, i64 x) (ha : a ≤ t.length) (hp : 1 ≤ parts ∧ parts ≤ 6) : WpCallG A 30 [.bptr 0 0, .v (.int .i64 parts)] [(0, tbox t a)] (fun v H => ∃ (tb : List Nd) (b : Nat), tb.length ≤ 2 ^ 20 ∧ b ≤ t.length ∧ v = .fsl 3 (tb.map encD) ∧ H = [(0, tbox t b)]) := by
 refine WpCallG.intro g30 rfl rfl ?_
 unfold af30
 change WpG _ _ _ _ _
 refine WpG.seq ?_
 refine WpG.reg ?_
 refine G.mv rfl ?_
 refine WpOpsG.nil ?_
 change WpG _ _ _ _ _
 refine WpG.seq ?_
 refine WpG.reg ?_
 refine G.mv rfl ?_
 refine G.mv rfl ?_
 refine G.call (P := [(0, tbox t a)]) rfl (by repeat (first | exact trivial | refine ⟨rfl, ?_⟩)) rfl rfl ((show WpCallG A 37 [.bptr 0 0, .v (.int .i64 parts), .v (.int .i64 4)] [(0, tbox t a)] _ from table_ok t a 4 parts ht hi ha hp (by omega)).ren [(2, 20)]) ?_
 rintro _ _ ⟨_, _, ⟨x, ks, z, htb, hz, rfl, rfl⟩, rfl, rfl⟩
 change newOk _ _ [(20, _), (0, tbox t z)] = true ∧ _
 refine ⟨rfl, ?_⟩
 change WpOpsG _ _ ((10, .osl 20) :: _) ([(20, .arr .yes 3 ((Fo.enc (Fo.one x ks)).map encD)), (0, tbox t z)] ++ _) _
 have hlen := Fo.tb_len htb (by omega)
 obtain ⟨tb, hte⟩ : ∃ tb, Fo.enc (Fo.one x ks) = tb := ⟨_, rfl⟩
 rw [hte] at hlen ⊢
 refine WpOpsG.freeze 20 rfl ?_
 change WpOpsG _ _ ((10, .fsl 3 (tb.map encD)) :: _) _ _
 refine G.mv rfl ?_
 refine WpOpsG.nil ?_
 change WpG _ _ _ _ _
 refine WpG.seq ?_
 refine WpG.seq ?_
 refine WpG.reg ?_
 refine G.mv rfl ?_
 refine G.call0 rfl rfl (of_ok tb (by omega)) ?_
 rintro _ _ ⟨r, e, rfl, rfl, hg⟩
 refine ⟨rfl, ?_⟩
 change WpOpsG _ _ ((13, _) :: _) _ _
 have hg2 := hg.2
 refine G.mv rfl ?_
 refine G.ext rfl rfl ?_
 refine G.ext rfl rfl ?_
 refine G.mv rfl ?_
 refine G.mv rfl ?_
 refine WpOpsG.nil ?_
 change WpG _ _ _ _ _
 refine WpG.seq ?_
 refine WpG.reg ?_
 refine G.mv rfl ?_
 refine G.bin rfl rfl rfl ?_
 refine G.mv rfl ?_
 apply G.orS rfl rfl rfl rfl rfl rfl
 case hB =>
  intro hs1
  (try simp only [zN] at hs1)
  refine G.mv rfl ?_
  refine G.lenM rfl ?_
  refine G.bin rfl rfl rfl ?_
  refine WpOpsG.nil ?_
  exact ⟨rfl, (by repeat (first | exact LLe.refl _ | refine LLe.cons rfl ?_)), (by repeat (first | exact HLe.refl _ | refine HLe.cons rfl ?_)), rfl⟩
 refine G.mv rfl ?_
 apply G.orS rfl rfl rfl rfl rfl rfl
 case hB =>
  intro hs2
  (try simp only [zN] at hs2)
  refine G.mv rfl ?_
  refine G.call0 rfl rfl (total_ok r (by omega) (fun x hx => (hg.1 x hx).1)) ?_
  rintro _ _ ⟨rfl, rfl⟩
  refine ⟨rfl, ?_⟩
  change WpOpsG _ _ ((25, _) :: _) _ _
  refine G.bin rfl rfl rfl ?_
  refine WpOpsG.nil ?_
  exact ⟨rfl, (by repeat (first | exact LLe.refl _ | refine LLe.cons rfl ?_)), (by repeat (first | exact HLe.refl _ | refine HLe.cons rfl ?_)), rfl⟩
 refine WpOpsG.nil ?_
 change WpG _ _ _ _ _
 refine WpG.cond rfl (fun hq3 => ?_) (fun hq3 => ?_)
 ·(try simp only [zN] at hq3)
  refine WpG.seq ?_
  refine WpG.reg ?_
  refine G.build rfl ?_
  refine G.mv rfl ?_
  refine G.mv rfl ?_
  refine G.call (P := [(0, tbox t z)]) rfl (by repeat (first | exact trivial | refine ⟨rfl, ?_⟩)) rfl rfl (next_ok t z parts ht hi hz (by omega)) ?_
  rintro _ _ ⟨rfl, rfl⟩
  refine ⟨rfl, ?_⟩
  change WpOpsG _ _ ((31, .v (.int .i64 (nx t z parts))) :: _) ((0, tbox t (na t z parts)) :: _) _
  have rw := nx_rng t z parts
  obtain ⟨b, eb, hb⟩ : ∃ o, na t z parts = o ∧ o ≤ t.length := ⟨_, rfl, na_le hz⟩
  rw [eb]
  obtain ⟨w, fw⟩ : ∃ o, nx t z parts = o := ⟨_, rfl⟩
  rw [fw] at rw ⊢
  refine G.build rfl ?_
  refine G.build rfl ?_
  refine G.bsliceF rfl rfl rfl ?_
  refine G.mv rfl ?_
  refine WpOpsG.nil ?_
  change WpG _ _ _ _ _
  refine WpG.ret ?_
  refine ⟨_, [(0, tbox t b)], rfl, (hasP_le (by repeat (first | exact trivial | refine ⟨rfl, ?_⟩))), rfl, rfl, rfl, ?_⟩
  exact ⟨[⟨3, 0, 2⟩, ⟨1, w, 3⟩, ⟨2, 0, 2⟩], b, (by show 3 ≤ _; decide), hb, rfl, rfl⟩
 ·(try simp only [zN] at hq3)
  refine WpG.skip ?_
  change WpG _ _ _ _ _
  refine WpG.seq ?_
  refine WpG.reg ?_
  refine G.mv rfl ?_
  refine G.mv rfl ?_
  refine WpOpsG.nil ?_
  change WpG _ _ _ _ _
  refine WpG.ret ?_
  refine ⟨_, [(0, tbox t z)], rfl, (hasP_le (by repeat (first | exact trivial | refine ⟨rfl, ?_⟩))), rfl, rfl, rfl, ?_⟩
  exact ⟨tb, z, by omega, hz, rfl, rfl⟩
end Go.AM.L9
