/- The machine over plain data: rules for each operation, calls. No condition. -/
import Derived.Test.YtkohanehgndmhaaGM15
set_option linter.all false
namespace Go.AM
section
variable {A : AProg} {L : GFr} {HG : GHp} {l : List AOper} {Q : GFr → GHp → Prop}
/-- no room left: full -/
theorem WpG.rm0 {c : AC} {Q : AE → GFr → GHp → Prop} (g : Nat) {w : Nat} {cs : List (List GV)} (hg : lkP HG g = some (.arr (.rm 0) w cs)) (h : WpG A c L ((g, .arr .yes w cs) :: HG) Q) : WpG A c L HG Q := fun Z om fr H hr hf => by
  have hb : BR Z om H g (.arr .yes w cs) := by
    cases hr.own g _ hg with
    | nil h1 _ => exact .nil h1 (.inl rfl)
    | arr h1 h2 h3 h4 h5 h6 h7 h8 => exact .arr h1 h2 h3 h4 h5 h6 (.inr (show _ = _ by have : _ = _ + 0 := h7; omega)) h8
  obtain ⟨r1, r2⟩ := hr.reblk hg hb
  refine (h Z _ fr H r1 hf).mono ?_
  rintro e fr' H' ⟨Z', om', L', HG', a, b, c, d⟩
  exact ⟨Z', om', L', HG', a, b, r2.trans c, d⟩
/-- a part of nothing -/
theorem G.slNil {d w : Nat} {x : AX} {xl xh : Option AX} (hx : lkGX L x = some (.v (.slice none 0 0))) (hh : bndG L 0 0 xh = some 0) (hl : bndG L 0 0 xl = some 0) (k : WpOpsG A l ((d, .v (.slice none 0 0)) :: L) HG Q) : WpOpsG A (⟨some d, .slice w x xl xh, none⟩ :: l) L HG Q :=
  WpOpsG.pure (d := some d) (fun Z om fr H hr hf => by
    obtain ⟨u, h1, h2⟩ := hf.x hx
    obtain rfl := h2.v_inv
    exact ⟨_, by simp only [evOp, h1, bndG_ok hf hh, bndG_ok hf hl], .pure (.v _)⟩) k
/-- what acts on one's own leaves values as they are -/
theorem G.ck1 {d : Option Nat} {o : AOp} {ts : List Nat} (hts : farL HG.D L ts = true) (hcl : cleanH HG.D HG = true) (h : WpOpsG A [⟨d, o, none⟩] L HG (fun L1 HG1 => WpOpsG A l L1 HG1 Q)) : WpOpsG A (⟨d, .ck ts o, none⟩ :: l) L HG Q := fun Z om fr H hr hf => by
  obtain ⟨n, fr', fr0, H', e, hle, Z', om', L', HG', a1, a2, a3, a4⟩ := h Z om fr H hr hf
  obtain ⟨n2, fr2, fr3, H2, e2, hle2, Z2, om2, L2, HG2, b1, b2, b3, b4⟩ := (a4 Z' om' fr0 H' a1 a2 : WpOps A l fr0 H' _).frame hle
  simp only [evOps] at e
  cases he : evOp (callA A n) o fr H with
  | none => rw [he] at e; cases e
  | some r =>
    obtain ⟨v, H1⟩ := r
    rw [he] at e
    simp only [Option.some.injEq, Prod.mk.injEq] at e
    obtain ⟨rfl, rfl⟩ := e
    have hr' := hr.less (HG := HG) (HLe.refl _) hcl
    have hun : Unch ts fr H H1 := fun t ht => by
      obtain ⟨u, g1, g2⟩ := farL_at hts ht
      obtain ⟨c, c1, c2⟩ := hf t u g1
      refine ⟨c, c1, fun b hb => ?_⟩
      obtain ⟨f1, f2⟩ := far_ok hr (HLe.refl HG) c2 g2 b hb
      refine (a3.old b f1 fun hk => f2 ?_).1
      obtain ⟨g, k1, k2⟩ := hk
      have hid : idOf (om.cut HG.D) g = idOf om g := idOf_cut' k1
      refine ⟨g, k1, ?_⟩
      rw [hid]; exact k2
    refine WpOps.cons rfl ⟨n, v, H1, ?_, ?_⟩
    · exact evOp_ck.2 ⟨he, hun⟩
    · exact ⟨n2, fr2, fr3, H2, e2, hle2, Z2, om2, L2, HG2, b1, b2, a3.trans b3, b4⟩
end
end Go.AM
