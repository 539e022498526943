/- Contracts of the functions that the statement reaches. No condition. -/
import Derived.Test.YtomglcfneeelgaaPL12c
set_option linter.all false
set_option maxRecDepth 10000
namespace Go.AM.PL
def CfgP (P : List Pt) (C : List Ch) (tabs : List (List Nd)) : Prop := ((1 ≤ P.length ∧ P.length ≤ 4) ∧ ∀ p ∈ P, i64 p.per) ∧ (C.length ≤ 20 ∧ okCs (P.length : Int) C) ∧ (1 ≤ tabs.length ∧ tabs.length ≤ 3) ∧ ∀ t ∈ tabs, t.length ≤ 2 ^ 20
theorem cfgOut {A : AProg} {f : Nat} {vs : List GV} {P0 : GHp} {t : List Int} (hc : WpCallG A f vs P0 (fun v H => ∃ (X : List Pc) (C : List Ch) (tabs : List (List Nd)) (b : Nat), CfgOk X C tabs ∧ b ≤ t.length ∧ v = .agg [.fsl 11 (X.map encX), .fsl 6 (C.map encC), .fsl 1 (tabs.map encTb)] ∧ H = [(0, tbox t b)])) :
    WpCallG A f vs P0 (fun v H => ∃ (P : List Pt) (C : List Ch) (tabs : List (List Nd)) (b : Nat), CfgP P C tabs ∧ b ≤ t.length ∧ v = .agg [.fsl 11 (P.map encP), .fsl 6 (C.map encC), .fsl 1 (tabs.map encTb)] ∧ H = [(0, tbox t b)]) := fun Z om as H hr hv => by
  refine (hc Z om as H hr hv).mono ?_
  rintro a H' ⟨Z', om', v, HG', a1, a2, a3, a4, X, C, tabs, b, hok, hb, rfl, rfl⟩
  refine ⟨Z', om', _, _, a1, ?_, a3, a4, parts X, C, tabs, b, ⟨⟨?_, ?_⟩, ?_, hok.2.2⟩, hb, rfl, rfl⟩
  · obtain ⟨bs, rfl, h1, h2⟩ := a2.agg_inv
    refine .agg h1 fun i x y e f => ?_
    match i, e with
    | 0, e => cases e; rw [← encX_any]; exact VR.fany (h2 0 _ y rfl f)
    | 1, e => cases e; exact h2 1 _ y rfl f
    | 2, e => cases e; exact h2 2 _ y rfl f
  · rw [parts_len]; exact hok.1.1
  · intro p hp
    obtain ⟨c, hc, rfl⟩ := List.mem_map.1 hp
    exact (hok.1.2 c hc).2.2
  · rw [parts_len]; exact hok.2.1
section
variable {P : List Pt} {C : List Ch} {n : Nat} {f g : Nat → Nat → Bool} {x : Ch}
end
/-! with a channel more -/
section
variable {P : List Pt} {C : List Ch} {ch : Ch}
end
section
variable {F : Nat → Bool} {now : List Nat} {j : Nat}
end
end Go.AM.PL
namespace Go.AM.PL
theorem reV_len (n : Nat) (f : Nat → Nat → Bool) (p : Int) : (reV n f p).length ≤ n := by
  unfold reV
  split
  · exact re_len
  · exact Nat.zero_le _
end Go.AM.PL
namespace Go.AM.PL
end Go.AM.PL
namespace Go.AM.PL
end Go.AM.PL
