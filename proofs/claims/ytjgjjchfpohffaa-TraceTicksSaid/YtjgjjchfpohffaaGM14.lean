/- The machine over plain data: rules for each operation, calls. No condition. -/
import Derived.Test.YtjgjjchfpohffaaGM13
set_option linter.all false
namespace Go.AM
section
variable {A : AProg} {L : GFr} {HG : GHp} {l : List AOper} {Q : GFr → GHp → Prop}
/-! parts of a value's row -/
theorem G.slTake {d w n : Nat} {x xh : AX} {α : Type} {enc : α → List GV} {xs : List α} {k' : IntKind} (hx : lkGX L x = some (.fsl w (xs.map enc))) (hh : lkGX L xh = some (.v (.int k' (n : Int)))) (hn : n ≤ xs.length) (k : WpOpsG A l ((d, .fsl w ((xs.take n).map enc)) :: L) HG Q) : WpOpsG A (⟨some d, .slice w x none (some xh), none⟩ :: l) L HG Q :=
  G.slF (lo := 0) (hi := n) hx (by
    have := bndG_some (L := L) (d := (xs.map enc).length) (hi := (xs.map enc).length) hh ⟨by omega, by rw [List.length_map]; omega⟩
    simpa using this) rfl (by rw [List.drop_zero, ← List.map_take]; exact k)
theorem G.slDrop {d w n : Nat} {x xl : AX} {α : Type} {enc : α → List GV} {xs : List α} {k' : IntKind} (hx : lkGX L x = some (.fsl w (xs.map enc))) (hl : lkGX L xl = some (.v (.int k' (n : Int)))) (hn : n ≤ xs.length) (k : WpOpsG A l ((d, .fsl w ((xs.drop n).map enc)) :: L) HG Q) : WpOpsG A (⟨some d, .slice w x (some xl) none, none⟩ :: l) L HG Q :=
  G.slF (lo := n) (hi := xs.length) hx (by show some (xs.map enc).length = _; rw [List.length_map]) (by
    have := bndG_some (L := L) (d := 0) (hi := xs.length) hl ⟨by omega, by omega⟩
    simpa using this) (by rw [← List.map_take, ← List.map_drop, List.take_length]; exact k)
theorem G.slMid {d w n m : Nat} {x xl xh : AX} {α : Type} {enc : α → List GV} {xs : List α} {k' k'' : IntKind} (hx : lkGX L x = some (.fsl w (xs.map enc))) (hl : lkGX L xl = some (.v (.int k' (n : Int)))) (hh : lkGX L xh = some (.v (.int k'' (m : Int)))) (hn : n ≤ m) (hm : m ≤ xs.length) (k : WpOpsG A l ((d, .fsl w (((xs.take m).drop n).map enc)) :: L) HG Q) : WpOpsG A (⟨some d, .slice w x (some xl) (some xh), none⟩ :: l) L HG Q :=
  G.slF (lo := n) (hi := m) hx (by
    have := bndG_some (L := L) (d := (xs.map enc).length) (hi := (xs.map enc).length) hh ⟨by omega, by rw [List.length_map]; omega⟩
    simpa using this) (by
    have := bndG_some (L := L) (d := 0) (hi := m) hl ⟨by omega, by omega⟩
    simpa using this) (by rw [← List.map_take, ← List.map_drop]; exact k)
end
end Go.AM
