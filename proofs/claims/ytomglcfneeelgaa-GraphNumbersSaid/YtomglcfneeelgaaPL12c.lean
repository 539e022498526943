/- Contracts of the functions that the statement reaches. No condition. -/
import Derived.Test.YtomglcfneeelgaaPL12b
set_option linter.all false
set_option maxRecDepth 10000
namespace Go.AM.PL
def CfgOk (X : List Pc) (C : List Ch) (tabs : List (List Nd)) : Prop := ((1 ≤ X.length ∧ X.length ≤ 4) ∧ okXs X) ∧ (C.length ≤ 20 ∧ okCs (X.length : Int) C) ∧ (1 ≤ tabs.length ∧ tabs.length ≤ 3) ∧ ∀ t ∈ tabs, t.length ≤ 2 ^ 20
def setH (c : Pc) (k : Nat) (z : Int) : Pc := match k with
  | 0 => { c with p := { c.p with h0 := z } }
  | 1 => { c with p := { c.p with h1 := z } }
  | 2 => { c with p := { c.p with h2 := z } }
  | 3 => { c with p := { c.p with h3 := z } }
  | _ => { c with p := { c.p with h4 := z } }
theorem putH {c : Pc} {k : Nat} {z : Int} (h : k < 5) : putG (encX c) (0 + 6 + k * 1) [.v (.int .i64 z)] = some (encX (setH c k z)) := by
  have : k = 0 ∨ k = 1 ∨ k = 2 ∨ k = 3 ∨ k = 4 := by omega
  rcases this with rfl | rfl | rfl | rfl | rfl <;> rfl
def okX1 (c : Pc) : Prop := c.p.name.size ≤ 2 ^ 40 ∧ c.pr.length ≤ 2 ^ 40 ∧ i64 c.p.per
theorem okX1_set {c : Pc} {k : Nat} {z : Int} (h : okX1 c) : okX1 (setH c k z) := by
  unfold setH; split <;> exact h
theorem okXs_app {X : List Pc} {c : Pc} (h : okXs X) (k : okX1 c) : okXs (X ++ [c]) := fun y hy => by
  rcases List.mem_append.1 hy with h1 | h1
  · exact h y h1
  · rw [List.mem_singleton.1 h1]; exact k
theorem okCs_app {n : Int} {C : List Ch} {x : Ch} (h : okCs n C) (k : okCh n x) : okCs n (C ++ [x]) := fun y hy => by
  rcases List.mem_append.1 hy with h1 | h1
  · exact h y h1
  · rw [List.mem_singleton.1 h1]; exact k
theorem tabs_app {tabs : List (List Nd)} {tb : List Nd} (h : ∀ x ∈ tabs, x.length ≤ 2 ^ 20) (k : tb.length ≤ 2 ^ 20) : ∀ x ∈ tabs ++ [tb], x.length ≤ 2 ^ 20 := fun y hy => by
  rcases List.mem_append.1 hy with h1 | h1
  · exact h y h1
  · rw [List.mem_singleton.1 h1]; exact k
theorem addStr {a b : ByteArray} (h : a.size + b.size ≤ 2 ^ 62) : binV .add (.string a) (.string b) = some (.string (a ++ b)) := by
  show (if ((a.size + b.size : Nat) : Int) > IntKind.i64.max then none else _) = _
  rw [if_neg (by rw [show IntKind.i64.max = 9223372036854775807 by decide]; omega)]
theorem addStr1 {n : Int} : binV .add (.string ⟨#[112]⟩) (.string (Utf8.encode n)) = some (.string (⟨#[112]⟩ ++ Utf8.encode n)) := addStr (by have := enc_size n; have : (⟨#[112]⟩ : ByteArray).size = 1 := rfl; omega)
theorem name_size {s : ByteArray} {n : Int} (h : s.size ≤ 100) : (s ++ Utf8.encode n).size ≤ 2 ^ 40 := by
  have := enc_size n
  rw [ByteArray.size_append]; omega
theorem ch_ok {n u v : Int} (hn : 1 < n) (h0 : 0 ≤ u) (h1 : u < n) {q : Bool} {c m l : Int} : okCh n ⟨u, v % n, q, c, m, l⟩ := ⟨⟨h0, h1⟩, Int.emod_nonneg _ (by omega), Int.emod_lt_of_pos _ (by omega)⟩
end Go.AM.PL
