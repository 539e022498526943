/- What a reading of small bulk weighs. No condition. -/
import Derived.Test.YtkohanehgndmhaaRows
import Derived.Test.YtkohanehgndmhaaRW3
import Derived.WalkKit
import Derived.ProofKit
import Derived.OpenShut
import Derived.ShutString
import Derived.ChangeOld
import Derived.Below
import Derived.SizedLaws
import Derived.Carry
namespace Go.Proofs.Ytkohanehgndmhaa.lnk
open Go.ChangeShapes Go.WideShapes Go.ChangeAt Go.RowKit Go.AM
set_option linter.all false
theorem bulk_pos {H : Type} (d : DataW H) : 1 ≤ Rows.uptoBulk d := by
  cases d with
  | lit l => cases l <;> simp [Rows.uptoBulk]
  | _ => simp [Rows.uptoBulk]
theorem bulk_len {H : Type} : ∀ (l : List (DataW H)), l.length ≤ Rows.uptoBulkAll l
  | [] => Nat.zero_le _
  | d :: l => by have := bulk_len l; have := bulk_pos d; simp only [Rows.uptoBulkAll, List.length_cons]; omega
theorem bulk_ent {H : Type} : ∀ (l : List (Lit × DataW H)), l.length ≤ Rows.uptoBulkEntries l
  | [] => Nat.zero_le _
  | x :: l => by
    have := bulk_ent l
    have : 1 ≤ Rows.uptoBulkEntry x := by
      obtain ⟨a, d⟩ := x
      cases a <;> simp [Rows.uptoBulkEntry]
    simp only [Rows.uptoBulkEntries, List.length_cons]; omega
def parts1 (P : Program) (m : Nat) (t : TypeId) : Prop := match P.underlying t with
  | some (.slice e) => e < m
  | some (.pointer e) => e < m
  | some (.array _ e) => e < m
  | some (.struct fs) => ∀ t ∈ fs.toList.map (·.type), t < m
  | some (.map k e) => k < m ∧ e < m
  | _ => True
instance (P : Program) (m : Nat) (t : TypeId) : Decidable (parts1 P m t) := by
  unfold parts1; split <;> infer_instance
def closedU (P : Program) (m C : Nat) : Bool := (List.range m).all fun t => decide (P.bytesOf t ≤ C) && decide (parts1 P m t)
theorem closedU_b {P : Program} {m C : Nat} (h : closedU P m C = true) {t : TypeId} (ht : t < m) : P.bytesOf t ≤ C := by
  have := List.all_eq_true.1 h t (List.mem_range.2 ht)
  simp only [Bool.and_eq_true, decide_eq_true_eq] at this
  exact this.1
theorem closedU_at {P : Program} {m C : Nat} (h : closedU P m C = true) {t : TypeId} (ht : t < m) {d : TypeDesc} (hd : P.underlying t = some d) : P.bytesOf t ≤ C ∧ (match d with
  | .slice e => e < m
  | .pointer e => e < m
  | .array _ e => e < m
  | .struct fs => ∀ t ∈ fs.toList.map (·.type), t < m
  | .map k e => k < m ∧ e < m
  | _ => True) := by
  have := List.all_eq_true.1 h t (List.mem_range.2 ht)
  simp only [Bool.and_eq_true, decide_eq_true_eq] at this
  refine ⟨this.1, ?_⟩
  have h2 := this.2
  unfold parts1 at h2
  rw [hd] at h2
  cases d <;> first | exact h2 | trivial
mutual
theorem wt {H : Type} {P : Program} {m C : Nat} (hC : closedU P m C = true) : ∀ (d : DataW H) (t : TypeId) (n : Nat), t < m → n ∈ d.weights P t → n ≤ Rows.uptoBulk d * (2 * C + 1)
  | .lit (.string b), t, n, ht, h => by
    simp only [DataW.weights, List.mem_singleton] at h
    subst h
    simp only [Rows.uptoBulk]
    exact Nat.le_trans (Nat.le_succ _) (Nat.le_mul_of_pos_right _ (by omega))
  | .lit (.int _ _), t, n, ht, h => by simp [DataW.weights] at h
  | .lit (.bool _), t, n, ht, h => by simp [DataW.weights] at h
  | .lit (.float _ _), t, n, ht, h => by simp [DataW.weights] at h
  | .lit .nil, t, n, ht, h => by simp [DataW.weights] at h
  | .nil, t, n, ht, h => by simp [DataW.weights] at h
  | .ptr d, t, n, ht, h => by
    simp only [DataW.weights] at h
    split at h
    · rename_i e he
      have := wt hC d _ n (closedU_at hC ht he).2 h
      simp only [Rows.uptoBulk]
      exact Nat.le_trans this (Nat.mul_le_mul_right _ (Nat.le_succ _))
    · cases h
  | .slice elems spare, t, n, ht, h => by
    simp only [DataW.weights] at h
    simp only [Rows.uptoBulk]
    split at h
    · rename_i e he
      obtain ⟨h3, h4⟩ := closedU_at hC ht he
      rcases List.mem_cons.1 h with h | h
      · have h1 := bulk_len elems
        have h2 := bulk_len spare
        rw [h]
        exact Nat.mul_le_mul (by omega) (Nat.le_trans (closedU_b hC h4) (by omega))
      · rcases List.mem_append.1 h with h | h
        · exact Nat.le_trans (wtAll hC elems e n h4 h) (Nat.mul_le_mul_right _ (by omega))
        · exact Nat.le_trans (wtAll hC spare e n h4 h) (Nat.mul_le_mul_right _ (by omega))
    · cases h
  | .agg parts, t, n, ht, h => by
    simp only [DataW.weights] at h
    simp only [Rows.uptoBulk]
    split at h
    · rename_i fs he
      exact Nat.le_trans (wtEach hC parts _ n (closedU_at hC ht he).2 h) (Nat.mul_le_mul_right _ (by omega))
    · rename_i k e he
      exact Nat.le_trans (wtAll hC parts _ n (closedU_at hC ht he).2 h) (Nat.mul_le_mul_right _ (by omega))
    · cases h
  | .iface _ _, t, n, ht, h => by simp [DataW.weights] at h
  | .map entries, t, n, ht, h => by
    simp only [DataW.weights] at h
    simp only [Rows.uptoBulk]
    split at h
    · rename_i k e he
      obtain ⟨h3, h4, h5⟩ := closedU_at hC ht he
      rcases List.mem_cons.1 h with h | h
      · have h1 := bulk_ent entries
        rw [h]
        exact Nat.mul_le_mul (by omega) (by have := closedU_b hC h4; have := closedU_b hC h5; omega)
      · exact Nat.le_trans (wtEnt hC entries e n h5 h) (Nat.mul_le_mul_right _ (by omega))
    · cases h
  | .held _, t, n, ht, h => by simp [DataW.weights] at h
theorem wtAll {H : Type} {P : Program} {m C : Nat} (hC : closedU P m C = true) : ∀ (l : List (DataW H)) (t : TypeId) (n : Nat), t < m → n ∈ DataW.weightsAll P t l → n ≤ Rows.uptoBulkAll l * (2 * C + 1)
  | [], t, n, ht, h => by simp [DataW.weightsAll] at h
  | d :: l, t, n, ht, h => by
    simp only [DataW.weightsAll] at h
    simp only [Rows.uptoBulkAll]
    rcases List.mem_append.1 h with h | h
    · exact Nat.le_trans (wt hC d t n ht h) (Nat.mul_le_mul_right _ (by omega))
    · exact Nat.le_trans (wtAll hC l t n ht h) (Nat.mul_le_mul_right _ (by omega))
theorem wtEach {H : Type} {P : Program} {m C : Nat} (hC : closedU P m C = true) : ∀ (l : List (DataW H)) (ts : List TypeId) (n : Nat), (∀ t ∈ ts, t < m) → n ∈ DataW.weightsEach P ts l → n ≤ Rows.uptoBulkAll l * (2 * C + 1)
  | [], [], n, ht, h => by simp [DataW.weightsEach] at h
  | [], _ :: _, n, ht, h => by simp [DataW.weightsEach] at h
  | _ :: _, [], n, ht, h => by simp [DataW.weightsEach] at h
  | d :: l, t :: ts, n, ht, h => by
    simp only [DataW.weightsEach] at h
    simp only [Rows.uptoBulkAll]
    rcases List.mem_append.1 h with h | h
    · exact Nat.le_trans (wt hC d t n (ht t (List.mem_cons_self ..)) h) (Nat.mul_le_mul_right _ (by omega))
    · exact Nat.le_trans (wtEach hC l ts n (fun x hx => ht x (List.mem_cons_of_mem _ hx)) h) (Nat.mul_le_mul_right _ (by omega))
theorem wtEnt {H : Type} {P : Program} {m C : Nat} (hC : closedU P m C = true) : ∀ (l : List (Lit × DataW H)) (t : TypeId) (n : Nat), t < m → n ∈ DataW.weightsEntries P t l → n ≤ Rows.uptoBulkEntries l * (2 * C + 1)
  | [], t, n, ht, h => by simp [DataW.weightsEntries] at h
  | x :: l, t, n, ht, h => by
    simp only [DataW.weightsEntries] at h
    simp only [Rows.uptoBulkEntries]
    rcases List.mem_append.1 h with h | h
    · exact Nat.le_trans (wtE hC x t n ht h) (Nat.mul_le_mul_right _ (by omega))
    · exact Nat.le_trans (wtEnt hC l t n ht h) (Nat.mul_le_mul_right _ (by omega))
theorem wtE {H : Type} {P : Program} {m C : Nat} (hC : closedU P m C = true) : ∀ (x : Lit × DataW H) (t : TypeId) (n : Nat), t < m → n ∈ DataW.weightsEntry P t x → n ≤ Rows.uptoBulkEntry x * (2 * C + 1)
  | (.string b, d), t, n, ht, h => by
    simp only [DataW.weightsEntry] at h
    simp only [Rows.uptoBulkEntry]
    rcases List.mem_cons.1 h with h | h
    · rw [h]; exact Nat.le_trans (by omega) (Nat.le_mul_of_pos_right _ (by omega))
    · exact Nat.le_trans (wt hC d t n ht h) (Nat.mul_le_mul_right _ (by omega))
  | (.int _ _, d), t, n, ht, h => by
    simp only [DataW.weightsEntry] at h
    simp only [Rows.uptoBulkEntry]
    exact Nat.le_trans (wt hC d t n ht h) (Nat.mul_le_mul_right _ (by omega))
  | (.float _ _, d), t, n, ht, h => by
    simp only [DataW.weightsEntry] at h
    simp only [Rows.uptoBulkEntry]
    exact Nat.le_trans (wt hC d t n ht h) (Nat.mul_le_mul_right _ (by omega))
  | (.nil, d), t, n, ht, h => by
    simp only [DataW.weightsEntry] at h
    simp only [Rows.uptoBulkEntry]
    exact Nat.le_trans (wt hC d t n ht h) (Nat.mul_le_mul_right _ (by omega))
  | (.bool _, d), t, n, ht, h => by
    simp only [DataW.weightsEntry] at h
    simp only [Rows.uptoBulkEntry]
    exact Nat.le_trans (wt hC d t n ht h) (Nat.mul_le_mul_right _ (by omega))
end
theorem closedT : closedU Try.prog 57 4096 = true := by kernel_rfl
theorem bulk_at {H : Type} : ∀ {ds : List (DataW H)} {j : Nat} {d : DataW H}, ds[j]? = some d → Rows.uptoBulk d ≤ Rows.uptoBulkAll ds
  | x :: ds, 0, d, h => by cases h; simp only [Rows.uptoBulkAll]; omega
  | x :: ds, j + 1, d, h => by
    have := bulk_at (ds := ds) (j := j) (by simpa using h)
    simp only [Rows.uptoBulkAll]; omega
theorem fineU {H : Type} {ds : List (DataW H)} {j : Nat} {t : TypeId} {d : DataW H} (h : Rows.uptoSmall H ds = true) (hd : ds[j]? = some d) (ht : t < 57 := by decide) : Fine (1048576 * (2 * 4096 + 1)) Try.prog t d := fun n hn => by
  have h1 : Rows.uptoBulkAll ds ≤ 1048576 := of_decide_eq_true h
  exact Nat.le_trans (wt closedT d t n ht hn) (Nat.mul_le_mul_right _ (Nat.le_trans (bulk_at hd) h1))

end Go.Proofs.Ytkohanehgndmhaa.lnk
