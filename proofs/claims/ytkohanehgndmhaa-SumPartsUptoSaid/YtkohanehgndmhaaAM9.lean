/- The machine, and that it tells the truth of the program. No condition. -/
import Derived.Test.YtkohanehgndmhaaAM8
set_option linter.all false
namespace Go.AM
open Go.RowKit
section
variable {P : Program} {B : Nat} {φ : Phi} {H H' : Heap} {w : World} {fr fr' : T AV} {a : Act} {v : AV}
  {call : Nat → List AV → Heap → Option (AV × Heap)}

/-- a state of a body -/
structure SRel (B N : Nat) (φ : Phi) (H : Heap) (fr : T AV) (a : Act) (w : World) : Prop where
  heap : HRel B φ H w
  frame : FRel φ fr a.tmps
  size : N ≤ a.tmps.size
  defers : a.defers = []

theorem SRel.put {N : Nat} (h : SRel B N φ H fr a w) {d : Option Nat} {x : Value} (hd : (d.all fun d => decide (d < N)) = true) (hv : VRel φ v x) : SRel B N φ H (putD fr d v) (a.put d x) w := by
  cases d with
  | none => exact h
  | some d =>
    have hlt : d < N := by simpa using hd
    have hs := h.size
    refine ⟨h.heap, ?_, by simp [Act.put]; exact h.size, h.defers⟩
    intro t u hu
    simp only [putD, T.get_set] at hu
    by_cases ht : t = d
    · rw [if_pos ht] at hu
      cases hu
      subst ht
      refine ⟨x, ?_, hv⟩
      simp only [Act.put, Array.getElem?_setIfInBounds, if_true]
      rw [if_pos (by omega)]
    · rw [if_neg ht] at hu
      obtain ⟨y, h1, h2⟩ := h.frame t u hu
      refine ⟨y, ?_, h2⟩
      simp only [Act.put, Array.getElem?_setIfInBounds]
      rw [if_neg (fun e => ht e.symm)]
      exact h1

theorem SRel.step {N : Nat} {φ' : Phi} {w' : World} (h : SRel B N φ H fr a w) (hs : Step B φ H w φ' H' w') : SRel B N φ' H' fr a w' :=
  ⟨hs.rel, h.frame.mono hs.le, h.size, h.defers⟩

/-- the calls tell no less numbers -/
def CallsMono (call : Nat → List AV → Heap → Option (AV × Heap)) : Prop := ∀ f vs H v H', call f vs H = some (v, H') → H.next ≤ H'.next

theorem mono_ops (hm : CallsMono call) : ∀ {l : List AOper} {fr : T AV} {H : Heap} {fr' : T AV} {H' : Heap}, evOps call l fr H = some (fr', H') → H.next ≤ H'.next
  | [], fr, H, fr', H', h => by simp only [evOps, Option.some.injEq, Prod.mk.injEq] at h; rw [h.2]; exact Nat.le_refl _
  | o :: l, fr, H, fr', H', h => by
    simp only [evOps] at h
    split at h
    · split at h
      · rename_i he
        exact Nat.le_trans (mono_op hm he) (mono_ops hm h)
      · cases h
    · split at h
      · split at h
        · split at h
          · rename_i he
            exact Nat.le_trans (mono_op hm he) (mono_ops hm h)
          · cases h
        · exact mono_ops hm h
      · exact mono_ops hm h
      · cases h

theorem fresh_left {H1 : Heap} (hφ : ∀ b, H.next ≤ b → b < H'.next → φ b = none) (h : H1.next ≤ H'.next) : ∀ b, H.next ≤ b → b < H1.next → φ b = none :=
  fun b h1 h2 => hφ b h1 (Nat.lt_of_lt_of_le h2 h)

theorem fresh_right {H1 : Heap} {φ1 : Phi} {w1 : World} (hs : Step B φ H w φ1 H1 w1) (hφ : ∀ b, H.next ≤ b → b < H'.next → φ b = none) : ∀ b, H1.next ≤ b → b < H'.next → φ1 b = none := by
  intro b h1 h2
  cases hq : φ1 b with
  | none => rfl
  | some p =>
    rcases hs.dom b p hq with h | ⟨_, h⟩
    · rw [hφ b (Nat.le_trans hs.next h1) h2] at h; cases h
    · omega

theorem cOper_some {N : Nat} {ops : Array Oper} {o : Oper} {ao : AOper} (h : cOper P N ops o = some ao) : ao.dst = o.dst ∧ ao.op = (cOp P o).getD .bad ∧ (o.dst.all fun d => decide (d < N)) = true ∧
    ((o.guard = none ∧ ao.guard = none) ∨ ∃ j w d, o.guard = some (j, w) ∧ (ops[j]?).bind (·.dst) = some d ∧ ao.guard = some (d, w)) := by
  unfold cOper at h
  cases hgd : o.guard with
  | none =>
    rw [hgd] at h
    simp only [Option.bind_eq_bind, Option.bind_some] at h
    split at h
    · rename_i hd
      cases h
      exact ⟨rfl, rfl, hd, .inl ⟨rfl, rfl⟩⟩
    · cases h
  | some jw =>
    obtain ⟨j, w⟩ := jw
    rw [hgd] at h
    simp only [Option.bind_eq_bind, Option.bind_some] at h
    cases hd' : (ops[j]?).bind (·.dst) with
    | none => rw [hd'] at h; simp at h
    | some d =>
      rw [hd'] at h
      simp only [Option.bind_some] at h
      split at h
      · rename_i hd
        cases h
        exact ⟨rfl, rfl, hd, .inr ⟨j, w, d, rfl, hd', rfl⟩⟩
      · cases h

theorem ops_wp {N : Nat} {ops : Array Oper} (hcall : CallsOk P B call) (hm : CallsMono call) {Q : Exit → Act → World → Prop} :
    ∀ (l : List AOper) (k : Nat) (φ : Phi) (H : Heap) (fr : T AV) (a : Act) (w : World), (∀ j, l[j]? = (ops[k + j]?).bind (cOper P N ops)) → k + l.length = ops.size → SRel B N φ H fr a w →
      (∀ b, H.next ≤ b → b < H'.next → φ b = none) → evOps call l fr H = some (fr', H') →
      (∀ φ' a' w', Step B φ H w φ' H' w' → SRel B N φ' H' fr' a' w' → Q .normal a' w') → wpOps P ops Q ((List.range ops.size).drop k) a w
  | [], k, φ, H, fr, a, w, hl, hk, hs, hφ, he, hq => by
    simp only [evOps, Option.some.injEq, Prod.mk.injEq] at he
    obtain ⟨rfl, rfl⟩ := he
    have : (List.range ops.size).drop k = [] := by simp at hk ⊢; omega
    rw [this]
    exact hq φ a w (.refl hs.heap) hs
  | ao :: l, k, φ, H, fr, a, w, hl, hk, hs, hφ, he, hq => by
    have hk' : k < ops.size := by simp at hk; omega
    have hdrop : (List.range ops.size).drop k = k :: (List.range ops.size).drop (k + 1) := by
      rw [List.drop_eq_getElem_cons (by simpa using hk')]
      simp
    have h0 := hl 0
    simp only [List.getElem?_cons_zero, Nat.add_zero] at h0
    obtain ⟨o, ho, hco⟩ := Option.bind_eq_some_iff.1 h0.symm
    obtain ⟨c1, c2, c3, c4⟩ := cOper_some hco
    have hrest : ∀ j, l[j]? = (ops[k + 1 + j]?).bind (cOper P N ops) := fun j => by
      have := hl (j + 1)
      rw [List.getElem?_cons_succ] at this
      rw [this]
      congr 2
      omega
    rw [hdrop]
    simp only [wpOps, ho]
    -- the operation is carried out
    have run : ∀ {u : AV} {H1 : Heap}, evOp call ao.op fr H = some (u, H1) → evOps call l (putD fr ao.dst u) H1 = some (fr', H') → Region.wanted o (yielded ops a.tmps) = true →
        (if Region.wanted o (yielded ops a.tmps) = true then o.wp P a w (wpOps P ops Q ((List.range ops.size).drop (k + 1))) Q ∨ (o.asks P a w ∧ LetsOut Q) else wpOps P ops Q ((List.range ops.size).drop (k + 1)) (a.put o.dst undef) w) := by
      intro u H1 h1 h2 hw
      rw [if_pos hw]
      refine .inl (oper_wp hcall hs.heap hs.frame (fresh_left hφ (mono_ops hm h2)) c2.symm h1 ?_)
      intro x w' φ' hst hv
      rw [c1] at h2
      refine ops_wp hcall hm l (k + 1) φ' H1 _ _ w' hrest (by simp at hk; omega) ((hs.step hst).put c3 hv) (fresh_right hst hφ) h2 ?_
      intro φ2 a2 w2 hst2 hs2
      exact hq φ2 a2 w2 (hst.trans hst2) hs2
    -- it is not
    have skip : evOps call l (putD fr ao.dst (.tup [])) H = some (fr', H') → Region.wanted o (yielded ops a.tmps) = false →
        (if Region.wanted o (yielded ops a.tmps) = true then o.wp P a w (wpOps P ops Q ((List.range ops.size).drop (k + 1))) Q ∨ (o.asks P a w ∧ LetsOut Q) else wpOps P ops Q ((List.range ops.size).drop (k + 1)) (a.put o.dst undef) w) := by
      intro h2 hw
      rw [hw, if_neg (by decide)]
      rw [c1] at h2
      exact ops_wp hcall hm l (k + 1) φ H _ _ w hrest (by simp at hk; omega) (hs.put c3 (.tup (by simp) (by simp))) hφ h2 hq
    simp only [evOps] at he
    rcases c4 with ⟨g1, g2⟩ | ⟨j, want, d, g1, g2, g3⟩
    · rw [g2] at he
      simp only at he
      split at he
      · rename_i h1
        exact run h1 he (by simp [Region.wanted, g1])
      · cases he
    · rw [g3] at he
      simp only at he
      split at he
      · rename_i b hb
        obtain ⟨x, e1, e2⟩ := hs.frame d _ hb
        have ex := (v_inv e2).1
        subst ex
        have hy : yielded ops a.tmps j = some b := by simp only [yielded, g2, Option.bind_some, e1]
        split at he
        · rename_i hbw
          split at he
          · rename_i h1
            exact run h1 he (by simp [Region.wanted, g1, hy, hbw])
          · cases he
        · rename_i hbw
          exact skip he (by simp [Region.wanted, g1, hy, hbw])
      · rename_i hb
        obtain ⟨x, e1, e2⟩ := hs.frame d _ hb
        have hy : yielded ops a.tmps j = none := by
          cases e2
          simp only [yielded, g2, Option.bind_some, e1]
        exact skip he (by simp [Region.wanted, g1, hy])
      · cases he

end
end Go.AM
