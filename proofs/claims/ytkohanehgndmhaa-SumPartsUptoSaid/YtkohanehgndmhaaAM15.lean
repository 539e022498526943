/- The machine, and that it tells the truth of the program. No condition. -/
import Derived.Test.YtkohanehgndmhaaAM14
set_option linter.all false
namespace Go.AM
open Go.RowKit
section
variable {call : Nat → List AV → Heap → Option (AV × Heap)} {l : List AOper} {frs : Nat → T AV} {Hs : Nat → Heap} {π : Nat → Nat} {M : List Nat}
variable {B : Nat} {φ0 φ φ' : Phi} {w0 w w' : World} {listed listed' : Array Bool} {κ : Nat}
theorem alloc_next {es : Nat} {cs : List AV} {H H' : Heap} (e : H' = H.alloc es cs) : H'.next = H.next + 1 := by rw [e]; rfl
theorem St.weaken (h : St B call l Hs π φ0 w0 listed φ κ w) (hl : ∀ d, listed'.getD d false = false → listed.getD d false = false) : St B call l Hs π φ0 w0 listed' φ κ w :=
  ⟨h.le, h.step, h.fresh, h.lt, fun j q hj hq ha hu => h.ghost j q hj hq ha (hl _ hu)⟩
/-- the heap stays -/
theorem St.calm (h : St B call l Hs π φ0 w0 listed φ κ w) (k : Step B φ (Hs κ) w φ' (Hs κ) w') : St B call l Hs π φ0 w0 listed φ' κ w' := by
  have hd : ∀ b, φ b = none → φ' b = none := fun b e => by
    cases e' : φ' b with
    | none => rfl
    | some p =>
      rcases k.dom b p e' with e2 | ⟨e2, e3⟩
      · rw [e] at e2; cases e2
      · omega
  exact ⟨h.le, h.step.trans k, fun b h1 h2 => hd b (h.fresh b h1 h2), h.lt, fun j q hj hq ha hu es cs e => ⟨hd _ (h.ghost j q hj hq ha hu es cs e).1, (h.ghost j q hj hq ha hu es cs e).2⟩⟩
/-- what was made comes up -/
theorem St.made (hm : CallsMono call) (hr : Run call l frs Hs) (h : St B call l Hs π φ0 w0 listed φ κ w) {i : Nat} {p : AOper} (hp : l[i]? = some p) (hi : i < κ) (ha : isAlloc p.op = true) (hu : listed.getD (π i) false = false) {es : Nat} {cs : List AV}
    (e : Hs (i + 1) = (Hs i).alloc es cs) (k : Step B φ ⟨(Hs i).next, .e⟩ w φ' ((⟨(Hs i).next, .e⟩ : Heap).alloc es cs) w') (hl : ∀ d, listed'.getD d false = false → listed.getD d false = false) (hl2 : ∀ j, j < l.length → listed'.getD (π j) false = false → j ≠ i) :
    St B call l Hs π φ0 w0 listed' φ' κ w' := by
  obtain ⟨g1, g2⟩ := h.ghost i p hi hp ha hu es cs e
  have hn := alloc_next e
  have h1 := hr.next_le hm (show i + 1 ≤ κ from hi) h.le
  have h0 := hr.next_le hm (Nat.zero_le i) (by have := h.le; omega)
  have hd : ∀ b, b ≠ (Hs i).next → φ b = none → φ' b = none := fun b hb e => by
    cases e' : φ' b with
    | none => rfl
    | some p =>
      rcases k.dom b p e' with e2 | ⟨e2, e3⟩
      · rw [e] at e2; cases e2
      · have e2 : (Hs i).next ≤ b := e2
        have e3 : b < (Hs i).next + 1 := e3
        omega
  refine ⟨h.le, h.step.comes g1 g2 h0 (by omega) k, fun b h1 h2 => hd b (by omega) (h.fresh b h1 h2), h.lt, fun j q hj hq ha' hu' es' cs' e' => ?_⟩
  have hji : j ≠ i := hl2 j (by have := h.le; omega) hu'
  obtain ⟨k1, k2⟩ := h.ghost j q hj hq ha' (hl _ hu') es' cs' e'
  refine ⟨hd _ ?_ k1, k2⟩
  have hnj := alloc_next e'
  rcases Nat.lt_or_gt_of_ne hji with c | c
  · have := hr.next_le hm (show j + 1 ≤ i from c) (by have := h.le; omega); omega
  · have := hr.next_le hm (show i + 1 ≤ j from c) (by have := h.le; omega); omega
/-- what acts comes up -/
theorem St.acts (hm : CallsMono call) (hr : Run call l frs Hs) (h : St B call l Hs π φ0 w0 listed φ κ w) {p : AOper} (hp : l[κ]? = some p) (ha : isActor p.op = true) (k : Step B φ (Hs κ) w φ' (Hs (κ + 1)) w')
    (hc : ∀ (j : Nat) (q : AOper), j < κ → l[j]? = some q → isAlloc q.op = true → listed.getD (π j) false = false → ∀ es cs, Hs (j + 1) = (Hs j).alloc es cs → (Hs (κ + 1)).blks.get (Hs j).next = (Hs κ).blks.get (Hs j).next) (hl : ∀ d, listed'.getD d false = false → listed.getD d false = false) :
    St B call l Hs π φ0 w0 listed' φ' (κ + 1) w' := by
  have hlt : κ < l.length := (List.getElem?_eq_some_iff.1 hp).1
  refine ⟨hlt, h.step.trans k, fresh_right k h.fresh, fun s hs b hb => ?_, fun j q hj hq ha' hu es cs e => ?_⟩
  · by_cases c : s = κ + 1
    · subst c; exact k.rel.lt b hb
    · exact h.lt s (by omega) b hb
  · have hjk : j ≠ κ := fun c => by
      subst c
      rw [hp] at hq; cases hq
      simp [isActor, ha'] at ha
    obtain ⟨k1, k2⟩ := h.ghost j q (by omega) hq ha' (hl _ hu) es cs e
    refine ⟨?_, by rw [hc j q (by omega) hq ha' (hl _ hu) es cs e]; exact k2⟩
    cases e' : φ' (Hs j).next with
    | none => rfl
    | some p =>
      rcases k.dom _ p e' with e2 | ⟨e2, e3⟩
      · rw [k1] at e2; cases e2
      · have := alloc_next e
        have := hr.next_le hm (show j + 1 ≤ κ by omega) h.le
        omega
theorem Run.stab (hr : Run call l frs Hs) {t i s : Nat} (h1 : i ≤ s) (h2 : s ≤ l.length) (h : ∀ (d : Nat) (q : AOper), i ≤ d → l[d]? = some q → q.dst ≠ some t) : (frs s).get t = (frs i).get t := by
  rw [← hr.stable (l.length - s) s (by omega) (fun d q hd hq => h d q (by omega) hq), ← hr.stable (l.length - i) i (by omega) h]
/-- what acts between a reader's place and its coming up leaves what it reads -/
theorem rd_same (hm : CallsMono call) (hr : Run call l frs Hs) (hC : CO l M π) {i t : Nat} {p : AOper} (hp : l[i]? = some p) (hrd : isReader p.op = true) (ht : t ∈ rdT p.op) (htm : t ∈ p.op.base.tmps) {u : AV} (hu : (frs i).get t = some u) {b : Nat} (hb : blkOf u = some b) (hbn : b < (Hs i).next)
    (hpr : ∀ (s : Nat) (q : AOper), i < s → s < κ → l[s]? = some q → isActor q.op = true → preds M (π s) (π i) = false) (hκ : κ ≤ l.length) : ∀ (m : Nat), i + m ≤ κ → (Hs (i + m)).blks.get b = (Hs i).blks.get b
  | 0, _ => rfl
  | m + 1, hmk => by
    have ih := rd_same hm hr hC hp hrd ht htm hu hb hbn hpr hκ m (by omega)
    rw [← ih]
    have hlt : i + m < l.length := by omega
    have hq : l[i + m]? = some l[i + m] := by simp [hlt]
    have h1 := hr.one (i + m) _ hq
    rw [show i + (m + 1) = i + m + 1 by omega]
    cases ha : isActor l[i + m].op with
    | false =>
      rcases h1.calm ha with e | ⟨_, es, cs, e⟩
      · rw [e]
      · have := hr.next_le hm (show i ≤ i + m by omega) (by omega)
        rw [e, Heap.alloc_get, if_neg (by omega)]
    | true =>
      have him : i < i + m := by
        rcases Nat.eq_zero_or_pos m with c | c
        · subst c
          have : l[i + 0] = p := by
            have := hq
            simp only [Nat.add_zero] at this ⊢
            rw [hp] at this; exact (Option.some.inj this).symm
          rw [this] at ha
          cases hpo : p.op <;> rw [hpo] at hrd ha <;> simp [isReader] at hrd <;> simp [isActor, isLoud, isReader, isPure] at ha
        · omega
      obtain ⟨ts, o, e1, e2⟩ := hC.ckr (i + m) i _ p t hq hp ha hrd him (hpr _ _ him (by omega) hq ha) ht
      rcases h1 with ⟨v, _, he, _⟩ | ⟨_, e, _⟩
      · rw [e1] at he
        obtain ⟨_, hU⟩ := evOp_ck.1 he
        obtain ⟨v', g1, g2⟩ := hU t e2
        rw [hr.stab (show i ≤ i + m by omega) (by omega) (fun d q hd hq' hqd => by
          rcases hC.ops i d p q t hp hq' (.inl htm) hqd with k | ⟨_, k⟩
          · have := hC.ord i d (by omega) (by exact (List.getElem?_eq_some_iff.1 hq').1) k
            omega
          · exact k ⟨hrd, ht⟩), hu] at g1
        cases g1
        exact g2 b hb
      · rw [e]
theorem rdT_tmps {o : AOp} (h : isReader o = true) {t : Nat} (ht : t ∈ rdT o) : t ∈ o.base.tmps := by
  cases o <;> simp [isReader] at h <;> simp only [rdT] at ht <;> simp only [AOp.base, AOp.tmps]
  all_goals first
    | exact ht
    | exact List.mem_append_left _ (List.mem_append_left _ ht)
    | exact List.mem_append_left _ (List.mem_append_left _ (List.mem_append_left _ ht))
end
end Go.AM
