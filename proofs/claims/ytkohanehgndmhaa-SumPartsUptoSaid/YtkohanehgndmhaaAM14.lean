/- The machine, and that it tells the truth of the program. No condition. -/
import Derived.Test.YtkohanehgndmhaaAM13
set_option linter.all false
namespace Go.AM
open Go.RowKit
section
variable {B : Nat} {φ φ' : Phi} {H H' : Heap} {w w' : World}
theorem Heap.alloc_get (H : Heap) (es : Nat) (cs : List AV) (b : Nat) : (H.alloc es cs).blks.get b = if b = H.next then some ⟨cs, true, none, es⟩ else H.blks.get b := by
  unfold Heap.alloc; simp only [T.get_set]
/-- a block that is not there yet -/
theorem Step.ghost (h : HRel B φ H w) (hφ : φ H.next = none) (es : Nat) (cs : List AV) : Step B φ H w φ (H.alloc es cs) w := by
  have hg := Heap.alloc_get H es cs
  have old : ∀ b blk p, (H.alloc es cs).blks.get b = some blk → φ b = some p → H.blks.get b = some blk := fun b blk p e1 e2 => by
    rw [hg] at e1
    split at e1
    · rename_i c; rw [c, hφ] at e2; cases e2
    · exact e1
  refine ⟨.refl _, fun _ _ h => .inl h, ⟨fun b blk p e1 e2 => h.blk b blk p (old _ _ _ e1 e2) e2, fun b blk b' blk' p p' e1 e2 n hw hm f1 f2 => h.sep b blk b' blk' p p' (old _ _ _ e1 f1) (old _ _ _ e2 f2) n hw hm f1 f2, h.size, fun b hb => ?_⟩,
    Nat.le_succ _, rfl, rfl, rfl, Nat.le_refl _, fun _ _ _ => rfl, fun r ⟨b, blk, p, e1, e2, e3, e4⟩ => .inl ⟨b, blk, p, old _ _ _ e1 e3, e2, e3, e4⟩⟩
  have hb' : H.next + 1 ≤ b := hb
  rw [hg, if_neg (by omega)]
  exact h.lt b (by omega)
theorem HRel.bare (h : B ≤ w.heap.size) (m : Nat) : HRel B φ ⟨m, .e⟩ w :=
  ⟨fun b blk p e _ => by rw [T.get_e] at e; (cases e), fun b blk b' blk' p p' e => by rw [T.get_e] at e; (cases e), h, fun b _ => T.get_e b⟩
/-- it is there now -/
theorem Step.comes {φ0 : Phi} {H0 : Heap} {w0 : World} (h : Step B φ0 H0 w0 φ H w) {m es : Nat} {cs : List AV} (hφ : φ m = none) (hb : H.blks.get m = some ⟨cs, true, none, es⟩) (h0 : H0.next ≤ m) (h1 : m < H.next)
    (k : Step B φ ⟨m, .e⟩ w φ' ((⟨m, .e⟩ : Heap).alloc es cs) w') : Step B φ0 H0 w0 φ' H w' := by
  have hg : ((⟨m, .e⟩ : Heap).alloc es cs).blks.get m = some ⟨cs, true, none, es⟩ := by rw [Heap.alloc_get, if_pos rfl]
  have hno : ∀ r, ¬ Owned φ (⟨m, .e⟩ : Heap) r := fun r ⟨b, blk, p, e1, _⟩ => by
    have e1 : (T.e : T Blk).get b = some blk := e1
    rw [T.get_e] at e1; cases e1
  have hrows : ∀ r, r < w.heap.size → w'.heap[r]? = w.heap[r]? := fun r hr => k.rows r hr (hno r)
  have hd : ∀ b p, φ' b = some p → φ b = some p ∨ b = m := fun b p e => by
    rcases k.dom b p e with e | ⟨e1, e2⟩
    · exact .inl e
    · have e1 : m ≤ b := e1
      have e2 : b < m + 1 := e2
      exact .inr (by omega)
  have hnew : ∀ p, φ' m = some p → w.heap.size ≤ p.r := fun p e => by
    rcases k.own p.r ⟨m, _, p, hg, rfl, e, rfl⟩ with h | h
    · exact absurd h (hno _)
    · exact h
  have hsz : ∀ b blk p, H.blks.get b = some blk → φ b = some p → p.r < w.heap.size := fun b blk p e1 e2 => by
    obtain ⟨_, cur, e, fz, e3, _⟩ := h.rel.blk b blk p e1 e2
    exact (Array.getElem?_eq_some_iff.1 e3).1
  refine ⟨h.le.trans k.le, fun b p e => ?_, ⟨fun b blk p e1 e2 => ?_, fun b blk b' blk' p p' e1 e2 n hw hm f1 f2 => ?_, Nat.le_trans h.rel.size k.size, h.rel.lt⟩, h.next, k.os.trans h.os, k.tape.trans h.tape, k.output.trans h.output, Nat.le_trans h.size k.size,
    fun r hr hn => ?_, fun r ⟨b, blk, p, e1, e2, e3, e4⟩ => ?_⟩
  · rcases hd b p e with e | e
    · exact h.dom b p e
    · exact .inr ⟨by omega, by omega⟩
  · by_cases c : b = m
    · subst c
      rw [hb] at e1; cases e1
      exact k.rel.blk b _ p hg e2
    · have e3 : φ b = some p := (hd b p e2).resolve_right c
      obtain ⟨k1, cur, e, fz, k2, k3, k4, k5, k6⟩ := h.rel.blk b blk p e1 e3
      refine ⟨k1, cur, e, fz, ?_, k3, k4, fun i c hc => ?_, k6⟩
      · rw [hrows _ (Array.getElem?_eq_some_iff.1 k2).1]; exact k2
      · obtain ⟨x, x1, x2, x3⟩ := k5 i c hc
        exact ⟨x, x1, x2.mono k.le, x3⟩
  · by_cases c : b = m
    · subst c
      have g2 : φ b' = some p' := (hd b' p' f2).resolve_right (fun c => n c.symm)
      have := hsz b' blk' p' e2 g2
      have := hnew p f1
      omega
    · have g1 : φ b = some p := (hd b p f1).resolve_right c
      by_cases c' : b' = m
      · subst c'
        have := hsz b blk p e1 g1
        have := hnew p' f2
        omega
      · exact h.rel.sep b blk b' blk' p p' e1 e2 n hw hm g1 ((hd b' p' f2).resolve_right c')
  · rw [hrows r (Nat.lt_of_lt_of_le hr h.size)]; exact h.rows r hr hn
  · subst e4
    by_cases c : b = m
    · subst c; exact .inr (Nat.le_trans h.size (hnew p e3))
    · exact h.own p.r ⟨b, blk, p, e1, e2, (hd b p e3).resolve_right c, rfl⟩
end
section
variable {call : Nat → List AV → Heap → Option (AV × Heap)} {l : List AOper} {frs : Nat → T AV} {Hs : Nat → Heap} {π : Nat → Nat} {M : List Nat}
theorem One.calm {o : AOper} {fr fr' : T AV} {H H' : Heap} (h : One call o fr H fr' H') (ha : isActor o.op = false) : H' = H ∨ (isAlloc o.op = true ∧ ∃ es cs, H' = H.alloc es cs) := by
  by_cases hl : isAlloc o.op = true
  · rcases h with ⟨v, _, he, _⟩ | ⟨_, e, _⟩
    · obtain ⟨es, cs, e, _⟩ := alloc_form hl he
      exact .inr ⟨hl, es, cs, e⟩
    · exact .inl e
  · refine .inl (h.quiet ?_)
    simp only [isActor, Bool.and_eq_false_iff, Bool.not_eq_false'] at ha
    rcases ha with ha | ha
    · exact ha
    · exact absurd ha hl
/-- where one is: all that acts ahead of κ has come up, and nothing of it behind -/
structure St (B : Nat) (call : Nat → List AV → Heap → Option (AV × Heap)) (l : List AOper) (Hs : Nat → Heap) (π : Nat → Nat) (φ0 : Phi) (w0 : World) (listed : Array Bool) (φ : Phi) (κ : Nat) (w : World) : Prop where
  le : κ ≤ l.length
  step : Step B φ0 (Hs 0) w0 φ (Hs κ) w
  fresh : ∀ b, (Hs κ).next ≤ b → b < (Hs l.length).next → φ b = none
  lt : ∀ s, s ≤ κ → ∀ b, (Hs s).next ≤ b → (Hs s).blks.get b = none
  ghost : ∀ (j : Nat) (q : AOper), j < κ → l[j]? = some q → isAlloc q.op = true → listed.getD (π j) false = false → ∀ es cs, Hs (j + 1) = (Hs j).alloc es cs → φ (Hs j).next = none ∧ (Hs κ).blks.get (Hs j).next = some ⟨cs, true, none, es⟩
variable {B : Nat} {φ0 φ : Phi} {w0 w : World} {listed : Array Bool} {κ : Nat}
theorem Run.next_le (hm : CallsMono call) (hr : Run call l frs Hs) {a b : Nat} (h : a ≤ b) (hb : b ≤ l.length) : (Hs a).next ≤ (Hs b).next := by
  have := hr.mono hm (b - a) a (by omega)
  rwa [show a + (b - a) = b by omega] at this
theorem St.one (hm : CallsMono call) (hr : Run call l frs Hs) (h : St B call l Hs π φ0 w0 listed φ κ w) {q : AOper} (hq : l[κ]? = some q) (ha : isActor q.op = false) (hu : isAlloc q.op = true → listed.getD (π κ) false = false) :
    St B call l Hs π φ0 w0 listed φ (κ + 1) w := by
  have hlt : κ < l.length := (List.getElem?_eq_some_iff.1 hq).1
  rcases (hr.one κ q hq).calm ha with e | ⟨hal, es, cs, e⟩
  · refine ⟨hlt, by rw [e]; exact h.step, by rw [e]; exact h.fresh, fun s hs b hb => ?_, fun j q' hj hq' ha' hl es cs e' => ?_⟩
    · by_cases c : s = κ + 1
      · subst c; rw [e] at hb ⊢; exact h.lt κ (Nat.le_refl _) b hb
      · exact h.lt s (by omega) b hb
    · by_cases c : j = κ
      · subst c
        have : (Hs (j + 1)).next = (Hs j).next + 1 := by rw [e']; rfl
        rw [e] at this; omega
      · rw [e]; exact h.ghost j q' (by omega) hq' ha' hl es cs e'
  · have hn : (Hs (κ + 1)).next = (Hs κ).next + 1 := by rw [e]; rfl
    have hle := hr.next_le hm (show κ + 1 ≤ l.length from hlt) (Nat.le_refl _)
    have hφ : φ (Hs κ).next = none := h.fresh _ (Nat.le_refl _) (by omega)
    refine ⟨hlt, by rw [e]; exact h.step.trans (Step.ghost h.step.rel hφ es cs), fun b h1 h2 => h.fresh b (by omega) h2, fun s hs b hb => ?_, fun j q' hj hq' ha' hl es' cs' e' => ?_⟩
    · by_cases c : s = κ + 1
      · subst c
        rw [e, Heap.alloc_get, if_neg (by omega)]
        exact h.lt κ (Nat.le_refl _) b (by omega)
      · exact h.lt s (by omega) b hb
    · by_cases c : j = κ
      · subst c
        refine ⟨hφ, ?_⟩
        rw [e', Heap.alloc_get, if_pos rfl]
      · obtain ⟨k1, k2⟩ := h.ghost j q' (by omega) hq' ha' hl es' cs' e'
        refine ⟨k1, ?_⟩
        have : (Hs (j + 1)).next = (Hs j).next + 1 := by rw [e']; rfl
        have := hr.next_le hm (show j + 1 ≤ κ by omega) (by omega)
        rw [e, Heap.alloc_get, if_neg (by omega)]
        exact k2
def AtActor (l : List AOper) (κ : Nat) : Prop := κ = l.length ∨ ∃ o, l[κ]? = some o ∧ isActor o.op = true
theorem St.adv (hm : CallsMono call) (hr : Run call l frs Hs) : ∀ (m κ : Nat), κ + m = l.length → St B call l Hs π φ0 w0 listed φ κ w → (∀ (j : Nat) (q : AOper), κ ≤ j → l[j]? = some q → isAlloc q.op = true → listed.getD (π j) false = false) →
    ∃ κ', κ ≤ κ' ∧ St B call l Hs π φ0 w0 listed φ κ' w ∧ AtActor l κ' ∧ ∀ (j : Nat) (q : AOper), κ ≤ j → j < κ' → l[j]? = some q → isActor q.op = false
  | 0, κ, hκ, h, _ => ⟨κ, Nat.le_refl _, h, .inl (by omega), fun j q h1 h2 _ => by omega⟩
  | m + 1, κ, hκ, h, hu => by
    have hlt : κ < l.length := by omega
    have hq : l[κ]? = some l[κ] := by simp [hlt]
    cases ha : isActor l[κ].op with
    | true => exact ⟨κ, Nat.le_refl _, h, .inr ⟨_, hq, ha⟩, fun j q h1 h2 _ => by omega⟩
    | false =>
      obtain ⟨κ', k1, k2, k3, k4⟩ := St.adv hm hr m (κ + 1) (by omega) (h.one hm hr hq ha (fun hal => hu κ _ (Nat.le_refl _) hq hal)) (fun j q hj => hu j q (by omega))
      refine ⟨κ', by omega, k2, k3, fun j q h1 h2 hq' => ?_⟩
      by_cases c : j = κ
      · subst c; rw [hq] at hq'; cases hq'; exact ha
      · exact k4 j q (by omega) h2 hq'
end
end Go.AM
