/- The machine, and that it tells the truth of the program. No condition. -/
import Derived.Test.YtkohanehgndmhaaAM9
import Derived.Orders
set_option linter.all false
namespace Go.AM
open Go.RowKit

def Closed (ops : Array Oper) (listed : Array Bool) : Prop := ∀ (d : Nat) (o : Oper), ops[d]? = some o → listed.getD d false = true → ∀ e ∈ o.after, Region.binds .any e = true → listed.getD e.on false = true

theorem bit_fold (B : List Nat) (i : Nat) : ∀ (l : List Edge) (s : Nat), (l.foldl (fun s e => if Region.binds .any e then s ||| (2 ^ e.on ||| B.getD e.on 0) else s) s).testBit i = true →
    s.testBit i = true ∨ ∃ e ∈ l, Region.binds .any e = true ∧ (e.on = i ∨ (B.getD e.on 0).testBit i = true)
  | [], s, h => .inl h
  | e :: l, s, h => by
    simp only [List.foldl_cons] at h
    rcases bit_fold B i l _ h with h | ⟨e', he', h⟩
    · split at h
      · rename_i hb
        rw [Nat.testBit_or, Nat.testBit_or, Bool.or_eq_true, Bool.or_eq_true, Nat.testBit_two_pow] at h
        rcases h with h | h | h
        · exact .inl h
        · exact .inr ⟨e, by simp, hb, .inl (by simpa using h)⟩
        · exact .inr ⟨e, by simp, hb, .inr h⟩
      · exact .inl h
    · exact .inr ⟨e', by simp [he'], h⟩

theorem masks_closed {ops : Array Oper} {B : List Nat} (hB : masksOk ops.toList B = true) {listed : Array Bool} (hc : Closed ops listed) :
    ∀ (d i : Nat), (B.getD d 0).testBit i = true → listed.getD d false = true → i < d ∧ listed.getD i false = true := by
  have hlen : ops.toList.length = B.length := by simp only [masksOk, Bool.and_eq_true, beq_iff_eq] at hB; exact hB.1
  have hall : ∀ d o, ops[d]? = some o → maskOf B o = B.getD d 0 ∧ ∀ e ∈ o.after.toList, Region.binds .any e = true → e.on < d := by
    intro d o ho
    simp only [masksOk, Bool.and_eq_true, List.all_eq_true] at hB
    have hd : d < ops.size := (Array.getElem?_eq_some_iff.1 ho).1
    have hd' : d < B.length := by rw [← hlen]; simpa using hd
    have hm : (((o, B[d]) : Oper × Nat), d) ∈ (ops.toList.zip B).zipIdx := by
      rw [List.mem_zipIdx_iff_getElem?]
      rw [List.getElem?_zip_eq_some]
      exact ⟨by simpa using ho, by simp [hd']⟩
    obtain ⟨h1, h2⟩ := hB.2 _ hm
    refine ⟨?_, ?_⟩
    · rw [beq_iff_eq] at h1
      simp only at h1
      rw [h1]
      simp [List.getD, hd']
    · intro e he hb
      have := h2 e he
      simpa [hb] using this
  intro d
  induction d using Nat.strongRecOn with
  | _ d ih =>
    intro i hbit hl
    cases ho : ops[d]? with
    | none =>
      have : B.length ≤ d := by rw [← hlen]; simpa using ho
      simp [List.getD, List.getElem?_eq_none this] at hbit
    | some o =>
      obtain ⟨h1, h2⟩ := hall d o ho
      rw [← h1] at hbit
      rcases bit_fold B i _ _ hbit with h | ⟨e, he, hb, h⟩
      · simp at h
      · have hlt := h2 e he hb
        have hle := hc d o ho hl e (by simpa using he) hb
        rcases h with h | h
        · rw [← h]; exact ⟨hlt, hle⟩
        · obtain ⟨k1, k2⟩ := ih e.on hlt i h hle
          exact ⟨by omega, k2⟩

section
variable {fr fr' : T AV} {call : Nat → List AV → Heap → Option (AV × Heap)}

theorem evX_congr {x : AX} (h : ∀ t ∈ x.tmps, fr.get t = fr'.get t) : evX fr x = evX fr' x := by
  cases x with
  | t n => exact h n (by simp [AX.tmps])
  | c v => rfl

theorem evXs_congr : ∀ {xs : List AX}, (∀ t ∈ xs.flatMap AX.tmps, fr.get t = fr'.get t) → evXs fr xs = evXs fr' xs
  | [], _ => rfl
  | x :: xs, h => by
    have h1 := evX_congr (fr := fr) (fr' := fr') (x := x) fun t ht => h t (by simp [ht])
    have h2 := evXs_congr (xs := xs) fun t ht => h t (by
      rw [List.flatMap_cons]; exact List.mem_append_right _ ht)
    simp only [evXs, h1, h2]

theorem fillA_congr : ∀ {ps : List (Nat × Nat × AX)} {cs : List AV}, (∀ t ∈ ps.flatMap (fun p => p.2.2.tmps), fr.get t = fr'.get t) → fillA fr cs ps = fillA fr' cs ps
  | [], _, _ => rfl
  | (o, s, x) :: ps, cs, h => by
    have h1 := evX_congr (fr := fr) (fr' := fr') (x := x) fun t ht => h t (by rw [List.flatMap_cons]; exact List.mem_append_left _ ht)
    have h2 := fun cs => fillA_congr (ps := ps) (cs := cs) fun t ht => h t (by rw [List.flatMap_cons]; exact List.mem_append_right _ ht)
    simp only [fillA, h1, h2]

theorem boundX_congr {d hi : Nat} {x : Option AX} (h : ∀ t ∈ optTmps x, fr.get t = fr'.get t) : boundX fr d hi x = boundX fr' d hi x := by
  cases x with
  | none => rfl
  | some x => simp only [boundX, evX_congr (fr := fr) (fr' := fr') (x := x) h]

theorem Unch_congr {ts : List Nat} {H H' : Heap} (h : ∀ t ∈ ts, fr.get t = fr'.get t) : Unch ts fr H H' = Unch ts fr' H H' := by
  apply propext
  constructor
  · intro k t ht
    obtain ⟨v, e, k2⟩ := k t ht
    exact ⟨v, by rw [← h t ht]; exact e, k2⟩
  · intro k t ht
    obtain ⟨v, e, k2⟩ := k t ht
    exact ⟨v, by rw [h t ht]; exact e, k2⟩
theorem evOp_congr {ao : AOp} {H : Heap} (h : ∀ t ∈ ao.tmps, fr.get t = fr'.get t) : evOp call ao fr H = evOp call ao fr' H := by
  induction ao
  case ck ts o ih =>
    simp only [AOp.tmps, List.mem_append] at h
    have e : ∀ H1 H2, Unch ts fr H1 H2 = Unch ts fr' H1 H2 := fun _ _ => Unch_congr (fun t ht => h t (.inl ht))
    have e2 := ih (fun t ht => h t (.inr ht))
    rw [evOp, evOp, e2]
    rcases evOp call o fr' H with _ | ⟨v, H'⟩
    · rfl
    · simp only []
      split
      · rename_i h1
        split
        · rfl
        · rename_i h2; exact absurd (by rw [← e]; exact h1) h2
      · rename_i h1
        split
        · rename_i h2; exact absurd (by rw [e]; exact h2) h1
        · rfl
  all_goals simp only [AOp.tmps, List.mem_append] at h
  all_goals first
    | (simp only [evOp, evX_congr h]; done)
    | (simp only [evOp, evX_congr (fun t ht => h t (.inl ht)), evX_congr (fun t ht => h t (.inr ht))]; done)
    | (simp only [evOp, fillA_congr h]; done)
    | (simp only [evOp, evXs_congr h]; done)
    | (simp only [evOp, evX_congr (fun t ht => h t (.inl (.inl ht))), evX_congr (fun t ht => h t (.inl (.inr ht))), evX_congr (fun t ht => h t (.inr ht))]; done)
    | (simp only [evOp, evX_congr (fun t ht => h t (.inl (.inl ht))), boundX_congr (fun t ht => h t (.inl (.inr ht))), boundX_congr (fun t ht => h t (.inr ht))]; done)
    | (simp only [evOp, evX_congr (fun t ht => h t (.inl ht)), evXs_congr (fun t ht => h t (.inr ht))]; done)
    | (simp only [evOp, evX_congr (fun t ht => h t (.inl (.inl (.inl ht)))), boundX_congr (fun t ht => h t (.inl (.inl (.inr ht)))), boundX_congr (x := some _) (fun t ht => h t (.inl (.inr ht))), boundX_congr (x := some _) (fun t ht => h t (.inr ht))]; done)
    | rfl

end

theorem evOp_ck {fr : T AV} {call : Nat → List AV → Heap → Option (AV × Heap)} {ts : List Nat} {o : AOp} {H : Heap} {v : AV} {H' : Heap} : evOp call (.ck ts o) fr H = some (v, H') ↔ evOp call o fr H = some (v, H') ∧ Unch ts fr H H' := by
  rw [evOp]
  rcases evOp call o fr H with _ | ⟨v1, H1⟩
  · simp
  · simp only []
    constructor
    · intro h
      split at h
      · rename_i hu; cases h; exact ⟨rfl, hu⟩
      · cases h
    · rintro ⟨h, hu⟩
      cases h
      rw [if_pos hu]

/-! ### regions that draw their order -/
section
variable {fr : T AV} {call : Nat → List AV → Heap → Option (AV × Heap)} {H H' : Heap} {v : AV} {ao : AOp}

theorem pure_any (hp : isPure ao = true) (h : evOp call ao fr H = some (v, H')) : H' = H ∧ ∀ H2, evOp call ao fr H2 = some (v, H2) := by
  cases ao <;> simp [isPure] at hp <;> simp only [evOp] at h ⊢ <;>
    (repeat' (first | (cases h; refine ⟨rfl, fun H2 => ?_⟩; simp_all; done) | (split at h) | cases h))

theorem reader_same (hp : isReader ao = true) (h : evOp call ao fr H = some (v, H')) : H' = H := by
  cases ao <;> simp [isReader] at hp <;> simp only [evOp] at h <;>
    (repeat' (first | (cases h; rfl) | (split at h) | cases h))

theorem quiet_same (hp : isLoud ao = false) (h : evOp call ao fr H = some (v, H')) : H' = H := by
  simp only [isLoud, Bool.and_eq_false_iff, Bool.not_eq_false'] at hp
  rcases hp with hp | hp
  · exact (pure_any hp h).1
  · exact reader_same hp h

end

end Go.AM
