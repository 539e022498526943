/- The machine, and that it tells the truth of the program. No condition. -/
import Derived.Test.YtkohanehgndmhaaAM12
set_option linter.all false
namespace Go.AM
open Go.RowKit
/-! ## A region that draws, whose readers and makers come up beside what acts -/
def AOp.base : AOp → AOp
  | .ck _ o => o
  | o => o
structure CO (l : List AOper) (M : List Nat) (π : Nat → Nat) : Prop where
  ord : ∀ (i j : Nat), i < l.length → j < l.length → preds M (π i) (π j) = true → j < i
  inj : ∀ (i j : Nat), i < l.length → j < l.length → π i = π j → i = j
  dst : ∀ (i j : Nat) (p q : AOper) (d : Nat), l[i]? = some p → l[j]? = some q → p.dst = some d → q.dst = some d → j = i
  ops : ∀ (i j : Nat) (p q : AOper) (t : Nat), l[i]? = some p → l[j]? = some q → (t ∈ p.op.base.tmps ∨ ∃ w, p.guard = some (t, w)) → q.dst = some t → preds M (π i) (π j) = true ∨ (preds M (π j) (π i) = true ∧ ¬ (isReader p.op = true ∧ t ∈ rdT p.op))
  act : ∀ (i j : Nat) (p q : AOper), l[i]? = some p → l[j]? = some q → isPure p.op = false → isActor q.op = true → j < i → preds M (π i) (π j) = true
  ckr : ∀ (i j : Nat) (p q : AOper) (t : Nat), l[i]? = some p → l[j]? = some q → isActor p.op = true → isReader q.op = true → j < i → preds M (π i) (π j) = false → t ∈ rdT q.op → ∃ ts o, p.op = .ck ts o ∧ t ∈ ts
  cka : ∀ (i j : Nat) (p q : AOper) (t : Nat), l[i]? = some p → l[j]? = some q → isActor p.op = true → isAlloc q.op = true → j < i → preds M (π i) (π j) = false → q.dst = some t → ∃ ts o, p.op = .ck ts o ∧ t ∈ ts
  rd : ∀ (i : Nat) (p : AOper), l[i]? = some p → isReader p.op = true → rdT p.op ≠ []
  al : ∀ (i : Nat) (p : AOper), l[i]? = some p → isAlloc p.op = true → ∃ d, p.dst = some d
section
variable {l : List AOper} {M ord : List Nat}
theorem wrap_len : (wrapCk l M ord).length = ord.length := by simp [wrapCk]
theorem wrap_get {i a : Nat} (h : ord[i]? = some a) : (wrapCk l M ord)[i]? = some (wrapOne l M ord i a) := by
  simp only [wrapCk, List.getElem?_map, List.getElem?_zipIdx, h, Option.map_some, Nat.zero_add]
theorem wrap_get' {i : Nat} {o : AOper} (h : (wrapCk l M ord)[i]? = some o) : ∃ a, ord[i]? = some a ∧ o = wrapOne l M ord i a := by
  have hi : i < ord.length := by rw [← wrap_len (l := l) (M := M)]; exact (List.getElem?_eq_some_iff.1 h).1
  have ho : ord[i]? = some ord[i] := by simp [hi]
  rw [wrap_get ho] at h
  cases h
  exact ⟨_, ho, rfl⟩
def ckTs (l : List AOper) (B : List Nat) (ord : List Nat) (i a : Nat) : List Nat := (ord.take i).flatMap fun j => match l[j]? with | some q => if preds B a j then [] else if isReader q.op then rdT q.op else if isAlloc q.op then q.dst.toList else [] | none => []
theorem wrapOne_eq {i a : Nat} {p : AOper} (hp : l[a]? = some p) : wrapOne l M ord i a = if isActor p.op = true then (match ckTs l M ord i a with | [] => p | ts => ⟨p.dst, .ck ts p.op, p.guard⟩) else p := by
  unfold wrapOne ckTs
  simp only [hp]
  rfl
theorem wrapOne_spec {i a : Nat} {p : AOper} (hp : l[a]? = some p) : (wrapOne l M ord i a).dst = p.dst ∧ (wrapOne l M ord i a).guard = p.guard ∧
    ((wrapOne l M ord i a).op = p.op ∨ (isActor p.op = true ∧ ∃ ts, (wrapOne l M ord i a).op = .ck ts p.op)) ∧
    (isActor p.op = true → ∀ t, t ∈ ckTs l M ord i a → ∃ ts, (wrapOne l M ord i a).op = .ck ts p.op ∧ t ∈ ts) := by
  rw [wrapOne_eq hp]
  generalize ckTs l M ord i a = ts
  by_cases ha : isActor p.op = true
  · rw [if_pos ha]
    cases ts with
    | nil => exact ⟨rfl, rfl, .inl rfl, fun _ t ht => by cases ht⟩
    | cons t ts => exact ⟨rfl, rfl, .inr ⟨ha, _, rfl⟩, fun _ t' ht => ⟨_, rfl, ht⟩⟩
  · rw [if_neg ha]
    exact ⟨rfl, rfl, .inl rfl, fun h => absurd h ha⟩
theorem ckTs_mem {i a j b t : Nat} {q : AOper} (hj : ord[j]? = some b) (hji : j < i) (hq : l[b]? = some q) (hm : preds M a b = false) (ht : (isReader q.op = true ∧ t ∈ rdT q.op) ∨ (isReader q.op = false ∧ isAlloc q.op = true ∧ q.dst = some t)) : t ∈ ckTs l M ord i a := by
  unfold ckTs
  rw [List.mem_flatMap]
  refine ⟨b, ?_, ?_⟩
  · rw [List.mem_take_iff_getElem]
    obtain ⟨h1, h2⟩ := List.getElem?_eq_some_iff.1 hj
    exact ⟨j, by omega, h2⟩
  · rcases ht with ⟨h1, h2⟩ | ⟨h1, h2, h3⟩
    · simp [hq, hm, h1, h2]
    · simp [hq, hm, h1, h2, h3]
theorem kinds_ck {ts : List Nat} {o : AOp} : isActor (.ck ts o) = true ∧ isReader (.ck ts o) = false ∧ isAlloc (.ck ts o) = false ∧ isPure (.ck ts o) = false := ⟨rfl, rfl, rfl, rfl⟩
theorem reader_alloc {o : AOp} (h : isAlloc o = true) : isReader o = false := by cases o <;> simp [isAlloc] at h <;> rfl
/-- what the check says of the order and of what it holds -/
theorem canon_spec (h : canonOk l M ord = true) : ord.length = l.length ∧ (∀ a : Nat, a < l.length → ∃ j : Nat, ord[j]? = some a) ∧ (∀ (i a : Nat), ord[i]? = some a → a < l.length) ∧ (∀ (a : Nat) (p : AOper), l[a]? = some p → isCk p.op = false) ∧ CO (wrapCk l M ord) M (fun i => ord.getD i 0) := by
  simp only [canonOk, Bool.and_eq_true] at h
  obtain ⟨⟨⟨h1, h2⟩, h3⟩, h4⟩ := h
  have hlen : ord.length = l.length := by simpa using h1
  have hlt : ∀ (j a : Nat), ord[j]? = some a → a < l.length := fun j a e => by
    have := List.all_eq_true.1 h3 a (List.mem_of_getElem? e)
    simpa using this
  have key : ∀ (i j a b : Nat) (p q : AOper), ord[i]? = some a → ord[j]? = some b → l[a]? = some p → l[b]? = some q →
    (a = b → i = j) ∧ (preds M a b = true → j < i) ∧ (∀ d, p.dst = some d → q.dst = some d → i = j) ∧
    (∀ t, (t ∈ p.op.tmps ∨ ∃ w, p.guard = some (t, w)) → q.dst = some t → preds M a b = true ∨ (preds M b a = true ∧ ¬ (isReader p.op = true ∧ t ∈ rdT p.op))) ∧
    (isActor p.op = true → isActor q.op = true → j < i → preds M a b = true) ∧
    ((isReader p.op = true ∨ isAlloc p.op = true) → isActor q.op = true → j < i → preds M a b = true) ∧
    (isReader p.op = true → rdT p.op ≠ []) ∧ (isAlloc p.op = true → p.dst.isSome = true) ∧ isCk p.op = false := by
    intro i j a b p q hi hj hp hq
    have hi' : i < l.length := by rw [← hlen]; exact (List.getElem?_eq_some_iff.1 hi).1
    have hj' : j < l.length := by rw [← hlen]; exact (List.getElem?_eq_some_iff.1 hj).1
    have := List.all_eq_true.1 (List.all_eq_true.1 h4 i (by simpa using hi')) j (by simpa using hj')
    simp only [hi, hj, hp, hq, Bool.and_eq_true] at this
    obtain ⟨⟨⟨⟨⟨⟨⟨⟨c1, c2⟩, c3⟩, c4⟩, c5⟩, c7⟩, c8⟩, c9⟩, c10⟩ := this
    refine ⟨fun e => ?_, fun e => ?_, fun d e1 e2 => ?_, fun t ht e => ?_, fun e1 e2 e3 => ?_, fun e1 e2 e3 => ?_, fun e => ?_, fun e => ?_, by simpa using c10⟩
    · subst e; simpa using c1
    · simpa [e] using c2
    · simpa [e1, e2] using c3
    · rw [e] at c4
      have := List.all_eq_true.1 c4 t (by
        rcases ht with ht | ⟨w, hw⟩
        · exact List.mem_append_left _ ht
        · exact List.mem_append_right _ (by simp [hw]))
      simp only [bne_self_eq_false, Bool.false_or, Bool.or_eq_true, Bool.and_eq_true, Bool.not_eq_true', Bool.and_eq_false_iff] at this
      rcases this with h | ⟨h, h'⟩
      · exact .inl h
      · refine .inr ⟨h, fun ⟨k1, k2⟩ => ?_⟩
        rcases h' with h' | h'
        · rw [k1] at h'; cases h'
        · rw [List.contains_iff_mem.2 k2] at h'; cases h'
    · simpa [e1, e2, e3] using c5
    · rcases e1 with e1 | e1 <;> simpa [e1, e2, e3] using c7
    · intro hn; rw [e, hn] at c8; simp at c8
    · simpa [e] using c9
  have hsurj : ∀ a : Nat, a < l.length → ∃ j : Nat, ord[j]? = some a := fun a ha => by
    have := List.all_eq_true.1 h2 a (by simpa using ha)
    rw [List.contains_iff_mem] at this
    exact List.getElem?_of_mem this
  refine ⟨hlen, hsurj, hlt, fun a p hp => ?_, ?_⟩
  · obtain ⟨j, hj⟩ := hsurj a (List.getElem?_eq_some_iff.1 hp).1
    exact (key j j a a p p hj hj hp hp).2.2.2.2.2.2.2.2
  -- a wrapped one and what it was
  have un : ∀ (i : Nat) (p' : AOper), (wrapCk l M ord)[i]? = some p' → ∃ a p, ord[i]? = some a ∧ ord.getD i 0 = a ∧ l[a]? = some p ∧ p'.dst = p.dst ∧ p'.guard = p.guard ∧ (p'.op = p.op ∨ (isActor p.op = true ∧ ∃ ts, p'.op = .ck ts p.op)) ∧
      (isActor p.op = true → ∀ t, t ∈ ckTs l M ord i a → ∃ ts, p'.op = .ck ts p.op ∧ t ∈ ts) := by
    intro i p' hp'
    obtain ⟨a, ha, rfl⟩ := wrap_get' hp'
    have hal := hlt i a ha
    have hp : l[a]? = some l[a] := by simp [hal]
    obtain ⟨s1, s2, s3, s4⟩ := wrapOne_spec (M := M) (ord := ord) (i := i) hp
    exact ⟨a, l[a], ha, by simp [List.getD_eq_getElem?_getD, ha], hp, s1, s2, s3, s4⟩
  have gt : ∀ i, i < (wrapCk l M ord).length → ∃ a p, ord[i]? = some a ∧ ord.getD i 0 = a ∧ l[a]? = some p := fun i hi => by
    obtain ⟨a, p, k1, k2, k3, _⟩ := un i (wrapCk l M ord)[i] (by simp [hi])
    exact ⟨a, p, k1, k2, k3⟩
  -- kinds
  have kA : ∀ {p p' : AOper}, (p'.op = p.op ∨ (isActor p.op = true ∧ ∃ ts, p'.op = .ck ts p.op)) → isActor p'.op = isActor p.op := by
    rintro p p' (e | ⟨e1, ts, e⟩)
    · rw [e]
    · rw [e, e1]; rfl
  have kR : ∀ {p p' : AOper}, (p'.op = p.op ∨ (isActor p.op = true ∧ ∃ ts, p'.op = .ck ts p.op)) → (isReader p'.op = true ∨ isAlloc p'.op = true) → p'.op = p.op := by
    rintro p p' (e | ⟨e1, ts, e⟩) hr
    · exact e
    · rw [e] at hr; rcases hr with hr | hr <;> cases hr
  have kB : ∀ {p p' : AOper}, (p'.op = p.op ∨ (isActor p.op = true ∧ ∃ ts, p'.op = .ck ts p.op)) → ∀ t, t ∈ p'.op.base.tmps → t ∈ p.op.tmps := by
    rintro p p' (e | ⟨e1, ts, e⟩) t ht
    · rw [e] at ht
      cases hq : p.op <;> rw [hq] at ht <;> first | exact ht | exact List.mem_append_right _ ht
    · rw [e] at ht; exact ht
  refine ⟨fun i j hi hj h => ?_, fun i j hi hj h => ?_, fun i j p' q' d hp' hq' e1 e2 => ?_, fun i j p' q' t hp' hq' ht e => ?_, fun i j p' q' hp' hq' e1 e2 e3 => ?_, fun i j p' q' t hp' hq' e1 e2 e3 e4 e5 => ?_, fun i j p' q' t hp' hq' e1 e2 e3 e4 e5 => ?_, fun i p' hp' e => ?_, fun i p' hp' e => ?_⟩
  · obtain ⟨a, p, k1, k2, k3⟩ := gt i hi
    obtain ⟨b, q, m1, m2, m3⟩ := gt j hj
    simp only [k2, m2] at h
    exact (key i j a b p q k1 m1 k3 m3).2.1 h
  · obtain ⟨a, p, k1, k2, k3⟩ := gt i hi
    obtain ⟨b, q, m1, m2, m3⟩ := gt j hj
    simp only [k2, m2] at h
    exact (key i j a b p q k1 m1 k3 m3).1 h
  · obtain ⟨a, p, k1, k2, k3, k4, k5, k6, k7⟩ := un i p' hp'
    obtain ⟨b, q, m1, m2, m3, m4, m5, m6, m7⟩ := un j q' hq'
    exact ((key i j a b p q k1 m1 k3 m3).2.2.1 d (by rw [← k4]; exact e1) (by rw [← m4]; exact e2)).symm
  · obtain ⟨a, p, k1, k2, k3, k4, k5, k6, k7⟩ := un i p' hp'
    obtain ⟨b, q, m1, m2, m3, m4, m5, m6, m7⟩ := un j q' hq'
    simp only [k2, m2]
    have hres := (key i j a b p q k1 m1 k3 m3).2.2.2.1 t (by
      rcases ht with ht | ht
      · exact .inl (kB k6 t ht)
      · rw [k5] at ht; exact .inr ht) (by rw [← m4]; exact e)
    rcases hres with h | ⟨h, h'⟩
    · exact .inl h
    · refine .inr ⟨h, fun ⟨e1, e2⟩ => h' ?_⟩
      have he := kR k6 (.inl e1)
      rw [he] at e1 e2
      exact ⟨e1, e2⟩
  · obtain ⟨a, p, k1, k2, k3, k4, k5, k6, k7⟩ := un i p' hp'
    obtain ⟨b, q, m1, m2, m3, m4, m5, m6, m7⟩ := un j q' hq'
    simp only [k2, m2]
    have hk := key i j a b p q k1 m1 k3 m3
    rw [kA m6] at e2
    by_cases hpa : isActor p.op = true
    · exact hk.2.2.2.2.1 hpa e2 e3
    · have hpe : p'.op = p.op := by
        rcases k6 with e | ⟨e, _⟩
        · exact e
        · exact absurd e hpa
      rw [hpe] at e1
      refine hk.2.2.2.2.2.1 ?_ e2 e3
      by_cases hr : isReader p.op = true
      · exact .inl hr
      · right
        simp only [isActor, isLoud, e1] at hpa
        simpa [hr] using hpa
  · obtain ⟨a, p, k1, k2, k3, k4, k5, k6, k7⟩ := un i p' hp'
    obtain ⟨b, q, m1, m2, m3, m4, m5, m6, m7⟩ := un j q' hq'
    simp only [k2, m2] at e4
    have hqe := kR m6 (.inl e2)
    rw [hqe] at e2 e5
    obtain ⟨ts, n1, n2⟩ := k7 (by rw [← kA k6]; exact e1) t (ckTs_mem m1 e3 m3 e4 (.inl ⟨e2, e5⟩))
    exact ⟨ts, _, n1, n2⟩
  · obtain ⟨a, p, k1, k2, k3, k4, k5, k6, k7⟩ := un i p' hp'
    obtain ⟨b, q, m1, m2, m3, m4, m5, m6, m7⟩ := un j q' hq'
    simp only [k2, m2] at e4
    have hqe := kR m6 (.inr e2)
    rw [hqe] at e2
    obtain ⟨ts, n1, n2⟩ := k7 (by rw [← kA k6]; exact e1) t (ckTs_mem m1 e3 m3 e4 (.inr ⟨reader_alloc e2, e2, by rw [← m4]; exact e5⟩))
    exact ⟨ts, _, n1, n2⟩
  · obtain ⟨a, p, k1, k2, k3, k4, k5, k6, k7⟩ := un i p' hp'
    have he := kR k6 (.inl e)
    rw [he] at e ⊢
    exact (key i i a a p p k1 k1 k3 k3).2.2.2.2.2.2.1 e
  · obtain ⟨a, p, k1, k2, k3, k4, k5, k6, k7⟩ := un i p' hp'
    have he := kR k6 (.inr e)
    rw [he] at e
    have := (key i i a a p p k1 k1 k3 k3).2.2.2.2.2.2.2.1 e
    rw [k4]
    exact Option.isSome_iff_exists.1 this
end
section
variable {call : Nat → List AV → Heap → Option (AV × Heap)} {fr : T AV} {H H' : Heap} {v : AV} {ao : AOp}
theorem alloc_form (ha : isAlloc ao = true) (h : evOp call ao fr H = some (v, H')) : ∃ es cs, H' = H.alloc es cs ∧ blkOf v = some H.next ∧ ∀ H2, H2.next = H.next → evOp call ao fr H2 = some (v, H2.alloc es cs) := by
  cases ao <;> simp [isAlloc] at ha <;> simp only [evOp] at h ⊢ <;>
    (repeat' (first | (cases h; refine ⟨_, _, rfl, rfl, fun H2 hn => ?_⟩; simp_all; done) | (split at h) | cases h))
theorem reader_dep (hp : isReader ao = true) (hn : rdT ao ≠ []) (h : evOp call ao fr H = some (v, H')) {H2 : Heap} (hb : ∀ t, t ∈ rdT ao → ∀ u, fr.get t = some u → ∀ b, blkOf u = some b → (H.blks.get b).isSome = true → H2.blks.get b = H.blks.get b) : evOp call ao fr H2 = some (v, H2) := by
  have hx : ∀ (x : AX), x.tmps ≠ [] → ∃ t, x = .t t := fun x hx => by
    cases x with
    | t t => exact ⟨t, rfl⟩
    | c v => simp [AX.tmps] at hx
  cases ao <;> simp [isReader] at hp <;> simp only [rdT] at hn hb <;> obtain ⟨t, rfl⟩ := hx _ hn <;> simp only [AX.tmps, List.mem_singleton] at hb <;> have hb := hb t rfl <;> simp only [evOp, evX] at h ⊢ <;>
    (cases hu : fr.get t with
     | none => simp [hu] at h
     | some u =>
       have hb := hb u hu
       simp only [hu] at h ⊢
       cases u <;> simp only [blkOf, Option.some.injEq, forall_eq'] at hb <;> (try simp only [getN] at h ⊢) <;>
         (first
          | (rename_i b _; cases hk : H.blks.get b with
             | none => simp [hk] at h
             | some blk => rw [hk] at hb; have hb := hb rfl; simp only [hk, hb] at h ⊢; repeat' (first | (cases h; simp_all; done) | (split at h) | cases h))
          | (rename_i b _ _ _ _; cases hk : H.blks.get b with
             | none => simp [hk] at h <;> (repeat' (first | (cases h; done) | split at h))
             | some blk => rw [hk] at hb; have hb := hb rfl; simp only [hk, hb] at h ⊢; repeat' (first | (cases h; simp_all; done) | (split at h) | cases h))
          | (repeat' (first | (cases h; simp_all; done) | (split at h) | cases h))))
end
end Go.AM
