/- The machine, and that it tells the truth of the program. No condition. -/
import Derived.Test.YtlkcohidkhbipaaGreatAMb
import Derived.Orders
set_option linter.all false
namespace Go.AM
open Go.RowKit
def Closed (ops : Array Oper) (listed : Array Bool) : Prop := ∀ (d : Nat) (o : Oper), ops[d]? = some o → listed.getD d false = true → ∀ e ∈ o.after, Region.binds .any e = true → listed.getD e.on false = true
theorem bit_fold (B : List Nat) (i : Nat) : ∀ (l : List Edge) (s : Nat), (l.foldl (fun s e => if Region.binds .any e then s ||| (2 ^ e.on ||| B.getD e.on 0) else s) s).testBit i = true →
 s.testBit i = true ∨ ∃ e ∈ l, Region.binds .any e = true ∧ (e.on = i ∨ (B.getD e.on 0).testBit i = true)
 | [], s, h => .inl h
 | e :: l, s, h => by
   simp only [List.foldl_cons] at h
   rcases bit_fold B i l _ h with h | ⟨e', he', h⟩
   ·split at h
    ·rename_i hb
     rw [Nat.testBit_or, Nat.testBit_or, Bool.or_eq_true, Bool.or_eq_true, Nat.testBit_two_pow] at h
     rcases h with h | h | h
     ·exact .inl h
     ·exact .inr ⟨e, by simp, hb, .inl (by simpa using h)⟩
     ·exact .inr ⟨e, by simp, hb, .inr h⟩
    ·exact .inl h
   ·exact .inr ⟨e', by simp [he'], h⟩
theorem masks_closed {ops : Array Oper} {B : List Nat} (hB : masksOk ops.toList B = true) {listed : Array Bool} (hc : Closed ops listed) :
 ∀ (d i : Nat), (B.getD d 0).testBit i = true → listed.getD d false = true → i < d ∧ listed.getD i false = true := by
 have hlen : ops.toList.length = B.length := by simp only [masksOk, Bool.and_eq_true, beq_iff_eq] at hB; exact hB.1
 have hall : ∀ d o, ops[d]? = some o → maskOf B o = B.getD d 0 ∧ ∀ e ∈ o.after.toList, Region.binds .any e = true → e.on < d := by
  intro d o ho
  simp only [masksOk, Bool.and_eq_true, List.all_eq_true] at hB
  have hd : d < ops.size := (Array.getElem?_eq_some_iff.1 ho).1
  have hd' : d < B.length := by rw [← hlen]; simpa using hd
  have hm : (((o, B[d]) : Oper × Nat), d) ∈ (ops.toList.zip B).zipIdx := by
   rw [List.mem_zipIdx_iff_getElem?]
   rw [List.getElem?_zip_eq_some]
   exact ⟨by simpa using ho, by simp [hd']⟩
  obtain ⟨h1, h2⟩ := hB.2 _ hm
  refine ⟨?_, ?_⟩
  ·rw [beq_iff_eq] at h1
   simp only at h1
   rw [h1]
   simp [List.getD, hd']
  ·intro e he hb
   have := h2 e he
   simpa [hb] using this
 intro d
 induction d using Nat.strongRecOn with
 | _ d ih =>
   intro i hbit hl
   cases ho : ops[d]? with
   | none =>
     have : B.length ≤ d := by rw [← hlen]; simpa using ho
     simp [List.getD, List.getElem?_eq_none this] at hbit
   | some o =>
     obtain ⟨h1, h2⟩ := hall d o ho
     rw [← h1] at hbit
     rcases bit_fold B i _ _ hbit with h | ⟨e, he, hb, h⟩
     ·simp at h
     ·have hlt := h2 e he hb
      have hle := hc d o ho hl e (by simpa using he) hb
      rcases h with h | h
      ·rw [← h]; exact ⟨hlt, hle⟩
      ·obtain ⟨k1, k2⟩ := ih e.on hlt i h hle
       exact ⟨by omega, k2⟩
section
variable {fr fr' : T AV} {call : Nat → List AV → Heap → Option (AV × Heap)}
theorem evX_congr {x : AX} (h : ∀ t ∈ x.tmps, fr.get t = fr'.get t) : evX fr x = evX fr' x := by
 cases x with
 | t n => exact h n (by simp [AX.tmps])
 | c v => rfl
theorem evXs_congr : ∀ {xs : List AX}, (∀ t ∈ xs.flatMap AX.tmps, fr.get t = fr'.get t) → evXs fr xs = evXs fr' xs
 | [], _ => rfl
 | x :: xs, h => by
   have h1 := evX_congr (fr := fr) (fr' := fr') (x := x) fun t ht => h t (by simp [ht])
   have h2 := evXs_congr (xs := xs) fun t ht => h t (by
    rw [List.flatMap_cons]; exact List.mem_append_right _ ht)
   simp only [evXs, h1, h2]
theorem fillA_congr : ∀ {ps : List (Nat × Nat × AX)} {cs : List AV}, (∀ t ∈ ps.flatMap (fun p => p.2.2.tmps), fr.get t = fr'.get t) → fillA fr cs ps = fillA fr' cs ps
 | [], _, _ => rfl
 | (o, s, x) :: ps, cs, h => by
   have h1 := evX_congr (fr := fr) (fr' := fr') (x := x) fun t ht => h t (by rw [List.flatMap_cons]; exact List.mem_append_left _ ht)
   have h2 := fun cs => fillA_congr (ps := ps) (cs := cs) fun t ht => h t (by rw [List.flatMap_cons]; exact List.mem_append_right _ ht)
   simp only [fillA, h1, h2]
theorem boundX_congr {d hi : Nat} {x : Option AX} (h : ∀ t ∈ optTmps x, fr.get t = fr'.get t) : boundX fr d hi x = boundX fr' d hi x := by
 cases x with
 | none => rfl
 | some x => simp only [boundX, evX_congr (fr := fr) (fr' := fr') (x := x) h]
theorem Unch_congr {ts : List Nat} {H H' : Heap} (h : ∀ t ∈ ts, fr.get t = fr'.get t) : Unch ts fr H H' = Unch ts fr' H H' := by
 apply propext
 constructor
 ·intro k t ht
  obtain ⟨v, e, k2⟩ := k t ht
  exact ⟨v, by rw [← h t ht]; exact e, k2⟩
 ·intro k t ht
  obtain ⟨v, e, k2⟩ := k t ht
  exact ⟨v, by rw [h t ht]; exact e, k2⟩
theorem evOp_congr {ao : AOp} {H : Heap} (h : ∀ t ∈ ao.tmps, fr.get t = fr'.get t) : evOp call ao fr H = evOp call ao fr' H := by
 induction ao
 case ck ts o ih =>
  simp only [AOp.tmps, List.mem_append] at h
  have e : ∀ H1 H2, Unch ts fr H1 H2 = Unch ts fr' H1 H2 := fun _ _ => Unch_congr (fun t ht => h t (.inl ht))
  have e2 := ih (fun t ht => h t (.inr ht))
  rw [evOp, evOp, e2]
  rcases evOp call o fr' H with _ | ⟨v, H'⟩
  ·rfl
  ·simp only []
   split
   ·rename_i h1
    split
    ·rfl
    ·rename_i h2; exact absurd (by rw [← e]; exact h1) h2
   ·rename_i h1
    split
    ·rename_i h2; exact absurd (by rw [e]; exact h2) h1
    ·rfl
 all_goals simp only [AOp.tmps, List.mem_append] at h
 all_goals first
  | (simp only [evOp, evX_congr h]; done)
  | (simp only [evOp, evX_congr (fun t ht => h t (.inl ht)), evX_congr (fun t ht => h t (.inr ht))]; done)
  | (simp only [evOp, fillA_congr h]; done)
  | (simp only [evOp, evXs_congr h]; done)
  | (simp only [evOp, evX_congr (fun t ht => h t (.inl (.inl ht))), evX_congr (fun t ht => h t (.inl (.inr ht))), evX_congr (fun t ht => h t (.inr ht))]; done)
  | (simp only [evOp, evX_congr (fun t ht => h t (.inl (.inl ht))), boundX_congr (fun t ht => h t (.inl (.inr ht))), boundX_congr (fun t ht => h t (.inr ht))]; done)
  | (simp only [evOp, evX_congr (fun t ht => h t (.inl ht)), evXs_congr (fun t ht => h t (.inr ht))]; done)
  | (simp only [evOp, evX_congr (fun t ht => h t (.inl (.inl (.inl ht)))), boundX_congr (fun t ht => h t (.inl (.inl (.inr ht)))), boundX_congr (x := some _) (fun t ht => h t (.inl (.inr ht))), boundX_congr (x := some _) (fun t ht => h t (.inr ht))]; done)
  | rfl
end
theorem evOp_ck {fr : T AV} {call : Nat → List AV → Heap → Option (AV × Heap)} {ts : List Nat} {o : AOp} {H : Heap} {v : AV} {H' : Heap} : evOp call (.ck ts o) fr H = some (v, H') ↔ evOp call o fr H = some (v, H') ∧ Unch ts fr H H' := by
 rw [evOp]
 rcases evOp call o fr H with _ | ⟨v1, H1⟩
 ·simp
 ·simp only []
  constructor
  ·intro h
   split at h
   ·rename_i hu; cases h; exact ⟨rfl, hu⟩
   ·cases h
  ·rintro ⟨h, hu⟩
   cases h
   rw [if_pos hu]
/-! ### regions that draw their order -/
section
variable {fr : T AV} {call : Nat → List AV → Heap → Option (AV × Heap)} {H H' : Heap} {v : AV} {ao : AOp}
theorem pure_any (hp : isPure ao = true) (h : evOp call ao fr H = some (v, H')) : H' = H ∧ ∀ H2, evOp call ao fr H2 = some (v, H2) := by
 cases ao <;> simp [isPure] at hp <;> simp only [evOp] at h ⊢ <;>
  (repeat' (first | (cases h; refine ⟨rfl, fun H2 => ?_⟩; simp_all; done) | (split at h) | cases h))
theorem reader_same (hp : isReader ao = true) (h : evOp call ao fr H = some (v, H')) : H' = H := by
 cases ao <;> simp [isReader] at hp <;> simp only [evOp] at h <;>
  (repeat' (first | (cases h; rfl) | (split at h) | cases h))
theorem quiet_same (hp : isLoud ao = false) (h : evOp call ao fr H = some (v, H')) : H' = H := by
 simp only [isLoud, Bool.and_eq_false_iff, Bool.not_eq_false'] at hp
 rcases hp with hp | hp
 ·exact (pure_any hp h).1
 ·exact reader_same hp h
end
end Go.AM
namespace Go.AM
open Go.RowKit
theorem getElem?_of_zipIdx {α : Type} {l : List α} {i : Nat} {x : α} (h : l[i]? = some x) : (x, i) ∈ l.zipIdx := by
 rw [List.mem_zipIdx_iff_getElem?]; exact h
structure DrawOk (l : List AOper) (B : List Nat) : Prop where
 dst : ∀ (i j : Nat) (p q : AOper) (d : Nat), l[i]? = some p → l[j]? = some q → p.dst = some d → q.dst = some d → j = i
 ops : ∀ (i j : Nat) (p q : AOper) (t : Nat), l[i]? = some p → l[j]? = some q → (t ∈ p.op.tmps ∨ ∃ w, p.guard = some (t, w)) → q.dst = some t → (B.getD i 0).testBit j = true
 loud : ∀ (i j : Nat) (p q : AOper), l[i]? = some p → l[j]? = some q → isPure p.op = false → isPure q.op = false → ¬ (isReader p.op = true ∧ isReader q.op = true) → j < i → (B.getD i 0).testBit j = true
theorem drawOk_spec {l : List AOper} {B : List Nat} (h : drawOk l B = true) : DrawOk l B := by
 simp only [drawOk, List.all_eq_true, Bool.and_eq_true] at h
 refine ⟨?_, ?_, ?_⟩
 ·intro i j p q d hp hq hpd hqd
  have h1 := (h _ (getElem?_of_zipIdx hp)).1.1
  simp only [hpd] at h1
  rw [List.all_eq_true] at h1
  have := h1 _ (getElem?_of_zipIdx hq)
  simp only [hqd, Bool.or_eq_true, beq_iff_eq, bne_self_eq_false, Bool.false_eq_true, or_false] at this
  exact this
 ·intro i j p q t hp hq ht hqd
  have h1 := (h _ (getElem?_of_zipIdx hp)).1.2
  have := h1 t (by
   rcases ht with ht | ⟨w, hw⟩
   ·exact List.mem_append_left _ ht
   ·exact List.mem_append_right _ (by simp [hw])) _ (getElem?_of_zipIdx hq)
  simpa [hqd] using this
 ·intro i j p q hp hq hpp hqp hr hlt
  have h1 := (h _ (getElem?_of_zipIdx hp)).2
  simp only [hpp, Bool.false_or, List.all_eq_true] at h1
  have := h1 _ (getElem?_of_zipIdx hq)
  simp only [hqp, Bool.false_or, Bool.or_eq_true, Bool.and_eq_true, decide_eq_true_eq] at this
  rcases this with (h2 | h2) | h2
  ·exact (hr h2).elim
  ·omega
  ·exact h2
section
variable {call : Nat → List AV → Heap → Option (AV × Heap)}
def One (call : Nat → List AV → Heap → Option (AV × Heap)) (o : AOper) (fr : T AV) (H : Heap) (fr' : T AV) (H' : Heap) : Prop :=
 (∃ v, (o.guard = none ∨ ∃ g w, o.guard = some (g, w) ∧ fr.get g = some (.v (.bool w))) ∧ evOp call o.op fr H = some (v, H') ∧ fr' = putD fr o.dst v) ∨
 ((∃ g w, o.guard = some (g, w) ∧ ((∃ b, fr.get g = some (.v (.bool b)) ∧ b ≠ w) ∨ ∃ cs, fr.get g = some (.tup cs))) ∧ H' = H ∧ fr' = putD fr o.dst (.tup []))
theorem evOps_cons {o : AOper} {l : List AOper} {fr : T AV} {H : Heap} {fr' : T AV} {H' : Heap} (h : evOps call (o :: l) fr H = some (fr', H')) :
 ∃ fr1 H1, One call o fr H fr1 H1 ∧ evOps call l fr1 H1 = some (fr', H') := by
 simp only [evOps] at h
 split at h
 ·rename_i hg
  split at h
  ·rename_i v H1 he
   exact ⟨_, _, .inl ⟨v, .inl hg, he, rfl⟩, h⟩
  ·cases h
 ·rename_i g w hg
  split at h
  ·rename_i b hb
   split at h
   ·rename_i hbw
    subst hbw
    split at h
    ·rename_i v H1 he
     exact ⟨_, _, .inl ⟨v, .inr ⟨g, b, hg, hb⟩, he, rfl⟩, h⟩
    ·cases h
   ·rename_i hbw
    exact ⟨_, _, .inr ⟨⟨g, w, hg, .inl ⟨b, hb, hbw⟩⟩, rfl, rfl⟩, h⟩
  ·rename_i cs hb
   exact ⟨_, _, .inr ⟨⟨g, w, hg, .inr ⟨cs, hb⟩⟩, rfl, rfl⟩, h⟩
  ·cases h
structure Run (call : Nat → List AV → Heap → Option (AV × Heap)) (l : List AOper) (frs : Nat → T AV) (Hs : Nat → Heap) : Prop where
 one : ∀ (k : Nat) (o : AOper), l[k]? = some o → One call o (frs k) (Hs k) (frs (k + 1)) (Hs (k + 1))
theorem run_of : ∀ {l : List AOper} {fr : T AV} {H : Heap} {fr' : T AV} {H' : Heap}, evOps call l fr H = some (fr', H') →
 ∃ frs Hs, Run call l frs Hs ∧ frs 0 = fr ∧ Hs 0 = H ∧ frs l.length = fr' ∧ Hs l.length = H'
 | [], fr, H, fr', H', h => by
   simp only [evOps, Option.some.injEq, Prod.mk.injEq] at h
   exact ⟨fun _ => fr, fun _ => H, ⟨fun k o hk => by simp at hk⟩, rfl, rfl, h.1, h.2⟩
 | o :: l, fr, H, fr', H', h => by
   obtain ⟨fr1, H1, h1, h2⟩ := evOps_cons h
   obtain ⟨frs, Hs, hr, e1, e2, e3, e4⟩ := run_of h2
   refine ⟨fun k => match k with | 0 => fr | k + 1 => frs k, fun k => match k with | 0 => H | k + 1 => Hs k, ⟨?_⟩, rfl, rfl, by simpa using e3, by simpa using e4⟩
   intro k o' hk
   cases k with
   | zero => simp at hk; subst hk; simp only [e1, e2]; exact h1
   | succ k => exact hr.one k o' (by simpa using hk)
section
variable {l : List AOper} {frs : Nat → T AV} {Hs : Nat → Heap}
theorem One.frame {o : AOper} {fr fr' : T AV} {H H' : Heap} (h : One call o fr H fr' H') {t : Nat} (ht : o.dst ≠ some t) : fr'.get t = fr.get t := by
 have key : ∀ v, fr' = putD fr o.dst v → fr'.get t = fr.get t := by
  intro v e
  subst e
  cases hd : o.dst with
  | none => rfl
  | some d =>
    simp only [putD, T.get_set]
    rw [if_neg (fun e => ht (by rw [hd, e]))]
 rcases h with ⟨v, _, _, e⟩ | ⟨_, _, e⟩
 ·exact key _ e
 ·exact key _ e
theorem Run.stable (hr : Run call l frs Hs) {t : Nat} : ∀ (m k : Nat), k + m = l.length → (∀ (d : Nat) (q : AOper), k ≤ d → l[d]? = some q → q.dst ≠ some t) → (frs l.length).get t = (frs k).get t
 | 0, k, hk, _ => by rw [show k = l.length by omega]
 | m + 1, k, hk, h => by
   have hlt : k < l.length := by omega
   have h1 := hr.one k l[k] (by simp [hlt])
   rw [hr.stable m (k + 1) (by omega) (fun d q hd hq => h d q (by omega) hq)]
   exact h1.frame (h k l[k] (Nat.le_refl _) (by simp [hlt]))
theorem One.quiet {o : AOper} {fr fr' : T AV} {H H' : Heap} (h : One call o fr H fr' H') (hq : isLoud o.op = false) : H' = H := by
 rcases h with ⟨v, _, he, _⟩ | ⟨_, e, _⟩
 ·exact quiet_same hq he
 ·exact e
theorem Run.still (hr : Run call l frs Hs) : ∀ (m k : Nat), k + m ≤ l.length → (∀ (d : Nat) (q : AOper), k ≤ d → d < k + m → l[d]? = some q → isLoud q.op = false) → Hs (k + m) = Hs k
 | 0, k, _, _ => rfl
 | m + 1, k, hk, h => by
   have hlt : k < l.length := by omega
   have h1 := (hr.one k l[k] (by simp [hlt])).quiet (h k l[k] (Nat.le_refl _) (by omega) (by simp [hlt]))
   rw [show k + (m + 1) = (k + 1) + m by omega, hr.still m (k + 1) (by omega) (fun d q h1 h2 hq => h d q (by omega) (by omega) hq), h1]
theorem Run.mono (hm : CallsMono call) (hr : Run call l frs Hs) : ∀ (m k : Nat), k + m ≤ l.length → (Hs k).next ≤ (Hs (k + m)).next
 | 0, k, _ => Nat.le_refl _
 | m + 1, k, hk => by
   have hlt : k < l.length := by omega
   have h1 := hr.one k l[k] (by simp [hlt])
   have h2 : (Hs k).next ≤ (Hs (k + 1)).next := by
    rcases h1 with ⟨v, _, he, _⟩ | ⟨_, e, _⟩
    ·exact mono_op hm he
    ·rw [e]; exact Nat.le_refl _
   rw [show k + (m + 1) = (k + 1) + m by omega]
   exact Nat.le_trans h2 (hr.mono hm m (k + 1) (by omega))
def Upto (l : List AOper) (listed : Array Bool) (κ : Nat) : Prop :=
 κ ≤ l.length ∧ ∀ (d : Nat) (q : AOper), l[d]? = some q → isLoud q.op = true → (d < κ ↔ listed.getD d false = true)
theorem Run.upto (hr : Run call l frs Hs) {listed : Array Bool} {κ κ' : Nat} (h : Upto l listed κ) (h' : Upto l listed κ') : Hs κ = Hs κ' := by
 have key : ∀ κ κ', κ ≤ κ' → Upto l listed κ → Upto l listed κ' → Hs κ = Hs κ' := by
  intro κ κ' hle h h'
  have := hr.still (κ' - κ) κ (by have := h'.1; omega) (fun d q h1 h2 hq => by
   cases hl : isLoud q.op with
   | false => rfl
   | true =>
     have a1 := (h.2 d q hq hl)
     have a2 := (h'.2 d q hq hl)
     have : d < κ := a1.2 (a2.1 (by omega))
     omega)
  rw [show κ + (κ' - κ) = κ' by omega] at this
  exact this.symm
 rcases Nat.le_total κ κ' with hle | hle
 ·exact key _ _ hle h h'
 ·exact (key _ _ hle h' h).symm
end
def mkFrame (fr : T AV) : List Nat → T AV
 | [] => .e
 | t :: ts => (mkFrame fr ts).set t (fr.get t)
theorem mkFrame_get (fr : T AV) : ∀ (ts : List Nat) (t : Nat), (mkFrame fr ts).get t = if t ∈ ts then fr.get t else none
 | [], t => by simp [mkFrame, T.get_e]
 | s :: ts, t => by
   simp only [mkFrame, T.get_set]
   by_cases h : t = s
   ·subst h; simp
   ·rw [if_neg h, mkFrame_get fr ts]
    simp [h]
def FE (φ : Phi) (l : List AOper) (F : T AV) (listed : Array Bool) (tmps : Array Value) : Prop :=
 ∀ t v, F.get t = some v → (∀ (d : Nat) (q : AOper), l[d]? = some q → q.dst = some t → listed.getD d false = true) → ∃ x, tmps[t]? = some x ∧ VRel φ v x
structure DS (P : Program) (B N : Nat) (ops : Array Oper) (l : List AOper) (frs : Nat → T AV) (Hs : Nat → Heap) (φ0 : Phi) (H0 : Heap) (w0 : World) (listed : Array Bool) (a : Act) (w : World) : Prop where
 closed : Closed ops listed
 size : listed.size = ops.size
 ex : ∃ (φ : Phi) (κ : Nat), Upto l listed κ ∧ Step B φ0 H0 w0 φ (Hs κ) w ∧ FE φ l (frs l.length) listed a.tmps ∧ (∀ b, (Hs κ).next ≤ b → b < (Hs l.length).next → φ b = none)
 tmps : N ≤ a.tmps.size
 defers : a.defers = []
def unl (listed : Array Bool) (n : Nat) : Nat := ((List.range n).filter fun i => !listed.getD i true).length
theorem filter_lt {p q : Nat → Bool} (h : ∀ x, q x = true → p x = true) : ∀ (l : List Nat) (i : Nat), i ∈ l → p i = true → q i = false → (l.filter q).length < (l.filter p).length
 | x :: l, i, hi, hp, hq => by
   have hle : ∀ l : List Nat, (l.filter q).length ≤ (l.filter p).length := by
    intro l
    induction l with
    | nil => simp
    | cons y l ih =>
      simp only [List.filter_cons]
      cases hy : q y with
      | true => rw [h y hy]; simp; exact ih
      | false =>
        cases hy2 : p y with
        | true => simp; omega
        | false => simpa using ih
   simp only [List.mem_cons] at hi
   rcases hi with rfl | hi
   ·simp only [List.filter_cons, hp, hq]
    have := hle l
    simp; omega
   ·have := filter_lt h l i hi hp hq
    simp only [List.filter_cons]
    cases hy : q x with
    | true => rw [h x hy]; simp; omega
    | false =>
      cases hy2 : p x with
      | true => simp; omega
      | false => simpa using this
theorem getD_in {listed : Array Bool} {i : Nat} (hi : i < listed.size) (b c : Bool) : listed.getD i b = listed.getD i c := by
 simp [hi]
theorem draw_any {P : Program} {B N : Nat} {ops : Array Oper} {l : List AOper} {M : List Nat} (hcall : CallsOk P B call) (hm : CallsMono call) (hl : l.length = ops.size) (hget : ∀ j : Nat, l[j]? = (ops[j]?).bind (cOper P N ops))
 (hM : masksOk ops.toList M = true) (hD : DrawOk l M) {frs : Nat → T AV} {Hs : Nat → Heap} (hr : Run call l frs Hs) {φ0 : Phi} {H0 : Heap} {w0 : World} {Q : Exit → Act → World → Prop}
 (hq : ∀ φ' a' w', Step B φ0 H0 w0 φ' (Hs l.length) w' → SRel B N φ' (Hs l.length) (frs l.length) a' w' → Q .normal a' w') :
 ∀ (fuel : Nat) (listed : Array Bool) (a : Act) (w : World), unl listed ops.size ≤ fuel → DS P B N ops l frs Hs φ0 H0 w0 listed a w → wpAny P .any ops Q fuel listed a w := by
 -- where nothing may come up all has
 have fin : ∀ (listed : Array Bool) (a : Act) (w : World), DS P B N ops l frs Hs φ0 H0 w0 listed a w → Region.ready .any ops listed = [] → Q .normal a w := by
  intro listed a w hs hready
  have all : ∀ d, d < ops.size → listed.getD d true = true := by
   intro d
   induction d using Nat.strongRecOn with
   | _ d ih =>
     intro hd
     cases hb : listed.getD d true with
     | true => rfl
     | false =>
       exfalso
       have hmem : d ∈ Region.ready .any ops listed := by
        rw [mem_ready]
        refine ⟨hb, ops[d], by simp [hd], ?_⟩
        intro e he hbind
        have hed : e.on < d := by
         simp only [masksOk, Bool.and_eq_true, List.all_eq_true] at hM
         have hd' : d < M.length := by have := hM.1; simp at this; omega
         have hmm : (((ops[d], M[d]) : Oper × Nat), d) ∈ (ops.toList.zip M).zipIdx := by
          rw [List.mem_zipIdx_iff_getElem?, List.getElem?_zip_eq_some]
          exact ⟨by simp [hd], by simp [hd']⟩
         have := (hM.2 _ hmm).2 e (by simpa using he)
         simpa [hbind] using this
        have := ih e.on hed (by omega)
        rw [getD_in (by rw [hs.size]; omega) false true]
        exact this
       rw [hready] at hmem
       cases hmem
  obtain ⟨φ, κ, hu, hst, hfe, hφ⟩ := hs.ex
  have hlist : ∀ d, d < l.length → listed.getD d false = true := fun d hd => by
   rw [getD_in (by rw [hs.size]; omega) false true]; exact all d (by omega)
  have hup : Upto l listed l.length := ⟨Nat.le_refl _, fun d q hq _ => by
   have hd : d < l.length := (List.getElem?_eq_some_iff.1 hq).1
   exact ⟨fun _ => hlist d hd, fun _ => hd⟩⟩
  have hH : Hs κ = Hs l.length := hr.upto hu hup
  rw [hH] at hst
  refine hq φ a w hst ⟨hst.rel, ?_, hs.tmps, hs.defers⟩
  intro t v hv
  exact hfe t v hv (fun d q hq _ => hlist d (List.getElem?_eq_some_iff.1 hq).1)
 intro fuel
 induction fuel with
 | zero =>
   intro listed a w hn hs
   have hready : Region.ready .any ops listed = [] := by
    cases hq' : Region.ready .any ops listed with
    | nil => rfl
    | cons i r =>
      exfalso
      have hi : i ∈ Region.ready .any ops listed := by rw [hq']; simp
      obtain ⟨h1, o, h2, _⟩ := mem_ready.1 hi
      have hlt : i < ops.size := (Array.getElem?_eq_some_iff.1 h2).1
      have : i ∈ (List.range ops.size).filter fun i => !listed.getD i true := by
       rw [List.mem_filter]
       exact ⟨by simpa using hlt, by rw [h1]; rfl⟩
      have h0 : ((List.range ops.size).filter fun i => !listed.getD i true).length = 0 := Nat.le_zero.1 hn
      rw [List.eq_nil_of_length_eq_zero h0] at this
      cases this
   exact ⟨hready, fin listed a w hs hready⟩
 | succ fuel ih =>
   intro listed a w hn hs
   refine ⟨fun hready => fin listed a w hs hready, fun i hi => ?_⟩
   obtain ⟨hun, o, ho, hafter⟩ := mem_ready.1 hi
   have hlt : i < ops.size := (Array.getElem?_eq_some_iff.1 ho).1
   have hisz : i < listed.size := by rw [hs.size]; exact hlt
   have hunf : listed.getD i false = false := by rw [getD_in hisz false true]; exact hun
   have hli : l[i]? = some l[i] := by simp [hl, hlt]
   generalize l[i] = ao at hli
   have hco : cOper P N ops o = some ao := by
    have := hget i
    rw [hli, ho] at this
    simpa using this.symm
   obtain ⟨c1, c2, c3, c4⟩ := cOper_some hco
   -- behind it
   have hset : ∀ d, (listed.setIfInBounds i true).getD d false = if d = i then true else listed.getD d false := by
    intro d
    by_cases hd : d = i
    ·subst hd; simp [hisz]
    ·rw [if_neg hd, getD_set_ne false (Ne.symm hd)]
   have hclosed : Closed ops (listed.setIfInBounds i true) := by
    intro d o' ho' hld e he hb
    rw [hset] at hld ⊢
    by_cases hei : e.on = i
    ·rw [if_pos hei]
    ·rw [if_neg hei]
     by_cases hd : d = i
     ·subst hd
      rw [ho] at ho'; cases ho'
      exact hafter e he hb
     ·rw [if_neg hd] at hld
      exact hs.closed d o' ho' hld e he hb
   have hbefore : ∀ j, (M.getD i 0).testBit j = true → j < i ∧ listed.getD j false = true := by
    intro j hj
    obtain ⟨k1, k2⟩ := masks_closed hM hclosed i j hj (by rw [hset, if_pos rfl])
    refine ⟨k1, ?_⟩
    rw [hset, if_neg (by omega)] at k2
    exact k2
   have hafteri : ∀ d, (M.getD d 0).testBit i = true → listed.getD d false = false := by
    intro d hd
    cases hb : listed.getD d false with
    | false => rfl
    | true =>
      have := (masks_closed hM hs.closed d i hd hb).2
      rw [hunf] at this; cases this
   have hless : unl (listed.setIfInBounds i true) ops.size ≤ fuel := by
    have : unl (listed.setIfInBounds i true) ops.size < unl listed ops.size := by
     refine filter_lt ?_ _ i (by simpa using hlt) (by rw [hun]; rfl) (by simp [hisz])
     intro x hx
     by_cases hxi : x = i
     ·subst hxi; rw [hun]; rfl
     ·rw [getD_set_ne true (Ne.symm hxi)] at hx
      exact hx
    omega
   obtain ⟨φ, κ, hu, hst, hfe, hφ⟩ := hs.ex
   -- where it isn't pure the heap is the one of the text's order
   have hat : isPure ao.op = false → Hs κ = Hs i := by
    intro hp
    refine hr.upto hu ⟨by omega, fun d q hq hld => ?_⟩
    have hqp : isPure q.op = false := by
     simp only [isLoud, Bool.and_eq_true, Bool.not_eq_true'] at hld; exact hld.1
    have hqr : isReader q.op = false := by
     simp only [isLoud, Bool.and_eq_true, Bool.not_eq_true'] at hld; exact hld.2
    rcases Nat.lt_trichotomy d i with h | h | h
    ·exact ⟨fun _ => (hbefore d (hD.loud i d ao q hli hq hp hqp (by simp [hqr]) h)).2, fun _ => h⟩
    ·subst h
     exact ⟨fun h => absurd h (Nat.lt_irrefl _), fun h => by rw [hunf] at h; cases h⟩
    ·refine ⟨fun h' => by omega, fun h' => ?_⟩
     rw [hafteri d (hD.loud d i q ao hq hli hqp hp (by simp [hqr]) h)] at h'
     cases h'
   -- what it looks at
   have hlook : ∀ t, (t ∈ ao.op.tmps ∨ ∃ w, ao.guard = some (t, w)) → (frs l.length).get t = (frs i).get t ∧ ∀ v, (frs i).get t = some v → ∃ x, a.tmps[t]? = some x ∧ VRel φ v x := by
    intro t ht
    have hw : ∀ (d : Nat) (q : AOper), l[d]? = some q → q.dst = some t → d < i ∧ listed.getD d false = true := fun d q hq hqd => hbefore d (hD.ops i d ao q t hli hq ht hqd)
    have e1 : (frs l.length).get t = (frs i).get t := hr.stable (l.length - i) i (by omega) (fun d q hd hq hqd => by
     have := (hw d q hq hqd).1; omega)
    refine ⟨e1, fun v hv => ?_⟩
    exact hfe t v (by rw [e1]; exact hv) (fun d q hq hqd => (hw d q hq hqd).2)
   -- the state behind it
   have next : ∀ {v : AV} {φ' : Phi} {x : Value} {w' : World}, frs (i + 1) = putD (frs i) ao.dst v → VRel φ' v x → (∃ κ', Upto l (listed.setIfInBounds i true) κ' ∧ Step B φ (Hs κ) w φ' (Hs κ') w' ∧ (∀ b, (Hs κ').next ≤ b → b < (Hs l.length).next → φ' b = none)) →
    wpAny P .any ops Q fuel (listed.setIfInBounds i true) (a.put o.dst x) w' := by
    intro v φ' x w' hfr hv hex
    obtain ⟨κ', hu', hst', hφ'⟩ := hex
    refine ih _ _ _ hless ⟨hclosed, by simp [hs.size], ⟨φ', κ', hu', hst.trans hst', ?_, hφ'⟩, ?_, ?_⟩
    ·intro t u htu hlist
     by_cases hd : ao.dst = some t
     ·have e1 : (frs l.length).get t = (frs (i + 1)).get t := hr.stable (l.length - (i + 1)) (i + 1) (by omega) (fun d q hd' hq hqd => by
       have := hD.dst i d ao q t hli hq hd hqd; omega)
      rw [e1, hfr, hd] at htu
      simp only [putD, T.get_set, if_true, Option.some.injEq] at htu
      subst htu
      refine ⟨x, ?_, hv⟩
      rw [← c1, hd]
      have hN : t < N := by
       rw [← c1, hd] at c3
       simpa using c3
      have := hs.tmps
      simp only [Act.put, Array.getElem?_setIfInBounds, if_true]
      rw [if_pos (by omega)]
     ·obtain ⟨y, h1, h2⟩ := hfe t u htu (fun d q hq hqd => by
       have := hlist d q hq hqd
       rw [hset] at this
       by_cases hdi : d = i
       ·subst hdi
        rw [hli] at hq; cases hq
        exact (hd hqd).elim
       ·rw [if_neg hdi] at this; exact this)
      refine ⟨y, ?_, h2.mono hst'.le⟩
      rw [← c1]
      cases hdd : ao.dst with
      | none => exact h1
      | some d =>
        simp only [Act.put, Array.getElem?_setIfInBounds]
        rw [if_neg (fun e => hd (by rw [hdd, e]))]
        exact h1
    ·have := hs.tmps
     cases o.dst <;> simpa [Act.put] using this
    ·have := hs.defers
     cases o.dst <;> simpa [Act.put] using this
   -- how far the loud ones have come behind it
   have up0 : isLoud ao.op = false → Upto l (listed.setIfInBounds i true) κ := fun hq => ⟨hu.1, fun d q hdq hld => by
    rw [hset]
    by_cases hd : d = i
    ·subst hd; rw [hli] at hdq; cases hdq; rw [hq] at hld; cases hld
    ·rw [if_neg hd]; exact hu.2 d q hdq hld⟩
   have up1 : isLoud ao.op = true → Upto l (listed.setIfInBounds i true) (i + 1) := fun hq => ⟨by omega, fun d q hdq hld => by
    have hlp : ∀ {x : AOp}, isLoud x = true → isPure x = false ∧ isReader x = false := fun h => by
     simpa [isLoud] using h
    rw [hset]
    rcases Nat.lt_trichotomy d i with h | h | h
    ·rw [if_neg (by omega)]
     exact ⟨fun _ => (hbefore d (hD.loud i d ao q hli hdq (hlp hq).1 (hlp hld).1 (by simp [(hlp hq).2]) h)).2, fun _ => by omega⟩
    ·rw [if_pos h]; exact ⟨fun _ => rfl, fun _ => by omega⟩
    ·rw [if_neg (by omega)]
     refine ⟨fun h' => by omega, fun h' => ?_⟩
     rw [hafteri d (hD.loud d i q ao hdq hli (hlp hld).1 (hlp hq).1 (by simp [(hlp hq).2]) h)] at h'
     cases h'⟩
   have hmono1 : (Hs (i + 1)).next ≤ (Hs l.length).next := by
    have := hr.mono hm (l.length - (i + 1)) (i + 1) (by omega)
    rwa [show i + 1 + (l.length - (i + 1)) = l.length by omega] at this
   unfold wpOp
   simp only [ho]
   rcases hr.one i ao hli with ⟨v, hg, he, hfr⟩ | ⟨⟨g, want, hg, hb⟩, hH, hfr⟩
   ·-- it is carried out
    have hwanted : Region.wanted o (yielded ops a.tmps) = true := by
     rcases c4 with ⟨g1, g2⟩ | ⟨j, want, d, g1, g2, g3⟩
     ·simp [Region.wanted, g1]
     ·rcases hg with hg | ⟨g, w', hg, hb⟩
      ·rw [g3] at hg; cases hg
      ·rw [g3] at hg; cases hg
       obtain ⟨x, e1, e2⟩ := (hlook _ (.inr ⟨_, g3⟩)).2 _ hb
       have ex := (v_inv e2).1
       subst ex
       have hy : yielded ops a.tmps j = some want := by simp only [yielded, g2, Option.bind_some, e1]
       simp [Region.wanted, g1, hy]
    rw [if_pos hwanted]
    -- on the heap that there is
    have hev : ∃ H2, evOp call ao.op (frs i) (Hs κ) = some (v, H2) ∧ H2.next ≤ (Hs l.length).next ∧ ∃ κ', Upto l (listed.setIfInBounds i true) κ' ∧ Hs κ' = H2 := by
     cases hp : isPure ao.op with
     | true =>
       refine ⟨Hs κ, (pure_any hp he).2 _, ?_, κ, up0 (by simp [isLoud, hp]), rfl⟩
       have := hr.mono hm (l.length - κ) κ (by have := hu.1; omega)
       rwa [show κ + (l.length - κ) = l.length by have := hu.1; omega] at this
     | false =>
       rw [hat hp]
       refine ⟨Hs (i + 1), he, hmono1, ?_⟩
       cases hlo : isLoud ao.op with
       | true => exact ⟨i + 1, up1 hlo, rfl⟩
       | false => exact ⟨κ, up0 hlo, by rw [hat hp, quiet_same hlo he]⟩
    obtain ⟨H2, he2, hn2, κ', hu', hκ'⟩ := hev
    have hfr2 : FRel φ (mkFrame (frs i) ao.op.tmps) a.tmps := by
     intro t u htu
     rw [mkFrame_get] at htu
     split at htu
     ·rename_i ht
      exact (hlook t (.inl ht)).2 u htu
     ·cases htu
    have he3 : evOp call ao.op (mkFrame (frs i) ao.op.tmps) (Hs κ) = some (v, H2) := by
     rw [← he2]
     refine evOp_congr fun t ht => ?_
     rw [mkFrame_get, if_pos ht]
    refine .inl (oper_wp hcall hst.rel hfr2 (fun b h1 h2 => hφ b h1 (by omega)) c2.symm he3 ?_)
    intro x w' φ' hst' hv
    subst hκ'
    exact next hfr hv ⟨κ', hu', hst', fresh_right hst' hφ⟩
   ·-- it is not
    have hwanted : Region.wanted o (yielded ops a.tmps) = false := by
     rcases c4 with ⟨g1, g2⟩ | ⟨j, want', d, g1, g2, g3⟩
     ·rw [g2] at hg; cases hg
     ·rw [g3] at hg; cases hg
      rcases hb with ⟨b, hb, hne⟩ | ⟨cs, hb⟩
      ·obtain ⟨x, e1, e2⟩ := (hlook _ (.inr ⟨_, g3⟩)).2 _ hb
       have ex := (v_inv e2).1
       subst ex
       have hy : yielded ops a.tmps j = some b := by simp only [yielded, g2, Option.bind_some, e1]
       simp [Region.wanted, g1, hy, hne]
      ·obtain ⟨x, e1, e2⟩ := (hlook _ (.inr ⟨_, g3⟩)).2 _ hb
       have hy : yielded ops a.tmps j = none := by
        cases e2
        simp only [yielded, g2, Option.bind_some, e1]
       simp [Region.wanted, g1, hy]
    rw [hwanted, if_neg (by decide)]
    refine next (φ' := φ) hfr (.tup (by simp) (by simp)) ?_
    cases hlo : isLoud ao.op with
    | true =>
      have hp : isPure ao.op = false := by simp only [isLoud, Bool.and_eq_true, Bool.not_eq_true'] at hlo; exact hlo.1
      have hHk : Hs (i + 1) = Hs κ := by rw [hH, hat hp]
      refine ⟨i + 1, up1 hlo, ?_, ?_⟩
      ·rw [hHk]; exact .refl hst.rel
      ·rw [hHk]; exact hφ
    | false => exact ⟨κ, up0 hlo, .refl hst.rel, hφ⟩
theorem draw_wp {P : Program} {B N : Nat} {id : Nat} {ops : Array Oper} {l : List AOper} {M : List Nat} (hmx : P.follows .mixedOrders = true) (hcall : CallsOk P B call) (hm : CallsMono call) (hl : l.length = ops.size)
 (hget : ∀ j : Nat, l[j]? = (ops[j]?).bind (cOper P N ops)) (hM : masksOk ops.toList M = true) (hD : drawOk l M = true) {φ : Phi} {H H' : Heap} {fr fr' : T AV} {a : Act} {w : World} {Q : Exit → Act → World → Prop}
 (hs : SRel B N φ H fr a w) (hφ : ∀ b, H.next ≤ b → b < H'.next → φ b = none) (he : evOps call l fr H = some (fr', H'))
 (hq : ∀ φ' a' w', Step B φ H w φ' H' w' → SRel B N φ' H' fr' a' w' → Q .normal a' w') : (Code.region id ops true).wp P Q a w := by
 obtain ⟨frs, Hs, hr, rfl, rfl, rfl, rfl⟩ := run_of he
 refine wp_region_any hmx (draw_any hcall hm hl hget hM (drawOk_spec hD) hr (φ0 := φ) (H0 := Hs 0) (w0 := w) hq ops.size _ a _ ?_ ?_)
 ·have : ((List.range ops.size).filter fun i => !(Array.replicate ops.size false).getD i true).length ≤ (List.range ops.size).length := List.length_filter_le _ _
  simpa [unl] using this
 ·refine ⟨?_, by simp, ⟨φ, 0, ⟨Nat.zero_le _, ?_⟩, Step.drew hs.heap _, ?_, hφ⟩, hs.size, hs.defers⟩
  ·intro d o ho hld
   have hd : d < ops.size := (Array.getElem?_eq_some_iff.1 ho).1
   simp [hd] at hld
  ·intro d q hq' _
   have hd : d < ops.size := by rw [← hl]; exact (List.getElem?_eq_some_iff.1 hq').1
   simp [hd]
  ·intro t v hv hlist
   have e1 : (frs l.length).get t = (frs 0).get t := hr.stable l.length 0 (by omega) (fun d q _ hdq hqd => by
    have hd : d < ops.size := by rw [← hl]; exact (List.getElem?_eq_some_iff.1 hdq).1
    have := hlist d q hdq hqd
    simp [hd] at this)
   rw [e1] at hv
   exact hs.frame t v hv
end
end Go.AM
set_option linter.all false
namespace Go.AM
open Go.RowKit
/-! ## A region that draws, whose readers and makers come up beside what acts -/
def AOp.base : AOp → AOp
 | .ck _ o => o
 | o => o
structure CO (l : List AOper) (M : List Nat) (π : Nat → Nat) : Prop where
 ord : ∀ (i j : Nat), i < l.length → j < l.length → preds M (π i) (π j) = true → j < i
 inj : ∀ (i j : Nat), i < l.length → j < l.length → π i = π j → i = j
 dst : ∀ (i j : Nat) (p q : AOper) (d : Nat), l[i]? = some p → l[j]? = some q → p.dst = some d → q.dst = some d → j = i
 ops : ∀ (i j : Nat) (p q : AOper) (t : Nat), l[i]? = some p → l[j]? = some q → (t ∈ p.op.base.tmps ∨ ∃ w, p.guard = some (t, w)) → q.dst = some t → preds M (π i) (π j) = true ∨ (preds M (π j) (π i) = true ∧ ¬ (isReader p.op = true ∧ t ∈ rdT p.op))
 act : ∀ (i j : Nat) (p q : AOper), l[i]? = some p → l[j]? = some q → isPure p.op = false → isActor q.op = true → j < i → preds M (π i) (π j) = true
 ckr : ∀ (i j : Nat) (p q : AOper) (t : Nat), l[i]? = some p → l[j]? = some q → isActor p.op = true → isReader q.op = true → j < i → preds M (π i) (π j) = false → t ∈ rdT q.op → ∃ ts o, p.op = .ck ts o ∧ t ∈ ts
 cka : ∀ (i j : Nat) (p q : AOper) (t : Nat), l[i]? = some p → l[j]? = some q → isActor p.op = true → isAlloc q.op = true → j < i → preds M (π i) (π j) = false → q.dst = some t → ∃ ts o, p.op = .ck ts o ∧ t ∈ ts
 rd : ∀ (i : Nat) (p : AOper), l[i]? = some p → isReader p.op = true → rdT p.op ≠ []
 al : ∀ (i : Nat) (p : AOper), l[i]? = some p → isAlloc p.op = true → ∃ d, p.dst = some d
section
variable {l : List AOper} {M ord : List Nat}
theorem wrap_len : (wrapCk l M ord).length = ord.length := by simp [wrapCk]
theorem wrap_get {i a : Nat} (h : ord[i]? = some a) : (wrapCk l M ord)[i]? = some (wrapOne l M ord i a) := by
 simp only [wrapCk, List.getElem?_map, List.getElem?_zipIdx, h, Option.map_some, Nat.zero_add]
theorem wrap_get' {i : Nat} {o : AOper} (h : (wrapCk l M ord)[i]? = some o) : ∃ a, ord[i]? = some a ∧ o = wrapOne l M ord i a := by
 have hi : i < ord.length := by rw [← wrap_len (l := l) (M := M)]; exact (List.getElem?_eq_some_iff.1 h).1
 have ho : ord[i]? = some ord[i] := by simp [hi]
 rw [wrap_get ho] at h
 cases h
 exact ⟨_, ho, rfl⟩
def ckTs (l : List AOper) (B : List Nat) (ord : List Nat) (i a : Nat) : List Nat := (ord.take i).flatMap fun j => match l[j]? with | some q => if preds B a j then [] else if isReader q.op then rdT q.op else if isAlloc q.op then q.dst.toList else [] | none => []
theorem wrapOne_eq {i a : Nat} {p : AOper} (hp : l[a]? = some p) : wrapOne l M ord i a = if isActor p.op = true then (match ckTs l M ord i a with | [] => p | ts => ⟨p.dst, .ck ts p.op, p.guard⟩) else p := by
 unfold wrapOne ckTs
 simp only [hp]
 rfl
theorem wrapOne_spec {i a : Nat} {p : AOper} (hp : l[a]? = some p) : (wrapOne l M ord i a).dst = p.dst ∧ (wrapOne l M ord i a).guard = p.guard ∧
 ((wrapOne l M ord i a).op = p.op ∨ (isActor p.op = true ∧ ∃ ts, (wrapOne l M ord i a).op = .ck ts p.op)) ∧
 (isActor p.op = true → ∀ t, t ∈ ckTs l M ord i a → ∃ ts, (wrapOne l M ord i a).op = .ck ts p.op ∧ t ∈ ts) := by
 rw [wrapOne_eq hp]
 generalize ckTs l M ord i a = ts
 by_cases ha : isActor p.op = true
 ·rw [if_pos ha]
  cases ts with
  | nil => exact ⟨rfl, rfl, .inl rfl, fun _ t ht => by cases ht⟩
  | cons t ts => exact ⟨rfl, rfl, .inr ⟨ha, _, rfl⟩, fun _ t' ht => ⟨_, rfl, ht⟩⟩
 ·rw [if_neg ha]
  exact ⟨rfl, rfl, .inl rfl, fun h => absurd h ha⟩
theorem ckTs_mem {i a j b t : Nat} {q : AOper} (hj : ord[j]? = some b) (hji : j < i) (hq : l[b]? = some q) (hm : preds M a b = false) (ht : (isReader q.op = true ∧ t ∈ rdT q.op) ∨ (isReader q.op = false ∧ isAlloc q.op = true ∧ q.dst = some t)) : t ∈ ckTs l M ord i a := by
 unfold ckTs
 rw [List.mem_flatMap]
 refine ⟨b, ?_, ?_⟩
 ·rw [List.mem_take_iff_getElem]
  obtain ⟨h1, h2⟩ := List.getElem?_eq_some_iff.1 hj
  exact ⟨j, by omega, h2⟩
 ·rcases ht with ⟨h1, h2⟩ | ⟨h1, h2, h3⟩
  ·simp [hq, hm, h1, h2]
  ·simp [hq, hm, h1, h2, h3]
theorem reader_alloc {o : AOp} (h : isAlloc o = true) : isReader o = false := by cases o <;> simp [isAlloc] at h <;> rfl
theorem canon_spec (h : canonOk l M ord = true) : ord.length = l.length ∧ (∀ a : Nat, a < l.length → ∃ j : Nat, ord[j]? = some a) ∧ (∀ (i a : Nat), ord[i]? = some a → a < l.length) ∧ (∀ (a : Nat) (p : AOper), l[a]? = some p → isCk p.op = false) ∧ CO (wrapCk l M ord) M (fun i => ord.getD i 0) := by
 simp only [canonOk, Bool.and_eq_true] at h
 obtain ⟨⟨⟨h1, h2⟩, h3⟩, h4⟩ := h
 have hlen : ord.length = l.length := by simpa using h1
 have hlt : ∀ (j a : Nat), ord[j]? = some a → a < l.length := fun j a e => by
  have := List.all_eq_true.1 h3 a (List.mem_of_getElem? e)
  simpa using this
 have key : ∀ (i j a b : Nat) (p q : AOper), ord[i]? = some a → ord[j]? = some b → l[a]? = some p → l[b]? = some q →
  (a = b → i = j) ∧ (preds M a b = true → j < i) ∧ (∀ d, p.dst = some d → q.dst = some d → i = j) ∧
  (∀ t, (t ∈ p.op.tmps ∨ ∃ w, p.guard = some (t, w)) → q.dst = some t → preds M a b = true ∨ (preds M b a = true ∧ ¬ (isReader p.op = true ∧ t ∈ rdT p.op))) ∧
  (isActor p.op = true → isActor q.op = true → j < i → preds M a b = true) ∧
  ((isReader p.op = true ∨ isAlloc p.op = true) → isActor q.op = true → j < i → preds M a b = true) ∧
  (isReader p.op = true → rdT p.op ≠ []) ∧ (isAlloc p.op = true → p.dst.isSome = true) ∧ isCk p.op = false := by
  intro i j a b p q hi hj hp hq
  have hi' : i < l.length := by rw [← hlen]; exact (List.getElem?_eq_some_iff.1 hi).1
  have hj' : j < l.length := by rw [← hlen]; exact (List.getElem?_eq_some_iff.1 hj).1
  have := List.all_eq_true.1 (List.all_eq_true.1 h4 i (by simpa using hi')) j (by simpa using hj')
  simp only [hi, hj, hp, hq, Bool.and_eq_true] at this
  obtain ⟨⟨⟨⟨⟨⟨⟨⟨c1, c2⟩, c3⟩, c4⟩, c5⟩, c7⟩, c8⟩, c9⟩, c10⟩ := this
  refine ⟨fun e => ?_, fun e => ?_, fun d e1 e2 => ?_, fun t ht e => ?_, fun e1 e2 e3 => ?_, fun e1 e2 e3 => ?_, fun e => ?_, fun e => ?_, by simpa using c10⟩
  ·subst e; simpa using c1
  ·simpa [e] using c2
  ·simpa [e1, e2] using c3
  ·rw [e] at c4
   have := List.all_eq_true.1 c4 t (by
    rcases ht with ht | ⟨w, hw⟩
    ·exact List.mem_append_left _ ht
    ·exact List.mem_append_right _ (by simp [hw]))
   simp only [bne_self_eq_false, Bool.false_or, Bool.or_eq_true, Bool.and_eq_true, Bool.not_eq_true', Bool.and_eq_false_iff] at this
   rcases this with h | ⟨h, h'⟩
   ·exact .inl h
   ·refine .inr ⟨h, fun ⟨k1, k2⟩ => ?_⟩
    rcases h' with h' | h'
    ·rw [k1] at h'; cases h'
    ·rw [List.contains_iff_mem.2 k2] at h'; cases h'
  ·simpa [e1, e2, e3] using c5
  ·rcases e1 with e1 | e1 <;> simpa [e1, e2, e3] using c7
  ·intro hn; rw [e, hn] at c8; simp at c8
  ·simpa [e] using c9
 have hsurj : ∀ a : Nat, a < l.length → ∃ j : Nat, ord[j]? = some a := fun a ha => by
  have := List.all_eq_true.1 h2 a (by simpa using ha)
  rw [List.contains_iff_mem] at this
  exact List.getElem?_of_mem this
 refine ⟨hlen, hsurj, hlt, fun a p hp => ?_, ?_⟩
 ·obtain ⟨j, hj⟩ := hsurj a (List.getElem?_eq_some_iff.1 hp).1
  exact (key j j a a p p hj hj hp hp).2.2.2.2.2.2.2.2
 -- a wrapped one and what it was
 have un : ∀ (i : Nat) (p' : AOper), (wrapCk l M ord)[i]? = some p' → ∃ a p, ord[i]? = some a ∧ ord.getD i 0 = a ∧ l[a]? = some p ∧ p'.dst = p.dst ∧ p'.guard = p.guard ∧ (p'.op = p.op ∨ (isActor p.op = true ∧ ∃ ts, p'.op = .ck ts p.op)) ∧
  (isActor p.op = true → ∀ t, t ∈ ckTs l M ord i a → ∃ ts, p'.op = .ck ts p.op ∧ t ∈ ts) := by
  intro i p' hp'
  obtain ⟨a, ha, rfl⟩ := wrap_get' hp'
  have hal := hlt i a ha
  have hp : l[a]? = some l[a] := by simp [hal]
  obtain ⟨s1, s2, s3, s4⟩ := wrapOne_spec (M := M) (ord := ord) (i := i) hp
  exact ⟨a, l[a], ha, by simp [List.getD_eq_getElem?_getD, ha], hp, s1, s2, s3, s4⟩
 have gt : ∀ i, i < (wrapCk l M ord).length → ∃ a p, ord[i]? = some a ∧ ord.getD i 0 = a ∧ l[a]? = some p := fun i hi => by
  obtain ⟨a, p, k1, k2, k3, _⟩ := un i (wrapCk l M ord)[i] (by simp [hi])
  exact ⟨a, p, k1, k2, k3⟩
 -- kinds
 have kA : ∀ {p p' : AOper}, (p'.op = p.op ∨ (isActor p.op = true ∧ ∃ ts, p'.op = .ck ts p.op)) → isActor p'.op = isActor p.op := by
  rintro p p' (e | ⟨e1, ts, e⟩)
  ·rw [e]
  ·rw [e, e1]; rfl
 have kR : ∀ {p p' : AOper}, (p'.op = p.op ∨ (isActor p.op = true ∧ ∃ ts, p'.op = .ck ts p.op)) → (isReader p'.op = true ∨ isAlloc p'.op = true) → p'.op = p.op := by
  rintro p p' (e | ⟨e1, ts, e⟩) hr
  ·exact e
  ·rw [e] at hr; rcases hr with hr | hr <;> cases hr
 have kB : ∀ {p p' : AOper}, (p'.op = p.op ∨ (isActor p.op = true ∧ ∃ ts, p'.op = .ck ts p.op)) → ∀ t, t ∈ p'.op.base.tmps → t ∈ p.op.tmps := by
  rintro p p' (e | ⟨e1, ts, e⟩) t ht
  ·rw [e] at ht
   cases hq : p.op <;> rw [hq] at ht <;> first | exact ht | exact List.mem_append_right _ ht
  ·rw [e] at ht; exact ht
 refine ⟨fun i j hi hj h => ?_, fun i j hi hj h => ?_, fun i j p' q' d hp' hq' e1 e2 => ?_, fun i j p' q' t hp' hq' ht e => ?_, fun i j p' q' hp' hq' e1 e2 e3 => ?_, fun i j p' q' t hp' hq' e1 e2 e3 e4 e5 => ?_, fun i j p' q' t hp' hq' e1 e2 e3 e4 e5 => ?_, fun i p' hp' e => ?_, fun i p' hp' e => ?_⟩
 ·obtain ⟨a, p, k1, k2, k3⟩ := gt i hi
  obtain ⟨b, q, m1, m2, m3⟩ := gt j hj
  simp only [k2, m2] at h
  exact (key i j a b p q k1 m1 k3 m3).2.1 h
 ·obtain ⟨a, p, k1, k2, k3⟩ := gt i hi
  obtain ⟨b, q, m1, m2, m3⟩ := gt j hj
  simp only [k2, m2] at h
  exact (key i j a b p q k1 m1 k3 m3).1 h
 ·obtain ⟨a, p, k1, k2, k3, k4, k5, k6, k7⟩ := un i p' hp'
  obtain ⟨b, q, m1, m2, m3, m4, m5, m6, m7⟩ := un j q' hq'
  exact ((key i j a b p q k1 m1 k3 m3).2.2.1 d (by rw [← k4]; exact e1) (by rw [← m4]; exact e2)).symm
 ·obtain ⟨a, p, k1, k2, k3, k4, k5, k6, k7⟩ := un i p' hp'
  obtain ⟨b, q, m1, m2, m3, m4, m5, m6, m7⟩ := un j q' hq'
  simp only [k2, m2]
  have hres := (key i j a b p q k1 m1 k3 m3).2.2.2.1 t (by
   rcases ht with ht | ht
   ·exact .inl (kB k6 t ht)
   ·rw [k5] at ht; exact .inr ht) (by rw [← m4]; exact e)
  rcases hres with h | ⟨h, h'⟩
  ·exact .inl h
  ·refine .inr ⟨h, fun ⟨e1, e2⟩ => h' ?_⟩
   have he := kR k6 (.inl e1)
   rw [he] at e1 e2
   exact ⟨e1, e2⟩
 ·obtain ⟨a, p, k1, k2, k3, k4, k5, k6, k7⟩ := un i p' hp'
  obtain ⟨b, q, m1, m2, m3, m4, m5, m6, m7⟩ := un j q' hq'
  simp only [k2, m2]
  have hk := key i j a b p q k1 m1 k3 m3
  rw [kA m6] at e2
  by_cases hpa : isActor p.op = true
  ·exact hk.2.2.2.2.1 hpa e2 e3
  ·have hpe : p'.op = p.op := by
    rcases k6 with e | ⟨e, _⟩
    ·exact e
    ·exact absurd e hpa
   rw [hpe] at e1
   refine hk.2.2.2.2.2.1 ?_ e2 e3
   by_cases hr : isReader p.op = true
   ·exact .inl hr
   ·right
    simp only [isActor, isLoud, e1] at hpa
    simpa [hr] using hpa
 ·obtain ⟨a, p, k1, k2, k3, k4, k5, k6, k7⟩ := un i p' hp'
  obtain ⟨b, q, m1, m2, m3, m4, m5, m6, m7⟩ := un j q' hq'
  simp only [k2, m2] at e4
  have hqe := kR m6 (.inl e2)
  rw [hqe] at e2 e5
  obtain ⟨ts, n1, n2⟩ := k7 (by rw [← kA k6]; exact e1) t (ckTs_mem m1 e3 m3 e4 (.inl ⟨e2, e5⟩))
  exact ⟨ts, _, n1, n2⟩
 ·obtain ⟨a, p, k1, k2, k3, k4, k5, k6, k7⟩ := un i p' hp'
  obtain ⟨b, q, m1, m2, m3, m4, m5, m6, m7⟩ := un j q' hq'
  simp only [k2, m2] at e4
  have hqe := kR m6 (.inr e2)
  rw [hqe] at e2
  obtain ⟨ts, n1, n2⟩ := k7 (by rw [← kA k6]; exact e1) t (ckTs_mem m1 e3 m3 e4 (.inr ⟨reader_alloc e2, e2, by rw [← m4]; exact e5⟩))
  exact ⟨ts, _, n1, n2⟩
 ·obtain ⟨a, p, k1, k2, k3, k4, k5, k6, k7⟩ := un i p' hp'
  have he := kR k6 (.inl e)
  rw [he] at e ⊢
  exact (key i i a a p p k1 k1 k3 k3).2.2.2.2.2.2.1 e
 ·obtain ⟨a, p, k1, k2, k3, k4, k5, k6, k7⟩ := un i p' hp'
  have he := kR k6 (.inr e)
  rw [he] at e
  have := (key i i a a p p k1 k1 k3 k3).2.2.2.2.2.2.2.1 e
  rw [k4]
  exact Option.isSome_iff_exists.1 this
end
section
variable {call : Nat → List AV → Heap → Option (AV × Heap)} {fr : T AV} {H H' : Heap} {v : AV} {ao : AOp}
theorem alloc_form (ha : isAlloc ao = true) (h : evOp call ao fr H = some (v, H')) : ∃ es cs, H' = H.alloc es cs ∧ blkOf v = some H.next ∧ ∀ H2, H2.next = H.next → evOp call ao fr H2 = some (v, H2.alloc es cs) := by
 cases ao <;> simp [isAlloc] at ha <;> simp only [evOp] at h ⊢ <;>
  (repeat' (first | (cases h; refine ⟨_, _, rfl, rfl, fun H2 hn => ?_⟩; simp_all; done) | (split at h) | cases h))
theorem reader_dep (hp : isReader ao = true) (hn : rdT ao ≠ []) (h : evOp call ao fr H = some (v, H')) {H2 : Heap} (hb : ∀ t, t ∈ rdT ao → ∀ u, fr.get t = some u → ∀ b, blkOf u = some b → (H.blks.get b).isSome = true → H2.blks.get b = H.blks.get b) : evOp call ao fr H2 = some (v, H2) := by
 have hx : ∀ (x : AX), x.tmps ≠ [] → ∃ t, x = .t t := fun x hx => by
  cases x with
  | t t => exact ⟨t, rfl⟩
  | c v => simp [AX.tmps] at hx
 by_cases hml : ∃ x k, ao = .mlook x k
 ·obtain ⟨x, k, rfl⟩ := hml
  simp only [rdT] at hn hb
  obtain ⟨t, rfl⟩ := hx _ hn
  simp only [AX.tmps, List.mem_singleton] at hb
  have hb := hb t rfl
  simp only [evOp, evX] at h ⊢
  cases hu : fr.get t with
  | none => simp [hu] at h
  | some u =>
    have hb := hb u hu
    simp only [hu] at h ⊢
    have hm : ∀ q, mapG H u = some q → mapG H2 u = some q := fun q hq => by
     unfold mapG at hq ⊢
     split at hq
     ·split at hq
      ·rename_i b ht
       rw [if_pos ht]
       cases hk : H.blks.get b with
       | none => rw [hk] at hq; cases hq
       | some blk =>
         have := hb b rfl (by rw [hk]; rfl)
         rw [this, hk]
         rw [hk] at hq
         exact hq
      ·cases hq
     ·cases hq
    split at h
    ·rename_i m n e1 e2
     cases e1
     (try simp only [e2])
     cases hg : mapG H u with
     | none => rw [hg] at h; cases h
     | some q =>
       rw [hm q hg]
       rw [hg] at h
       obtain ⟨b, blk, l⟩ := q
       simp only at h ⊢
       split at h <;> (cases h; simp_all)
    ·cases h
 cases ao <;> simp [isReader] at hp <;> (first | exact absurd ⟨_, _, rfl⟩ hml | skip) <;> simp only [rdT] at hn hb <;> obtain ⟨t, rfl⟩ := hx _ hn <;> simp only [AX.tmps, List.mem_singleton] at hb <;> have hb := hb t rfl <;> simp only [evOp, evX] at h ⊢ <;>
  (cases hu : fr.get t with
   | none => simp [hu] at h
   | some u =>
     have hb := hb u hu
     simp only [hu] at h ⊢
     cases u <;> simp only [blkOf, Option.some.injEq, forall_eq'] at hb <;> (try simp only [getN] at h ⊢) <;>
      (first
       | (rename_i b _; cases hk : H.blks.get b with
          | none => simp [hk] at h
          | some blk => rw [hk] at hb; have hb := hb rfl; simp only [hk, hb] at h ⊢; repeat' (first | (cases h; simp_all; done) | (split at h) | cases h))
       | (rename_i b _ _ _ _; cases hk : H.blks.get b with
          | none => simp [hk] at h <;> (repeat' (first | (cases h; done) | split at h))
          | some blk => rw [hk] at hb; have hb := hb rfl; simp only [hk, hb] at h ⊢; repeat' (first | (cases h; simp_all; done) | (split at h) | cases h))
       | (repeat' (first | (cases h; simp_all; done) | (split at h) | cases h))))
end
end Go.AM
set_option linter.all false
namespace Go.AM
open Go.RowKit
section
variable {B : Nat} {φ φ' : Phi} {H H' : Heap} {w w' : World}
theorem Heap.alloc_get (H : Heap) (es : Nat) (cs : List AV) (b : Nat) : (H.alloc es cs).blks.get b = if b = H.next then some ⟨cs, true, none, es⟩ else H.blks.get b := by
 unfold Heap.alloc; simp only [T.get_set]
theorem Step.ghost (h : HRel B φ H w) (hφ : φ H.next = none) (es : Nat) (cs : List AV) : Step B φ H w φ (H.alloc es cs) w := by
 have hg := Heap.alloc_get H es cs
 have old : ∀ b blk p, (H.alloc es cs).blks.get b = some blk → φ b = some p → H.blks.get b = some blk := fun b blk p e1 e2 => by
  rw [hg] at e1
  split at e1
  ·rename_i c; rw [c, hφ] at e2; cases e2
  ·exact e1
 refine ⟨.refl _, fun _ _ h => .inl h, ⟨fun b blk p e1 e2 em => h.blk b blk p (old _ _ _ e1 e2) e2 em, fun b blk p e1 e2 em => h.mpr b blk p (old _ _ _ e1 e2) e2 em, fun b blk b' blk' p p' e1 e2 n hw hm f1 f2 => h.sep b blk b' blk' p p' (old _ _ _ e1 f1) (old _ _ _ e2 f2) n hw hm f1 f2, h.size, fun b hb => ?_⟩,
  Nat.le_succ _, rfl, rfl, rfl, Nat.le_refl _, fun _ _ _ => rfl, fun r ⟨b, blk, p, e1, e2, e3, e4⟩ => .inl ⟨b, blk, p, old _ _ _ e1 e3, e2, e3, e4⟩⟩
 have hb' : H.next + 1 ≤ b := hb
 rw [hg, if_neg (by omega)]
 exact h.lt b (by omega)
theorem HRel.bare (h : B ≤ w.heap.size) (m : Nat) : HRel B φ ⟨m, .e⟩ w :=
 ⟨fun b blk p e _ => by rw [T.get_e] at e; (cases e), fun b blk p e _ => by rw [T.get_e] at e; (cases e), fun b blk b' blk' p p' e => by rw [T.get_e] at e; (cases e), h, fun b _ => T.get_e b⟩
theorem Step.comes {φ0 : Phi} {H0 : Heap} {w0 : World} (h : Step B φ0 H0 w0 φ H w) {m es : Nat} {cs : List AV} (hφ : φ m = none) (hb : H.blks.get m = some ⟨cs, true, none, es⟩) (h0 : H0.next ≤ m) (h1 : m < H.next)
 (k : Step B φ ⟨m, .e⟩ w φ' ((⟨m, .e⟩ : Heap).alloc es cs) w') : Step B φ0 H0 w0 φ' H w' := by
 have hg : ((⟨m, .e⟩ : Heap).alloc es cs).blks.get m = some ⟨cs, true, none, es⟩ := by rw [Heap.alloc_get, if_pos rfl]
 have hno : ∀ r, ¬ Owned φ (⟨m, .e⟩ : Heap) r := fun r ⟨b, blk, p, e1, _⟩ => by
  have e1 : (T.e : T Blk).get b = some blk := e1
  rw [T.get_e] at e1; cases e1
 have hrows : ∀ r, r < w.heap.size → w'.heap[r]? = w.heap[r]? := fun r hr => k.rows r hr (hno r)
 have hd : ∀ b p, φ' b = some p → φ b = some p ∨ b = m := fun b p e => by
  rcases k.dom b p e with e | ⟨e1, e2⟩
  ·exact .inl e
  ·have e1 : m ≤ b := e1
   have e2 : b < m + 1 := e2
   exact .inr (by omega)
 have hnew : ∀ p, φ' m = some p → w.heap.size ≤ p.r := fun p e => by
  rcases k.own p.r ⟨m, _, p, hg, rfl, e, rfl⟩ with h | h
  ·exact absurd h (hno _)
  ·exact h
 have hsz : ∀ b blk p, H.blks.get b = some blk → φ b = some p → p.r < w.heap.size := fun b blk p e1 e2 => h.rel.row_lt e1 e2
 refine ⟨h.le.trans k.le, fun b p e => ?_, ⟨fun b blk p e1 e2 em => ?_, fun b blk p e1 e2 em => ?_, fun b blk b' blk' p p' e1 e2 n hw hm f1 f2 => ?_, Nat.le_trans h.rel.size k.size, h.rel.lt⟩, h.next, k.os.trans h.os, k.tape.trans h.tape, k.output.trans h.output, Nat.le_trans h.size k.size,
  fun r hr hn => ?_, fun r ⟨b, blk, p, e1, e2, e3, e4⟩ => ?_⟩
 ·rcases hd b p e with e | e
  ·exact h.dom b p e
  ·exact .inr ⟨by omega, by omega⟩
 ·by_cases c : b = m
  ·subst c
   rw [hb] at e1; cases e1
   exact k.rel.blk b _ p hg e2 em
  ·have e3 : φ b = some p := (hd b p e2).resolve_right c
   obtain ⟨k1, cur, e, fz, k2, k3, k4, k5, k6⟩ := h.rel.blk b blk p e1 e3 em
   refine ⟨k1, cur, e, fz, ?_, k3, k4, fun i c hc => ?_, k6⟩
   ·rw [hrows _ (Array.getElem?_eq_some_iff.1 k2).1]; exact k2
   ·obtain ⟨x, x1, x2, x3⟩ := k5 i c hc
    exact ⟨x, x1, x2.mono k.le, x3⟩
 ·by_cases c : b = m
  ·subst c
   rw [hb] at e1; cases e1
   exact k.rel.mpr b _ p hg e2 em
  ·have e3 : φ b = some p := (hd b p e2).resolve_right c
   obtain ⟨a, c, l, k1, k2⟩ := h.rel.mpr b blk p e1 e3 em
   exact ⟨a, c, l, by rw [hrows _ (Array.getElem?_eq_some_iff.1 k1).1]; exact k1, k2⟩
 ·by_cases c : b = m
  ·subst c
   have g2 : φ b' = some p' := (hd b' p' f2).resolve_right (fun c => n c.symm)
   have := hsz b' blk' p' e2 g2
   have := hnew p f1
   omega
  ·have g1 : φ b = some p := (hd b p f1).resolve_right c
   by_cases c' : b' = m
   ·subst c'
    have := hsz b blk p e1 g1
    have := hnew p' f2
    omega
   ·exact h.rel.sep b blk b' blk' p p' e1 e2 n hw hm g1 ((hd b' p' f2).resolve_right c')
 ·rw [hrows r (Nat.lt_of_lt_of_le hr h.size)]; exact h.rows r hr hn
 ·subst e4
  by_cases c : b = m
  ·subst c; exact .inr (Nat.le_trans h.size (hnew p e3))
  ·exact h.own p.r ⟨b, blk, p, e1, e2, (hd b p e3).resolve_right c, rfl⟩
end
section
variable {call : Nat → List AV → Heap → Option (AV × Heap)} {l : List AOper} {frs : Nat → T AV} {Hs : Nat → Heap} {π : Nat → Nat} {M : List Nat}
theorem One.calm {o : AOper} {fr fr' : T AV} {H H' : Heap} (h : One call o fr H fr' H') (ha : isActor o.op = false) : H' = H ∨ (isAlloc o.op = true ∧ ∃ es cs, H' = H.alloc es cs) := by
 by_cases hl : isAlloc o.op = true
 ·rcases h with ⟨v, _, he, _⟩ | ⟨_, e, _⟩
  ·obtain ⟨es, cs, e, _⟩ := alloc_form hl he
   exact .inr ⟨hl, es, cs, e⟩
  ·exact .inl e
 ·refine .inl (h.quiet ?_)
  simp only [isActor, Bool.and_eq_false_iff, Bool.not_eq_false'] at ha
  rcases ha with ha | ha
  ·exact ha
  ·exact absurd ha hl
structure St (B : Nat) (call : Nat → List AV → Heap → Option (AV × Heap)) (l : List AOper) (Hs : Nat → Heap) (π : Nat → Nat) (φ0 : Phi) (w0 : World) (listed : Array Bool) (φ : Phi) (κ : Nat) (w : World) : Prop where
 le : κ ≤ l.length
 step : Step B φ0 (Hs 0) w0 φ (Hs κ) w
 fresh : ∀ b, (Hs κ).next ≤ b → b < (Hs l.length).next → φ b = none
 lt : ∀ s, s ≤ κ → ∀ b, (Hs s).next ≤ b → (Hs s).blks.get b = none
 ghost : ∀ (j : Nat) (q : AOper), j < κ → l[j]? = some q → isAlloc q.op = true → listed.getD (π j) false = false → ∀ es cs, Hs (j + 1) = (Hs j).alloc es cs → φ (Hs j).next = none ∧ (Hs κ).blks.get (Hs j).next = some ⟨cs, true, none, es⟩
variable {B : Nat} {φ0 φ : Phi} {w0 w : World} {listed : Array Bool} {κ : Nat}
theorem Run.next_le (hm : CallsMono call) (hr : Run call l frs Hs) {a b : Nat} (h : a ≤ b) (hb : b ≤ l.length) : (Hs a).next ≤ (Hs b).next := by
 have := hr.mono hm (b - a) a (by omega)
 rwa [show a + (b - a) = b by omega] at this
theorem St.one (hm : CallsMono call) (hr : Run call l frs Hs) (h : St B call l Hs π φ0 w0 listed φ κ w) {q : AOper} (hq : l[κ]? = some q) (ha : isActor q.op = false) (hu : isAlloc q.op = true → listed.getD (π κ) false = false) :
 St B call l Hs π φ0 w0 listed φ (κ + 1) w := by
 have hlt : κ < l.length := (List.getElem?_eq_some_iff.1 hq).1
 rcases (hr.one κ q hq).calm ha with e | ⟨hal, es, cs, e⟩
 ·refine ⟨hlt, by rw [e]; exact h.step, by rw [e]; exact h.fresh, fun s hs b hb => ?_, fun j q' hj hq' ha' hl es cs e' => ?_⟩
  ·by_cases c : s = κ + 1
   ·subst c; rw [e] at hb ⊢; exact h.lt κ (Nat.le_refl _) b hb
   ·exact h.lt s (by omega) b hb
  ·by_cases c : j = κ
   ·subst c
    have : (Hs (j + 1)).next = (Hs j).next + 1 := by rw [e']; rfl
    rw [e] at this; omega
   ·rw [e]; exact h.ghost j q' (by omega) hq' ha' hl es cs e'
 ·have hn : (Hs (κ + 1)).next = (Hs κ).next + 1 := by rw [e]; rfl
  have hle := hr.next_le hm (show κ + 1 ≤ l.length from hlt) (Nat.le_refl _)
  have hφ : φ (Hs κ).next = none := h.fresh _ (Nat.le_refl _) (by omega)
  refine ⟨hlt, by rw [e]; exact h.step.trans (Step.ghost h.step.rel hφ es cs), fun b h1 h2 => h.fresh b (by omega) h2, fun s hs b hb => ?_, fun j q' hj hq' ha' hl es' cs' e' => ?_⟩
  ·by_cases c : s = κ + 1
   ·subst c
    rw [e, Heap.alloc_get, if_neg (by omega)]
    exact h.lt κ (Nat.le_refl _) b (by omega)
   ·exact h.lt s (by omega) b hb
  ·by_cases c : j = κ
   ·subst c
    refine ⟨hφ, ?_⟩
    rw [e', Heap.alloc_get, if_pos rfl]
   ·obtain ⟨k1, k2⟩ := h.ghost j q' (by omega) hq' ha' hl es' cs' e'
    refine ⟨k1, ?_⟩
    have : (Hs (j + 1)).next = (Hs j).next + 1 := by rw [e']; rfl
    have := hr.next_le hm (show j + 1 ≤ κ by omega) (by omega)
    rw [e, Heap.alloc_get, if_neg (by omega)]
    exact k2
def AtActor (l : List AOper) (κ : Nat) : Prop := κ = l.length ∨ ∃ o, l[κ]? = some o ∧ isActor o.op = true
theorem St.adv (hm : CallsMono call) (hr : Run call l frs Hs) : ∀ (m κ : Nat), κ + m = l.length → St B call l Hs π φ0 w0 listed φ κ w → (∀ (j : Nat) (q : AOper), κ ≤ j → l[j]? = some q → isAlloc q.op = true → listed.getD (π j) false = false) →
 ∃ κ', κ ≤ κ' ∧ St B call l Hs π φ0 w0 listed φ κ' w ∧ AtActor l κ' ∧ ∀ (j : Nat) (q : AOper), κ ≤ j → j < κ' → l[j]? = some q → isActor q.op = false
 | 0, κ, hκ, h, _ => ⟨κ, Nat.le_refl _, h, .inl (by omega), fun j q h1 h2 _ => by omega⟩
 | m + 1, κ, hκ, h, hu => by
   have hlt : κ < l.length := by omega
   have hq : l[κ]? = some l[κ] := by simp [hlt]
   cases ha : isActor l[κ].op with
   | true => exact ⟨κ, Nat.le_refl _, h, .inr ⟨_, hq, ha⟩, fun j q h1 h2 _ => by omega⟩
   | false =>
     obtain ⟨κ', k1, k2, k3, k4⟩ := St.adv hm hr m (κ + 1) (by omega) (h.one hm hr hq ha (fun hal => hu κ _ (Nat.le_refl _) hq hal)) (fun j q hj => hu j q (by omega))
     refine ⟨κ', by omega, k2, k3, fun j q h1 h2 hq' => ?_⟩
     by_cases c : j = κ
     ·subst c; rw [hq] at hq'; cases hq'; exact ha
     ·exact k4 j q (by omega) h2 hq'
end
end Go.AM
set_option linter.all false
namespace Go.AM
open Go.RowKit
section
variable {call : Nat → List AV → Heap → Option (AV × Heap)} {l : List AOper} {frs : Nat → T AV} {Hs : Nat → Heap} {π : Nat → Nat} {M : List Nat}
variable {B : Nat} {φ0 φ φ' : Phi} {w0 w w' : World} {listed listed' : Array Bool} {κ : Nat}
theorem alloc_next {es : Nat} {cs : List AV} {H H' : Heap} (e : H' = H.alloc es cs) : H'.next = H.next + 1 := by rw [e]; rfl
theorem St.weaken (h : St B call l Hs π φ0 w0 listed φ κ w) (hl : ∀ d, listed'.getD d false = false → listed.getD d false = false) : St B call l Hs π φ0 w0 listed' φ κ w :=
 ⟨h.le, h.step, h.fresh, h.lt, fun j q hj hq ha hu => h.ghost j q hj hq ha (hl _ hu)⟩
theorem St.calm (h : St B call l Hs π φ0 w0 listed φ κ w) (k : Step B φ (Hs κ) w φ' (Hs κ) w') : St B call l Hs π φ0 w0 listed φ' κ w' := by
 have hd : ∀ b, φ b = none → φ' b = none := fun b e => by
  cases e' : φ' b with
  | none => rfl
  | some p =>
    rcases k.dom b p e' with e2 | ⟨e2, e3⟩
    ·rw [e] at e2; cases e2
    ·omega
 exact ⟨h.le, h.step.trans k, fun b h1 h2 => hd b (h.fresh b h1 h2), h.lt, fun j q hj hq ha hu es cs e => ⟨hd _ (h.ghost j q hj hq ha hu es cs e).1, (h.ghost j q hj hq ha hu es cs e).2⟩⟩
theorem St.made (hm : CallsMono call) (hr : Run call l frs Hs) (h : St B call l Hs π φ0 w0 listed φ κ w) {i : Nat} {p : AOper} (hp : l[i]? = some p) (hi : i < κ) (ha : isAlloc p.op = true) (hu : listed.getD (π i) false = false) {es : Nat} {cs : List AV}
 (e : Hs (i + 1) = (Hs i).alloc es cs) (k : Step B φ ⟨(Hs i).next, .e⟩ w φ' ((⟨(Hs i).next, .e⟩ : Heap).alloc es cs) w') (hl : ∀ d, listed'.getD d false = false → listed.getD d false = false) (hl2 : ∀ j, j < l.length → listed'.getD (π j) false = false → j ≠ i) :
 St B call l Hs π φ0 w0 listed' φ' κ w' := by
 obtain ⟨g1, g2⟩ := h.ghost i p hi hp ha hu es cs e
 have hn := alloc_next e
 have h1 := hr.next_le hm (show i + 1 ≤ κ from hi) h.le
 have h0 := hr.next_le hm (Nat.zero_le i) (by have := h.le; omega)
 have hd : ∀ b, b ≠ (Hs i).next → φ b = none → φ' b = none := fun b hb e => by
  cases e' : φ' b with
  | none => rfl
  | some p =>
    rcases k.dom b p e' with e2 | ⟨e2, e3⟩
    ·rw [e] at e2; cases e2
    ·have e2 : (Hs i).next ≤ b := e2
     have e3 : b < (Hs i).next + 1 := e3
     omega
 refine ⟨h.le, h.step.comes g1 g2 h0 (by omega) k, fun b h1 h2 => hd b (by omega) (h.fresh b h1 h2), h.lt, fun j q hj hq ha' hu' es' cs' e' => ?_⟩
 have hji : j ≠ i := hl2 j (by have := h.le; omega) hu'
 obtain ⟨k1, k2⟩ := h.ghost j q hj hq ha' (hl _ hu') es' cs' e'
 refine ⟨hd _ ?_ k1, k2⟩
 have hnj := alloc_next e'
 rcases Nat.lt_or_gt_of_ne hji with c | c
 ·have := hr.next_le hm (show j + 1 ≤ i from c) (by have := h.le; omega); omega
 ·have := hr.next_le hm (show i + 1 ≤ j from c) (by have := h.le; omega); omega
theorem St.acts (hm : CallsMono call) (hr : Run call l frs Hs) (h : St B call l Hs π φ0 w0 listed φ κ w) {p : AOper} (hp : l[κ]? = some p) (ha : isActor p.op = true) (k : Step B φ (Hs κ) w φ' (Hs (κ + 1)) w')
 (hc : ∀ (j : Nat) (q : AOper), j < κ → l[j]? = some q → isAlloc q.op = true → listed.getD (π j) false = false → ∀ es cs, Hs (j + 1) = (Hs j).alloc es cs → (Hs (κ + 1)).blks.get (Hs j).next = (Hs κ).blks.get (Hs j).next) (hl : ∀ d, listed'.getD d false = false → listed.getD d false = false) :
 St B call l Hs π φ0 w0 listed' φ' (κ + 1) w' := by
 have hlt : κ < l.length := (List.getElem?_eq_some_iff.1 hp).1
 refine ⟨hlt, h.step.trans k, fresh_right k h.fresh, fun s hs b hb => ?_, fun j q hj hq ha' hu es cs e => ?_⟩
 ·by_cases c : s = κ + 1
  ·subst c; exact k.rel.lt b hb
  ·exact h.lt s (by omega) b hb
 ·have hjk : j ≠ κ := fun c => by
   subst c
   rw [hp] at hq; cases hq
   simp [isActor, ha'] at ha
  obtain ⟨k1, k2⟩ := h.ghost j q (by omega) hq ha' (hl _ hu) es cs e
  refine ⟨?_, by rw [hc j q (by omega) hq ha' (hl _ hu) es cs e]; exact k2⟩
  cases e' : φ' (Hs j).next with
  | none => rfl
  | some p =>
    rcases k.dom _ p e' with e2 | ⟨e2, e3⟩
    ·rw [k1] at e2; cases e2
    ·have := alloc_next e
     have := hr.next_le hm (show j + 1 ≤ κ by omega) h.le
     omega
theorem Run.stab (hr : Run call l frs Hs) {t i s : Nat} (h1 : i ≤ s) (h2 : s ≤ l.length) (h : ∀ (d : Nat) (q : AOper), i ≤ d → l[d]? = some q → q.dst ≠ some t) : (frs s).get t = (frs i).get t := by
 rw [← hr.stable (l.length - s) s (by omega) (fun d q hd hq => h d q (by omega) hq), ← hr.stable (l.length - i) i (by omega) h]
theorem rd_same (hm : CallsMono call) (hr : Run call l frs Hs) (hC : CO l M π) {i t : Nat} {p : AOper} (hp : l[i]? = some p) (hrd : isReader p.op = true) (ht : t ∈ rdT p.op) (htm : t ∈ p.op.base.tmps) {u : AV} (hu : (frs i).get t = some u) {b : Nat} (hb : blkOf u = some b) (hbn : b < (Hs i).next)
 (hpr : ∀ (s : Nat) (q : AOper), i < s → s < κ → l[s]? = some q → isActor q.op = true → preds M (π s) (π i) = false) (hκ : κ ≤ l.length) : ∀ (m : Nat), i + m ≤ κ → (Hs (i + m)).blks.get b = (Hs i).blks.get b
 | 0, _ => rfl
 | m + 1, hmk => by
   have ih := rd_same hm hr hC hp hrd ht htm hu hb hbn hpr hκ m (by omega)
   rw [← ih]
   have hlt : i + m < l.length := by omega
   have hq : l[i + m]? = some l[i + m] := by simp [hlt]
   have h1 := hr.one (i + m) _ hq
   rw [show i + (m + 1) = i + m + 1 by omega]
   cases ha : isActor l[i + m].op with
   | false =>
     rcases h1.calm ha with e | ⟨_, es, cs, e⟩
     ·rw [e]
     ·have := hr.next_le hm (show i ≤ i + m by omega) (by omega)
      rw [e, Heap.alloc_get, if_neg (by omega)]
   | true =>
     have him : i < i + m := by
      rcases Nat.eq_zero_or_pos m with c | c
      ·subst c
       have : l[i + 0] = p := by
        have := hq
        simp only [Nat.add_zero] at this ⊢
        rw [hp] at this; exact (Option.some.inj this).symm
       rw [this] at ha
       cases hpo : p.op <;> rw [hpo] at hrd ha <;> simp [isReader] at hrd <;> simp [isActor, isLoud, isReader, isPure] at ha
      ·omega
     obtain ⟨ts, o, e1, e2⟩ := hC.ckr (i + m) i _ p t hq hp ha hrd him (hpr _ _ him (by omega) hq ha) ht
     rcases h1 with ⟨v, _, he, _⟩ | ⟨_, e, _⟩
     ·rw [e1] at he
      obtain ⟨_, hU⟩ := evOp_ck.1 he
      obtain ⟨v', g1, g2⟩ := hU t e2
      rw [hr.stab (show i ≤ i + m by omega) (by omega) (fun d q hd hq' hqd => by
       rcases hC.ops i d p q t hp hq' (.inl htm) hqd with k | ⟨_, k⟩
       ·have := hC.ord i d (by omega) (by exact (List.getElem?_eq_some_iff.1 hq').1) k
        omega
       ·exact k ⟨hrd, ht⟩), hu] at g1
      cases g1
      exact g2 b hb
     ·rw [e]
theorem rdT_tmps {o : AOp} (h : isReader o = true) {t : Nat} (ht : t ∈ rdT o) : t ∈ o.base.tmps := by
 cases o <;> simp [isReader] at h <;> simp only [rdT] at ht <;> simp only [AOp.base, AOp.tmps]
 all_goals first
  | exact ht
  | exact List.mem_append_left _ ht
  | exact List.mem_append_left _ (List.mem_append_left _ ht)
  | exact List.mem_append_left _ (List.mem_append_left _ (List.mem_append_left _ ht))
end
end Go.AM
set_option linter.all false
namespace Go.AM
open Go.RowKit
def FC (φ : Phi) (l : List AOper) (π : Nat → Nat) (F F0 : T AV) (listed : Array Bool) (tmps : Array Value) : Prop :=
 (∀ t v, F.get t = some v → (∀ (d : Nat) (q : AOper), l[d]? = some q → q.dst = some t → listed.getD (π d) false = true) → ∃ x, tmps[t]? = some x ∧ VRel φ v x) ∧
 (∀ t v, F0.get t = some v → (∀ (d : Nat) (q : AOper), l[d]? = some q → q.dst = some t → listed.getD (π d) false = false) → ∃ x, tmps[t]? = some x ∧ VRel φ v x)
theorem Run.upTo {call : Nat → List AV → Heap → Option (AV × Heap)} {l : List AOper} {frs : Nat → T AV} {Hs : Nat → Heap} (hr : Run call l frs Hs) {t : Nat} : ∀ {i : Nat}, i ≤ l.length → (∀ (d : Nat) (q : AOper), d < i → l[d]? = some q → q.dst ≠ some t) → (frs i).get t = (frs 0).get t
 | 0, _, _ => rfl
 | i + 1, hi, h => by
   have hq : l[i]? = some l[i] := by simp [show i < l.length from hi]
   rw [(hr.one i _ hq).frame (h i _ (by omega) hq)]
   exact hr.upTo (by omega) (fun d q hd => h d q (by omega))
def UpA (l : List AOper) (π : Nat → Nat) (listed : Array Bool) (κ : Nat) : Prop := ∀ (d : Nat) (q : AOper), l[d]? = some q → isActor q.op = true → (d < κ ↔ listed.getD (π d) false = true)
section
variable {call : Nat → List AV → Heap → Option (AV × Heap)}
structure DC (P : Program) (B N : Nat) (call : Nat → List AV → Heap → Option (AV × Heap)) (ops : Array Oper) (l : List AOper) (π : Nat → Nat) (frs : Nat → T AV) (Hs : Nat → Heap) (φ0 : Phi) (w0 : World) (listed : Array Bool) (a : Act) (w : World) : Prop where
 closed : Closed ops listed
 size : listed.size = ops.size
 ex : ∃ (φ : Phi) (κ : Nat), St B call l Hs π φ0 w0 listed φ κ w ∧ AtActor l κ ∧ UpA l π listed κ ∧ FC φ l π (frs l.length) (frs 0) listed a.tmps
 tmps : N ≤ a.tmps.size
 defers : a.defers = []
theorem canon_any {P : Program} {B N : Nat} {ops : Array Oper} {l : List AOper} {π : Nat → Nat} {M : List Nat} (hcall : CallsOk P B call) (hm : CallsMono call) (hl : l.length = ops.size) (hπ : ∀ a : Nat, a < ops.size → ∃ i : Nat, i < l.length ∧ π i = a) (hπ2 : ∀ i : Nat, i < l.length → π i < ops.size)
 (hget : ∀ (i : Nat) (o' : AOper), l[i]? = some o' → ∃ o ao, ops[π i]? = some o ∧ cOper P N ops o = some ao ∧ o'.dst = ao.dst ∧ o'.guard = ao.guard ∧ o'.op.base = ao.op)
 (hM : masksOk ops.toList M = true) (hC : CO l M π) {frs : Nat → T AV} {Hs : Nat → Heap} (hr : Run call l frs Hs) {φ0 : Phi} {w0 : World} {Q : Exit → Act → World → Prop}
 (hq : ∀ φ' a' w', Step B φ0 (Hs 0) w0 φ' (Hs l.length) w' → SRel B N φ' (Hs l.length) (frs l.length) a' w' → Q .normal a' w') :
 ∀ (fuel : Nat) (listed : Array Bool) (a : Act) (w : World), unl listed ops.size ≤ fuel → DC P B N call ops l π frs Hs φ0 w0 listed a w → wpAny P .any ops Q fuel listed a w := by
 have fin : ∀ (listed : Array Bool) (a : Act) (w : World), DC P B N call ops l π frs Hs φ0 w0 listed a w → Region.ready .any ops listed = [] → Q .normal a w := by
  intro listed a w hs hready
  have all : ∀ d, d < ops.size → listed.getD d true = true := by
   intro d
   induction d using Nat.strongRecOn with
   | _ d ih =>
     intro hd
     cases hb : listed.getD d true with
     | true => rfl
     | false =>
       exfalso
       have hmem : d ∈ Region.ready .any ops listed := by
        rw [mem_ready]
        refine ⟨hb, ops[d], by simp [hd], ?_⟩
        intro e he hbind
        have hed : e.on < d := by
         simp only [masksOk, Bool.and_eq_true, List.all_eq_true] at hM
         have hd' : d < M.length := by have := hM.1; simp at this; omega
         have hmm : (((ops[d], M[d]) : Oper × Nat), d) ∈ (ops.toList.zip M).zipIdx := by
          rw [List.mem_zipIdx_iff_getElem?, List.getElem?_zip_eq_some]
          exact ⟨by simp [hd], by simp [hd']⟩
         have := (hM.2 _ hmm).2 e (by simpa using he)
         simpa [hbind] using this
        have := ih e.on hed (by omega)
        rw [getD_in (by rw [hs.size]; omega) false true]
        exact this
       rw [hready] at hmem
       cases hmem
  obtain ⟨φ, κ, hst, hat, hu, hfe⟩ := hs.ex
  have hlist : ∀ d, d < l.length → listed.getD (π d) false = true := fun d hd => by
   have := hπ2 d hd
   rw [getD_in (by rw [hs.size]; omega) false true]; exact all _ this
  have hκ : κ = l.length := by
   rcases hat with e | ⟨o, ho, hact⟩
   ·exact e
   ·exfalso
    have := (hu κ o ho hact).2 (hlist κ (List.getElem?_eq_some_iff.1 ho).1)
    omega
  subst hκ
  refine hq φ a w hst.step ⟨hst.step.rel, ?_, hs.tmps, hs.defers⟩
  intro t v hv
  exact hfe.1 t v hv (fun d q hq _ => hlist d (List.getElem?_eq_some_iff.1 hq).1)
 intro fuel
 induction fuel with
 | zero =>
   intro listed a w hn hs
   have hready : Region.ready .any ops listed = [] := by
    cases hq' : Region.ready .any ops listed with
    | nil => rfl
    | cons i r =>
      exfalso
      have hi : i ∈ Region.ready .any ops listed := by rw [hq']; simp
      obtain ⟨h1, o, h2, _⟩ := mem_ready.1 hi
      have hlt : i < ops.size := (Array.getElem?_eq_some_iff.1 h2).1
      have : i ∈ (List.range ops.size).filter fun i => !listed.getD i true := by
       rw [List.mem_filter]
       exact ⟨by simpa using hlt, by rw [h1]; rfl⟩
      have h0 : ((List.range ops.size).filter fun i => !listed.getD i true).length = 0 := Nat.le_zero.1 hn
      rw [List.eq_nil_of_length_eq_zero h0] at this
      cases this
   exact ⟨hready, fin listed a w hs hready⟩
 | succ fuel ih =>
   intro listed a w hn hs
   refine ⟨fun hready => fin listed a w hs hready, fun ti hi => ?_⟩
   obtain ⟨hun, o, ho, hafter⟩ := mem_ready.1 hi
   have hlt : ti < ops.size := (Array.getElem?_eq_some_iff.1 ho).1
   have hisz : ti < listed.size := by rw [hs.size]; exact hlt
   have hunf : listed.getD ti false = false := by rw [getD_in hisz false true]; exact hun
   obtain ⟨i, hil, hπi⟩ := hπ ti hlt
   have hli : l[i]? = some l[i] := by simp [hil]
   generalize l[i] = p at hli
   obtain ⟨o2, ao, ho2, hco, d1, d2, d3⟩ := hget i p hli
   rw [hπi, ho] at ho2
   cases ho2
   obtain ⟨c1, c2, c3, c4⟩ := cOper_some hco
   rw [← d1] at c1
   rw [← d2] at c4
   have hset : ∀ d, (listed.setIfInBounds ti true).getD d false = if d = ti then true else listed.getD d false := by
    intro d
    by_cases hd : d = ti
    ·subst hd; simp [hisz]
    ·rw [if_neg hd, getD_set_ne false (Ne.symm hd)]
   have hweak : ∀ d, (listed.setIfInBounds ti true).getD d false = false → listed.getD d false = false := fun d hd => by
    rw [hset] at hd
    split at hd
    ·cases hd
    ·exact hd
   have hclosed : Closed ops (listed.setIfInBounds ti true) := by
    intro d o' ho' hld e he hb
    rw [hset] at hld ⊢
    by_cases hei : e.on = ti
    ·rw [if_pos hei]
    ·rw [if_neg hei]
     by_cases hd : d = ti
     ·subst hd
      rw [ho] at ho'; cases ho'
      exact hafter e he hb
     ·rw [if_neg hd] at hld
      exact hs.closed d o' ho' hld e he hb
   have hbefore : ∀ j, preds M ti j = true → listed.getD j false = true := by
    intro j hj
    obtain ⟨k1, k2⟩ := masks_closed hM hclosed ti j hj (by rw [hset, if_pos rfl])
    rw [hset, if_neg (by omega)] at k2
    exact k2
   have hafteri : ∀ d, preds M d ti = true → listed.getD d false = false := by
    intro d hd
    cases hb : listed.getD d false with
    | false => rfl
    | true =>
      have := (masks_closed hM hs.closed d ti hd hb).2
      rw [hunf] at this; cases this
   have hless : unl (listed.setIfInBounds ti true) ops.size ≤ fuel := by
    have : unl (listed.setIfInBounds ti true) ops.size < unl listed ops.size := by
     refine filter_lt ?_ _ ti (by simpa using hlt) (by rw [hun]; rfl) (by simp [hisz])
     intro x hx
     by_cases hxi : x = ti
     ·subst hxi; rw [hun]; rfl
     ·rw [getD_set_ne true (Ne.symm hxi)] at hx
      exact hx
    omega
   obtain ⟨φ, κ, hst, hat, hu, hfe⟩ := hs.ex
   have hκn := hst.le
   -- what acts comes up where one is
   have hact : isActor p.op = true → i = κ := fun h => by
    have h1 : ¬ i < κ := fun c => by
     have := (hu i p hli h).1 c
     rw [hπi, hunf] at this; cases this
    rcases hat with e | ⟨o', ho', hact'⟩
    ·omega
    ·rcases Nat.lt_or_ge κ i with c | c
     ·have hp : isPure p.op = false := by
       simp only [isActor, isLoud, Bool.and_eq_true, Bool.not_eq_true'] at h; exact h.1.1
      have := hbefore _ (by rw [← hπi]; exact hC.act i κ p o' hli ho' hp hact' c)
      have := (hu κ o' ho' hact').2 this
      omega
     ·omega
   have hnact : isPure p.op = false → isActor p.op = false → i < κ := fun h1 h2 => by
    rcases Nat.lt_or_ge i κ with c | c
    ·exact c
    ·exfalso
     rcases hat with e | ⟨o', ho', hact'⟩
     ·omega
     ·have hne : κ ≠ i := fun e => by
       subst e; rw [hli] at ho'; cases ho'; rw [h2] at hact'; cases hact'
      have := hbefore _ (by rw [← hπi]; exact hC.act i κ p o' hli ho' h1 hact' (by omega))
      have := (hu κ o' ho' hact').2 this
      omega
   -- what it looks at
   have hlook : ∀ t, (t ∈ p.op.base.tmps ∨ ∃ w, p.guard = some (t, w)) → ∀ v, (frs i).get t = some v → ∃ x, a.tmps[t]? = some x ∧ VRel φ v x := by
    intro t ht v hv
    -- is there one that writes it behind?
    by_cases hb : ∃ (d : Nat) (q : AOper), l[d]? = some q ∧ q.dst = some t ∧ i ≤ d
    ·obtain ⟨d, q, hq, hqd, hd⟩ := hb
     have hdl := (List.getElem?_eq_some_iff.1 hq).1
     have hpd : preds M (π d) (π i) = true := by
      rcases hC.ops i d p q t hli hq ht hqd with k | ⟨k, _⟩
      ·have := hC.ord i d hil hdl k; omega
      ·exact k
     have hdi := hC.ord d i hdl hil hpd
     have hun2 : listed.getD (π d) false = false := hafteri _ (by rw [← hπi]; exact hpd)
     have only : ∀ (d' : Nat) (q' : AOper), l[d']? = some q' → q'.dst = some t → d' = d := fun d' q' hq' hqd' => hC.dst d d' q q' t hq hq' hqd hqd'
     have e1 : (frs i).get t = (frs 0).get t := hr.upTo (by omega) (fun d' q' hd' hq' hqd' => by have := only d' q' hq' hqd'; omega)
     exact hfe.2 t v (by rw [← e1]; exact hv) (fun d' q' hq' hqd' => by rw [only d' q' hq' hqd']; exact hun2)
    ·have hw : ∀ (d : Nat) (q : AOper), l[d]? = some q → q.dst = some t → d < i ∧ listed.getD (π d) false = true := fun d q hq hqd => by
      have hdl := (List.getElem?_eq_some_iff.1 hq).1
      rcases hC.ops i d p q t hli hq ht hqd with k | ⟨k, _⟩
      ·exact ⟨hC.ord i d hil hdl k, hbefore _ (by rw [← hπi]; exact k)⟩
      ·have := hC.ord d i hdl hil k
       exact absurd ⟨d, q, hq, hqd, by omega⟩ hb
     have e1 : (frs l.length).get t = (frs i).get t := hr.stab (by omega) (Nat.le_refl _) (fun d q hd hq hqd => by
      have := (hw d q hq hqd).1; omega)
     exact hfe.1 t v (by rw [e1]; exact hv) (fun d q hq hqd => (hw d q hq hqd).2)
   -- the state behind it
   have next : ∀ {v : AV} {φ' : Phi} {x : Value} {w' : World}, frs (i + 1) = putD (frs i) p.dst v → VRel φ' v x → Le φ φ' → (∃ κ', St B call l Hs π φ0 w0 (listed.setIfInBounds ti true) φ' κ' w' ∧ AtActor l κ' ∧ UpA l π (listed.setIfInBounds ti true) κ') →
    wpAny P .any ops Q fuel (listed.setIfInBounds ti true) (a.put o.dst x) w' := by
    intro v φ' x w' hfr hv hle hex
    obtain ⟨κ', hst', hat', hu'⟩ := hex
    refine ih _ _ _ hless ⟨hclosed, by simp [hs.size], ⟨φ', κ', hst', hat', hu', ?_, ?_⟩, ?_, ?_⟩
    ·intro t u htu hlist
     by_cases hd : p.dst = some t
     ·have e1 : (frs l.length).get t = (frs (i + 1)).get t := hr.stab (by omega) (Nat.le_refl _) (fun d q hd' hq hqd => by
       have := hC.dst i d p q t hli hq hd hqd; omega)
      rw [e1, hfr, hd] at htu
      simp only [putD, T.get_set, if_true, Option.some.injEq] at htu
      subst htu
      refine ⟨x, ?_, hv⟩
      rw [← c1, hd]
      have hN : t < N := by
       rw [← c1, hd] at c3
       simpa using c3
      have := hs.tmps
      simp only [Act.put, Array.getElem?_setIfInBounds, if_true]
      rw [if_pos (by omega)]
     ·obtain ⟨y, h1, h2⟩ := hfe.1 t u htu (fun d q hq hqd => by
       have := hlist d q hq hqd
       rw [hset] at this
       by_cases hdi : π d = ti
       ·have hdi' : d = i := hC.inj d i (List.getElem?_eq_some_iff.1 hq).1 hil (by rw [hdi, hπi])
        subst hdi'
        rw [hli] at hq; cases hq
        exact (hd hqd).elim
       ·rw [if_neg hdi] at this; exact this)
      refine ⟨y, ?_, h2.mono hle⟩
      rw [← c1]
      cases hdd : p.dst with
      | none => exact h1
      | some d =>
        simp only [Act.put, Array.getElem?_setIfInBounds]
        rw [if_neg (fun e => hd (by rw [hdd, e]))]
        exact h1
    ·intro t u htu hlist
     have hd : p.dst ≠ some t := fun hd => by
      have := hlist i p hli hd
      rw [hπi, hset, if_pos rfl] at this; cases this
     obtain ⟨y, h1, h2⟩ := hfe.2 t u htu (fun d q hq hqd => hweak _ (hlist d q hq hqd))
     refine ⟨y, ?_, h2.mono hle⟩
     rw [← c1]
     cases hdd : p.dst with
     | none => exact h1
     | some d =>
       simp only [Act.put, Array.getElem?_setIfInBounds]
       rw [if_neg (fun e => hd (by rw [hdd, e]))]
       exact h1
    ·have := hs.tmps
     cases o.dst <;> simpa [Act.put] using this
    ·have := hs.defers
     cases o.dst <;> simpa [Act.put] using this
   -- who has come up behind it
   have up0 : isActor p.op = false → UpA l π (listed.setIfInBounds ti true) κ := fun hp d q hdq hqa => by
    rw [hset]
    by_cases hd : π d = ti
    ·have : d = i := hC.inj d i (List.getElem?_eq_some_iff.1 hdq).1 hil (by rw [hd, hπi])
     subst this; rw [hli] at hdq; cases hdq; rw [hp] at hqa; cases hqa
    ·rw [if_neg hd]; exact hu d q hdq hqa
   -- what acts, with all that may be made behind it
   have acts : isActor p.op = true → ∀ {φ' : Phi} {w' : World}, Step B φ (Hs κ) w φ' (Hs (κ + 1)) w' →
    (∀ (j : Nat) (q : AOper), j < κ → l[j]? = some q → isAlloc q.op = true → listed.getD (π j) false = false → ∀ es cs, Hs (j + 1) = (Hs j).alloc es cs → (Hs (κ + 1)).blks.get (Hs j).next = (Hs κ).blks.get (Hs j).next) →
    ∃ κ', St B call l Hs π φ0 w0 (listed.setIfInBounds ti true) φ' κ' w' ∧ AtActor l κ' ∧ UpA l π (listed.setIfInBounds ti true) κ' := by
    intro hpa φ' w' hstep hcont
    have hik := hact hpa
    subst hik
    have hst1 := hst.acts hm hr hli hpa hstep hcont hweak
    obtain ⟨κ', k1, k2, k3, k4⟩ := hst1.adv hm hr (l.length - (i + 1)) (i + 1) (by omega) (fun j q hj hq hal => by
     have hqp : isPure q.op = false := by cases hqo : q.op <;> rw [hqo] at hal <;> simp [isAlloc] at hal <;> rfl
     have hjl := (List.getElem?_eq_some_iff.1 hq).1
     have := hafteri _ (by rw [← hπi]; exact hC.act j i q p hq hli hqp hpa (by omega))
     rw [hset, if_neg (fun e => by have := hC.inj j i hjl hil (by rw [e, hπi]); omega)]
     exact this)
    refine ⟨κ', k2, k3, fun d q hdq hqa => ?_⟩
    have hdl := (List.getElem?_eq_some_iff.1 hdq).1
    rw [hset]
    rcases Nat.lt_trichotomy d i with c | c | c
    ·rw [if_neg (fun e => by have := hC.inj d i hdl hil (by rw [e, hπi]); omega)]
     exact ⟨fun _ => (hu d q hdq hqa).1 c, fun _ => by omega⟩
    ·subst c; rw [if_pos hπi]; exact ⟨fun _ => rfl, fun _ => by omega⟩
    ·rw [if_neg (fun e => by have := hC.inj d i hdl hil (by rw [e, hπi]); omega)]
     refine ⟨fun h => ?_, fun h => ?_⟩
     ·have := k4 d q (by omega) h hdq
      rw [hqa] at this; cases this
     ·have := (hu d q hdq hqa).2 h
      omega
   unfold wpOp
   simp only [ho]
   have hone := hr.one i p hli
   rcases hone with ⟨v, hg, he, hfr⟩ | ⟨⟨g, want, hg, hb⟩, hH, hfr⟩
   ·-- it is carried out
    have hwanted : Region.wanted o (yielded ops a.tmps) = true := by
     rcases c4 with ⟨g1, g2⟩ | ⟨j, want, d, g1, g2, g3⟩
     ·simp [Region.wanted, g1]
     ·rcases hg with hg | ⟨g, w', hg, hb⟩
      ·rw [g3] at hg; cases hg
      ·rw [g3] at hg; cases hg
       obtain ⟨x, e1, e2⟩ := hlook _ (.inr ⟨_, g3⟩) _ hb
       have ex := (v_inv e2).1
       subst ex
       have hy : yielded ops a.tmps j = some want := by simp only [yielded, g2, Option.bind_some, e1]
       simp [Region.wanted, g1, hy]
    rw [if_pos hwanted]
    left
    -- what it looks at, in the frame that there is
    have hfr2 : FRel φ (mkFrame (frs i) p.op.base.tmps) a.tmps := by
     intro t u htu
     rw [mkFrame_get] at htu
     split at htu
     ·rename_i ht
      exact hlook t (.inl ht) u htu
     ·cases htu
    have hnb : ∀ {H1 H2 : Heap}, evOp call p.op.base (frs i) H1 = some (v, H2) → evOp call p.op.base (mkFrame (frs i) p.op.base.tmps) H1 = some (v, H2) := fun h => by
     rw [← h]
     refine evOp_congr fun t ht => ?_
     rw [mkFrame_get, if_pos ht]
    have hop : (cOpM P ops o).getD .bad = p.op.base := by
     rw [← c2, d3]
    have hcalm : isActor p.op = false → p.op.base = p.op := fun h => by
     cases hq : p.op <;> first | rfl | (rw [hq] at h; cases h)
    cases hpa : isActor p.op with
    | true =>
      have hik := hact hpa
      subst hik
      have he2 : evOp call p.op.base (frs i) (Hs i) = some (v, Hs (i + 1)) := by
       cases hq : p.op <;> rw [hq] at he <;> first | exact he | exact (evOp_ck.1 he).1
      refine oper_wp hcall hst.step.rel hfr2 (fun b h1 h2 => hst.fresh b h1 (by have := hr.next_le hm (show i + 1 ≤ l.length from hil) (Nat.le_refl _); omega)) hop (hnb he2) ?_
      intro x w' φ' hst' hv
      refine next hfr hv hst'.le (acts hpa hst' (fun j q hj hq hal hlist es cs e => ?_))
      obtain ⟨d, hd⟩ := hC.al j q hq hal
      have hjl := (List.getElem?_eq_some_iff.1 hq).1
      have hnp : preds M (π i) (π j) = false := by
       cases hc : preds M (π i) (π j) with
       | false => rfl
       | true =>
         have := hbefore _ (by rw [← hπi]; exact hc)
         rw [hlist] at this; cases this
      obtain ⟨ts, o', e1, e2⟩ := hC.cka i j p q d hli hq hpa hal hj hnp hd
      rw [e1] at he
      obtain ⟨_, hU⟩ := evOp_ck.1 he
      obtain ⟨u, g1, g2⟩ := hU d e2
      refine g2 _ ?_
      rcases hr.one j q hq with ⟨vj, _, hej, hfj⟩ | ⟨_, ej, _⟩
      ·obtain ⟨_, _, f1, f2, _⟩ := alloc_form hal hej
       have e3 : (frs i).get d = (frs (j + 1)).get d := hr.stab (by omega) (by omega) (fun d' q' hd' hq' hqd => by
        have := hC.dst j d' q q' d hq hq' hd hqd; omega)
       rw [hfj, hd] at e3
       simp only [putD, T.get_set, if_true] at e3
       rw [e3] at g1; cases g1
       exact f2
      ·have := alloc_next e
       rw [ej] at this; omega
    | false =>
      have hbe := hcalm hpa
      cases hal : isAlloc p.op with
      | true =>
        have hpp : isPure p.op = false := by cases hqo : p.op <;> rw [hqo] at hal <;> simp [isAlloc] at hal <;> rfl
        have hik := hnact hpp hpa
        obtain ⟨es, cs, f1, f2, f3⟩ := alloc_form hal he
        have he2 := f3 ⟨(Hs i).next, .e⟩ rfl
        obtain ⟨g1, g2⟩ := hst.ghost i p hik hli hal (by rw [hπi]; exact hunf) es cs f1
        refine oper_wp hcall (HRel.bare hst.step.rel.size _) hfr2 (fun b h1 h2 => ?_) hop (hnb (by rw [hbe]; exact he2)) ?_
        ·have h1 : (Hs i).next ≤ b := h1
         have h2 : b < (Hs i).next + 1 := h2
         rw [show b = (Hs i).next by omega]; exact g1
        ·intro x w' φ' hst' hv
         refine next hfr hv hst'.le ⟨κ, hst.made hm hr hli hik hal (by rw [hπi]; exact hunf) f1 hst' hweak (fun j hj hu' e => ?_), hat, up0 hpa⟩
         subst e
         rw [hπi, hset, if_pos rfl] at hu'; cases hu'
      | false =>
        have he2 : evOp call p.op.base (frs i) (Hs κ) = some (v, Hs κ) := by
         rw [hbe]
         cases hp : isPure p.op with
         | true => exact (pure_any hp he).2 _
         | false =>
           have hik := hnact hp hpa
           have hrd : isReader p.op = true := by
            simp only [isActor, isLoud, hp, hal] at hpa
            simpa using hpa
           refine reader_dep hrd (hC.rd i p hli hrd) he (fun t ht u hu' b hb hbs => ?_)
           have hbn : b < (Hs i).next := by
            rcases Nat.lt_or_ge b (Hs i).next with c | c
            ·exact c
            ·rw [hst.lt i (by omega) b c] at hbs; cases hbs
           have := rd_same (κ := κ) hm hr hC hli hrd ht (rdT_tmps hrd ht) hu' hb hbn (fun s q h1 h2 hq hqa => ?_) hκn (κ - i) (by omega)
           ·rwa [show i + (κ - i) = κ by omega] at this
           ·have hls := (hu s q hq hqa).1 h2
            cases hc : preds M (π s) (π i) with
            | false => rfl
            | true =>
              have := hafteri _ (by rw [← hπi]; exact hc)
              rw [hls] at this; cases this
        refine oper_wp hcall hst.step.rel hfr2 (fun b h1 h2 => by omega) hop (hnb he2) ?_
        intro x w' φ' hst' hv
        exact next hfr hv hst'.le ⟨κ, (hst.calm hst').weaken hweak, hat, up0 hpa⟩
   ·-- it is not
    have hwanted : Region.wanted o (yielded ops a.tmps) = false := by
     rcases c4 with ⟨g1, g2⟩ | ⟨j, want', d, g1, g2, g3⟩
     ·rw [g2] at hg; cases hg
     ·rw [g3] at hg; cases hg
      rcases hb with ⟨b, hb, hne⟩ | ⟨cs, hb⟩
      ·obtain ⟨x, e1, e2⟩ := hlook _ (.inr ⟨_, g3⟩) _ hb
       have ex := (v_inv e2).1
       subst ex
       have hy : yielded ops a.tmps j = some b := by simp only [yielded, g2, Option.bind_some, e1]
       simp [Region.wanted, g1, hy, hne]
      ·obtain ⟨x, e1, e2⟩ := hlook _ (.inr ⟨_, g3⟩) _ hb
       have hy : yielded ops a.tmps j = none := by
        cases e2
        simp only [yielded, g2, Option.bind_some, e1]
       simp [Region.wanted, g1, hy]
    rw [hwanted, if_neg (by decide)]
    refine next (φ' := φ) hfr (.tup (by simp) (by simp)) (.refl _) ?_
    cases hpa : isActor p.op with
    | true =>
      have hik := hact hpa
      subst hik
      exact acts hpa (by rw [hH]; exact .refl hst.step.rel) (fun j q hj hq hal hlist es cs e => by rw [hH])
    | false => exact ⟨κ, hst.weaken hweak, hat, up0 hpa⟩
theorem canon_wp {P : Program} {B N : Nat} {id : Nat} {ops : Array Oper} {l : List AOper} {M ord : List Nat} (hmx : P.follows .mixedOrders = true) (hcall : CallsOk P B call) (hm : CallsMono call) (hl : l.length = ops.size)
 (hget : ∀ j : Nat, l[j]? = (ops[j]?).bind (cOper P N ops)) (hM : masksOk ops.toList M = true) (hD : canonOk l M ord = true) {φ : Phi} {H H' : Heap} {fr fr' : T AV} {a : Act} {w : World} {Q : Exit → Act → World → Prop}
 (hs : SRel B N φ H fr a w) (hφ : ∀ b, H.next ≤ b → b < H'.next → φ b = none) (he : evOps call (wrapCk l M ord) fr H = some (fr', H'))
 (hq : ∀ φ' a' w', Step B φ H w φ' H' w' → SRel B N φ' H' fr' a' w' → Q .normal a' w') : (Code.region id ops true).wp P Q a w := by
 obtain ⟨hlen, hsurj, hltl, hnck, hC⟩ := canon_spec hD
 have hwl : (wrapCk l M ord).length = ops.size := by rw [wrap_len, hlen, hl]
 obtain ⟨frs, Hs, hr, rfl, rfl, rfl, rfl⟩ := run_of he
 have hgD : ∀ i a, ord[i]? = some a → ord.getD i 0 = a := fun i a e => by simp [List.getD_eq_getElem?_getD, e]
 have hget2 : ∀ (i : Nat) (o' : AOper), (wrapCk l M ord)[i]? = some o' → ∃ o ao, ops[ord.getD i 0]? = some o ∧ cOper P N ops o = some ao ∧ o'.dst = ao.dst ∧ o'.guard = ao.guard ∧ o'.op.base = ao.op := by
  intro i o' ho'
  obtain ⟨a, ha, rfl⟩ := wrap_get' ho'
  have hal := hltl i a ha
  have hp : l[a]? = some l[a] := by simp [hal]
  obtain ⟨s1, s2, s3, s4⟩ := wrapOne_spec (M := M) (ord := ord) (i := i) hp
  rw [hgD i a ha]
  have hb := hget a
  rw [hp] at hb
  obtain ⟨o, ho, hco⟩ := Option.bind_eq_some_iff.1 hb.symm
  refine ⟨o, l[a], ho, hco, s1, s2, ?_⟩
  rcases s3 with e | ⟨_, ts, e⟩
  ·rw [e]
   have := hnck a _ hp
   cases hq : l[a].op <;> first | rfl | (rw [hq] at this; cases this)
  ·rw [e]; rfl
 refine wp_region_any hmx (canon_any (π := fun i => ord.getD i 0) hcall hm hwl (fun a ha => ?_) (fun i hi => ?_) hget2 hM hC hr (φ0 := φ) (w0 := w) hq ops.size _ a _ ?_ ?_)
 ·obtain ⟨j, hj⟩ := hsurj a (by rw [hl]; exact ha)
  refine ⟨j, ?_, hgD j a hj⟩
  rw [wrap_len]; exact (List.getElem?_eq_some_iff.1 hj).1
 ·rw [wrap_len] at hi
  have : ord[i]? = some ord[i] := by simp [hi]
  show ord.getD i 0 < ops.size
  rw [hgD i _ this, ← hl]; exact hltl i _ this
 ·have : ((List.range ops.size).filter fun i => !(Array.replicate ops.size false).getD i true).length ≤ (List.range ops.size).length := List.length_filter_le _ _
  simpa [unl] using this
 ·have hno : ∀ d, (Array.replicate ops.size false).getD d false = false := fun d => by
   by_cases hd : d < ops.size <;> simp [hd]
  have hst0 : St B call (wrapCk l M ord) Hs (fun i => ord.getD i 0) φ w (Array.replicate ops.size false) φ 0 { w with drawn := w.drawn + 1 } :=
   ⟨Nat.zero_le _, Step.drew hs.heap _, hφ, fun s hs' b hb => by obtain rfl : s = 0 := by omega
                                                                 exact hs.heap.lt b hb, fun j q hj => by omega⟩
  obtain ⟨κ', k1, k2, k3, k4⟩ := hst0.adv hm hr (wrapCk l M ord).length 0 (by omega) (fun j q _ _ _ => hno _)
  refine ⟨?_, by simp, ⟨φ, κ', k2, k3, ?_, ?_, fun t v hv _ => hs.frame t v hv⟩, hs.size, hs.defers⟩
  ·intro d o ho hld
   rw [hno] at hld; cases hld
  ·intro d q hdq hqa
   rw [hno]
   refine ⟨fun h => ?_, fun h => by cases h⟩
   have := k4 d q (Nat.zero_le _) h hdq
   rw [hqa] at this; cases this
  ·intro t v hv hlist
   have e1 : (frs (wrapCk l M ord).length).get t = (frs 0).get t := hr.stable (wrapCk l M ord).length 0 (by omega) (fun d q _ hdq hqd => by
    have := hlist d q hdq hqd
    rw [hno] at this; cases this)
   rw [e1] at hv
   exact hs.frame t v hv
end
end Go.AM
namespace Go.AM
open Go.RowKit
section
variable {P : Program} {A : AProg} {B : Nat}
structure Linked (P : Program) (A : AProg) : Prop where
 mixed : P.follows .mixedOrders = true
 ok : ∀ f af, A.get f = some af → cFunc P f = some af ∧ ∀ (args : Array Value) (w : World), (callFunc f args).run P w = .ok (.enter f args) w
def ExMono (ex : AC → T AV → Heap → Option (AE × T AV × Heap)) : Prop := ∀ c fr H e fr' H', ex c fr H = some (e, fr', H') → H.next ≤ H'.next
theorem mono_callW {ex : AC → T AV → Heap → Option (AE × T AV × Heap)} (h : ExMono ex) : CallsMono (callW A ex) := by
 intro f vs H v H' he
 unfold callW at he
 split at he
 ·split at he
  ·split at he
   ·cases he
   ·rename_i hx
    split at he
    ·cases he; exact h _ _ _ _ _ _ hx
    ·cases he; exact h _ _ _ _ _ _ hx
    ·cases he
   ·cases he
  ·cases he
 ·cases he
theorem mono_exec : ∀ n, ExMono (exec A n)
 | 0 => fun c fr H e fr' H' h => by cases h
 | n + 1 => fun c fr H e fr' H' h => by
   have ih := mono_exec n
   have h : execB A (exec A n) c fr H = some (e, fr', H') := h
   cases c with
   | skip => simp only [execB, Option.some.injEq, Prod.mk.injEq] at h; rw [h.2.2]; exact Nat.le_refl _
   | reg id d ops =>
     cases d with
     | true => simp [execB] at h
     | false =>
       simp only [execB] at h
       split at h
       ·rename_i he
        cases h
        exact mono_ops (mono_callW ih) he
       ·cases h
   | seq x y =>
     simp only [execB] at h
     split at h
     ·rename_i hx
      exact Nat.le_trans (ih _ _ _ _ _ _ hx) (ih _ _ _ _ _ _ h)
     ·exact ih _ _ _ _ _ _ h
   | cond x y z =>
     simp only [execB] at h
     split at h
     ·exact ih _ _ _ _ _ _ h
     ·exact ih _ _ _ _ _ _ h
     ·cases h
   | block id x =>
     simp only [execB] at h
     split at h
     ·rename_i hx
      split at h <;> (cases h; exact ih _ _ _ _ _ _ hx)
     ·exact ih _ _ _ _ _ _ h
   | loop x =>
     simp only [execB] at h
     split at h
     ·rename_i hx
      exact Nat.le_trans (ih _ _ _ _ _ _ hx) (ih _ _ _ _ _ _ h)
     ·exact ih _ _ _ _ _ _ h
   | exit id => simp only [execB, Option.some.injEq, Prod.mk.injEq] at h; rw [h.2.2]; exact Nat.le_refl _
   | ret => simp only [execB, Option.some.injEq, Prod.mk.injEq] at h; rw [h.2.2]; exact Nat.le_refl _
def exRel : AE → Exit → Prop
 | .nm, .normal => True
 | .ex i, .exit j => i = j
 | .rt, .ret => True
 | _, _ => False
def CPost (B N : Nat) (φ : Phi) (H : Heap) (w : World) (e : AE) (fr' : T AV) (H' : Heap) (x : Exit) (a' : Act) (w' : World) : Prop :=
 exRel e x ∧ ∃ φ', Step B φ H w φ' H' w' ∧ SRel B N φ' H' fr' a' w'
def CodeOk (P : Program) (B : Nat) (ex : AC → T AV → Heap → Option (AE × T AV × Heap)) : Prop :=
 ∀ (N : Nat) (c : Code) (ac : AC) (φ : Phi) (H : Heap) (fr : T AV) (a : Act) (w : World) (e : AE) (fr' : T AV) (H' : Heap), cCode P N c = some ac → ex ac fr H = some (e, fr', H') → SRel B N φ H fr a w →
   (∀ b, H.next ≤ b → b < H'.next → φ b = none) → c.wp P (CPost B N φ H w e fr' H') a w
def LoopOk (P : Program) (B : Nat) (ex : AC → T AV → Heap → Option (AE × T AV × Heap)) (n : Nat) : Prop :=
 ∀ (N : Nat) (c : Code) (ac : AC) (φ : Phi) (H : Heap) (fr : T AV) (a : Act) (w : World) (e : AE) (fr' : T AV) (H' : Heap), cCode P N c = some ac → ex (.loop ac) fr H = some (e, fr', H') → SRel B N φ H fr a w →
   (∀ b, H.next ≤ b → b < H'.next → φ b = none) → Code.rounds P c (CPost B N φ H w e fr' H') n a w
theorem CPost.trans {N : Nat} {φ φ1 : Phi} {H H1 H' : Heap} {w w1 w' : World} {e : AE} {fr' : T AV} {x : Exit} {a' : Act} (h : Step B φ H w φ1 H1 w1) (k : CPost B N φ1 H1 w1 e fr' H' x a' w') : CPost B N φ H w e fr' H' x a' w' :=
 let ⟨k1, φ', k2, k3⟩ := k; ⟨k1, φ', h.trans k2, k3⟩
/-! results -/
theorem res_tmp {φ : Phi} {_H : Heap} {fr : T AV} {tmps : Array Value} (hf : FRel φ fr tmps) {t : Nat} {v : AV} (h : fr.get t = some v) : VRel φ v (tmps.getD t undef) := by
 obtain ⟨x, h1, h2⟩ := hf t v h
 simpa [Array.getD_eq_getD_getElem?, h1] using h2
def resOne (tmps : Array Value) : ResultVar → Sem Value
 | .tmp t => pure (tmps.getD t undef)
 | .cell a t => do loadVar t (← asAddr (tmps.getD a undef))
theorem res_one {φ : Phi} {H : Heap} {w : World} {fr : T AV} {tmps : Array Value} (hr : HRel B φ H w) (hf : FRel φ fr tmps) {r : ResultVar} {ar : ARes} (hc : cRes P r = some ar) {v : AV} (h : getResult H fr ar = some v) :
 ∃ x, (resOne tmps r).run P w = .ok x w ∧ VRel φ v x := by
 cases r with
 | tmp t =>
   cases hc
   exact ⟨_, rfl, res_tmp (_H := H) hf h⟩
 | cell c t =>
   simp only [cRes, Option.bind_eq_bind, Option.bind_eq_some_iff] at hc
   obtain ⟨b, hb, hc⟩ := hc
   cases b with
   | true =>
     simp only [Option.bind_eq_some_iff] at hc
     obtain ⟨n, hn, hc⟩ := hc
     cases hc
     simp only [getResult] at h
     split at h
     ·rename_i bb off hev
      simp only [Option.map_eq_some_iff] at h
      obtain ⟨vs, hg, rfl⟩ := h
      have hv := res_tmp (_H := H) hf hev
      obtain ⟨p, hp, hpm, hpx⟩ := ptr_inv hv
      obtain ⟨xs, h3, h4, h5⟩ := getN_rel hr hp hpm hg
      refine ⟨.agg xs.toArray, ?_, h4.agg⟩
      have hl := load_cells_run (P := P) h5
      rw [h3] at hl
      simp [resOne, hpx, asAddr, loadVar, agg_run hb, size_run hn, hl]
     ·cases h
   | false =>
     cases hc
     simp only [getResult] at h
     split at h
     ·rename_i bb off hev
      split at h
      ·rename_i u hg
       cases h
       have hv := res_tmp (_H := H) hf hev
       obtain ⟨p, hp, hpm, hpx⟩ := ptr_inv hv
       obtain ⟨xs, h3, h4, h5⟩ := getN_rel hr hp hpm hg
       match xs, h3, h4, h5 with
       | [y], _, h4, h5 =>
         refine ⟨y, ?_, (h4.2 0 _ y rfl rfl).1⟩
         have := h5 0 y rfl
         simp only [Addr.add, if_true] at this
         simp [resOne, hpx, asAddr, loadVar, agg_run hb, this]
      ·cases h
     ·cases h
theorem res_all {φ : Phi} {H : Heap} {w : World} {fr : T AV} {tmps : Array Value} (hr : HRel B φ H w) (hf : FRel φ fr tmps) : ∀ {rs : List ResultVar} {ars : List ARes} {vs : List AV}, rs.mapM (cRes P) = some ars → getResults H fr ars = some vs →
 ∃ xs : List Value, (rs.mapM (resOne tmps)).run P w = .ok xs w ∧ vs.length = xs.length ∧ ∀ (i : Nat) (c : AV) (y : Value), vs[i]? = some c → xs[i]? = some y → VRel φ c y
 | [], ars, vs, h1, h2 => by
   have e1 : ars = [] := by
    have : some [] = some ars := by simpa using h1
    exact (Option.some.inj this).symm
   subst e1
   simp only [getResults, Option.some.injEq] at h2
   subst h2
   exact ⟨[], by simp, rfl, by simp⟩
 | r :: rs, ars, vs, h1, h2 => by
   simp only [List.mapM_cons, Option.bind_eq_bind, Option.bind_eq_some_iff, Option.pure_def, Option.some.injEq] at h1
   obtain ⟨ar, h3, ars', h4, rfl⟩ := h1
   simp only [getResults] at h2
   split at h2
   ·rename_i u hu
    split at h2
    ·rename_i us hus
     cases h2
     obtain ⟨x, k1, k2⟩ := res_one hr hf h3 hu
     obtain ⟨xs, k3, k4, k5⟩ := res_all hr hf h4 hus
     refine ⟨x :: xs, by simp [List.mapM_cons, k1, k3], by simp [k4], ?_⟩
     intro i c y hc hy
     cases i with
     | zero => simp at hc hy; subst hc; subst hy; exact k2
     | succ i => exact k5 i c y (by simpa using hc) (by simpa using hy)
    ·cases h2
   ·cases h2
theorem results_eq (fn : Func) (tmps : Array Value) : results fn tmps = (do let vs ← fn.results.mapM (resOne tmps); pure (if h : vs.size = 1 then vs[0] else .tuple vs)) := by
 unfold results
 congr 1
theorem argFrame_get : ∀ (vs : List AV) (i : Nat) (fr : T AV) (t : Nat), (argFrame i vs fr).get t = if i ≤ t ∧ t < i + vs.length then vs[t - i]? else fr.get t
 | [], i, fr, t => by simp only [argFrame]; rw [if_neg (by simp)]
 | v :: vs, i, fr, t => by
   simp only [argFrame]
   rw [argFrame_get vs (i + 1), T.get_set]
   by_cases h : t = i
   ·subst h
    rw [if_neg (by omega), if_pos rfl, if_pos (by simp)]
    simp
   ·rw [if_neg h]
    by_cases h2 : i ≤ t ∧ t < i + (v :: vs).length
    ·rw [if_pos h2, if_pos (by simp at h2; omega)]
     have : t - i = (t - (i + 1)) + 1 := by omega
     rw [this, List.getElem?_cons_succ]
    ·rw [if_neg h2, if_neg (by simp at h2; omega)]
theorem calls_ok (hL : Linked P A) {ex : AC → T AV → Heap → Option (AE × T AV × Heap)} (hex : CodeOk P B ex) : CallsOk P B (callW A ex) := by
 intro f vs H v H' φ w args he hr hφ hl ha
 unfold callW at he
 split at he
 ·rename_i af haf
  obtain ⟨hcf, hrun⟩ := hL.ok f af haf
  refine ⟨hrun args w, ?_⟩
  simp only [cFunc, Option.bind_eq_bind, Option.bind_eq_some_iff, Option.some.injEq] at hcf
  obtain ⟨fn, hfn, c, hc, ac, hac, rs, hrs, rfl⟩ := hcf
  split at he
  ·split at he
   ·cases he
   ·rename_i e fr1 H1 hne hx
    have hfr : FRel φ (argFrame 0 vs .e) (args ++ Array.replicate (fn.ntmps - args.size) undef) := by
     intro t u hu
     rw [argFrame_get] at hu
     split at hu
     ·rename_i ht
      simp only [Nat.sub_zero] at hu
      have hlt : t < args.size := by omega
      refine ⟨args[t], ?_, ha t u args[t] hu (by simp [hlt])⟩
      rw [Array.getElem?_append_left hlt]
      simp [hlt]
     ·rw [T.get_e] at hu; cases hu
    have hs : SRel B fn.ntmps φ H (argFrame 0 vs .e) { tmps := args ++ Array.replicate (fn.ntmps - args.size) undef, defers := [] } w :=
     ⟨hr, hfr, by simp; omega, rfl⟩
    have hH1 : H1 = H' := by
     split at he
     ·cases he; rfl
     ·cases he; rfl
     ·cases he
    subst hH1
    have hwp := hex fn.ntmps c ac φ H _ _ w e fr1 H1 hac hx hs hφ
    refine calls_of_wp hfn hc (wp_mono hwp ?_)
    rintro x a' w' ⟨hxr, φ', hst, hs'⟩
    have fin : a'.defers = [] ∧ ∃ u, (results fn a'.tmps).run P w' = .ok u w' ∧ ∃ x φ'', Ending.returned u = .returned x ∧ Step B φ H w φ'' H1 w' ∧ VRel φ'' v x := by
     refine ⟨hs'.defers, ?_⟩
     have key : ∀ ws, getResults H1 fr1 rs = some ws → ∃ xs : List Value, (fn.results.mapM (resOne a'.tmps)).run P w' = .ok xs.toArray w' ∧ ws.length = xs.length ∧
      ∀ (i : Nat) (c : AV) (y : Value), ws[i]? = some c → xs[i]? = some y → VRel φ' c y := by
      intro ws hws
      obtain ⟨xs, k1, k2, k3⟩ := res_all hs'.heap hs'.frame hrs hws
      refine ⟨xs, ?_, k2, k3⟩
      rw [Array.mapM_eq_mapM_toList]
      simp [k1]
     split at he
     ·rename_i u hu
      cases he
      obtain ⟨xs, k1, k2, k3⟩ := key _ hu
      match xs, k2, k1, k3 with
      | [y], _, k1, k3 =>
        refine ⟨y, ?_, y, φ', rfl, hst, k3 0 _ y rfl rfl⟩
        rw [results_eq]
        simp [k1]
     ·rename_i ws hne1 hu
      cases he
      obtain ⟨xs, k1, k2, k3⟩ := key _ hu
      have hn1 : xs.length ≠ 1 := by
       intro h1
       rw [← k2] at h1
       match ws, h1 with
       | [q], _ => exact hne1 q rfl
      refine ⟨.tuple xs.toArray, ?_, .tuple xs.toArray, φ', rfl, hst, .tup (by simpa using k2) (fun i c y h1 h2 => k3 i c y h1 (by simpa using h2))⟩
      rw [results_eq]
      simp [k1, hn1]
     ·cases he
    cases e with
    | nm => cases x <;> first | exact fin | exact hxr.elim
    | rt => cases x <;> first | exact fin | exact hxr.elim
    | ex id => exact (hne id rfl).elim
   ·cases he
  ·cases he
 ·cases he
theorem code_ok (hL : Linked P A) : ∀ n, CodeOk P B (exec A n) ∧ LoopOk P B (exec A n) n
 | 0 => ⟨by (intro N c ac φ H fr a w e fr' H' h1 h2; cases h2), by (intro N c ac φ H fr a w e fr' H' h1 h2; cases h2)⟩
 | n + 1 => by
   obtain ⟨ih, ihl⟩ := code_ok hL n
   have hcalls := calls_ok hL ih
   have hmono := mono_exec (A := A) n
   have hloop : LoopOk P B (exec A (n + 1)) (n + 1) := by
    intro N c ac φ H fr a w e fr' H' hc he hs hφ
    have he : execB A (exec A n) (.loop ac) fr H = some (e, fr', H') := he
    simp only [execB] at he
    rw [rounds_succ]
    split at he
    ·rename_i fr1 H1 hx
     refine wp_mono (ih N c ac φ H fr a w _ fr1 H1 hc hx hs (fresh_left hφ (hmono _ _ _ _ _ _ he))) ?_
     rintro x a' w' ⟨hxr, φ1, hst, hs1⟩
     cases x <;> first | exact hxr.elim | skip
     have := ihl N c ac φ1 H1 fr1 a' w' e fr' H' hc he hs1 (fresh_right hst hφ)
     show Code.rounds P c _ n a' w'
     have mono : ∀ (m : Nat) (Q Q' : Exit → Act → World → Prop), (∀ e a w, Q e a w → Q' e a w) → ∀ a w, Code.rounds P c Q m a w → Code.rounds P c Q' m a w := by
      intro m
      induction m with
      | zero => intro Q Q' _ a w h; exact h
      | succ m ihm =>
        intro Q Q' hq a w h
        refine wp_mono h ?_
        intro e a w h'
        cases e <;> first | exact ihm Q Q' hq a w h' | exact hq _ _ _ h'
     exact mono n _ _ (fun _ _ _ h => CPost.trans hst h) a' w' this
    ·rename_i hne
     refine wp_mono (ih N c ac φ H fr a w e fr' H' hc he hs hφ) ?_
     intro x a' w' hp
     cases x <;> first | exact hp | skip
     obtain ⟨hxr, _⟩ := hp
     cases e <;> first | exact hxr.elim | exact (hne _ _ he).elim
   refine ⟨?_, hloop⟩
   intro N c ac φ H fr a w e fr' H' hc he hs hφ
   have he0 := he
   have he : execB A (exec A n) ac fr H = some (e, fr', H') := he
   cases c with
   | skip =>
     cases hc
     simp only [execB, Option.some.injEq, Prod.mk.injEq] at he
     obtain ⟨rfl, rfl, rfl⟩ := he
     exact wp_skip ⟨trivial, φ, .refl hs.heap, hs⟩
   | region id ops draw =>
     simp only [cCode, Option.bind_eq_bind, Option.bind_eq_some_iff] at hc
     obtain ⟨l, hl, hc⟩ := hc
     have hget : ∀ (l : List Oper) (l' : List AOper), l.mapM (cOper P N ops) = some l' → l'.length = l.length ∧ ∀ j : Nat, l'[j]? = (l[j]?).bind (cOper P N ops) := by
      intro l
      induction l with
      | nil =>
        intro l' h
        have : some [] = some l' := by simpa using h
        cases this
        exact ⟨rfl, fun j => by simp⟩
      | cons o l ihl =>
        intro l' h
        simp only [List.mapM_cons, Option.bind_eq_bind, Option.bind_eq_some_iff, Option.pure_def, Option.some.injEq] at h
        obtain ⟨ao, h1, r, h2, rfl⟩ := h
        obtain ⟨k1, k2⟩ := ihl r h2
        refine ⟨by simp [k1], fun j => ?_⟩
        cases j with
        | zero => simp [h1]
        | succ j => simpa using k2 j
     obtain ⟨k1, k2⟩ := hget _ _ hl
     cases draw with
     | true =>
       simp only at hc
       split at hc
       ·rename_i hok
        simp only [Bool.and_eq_true] at hok
        simp only [Option.some.injEq] at hc
        subst hc
        simp only [execB] at he
        split at he
        ·rename_i fr1 H1 hev
         cases he
         exact draw_wp hL.mixed hcalls (mono_callW hmono) (by simpa using k1) (fun j => by rw [k2 j]; simp) hok.1 hok.2 hs hφ hev (fun φ' a' w' hst hs' => ⟨trivial, φ', hst, hs'⟩)
        ·cases he
       ·split at hc
        ·rename_i hok
         simp only [Bool.and_eq_true] at hok
         simp only [Option.some.injEq] at hc
         subst hc
         simp only [execB] at he
         split at he
         ·rename_i fr1 H1 hev
          cases he
          exact canon_wp hL.mixed hcalls (mono_callW hmono) (by simpa using k1) (fun j => by rw [k2 j]; simp) hok.1 hok.2 hs hφ hev (fun φ' a' w' hst hs' => ⟨trivial, φ', hst, hs'⟩)
         ·cases he
        ·cases hc
     | false =>
       simp only [Option.some.injEq] at hc
       subst hc
       simp only [execB] at he
       split at he
       ·rename_i fr1 H1 hev
        cases he
        refine wp_region ?_
        have := ops_wp (P := P) (N := N) (ops := ops) hcalls (mono_callW hmono) (Q := CPost B N φ H w .nm fr' H') l 0 φ H fr a w (fun j => by rw [k2 j]; simp) (by rw [k1]; simp) hs hφ hev
         (fun φ' a' w' hst hs' => ⟨trivial, φ', hst, hs'⟩)
        simpa using this
       ·cases he
   | seq x y =>
     simp only [cCode, Option.bind_eq_bind, Option.bind_eq_some_iff, Option.some.injEq] at hc
     obtain ⟨ax, hx, ay, hy, rfl⟩ := hc
     simp only [execB] at he
     refine wp_seq ?_
     split at he
     ·rename_i fr1 H1 h1
      refine wp_mono (ih N x ax φ H fr a w _ fr1 H1 hx h1 hs (fresh_left hφ (hmono _ _ _ _ _ _ he))) ?_
      rintro e1 a' w' ⟨hxr, φ1, hst, hs1⟩
      cases e1 <;> first | exact hxr.elim | skip
      exact wp_mono (ih N y ay φ1 H1 fr1 a' w' e fr' H' hy he hs1 (fresh_right hst hφ)) (fun _ _ _ h => CPost.trans hst h)
     ·rename_i hne
      refine wp_mono (ih N x ax φ H fr a w e fr' H' hx he hs hφ) ?_
      intro e1 a' w' hp
      cases e1 <;> first | exact hp | skip
      obtain ⟨hxr, _⟩ := hp
      cases e <;> first | exact hxr.elim | exact (hne _ _ he).elim
   | cond q x y =>
     simp only [cCode, Option.bind_eq_bind, Option.bind_eq_some_iff, Option.some.injEq] at hc
     obtain ⟨aq, hq, ax, hx, ay, hy, rfl⟩ := hc
     simp only [execB] at he
     split at he
     ·rename_i hev
      exact wp_cond_true (v_inv (ev_sound hs.frame hq hev)).1 (ih N x ax φ H fr a w e fr' H' hx he hs hφ)
     ·rename_i hev
      exact wp_cond_false (v_inv (ev_sound hs.frame hq hev)).1 (ih N y ay φ H fr a w e fr' H' hy he hs hφ)
     ·cases he
   | block id x =>
     simp only [cCode, Option.bind_eq_bind, Option.bind_eq_some_iff, Option.some.injEq] at hc
     obtain ⟨ax, hx, rfl⟩ := hc
     simp only [execB] at he
     refine wp_block ?_
     split at he
     ·rename_i i fr1 H1 h1
      split at he
      ·rename_i hid
       cases he
       refine wp_mono (ih N x ax φ H fr a w _ fr' H' hx h1 hs hφ) ?_
       rintro e1 a' w' ⟨hxr, hrest⟩
       cases e1 <;> first | exact hxr.elim | skip
       rename_i j
       have : j = id := by have : i = j := hxr; omega
       simp only [Exit.inBlock, this, if_true]
       exact ⟨trivial, hrest⟩
      ·rename_i hid
       cases he
       refine wp_mono (ih N x ax φ H fr a w _ fr' H' hx h1 hs hφ) ?_
       rintro e1 a' w' ⟨hxr, hrest⟩
       cases e1 <;> first | exact hxr.elim | skip
       rename_i j
       have hij : i = j := hxr
       have : ¬ j = id := by omega
       simp only [Exit.inBlock, this, if_false]
       exact ⟨hij, hrest⟩
     ·rename_i hne
      refine wp_mono (ih N x ax φ H fr a w e fr' H' hx he hs hφ) ?_
      intro e1 a' w' hp
      cases e1 <;> first | exact hp | skip
      obtain ⟨hxr, _⟩ := hp
      cases e <;> first | exact hxr.elim | exact (hne _ _ _ he).elim
   | loop x =>
     simp only [cCode, Option.bind_eq_bind, Option.bind_eq_some_iff, Option.some.injEq] at hc
     obtain ⟨ax, hx, rfl⟩ := hc
     exact wp_loop_rounds (n + 1) (hloop N x ax φ H fr a w e fr' H' hx he0 hs hφ)
   | exit id =>
     cases hc
     simp only [execB, Option.some.injEq, Prod.mk.injEq] at he
     obtain ⟨rfl, rfl, rfl⟩ := he
     exact wp_exit ⟨rfl, φ, .refl hs.heap, hs⟩
   | ret =>
     cases hc
     simp only [execB, Option.some.injEq, Prod.mk.injEq] at he
     obtain ⟨rfl, rfl, rfl⟩ := he
     exact wp_ret ⟨trivial, φ, .refl hs.heap, hs⟩
   | _ => cases hc
theorem call_sound_all (hL : Linked P A) (n : Nat) : CallsOk P B (callA A n) := calls_ok hL (code_ok hL n).1
end
end Go.AM
