/- The machine, and that it tells the truth of the program. No condition. -/
import Derived.Test.YtkohanehgndmhaaAM11
set_option linter.all false
namespace Go.AM
open Go.RowKit

theorem getElem?_of_zipIdx {α : Type} {l : List α} {i : Nat} {x : α} (h : l[i]? = some x) : (x, i) ∈ l.zipIdx := by
  rw [List.mem_zipIdx_iff_getElem?]; exact h

structure DrawOk (l : List AOper) (B : List Nat) : Prop where
  dst : ∀ (i j : Nat) (p q : AOper) (d : Nat), l[i]? = some p → l[j]? = some q → p.dst = some d → q.dst = some d → j = i
  ops : ∀ (i j : Nat) (p q : AOper) (t : Nat), l[i]? = some p → l[j]? = some q → (t ∈ p.op.tmps ∨ ∃ w, p.guard = some (t, w)) → q.dst = some t → (B.getD i 0).testBit j = true
  loud : ∀ (i j : Nat) (p q : AOper), l[i]? = some p → l[j]? = some q → isPure p.op = false → isPure q.op = false → ¬ (isReader p.op = true ∧ isReader q.op = true) → j < i → (B.getD i 0).testBit j = true

theorem drawOk_spec {l : List AOper} {B : List Nat} (h : drawOk l B = true) : DrawOk l B := by
  simp only [drawOk, List.all_eq_true, Bool.and_eq_true] at h
  refine ⟨?_, ?_, ?_⟩
  · intro i j p q d hp hq hpd hqd
    have h1 := (h _ (getElem?_of_zipIdx hp)).1.1
    simp only [hpd] at h1
    rw [List.all_eq_true] at h1
    have := h1 _ (getElem?_of_zipIdx hq)
    simp only [hqd, Bool.or_eq_true, beq_iff_eq, bne_self_eq_false, Bool.false_eq_true, or_false] at this
    exact this
  · intro i j p q t hp hq ht hqd
    have h1 := (h _ (getElem?_of_zipIdx hp)).1.2
    have := h1 t (by
      rcases ht with ht | ⟨w, hw⟩
      · exact List.mem_append_left _ ht
      · exact List.mem_append_right _ (by simp [hw])) _ (getElem?_of_zipIdx hq)
    simpa [hqd] using this
  · intro i j p q hp hq hpp hqp hr hlt
    have h1 := (h _ (getElem?_of_zipIdx hp)).2
    simp only [hpp, Bool.false_or, List.all_eq_true] at h1
    have := h1 _ (getElem?_of_zipIdx hq)
    simp only [hqp, Bool.false_or, Bool.or_eq_true, Bool.and_eq_true, decide_eq_true_eq] at this
    rcases this with (h2 | h2) | h2
    · exact (hr h2).elim
    · omega
    · exact h2

section
variable {call : Nat → List AV → Heap → Option (AV × Heap)}

/-- one operation -/
def One (call : Nat → List AV → Heap → Option (AV × Heap)) (o : AOper) (fr : T AV) (H : Heap) (fr' : T AV) (H' : Heap) : Prop :=
  (∃ v, (o.guard = none ∨ ∃ g w, o.guard = some (g, w) ∧ fr.get g = some (.v (.bool w))) ∧ evOp call o.op fr H = some (v, H') ∧ fr' = putD fr o.dst v) ∨
  ((∃ g w, o.guard = some (g, w) ∧ ((∃ b, fr.get g = some (.v (.bool b)) ∧ b ≠ w) ∨ ∃ cs, fr.get g = some (.tup cs))) ∧ H' = H ∧ fr' = putD fr o.dst (.tup []))

theorem evOps_cons {o : AOper} {l : List AOper} {fr : T AV} {H : Heap} {fr' : T AV} {H' : Heap} (h : evOps call (o :: l) fr H = some (fr', H')) :
    ∃ fr1 H1, One call o fr H fr1 H1 ∧ evOps call l fr1 H1 = some (fr', H') := by
  simp only [evOps] at h
  split at h
  · rename_i hg
    split at h
    · rename_i v H1 he
      exact ⟨_, _, .inl ⟨v, .inl hg, he, rfl⟩, h⟩
    · cases h
  · rename_i g w hg
    split at h
    · rename_i b hb
      split at h
      · rename_i hbw
        subst hbw
        split at h
        · rename_i v H1 he
          exact ⟨_, _, .inl ⟨v, .inr ⟨g, b, hg, hb⟩, he, rfl⟩, h⟩
        · cases h
      · rename_i hbw
        exact ⟨_, _, .inr ⟨⟨g, w, hg, .inl ⟨b, hb, hbw⟩⟩, rfl, rfl⟩, h⟩
    · rename_i cs hb
      exact ⟨_, _, .inr ⟨⟨g, w, hg, .inr ⟨cs, hb⟩⟩, rfl, rfl⟩, h⟩
    · cases h

/-- the run in the text's order, state by state -/
structure Run (call : Nat → List AV → Heap → Option (AV × Heap)) (l : List AOper) (frs : Nat → T AV) (Hs : Nat → Heap) : Prop where
  one : ∀ (k : Nat) (o : AOper), l[k]? = some o → One call o (frs k) (Hs k) (frs (k + 1)) (Hs (k + 1))

theorem run_of : ∀ {l : List AOper} {fr : T AV} {H : Heap} {fr' : T AV} {H' : Heap}, evOps call l fr H = some (fr', H') →
    ∃ frs Hs, Run call l frs Hs ∧ frs 0 = fr ∧ Hs 0 = H ∧ frs l.length = fr' ∧ Hs l.length = H'
  | [], fr, H, fr', H', h => by
    simp only [evOps, Option.some.injEq, Prod.mk.injEq] at h
    exact ⟨fun _ => fr, fun _ => H, ⟨fun k o hk => by simp at hk⟩, rfl, rfl, h.1, h.2⟩
  | o :: l, fr, H, fr', H', h => by
    obtain ⟨fr1, H1, h1, h2⟩ := evOps_cons h
    obtain ⟨frs, Hs, hr, e1, e2, e3, e4⟩ := run_of h2
    refine ⟨fun k => match k with | 0 => fr | k + 1 => frs k, fun k => match k with | 0 => H | k + 1 => Hs k, ⟨?_⟩, rfl, rfl, by simpa using e3, by simpa using e4⟩
    intro k o' hk
    cases k with
    | zero => simp at hk; subst hk; simp only [e1, e2]; exact h1
    | succ k => exact hr.one k o' (by simpa using hk)

section
variable {l : List AOper} {frs : Nat → T AV} {Hs : Nat → Heap}

theorem One.frame {o : AOper} {fr fr' : T AV} {H H' : Heap} (h : One call o fr H fr' H') {t : Nat} (ht : o.dst ≠ some t) : fr'.get t = fr.get t := by
  have key : ∀ v, fr' = putD fr o.dst v → fr'.get t = fr.get t := by
    intro v e
    subst e
    cases hd : o.dst with
    | none => rfl
    | some d =>
      simp only [putD, T.get_set]
      rw [if_neg (fun e => ht (by rw [hd, e]))]
  rcases h with ⟨v, _, _, e⟩ | ⟨_, _, e⟩
  · exact key _ e
  · exact key _ e

theorem Run.stable (hr : Run call l frs Hs) {t : Nat} : ∀ (m k : Nat), k + m = l.length → (∀ (d : Nat) (q : AOper), k ≤ d → l[d]? = some q → q.dst ≠ some t) → (frs l.length).get t = (frs k).get t
  | 0, k, hk, _ => by rw [show k = l.length by omega]
  | m + 1, k, hk, h => by
    have hlt : k < l.length := by omega
    have h1 := hr.one k l[k] (by simp [hlt])
    rw [hr.stable m (k + 1) (by omega) (fun d q hd hq => h d q (by omega) hq)]
    exact h1.frame (h k l[k] (Nat.le_refl _) (by simp [hlt]))

theorem One.quiet {o : AOper} {fr fr' : T AV} {H H' : Heap} (h : One call o fr H fr' H') (hq : isLoud o.op = false) : H' = H := by
  rcases h with ⟨v, _, he, _⟩ | ⟨_, e, _⟩
  · exact quiet_same hq he
  · exact e

theorem Run.still (hr : Run call l frs Hs) : ∀ (m k : Nat), k + m ≤ l.length → (∀ (d : Nat) (q : AOper), k ≤ d → d < k + m → l[d]? = some q → isLoud q.op = false) → Hs (k + m) = Hs k
  | 0, k, _, _ => rfl
  | m + 1, k, hk, h => by
    have hlt : k < l.length := by omega
    have h1 := (hr.one k l[k] (by simp [hlt])).quiet (h k l[k] (Nat.le_refl _) (by omega) (by simp [hlt]))
    rw [show k + (m + 1) = (k + 1) + m by omega, hr.still m (k + 1) (by omega) (fun d q h1 h2 hq => h d q (by omega) (by omega) hq), h1]

theorem Run.mono (hm : CallsMono call) (hr : Run call l frs Hs) : ∀ (m k : Nat), k + m ≤ l.length → (Hs k).next ≤ (Hs (k + m)).next
  | 0, k, _ => Nat.le_refl _
  | m + 1, k, hk => by
    have hlt : k < l.length := by omega
    have h1 := hr.one k l[k] (by simp [hlt])
    have h2 : (Hs k).next ≤ (Hs (k + 1)).next := by
      rcases h1 with ⟨v, _, he, _⟩ | ⟨_, e, _⟩
      · exact mono_op hm he
      · rw [e]; exact Nat.le_refl _
    rw [show k + (m + 1) = (k + 1) + m by omega]
    exact Nat.le_trans h2 (hr.mono hm m (k + 1) (by omega))

/-- how far the loud ones have come -/
def Upto (l : List AOper) (listed : Array Bool) (κ : Nat) : Prop :=
  κ ≤ l.length ∧ ∀ (d : Nat) (q : AOper), l[d]? = some q → isLoud q.op = true → (d < κ ↔ listed.getD d false = true)

theorem Run.upto (hr : Run call l frs Hs) {listed : Array Bool} {κ κ' : Nat} (h : Upto l listed κ) (h' : Upto l listed κ') : Hs κ = Hs κ' := by
  have key : ∀ κ κ', κ ≤ κ' → Upto l listed κ → Upto l listed κ' → Hs κ = Hs κ' := by
    intro κ κ' hle h h'
    have := hr.still (κ' - κ) κ (by have := h'.1; omega) (fun d q h1 h2 hq => by
      cases hl : isLoud q.op with
      | false => rfl
      | true =>
        have a1 := (h.2 d q hq hl)
        have a2 := (h'.2 d q hq hl)
        have : d < κ := a1.2 (a2.1 (by omega))
        omega)
    rw [show κ + (κ' - κ) = κ' by omega] at this
    exact this.symm
  rcases Nat.le_total κ κ' with hle | hle
  · exact key _ _ hle h h'
  · exact (key _ _ hle h' h).symm

end

def mkFrame (fr : T AV) : List Nat → T AV
  | [] => .e
  | t :: ts => (mkFrame fr ts).set t (fr.get t)

theorem mkFrame_get (fr : T AV) : ∀ (ts : List Nat) (t : Nat), (mkFrame fr ts).get t = if t ∈ ts then fr.get t else none
  | [], t => by simp [mkFrame, T.get_e]
  | s :: ts, t => by
    simp only [mkFrame, T.get_set]
    by_cases h : t = s
    · subst h; simp
    · rw [if_neg h, mkFrame_get fr ts]
      simp [h]

/-- the values that have come up -/
def FE (φ : Phi) (l : List AOper) (F : T AV) (listed : Array Bool) (tmps : Array Value) : Prop :=
  ∀ t v, F.get t = some v → (∀ (d : Nat) (q : AOper), l[d]? = some q → q.dst = some t → listed.getD d false = true) → ∃ x, tmps[t]? = some x ∧ VRel φ v x

structure DS (P : Program) (B N : Nat) (ops : Array Oper) (l : List AOper) (frs : Nat → T AV) (Hs : Nat → Heap) (φ0 : Phi) (H0 : Heap) (w0 : World) (listed : Array Bool) (a : Act) (w : World) : Prop where
  closed : Closed ops listed
  size : listed.size = ops.size
  ex : ∃ (φ : Phi) (κ : Nat), Upto l listed κ ∧ Step B φ0 H0 w0 φ (Hs κ) w ∧ FE φ l (frs l.length) listed a.tmps ∧ (∀ b, (Hs κ).next ≤ b → b < (Hs l.length).next → φ b = none)
  tmps : N ≤ a.tmps.size
  defers : a.defers = []

def unl (listed : Array Bool) (n : Nat) : Nat := ((List.range n).filter fun i => !listed.getD i true).length

theorem filter_lt {p q : Nat → Bool} (h : ∀ x, q x = true → p x = true) : ∀ (l : List Nat) (i : Nat), i ∈ l → p i = true → q i = false → (l.filter q).length < (l.filter p).length
  | x :: l, i, hi, hp, hq => by
    have hle : ∀ l : List Nat, (l.filter q).length ≤ (l.filter p).length := by
      intro l
      induction l with
      | nil => simp
      | cons y l ih =>
        simp only [List.filter_cons]
        cases hy : q y with
        | true => rw [h y hy]; simp; exact ih
        | false =>
          cases hy2 : p y with
          | true => simp; omega
          | false => simpa using ih
    simp only [List.mem_cons] at hi
    rcases hi with rfl | hi
    · simp only [List.filter_cons, hp, hq]
      have := hle l
      simp; omega
    · have := filter_lt h l i hi hp hq
      simp only [List.filter_cons]
      cases hy : q x with
      | true => rw [h x hy]; simp; omega
      | false =>
        cases hy2 : p x with
        | true => simp; omega
        | false => simpa using this

theorem getD_in {listed : Array Bool} {i : Nat} (hi : i < listed.size) (b c : Bool) : listed.getD i b = listed.getD i c := by
  simp [hi]

theorem draw_any {P : Program} {B N : Nat} {ops : Array Oper} {l : List AOper} {M : List Nat} (hcall : CallsOk P B call) (hm : CallsMono call) (hl : l.length = ops.size) (hget : ∀ j : Nat, l[j]? = (ops[j]?).bind (cOper P N ops))
    (hM : masksOk ops.toList M = true) (hD : DrawOk l M) {frs : Nat → T AV} {Hs : Nat → Heap} (hr : Run call l frs Hs) {φ0 : Phi} {H0 : Heap} {w0 : World} {Q : Exit → Act → World → Prop}
    (hq : ∀ φ' a' w', Step B φ0 H0 w0 φ' (Hs l.length) w' → SRel B N φ' (Hs l.length) (frs l.length) a' w' → Q .normal a' w') :
    ∀ (fuel : Nat) (listed : Array Bool) (a : Act) (w : World), unl listed ops.size ≤ fuel → DS P B N ops l frs Hs φ0 H0 w0 listed a w → wpAny P .any ops Q fuel listed a w := by
  -- where nothing may come up all has
  have fin : ∀ (listed : Array Bool) (a : Act) (w : World), DS P B N ops l frs Hs φ0 H0 w0 listed a w → Region.ready .any ops listed = [] → Q .normal a w := by
    intro listed a w hs hready
    have all : ∀ d, d < ops.size → listed.getD d true = true := by
      intro d
      induction d using Nat.strongRecOn with
      | _ d ih =>
        intro hd
        cases hb : listed.getD d true with
        | true => rfl
        | false =>
          exfalso
          have hmem : d ∈ Region.ready .any ops listed := by
            rw [mem_ready]
            refine ⟨hb, ops[d], by simp [hd], ?_⟩
            intro e he hbind
            have hed : e.on < d := by
              simp only [masksOk, Bool.and_eq_true, List.all_eq_true] at hM
              have hd' : d < M.length := by have := hM.1; simp at this; omega
              have hmm : (((ops[d], M[d]) : Oper × Nat), d) ∈ (ops.toList.zip M).zipIdx := by
                rw [List.mem_zipIdx_iff_getElem?, List.getElem?_zip_eq_some]
                exact ⟨by simp [hd], by simp [hd']⟩
              have := (hM.2 _ hmm).2 e (by simpa using he)
              simpa [hbind] using this
            have := ih e.on hed (by omega)
            rw [getD_in (by rw [hs.size]; omega) false true]
            exact this
          rw [hready] at hmem
          cases hmem
    obtain ⟨φ, κ, hu, hst, hfe, hφ⟩ := hs.ex
    have hlist : ∀ d, d < l.length → listed.getD d false = true := fun d hd => by
      rw [getD_in (by rw [hs.size]; omega) false true]; exact all d (by omega)
    have hup : Upto l listed l.length := ⟨Nat.le_refl _, fun d q hq _ => by
      have hd : d < l.length := (List.getElem?_eq_some_iff.1 hq).1
      exact ⟨fun _ => hlist d hd, fun _ => hd⟩⟩
    have hH : Hs κ = Hs l.length := hr.upto hu hup
    rw [hH] at hst
    refine hq φ a w hst ⟨hst.rel, ?_, hs.tmps, hs.defers⟩
    intro t v hv
    exact hfe t v hv (fun d q hq _ => hlist d (List.getElem?_eq_some_iff.1 hq).1)
  intro fuel
  induction fuel with
  | zero =>
    intro listed a w hn hs
    have hready : Region.ready .any ops listed = [] := by
      cases hq' : Region.ready .any ops listed with
      | nil => rfl
      | cons i r =>
        exfalso
        have hi : i ∈ Region.ready .any ops listed := by rw [hq']; simp
        obtain ⟨h1, o, h2, _⟩ := mem_ready.1 hi
        have hlt : i < ops.size := (Array.getElem?_eq_some_iff.1 h2).1
        have : i ∈ (List.range ops.size).filter fun i => !listed.getD i true := by
          rw [List.mem_filter]
          exact ⟨by simpa using hlt, by rw [h1]; rfl⟩
        have h0 : ((List.range ops.size).filter fun i => !listed.getD i true).length = 0 := Nat.le_zero.1 hn
        rw [List.eq_nil_of_length_eq_zero h0] at this
        cases this
    exact ⟨hready, fin listed a w hs hready⟩
  | succ fuel ih =>
    intro listed a w hn hs
    refine ⟨fun hready => fin listed a w hs hready, fun i hi => ?_⟩
    obtain ⟨hun, o, ho, hafter⟩ := mem_ready.1 hi
    have hlt : i < ops.size := (Array.getElem?_eq_some_iff.1 ho).1
    have hisz : i < listed.size := by rw [hs.size]; exact hlt
    have hunf : listed.getD i false = false := by rw [getD_in hisz false true]; exact hun
    have hli : l[i]? = some l[i] := by simp [hl, hlt]
    generalize l[i] = ao at hli
    have hco : cOper P N ops o = some ao := by
      have := hget i
      rw [hli, ho] at this
      simpa using this.symm
    obtain ⟨c1, c2, c3, c4⟩ := cOper_some hco
    -- behind it
    have hset : ∀ d, (listed.setIfInBounds i true).getD d false = if d = i then true else listed.getD d false := by
      intro d
      by_cases hd : d = i
      · subst hd; simp [hisz]
      · rw [if_neg hd, getD_set_ne false (Ne.symm hd)]
    have hclosed : Closed ops (listed.setIfInBounds i true) := by
      intro d o' ho' hld e he hb
      rw [hset] at hld ⊢
      by_cases hei : e.on = i
      · rw [if_pos hei]
      · rw [if_neg hei]
        by_cases hd : d = i
        · subst hd
          rw [ho] at ho'; cases ho'
          exact hafter e he hb
        · rw [if_neg hd] at hld
          exact hs.closed d o' ho' hld e he hb
    have hbefore : ∀ j, (M.getD i 0).testBit j = true → j < i ∧ listed.getD j false = true := by
      intro j hj
      obtain ⟨k1, k2⟩ := masks_closed hM hclosed i j hj (by rw [hset, if_pos rfl])
      refine ⟨k1, ?_⟩
      rw [hset, if_neg (by omega)] at k2
      exact k2
    have hafteri : ∀ d, (M.getD d 0).testBit i = true → listed.getD d false = false := by
      intro d hd
      cases hb : listed.getD d false with
      | false => rfl
      | true =>
        have := (masks_closed hM hs.closed d i hd hb).2
        rw [hunf] at this; cases this
    have hless : unl (listed.setIfInBounds i true) ops.size ≤ fuel := by
      have : unl (listed.setIfInBounds i true) ops.size < unl listed ops.size := by
        refine filter_lt ?_ _ i (by simpa using hlt) (by rw [hun]; rfl) (by simp [hisz])
        intro x hx
        by_cases hxi : x = i
        · subst hxi; rw [hun]; rfl
        · rw [getD_set_ne true (Ne.symm hxi)] at hx
          exact hx
      omega
    obtain ⟨φ, κ, hu, hst, hfe, hφ⟩ := hs.ex
    -- where it isn't pure the heap is the one of the text's order
    have hat : isPure ao.op = false → Hs κ = Hs i := by
      intro hp
      refine hr.upto hu ⟨by omega, fun d q hq hld => ?_⟩
      have hqp : isPure q.op = false := by
        simp only [isLoud, Bool.and_eq_true, Bool.not_eq_true'] at hld; exact hld.1
      have hqr : isReader q.op = false := by
        simp only [isLoud, Bool.and_eq_true, Bool.not_eq_true'] at hld; exact hld.2
      rcases Nat.lt_trichotomy d i with h | h | h
      · exact ⟨fun _ => (hbefore d (hD.loud i d ao q hli hq hp hqp (by simp [hqr]) h)).2, fun _ => h⟩
      · subst h
        exact ⟨fun h => absurd h (Nat.lt_irrefl _), fun h => by rw [hunf] at h; cases h⟩
      · refine ⟨fun h' => by omega, fun h' => ?_⟩
        rw [hafteri d (hD.loud d i q ao hq hli hqp hp (by simp [hqr]) h)] at h'
        cases h'
    -- what it looks at
    have hlook : ∀ t, (t ∈ ao.op.tmps ∨ ∃ w, ao.guard = some (t, w)) → (frs l.length).get t = (frs i).get t ∧ ∀ v, (frs i).get t = some v → ∃ x, a.tmps[t]? = some x ∧ VRel φ v x := by
      intro t ht
      have hw : ∀ (d : Nat) (q : AOper), l[d]? = some q → q.dst = some t → d < i ∧ listed.getD d false = true := fun d q hq hqd => hbefore d (hD.ops i d ao q t hli hq ht hqd)
      have e1 : (frs l.length).get t = (frs i).get t := hr.stable (l.length - i) i (by omega) (fun d q hd hq hqd => by
        have := (hw d q hq hqd).1; omega)
      refine ⟨e1, fun v hv => ?_⟩
      exact hfe t v (by rw [e1]; exact hv) (fun d q hq hqd => (hw d q hq hqd).2)
    -- the state behind it
    have next : ∀ {v : AV} {φ' : Phi} {x : Value} {w' : World}, frs (i + 1) = putD (frs i) ao.dst v → VRel φ' v x → (∃ κ', Upto l (listed.setIfInBounds i true) κ' ∧ Step B φ (Hs κ) w φ' (Hs κ') w' ∧ (∀ b, (Hs κ').next ≤ b → b < (Hs l.length).next → φ' b = none)) →
        wpAny P .any ops Q fuel (listed.setIfInBounds i true) (a.put o.dst x) w' := by
      intro v φ' x w' hfr hv hex
      obtain ⟨κ', hu', hst', hφ'⟩ := hex
      refine ih _ _ _ hless ⟨hclosed, by simp [hs.size], ⟨φ', κ', hu', hst.trans hst', ?_, hφ'⟩, ?_, ?_⟩
      · intro t u htu hlist
        by_cases hd : ao.dst = some t
        · have e1 : (frs l.length).get t = (frs (i + 1)).get t := hr.stable (l.length - (i + 1)) (i + 1) (by omega) (fun d q hd' hq hqd => by
            have := hD.dst i d ao q t hli hq hd hqd; omega)
          rw [e1, hfr, hd] at htu
          simp only [putD, T.get_set, if_true, Option.some.injEq] at htu
          subst htu
          refine ⟨x, ?_, hv⟩
          rw [← c1, hd]
          have hN : t < N := by
            rw [← c1, hd] at c3
            simpa using c3
          have := hs.tmps
          simp only [Act.put, Array.getElem?_setIfInBounds, if_true]
          rw [if_pos (by omega)]
        · obtain ⟨y, h1, h2⟩ := hfe t u htu (fun d q hq hqd => by
            have := hlist d q hq hqd
            rw [hset] at this
            by_cases hdi : d = i
            · subst hdi
              rw [hli] at hq; cases hq
              exact (hd hqd).elim
            · rw [if_neg hdi] at this; exact this)
          refine ⟨y, ?_, h2.mono hst'.le⟩
          rw [← c1]
          cases hdd : ao.dst with
          | none => exact h1
          | some d =>
            simp only [Act.put, Array.getElem?_setIfInBounds]
            rw [if_neg (fun e => hd (by rw [hdd, e]))]
            exact h1
      · have := hs.tmps
        cases o.dst <;> simpa [Act.put] using this
      · have := hs.defers
        cases o.dst <;> simpa [Act.put] using this
    -- how far the loud ones have come behind it
    have up0 : isLoud ao.op = false → Upto l (listed.setIfInBounds i true) κ := fun hq => ⟨hu.1, fun d q hdq hld => by
      rw [hset]
      by_cases hd : d = i
      · subst hd; rw [hli] at hdq; cases hdq; rw [hq] at hld; cases hld
      · rw [if_neg hd]; exact hu.2 d q hdq hld⟩
    have up1 : isLoud ao.op = true → Upto l (listed.setIfInBounds i true) (i + 1) := fun hq => ⟨by omega, fun d q hdq hld => by
      have hlp : ∀ {x : AOp}, isLoud x = true → isPure x = false ∧ isReader x = false := fun h => by
        simpa [isLoud] using h
      rw [hset]
      rcases Nat.lt_trichotomy d i with h | h | h
      · rw [if_neg (by omega)]
        exact ⟨fun _ => (hbefore d (hD.loud i d ao q hli hdq (hlp hq).1 (hlp hld).1 (by simp [(hlp hq).2]) h)).2, fun _ => by omega⟩
      · rw [if_pos h]; exact ⟨fun _ => rfl, fun _ => by omega⟩
      · rw [if_neg (by omega)]
        refine ⟨fun h' => by omega, fun h' => ?_⟩
        rw [hafteri d (hD.loud d i q ao hdq hli (hlp hld).1 (hlp hq).1 (by simp [(hlp hq).2]) h)] at h'
        cases h'⟩
    have hmono1 : (Hs (i + 1)).next ≤ (Hs l.length).next := by
      have := hr.mono hm (l.length - (i + 1)) (i + 1) (by omega)
      rwa [show i + 1 + (l.length - (i + 1)) = l.length by omega] at this
    unfold wpOp
    simp only [ho]
    rcases hr.one i ao hli with ⟨v, hg, he, hfr⟩ | ⟨⟨g, want, hg, hb⟩, hH, hfr⟩
    · -- it is carried out
      have hwanted : Region.wanted o (yielded ops a.tmps) = true := by
        rcases c4 with ⟨g1, g2⟩ | ⟨j, want, d, g1, g2, g3⟩
        · simp [Region.wanted, g1]
        · rcases hg with hg | ⟨g, w', hg, hb⟩
          · rw [g3] at hg; cases hg
          · rw [g3] at hg; cases hg
            obtain ⟨x, e1, e2⟩ := (hlook _ (.inr ⟨_, g3⟩)).2 _ hb
            have ex := (v_inv e2).1
            subst ex
            have hy : yielded ops a.tmps j = some want := by simp only [yielded, g2, Option.bind_some, e1]
            simp [Region.wanted, g1, hy]
      rw [if_pos hwanted]
      -- on the heap that there is
      have hev : ∃ H2, evOp call ao.op (frs i) (Hs κ) = some (v, H2) ∧ H2.next ≤ (Hs l.length).next ∧ ∃ κ', Upto l (listed.setIfInBounds i true) κ' ∧ Hs κ' = H2 := by
        cases hp : isPure ao.op with
        | true =>
          refine ⟨Hs κ, (pure_any hp he).2 _, ?_, κ, up0 (by simp [isLoud, hp]), rfl⟩
          have := hr.mono hm (l.length - κ) κ (by have := hu.1; omega)
          rwa [show κ + (l.length - κ) = l.length by have := hu.1; omega] at this
        | false =>
          rw [hat hp]
          refine ⟨Hs (i + 1), he, hmono1, ?_⟩
          cases hlo : isLoud ao.op with
          | true => exact ⟨i + 1, up1 hlo, rfl⟩
          | false => exact ⟨κ, up0 hlo, by rw [hat hp, quiet_same hlo he]⟩
      obtain ⟨H2, he2, hn2, κ', hu', hκ'⟩ := hev
      have hfr2 : FRel φ (mkFrame (frs i) ao.op.tmps) a.tmps := by
        intro t u htu
        rw [mkFrame_get] at htu
        split at htu
        · rename_i ht
          exact (hlook t (.inl ht)).2 u htu
        · cases htu
      have he3 : evOp call ao.op (mkFrame (frs i) ao.op.tmps) (Hs κ) = some (v, H2) := by
        rw [← he2]
        refine evOp_congr fun t ht => ?_
        rw [mkFrame_get, if_pos ht]
      refine .inl (oper_wp hcall hst.rel hfr2 (fun b h1 h2 => hφ b h1 (by omega)) c2.symm he3 ?_)
      intro x w' φ' hst' hv
      subst hκ'
      exact next hfr hv ⟨κ', hu', hst', fresh_right hst' hφ⟩
    · -- it is not
      have hwanted : Region.wanted o (yielded ops a.tmps) = false := by
        rcases c4 with ⟨g1, g2⟩ | ⟨j, want', d, g1, g2, g3⟩
        · rw [g2] at hg; cases hg
        · rw [g3] at hg; cases hg
          rcases hb with ⟨b, hb, hne⟩ | ⟨cs, hb⟩
          · obtain ⟨x, e1, e2⟩ := (hlook _ (.inr ⟨_, g3⟩)).2 _ hb
            have ex := (v_inv e2).1
            subst ex
            have hy : yielded ops a.tmps j = some b := by simp only [yielded, g2, Option.bind_some, e1]
            simp [Region.wanted, g1, hy, hne]
          · obtain ⟨x, e1, e2⟩ := (hlook _ (.inr ⟨_, g3⟩)).2 _ hb
            have hy : yielded ops a.tmps j = none := by
              cases e2
              simp only [yielded, g2, Option.bind_some, e1]
            simp [Region.wanted, g1, hy]
      rw [hwanted, if_neg (by decide)]
      refine next (φ' := φ) hfr (.tup (by simp) (by simp)) ?_
      cases hlo : isLoud ao.op with
      | true =>
        have hp : isPure ao.op = false := by simp only [isLoud, Bool.and_eq_true, Bool.not_eq_true'] at hlo; exact hlo.1
        have hHk : Hs (i + 1) = Hs κ := by rw [hH, hat hp]
        refine ⟨i + 1, up1 hlo, ?_, ?_⟩
        · rw [hHk]; exact .refl hst.rel
        · rw [hHk]; exact hφ
      | false => exact ⟨κ, up0 hlo, .refl hst.rel, hφ⟩

/-- **A region that draws**, where nothing that acts may come up beside another such thing. -/
theorem draw_wp {P : Program} {B N : Nat} {id : Nat} {ops : Array Oper} {l : List AOper} {M : List Nat} (hmx : P.follows .mixedOrders = true) (hcall : CallsOk P B call) (hm : CallsMono call) (hl : l.length = ops.size)
    (hget : ∀ j : Nat, l[j]? = (ops[j]?).bind (cOper P N ops)) (hM : masksOk ops.toList M = true) (hD : drawOk l M = true) {φ : Phi} {H H' : Heap} {fr fr' : T AV} {a : Act} {w : World} {Q : Exit → Act → World → Prop}
    (hs : SRel B N φ H fr a w) (hφ : ∀ b, H.next ≤ b → b < H'.next → φ b = none) (he : evOps call l fr H = some (fr', H'))
    (hq : ∀ φ' a' w', Step B φ H w φ' H' w' → SRel B N φ' H' fr' a' w' → Q .normal a' w') : (Code.region id ops true).wp P Q a w := by
  obtain ⟨frs, Hs, hr, rfl, rfl, rfl, rfl⟩ := run_of he
  refine wp_region_any hmx (draw_any hcall hm hl hget hM (drawOk_spec hD) hr (φ0 := φ) (H0 := Hs 0) (w0 := w) hq ops.size _ a _ ?_ ?_)
  · have : ((List.range ops.size).filter fun i => !(Array.replicate ops.size false).getD i true).length ≤ (List.range ops.size).length := List.length_filter_le _ _
    simpa [unl] using this
  · refine ⟨?_, by simp, ⟨φ, 0, ⟨Nat.zero_le _, ?_⟩, Step.drew hs.heap _, ?_, hφ⟩, hs.size, hs.defers⟩
    · intro d o ho hld
      have hd : d < ops.size := (Array.getElem?_eq_some_iff.1 ho).1
      simp [hd] at hld
    · intro d q hq' _
      have hd : d < ops.size := by rw [← hl]; exact (List.getElem?_eq_some_iff.1 hq').1
      simp [hd]
    · intro t v hv hlist
      have e1 : (frs l.length).get t = (frs 0).get t := hr.stable l.length 0 (by omega) (fun d q _ hdq hqd => by
        have hd : d < ops.size := by rw [← hl]; exact (List.getElem?_eq_some_iff.1 hdq).1
        have := hlist d q hdq hqd
        simp [hd] at this)
      rw [e1] at hv
      exact hs.frame t v hv

end
end Go.AM
