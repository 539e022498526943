/- The machine, and that it tells the truth of the program. No condition. -/
import Derived.Test.YtkohanehgndmhaaAM15
set_option linter.all false
namespace Go.AM
open Go.RowKit
/-- the values that have come up -/
def FC (φ : Phi) (l : List AOper) (π : Nat → Nat) (F F0 : T AV) (listed : Array Bool) (tmps : Array Value) : Prop :=
  (∀ t v, F.get t = some v → (∀ (d : Nat) (q : AOper), l[d]? = some q → q.dst = some t → listed.getD (π d) false = true) → ∃ x, tmps[t]? = some x ∧ VRel φ v x) ∧
  (∀ t v, F0.get t = some v → (∀ (d : Nat) (q : AOper), l[d]? = some q → q.dst = some t → listed.getD (π d) false = false) → ∃ x, tmps[t]? = some x ∧ VRel φ v x)
theorem Run.upTo {call : Nat → List AV → Heap → Option (AV × Heap)} {l : List AOper} {frs : Nat → T AV} {Hs : Nat → Heap} (hr : Run call l frs Hs) {t : Nat} : ∀ {i : Nat}, i ≤ l.length → (∀ (d : Nat) (q : AOper), d < i → l[d]? = some q → q.dst ≠ some t) → (frs i).get t = (frs 0).get t
  | 0, _, _ => rfl
  | i + 1, hi, h => by
    have hq : l[i]? = some l[i] := by simp [show i < l.length from hi]
    rw [(hr.one i _ hq).frame (h i _ (by omega) hq)]
    exact hr.upTo (by omega) (fun d q hd => h d q (by omega))
def UpA (l : List AOper) (π : Nat → Nat) (listed : Array Bool) (κ : Nat) : Prop := ∀ (d : Nat) (q : AOper), l[d]? = some q → isActor q.op = true → (d < κ ↔ listed.getD (π d) false = true)
section
variable {call : Nat → List AV → Heap → Option (AV × Heap)}
structure DC (P : Program) (B N : Nat) (call : Nat → List AV → Heap → Option (AV × Heap)) (ops : Array Oper) (l : List AOper) (π : Nat → Nat) (frs : Nat → T AV) (Hs : Nat → Heap) (φ0 : Phi) (w0 : World) (listed : Array Bool) (a : Act) (w : World) : Prop where
  closed : Closed ops listed
  size : listed.size = ops.size
  ex : ∃ (φ : Phi) (κ : Nat), St B call l Hs π φ0 w0 listed φ κ w ∧ AtActor l κ ∧ UpA l π listed κ ∧ FC φ l π (frs l.length) (frs 0) listed a.tmps
  tmps : N ≤ a.tmps.size
  defers : a.defers = []

theorem canon_any {P : Program} {B N : Nat} {ops : Array Oper} {l : List AOper} {π : Nat → Nat} {M : List Nat} (hcall : CallsOk P B call) (hm : CallsMono call) (hl : l.length = ops.size) (hπ : ∀ a : Nat, a < ops.size → ∃ i : Nat, i < l.length ∧ π i = a) (hπ2 : ∀ i : Nat, i < l.length → π i < ops.size)
    (hget : ∀ (i : Nat) (o' : AOper), l[i]? = some o' → ∃ o ao, ops[π i]? = some o ∧ cOper P N ops o = some ao ∧ o'.dst = ao.dst ∧ o'.guard = ao.guard ∧ o'.op.base = ao.op)
    (hM : masksOk ops.toList M = true) (hC : CO l M π) {frs : Nat → T AV} {Hs : Nat → Heap} (hr : Run call l frs Hs) {φ0 : Phi} {w0 : World} {Q : Exit → Act → World → Prop}
    (hq : ∀ φ' a' w', Step B φ0 (Hs 0) w0 φ' (Hs l.length) w' → SRel B N φ' (Hs l.length) (frs l.length) a' w' → Q .normal a' w') :
    ∀ (fuel : Nat) (listed : Array Bool) (a : Act) (w : World), unl listed ops.size ≤ fuel → DC P B N call ops l π frs Hs φ0 w0 listed a w → wpAny P .any ops Q fuel listed a w := by
  have fin : ∀ (listed : Array Bool) (a : Act) (w : World), DC P B N call ops l π frs Hs φ0 w0 listed a w → Region.ready .any ops listed = [] → Q .normal a w := by
    intro listed a w hs hready
    have all : ∀ d, d < ops.size → listed.getD d true = true := by
      intro d
      induction d using Nat.strongRecOn with
      | _ d ih =>
        intro hd
        cases hb : listed.getD d true with
        | true => rfl
        | false =>
          exfalso
          have hmem : d ∈ Region.ready .any ops listed := by
            rw [mem_ready]
            refine ⟨hb, ops[d], by simp [hd], ?_⟩
            intro e he hbind
            have hed : e.on < d := by
              simp only [masksOk, Bool.and_eq_true, List.all_eq_true] at hM
              have hd' : d < M.length := by have := hM.1; simp at this; omega
              have hmm : (((ops[d], M[d]) : Oper × Nat), d) ∈ (ops.toList.zip M).zipIdx := by
                rw [List.mem_zipIdx_iff_getElem?, List.getElem?_zip_eq_some]
                exact ⟨by simp [hd], by simp [hd']⟩
              have := (hM.2 _ hmm).2 e (by simpa using he)
              simpa [hbind] using this
            have := ih e.on hed (by omega)
            rw [getD_in (by rw [hs.size]; omega) false true]
            exact this
          rw [hready] at hmem
          cases hmem
    obtain ⟨φ, κ, hst, hat, hu, hfe⟩ := hs.ex
    have hlist : ∀ d, d < l.length → listed.getD (π d) false = true := fun d hd => by
      have := hπ2 d hd
      rw [getD_in (by rw [hs.size]; omega) false true]; exact all _ this
    have hκ : κ = l.length := by
      rcases hat with e | ⟨o, ho, hact⟩
      · exact e
      · exfalso
        have := (hu κ o ho hact).2 (hlist κ (List.getElem?_eq_some_iff.1 ho).1)
        omega
    subst hκ
    refine hq φ a w hst.step ⟨hst.step.rel, ?_, hs.tmps, hs.defers⟩
    intro t v hv
    exact hfe.1 t v hv (fun d q hq _ => hlist d (List.getElem?_eq_some_iff.1 hq).1)
  intro fuel
  induction fuel with
  | zero =>
    intro listed a w hn hs
    have hready : Region.ready .any ops listed = [] := by
      cases hq' : Region.ready .any ops listed with
      | nil => rfl
      | cons i r =>
        exfalso
        have hi : i ∈ Region.ready .any ops listed := by rw [hq']; simp
        obtain ⟨h1, o, h2, _⟩ := mem_ready.1 hi
        have hlt : i < ops.size := (Array.getElem?_eq_some_iff.1 h2).1
        have : i ∈ (List.range ops.size).filter fun i => !listed.getD i true := by
          rw [List.mem_filter]
          exact ⟨by simpa using hlt, by rw [h1]; rfl⟩
        have h0 : ((List.range ops.size).filter fun i => !listed.getD i true).length = 0 := Nat.le_zero.1 hn
        rw [List.eq_nil_of_length_eq_zero h0] at this
        cases this
    exact ⟨hready, fin listed a w hs hready⟩
  | succ fuel ih =>
    intro listed a w hn hs
    refine ⟨fun hready => fin listed a w hs hready, fun ti hi => ?_⟩
    obtain ⟨hun, o, ho, hafter⟩ := mem_ready.1 hi
    have hlt : ti < ops.size := (Array.getElem?_eq_some_iff.1 ho).1
    have hisz : ti < listed.size := by rw [hs.size]; exact hlt
    have hunf : listed.getD ti false = false := by rw [getD_in hisz false true]; exact hun
    obtain ⟨i, hil, hπi⟩ := hπ ti hlt
    have hli : l[i]? = some l[i] := by simp [hil]
    generalize l[i] = p at hli
    obtain ⟨o2, ao, ho2, hco, d1, d2, d3⟩ := hget i p hli
    rw [hπi, ho] at ho2
    cases ho2
    obtain ⟨c1, c2, c3, c4⟩ := cOper_some hco
    rw [← d1] at c1
    rw [← d2] at c4
    have hset : ∀ d, (listed.setIfInBounds ti true).getD d false = if d = ti then true else listed.getD d false := by
      intro d
      by_cases hd : d = ti
      · subst hd; simp [hisz]
      · rw [if_neg hd, getD_set_ne false (Ne.symm hd)]
    have hweak : ∀ d, (listed.setIfInBounds ti true).getD d false = false → listed.getD d false = false := fun d hd => by
      rw [hset] at hd
      split at hd
      · cases hd
      · exact hd
    have hclosed : Closed ops (listed.setIfInBounds ti true) := by
      intro d o' ho' hld e he hb
      rw [hset] at hld ⊢
      by_cases hei : e.on = ti
      · rw [if_pos hei]
      · rw [if_neg hei]
        by_cases hd : d = ti
        · subst hd
          rw [ho] at ho'; cases ho'
          exact hafter e he hb
        · rw [if_neg hd] at hld
          exact hs.closed d o' ho' hld e he hb
    have hbefore : ∀ j, preds M ti j = true → listed.getD j false = true := by
      intro j hj
      obtain ⟨k1, k2⟩ := masks_closed hM hclosed ti j hj (by rw [hset, if_pos rfl])
      rw [hset, if_neg (by omega)] at k2
      exact k2
    have hafteri : ∀ d, preds M d ti = true → listed.getD d false = false := by
      intro d hd
      cases hb : listed.getD d false with
      | false => rfl
      | true =>
        have := (masks_closed hM hs.closed d ti hd hb).2
        rw [hunf] at this; cases this
    have hless : unl (listed.setIfInBounds ti true) ops.size ≤ fuel := by
      have : unl (listed.setIfInBounds ti true) ops.size < unl listed ops.size := by
        refine filter_lt ?_ _ ti (by simpa using hlt) (by rw [hun]; rfl) (by simp [hisz])
        intro x hx
        by_cases hxi : x = ti
        · subst hxi; rw [hun]; rfl
        · rw [getD_set_ne true (Ne.symm hxi)] at hx
          exact hx
      omega
    obtain ⟨φ, κ, hst, hat, hu, hfe⟩ := hs.ex
    have hκn := hst.le
    -- what acts comes up where one is
    have hact : isActor p.op = true → i = κ := fun h => by
      have h1 : ¬ i < κ := fun c => by
        have := (hu i p hli h).1 c
        rw [hπi, hunf] at this; cases this
      rcases hat with e | ⟨o', ho', hact'⟩
      · omega
      · rcases Nat.lt_or_ge κ i with c | c
        · have hp : isPure p.op = false := by
            simp only [isActor, isLoud, Bool.and_eq_true, Bool.not_eq_true'] at h; exact h.1.1
          have := hbefore _ (by rw [← hπi]; exact hC.act i κ p o' hli ho' hp hact' c)
          have := (hu κ o' ho' hact').2 this
          omega
        · omega
    have hnact : isPure p.op = false → isActor p.op = false → i < κ := fun h1 h2 => by
      rcases Nat.lt_or_ge i κ with c | c
      · exact c
      · exfalso
        rcases hat with e | ⟨o', ho', hact'⟩
        · omega
        · have hne : κ ≠ i := fun e => by
            subst e; rw [hli] at ho'; cases ho'; rw [h2] at hact'; cases hact'
          have := hbefore _ (by rw [← hπi]; exact hC.act i κ p o' hli ho' h1 hact' (by omega))
          have := (hu κ o' ho' hact').2 this
          omega
    -- what it looks at
    have hlook : ∀ t, (t ∈ p.op.base.tmps ∨ ∃ w, p.guard = some (t, w)) → ∀ v, (frs i).get t = some v → ∃ x, a.tmps[t]? = some x ∧ VRel φ v x := by
      intro t ht v hv
      -- is there one that writes it behind?
      by_cases hb : ∃ (d : Nat) (q : AOper), l[d]? = some q ∧ q.dst = some t ∧ i ≤ d
      · obtain ⟨d, q, hq, hqd, hd⟩ := hb
        have hdl := (List.getElem?_eq_some_iff.1 hq).1
        have hpd : preds M (π d) (π i) = true := by
          rcases hC.ops i d p q t hli hq ht hqd with k | ⟨k, _⟩
          · have := hC.ord i d hil hdl k; omega
          · exact k
        have hdi := hC.ord d i hdl hil hpd
        have hun2 : listed.getD (π d) false = false := hafteri _ (by rw [← hπi]; exact hpd)
        have only : ∀ (d' : Nat) (q' : AOper), l[d']? = some q' → q'.dst = some t → d' = d := fun d' q' hq' hqd' => hC.dst d d' q q' t hq hq' hqd hqd'
        have e1 : (frs i).get t = (frs 0).get t := hr.upTo (by omega) (fun d' q' hd' hq' hqd' => by have := only d' q' hq' hqd'; omega)
        exact hfe.2 t v (by rw [← e1]; exact hv) (fun d' q' hq' hqd' => by rw [only d' q' hq' hqd']; exact hun2)
      · have hw : ∀ (d : Nat) (q : AOper), l[d]? = some q → q.dst = some t → d < i ∧ listed.getD (π d) false = true := fun d q hq hqd => by
          have hdl := (List.getElem?_eq_some_iff.1 hq).1
          rcases hC.ops i d p q t hli hq ht hqd with k | ⟨k, _⟩
          · exact ⟨hC.ord i d hil hdl k, hbefore _ (by rw [← hπi]; exact k)⟩
          · have := hC.ord d i hdl hil k
            exact absurd ⟨d, q, hq, hqd, by omega⟩ hb
        have e1 : (frs l.length).get t = (frs i).get t := hr.stab (by omega) (Nat.le_refl _) (fun d q hd hq hqd => by
          have := (hw d q hq hqd).1; omega)
        exact hfe.1 t v (by rw [e1]; exact hv) (fun d q hq hqd => (hw d q hq hqd).2)
    -- the state behind it
    have next : ∀ {v : AV} {φ' : Phi} {x : Value} {w' : World}, frs (i + 1) = putD (frs i) p.dst v → VRel φ' v x → Le φ φ' → (∃ κ', St B call l Hs π φ0 w0 (listed.setIfInBounds ti true) φ' κ' w' ∧ AtActor l κ' ∧ UpA l π (listed.setIfInBounds ti true) κ') →
        wpAny P .any ops Q fuel (listed.setIfInBounds ti true) (a.put o.dst x) w' := by
      intro v φ' x w' hfr hv hle hex
      obtain ⟨κ', hst', hat', hu'⟩ := hex
      refine ih _ _ _ hless ⟨hclosed, by simp [hs.size], ⟨φ', κ', hst', hat', hu', ?_, ?_⟩, ?_, ?_⟩
      · intro t u htu hlist
        by_cases hd : p.dst = some t
        · have e1 : (frs l.length).get t = (frs (i + 1)).get t := hr.stab (by omega) (Nat.le_refl _) (fun d q hd' hq hqd => by
            have := hC.dst i d p q t hli hq hd hqd; omega)
          rw [e1, hfr, hd] at htu
          simp only [putD, T.get_set, if_true, Option.some.injEq] at htu
          subst htu
          refine ⟨x, ?_, hv⟩
          rw [← c1, hd]
          have hN : t < N := by
            rw [← c1, hd] at c3
            simpa using c3
          have := hs.tmps
          simp only [Act.put, Array.getElem?_setIfInBounds, if_true]
          rw [if_pos (by omega)]
        · obtain ⟨y, h1, h2⟩ := hfe.1 t u htu (fun d q hq hqd => by
            have := hlist d q hq hqd
            rw [hset] at this
            by_cases hdi : π d = ti
            · have hdi' : d = i := hC.inj d i (List.getElem?_eq_some_iff.1 hq).1 hil (by rw [hdi, hπi])
              subst hdi'
              rw [hli] at hq; cases hq
              exact (hd hqd).elim
            · rw [if_neg hdi] at this; exact this)
          refine ⟨y, ?_, h2.mono hle⟩
          rw [← c1]
          cases hdd : p.dst with
          | none => exact h1
          | some d =>
            simp only [Act.put, Array.getElem?_setIfInBounds]
            rw [if_neg (fun e => hd (by rw [hdd, e]))]
            exact h1
      · intro t u htu hlist
        have hd : p.dst ≠ some t := fun hd => by
          have := hlist i p hli hd
          rw [hπi, hset, if_pos rfl] at this; cases this
        obtain ⟨y, h1, h2⟩ := hfe.2 t u htu (fun d q hq hqd => hweak _ (hlist d q hq hqd))
        refine ⟨y, ?_, h2.mono hle⟩
        rw [← c1]
        cases hdd : p.dst with
        | none => exact h1
        | some d =>
          simp only [Act.put, Array.getElem?_setIfInBounds]
          rw [if_neg (fun e => hd (by rw [hdd, e]))]
          exact h1
      · have := hs.tmps
        cases o.dst <;> simpa [Act.put] using this
      · have := hs.defers
        cases o.dst <;> simpa [Act.put] using this
    -- who has come up behind it
    have up0 : isActor p.op = false → UpA l π (listed.setIfInBounds ti true) κ := fun hp d q hdq hqa => by
      rw [hset]
      by_cases hd : π d = ti
      · have : d = i := hC.inj d i (List.getElem?_eq_some_iff.1 hdq).1 hil (by rw [hd, hπi])
        subst this; rw [hli] at hdq; cases hdq; rw [hp] at hqa; cases hqa
      · rw [if_neg hd]; exact hu d q hdq hqa
    -- what acts, with all that may be made behind it
    have acts : isActor p.op = true → ∀ {φ' : Phi} {w' : World}, Step B φ (Hs κ) w φ' (Hs (κ + 1)) w' →
        (∀ (j : Nat) (q : AOper), j < κ → l[j]? = some q → isAlloc q.op = true → listed.getD (π j) false = false → ∀ es cs, Hs (j + 1) = (Hs j).alloc es cs → (Hs (κ + 1)).blks.get (Hs j).next = (Hs κ).blks.get (Hs j).next) →
        ∃ κ', St B call l Hs π φ0 w0 (listed.setIfInBounds ti true) φ' κ' w' ∧ AtActor l κ' ∧ UpA l π (listed.setIfInBounds ti true) κ' := by
      intro hpa φ' w' hstep hcont
      have hik := hact hpa
      subst hik
      have hst1 := hst.acts hm hr hli hpa hstep hcont hweak
      obtain ⟨κ', k1, k2, k3, k4⟩ := hst1.adv hm hr (l.length - (i + 1)) (i + 1) (by omega) (fun j q hj hq hal => by
        have hqp : isPure q.op = false := by cases hqo : q.op <;> rw [hqo] at hal <;> simp [isAlloc] at hal <;> rfl
        have hjl := (List.getElem?_eq_some_iff.1 hq).1
        have := hafteri _ (by rw [← hπi]; exact hC.act j i q p hq hli hqp hpa (by omega))
        rw [hset, if_neg (fun e => by have := hC.inj j i hjl hil (by rw [e, hπi]); omega)]
        exact this)
      refine ⟨κ', k2, k3, fun d q hdq hqa => ?_⟩
      have hdl := (List.getElem?_eq_some_iff.1 hdq).1
      rw [hset]
      rcases Nat.lt_trichotomy d i with c | c | c
      · rw [if_neg (fun e => by have := hC.inj d i hdl hil (by rw [e, hπi]); omega)]
        exact ⟨fun _ => (hu d q hdq hqa).1 c, fun _ => by omega⟩
      · subst c; rw [if_pos hπi]; exact ⟨fun _ => rfl, fun _ => by omega⟩
      · rw [if_neg (fun e => by have := hC.inj d i hdl hil (by rw [e, hπi]); omega)]
        refine ⟨fun h => ?_, fun h => ?_⟩
        · have := k4 d q (by omega) h hdq
          rw [hqa] at this; cases this
        · have := (hu d q hdq hqa).2 h
          omega
    unfold wpOp
    simp only [ho]
    have hone := hr.one i p hli
    rcases hone with ⟨v, hg, he, hfr⟩ | ⟨⟨g, want, hg, hb⟩, hH, hfr⟩
    · -- it is carried out
      have hwanted : Region.wanted o (yielded ops a.tmps) = true := by
        rcases c4 with ⟨g1, g2⟩ | ⟨j, want, d, g1, g2, g3⟩
        · simp [Region.wanted, g1]
        · rcases hg with hg | ⟨g, w', hg, hb⟩
          · rw [g3] at hg; cases hg
          · rw [g3] at hg; cases hg
            obtain ⟨x, e1, e2⟩ := hlook _ (.inr ⟨_, g3⟩) _ hb
            have ex := (v_inv e2).1
            subst ex
            have hy : yielded ops a.tmps j = some want := by simp only [yielded, g2, Option.bind_some, e1]
            simp [Region.wanted, g1, hy]
      rw [if_pos hwanted]
      left
      -- what it looks at, in the frame that there is
      have hfr2 : FRel φ (mkFrame (frs i) p.op.base.tmps) a.tmps := by
        intro t u htu
        rw [mkFrame_get] at htu
        split at htu
        · rename_i ht
          exact hlook t (.inl ht) u htu
        · cases htu
      have hnb : ∀ {H1 H2 : Heap}, evOp call p.op.base (frs i) H1 = some (v, H2) → evOp call p.op.base (mkFrame (frs i) p.op.base.tmps) H1 = some (v, H2) := fun h => by
        rw [← h]
        refine evOp_congr fun t ht => ?_
        rw [mkFrame_get, if_pos ht]
      have hop : (cOp P o).getD .bad = p.op.base := by
        rw [← c2, d3]
      have hcalm : isActor p.op = false → p.op.base = p.op := fun h => by
        cases hq : p.op <;> first | rfl | (rw [hq] at h; cases h)
      cases hpa : isActor p.op with
      | true =>
        have hik := hact hpa
        subst hik
        have he2 : evOp call p.op.base (frs i) (Hs i) = some (v, Hs (i + 1)) := by
          cases hq : p.op <;> rw [hq] at he <;> first | exact he | exact (evOp_ck.1 he).1
        refine oper_wp hcall hst.step.rel hfr2 (fun b h1 h2 => hst.fresh b h1 (by have := hr.next_le hm (show i + 1 ≤ l.length from hil) (Nat.le_refl _); omega)) hop (hnb he2) ?_
        intro x w' φ' hst' hv
        refine next hfr hv hst'.le (acts hpa hst' (fun j q hj hq hal hlist es cs e => ?_))
        obtain ⟨d, hd⟩ := hC.al j q hq hal
        have hjl := (List.getElem?_eq_some_iff.1 hq).1
        have hnp : preds M (π i) (π j) = false := by
          cases hc : preds M (π i) (π j) with
          | false => rfl
          | true =>
            have := hbefore _ (by rw [← hπi]; exact hc)
            rw [hlist] at this; cases this
        obtain ⟨ts, o', e1, e2⟩ := hC.cka i j p q d hli hq hpa hal hj hnp hd
        rw [e1] at he
        obtain ⟨_, hU⟩ := evOp_ck.1 he
        obtain ⟨u, g1, g2⟩ := hU d e2
        refine g2 _ ?_
        rcases hr.one j q hq with ⟨vj, _, hej, hfj⟩ | ⟨_, ej, _⟩
        · obtain ⟨_, _, f1, f2, _⟩ := alloc_form hal hej
          have e3 : (frs i).get d = (frs (j + 1)).get d := hr.stab (by omega) (by omega) (fun d' q' hd' hq' hqd => by
            have := hC.dst j d' q q' d hq hq' hd hqd; omega)
          rw [hfj, hd] at e3
          simp only [putD, T.get_set, if_true] at e3
          rw [e3] at g1; cases g1
          exact f2
        · have := alloc_next e
          rw [ej] at this; omega
      | false =>
        have hbe := hcalm hpa
        cases hal : isAlloc p.op with
        | true =>
          have hpp : isPure p.op = false := by cases hqo : p.op <;> rw [hqo] at hal <;> simp [isAlloc] at hal <;> rfl
          have hik := hnact hpp hpa
          obtain ⟨es, cs, f1, f2, f3⟩ := alloc_form hal he
          have he2 := f3 ⟨(Hs i).next, .e⟩ rfl
          obtain ⟨g1, g2⟩ := hst.ghost i p hik hli hal (by rw [hπi]; exact hunf) es cs f1
          refine oper_wp hcall (HRel.bare hst.step.rel.size _) hfr2 (fun b h1 h2 => ?_) hop (hnb (by rw [hbe]; exact he2)) ?_
          · have h1 : (Hs i).next ≤ b := h1
            have h2 : b < (Hs i).next + 1 := h2
            rw [show b = (Hs i).next by omega]; exact g1
          · intro x w' φ' hst' hv
            refine next hfr hv hst'.le ⟨κ, hst.made hm hr hli hik hal (by rw [hπi]; exact hunf) f1 hst' hweak (fun j hj hu' e => ?_), hat, up0 hpa⟩
            subst e
            rw [hπi, hset, if_pos rfl] at hu'; cases hu'
        | false =>
          have he2 : evOp call p.op.base (frs i) (Hs κ) = some (v, Hs κ) := by
            rw [hbe]
            cases hp : isPure p.op with
            | true => exact (pure_any hp he).2 _
            | false =>
              have hik := hnact hp hpa
              have hrd : isReader p.op = true := by
                simp only [isActor, isLoud, hp, hal] at hpa
                simpa using hpa
              refine reader_dep hrd (hC.rd i p hli hrd) he (fun t ht u hu' b hb hbs => ?_)
              have hbn : b < (Hs i).next := by
                rcases Nat.lt_or_ge b (Hs i).next with c | c
                · exact c
                · rw [hst.lt i (by omega) b c] at hbs; cases hbs
              have := rd_same (κ := κ) hm hr hC hli hrd ht (rdT_tmps hrd ht) hu' hb hbn (fun s q h1 h2 hq hqa => ?_) hκn (κ - i) (by omega)
              · rwa [show i + (κ - i) = κ by omega] at this
              · have hls := (hu s q hq hqa).1 h2
                cases hc : preds M (π s) (π i) with
                | false => rfl
                | true =>
                  have := hafteri _ (by rw [← hπi]; exact hc)
                  rw [hls] at this; cases this
          refine oper_wp hcall hst.step.rel hfr2 (fun b h1 h2 => by omega) hop (hnb he2) ?_
          intro x w' φ' hst' hv
          exact next hfr hv hst'.le ⟨κ, (hst.calm hst').weaken hweak, hat, up0 hpa⟩
    · -- it is not
      have hwanted : Region.wanted o (yielded ops a.tmps) = false := by
        rcases c4 with ⟨g1, g2⟩ | ⟨j, want', d, g1, g2, g3⟩
        · rw [g2] at hg; cases hg
        · rw [g3] at hg; cases hg
          rcases hb with ⟨b, hb, hne⟩ | ⟨cs, hb⟩
          · obtain ⟨x, e1, e2⟩ := hlook _ (.inr ⟨_, g3⟩) _ hb
            have ex := (v_inv e2).1
            subst ex
            have hy : yielded ops a.tmps j = some b := by simp only [yielded, g2, Option.bind_some, e1]
            simp [Region.wanted, g1, hy, hne]
          · obtain ⟨x, e1, e2⟩ := hlook _ (.inr ⟨_, g3⟩) _ hb
            have hy : yielded ops a.tmps j = none := by
              cases e2
              simp only [yielded, g2, Option.bind_some, e1]
            simp [Region.wanted, g1, hy]
      rw [hwanted, if_neg (by decide)]
      refine next (φ' := φ) hfr (.tup (by simp) (by simp)) (.refl _) ?_
      cases hpa : isActor p.op with
      | true =>
        have hik := hact hpa
        subst hik
        exact acts hpa (by rw [hH]; exact .refl hst.step.rel) (fun j q hj hq hal hlist es cs e => by rw [hH])
      | false => exact ⟨κ, hst.weaken hweak, hat, up0 hpa⟩
/-- **A region that draws**, run in one order, where what acts leaves what others read. -/
theorem canon_wp {P : Program} {B N : Nat} {id : Nat} {ops : Array Oper} {l : List AOper} {M ord : List Nat} (hmx : P.follows .mixedOrders = true) (hcall : CallsOk P B call) (hm : CallsMono call) (hl : l.length = ops.size)
    (hget : ∀ j : Nat, l[j]? = (ops[j]?).bind (cOper P N ops)) (hM : masksOk ops.toList M = true) (hD : canonOk l M ord = true) {φ : Phi} {H H' : Heap} {fr fr' : T AV} {a : Act} {w : World} {Q : Exit → Act → World → Prop}
    (hs : SRel B N φ H fr a w) (hφ : ∀ b, H.next ≤ b → b < H'.next → φ b = none) (he : evOps call (wrapCk l M ord) fr H = some (fr', H'))
    (hq : ∀ φ' a' w', Step B φ H w φ' H' w' → SRel B N φ' H' fr' a' w' → Q .normal a' w') : (Code.region id ops true).wp P Q a w := by
  obtain ⟨hlen, hsurj, hltl, hnck, hC⟩ := canon_spec hD
  have hwl : (wrapCk l M ord).length = ops.size := by rw [wrap_len, hlen, hl]
  obtain ⟨frs, Hs, hr, rfl, rfl, rfl, rfl⟩ := run_of he
  have hgD : ∀ i a, ord[i]? = some a → ord.getD i 0 = a := fun i a e => by simp [List.getD_eq_getElem?_getD, e]
  have hget2 : ∀ (i : Nat) (o' : AOper), (wrapCk l M ord)[i]? = some o' → ∃ o ao, ops[ord.getD i 0]? = some o ∧ cOper P N ops o = some ao ∧ o'.dst = ao.dst ∧ o'.guard = ao.guard ∧ o'.op.base = ao.op := by
    intro i o' ho'
    obtain ⟨a, ha, rfl⟩ := wrap_get' ho'
    have hal := hltl i a ha
    have hp : l[a]? = some l[a] := by simp [hal]
    obtain ⟨s1, s2, s3, s4⟩ := wrapOne_spec (M := M) (ord := ord) (i := i) hp
    rw [hgD i a ha]
    have hb := hget a
    rw [hp] at hb
    obtain ⟨o, ho, hco⟩ := Option.bind_eq_some_iff.1 hb.symm
    refine ⟨o, l[a], ho, hco, s1, s2, ?_⟩
    rcases s3 with e | ⟨_, ts, e⟩
    · rw [e]
      have := hnck a _ hp
      cases hq : l[a].op <;> first | rfl | (rw [hq] at this; cases this)
    · rw [e]; rfl
  refine wp_region_any hmx (canon_any (π := fun i => ord.getD i 0) hcall hm hwl (fun a ha => ?_) (fun i hi => ?_) hget2 hM hC hr (φ0 := φ) (w0 := w) hq ops.size _ a _ ?_ ?_)
  · obtain ⟨j, hj⟩ := hsurj a (by rw [hl]; exact ha)
    refine ⟨j, ?_, hgD j a hj⟩
    rw [wrap_len]; exact (List.getElem?_eq_some_iff.1 hj).1
  · rw [wrap_len] at hi
    have : ord[i]? = some ord[i] := by simp [hi]
    show ord.getD i 0 < ops.size
    rw [hgD i _ this, ← hl]; exact hltl i _ this
  · have : ((List.range ops.size).filter fun i => !(Array.replicate ops.size false).getD i true).length ≤ (List.range ops.size).length := List.length_filter_le _ _
    simpa [unl] using this
  · have hno : ∀ d, (Array.replicate ops.size false).getD d false = false := fun d => by
      by_cases hd : d < ops.size <;> simp [hd]
    have hst0 : St B call (wrapCk l M ord) Hs (fun i => ord.getD i 0) φ w (Array.replicate ops.size false) φ 0 { w with drawn := w.drawn + 1 } :=
      ⟨Nat.zero_le _, Step.drew hs.heap _, hφ, fun s hs' b hb => by obtain rfl : s = 0 := by omega
                                                                    exact hs.heap.lt b hb, fun j q hj => by omega⟩
    obtain ⟨κ', k1, k2, k3, k4⟩ := hst0.adv hm hr (wrapCk l M ord).length 0 (by omega) (fun j q _ _ _ => hno _)
    refine ⟨?_, by simp, ⟨φ, κ', k2, k3, ?_, ?_, fun t v hv _ => hs.frame t v hv⟩, hs.size, hs.defers⟩
    · intro d o ho hld
      rw [hno] at hld; cases hld
    · intro d q hdq hqa
      rw [hno]
      refine ⟨fun h => ?_, fun h => by cases h⟩
      have := k4 d q (Nat.zero_le _) h hdq
      rw [hqa] at this; cases this
    · intro t v hv hlist
      have e1 : (frs (wrapCk l M ord).length).get t = (frs 0).get t := hr.stable (wrapCk l M ord).length 0 (by omega) (fun d q _ hdq hqd => by
        have := hlist d q hdq hqd
        rw [hno] at this; cases this)
      rw [e1] at hv
      exact hs.frame t v hv
end
end Go.AM
