/- The machine, and that it tells the truth of the program. No condition. -/
import Derived.Test.YtkohanehgndmhaaAM16
set_option linter.all false
namespace Go.AM
open Go.RowKit
section
variable {P : Program} {A : AProg} {B : Nat}

structure Linked (P : Program) (A : AProg) : Prop where
  mixed : P.follows .mixedOrders = true
  ok : ∀ f af, A.get f = some af → cFunc P f = some af ∧ ∀ (args : Array Value) (w : World), (callFunc f args).run P w = .ok (.enter f args) w

def ExMono (ex : AC → T AV → Heap → Option (AE × T AV × Heap)) : Prop := ∀ c fr H e fr' H', ex c fr H = some (e, fr', H') → H.next ≤ H'.next

theorem mono_callW {ex : AC → T AV → Heap → Option (AE × T AV × Heap)} (h : ExMono ex) : CallsMono (callW A ex) := by
  intro f vs H v H' he
  unfold callW at he
  split at he
  · split at he
    · split at he
      · cases he
      · rename_i hx
        split at he
        · cases he; exact h _ _ _ _ _ _ hx
        · cases he; exact h _ _ _ _ _ _ hx
        · cases he
      · cases he
    · cases he
  · cases he

theorem mono_exec : ∀ n, ExMono (exec A n)
  | 0 => fun c fr H e fr' H' h => by cases h
  | n + 1 => fun c fr H e fr' H' h => by
    have ih := mono_exec n
    have h : execB A (exec A n) c fr H = some (e, fr', H') := h
    cases c with
    | skip => simp only [execB, Option.some.injEq, Prod.mk.injEq] at h; rw [h.2.2]; exact Nat.le_refl _
    | reg id d ops =>
      cases d with
      | true => simp [execB] at h
      | false =>
        simp only [execB] at h
        split at h
        · rename_i he
          cases h
          exact mono_ops (mono_callW ih) he
        · cases h
    | seq x y =>
      simp only [execB] at h
      split at h
      · rename_i hx
        exact Nat.le_trans (ih _ _ _ _ _ _ hx) (ih _ _ _ _ _ _ h)
      · exact ih _ _ _ _ _ _ h
    | cond x y z =>
      simp only [execB] at h
      split at h
      · exact ih _ _ _ _ _ _ h
      · exact ih _ _ _ _ _ _ h
      · cases h
    | block id x =>
      simp only [execB] at h
      split at h
      · rename_i hx
        split at h <;> (cases h; exact ih _ _ _ _ _ _ hx)
      · exact ih _ _ _ _ _ _ h
    | loop x =>
      simp only [execB] at h
      split at h
      · rename_i hx
        exact Nat.le_trans (ih _ _ _ _ _ _ hx) (ih _ _ _ _ _ _ h)
      · exact ih _ _ _ _ _ _ h
    | exit id => simp only [execB, Option.some.injEq, Prod.mk.injEq] at h; rw [h.2.2]; exact Nat.le_refl _
    | ret => simp only [execB, Option.some.injEq, Prod.mk.injEq] at h; rw [h.2.2]; exact Nat.le_refl _

def exRel : AE → Exit → Prop
  | .nm, .normal => True
  | .ex i, .exit j => i = j
  | .rt, .ret => True
  | _, _ => False

def CPost (B N : Nat) (φ : Phi) (H : Heap) (w : World) (e : AE) (fr' : T AV) (H' : Heap) (x : Exit) (a' : Act) (w' : World) : Prop :=
  exRel e x ∧ ∃ φ', Step B φ H w φ' H' w' ∧ SRel B N φ' H' fr' a' w'

def CodeOk (P : Program) (B : Nat) (ex : AC → T AV → Heap → Option (AE × T AV × Heap)) : Prop :=
  ∀ (N : Nat) (c : Code) (ac : AC) (φ : Phi) (H : Heap) (fr : T AV) (a : Act) (w : World) (e : AE) (fr' : T AV) (H' : Heap), cCode P N c = some ac → ex ac fr H = some (e, fr', H') → SRel B N φ H fr a w →
    (∀ b, H.next ≤ b → b < H'.next → φ b = none) → c.wp P (CPost B N φ H w e fr' H') a w

def LoopOk (P : Program) (B : Nat) (ex : AC → T AV → Heap → Option (AE × T AV × Heap)) (n : Nat) : Prop :=
  ∀ (N : Nat) (c : Code) (ac : AC) (φ : Phi) (H : Heap) (fr : T AV) (a : Act) (w : World) (e : AE) (fr' : T AV) (H' : Heap), cCode P N c = some ac → ex (.loop ac) fr H = some (e, fr', H') → SRel B N φ H fr a w →
    (∀ b, H.next ≤ b → b < H'.next → φ b = none) → Code.rounds P c (CPost B N φ H w e fr' H') n a w

theorem CPost.trans {N : Nat} {φ φ1 : Phi} {H H1 H' : Heap} {w w1 w' : World} {e : AE} {fr' : T AV} {x : Exit} {a' : Act} (h : Step B φ H w φ1 H1 w1) (k : CPost B N φ1 H1 w1 e fr' H' x a' w') : CPost B N φ H w e fr' H' x a' w' :=
  let ⟨k1, φ', k2, k3⟩ := k; ⟨k1, φ', h.trans k2, k3⟩

/-! results -/
theorem res_tmp {φ : Phi} {_H : Heap} {fr : T AV} {tmps : Array Value} (hf : FRel φ fr tmps) {t : Nat} {v : AV} (h : fr.get t = some v) : VRel φ v (tmps.getD t undef) := by
  obtain ⟨x, h1, h2⟩ := hf t v h
  simpa [Array.getD_eq_getD_getElem?, h1] using h2

def resOne (tmps : Array Value) : ResultVar → Sem Value
  | .tmp t => pure (tmps.getD t undef)
  | .cell a t => do loadVar t (← asAddr (tmps.getD a undef))

theorem res_one {φ : Phi} {H : Heap} {w : World} {fr : T AV} {tmps : Array Value} (hr : HRel B φ H w) (hf : FRel φ fr tmps) {r : ResultVar} {ar : ARes} (hc : cRes P r = some ar) {v : AV} (h : getResult H fr ar = some v) :
    ∃ x, (resOne tmps r).run P w = .ok x w ∧ VRel φ v x := by
  cases r with
  | tmp t =>
    cases hc
    exact ⟨_, rfl, res_tmp (_H := H) hf h⟩
  | cell c t =>
    simp only [cRes, Option.bind_eq_bind, Option.bind_eq_some_iff] at hc
    obtain ⟨b, hb, hc⟩ := hc
    cases b with
    | true =>
      simp only [Option.bind_eq_some_iff] at hc
      obtain ⟨n, hn, hc⟩ := hc
      cases hc
      simp only [getResult] at h
      split at h
      · rename_i bb off hev
        simp only [Option.map_eq_some_iff] at h
        obtain ⟨vs, hg, rfl⟩ := h
        have hv := res_tmp (_H := H) hf hev
        obtain ⟨p, hp, hpx⟩ := ptr_inv hv
        obtain ⟨xs, h3, h4, h5⟩ := getN_rel hr hp hg
        refine ⟨.agg xs.toArray, ?_, h4.agg⟩
        have hl := load_cells_run (P := P) h5
        rw [h3] at hl
        simp [resOne, hpx, asAddr, loadVar, agg_run hb, size_run hn, hl]
      · cases h
    | false =>
      cases hc
      simp only [getResult] at h
      split at h
      · rename_i bb off hev
        split at h
        · rename_i u hg
          cases h
          have hv := res_tmp (_H := H) hf hev
          obtain ⟨p, hp, hpx⟩ := ptr_inv hv
          obtain ⟨xs, h3, h4, h5⟩ := getN_rel hr hp hg
          match xs, h3, h4, h5 with
          | [y], _, h4, h5 =>
            refine ⟨y, ?_, (h4.2 0 _ y rfl rfl).1⟩
            have := h5 0 y rfl
            simp only [Addr.add, if_true] at this
            simp [resOne, hpx, asAddr, loadVar, agg_run hb, this]
        · cases h
      · cases h

theorem res_all {φ : Phi} {H : Heap} {w : World} {fr : T AV} {tmps : Array Value} (hr : HRel B φ H w) (hf : FRel φ fr tmps) : ∀ {rs : List ResultVar} {ars : List ARes} {vs : List AV}, rs.mapM (cRes P) = some ars → getResults H fr ars = some vs →
    ∃ xs : List Value, (rs.mapM (resOne tmps)).run P w = .ok xs w ∧ vs.length = xs.length ∧ ∀ (i : Nat) (c : AV) (y : Value), vs[i]? = some c → xs[i]? = some y → VRel φ c y
  | [], ars, vs, h1, h2 => by
    have e1 : ars = [] := by
      have : some [] = some ars := by simpa using h1
      exact (Option.some.inj this).symm
    subst e1
    simp only [getResults, Option.some.injEq] at h2
    subst h2
    exact ⟨[], by simp, rfl, by simp⟩
  | r :: rs, ars, vs, h1, h2 => by
    simp only [List.mapM_cons, Option.bind_eq_bind, Option.bind_eq_some_iff, Option.pure_def, Option.some.injEq] at h1
    obtain ⟨ar, h3, ars', h4, rfl⟩ := h1
    simp only [getResults] at h2
    split at h2
    · rename_i u hu
      split at h2
      · rename_i us hus
        cases h2
        obtain ⟨x, k1, k2⟩ := res_one hr hf h3 hu
        obtain ⟨xs, k3, k4, k5⟩ := res_all hr hf h4 hus
        refine ⟨x :: xs, by simp [List.mapM_cons, k1, k3], by simp [k4], ?_⟩
        intro i c y hc hy
        cases i with
        | zero => simp at hc hy; subst hc; subst hy; exact k2
        | succ i => exact k5 i c y (by simpa using hc) (by simpa using hy)
      · cases h2
    · cases h2

theorem results_eq (fn : Func) (tmps : Array Value) : results fn tmps = (do let vs ← fn.results.mapM (resOne tmps); pure (if h : vs.size = 1 then vs[0] else .tuple vs)) := by
  unfold results
  congr 1

theorem argFrame_get : ∀ (vs : List AV) (i : Nat) (fr : T AV) (t : Nat), (argFrame i vs fr).get t = if i ≤ t ∧ t < i + vs.length then vs[t - i]? else fr.get t
  | [], i, fr, t => by simp only [argFrame]; rw [if_neg (by simp)]
  | v :: vs, i, fr, t => by
    simp only [argFrame]
    rw [argFrame_get vs (i + 1), T.get_set]
    by_cases h : t = i
    · subst h
      rw [if_neg (by omega), if_pos rfl, if_pos (by simp)]
      simp
    · rw [if_neg h]
      by_cases h2 : i ≤ t ∧ t < i + (v :: vs).length
      · rw [if_pos h2, if_pos (by simp at h2; omega)]
        have : t - i = (t - (i + 1)) + 1 := by omega
        rw [this, List.getElem?_cons_succ]
      · rw [if_neg h2, if_neg (by simp at h2; omega)]

theorem calls_ok (hL : Linked P A) {ex : AC → T AV → Heap → Option (AE × T AV × Heap)} (hex : CodeOk P B ex) : CallsOk P B (callW A ex) := by
  intro f vs H v H' φ w args he hr hφ hl ha
  unfold callW at he
  split at he
  · rename_i af haf
    obtain ⟨hcf, hrun⟩ := hL.ok f af haf
    refine ⟨hrun args w, ?_⟩
    simp only [cFunc, Option.bind_eq_bind, Option.bind_eq_some_iff, Option.some.injEq] at hcf
    obtain ⟨fn, hfn, c, hc, ac, hac, rs, hrs, rfl⟩ := hcf
    split at he
    · split at he
      · cases he
      · rename_i e fr1 H1 hne hx
        have hfr : FRel φ (argFrame 0 vs .e) (args ++ Array.replicate (fn.ntmps - args.size) undef) := by
          intro t u hu
          rw [argFrame_get] at hu
          split at hu
          · rename_i ht
            simp only [Nat.sub_zero] at hu
            have hlt : t < args.size := by omega
            refine ⟨args[t], ?_, ha t u args[t] hu (by simp [hlt])⟩
            rw [Array.getElem?_append_left hlt]
            simp [hlt]
          · rw [T.get_e] at hu; cases hu
        have hs : SRel B fn.ntmps φ H (argFrame 0 vs .e) { tmps := args ++ Array.replicate (fn.ntmps - args.size) undef, defers := [] } w :=
          ⟨hr, hfr, by simp; omega, rfl⟩
        have hH1 : H1 = H' := by
          split at he
          · cases he; rfl
          · cases he; rfl
          · cases he
        subst hH1
        have hwp := hex fn.ntmps c ac φ H _ _ w e fr1 H1 hac hx hs hφ
        refine calls_of_wp hfn hc (wp_mono hwp ?_)
        rintro x a' w' ⟨hxr, φ', hst, hs'⟩
        have fin : a'.defers = [] ∧ ∃ u, (results fn a'.tmps).run P w' = .ok u w' ∧ ∃ x φ'', Ending.returned u = .returned x ∧ Step B φ H w φ'' H1 w' ∧ VRel φ'' v x := by
          refine ⟨hs'.defers, ?_⟩
          have key : ∀ ws, getResults H1 fr1 rs = some ws → ∃ xs : List Value, (fn.results.mapM (resOne a'.tmps)).run P w' = .ok xs.toArray w' ∧ ws.length = xs.length ∧
              ∀ (i : Nat) (c : AV) (y : Value), ws[i]? = some c → xs[i]? = some y → VRel φ' c y := by
            intro ws hws
            obtain ⟨xs, k1, k2, k3⟩ := res_all hs'.heap hs'.frame hrs hws
            refine ⟨xs, ?_, k2, k3⟩
            rw [Array.mapM_eq_mapM_toList]
            simp [k1]
          split at he
          · rename_i u hu
            cases he
            obtain ⟨xs, k1, k2, k3⟩ := key _ hu
            match xs, k2, k1, k3 with
            | [y], _, k1, k3 =>
              refine ⟨y, ?_, y, φ', rfl, hst, k3 0 _ y rfl rfl⟩
              rw [results_eq]
              simp [k1]
          · rename_i ws hne1 hu
            cases he
            obtain ⟨xs, k1, k2, k3⟩ := key _ hu
            have hn1 : xs.length ≠ 1 := by
              intro h1
              rw [← k2] at h1
              match ws, h1 with
              | [q], _ => exact hne1 q rfl
            refine ⟨.tuple xs.toArray, ?_, .tuple xs.toArray, φ', rfl, hst, .tup (by simpa using k2) (fun i c y h1 h2 => k3 i c y h1 (by simpa using h2))⟩
            rw [results_eq]
            simp [k1, hn1]
          · cases he
        cases e with
        | nm => cases x <;> first | exact fin | exact hxr.elim
        | rt => cases x <;> first | exact fin | exact hxr.elim
        | ex id => exact (hne id rfl).elim
      · cases he
    · cases he
  · cases he

theorem code_ok (hL : Linked P A) : ∀ n, CodeOk P B (exec A n) ∧ LoopOk P B (exec A n) n
  | 0 => ⟨by (intro N c ac φ H fr a w e fr' H' h1 h2; cases h2), by (intro N c ac φ H fr a w e fr' H' h1 h2; cases h2)⟩
  | n + 1 => by
    obtain ⟨ih, ihl⟩ := code_ok hL n
    have hcalls := calls_ok hL ih
    have hmono := mono_exec (A := A) n
    have hloop : LoopOk P B (exec A (n + 1)) (n + 1) := by
      intro N c ac φ H fr a w e fr' H' hc he hs hφ
      have he : execB A (exec A n) (.loop ac) fr H = some (e, fr', H') := he
      simp only [execB] at he
      rw [rounds_succ]
      split at he
      · rename_i fr1 H1 hx
        refine wp_mono (ih N c ac φ H fr a w _ fr1 H1 hc hx hs (fresh_left hφ (hmono _ _ _ _ _ _ he))) ?_
        rintro x a' w' ⟨hxr, φ1, hst, hs1⟩
        cases x <;> first | exact hxr.elim | skip
        have := ihl N c ac φ1 H1 fr1 a' w' e fr' H' hc he hs1 (fresh_right hst hφ)
        show Code.rounds P c _ n a' w'
        have mono : ∀ (m : Nat) (Q Q' : Exit → Act → World → Prop), (∀ e a w, Q e a w → Q' e a w) → ∀ a w, Code.rounds P c Q m a w → Code.rounds P c Q' m a w := by
          intro m
          induction m with
          | zero => intro Q Q' _ a w h; exact h
          | succ m ihm =>
            intro Q Q' hq a w h
            refine wp_mono h ?_
            intro e a w h'
            cases e <;> first | exact ihm Q Q' hq a w h' | exact hq _ _ _ h'
        exact mono n _ _ (fun _ _ _ h => CPost.trans hst h) a' w' this
      · rename_i hne
        refine wp_mono (ih N c ac φ H fr a w e fr' H' hc he hs hφ) ?_
        intro x a' w' hp
        cases x <;> first | exact hp | skip
        obtain ⟨hxr, _⟩ := hp
        cases e <;> first | exact hxr.elim | exact (hne _ _ he).elim
    refine ⟨?_, hloop⟩
    intro N c ac φ H fr a w e fr' H' hc he hs hφ
    have he0 := he
    have he : execB A (exec A n) ac fr H = some (e, fr', H') := he
    cases c with
    | skip =>
      cases hc
      simp only [execB, Option.some.injEq, Prod.mk.injEq] at he
      obtain ⟨rfl, rfl, rfl⟩ := he
      exact wp_skip ⟨trivial, φ, .refl hs.heap, hs⟩
    | region id ops draw =>
      simp only [cCode, Option.bind_eq_bind, Option.bind_eq_some_iff] at hc
      obtain ⟨l, hl, hc⟩ := hc
      have hget : ∀ (l : List Oper) (l' : List AOper), l.mapM (cOper P N ops) = some l' → l'.length = l.length ∧ ∀ j : Nat, l'[j]? = (l[j]?).bind (cOper P N ops) := by
        intro l
        induction l with
        | nil =>
          intro l' h
          have : some [] = some l' := by simpa using h
          cases this
          exact ⟨rfl, fun j => by simp⟩
        | cons o l ihl =>
          intro l' h
          simp only [List.mapM_cons, Option.bind_eq_bind, Option.bind_eq_some_iff, Option.pure_def, Option.some.injEq] at h
          obtain ⟨ao, h1, r, h2, rfl⟩ := h
          obtain ⟨k1, k2⟩ := ihl r h2
          refine ⟨by simp [k1], fun j => ?_⟩
          cases j with
          | zero => simp [h1]
          | succ j => simpa using k2 j
      obtain ⟨k1, k2⟩ := hget _ _ hl
      cases draw with
      | true =>
        simp only at hc
        split at hc
        · rename_i hok
          simp only [Bool.and_eq_true] at hok
          simp only [Option.some.injEq] at hc
          subst hc
          simp only [execB] at he
          split at he
          · rename_i fr1 H1 hev
            cases he
            exact draw_wp hL.mixed hcalls (mono_callW hmono) (by simpa using k1) (fun j => by rw [k2 j]; simp) hok.1 hok.2 hs hφ hev (fun φ' a' w' hst hs' => ⟨trivial, φ', hst, hs'⟩)
          · cases he
        · split at hc
          · rename_i hok
            simp only [Bool.and_eq_true] at hok
            simp only [Option.some.injEq] at hc
            subst hc
            simp only [execB] at he
            split at he
            · rename_i fr1 H1 hev
              cases he
              exact canon_wp hL.mixed hcalls (mono_callW hmono) (by simpa using k1) (fun j => by rw [k2 j]; simp) hok.1 hok.2 hs hφ hev (fun φ' a' w' hst hs' => ⟨trivial, φ', hst, hs'⟩)
            · cases he
          · cases hc
      | false =>
        simp only [Option.some.injEq] at hc
        subst hc
        simp only [execB] at he
        split at he
        · rename_i fr1 H1 hev
          cases he
          refine wp_region ?_
          have := ops_wp (P := P) (N := N) (ops := ops) hcalls (mono_callW hmono) (Q := CPost B N φ H w .nm fr' H') l 0 φ H fr a w (fun j => by rw [k2 j]; simp) (by rw [k1]; simp) hs hφ hev
            (fun φ' a' w' hst hs' => ⟨trivial, φ', hst, hs'⟩)
          simpa using this
        · cases he
    | seq x y =>
      simp only [cCode, Option.bind_eq_bind, Option.bind_eq_some_iff, Option.some.injEq] at hc
      obtain ⟨ax, hx, ay, hy, rfl⟩ := hc
      simp only [execB] at he
      refine wp_seq ?_
      split at he
      · rename_i fr1 H1 h1
        refine wp_mono (ih N x ax φ H fr a w _ fr1 H1 hx h1 hs (fresh_left hφ (hmono _ _ _ _ _ _ he))) ?_
        rintro e1 a' w' ⟨hxr, φ1, hst, hs1⟩
        cases e1 <;> first | exact hxr.elim | skip
        exact wp_mono (ih N y ay φ1 H1 fr1 a' w' e fr' H' hy he hs1 (fresh_right hst hφ)) (fun _ _ _ h => CPost.trans hst h)
      · rename_i hne
        refine wp_mono (ih N x ax φ H fr a w e fr' H' hx he hs hφ) ?_
        intro e1 a' w' hp
        cases e1 <;> first | exact hp | skip
        obtain ⟨hxr, _⟩ := hp
        cases e <;> first | exact hxr.elim | exact (hne _ _ he).elim
    | cond q x y =>
      simp only [cCode, Option.bind_eq_bind, Option.bind_eq_some_iff, Option.some.injEq] at hc
      obtain ⟨aq, hq, ax, hx, ay, hy, rfl⟩ := hc
      simp only [execB] at he
      split at he
      · rename_i hev
        exact wp_cond_true (v_inv (ev_sound hs.frame hq hev)).1 (ih N x ax φ H fr a w e fr' H' hx he hs hφ)
      · rename_i hev
        exact wp_cond_false (v_inv (ev_sound hs.frame hq hev)).1 (ih N y ay φ H fr a w e fr' H' hy he hs hφ)
      · cases he
    | block id x =>
      simp only [cCode, Option.bind_eq_bind, Option.bind_eq_some_iff, Option.some.injEq] at hc
      obtain ⟨ax, hx, rfl⟩ := hc
      simp only [execB] at he
      refine wp_block ?_
      split at he
      · rename_i i fr1 H1 h1
        split at he
        · rename_i hid
          cases he
          refine wp_mono (ih N x ax φ H fr a w _ fr' H' hx h1 hs hφ) ?_
          rintro e1 a' w' ⟨hxr, hrest⟩
          cases e1 <;> first | exact hxr.elim | skip
          rename_i j
          have : j = id := by have : i = j := hxr; omega
          simp only [Exit.inBlock, this, if_true]
          exact ⟨trivial, hrest⟩
        · rename_i hid
          cases he
          refine wp_mono (ih N x ax φ H fr a w _ fr' H' hx h1 hs hφ) ?_
          rintro e1 a' w' ⟨hxr, hrest⟩
          cases e1 <;> first | exact hxr.elim | skip
          rename_i j
          have hij : i = j := hxr
          have : ¬ j = id := by omega
          simp only [Exit.inBlock, this, if_false]
          exact ⟨hij, hrest⟩
      · rename_i hne
        refine wp_mono (ih N x ax φ H fr a w e fr' H' hx he hs hφ) ?_
        intro e1 a' w' hp
        cases e1 <;> first | exact hp | skip
        obtain ⟨hxr, _⟩ := hp
        cases e <;> first | exact hxr.elim | exact (hne _ _ _ he).elim
    | loop x =>
      simp only [cCode, Option.bind_eq_bind, Option.bind_eq_some_iff, Option.some.injEq] at hc
      obtain ⟨ax, hx, rfl⟩ := hc
      exact wp_loop_rounds (n + 1) (hloop N x ax φ H fr a w e fr' H' hx he0 hs hφ)
    | exit id =>
      cases hc
      simp only [execB, Option.some.injEq, Prod.mk.injEq] at he
      obtain ⟨rfl, rfl, rfl⟩ := he
      exact wp_exit ⟨rfl, φ, .refl hs.heap, hs⟩
    | ret =>
      cases hc
      simp only [execB, Option.some.injEq, Prod.mk.injEq] at he
      obtain ⟨rfl, rfl, rfl⟩ := he
      exact wp_ret ⟨trivial, φ, .refl hs.heap, hs⟩
    | _ => cases hc

/-- **The machine tells the truth.** -/
theorem call_sound_all (hL : Linked P A) (n : Nat) : CallsOk P B (callA A n) := calls_ok hL (code_ok hL n).1

end
end Go.AM
