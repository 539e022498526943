/- The machine, and that it tells the truth of the program. No condition. -/
import Derived.Test.YtkohanehgndmhaaAM7
import Derived.LoopN
set_option linter.all false
namespace Go.AM
open Go.RowKit
section
variable {P : Program} {B : Nat} {φ : Phi} {H H' : Heap} {w : World} {fr : T AV} {a : Act} {o : Oper} {ao : AOp} {v : AV}
  {call : Nat → List AV → Heap → Option (AV × Heap)}

/-- what is known of the calls -/
def CallsOk (P : Program) (B : Nat) (call : Nat → List AV → Heap → Option (AV × Heap)) : Prop :=
  ∀ (f : Nat) (vs : List AV) (H : Heap) (v : AV) (H' : Heap) (φ : Phi) (w : World) (args : Array Value), call f vs H = some (v, H') → HRel B φ H w → (∀ b, H.next ≤ b → b < H'.next → φ b = none) →
    vs.length = args.size → (∀ (i : Nat) (c : AV) (y : Value), vs[i]? = some c → args[i]? = some y → VRel φ c y) →
    (callFunc f args).run P w = .ok (.enter f args) w ∧ Calls P f args w fun e w' => ∃ x φ', e = .returned x ∧ Step B φ H w φ' H' w' ∧ VRel φ' v x

theorem mono_write {b off : Nat} {vs : List AV} (h : H.write b off vs = some H') : H'.next = H.next := by
  unfold Heap.write at h
  split at h
  · split at h
    · split at h
      · cases h; rfl
      · cases h
    · cases h
  · cases h

theorem mono_app {es by_ : Nat} {s x : AV} (h : appendA H es by_ s x = some (v, H')) : H.next ≤ H'.next := by
  unfold appendA at h
  split at h
  · cases h
  · split at h
    · split at h
      · cases h; exact Nat.le_refl _
      · split at h
        · cases h; exact Nat.le_succ _
        · cases h
    · split at h
      · split at h
        · cases h; exact Nat.le_refl _
        · split at h
          · rename_i hw
            cases h
            exact Nat.le_of_eq (mono_write hw).symm
          · cases h
      · split at h
        · cases h
        · split at h
          · cases h
          · split at h
            · split at h
              · cases h; exact Nat.le_succ _
              · split at h
                · split at h
                  · cases h; exact Nat.le_succ _
                  · cases h
                · cases h
            · cases h
    · cases h

theorem mono_op (hcall : ∀ f vs H v H', call f vs H = some (v, H') → H.next ≤ H'.next) (h : evOp call ao fr H = some (v, H')) : H.next ≤ H'.next := by
  induction ao generalizing v H' <;> simp only [evOp] at h
  case ck ih =>
    split at h
    · rename_i he
      split at h
      · cases h; exact ih he
      · cases h
    · cases h
  case app => split at h <;> first | exact mono_app h | cases h
  case cpy =>
    split at h
    · unfold cpyA at h
      split at h
      · cases h
      · split at h
        · cases h; exact Nat.le_refl _
        · split at h
          · cases h; exact Nat.le_refl _
          · split at h
            · split at h
              · rename_i hw
                cases h
                exact Nat.le_of_eq (mono_write hw).symm
              · cases h
            · cases h
        · cases h
    · cases h
  case call => split at h <;> first | exact hcall _ _ _ _ _ h | cases h
  case callv =>
    split at h
    · split at h <;> first | exact hcall _ _ _ _ _ h | cases h
    · cases h
  case store =>
    split at h
    · split at h
      · split at h
        · split at h
          · rename_i hw
            cases h
            exact Nat.le_of_eq (mono_write hw).symm
          · cases h
        · cases h
      · cases h
    · cases h
  all_goals (repeat' (first | (cases h; first | exact Nat.le_refl _ | exact Nat.le_succ _) | split at h | cases h))

theorem upon_res {next : Act → World → Prop} {Q : Exit → Act → World → Prop} (h : OpRes P B φ H w a o v H') (hn : ∀ x w' φ', Step B φ H w φ' H' w' → VRel φ' v x → next (a.put o.dst x) w') : o.wp P a w next Q := by
  obtain ⟨x, w', φ', hs, hv, hr | ⟨hr, rfl⟩⟩ := h
  · unfold Oper.wp
    rw [hr]
    exact hn x w' φ' hs hv
  · unfold Oper.wp
    rw [hr]
    exact hn undef w' φ' hs hv

theorem call_wp {next : Act → World → Prop} {Q : Exit → Act → World → Prop} (hcall : CallsOk P B call) (hr : HRel B φ H w) (hφ : ∀ b, H.next ≤ b → b < H'.next → φ b = none) {f : Nat} {vs : List AV} {args : Array Value}
    (he : call f vs H = some (v, H')) (hl : vs.length = args.size) (ha : ∀ (i : Nat) (c : AV) (y : Value), vs[i]? = some c → args[i]? = some y → VRel φ c y)
    (hrun : (execOp a.eval o).run P w = (callFunc f args).run P w) (hn : ∀ x w' φ', Step B φ H w φ' H' w' → VRel φ' v x → next (a.put o.dst x) w') : o.wp P a w next Q := by
  obtain ⟨h1, h2⟩ := hcall f vs H v H' φ w args he hr hφ hl ha
  unfold Oper.wp
  rw [hrun, h1]
  refine h2.mono ?_
  rintro e w' ⟨x, φ', rfl, hs, hv⟩
  exact hn x w' φ' hs hv

theorem fn_inv {f : Nat} {cs : List AV} {x : Value} (h : VRel φ (.fn f cs) x) : ∃ vs : Array Value, x = .func (.func f) #[] vs ∧ cs.length = vs.size ∧ ∀ (i : Nat) (c : AV) (y : Value), cs[i]? = some c → vs[i]? = some y → VRel φ c y := by
  cases h with
  | fn h1 h2 => exact ⟨_, rfl, h1, h2⟩

theorem call_sound {next : Act → World → Prop} {Q : Exit → Act → World → Prop} (hcall : CallsOk P B call) (hr : HRel B φ H w) (hf : FRel φ fr a.tmps) (hφ : ∀ b, H.next ≤ b → b < H'.next → φ b = none)
    {c : Call} (ho : o.op = .call c) {xs : List AX} (hxs : cXs c.args.toList = some xs) (hco : cCall P c xs = some ao) (he : evOp call ao fr H = some (v, H'))
    (hn : ∀ x w' φ', Step B φ H w φ' H' w' → VRel φ' v x → next (a.put o.dst x) w') : o.wp P a w next Q := by
  have one : ∀ ax, xs = [ax] → ∃ x, c.args = #[x] ∧ cX x = some ax := by
    intro ax hax
    subst hax
    have hlen := cXs_len hxs
    match hq : c.args.toList, hlen with
    | [x], _ =>
      rw [hq] at hxs
      obtain ⟨ax', r, h1, h2, h3⟩ := cXs_one hxs
      cases h3
      exact ⟨x, Array.toList_inj.1 (by simpa using hq), h1⟩
  have two : ∀ ax ay, xs = [ax, ay] → ∃ x y, c.args = #[x, y] ∧ cX x = some ax ∧ cX y = some ay := by
    intro ax ay hax
    subst hax
    have hlen := cXs_len hxs
    match hq : c.args.toList, hlen with
    | [x, y], _ =>
      rw [hq] at hxs
      obtain ⟨ax', r, h1, h2, h3⟩ := cXs_one hxs
      cases h3
      obtain ⟨ay', r, h4, h5, h6⟩ := cXs_one h2
      cases h6
      exact ⟨x, y, Array.toList_inj.1 (by simpa using hq), h1, h4⟩
  unfold cCall at hco
  split at hco
  · -- a function
    rename_i f hcal
    cases hco
    simp only [evOp] at he
    split at he
    · rename_i vs hvs
      obtain ⟨k1, k2⟩ := evXs_sound hf hxs hvs
      refine call_wp hcall hr hφ he (args := c.args.map a.eval) (by simpa using k1) (fun i c y h1 h2 => k2 i c y h1 (by simpa using h2)) ?_ hn
      have hef : a.eval (.func f) = .func (.func f) #[] #[] := rfl
      simp [execOp, ho, resolve, hcal, Deferred.ofValue, hef, invoke]
    · cases he
  · -- a value
    rename_i fx _ hcal
    simp only [Option.bind_eq_bind, Option.bind_eq_some_iff] at hco
    obtain ⟨ax, hx, hco⟩ := hco
    cases hco
    simp only [evOp] at he
    split at he
    · rename_i f caps hev
      split at he
      · rename_i vs hvs
        obtain ⟨k1, k2⟩ := evXs_sound hf hxs hvs
        obtain ⟨cv, e1, e2, e3⟩ := fn_inv (ev_sound hf hx hev)
        refine call_wp hcall hr hφ he (args := c.args.map a.eval ++ cv) (by simp [e2]; simpa using k1) (fun i c' y h1 h2 => ?_) ?_ hn
        · have hk1 : vs.length = (c.args.map a.eval).size := by simpa using k1
          by_cases hi : i < vs.length
          · rw [List.getElem?_append_left hi] at h1
            rw [Array.getElem?_append_left (by omega)] at h2
            exact k2 i c' y h1 (by simpa using h2)
          · rw [List.getElem?_append_right (by omega)] at h1
            rw [Array.getElem?_append_right (by omega), ← hk1] at h2
            exact e3 _ c' y h1 h2
        · simp [execOp, ho, resolve, hcal, Deferred.ofValue, e1, invoke]
      · cases he
    · cases he
  · -- len
    rename_i hcal
    split at hco
    · rename_i ax
      obtain ⟨x, hargs, hx⟩ := one _ rfl
      simp only [Option.bind_eq_bind, Option.bind_eq_some_iff] at hco
      obtain ⟨t, ht, d, hd, hco⟩ := hco
      have fin : ∀ (s : Bool) (n : Nat) (q : AV), evX fr ax = some q → v = .v (.int .i64 n) → H' = H → ((s = true ∧ d = .string) ∨ (s = false ∧ ∃ e, d = .slice e)) →
          ((s = false ∧ ((∃ b off cap ex, q = .sl b off n cap ex) ∨ (q = .v (.slice none 0 0) ∧ n = 0))) ∨ (s = true ∧ ∃ str, q = .v (.string str) ∧ n = str.size)) → o.wp P a w next Q := by
        intro s n q hev hv hH hk hq
        subst hv hH
        have := len_run (P := P) (ty := o.type) ht hd hk (ev_sound hf hx hev) hq w
        refine upon_res (OpRes.pure hr (x := .int .i64 n) (.v rfl) ?_) hn
        simp [execOp, ho, resolve, hcal, invoke, builtin, hargs, this]
      split at hco
      · simp only [Option.some.injEq] at hco
        subst hco
        simp only [evOp] at he
        split at he
        · rename_i hev
          cases he
          exact fin false _ _ hev rfl rfl (.inr ⟨rfl, _, rfl⟩) (.inl ⟨rfl, .inl ⟨_, _, _, _, rfl⟩⟩)
        · rename_i hev
          cases he
          exact fin false 0 _ hev rfl rfl (.inr ⟨rfl, _, rfl⟩) (.inl ⟨rfl, .inr ⟨rfl, rfl⟩⟩)
        · rename_i hb _; cases hb
        · cases he
      · simp only [Option.some.injEq] at hco
        subst hco
        simp only [evOp] at he
        split at he
        · rename_i hb _; cases hb
        · rename_i hb _; cases hb
        · rename_i hev
          cases he
          exact fin true _ _ hev rfl rfl (.inl ⟨rfl, rfl⟩) (.inr ⟨rfl, _, rfl, rfl⟩)
        · cases he
      · cases hco
    · cases hco
  · -- cap
    rename_i hcal
    split at hco
    · rename_i ax
      obtain ⟨x, hargs, hx⟩ := one _ rfl
      simp only [Option.bind_eq_bind, Option.bind_eq_some_iff] at hco
      obtain ⟨t, ht, d, hd, hco⟩ := hco
      split at hco
      · cases hco
        simp only [evOp] at he
        split at he
        · rename_i hev
          cases he
          have := cap_run (P := P) (ty := o.type) ht hd (ev_sound hf hx hev) (.inr ⟨rfl, rfl⟩) w
          refine upon_res (OpRes.pure hr (x := .int .i64 (0 : Nat)) (.v rfl) ?_) hn
          simp only [execOp, ho, resolve, hcal, invoke, builtin, hargs]
          simp [this]
        · rename_i hev
          cases he
          have := cap_run (P := P) (ty := o.type) ht hd (ev_sound hf hx hev) (.inl ⟨_, _, _, rfl⟩) w
          refine upon_res (OpRes.pure hr (x := .int .i64 _) (.v rfl) ?_) hn
          simp [execOp, ho, resolve, hcal, invoke, builtin, hargs, this]
        · cases he
      · cases hco
    · cases hco
  · -- copy
    rename_i hcal
    split at hco
    · rename_i ax ay
      obtain ⟨x, y, hargs, hx, hy⟩ := two _ _ rfl
      simp only [Option.bind_eq_bind, Option.bind_eq_some_iff] at hco
      obtain ⟨t, ht, d, hd, hco⟩ := hco
      split at hco
      · simp only [Option.bind_eq_some_iff] at hco
        obtain ⟨es, hs, hco⟩ := hco
        cases hco
        simp only [evOp] at he
        split at he
        · rename_i p q hev hev2
          obtain ⟨r, w', k1, k2, k3⟩ := copy_sound (P := P) (ts := c.argTypes) (ty := o.type) hr ht hd hs (ev_sound hf hx hev) (ev_sound hf hy hev2) he
          refine upon_res ⟨r, w', φ, k1, k2, .inl ?_⟩ hn
          simp [execOp, ho, resolve, hcal, invoke, builtin, hargs, k3]
        · cases he
      · cases hco
    · cases hco
  · -- min
    rename_i hcal
    split at hco
    · rename_i ax ay
      obtain ⟨x, y, hargs, hx, hy⟩ := two _ _ rfl
      cases hco
      simp only [evOp] at he
      split at he
      · rename_i k p k' q hev hev2
        cases he
        have ex := (v_inv (ev_sound hf hx hev)).1
        have ey := (v_inv (ev_sound hf hy hev2)).1
        refine upon_res (OpRes.pure hr (x := .int k (if q < p then q else p)) (.v rfl) ?_) hn
        simp [execOp, ho, resolve, hcal, invoke, builtin, hargs, ex, ey, Builtin.min_, Builtin.min2]
      · cases he
    · cases hco
  · -- max
    rename_i hcal
    split at hco
    · rename_i ax ay
      obtain ⟨x, y, hargs, hx, hy⟩ := two _ _ rfl
      cases hco
      simp only [evOp] at he
      split at he
      · rename_i k p k' q hev hev2
        cases he
        have ex := (v_inv (ev_sound hf hx hev)).1
        have ey := (v_inv (ev_sound hf hy hev2)).1
        refine upon_res (OpRes.pure hr (x := .int k (if q > p then q else p)) (.v rfl) ?_) hn
        simp [execOp, ho, resolve, hcal, invoke, builtin, hargs, ex, ey, Builtin.max_, Builtin.max2]
      · cases he
    · cases hco
  · -- append
    rename_i hcal
    split at hco
    · rename_i ax ay
      obtain ⟨x, y, hargs, hx, hy⟩ := two _ _ rfl
      simp only [Option.bind_eq_bind, Option.bind_eq_some_iff] at hco
      obtain ⟨t, ht, u, hu, du, hdu, d, hd, hco⟩ := hco
      split at hco
      · rename_i e hk
        simp only [Option.bind_eq_some_iff] at hco
        obtain ⟨z, hz, i, hi, hco⟩ := hco
        split at hco
        · rename_i hcond
          cases hco
          obtain ⟨i', uz, hi', huz, rfl, hp, hzr⟩ := zero_run hz
          rw [hi] at hi'; cases hi'
          simp only [evOp] at he
          split at he
          · rename_i p q hev hev2
            obtain ⟨r, w', φ', k1, k2, k3⟩ := app_sound (P := P) (ts := c.argTypes) (ty := o.type) hr hφ ht hu hd hdu hk hi huz hp (by simpa using hcond.1) hcond.2.1 hcond.2.2 (ev_sound hf hx hev) (ev_sound hf hy hev2) he
            refine upon_res ⟨r, w', φ', k1, k2, .inl ?_⟩ hn
            simp [execOp, ho, resolve, hcal, invoke, builtin, hargs, k3]
          · cases he
        · cases hco
      · rename_i e hk hk2
        simp only [Option.bind_eq_some_iff] at hco
        obtain ⟨z, hz, i, hi, hco⟩ := hco
        split at hco
        · rename_i hcond
          cases hco
          obtain ⟨i', uz, hi', huz, rfl, hp, hzr⟩ := zero_run hz
          rw [hi] at hi'; cases hi'
          simp only [evOp] at he
          split at he
          · rename_i n hev hev2
            split at he
            · rename_i hcn
              cases he
              have ex := (v_inv (ev_sound hf hx hev)).1
              have ey := (v_inv (ev_sound hf hy hev2)).1
              obtain ⟨r, w', φ', k1, k2, k3⟩ := appz_sound (P := P) (ts := c.argTypes) (ty := o.type) hr (hφ _ (Nat.le_refl _) (Nat.lt_succ_self _)) ht hu hd hdu hk2 hi huz hp (by simpa using hcond.1) hcond.2.1 hcond.2.2 (k := .i64) hcn.1 hcn.2
              refine upon_res ⟨r, w', φ', k1, k2, .inl ?_⟩ hn
              simp [execOp, ho, resolve, hcal, invoke, builtin, hargs, ex, ey, k3]
            · cases he
          · cases he
        · cases hco
      · cases hco
    · cases hco
  · cases hco

theorem oper_wp {next : Act → World → Prop} {Q : Exit → Act → World → Prop} (hcall : CallsOk P B call) (hr : HRel B φ H w) (hf : FRel φ fr a.tmps) (hφ : ∀ b, H.next ≤ b → b < H'.next → φ b = none)
    (hc : (cOp P o).getD .bad = ao) (he : evOp call ao fr H = some (v, H')) (hn : ∀ x w' φ', Step B φ H w φ' H' w' → VRel φ' v x → next (a.put o.dst x) w') : o.wp P a w next Q := by
  cases hco : cOp P o with
  | none =>
    rw [hco] at hc
    simp only [Option.getD_none] at hc
    subst hc
    simp [evOp] at he
  | some ao' =>
    rw [hco] at hc
    simp only [Option.getD_some] at hc
    subst hc
    cases ho : o.op with
    | move x => exact upon_res (move_sound hr hf (.inl ho) hco he) hn
    | assign x => exact upon_res (move_sound hr hf (.inr ho) hco he) hn
    | pick c x y => exact upon_res (pick_sound hr hf ho hco he) hn
    | alloc t => exact upon_res (alloc_sound hr hφ ho hco he) hn
    | box t x => exact upon_res (box_sound hr hf hφ ho hco he) hn
    | build t ps => exact upon_res (build_sound hr hf ho hco he) hn
    | buildSlice t n ps => exact upon_res (bslice_sound hr hf hφ ho hco he) hn
    | load t x => exact upon_res (load_sound hr hf ho hco he) hn
    | store t x y => exact upon_res (store_sound hr hf ho hco he) hn
    | nilCheck x => exact upon_res (nilc_sound hr hf ho hco he) hn
    | binOp u t x y t' => exact upon_res (bin_sound hr hf ho hco he) hn
    | unOp u t x => exact upon_res (un_sound hr hf ho hco he) hn
    | convert s t x => exact upon_res (conv_sound hr hf hφ ho hco he) hn
    | makeSlice t x y => exact upon_res (mkslice_sound hr hf hφ ho hco he) hn
    | slice t x lo hi mx => exact upon_res (slice_sound hr hf ho hco he) hn
    | fieldAddr t x i => exact upon_res (faddr_sound hr hf ho hco he) hn
    | field t x i => exact upon_res (field_sound hr hf ho hco he) hn
    | indexAddr t x y => exact upon_res (iaddr_sound hr hf ho hco he) hn
    | index t x y => exact upon_res (sidx_sound hr hf ho hco he) hn
    | extract x i => exact upon_res (ext_sound hr hf ho hco he) hn
    | makeFunc fn first caps =>
      cases fn with
      | func f =>
        simp only [cOp, ho, Option.bind_eq_bind, Option.bind_eq_some_iff] at hco
        obtain ⟨l, hl, hco⟩ := hco
        split at hco
        · rename_i hfirst
          cases hco
          simp only [evOp] at he
          split at he
          · rename_i vs hvs
            cases he
            obtain ⟨k1, k2⟩ := evXs_sound hf hl hvs
            have hfe : first = #[] := by simpa using hfirst
            subst hfe
            refine upon_res (OpRes.pure hr (x := .func (.func f) #[] (caps.map a.eval)) (.fn (by simpa using k1) (fun i c y h1 h2 => k2 i c y h1 ?_)) ?_) hn
            · simpa using h2
            · simp [execOp, ho, Instr.makeFunc]
          · cases he
        · cases hco
      | _ => simp [cOp, ho] at hco
    | call c =>
      simp only [cOp, ho, Option.bind_eq_bind, Option.bind_eq_some_iff] at hco
      obtain ⟨xs, hxs, hco⟩ := hco
      exact call_sound hcall hr hf hφ ho hxs hco he hn
    | _ => simp [cOp, ho] at hco

end
end Go.AM
