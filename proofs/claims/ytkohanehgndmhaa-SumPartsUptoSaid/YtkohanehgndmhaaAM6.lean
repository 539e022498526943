/- The machine, and that it tells the truth of the program. No condition. -/
import Derived.Test.YtkohanehgndmhaaAM5
set_option linter.all false
namespace Go.AM
open Go.RowKit
section
variable {P : Program} {B : Nat} {φ : Phi} {H H' : Heap} {w : World} {fr : T AV} {a : Act} {o : Oper} {ao : AOp} {v : AV}
  {call : Nat → List AV → Heap → Option (AV × Heap)}

def scal : Value → Bool
  | .int .. | .string _ | .bool _ => true
  | _ => false

theorem guard_scal (op : BinOp) (t : TypeId) (x y : Operand) {p q : Value} (h : scal p = true) (w : World) : (eqGuard op t x y p q).run P w = .ok () w := by
  cases p <;> simp [scal] at h <;> cases op <;> simp [eqGuard]

theorem bin_run {op : BinOp} {p q r : Value} (h : binV op p q = some r) (t : TypeId) (w : World) : (binOp op t p q).run P w = .ok r w ∧ scal p = true ∧ r.oneCell' = true := by
  unfold binV at h
  split at h
  · split at h
    · cases h
    · rename_i hb
      cases h
      refine ⟨?_, rfl, rfl⟩
      simp [binOp, Op.shift, hb]
  · split at h
    · cases h
    · rename_i hb
      cases h
      refine ⟨?_, rfl, rfl⟩
      simp [binOp, Op.shift, hb]
  · rename_i o' k a' k' b' hn1 hn2
    split at h
    · rename_i hk
      subst hk
      unfold binI at h
      split at h <;> first
        | (cases h; exact ⟨by simp [binOp, Op.intArith, Op.intBits, Op.intCmp], rfl, rfl⟩)
        | (split at h
           · cases h
           · rename_i hz
             cases h
             exact ⟨by simp [binOp, Op.intDiv, hz], rfl, rfl⟩)
        | cases h
    · cases h
  · split at h
    · cases h
    · rename_i hb
      cases h
      refine ⟨?_, rfl, rfl⟩
      simp only [binOp, Op.stringOp]
      rw [if_neg hb]
      rfl
  · cases h; exact ⟨rfl, rfl, rfl⟩
  · cases h; exact ⟨rfl, rfl, rfl⟩
  · cases h

theorem scalEq_run {k : SK} {p q : Value} {r : Bool} (h : scalarEq k p q = some r) {t : TypeId} {d : TypeDesc} (hd : P.underlying t = some d) (hk : skOf d = some k) (n : Nat) (w : World) :
    (Op.equalIn (n + 1) t p q).run P w = .ok r w ∧ scal p = true := by
  unfold scalarEq at h
  split at h
  · split at h
    · rename_i hkk
      cases h
      subst hkk
      cases d <;> cases hk
      exact ⟨by simp [Op.equalIn, run_underlying hd], rfl⟩
    · cases h
  · cases h
    cases d <;> cases hk
    exact ⟨by simp [Op.equalIn, run_underlying hd], rfl⟩
  · cases h
    cases d <;> cases hk
    exact ⟨by simp [Op.equalIn, run_underlying hd], rfl⟩
  · cases h

def eqBody (n : Nat) (xs ys : Array Value) (f : Field) (_ : Option Bool × Unit) : Sem (ForInStep (Option Bool × Unit)) :=
  if f.name ≠ "_" then do
    let x ← part f.type xs f.offset
    let y ← part f.type ys f.offset
    let e ← Op.equalIn (n + 1) f.type x y
    if (!e) = true then pure (ForInStep.done (some false, ())) else pure (ForInStep.yield (none, ()))
  else pure (ForInStep.yield (none, ()))

theorem sk_agg {t : TypeId} {d : TypeDesc} {k : SK} (hd : P.underlying t = some d) (hk : skOf d = some k) (w : World) : (isAgg t).run P w = .ok false w := by
  simp only [isAgg, Sem.run_bind, run_underlying hd, Result.andThen_ok]
  cases d <;> first | rfl | cases hk

theorem eq_loop (n : Nat) (w : World) (xs ys : Array Value) : ∀ (fs : List Field) (m : Nat) (ks : List SK) (cs ds : List AV) (r : Bool),
    kindsOf P fs m = some ks → cellsEq ks cs ds = some r → (∀ (i : Nat) (c : AV), cs[i]? = some c → ∃ x, xs[m + i]? = some x ∧ VRel φ c x) →
    (∀ (i : Nat) (c : AV), ds[i]? = some c → ∃ x, ys[m + i]? = some x ∧ VRel φ c x) →
    (forIn fs (none, ()) (eqBody n xs ys) : Sem (Option Bool × Unit)).run P w = .ok (if r then none else some false, ()) w
  | [], m, ks, cs, ds, r, h1, h2, h3, h4 => by
    cases h1
    cases cs <;> cases ds <;> simp [cellsEq] at h2
    subst h2
    rfl
  | f :: fs, m, ks, cs, ds, r, h1, h2, h3, h4 => by
    simp only [kindsOf, Option.bind_eq_bind, Option.bind_eq_some_iff] at h1
    obtain ⟨d, hd, k, hk, r', hr', h1⟩ := h1
    split at h1
    · rename_i hof
      cases h1
      unfold cellsEq at h2
      split at h2
      · rename_i h; cases h
      · rename_i k0 ks0 p cs0 q ds0 hks
        cases hks
        obtain ⟨x, hx, hvx⟩ := h3 0 _ rfl
        obtain ⟨y, hy, hvy⟩ := h4 0 _ rfl
        have ex := (v_inv hvx).1
        have ey := (v_inv hvy).1
        subst ex; subst ey
        simp only [Nat.add_zero] at hx hy
        have px : (part f.type xs f.offset).run P w = .ok x w := by simp [part, sk_agg hd hk, hof.1, hx]
        have py : (part f.type ys f.offset).run P w = .ok y w := by simp [part, sk_agg hd hk, hof.1, hy]
        rw [List.forIn_cons]
        simp only [Sem.run_bind, eqBody]
        rw [if_pos hof.2]
        simp only [Sem.run_bind, px, py, Result.andThen_ok]
        split at h2
        · rename_i he
          rw [(scalEq_run he hd hk n w).1]
          simp only [Result.andThen_ok, Bool.not_true, Bool.false_eq_true, if_false, Sem.run_pure]
          exact eq_loop n w xs ys fs (m + 1) r' cs0 ds0 r hr' h2 (fun i c hc => by have := h3 (i + 1) c (by simpa using hc); rwa [show m + 1 + i = m + (i + 1) by omega])
            (fun i c hc => by have := h4 (i + 1) c (by simpa using hc); rwa [show m + 1 + i = m + (i + 1) by omega])
        · rename_i he
          cases h2
          rw [(scalEq_run he hd hk n w).1]
          simp
        · cases h2
      · cases h2
    · cases h1

theorem beq_run {agg : Bool} {ks : List SK} {p q : AV} {r : Bool} (h : avEq agg ks p q = some r) {t : TypeId} {x y : Value} (hx : VRel φ p x) (hy : VRel φ q y)
    (ht : (agg = false ∧ P.underlying t = some .bool) ∨ (agg = true ∧ ∃ fs, P.underlying t = some (.struct fs) ∧ kindsOf P fs.toList 0 = some ks ∧ P.stoodInHeld t = false ∧ P.eqGuardType P.depth t = false)) (w : World) :
    (Op.equal t x y).run P w = .ok r w ∧ ∀ (op : BinOp) (u v : Operand), (eqGuard op t u v x y).run P w = .ok () w := by
  have e9 : Op.equal t x y = Op.equalIn (9998 + 2) t x y := rfl
  rw [e9]
  unfold avEq at h
  split at h
  · rename_i p q
    have ex := (v_inv hx).1
    have ey := (v_inv hy).1
    subst ex; subst ey
    rcases ht with ⟨_, hd⟩ | ⟨hagg, _⟩
    · have := scalEq_run h hd rfl 9999 w
      exact ⟨this.1, fun op u v => guard_scal op t u v this.2 w⟩
    · cases hagg
  · rename_i cs ds
    rcases ht with ⟨hagg, _⟩ | ⟨_, fs, hd, hk, hs, hg⟩
    · cases hagg
    · have hrx := hx.cs rfl
      have hry := hy.cs rfl
      cases hx with
      | agg a1 a2 a3 =>
        cases hy with
        | agg b1 b2 b3 =>
          rename_i xs ys
          have hl := eq_loop (P := P) (φ := φ) 9998 w xs ys fs.toList 0 ks cs ds r hk h (fun i c hc => by
            obtain ⟨x, g1, g2, _⟩ := hrx.at i c hc
            exact ⟨x, by simpa [Value.cells] using g1, g2⟩) (fun i c hc => by
            obtain ⟨x, g1, g2, _⟩ := hry.at i c hc
            exact ⟨x, by simpa [Value.cells] using g1, g2⟩)
          refine ⟨?_, fun op u v => ?_⟩
          · unfold Op.equalIn
            simp only [Sem.run_bind, run_underlying hd, Result.andThen_ok, run_program, hs, Bool.false_eq_true, if_false]
            rw [← Array.forIn_toList]
            show Result.andThen ((forIn fs.toList (none, ()) (eqBody 9998 xs ys) : Sem (Option Bool × Unit)).run P w) _ = _
            rw [hl]
            cases r <;> rfl
          · unfold eqGuard
            cases op <;> simp [hg]
  · cases h

theorem nilEq1 {t e : TypeId} (hd : P.underlying t = some (.pointer e)) (n : Nat) (w : World) : (Op.equalIn (n + 1) t (.pointer none) (.pointer none)).run P w = .ok true w := by
  simp [Op.equalIn, run_underlying hd]
theorem nilEq2 {t e : TypeId} (hd : P.underlying t = some (.slice e)) (n : Nat) (w : World) : (Op.equalIn (n + 1) t (.slice none 0 0) (.slice none 0 0)).run P w = .ok true w := by
  simp [Op.equalIn, run_underlying hd]
theorem nilEq3 {t e : TypeId} (hd : P.underlying t = some (.pointer e)) (n : Nat) (w : World) (ad : Addr) : (Op.equalIn (n + 1) t (.pointer (some ad)) (.pointer none)).run P w = .ok false w := by
  simp [Op.equalIn, run_underlying hd]
theorem nilEq4 {t e : TypeId} (hd : P.underlying t = some (.slice e)) (n : Nat) (w : World) (ad : Addr) (l c : Nat) : (Op.equalIn (n + 1) t (.slice (some ad) l c) (.slice none 0 0)).run P w = .ok false w := by
  simp [Op.equalIn, run_underlying hd]

theorem bin_sound (hr : HRel B φ H w) (hf : FRel φ fr a.tmps) {u : BinOp} {t t' : TypeId} {x y : Operand} (ho : o.op = .binOp u t x y t') (hc : cOp P o = some ao) (he : evOp call ao fr H = some (v, H')) :
    OpRes P B φ H w a o v H' := by
  have fin : ∀ (ax ay : AX), cX x = some ax → cX y = some ay → ao = .bin u ax ay → OpRes P B φ H w a o v H' := by
    intro ax ay hx hy hao
    subst hao
    simp only [evOp] at he
    split at he
    · rename_i p q hev hev2
      split at he
      · rename_i r hb
        cases he
        have ex := (v_inv (ev_sound hf hx hev)).1
        have ey := (v_inv (ev_sound hf hy hev2)).1
        obtain ⟨h1, h2, h3⟩ := bin_run (P := P) hb t w
        refine OpRes.pure hr (x := r) (.v h3) ?_
        simp only [execOp, ho, Sem.run_bind, ex, ey, guard_scal _ _ _ _ h2, Result.andThen_ok, h1, Sem.run_pure]
      · cases he
    · cases he
  have fin2 : ∀ (neq agg : Bool) (ks : List SK) (ax ay : AX), cX x = some ax → cX y = some ay → ao = .beq neq agg ks ax ay → u = (if neq then .neq else .eql) →
      ((agg = false ∧ P.underlying t = some .bool) ∨ (agg = true ∧ ∃ fs, P.underlying t = some (.struct fs) ∧ kindsOf P fs.toList 0 = some ks ∧ P.stoodInHeld t = false ∧ P.eqGuardType P.depth t = false)) → OpRes P B φ H w a o v H' := by
    intro neq agg ks ax ay hx hy hao hu ht
    subst hao
    simp only [evOp] at he
    split at he
    · rename_i p q hev hev2
      split at he
      · rename_i r hb
        cases he
        have hx' := ev_sound hf hx hev
        have hy' := ev_sound hf hy hev2
        obtain ⟨h1, h2⟩ := beq_run hb hx' hy' ht w
        have hbin : (binOp u t (a.eval x) (a.eval y)).run P w = .ok (.bool (xor neq r)) w := by
          unfold avEq at hb
          split at hb
          · have ex := (v_inv hx').1
            have ey := (v_inv hy').1
            rw [ex, ey] at h1 ⊢
            subst hu
            unfold scalarEq at hb
            split at hb
            · exact SK.noConfusion ‹SK.b = SK.i›
            · cases hb
              cases neq <;> simp [binOp, h1]
            · exact SK.noConfusion ‹SK.b = SK.s›
            · cases hb
          · generalize a.eval x = xx at *
            generalize a.eval y = yy at *
            cases hx'
            cases hy'
            subst hu
            cases neq <;> simp [binOp, h1]
          · cases hb
        refine OpRes.pure hr (x := .bool (xor neq r)) (.v rfl) ?_
        simp [execOp, ho, h2, hbin]
      · cases he
    · cases he
  have fin3 : ∀ (neq sl : Bool) (ax : AX) (e : TypeId), P.underlying t = some (if sl then .slice e else .pointer e) → cX x = some ax → y = .const (if sl then .slice none 0 0 else .pointer none) →
      ao = .eqnil neq sl ax → u = (if neq then .neq else .eql) → OpRes P B φ H w a o v H' := by
    intro neq sl ax e hd hx hy hao hu
    subst hao hy hu
    have hg : ∀ (op : BinOp) (p q : Operand) (c : Value), c = (if sl then .slice none 0 0 else .pointer none) → ∀ z, (eqGuard op t p q z c).run P w = .ok () w := by
      intro op p q c hc z
      subst hc
      cases sl <;> cases op <;> cases z <;> simp [eqGuard]
    have fin4 : ∀ (r : Bool), (Op.equal t (a.eval x) (if sl then .slice none 0 0 else .pointer none)).run P w = .ok r w → H' = H → v = .v (.bool (xor neq r)) →
        (match a.eval x with | .slice .. | .pointer _ => true | _ => false) = true → OpRes P B φ H w a o v H' := by
      intro r h1 h2 h3 h4
      subst h2 h3
      have hbin : (binOp (if neq then .neq else .eql) t (a.eval x) (if sl then .slice none 0 0 else .pointer none)).run P w = .ok (.bool (xor neq r)) w := by
        generalize a.eval x = xx at *
        cases xx <;> simp at h4 <;> cases sl <;> cases neq <;> simp [binOp] <;> simp at h1 <;> simp [h1]
      refine OpRes.pure hr (x := .bool (xor neq r)) (.v rfl) ?_
      have hev : a.eval (.const (if sl then Value.slice none 0 0 else .pointer none)) = (if sl then Value.slice none 0 0 else .pointer none) := rfl
      simp only [execOp, ho, Sem.run_bind, hev, hg _ _ _ _ rfl, Result.andThen_ok, hbin]
      rfl
    have e9 : ∀ p q, Op.equal t p q = Op.equalIn (9999 + 1) t p q := fun _ _ => rfl
    simp only [evOp] at he
    split at he
    · rename_i hev
      cases he
      have ex := (v_inv (ev_sound hf hx hev)).1
      refine fin4 true ?_ rfl (by cases neq <;> rfl) (by rw [ex])
      rw [ex, e9]
      exact nilEq1 hd 9999 w
    · rename_i hev
      cases he
      have ex := (v_inv (ev_sound hf hx hev)).1
      refine fin4 true ?_ rfl (by cases neq <;> rfl) (by rw [ex])
      rw [ex, e9]
      exact nilEq2 hd 9999 w
    · rename_i hev
      cases he
      obtain ⟨p, _, ex⟩ := ptr_inv (ev_sound hf hx hev)
      refine fin4 false ?_ rfl (by cases neq <;> rfl) (by rw [ex])
      rw [ex, e9]
      exact nilEq3 hd 9999 w _
    · rename_i hev
      cases he
      obtain ⟨p, ad, c, _, ex, _⟩ := sl_inv (ev_sound hf hx hev)
      refine fin4 false ?_ rfl (by cases neq <;> rfl) (by rw [ex])
      rw [ex, e9]
      exact nilEq4 hd 9999 w _ _ _
    · cases he
  simp only [cOp, ho, Option.bind_eq_bind, Option.bind_eq_some_iff] at hc
  obtain ⟨d, hd, hc⟩ := hc
  cases d with
  | int k =>
    simp only [Option.bind_eq_some_iff] at hc
    obtain ⟨ax, hx, ay, hy, hc⟩ := hc
    cases hc
    exact fin ax ay hx hy rfl
  | string =>
    simp only [Option.bind_eq_some_iff] at hc
    obtain ⟨ax, hx, ay, hy, hc⟩ := hc
    cases hc
    exact fin ax ay hx hy rfl
  | bool =>
    cases u <;> simp only [Option.bind_eq_some_iff] at hc <;> first
      | cases hc; done
      | (obtain ⟨ax, hx, ay, hy, hc⟩ := hc
         cases hc
         exact fin2 _ _ _ ax ay hx hy rfl rfl (.inl ⟨rfl, hd⟩))
  | struct fs =>
    simp only [Option.bind_eq_some_iff] at hc
    obtain ⟨ks, hks, hc⟩ := hc
    split at hc
    · cases hc
    · rename_i hn
      simp only [Bool.or_eq_true, not_or, Bool.not_eq_true] at hn
      cases u <;> simp only [Option.bind_eq_some_iff] at hc <;> first
        | cases hc; done
        | (obtain ⟨ax, hx, ay, hy, hc⟩ := hc
           cases hc
           exact fin2 _ _ _ ax ay hx hy rfl rfl (.inr ⟨rfl, fs, hd, hks, hn.1, hn.2⟩))
  | slice e =>
    simp only at hc
    split at hc
    · simp only [Option.bind_eq_some_iff] at hc
      obtain ⟨ax, hx, hc⟩ := hc
      cases hc
      exact fin3 false true ax e hd hx rfl rfl rfl
    · simp only [Option.bind_eq_some_iff] at hc
      obtain ⟨ax, hx, hc⟩ := hc
      cases hc
      exact fin3 true true ax e hd hx rfl rfl rfl
    · cases hc
  | pointer e =>
    simp only at hc
    split at hc
    · simp only [Option.bind_eq_some_iff] at hc
      obtain ⟨ax, hx, hc⟩ := hc
      cases hc
      exact fin3 false false ax e hd hx rfl rfl rfl
    · simp only [Option.bind_eq_some_iff] at hc
      obtain ⟨ax, hx, hc⟩ := hc
      cases hc
      exact fin3 true false ax e hd hx rfl rfl rfl
    · cases hc
  | _ => cases hc

end
end Go.AM
