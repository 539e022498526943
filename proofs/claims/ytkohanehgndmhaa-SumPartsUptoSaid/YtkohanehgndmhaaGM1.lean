/- The machine over plain data: rules for each operation, calls. No condition. -/
import Derived.Test.YtkohanehgndmhaaW8
set_option linter.all false
namespace Go.AM
/-! ## The machine over plain data: what is never written again is a value; what one writes has a name -/
inductive GV where
  | v (x : Value)
  | agg (cs : List GV)
  | tup (vs : List GV)
  | fn (f : Nat) (cap : List GV)
  | ifc (t : Nat) (x : GV)
  | fsl (w : Nat) (cs : List (List GV))
  | fptr (cells : List GV) (off : Nat)
  | osl (g : Nat)
  | bptr (g off : Nat)
  | eptr (g i off : Nat)
  | any
  deriving Inhabited

structure ZB where
  cells : List AV
  es : Nat
abbrev ZM := Nat → Option ZB
def ZLe (Z Z' : ZM) : Prop := ∀ b zb, Z b = some zb → Z' b = some zb
theorem ZLe.refl (Z : ZM) : ZLe Z Z := fun _ _ h => h
theorem ZLe.trans {a b c : ZM} (h : ZLe a b) (k : ZLe b c) : ZLe a c := fun i z e => k i z (h i z e)

/-- values that hold nothing of one's own -/
inductive PR (Z : ZM) : GV → AV → Prop where
  | v (x : Value) : PR Z (.v x) (.v x)
  | agg {cs : List GV} {as : List AV} (h : cs.length = as.length) (h1 : ∀ (i : Nat) (c : GV) (a : AV), cs[i]? = some c → as[i]? = some a → PR Z c a) : PR Z (.agg cs) (.agg as)
  | tup {cs : List GV} {as : List AV} (h : cs.length = as.length) (h1 : ∀ (i : Nat) (c : GV) (a : AV), cs[i]? = some c → as[i]? = some a → PR Z c a) : PR Z (.tup cs) (.tup as)
  | fn {f : Nat} {cs : List GV} {as : List AV} (h : cs.length = as.length) (h1 : ∀ (i : Nat) (c : GV) (a : AV), cs[i]? = some c → as[i]? = some a → PR Z c a) : PR Z (.fn f cs) (.fn f as)
  | ifc {t : Nat} {c : GV} {a : AV} (h : PR Z c a) : PR Z (.ifc t c) (.ifc t a)
  | fsl {w b off len cap : Nat} {ex : Bool} {cs : List (List GV)} {zb : ZB} (f : Nat → Nat → AV) (hz : Z b = some zb) (hes : zb.es = w) (hl : len = cs.length) (hcap : len ≤ cap)
      (hw : ∀ c, c ∈ cs → c.length = w)
      (hc : ∀ (i k : Nat) (c : List GV) (x : GV), cs[i]? = some c → c[k]? = some x → zb.cells[off + i * w + k]? = some (f i k))
      (hp : ∀ (i k : Nat) (c : List GV) (x : GV), cs[i]? = some c → c[k]? = some x → PR Z x (f i k)) : PR Z (.fsl w cs) (.sl b off len cap ex)
  | fnil {w : Nat} : PR Z (.fsl w []) (.v (.slice none 0 0))
  | fptr {b base off : Nat} {cells : List GV} {zb : ZB} (f : Nat → AV) (hz : Z b = some zb)
      (hc : ∀ (k : Nat) (x : GV), cells[k]? = some x → zb.cells[base + k]? = some (f k))
      (hp : ∀ (k : Nat) (x : GV), cells[k]? = some x → PR Z x (f k)) : PR Z (.fptr cells off) (.ptr b (base + off))

  | any {a : AV} : PR Z .any a

theorem PR.mono {Z Z' : ZM} (hz : ZLe Z Z') {g : GV} {a : AV} (h : PR Z g a) : PR Z' g a := by
  induction h with
  | v x => exact .v x
  | agg h _ ih => exact .agg h ih
  | tup h _ ih => exact .tup h ih
  | fn h _ ih => exact .fn h ih
  | ifc _ ih => exact .ifc ih
  | fsl f h1 h2 h3 h4 h5 h6 _ ih => exact .fsl f (hz _ _ h1) h2 h3 h4 h5 h6 ih
  | fnil => exact .fnil
  | fptr f h1 h2 _ ih => exact .fptr f (hz _ _ h1) h2 ih
  | any => exact .any

/-- where one's own lies -/
inductive OL where
  | box (b : Nat)
  | nil
  | sl (b o len cap : Nat) (ex : Bool) (w : Nat)
abbrev Om := Nat → Option OL
def OL.id : OL → Option Nat
  | .box b => some b
  | .nil => none
  | .sl b .. => some b

inductive VR (Z : ZM) (om : Om) : GV → AV → Prop where
  | pure {g : GV} {a : AV} (h : PR Z g a) : VR Z om g a
  | agg {cs : List GV} {as : List AV} (h : cs.length = as.length) (h1 : ∀ (i : Nat) (c : GV) (a : AV), cs[i]? = some c → as[i]? = some a → VR Z om c a) : VR Z om (.agg cs) (.agg as)
  | tup {cs : List GV} {as : List AV} (h : cs.length = as.length) (h1 : ∀ (i : Nat) (c : GV) (a : AV), cs[i]? = some c → as[i]? = some a → VR Z om c a) : VR Z om (.tup cs) (.tup as)
  | fn {f : Nat} {cs : List GV} {as : List AV} (h : cs.length = as.length) (h1 : ∀ (i : Nat) (c : GV) (a : AV), cs[i]? = some c → as[i]? = some a → VR Z om c a) : VR Z om (.fn f cs) (.fn f as)
  | ifc {t : Nat} {c : GV} {a : AV} (h : VR Z om c a) : VR Z om (.ifc t c) (.ifc t a)
  | osl {g b o len cap : Nat} {ex : Bool} {w : Nat} (h : om g = some (.sl b o len cap ex w)) : VR Z om (.osl g) (.sl b o len cap ex)
  | onil {g : Nat} (h : om g = some .nil) : VR Z om (.osl g) (.v (.slice none 0 0))
  | bptr {g off b : Nat} (h : om g = some (.box b)) : VR Z om (.bptr g off) (.ptr b off)
  | eptr {g i off b o len cap : Nat} {ex : Bool} {w : Nat} (h : om g = some (.sl b o len cap ex w)) : VR Z om (.eptr g i off) (.ptr b (o + i * w + off))
  | any {a : AV} : VR Z om .any a

section
variable {Z Z' : ZM} {om om' : Om}
/-- the same at every name that a value holds -/
theorem VR.mono (hz : ZLe Z Z') (ho : ∀ g l, om g = some l → om' g = some l) {g : GV} {a : AV} (h : VR Z om g a) : VR Z' om' g a := by
  induction h with
  | pure h => exact .pure (h.mono hz)
  | agg h _ ih => exact .agg h ih
  | tup h _ ih => exact .tup h ih
  | fn h _ ih => exact .fn h ih
  | ifc _ ih => exact .ifc ih
  | osl h => exact .osl (ho _ _ h)
  | onil h => exact .onil (ho _ _ h)
  | bptr h => exact .bptr (ho _ _ h)
  | eptr h => exact .eptr (ho _ _ h)
  | any => exact .any
theorem VR.v_inv {x : Value} {a : AV} (h : VR Z om (.v x) a) : a = .v x := by
  cases h with
  | pure h => cases h; rfl
theorem VR.agg_inv {cs : List GV} {a : AV} (h : VR Z om (.agg cs) a) : ∃ as, a = .agg as ∧ cs.length = as.length ∧ ∀ (i : Nat) (c : GV) (a : AV), cs[i]? = some c → as[i]? = some a → VR Z om c a := by
  cases h with
  | pure h => cases h with
    | agg h h1 => exact ⟨_, rfl, h, fun i c a k l => .pure (h1 i c a k l)⟩
  | agg h h1 => exact ⟨_, rfl, h, h1⟩
theorem VR.tup_inv {cs : List GV} {a : AV} (h : VR Z om (.tup cs) a) : ∃ as, a = .tup as ∧ cs.length = as.length ∧ ∀ (i : Nat) (c : GV) (a : AV), cs[i]? = some c → as[i]? = some a → VR Z om c a := by
  cases h with
  | pure h => cases h with
    | tup h h1 => exact ⟨_, rfl, h, fun i c a k l => .pure (h1 i c a k l)⟩
  | tup h h1 => exact ⟨_, rfl, h, h1⟩
theorem VR.fn_inv {f : Nat} {cs : List GV} {a : AV} (h : VR Z om (.fn f cs) a) : ∃ as, a = .fn f as ∧ cs.length = as.length ∧ ∀ (i : Nat) (c : GV) (a : AV), cs[i]? = some c → as[i]? = some a → VR Z om c a := by
  cases h with
  | pure h => cases h with
    | fn h h1 => exact ⟨_, rfl, h, fun i c a k l => .pure (h1 i c a k l)⟩
  | fn h h1 => exact ⟨_, rfl, h, h1⟩
theorem VR.ifc_inv {t : Nat} {g : GV} {a : AV} (h : VR Z om (.ifc t g) a) : ∃ x, a = .ifc t x ∧ VR Z om g x := by
  cases h with
  | pure h => cases h with
    | ifc h => exact ⟨_, rfl, .pure h⟩
  | ifc h => exact ⟨_, rfl, h⟩
theorem VR.fsl_inv {w : Nat} {cs : List (List GV)} {a : AV} (h : VR Z om (.fsl w cs) a) : PR Z (.fsl w cs) a := by
  cases h with
  | pure h => exact h
theorem VR.fptr_inv {cs : List GV} {off : Nat} {a : AV} (h : VR Z om (.fptr cs off) a) : PR Z (.fptr cs off) a := by
  cases h with
  | pure h => exact h
theorem VR.osl_inv {g : Nat} {a : AV} (h : VR Z om (.osl g) a) : (∃ b o len cap ex w, om g = some (.sl b o len cap ex w) ∧ a = .sl b o len cap ex) ∨ (om g = some .nil ∧ a = .v (.slice none 0 0)) := by
  cases h with
  | pure h => cases h
  | osl h => exact .inl ⟨_, _, _, _, _, _, h, rfl⟩
  | onil h => exact .inr ⟨h, rfl⟩
theorem VR.bptr_inv {g off : Nat} {a : AV} (h : VR Z om (.bptr g off) a) : ∃ b, om g = some (.box b) ∧ a = .ptr b off := by
  cases h with
  | pure h => cases h
  | bptr h => exact ⟨_, h, rfl⟩
theorem VR.eptr_inv {g i off : Nat} {a : AV} (h : VR Z om (.eptr g i off) a) : ∃ b o len cap ex w, om g = some (.sl b o len cap ex w) ∧ a = .ptr b (o + i * w + off) := by
  cases h with
  | pure h => cases h
  | eptr h => exact ⟨_, _, _, _, _, _, h, rfl⟩
end

def lkP {β : Type} : List (Nat × β) → Nat → Option β
  | [], _ => none
  | (j, v) :: r, k => match Nat.beq j k with
    | true => some v
    | false => lkP r k
theorem lkP_cons {β : Type} (p : Nat × β) (r : List (Nat × β)) (k : Nat) : lkP (p :: r) k = if p.1 = k then some p.2 else lkP r k := by
  obtain ⟨j, v⟩ := p
  show (match Nat.beq j k with | true => some v | false => lkP r k) = if j = k then some v else lkP r k
  cases h : Nat.beq j k with
  | true => rw [if_pos (Nat.eq_of_beq_eq_true h)]
  | false => rw [if_neg (fun c => by subst c; simp at h)]

abbrev GFr := List (Nat × GV)
/-- what a program's constant is -/
def cvt : AV → GV
  | .v x => .v x
  | .agg cs => .agg (cvts cs)
  | .fn f [] => .fn f []
  | _ => .any
where cvts : List AV → List GV
  | [] => []
  | .v x :: r => .v x :: cvts r
  | _ :: r => .any :: cvts r
theorem cvts_ok {Z : ZM} {om : Om} : ∀ (cs : List AV), (cvt.cvts cs).length = cs.length ∧ ∀ (i : Nat) (c : GV) (a : AV), (cvt.cvts cs)[i]? = some c → cs[i]? = some a → VR Z om c a
  | [] => ⟨rfl, fun i c a h _ => by cases i <;> cases h⟩
  | x :: r => by
    obtain ⟨h1, h2⟩ := cvts_ok (Z := Z) (om := om) r
    cases x with
    | v x =>
      refine ⟨by simp [cvt.cvts, h1], fun i c a h k => ?_⟩
      cases i with
      | zero => simp [cvt.cvts] at h k; subst h; subst k; exact .pure (.v _)
      | succ i => exact h2 i c a (by simpa [cvt.cvts] using h) (by simpa using k)
    | _ =>
      refine ⟨by simp [cvt.cvts, h1], fun i c a h k => ?_⟩
      cases i with
      | zero => simp [cvt.cvts] at h; subst h; exact .any
      | succ i => exact h2 i c a (by simpa [cvt.cvts] using h) (by simpa using k)
theorem cvt_ok {Z : ZM} {om : Om} (a : AV) : VR Z om (cvt a) a := by
  cases a with
  | v x => exact .pure (.v x)
  | agg cs => exact .agg (cvts_ok (Z := Z) (om := om) cs).1 (cvts_ok cs).2
  | fn f cs =>
    cases cs with
    | nil => exact .fn rfl (fun i c a h => by cases i <;> cases h)
    | cons _ _ => exact .any
  | _ => exact .any
def lkGX (L : GFr) : AX → Option GV
  | .t n => lkP L n
  | .c a => some (cvt a)
def lkGXs (L : GFr) : List AX → Option (List GV)
  | [] => some []
  | x :: r => match lkGX L x with
    | some v => match lkGXs L r with
      | some vs => some (v :: vs)
      | none => none
    | none => none

def FR (Z : ZM) (om : Om) (L : GFr) (fr : T AV) : Prop := ∀ k v, lkP L k = some v → ∃ a, fr.get k = some a ∧ VR Z om v a
theorem FR.x {Z : ZM} {om : Om} {L : GFr} {fr : T AV} (h : FR Z om L fr) {x : AX} {v : GV} (e : lkGX L x = some v) : ∃ a, evX fr x = some a ∧ VR Z om v a := by
  cases x with
  | t n => exact h n v e
  | c a => cases e; exact ⟨a, rfl, cvt_ok a⟩
theorem FR.le {Z : ZM} {om : Om} {L : GFr} {fr gr : T AV} (h : FR Z om L fr) (k : FLe fr gr) : FR Z om L gr := fun i v e =>
  let ⟨a, e1, e2⟩ := h i v e
  ⟨a, k _ _ e1, e2⟩
inductive VRs (Z : ZM) (om : Om) : List GV → List AV → Prop where
  | nil : VRs Z om [] []
  | cons {v : GV} {a : AV} {vs : List GV} {as : List AV} (h : VR Z om v a) (k : VRs Z om vs as) : VRs Z om (v :: vs) (a :: as)
theorem VRs.length {Z : ZM} {om : Om} {vs : List GV} {as : List AV} (h : VRs Z om vs as) : vs.length = as.length := by
  induction h with
  | nil => rfl
  | cons _ _ ih => simp [ih]
theorem VRs.at {Z : ZM} {om : Om} {vs : List GV} {as : List AV} (h : VRs Z om vs as) : ∀ (i : Nat) (c : GV) (a : AV), vs[i]? = some c → as[i]? = some a → VR Z om c a := by
  induction h with
  | nil => intro i c a h; cases i <;> cases h
  | cons h k ih =>
    intro i c a e f
    cases i with
    | zero => simp at e f; subst e; subst f; exact h
    | succ i => exact ih i c a (by simpa using e) (by simpa using f)
theorem VRs.of {Z : ZM} {om : Om} : ∀ {vs : List GV} {as : List AV}, vs.length = as.length → (∀ (i : Nat) (c : GV) (a : AV), vs[i]? = some c → as[i]? = some a → VR Z om c a) → VRs Z om vs as
  | [], [], _, _ => .nil
  | [], _ :: _, h, _ => by simp at h
  | _ :: _, [], h, _ => by simp at h
  | v :: vs, a :: as, h, k => .cons (k 0 v a rfl rfl) (VRs.of (by simpa using h) fun i c a e f => k (i + 1) c a (by simpa using e) (by simpa using f))
theorem VRs.append {Z : ZM} {om : Om} {vs ws : List GV} {as bs : List AV} (h : VRs Z om vs as) (k : VRs Z om ws bs) : VRs Z om (vs ++ ws) (as ++ bs) := by
  induction h with
  | nil => exact k
  | cons h _ ih => exact .cons h ih
theorem FR.xs {Z : ZM} {om : Om} {L : GFr} {fr : T AV} (h : FR Z om L fr) : ∀ {xs : List AX} {vs : List GV}, lkGXs L xs = some vs → ∃ as, evXs fr xs = some as ∧ VRs Z om vs as
  | [], vs, e => by cases e; exact ⟨[], rfl, .nil⟩
  | x :: xs, vs, e => by
    rw [lkGXs] at e
    cases hx : lkGX L x with
    | none => simp only [hx] at e; cases e
    | some v =>
      simp only [hx] at e
      cases hr : lkGXs L xs with
      | none => simp only [hr] at e; cases e
      | some ws =>
        simp only [hr, Option.some.injEq] at e
        subst e
        obtain ⟨a, h1, h2⟩ := h.x hx
        obtain ⟨as, k1, k2⟩ := FR.xs h hr
        exact ⟨a :: as, by simp only [evXs, h1, k1], .cons h2 k2⟩
def putP {β : Type} (L : List (Nat × β)) : Option Nat → β → List (Nat × β)
  | some d, v => (d, v) :: L
  | none, _ => L
theorem FR.put {Z : ZM} {om : Om} {L : GFr} {fr : T AV} (h : FR Z om L fr) {v : GV} {a : AV} (hv : VR Z om v a) (d : Option Nat) : FR Z om (putP L d v) (putD fr d a) := by
  cases d with
  | none => exact h
  | some d =>
    intro k x e
    simp only [putP, lkP_cons] at e
    simp only [putD, T.get_set]
    split at e
    · rename_i hd; rw [if_pos hd.symm]; cases e; exact ⟨a, rfl, hv⟩
    · rename_i hd; rw [if_neg (fun c => hd c.symm)]; exact h k x e
theorem FR.mono {Z Z' : ZM} {om om' : Om} {L : GFr} {fr : T AV} (h : FR Z om L fr) (hz : ZLe Z Z') (ho : ∀ g l, om g = some l → om' g = some l) : FR Z' om' L fr := fun k v e =>
  let ⟨a, e1, e2⟩ := h k v e
  ⟨a, e1, e2.mono hz ho⟩
end Go.AM
