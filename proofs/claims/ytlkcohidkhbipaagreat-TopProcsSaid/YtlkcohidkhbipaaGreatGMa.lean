/- The machine over plain data: rules for each operation, calls. No condition. -/
import Derived.Test.YtlkcohidkhbipaaGreatWa
set_option linter.all false
namespace Go.AM
/-! ## The machine over plain data: what is never written again is a value; what one writes has a name -/
inductive GV where
 | v (x : Value)
 | agg (cs : List GV)
 | tup (vs : List GV)
 | fn (f : Nat) (cap : List GV)
 | ifc (t : Nat) (x : GV)
 | fsl (w : Nat) (cs : List (List GV))
 | fptr (cells : List GV) (off : Nat)
 | osl (g : Nat)
 | bptr (g off : Nat)
 | eptr (g i off : Nat)
 | msl (g : Nat)
 | mptr (g i : Nat)
 | rsl (g i : Nat)
 | rptr (g i j off : Nat)
 | any
 deriving Inhabited
structure ZB where
 cells : List AV
 es : Nat
abbrev ZM := Nat → Option ZB
def ZLe (Z Z' : ZM) : Prop := ∀ b zb, Z b = some zb → Z' b = some zb
theorem ZLe.refl (Z : ZM) : ZLe Z Z := fun _ _ h => h
theorem ZLe.trans {a b c : ZM} (h : ZLe a b) (k : ZLe b c) : ZLe a c := fun i z e => k i z (h i z e)
inductive PR (Z : ZM) : GV → AV → Prop where
 | v (x : Value) : PR Z (.v x) (.v x)
 | agg {cs : List GV} {as : List AV} (h : cs.length = as.length) (h1 : ∀ (i : Nat) (c : GV) (a : AV), cs[i]? = some c → as[i]? = some a → PR Z c a) : PR Z (.agg cs) (.agg as)
 | tup {cs : List GV} {as : List AV} (h : cs.length = as.length) (h1 : ∀ (i : Nat) (c : GV) (a : AV), cs[i]? = some c → as[i]? = some a → PR Z c a) : PR Z (.tup cs) (.tup as)
 | fn {f : Nat} {cs : List GV} {as : List AV} (h : cs.length = as.length) (h1 : ∀ (i : Nat) (c : GV) (a : AV), cs[i]? = some c → as[i]? = some a → PR Z c a) : PR Z (.fn f cs) (.fn f as)
 | ifc {t : Nat} {c : GV} {a : AV} (h : PR Z c a) : PR Z (.ifc t c) (.ifc t a)
 | fsl {w b off len cap : Nat} {ex : Bool} {cs : List (List GV)} {zb : ZB} (f : Nat → Nat → AV) (hz : Z b = some zb) (hes : zb.es = w) (hl : len = cs.length) (hcap : len ≤ cap)
    (hw : ∀ c, c ∈ cs → c.length = w)
    (hc : ∀ (i k : Nat) (c : List GV) (x : GV), cs[i]? = some c → c[k]? = some x → zb.cells[off + i * w + k]? = some (f i k))
    (hp : ∀ (i k : Nat) (c : List GV) (x : GV), cs[i]? = some c → c[k]? = some x → PR Z x (f i k)) : PR Z (.fsl w cs) (.sl b off len cap ex)
 | fnil {w : Nat} : PR Z (.fsl w []) (.v (.slice none 0 0))
 | fptr {b base off : Nat} {cells : List GV} {zb : ZB} (f : Nat → AV) (hz : Z b = some zb)
    (hc : ∀ (k : Nat) (x : GV), cells[k]? = some x → zb.cells[base + k]? = some (f k))
    (hp : ∀ (k : Nat) (x : GV), cells[k]? = some x → PR Z x (f k)) : PR Z (.fptr cells off) (.ptr b (base + off))
 | any {a : AV} : PR Z .any a
theorem PR.mono {Z Z' : ZM} (hz : ZLe Z Z') {g : GV} {a : AV} (h : PR Z g a) : PR Z' g a := by
 induction h with
 | v x => exact .v x
 | agg h _ ih => exact .agg h ih
 | tup h _ ih => exact .tup h ih
 | fn h _ ih => exact .fn h ih
 | ifc _ ih => exact .ifc ih
 | fsl f h1 h2 h3 h4 h5 h6 _ ih => exact .fsl f (hz _ _ h1) h2 h3 h4 h5 h6 ih
 | fnil => exact .fnil
 | fptr f h1 h2 _ ih => exact .fptr f (hz _ _ h1) h2 ih
 | any => exact .any
inductive RP where
 | hole
 | nil
 | sl (b o len cap : Nat) (ex : Bool) (w : Nat)
def RP.has : RP → Nat → Prop
 | .sl b _ _ _ _ _, c => b = c
 | .hole, _ => False
 | .nil, _ => False
inductive OL where
 | box (b : Nat)
 | nil
 | sl (b o len cap : Nat) (ex : Bool) (w : Nat)
 | mat (b o cap : Nat) (ex : Bool) (ps : List RP)
abbrev Om := Nat → Option OL
def OL.has : OL → Nat → Prop
 | .box b, c => b = c
 | .nil, _ => False
 | .sl b _ _ _ _ _, c => b = c
 | .mat b _ _ _ ps, c => b = c ∨ ∃ (i : Nat) (p : RP), ps[i]? = some p ∧ RP.has p c
inductive VR (Z : ZM) (om : Om) : GV → AV → Prop where
 | pure {g : GV} {a : AV} (h : PR Z g a) : VR Z om g a
 | agg {cs : List GV} {as : List AV} (h : cs.length = as.length) (h1 : ∀ (i : Nat) (c : GV) (a : AV), cs[i]? = some c → as[i]? = some a → VR Z om c a) : VR Z om (.agg cs) (.agg as)
 | tup {cs : List GV} {as : List AV} (h : cs.length = as.length) (h1 : ∀ (i : Nat) (c : GV) (a : AV), cs[i]? = some c → as[i]? = some a → VR Z om c a) : VR Z om (.tup cs) (.tup as)
 | fn {f : Nat} {cs : List GV} {as : List AV} (h : cs.length = as.length) (h1 : ∀ (i : Nat) (c : GV) (a : AV), cs[i]? = some c → as[i]? = some a → VR Z om c a) : VR Z om (.fn f cs) (.fn f as)
 | ifc {t : Nat} {c : GV} {a : AV} (h : VR Z om c a) : VR Z om (.ifc t c) (.ifc t a)
 | osl {g b o len cap : Nat} {ex : Bool} {w : Nat} (h : om g = some (.sl b o len cap ex w)) : VR Z om (.osl g) (.sl b o len cap ex)
 | onil {g : Nat} (h : om g = some .nil) : VR Z om (.osl g) (.v (.slice none 0 0))
 | bptr {g off b : Nat} (h : om g = some (.box b)) : VR Z om (.bptr g off) (.ptr b off)
 | eptr {g i off b o len cap : Nat} {ex : Bool} {w : Nat} (h : om g = some (.sl b o len cap ex w)) : VR Z om (.eptr g i off) (.ptr b (o + i * w + off))
 | msl {g b o cap : Nat} {ex : Bool} {ps : List RP} (h : om g = some (.mat b o cap ex ps)) : VR Z om (.msl g) (.sl b o ps.length cap ex)
 | mnil {g : Nat} (h : om g = some .nil) : VR Z om (.msl g) (.v (.slice none 0 0))
 | mptr {g i b o cap : Nat} {ex : Bool} {ps : List RP} (h : om g = some (.mat b o cap ex ps)) : VR Z om (.mptr g i) (.ptr b (o + i * 1))
 | rsl {g i b o cap : Nat} {ex : Bool} {ps : List RP} {b' o' len' cap' : Nat} {ex' : Bool} {w : Nat} (h : om g = some (.mat b o cap ex ps)) (hp : ps[i]? = some (.sl b' o' len' cap' ex' w)) : VR Z om (.rsl g i) (.sl b' o' len' cap' ex')
 | rnil {g i b o cap : Nat} {ex : Bool} {ps : List RP} (h : om g = some (.mat b o cap ex ps)) (hp : ps[i]? = some .nil) : VR Z om (.rsl g i) (.v (.slice none 0 0))
 | rptr {g i j off b o cap : Nat} {ex : Bool} {ps : List RP} {b' o' len' cap' : Nat} {ex' : Bool} {w : Nat} (h : om g = some (.mat b o cap ex ps)) (hp : ps[i]? = some (.sl b' o' len' cap' ex' w)) : VR Z om (.rptr g i j off) (.ptr b' (o' + j * w + off))
 | any {a : AV} : VR Z om .any a
section
variable {Z Z' : ZM} {om om' : Om}
theorem VR.mono (hz : ZLe Z Z') (ho : ∀ g l, om g = some l → om' g = some l) {g : GV} {a : AV} (h : VR Z om g a) : VR Z' om' g a := by
 induction h with
 | pure h => exact .pure (h.mono hz)
 | agg h _ ih => exact .agg h ih
 | tup h _ ih => exact .tup h ih
 | fn h _ ih => exact .fn h ih
 | ifc _ ih => exact .ifc ih
 | osl h => exact .osl (ho _ _ h)
 | onil h => exact .onil (ho _ _ h)
 | bptr h => exact .bptr (ho _ _ h)
 | eptr h => exact .eptr (ho _ _ h)
 | msl h => exact .msl (ho _ _ h)
 | mnil h => exact .mnil (ho _ _ h)
 | mptr h => exact .mptr (ho _ _ h)
 | rsl h hp => exact .rsl (ho _ _ h) hp
 | rnil h hp => exact .rnil (ho _ _ h) hp
 | rptr h hp => exact .rptr (ho _ _ h) hp
 | any => exact .any
theorem VR.v_inv {x : Value} {a : AV} (h : VR Z om (.v x) a) : a = .v x := by
 cases h with
 | pure h => cases h; rfl
theorem VR.agg_inv {cs : List GV} {a : AV} (h : VR Z om (.agg cs) a) : ∃ as, a = .agg as ∧ cs.length = as.length ∧ ∀ (i : Nat) (c : GV) (a : AV), cs[i]? = some c → as[i]? = some a → VR Z om c a := by
 cases h with
 | pure h => cases h with
   | agg h h1 => exact ⟨_, rfl, h, fun i c a k l => .pure (h1 i c a k l)⟩
 | agg h h1 => exact ⟨_, rfl, h, h1⟩
theorem VR.tup_inv {cs : List GV} {a : AV} (h : VR Z om (.tup cs) a) : ∃ as, a = .tup as ∧ cs.length = as.length ∧ ∀ (i : Nat) (c : GV) (a : AV), cs[i]? = some c → as[i]? = some a → VR Z om c a := by
 cases h with
 | pure h => cases h with
   | tup h h1 => exact ⟨_, rfl, h, fun i c a k l => .pure (h1 i c a k l)⟩
 | tup h h1 => exact ⟨_, rfl, h, h1⟩
theorem VR.fn_inv {f : Nat} {cs : List GV} {a : AV} (h : VR Z om (.fn f cs) a) : ∃ as, a = .fn f as ∧ cs.length = as.length ∧ ∀ (i : Nat) (c : GV) (a : AV), cs[i]? = some c → as[i]? = some a → VR Z om c a := by
 cases h with
 | pure h => cases h with
   | fn h h1 => exact ⟨_, rfl, h, fun i c a k l => .pure (h1 i c a k l)⟩
 | fn h h1 => exact ⟨_, rfl, h, h1⟩
theorem VR.ifc_inv {t : Nat} {g : GV} {a : AV} (h : VR Z om (.ifc t g) a) : ∃ x, a = .ifc t x ∧ VR Z om g x := by
 cases h with
 | pure h => cases h with
   | ifc h => exact ⟨_, rfl, .pure h⟩
 | ifc h => exact ⟨_, rfl, h⟩
theorem VR.fsl_inv {w : Nat} {cs : List (List GV)} {a : AV} (h : VR Z om (.fsl w cs) a) : PR Z (.fsl w cs) a := by
 cases h with
 | pure h => exact h
theorem VR.fptr_inv {cs : List GV} {off : Nat} {a : AV} (h : VR Z om (.fptr cs off) a) : PR Z (.fptr cs off) a := by
 cases h with
 | pure h => exact h
theorem VR.osl_inv {g : Nat} {a : AV} (h : VR Z om (.osl g) a) : (∃ b o len cap ex w, om g = some (.sl b o len cap ex w) ∧ a = .sl b o len cap ex) ∨ (om g = some .nil ∧ a = .v (.slice none 0 0)) := by
 cases h with
 | pure h => cases h
 | osl h => exact .inl ⟨_, _, _, _, _, _, h, rfl⟩
 | onil h => exact .inr ⟨h, rfl⟩
theorem VR.bptr_inv {g off : Nat} {a : AV} (h : VR Z om (.bptr g off) a) : ∃ b, om g = some (.box b) ∧ a = .ptr b off := by
 cases h with
 | pure h => cases h
 | bptr h => exact ⟨_, h, rfl⟩
theorem VR.eptr_inv {g i off : Nat} {a : AV} (h : VR Z om (.eptr g i off) a) : ∃ b o len cap ex w, om g = some (.sl b o len cap ex w) ∧ a = .ptr b (o + i * w + off) := by
 cases h with
 | pure h => cases h
 | eptr h => exact ⟨_, _, _, _, _, _, h, rfl⟩
theorem VR.msl_inv {g : Nat} {a : AV} (h : VR Z om (.msl g) a) : (∃ b o cap ex ps, om g = some (.mat b o cap ex ps) ∧ a = .sl b o ps.length cap ex) ∨ (om g = some .nil ∧ a = .v (.slice none 0 0)) := by
 cases h with
 | pure h => cases h
 | msl h => exact .inl ⟨_, _, _, _, _, h, rfl⟩
 | mnil h => exact .inr ⟨h, rfl⟩
theorem VR.mptr_inv {g i : Nat} {a : AV} (h : VR Z om (.mptr g i) a) : ∃ b o cap ex ps, om g = some (.mat b o cap ex ps) ∧ a = .ptr b (o + i * 1) := by
 cases h with
 | pure h => cases h
 | mptr h => exact ⟨_, _, _, _, _, h, rfl⟩
theorem VR.rsl_inv {g i : Nat} {a : AV} (h : VR Z om (.rsl g i) a) : ∃ b o cap ex ps, om g = some (.mat b o cap ex ps) ∧ ((∃ b' o' len' cap' ex' w, ps[i]? = some (.sl b' o' len' cap' ex' w) ∧ a = .sl b' o' len' cap' ex') ∨ (ps[i]? = some .nil ∧ a = .v (.slice none 0 0))) := by
 cases h with
 | pure h => cases h
 | rsl h hp => exact ⟨_, _, _, _, _, h, .inl ⟨_, _, _, _, _, _, hp, rfl⟩⟩
 | rnil h hp => exact ⟨_, _, _, _, _, h, .inr ⟨hp, rfl⟩⟩
theorem VR.rptr_inv {g i j off : Nat} {a : AV} (h : VR Z om (.rptr g i j off) a) : ∃ b o cap ex ps b' o' len' cap' ex' w, om g = some (.mat b o cap ex ps) ∧ ps[i]? = some (.sl b' o' len' cap' ex' w) ∧ a = .ptr b' (o' + j * w + off) := by
 cases h with
 | pure h => cases h
 | rptr h hp => exact ⟨_, _, _, _, _, _, _, _, _, _, _, h, hp, rfl⟩
end
def lkP {β : Type} : List (Nat × β) → Nat → Option β
 | [], _ => none
 | (j, v) :: r, k => match Nat.beq j k with
   | true => some v
   | false => lkP r k
theorem lkP_cons {β : Type} (p : Nat × β) (r : List (Nat × β)) (k : Nat) : lkP (p :: r) k = if p.1 = k then some p.2 else lkP r k := by
 obtain ⟨j, v⟩ := p
 show (match Nat.beq j k with | true => some v | false => lkP r k) = if j = k then some v else lkP r k
 cases h : Nat.beq j k with
 | true => rw [if_pos (Nat.eq_of_beq_eq_true h)]
 | false => rw [if_neg (fun c => by subst c; simp at h)]
abbrev GFr := List (Nat × GV)
def cvt : AV → GV
 | .v x => .v x
 | .agg cs => .agg (cvts cs)
 | .fn f [] => .fn f []
 | _ => .any
where cvts : List AV → List GV
 | [] => []
 | .v x :: r => .v x :: cvts r
 | _ :: r => .any :: cvts r
theorem cvts_ok {Z : ZM} {om : Om} : ∀ (cs : List AV), (cvt.cvts cs).length = cs.length ∧ ∀ (i : Nat) (c : GV) (a : AV), (cvt.cvts cs)[i]? = some c → cs[i]? = some a → VR Z om c a
 | [] => ⟨rfl, fun i c a h _ => by cases i <;> cases h⟩
 | x :: r => by
   obtain ⟨h1, h2⟩ := cvts_ok (Z := Z) (om := om) r
   cases x with
   | v x =>
     refine ⟨by simp [cvt.cvts, h1], fun i c a h k => ?_⟩
     cases i with
     | zero => simp [cvt.cvts] at h k; subst h; subst k; exact .pure (.v _)
     | succ i => exact h2 i c a (by simpa [cvt.cvts] using h) (by simpa using k)
   | _ =>
     refine ⟨by simp [cvt.cvts, h1], fun i c a h k => ?_⟩
     cases i with
     | zero => simp [cvt.cvts] at h; subst h; exact .any
     | succ i => exact h2 i c a (by simpa [cvt.cvts] using h) (by simpa using k)
theorem cvt_ok {Z : ZM} {om : Om} (a : AV) : VR Z om (cvt a) a := by
 cases a with
 | v x => exact .pure (.v x)
 | agg cs => exact .agg (cvts_ok (Z := Z) (om := om) cs).1 (cvts_ok cs).2
 | fn f cs =>
   cases cs with
   | nil => exact .fn rfl (fun i c a h => by cases i <;> cases h)
   | cons _ _ => exact .any
 | _ => exact .any
def lkGX (L : GFr) : AX → Option GV
 | .t n => lkP L n
 | .c a => some (cvt a)
def lkGXs (L : GFr) : List AX → Option (List GV)
 | [] => some []
 | x :: r => match lkGX L x with
   | some v => match lkGXs L r with
     | some vs => some (v :: vs)
     | none => none
   | none => none
def FR (Z : ZM) (om : Om) (L : GFr) (fr : T AV) : Prop := ∀ k v, lkP L k = some v → ∃ a, fr.get k = some a ∧ VR Z om v a
theorem FR.x {Z : ZM} {om : Om} {L : GFr} {fr : T AV} (h : FR Z om L fr) {x : AX} {v : GV} (e : lkGX L x = some v) : ∃ a, evX fr x = some a ∧ VR Z om v a := by
 cases x with
 | t n => exact h n v e
 | c a => cases e; exact ⟨a, rfl, cvt_ok a⟩
theorem FR.le {Z : ZM} {om : Om} {L : GFr} {fr gr : T AV} (h : FR Z om L fr) (k : FLe fr gr) : FR Z om L gr := fun i v e =>
 let ⟨a, e1, e2⟩ := h i v e
 ⟨a, k _ _ e1, e2⟩
inductive VRs (Z : ZM) (om : Om) : List GV → List AV → Prop where
 | nil : VRs Z om [] []
 | cons {v : GV} {a : AV} {vs : List GV} {as : List AV} (h : VR Z om v a) (k : VRs Z om vs as) : VRs Z om (v :: vs) (a :: as)
theorem VRs.length {Z : ZM} {om : Om} {vs : List GV} {as : List AV} (h : VRs Z om vs as) : vs.length = as.length := by
 induction h with
 | nil => rfl
 | cons _ _ ih => simp [ih]
theorem VRs.at {Z : ZM} {om : Om} {vs : List GV} {as : List AV} (h : VRs Z om vs as) : ∀ (i : Nat) (c : GV) (a : AV), vs[i]? = some c → as[i]? = some a → VR Z om c a := by
 induction h with
 | nil => intro i c a h; cases i <;> cases h
 | cons h k ih =>
   intro i c a e f
   cases i with
   | zero => simp at e f; subst e; subst f; exact h
   | succ i => exact ih i c a (by simpa using e) (by simpa using f)
theorem VRs.of {Z : ZM} {om : Om} : ∀ {vs : List GV} {as : List AV}, vs.length = as.length → (∀ (i : Nat) (c : GV) (a : AV), vs[i]? = some c → as[i]? = some a → VR Z om c a) → VRs Z om vs as
 | [], [], _, _ => .nil
 | [], _ :: _, h, _ => by simp at h
 | _ :: _, [], h, _ => by simp at h
 | v :: vs, a :: as, h, k => .cons (k 0 v a rfl rfl) (VRs.of (by simpa using h) fun i c a e f => k (i + 1) c a (by simpa using e) (by simpa using f))
theorem VRs.append {Z : ZM} {om : Om} {vs ws : List GV} {as bs : List AV} (h : VRs Z om vs as) (k : VRs Z om ws bs) : VRs Z om (vs ++ ws) (as ++ bs) := by
 induction h with
 | nil => exact k
 | cons h _ ih => exact .cons h ih
theorem FR.xs {Z : ZM} {om : Om} {L : GFr} {fr : T AV} (h : FR Z om L fr) : ∀ {xs : List AX} {vs : List GV}, lkGXs L xs = some vs → ∃ as, evXs fr xs = some as ∧ VRs Z om vs as
 | [], vs, e => by cases e; exact ⟨[], rfl, .nil⟩
 | x :: xs, vs, e => by
   rw [lkGXs] at e
   cases hx : lkGX L x with
   | none => simp only [hx] at e; cases e
   | some v =>
     simp only [hx] at e
     cases hr : lkGXs L xs with
     | none => simp only [hr] at e; cases e
     | some ws =>
       simp only [hr, Option.some.injEq] at e
       subst e
       obtain ⟨a, h1, h2⟩ := h.x hx
       obtain ⟨as, k1, k2⟩ := FR.xs h hr
       exact ⟨a :: as, by simp only [evXs, h1, k1], .cons h2 k2⟩
def putP {β : Type} (L : List (Nat × β)) : Option Nat → β → List (Nat × β)
 | some d, v => (d, v) :: L
 | none, _ => L
theorem FR.put {Z : ZM} {om : Om} {L : GFr} {fr : T AV} (h : FR Z om L fr) {v : GV} {a : AV} (hv : VR Z om v a) (d : Option Nat) : FR Z om (putP L d v) (putD fr d a) := by
 cases d with
 | none => exact h
 | some d =>
   intro k x e
   simp only [putP, lkP_cons] at e
   simp only [putD, T.get_set]
   split at e
   ·rename_i hd; rw [if_pos hd.symm]; cases e; exact ⟨a, rfl, hv⟩
   ·rename_i hd; rw [if_neg (fun c => hd c.symm)]; exact h k x e
theorem FR.mono {Z Z' : ZM} {om om' : Om} {L : GFr} {fr : T AV} (h : FR Z om L fr) (hz : ZLe Z Z') (ho : ∀ g l, om g = some l → om' g = some l) : FR Z' om' L fr := fun k v e =>
 let ⟨a, e1, e2⟩ := h k v e
 ⟨a, e1, e2.mono hz ho⟩
end Go.AM
set_option linter.all false
namespace Go.AM
inductive Fl where
 | no
 | yes
 | rm (r : Nat)
def FlOk : Fl → Bool → Nat → Nat → Prop
 | .no, _, _, _ => True
 | .yes, ex, len, cap => ex = true ∨ len = cap
 | .rm r, _, len, cap => cap = len + r
def Fl.app : Fl → Nat → Fl
 | .no, _ => .no
 | .yes, _ => .yes
 | .rm r, n => .rm (r - n)
def Fl.can : Fl → Nat → Prop
 | .no, n => n ≤ 1
 | .yes, _ => True
 | .rm r, n => n ≤ r
theorem FlOk.in {full : Fl} {ex : Bool} {len cap n : Nat} (h : FlOk full ex len cap) (k : len + n ≤ cap) (hc : full.can n) : FlOk (full.app n) ex (len + n) cap := by
 cases full with
 | no => trivial
 | yes => rcases h with h | h
          ·exact .inl h
          ·exact .inr (by omega)
 | rm r =>
   have h' : cap = len + r := h
   have hc' : n ≤ r := hc
   show cap = len + n + (r - n)
   omega
theorem FlOk.out {full : Fl} {ex : Bool} {len cap n : Nat} (h : FlOk full ex len cap) (k : ¬ len + n ≤ cap) (hc : full.can n) : (∀ ex m, FlOk (full.app n) ex m m) ∧ (ex = true ∨ len = cap ∨ n ≤ 1) := by
 cases full with
 | no => exact ⟨fun _ _ => trivial, .inr (.inr hc)⟩
 | yes => exact ⟨fun _ _ => .inr rfl, h.elim .inl (fun c => .inr (.inl c))⟩
 | rm r =>
   have h' : cap = len + r := h
   have hc' : n ≤ r := hc
   omega
def Fl.cut (full full' : Fl) (len hi : Nat) : Prop := match full' with
 | .no => True
 | .yes => full = .yes ∧ hi = len
 | .rm r => ∃ r0, full = .rm r0 ∧ len + r0 = hi + r
theorem Fl.cut.ok {full full' : Fl} {len hi lo cap : Nat} {ex : Bool} (h : full.cut full' len hi) (k : FlOk full ex len cap) (hc : len ≤ cap) (hl : lo ≤ hi) (hh : hi ≤ len) : FlOk full' ex (hi - lo) (cap - lo) := by
 cases full' with
 | no => trivial
 | yes =>
   obtain ⟨rfl, rfl⟩ := h
   rcases k with k | k
   ·exact .inl k
   ·exact .inr (by omega)
 | rm r =>
   obtain ⟨r0, rfl, e⟩ := h
   have k' : cap = len + r0 := k
   show cap - lo = hi - lo + r
   omega
theorem Fl.cut.nil {full full' : Fl} (h : full.cut full' 0 0) (k : FlOk full true 0 0) : FlOk full' true 0 0 := h.ok (lo := 0) k (Nat.le_refl _) (Nat.le_refl _) (Nat.le_refl _)
inductive GBlk where
 | box (cells : List GV)
 | arr (full : Fl) (w : Nat) (cs : List (List GV))
 | mat (w : Nat) (rows : List (Option (List (List GV))))
abbrev GHp := List (Nat × GBlk)
def ArrAt (Z : ZM) (cells : List AV) (o w : Nat) (cs : List (List GV)) : Prop :=
 ∀ (i : Nat) (c : List GV), cs[i]? = some c → c.length = w ∧ ∀ (k : Nat) (x : GV), c[k]? = some x → ∃ a, cells[o + i * w + k]? = some a ∧ PR Z x a
theorem ArrAt.mono {Z Z' : ZM} (hz : ZLe Z Z') {cells : List AV} {o w : Nat} {cs : List (List GV)} (h : ArrAt Z cells o w cs) : ArrAt Z' cells o w cs := fun i c e =>
 ⟨(h i c e).1, fun k x e' => let ⟨a, h1, h2⟩ := (h i c e).2 k x e'; ⟨a, h1, h2.mono hz⟩⟩
theorem PR.sl_inv {Z : ZM} {w b off len cap : Nat} {ex : Bool} {cs : List (List GV)} (h : PR Z (.fsl w cs) (.sl b off len cap ex)) : len = cs.length ∧ len ≤ cap ∧ ∃ zb, Z b = some zb ∧ zb.es = w ∧ ArrAt Z zb.cells off w cs := by
 cases h with
 | fsl f h1 h2 h3 h4 h5 h6 h7 =>
   exact ⟨h3, h4, _, h1, h2, fun i c e => ⟨h5 c (List.mem_of_getElem? e), fun k x e' => ⟨f i k, h6 i k c x e e', h7 i k c x e e'⟩⟩⟩
theorem PR.sl {Z : ZM} {w b off len cap : Nat} {ex : Bool} {cs : List (List GV)} {zb : ZB} (h1 : Z b = some zb) (h2 : zb.es = w) (h3 : len = cs.length) (h4 : len ≤ cap) (h5 : ArrAt Z zb.cells off w cs) : PR Z (.fsl w cs) (.sl b off len cap ex) :=
 .fsl (fun i k => zb.cells.getD (off + i * w + k) (.tup [])) h1 h2 h3 h4 (fun c hc => by obtain ⟨i, hi⟩ := List.getElem?_of_mem hc; exact (h5 i c hi).1)
  (fun i k c x e e' => by obtain ⟨a, ha, _⟩ := (h5 i c e).2 k x e'; rw [ha, List.getD_eq_getElem?_getD, ha]; rfl)
  (fun i k c x e e' => by obtain ⟨a, ha, hp⟩ := (h5 i c e).2 k x e'; rw [List.getD_eq_getElem?_getD, ha]; exact hp)
def SzOk (ex : Bool) (n o cap w : Nat) : Prop := o + cap * w ≤ n ∧ (ex = false → n = o + cap * w)
theorem SzOk.eq {ex : Bool} {n o cap w : Nat} (h : n = o + cap * w) : SzOk ex n o cap w := ⟨by omega, fun _ => h⟩
inductive RowAt (Z : ZM) (H : Heap) (w : Nat) : Option (List (List GV)) → RP → Option AV → Prop where
 | hole {a : Option AV} : RowAt Z H w none .hole a
 | nil : RowAt Z H w (some []) .nil (some (.v (.slice none 0 0)))
 | sl {b o cap : Nat} {ex : Bool} {cs : List (List GV)} {blk : Blk} (hb : H.blks.get b = some blk) (hw : blk.wr = true) (hes : blk.es = w) (hcap : cs.length ≤ cap) (hsz : SzOk ex blk.cells.length o cap w)
    (hf : ex = true ∨ cs.length = cap) (ha : ArrAt Z blk.cells o w cs) : RowAt Z H w (some cs) (.sl b o cs.length cap ex w) (some (.sl b o cs.length cap ex))
theorem RowAt.keep {Z Z' : ZM} {H H' : Heap} {w : Nat} {r : Option (List (List GV))} {p : RP} {a : Option AV} (h : RowAt Z H w r p a) (hz : ZLe Z Z') (hb : ∀ b, p.has b → H'.blks.get b = H.blks.get b) : RowAt Z' H' w r p a := by
 cases h with
 | hole => exact .hole
 | nil => exact .nil
 | sl h1 h2 h3 h4 h5 h6 h7 => exact .sl (by rw [hb _ rfl]; exact h1) h2 h3 h4 h5 h6 (h7.mono hz)
inductive BR (Z : ZM) (om : Om) (H : Heap) (g : Nat) : GBlk → Prop where
 | box {cells : List GV} {b : Nat} {blk : Blk} (h : om g = some (.box b)) (hb : H.blks.get b = some blk) (hw : blk.wr = true) (hl : cells.length = blk.cells.length)
    (hv : ∀ (i : Nat) (c : GV) (a : AV), cells[i]? = some c → blk.cells[i]? = some a → VR Z om c a) : BR Z om H g (.box cells)
 | nil {full : Fl} {w : Nat} (h : om g = some .nil) (hf : FlOk full true 0 0) : BR Z om H g (.arr full w [])
 | arr {full : Fl} {w b o cap : Nat} {ex : Bool} {cs : List (List GV)} {blk : Blk} (h : om g = some (.sl b o cs.length cap ex w)) (hb : H.blks.get b = some blk) (hw : blk.wr = true) (hes : blk.es = w)
    (hcap : cs.length ≤ cap) (hsz : SzOk ex blk.cells.length o cap w) (hf : FlOk full ex cs.length cap) (ha : ArrAt Z blk.cells o w cs) : BR Z om H g (.arr full w cs)
 | mnil {w : Nat} (h : om g = some .nil) : BR Z om H g (.mat w [])
 | mat {w b o cap : Nat} {ex : Bool} {ps : List RP} {rows : List (Option (List (List GV)))} {blk : Blk} (h : om g = some (.mat b o cap ex ps)) (hb : H.blks.get b = some blk) (hw : blk.wr = true) (hes : blk.es = 1)
    (hlen : rows.length = ps.length) (hcap : rows.length ≤ cap) (hsz : SzOk ex blk.cells.length o cap 1) (hf : ex = true ∨ rows.length = cap)
    (hr : ∀ (i : Nat) (r : Option (List (List GV))) (p : RP), rows[i]? = some r → ps[i]? = some p → RowAt Z H w r p blk.cells[o + i]?)
    (hd : ∀ (i : Nat) (p : RP), ps[i]? = some p → ¬ p.has b) (hd2 : ∀ (i j : Nat) (p q : RP) (c : Nat), ps[i]? = some p → ps[j]? = some q → p.has c → q.has c → i = j) : BR Z om H g (.mat w rows)
def idOf (om : Om) (g b : Nat) : Prop := ∃ l, om g = some l ∧ l.has b
theorem idOf_eq {om : Om} {g b : Nat} {l : OL} (h : om g = some l) (k : l.has b) : idOf om g b := ⟨l, h, k⟩
theorem idOf_of {om : Om} {g b : Nat} {l : OL} (i : idOf om g b) (h : om g = some l) : l.has b := by
 obtain ⟨l', h', k⟩ := i
 rw [h] at h'; cases h'; exact k
theorem idOf_nil {om : Om} {g b : Nat} (h : om g = some .nil) : ¬ idOf om g b := fun i => idOf_of i h
structure GRel (Z : ZM) (om : Om) (HG : GHp) (H : Heap) : Prop where
 dom : ∀ g, lkP HG g = none → om g = none
 zok : ∀ b zb, Z b = some zb → b < H.next ∧ ∃ blk, H.blks.get b = some blk ∧ blk.cells = zb.cells ∧ blk.es = zb.es
 own : ∀ g blk, lkP HG g = some blk → BR Z om H g blk
 sep : ∀ g g' b, g ≠ g' → (lkP HG g).isSome = true → (lkP HG g').isSome = true → idOf om g b → ¬ idOf om g' b
 zsep : ∀ g b, (lkP HG g).isSome = true → idOf om g b → Z b = none ∧ b < H.next
 mate : ∀ g b blk m, (lkP HG g).isSome = true → idOf om g b → H.blks.get b = some blk → blk.mate = some m → m < H.next ∧ Z m = none ∧ ∀ g', (lkP HG g').isSome = true → ¬ idOf om g' m
def Foot (om : Om) (HG : GHp) (H : Heap) (b : Nat) : Prop := ∃ g, (lkP HG g).isSome = true ∧ (idOf om g b ∨ ∃ b' blk, idOf om g b' ∧ H.blks.get b' = some blk ∧ blk.mate = some b)
def Own (om : Om) (HG : GHp) (b : Nat) : Prop := ∃ g, (lkP HG g).isSome = true ∧ idOf om g b
def nailed (g : Nat) (l : OL) : Prop := g < 10 ∧ (8 ≤ g ∨ ∃ b, l = .box b)
structure Ext (Z : ZM) (om : Om) (HG : GHp) (H : Heap) (Z' : ZM) (om' : Om) (HG' : GHp) (H' : Heap) : Prop where
 next : H.next ≤ H'.next
 zle : ZLe Z Z'
 old : ∀ b, b < H.next → ¬ Foot om HG H b → H'.blks.get b = H.blks.get b ∧ Z' b = Z b
 foot : ∀ b, b < H.next → Foot om' HG' H' b → Foot om HG H b
 stab : ∀ g l, nailed g l → om g = some l → om' g = some l
 ownb : ∀ b, b < H.next → Own om' HG' b → Own om HG b
 zown : ∀ b, b < H.next → Z b = none → Z' b ≠ none → Own om HG b
theorem Ext.refl (Z : ZM) (om : Om) (HG : GHp) (H : Heap) : Ext Z om HG H Z om HG H := ⟨Nat.le_refl _, .refl _, fun _ _ _ => ⟨rfl, rfl⟩, fun _ _ h => h, fun _ _ _ h => h, fun _ _ h => h, fun _ _ h k => absurd h k⟩
theorem Ext.trans {Z Z1 Z2 : ZM} {om om1 om2 : Om} {HG HG1 HG2 : GHp} {H H1 H2 : Heap} (h : Ext Z om HG H Z1 om1 HG1 H1) (k : Ext Z1 om1 HG1 H1 Z2 om2 HG2 H2) : Ext Z om HG H Z2 om2 HG2 H2 where
 next := Nat.le_trans h.next k.next
 zle := h.zle.trans k.zle
 old := fun b hb hf => by
  obtain ⟨a1, a2⟩ := h.old b hb hf
  obtain ⟨b1, b2⟩ := k.old b (Nat.lt_of_lt_of_le hb h.next) (fun c => hf (h.foot b hb c))
  exact ⟨b1.trans a1, b2.trans a2⟩
 foot := fun b hb hf => h.foot b hb (k.foot b (Nat.lt_of_lt_of_le hb h.next) hf)
 stab := fun g b hg e => k.stab g b hg (h.stab g b hg e)
 ownb := fun b hb e => h.ownb b hb (k.ownb b (Nat.lt_of_lt_of_le hb h.next) e)
 zown := fun b hb e1 e2 => by
  by_cases c : Z1 b = none
  ·exact h.ownb b hb (k.zown b (Nat.lt_of_lt_of_le hb h.next) c e2)
  ·exact h.zown b hb e1 c
def HLe (HG HG' : GHp) : Prop := ∀ g b, lkP HG g = some b → lkP HG' g = some b
theorem HLe.refl (HG : GHp) : HLe HG HG := fun _ _ h => h
theorem HLe.isSome {HG HG' : GHp} (h : HLe HG HG') {g : Nat} (e : (lkP HG g).isSome = true) : (lkP HG' g).isSome = true := by
 cases hx : lkP HG g with
 | none => rw [hx] at e; cases e
 | some b => rw [h _ _ hx]; rfl
mutual
/-- names that a value holds are all among these -/
def GV.ok (D : Nat → Bool) : GV → Bool
 | .agg cs => GV.okL D cs
 | .tup cs => GV.okL D cs
 | .fn _ cs => GV.okL D cs
 | .ifc _ x => GV.ok D x
 | .osl g => D g
 | .bptr g _ => D g
 | .eptr g _ _ => D g
 | .msl g => D g
 | .mptr g _ => D g
 | .rsl g _ => D g
 | .rptr g _ _ _ => D g
 | _ => true
def GV.okL (D : Nat → Bool) : List GV → Bool
 | [] => true
 | c :: cs => GV.ok D c && GV.okL D cs
end
theorem GV.okL_at {D : Nat → Bool} : ∀ {cs : List GV} {i : Nat} {c : GV}, GV.okL D cs = true → cs[i]? = some c → c.ok D = true
 | [], i, c, _, h => by cases i <;> cases h
 | x :: cs, i, c, h, e => by
   rw [GV.okL, Bool.and_eq_true] at h
   cases i with
   | zero => cases e; exact h.1
   | succ i => exact GV.okL_at h.2 (by simpa using e)
def Om.cut (om : Om) (D : Nat → Bool) : Om := fun g => if D g = true then om g else none
theorem VR.cut {Z : ZM} {om : Om} {D : Nat → Bool} {g : GV} {a : AV} (h : VR Z om g a) (k : g.ok D = true) : VR Z (om.cut D) g a := by
 induction h with
 | pure h => exact .pure h
 | agg h _ ih => exact .agg h fun i c a e f => ih i c a e f (GV.okL_at (by rwa [GV.ok] at k) e)
 | tup h _ ih => exact .tup h fun i c a e f => ih i c a e f (GV.okL_at (by rwa [GV.ok] at k) e)
 | fn h _ ih => exact .fn h fun i c a e f => ih i c a e f (GV.okL_at (by rwa [GV.ok] at k) e)
 | ifc _ ih => exact .ifc (ih (by rwa [GV.ok] at k))
 | osl h => exact .osl (by rw [GV.ok] at k; rw [Om.cut, if_pos k]; exact h)
 | onil h => exact .onil (by rw [GV.ok] at k; rw [Om.cut, if_pos k]; exact h)
 | bptr h => exact .bptr (by rw [GV.ok] at k; rw [Om.cut, if_pos k]; exact h)
 | eptr h => exact .eptr (by rw [GV.ok] at k; rw [Om.cut, if_pos k]; exact h)
 | msl h => exact .msl (by rw [GV.ok] at k; rw [Om.cut, if_pos k]; exact h)
 | mnil h => exact .mnil (by rw [GV.ok] at k; rw [Om.cut, if_pos k]; exact h)
 | mptr h => exact .mptr (by rw [GV.ok] at k; rw [Om.cut, if_pos k]; exact h)
 | rsl h hp => exact .rsl (by rw [GV.ok] at k; rw [Om.cut, if_pos k]; exact h) hp
 | rnil h hp => exact .rnil (by rw [GV.ok] at k; rw [Om.cut, if_pos k]; exact h) hp
 | rptr h hp => exact .rptr (by rw [GV.ok] at k; rw [Om.cut, if_pos k]; exact h) hp
 | any => exact .any
def GHp.D (HG : GHp) : Nat → Bool := fun g => (lkP HG g).isSome
def cleanL (D : Nat → Bool) : GFr → Bool
 | [] => true
 | p :: r => p.2.ok D && cleanL D r
def cleanH (D : Nat → Bool) : GHp → Bool
 | [] => true
 | p :: r => (match p.2 with | .box cs => GV.okL D cs | .arr _ _ _ => true | .mat _ _ => true) && cleanH D r
theorem cleanL_at {D : Nat → Bool} : ∀ {L : GFr} {k : Nat} {v : GV}, cleanL D L = true → lkP L k = some v → v.ok D = true
 | [], _, _, _, h => by cases h
 | p :: r, k, v, h, e => by
   rw [cleanL, Bool.and_eq_true] at h
   rw [lkP_cons] at e
   split at e
   ·cases e; exact h.1
   ·exact cleanL_at h.2 e
theorem cleanH_at {D : Nat → Bool} : ∀ {HG : GHp} {k : Nat} {cs : List GV}, cleanH D HG = true → lkP HG k = some (.box cs) → GV.okL D cs = true
 | [], _, _, _, h => by cases h
 | p :: r, k, cs, h, e => by
   rw [cleanH, Bool.and_eq_true] at h
   rw [lkP_cons] at e
   split at e
   ·have := h.1
    rw [Option.some.inj e] at this
    exact this
   ·exact cleanH_at h.2 e
theorem idOf_cut {om : Om} {D : Nat → Bool} {g b : Nat} (h : idOf (om.cut D) g b) : idOf om g b := by
 obtain ⟨l, e, k⟩ := h
 unfold Om.cut at e
 split at e
 ·exact ⟨l, e, k⟩
 ·cases e
theorem GRel.less {Z : ZM} {om : Om} {HG HG' : GHp} {H : Heap} (h : GRel Z om HG' H) (k : HLe HG HG') (hc : cleanH HG.D HG = true) : GRel Z (om.cut HG.D) HG H where
 dom := fun g e => by unfold Om.cut GHp.D; rw [e]; rfl
 zok := h.zok
 own := fun g b e => by
  have hD : HG.D g = true := by unfold GHp.D; rw [e]; rfl
  have hcut : om.cut HG.D g = om g := by unfold Om.cut; rw [if_pos hD]
  cases h.own g b (k g b e) with
  | box h1 h2 h3 h4 h5 => exact .box (by rw [hcut]; exact h1) h2 h3 h4 fun i c a e1 e2 => (h5 i c a e1 e2).cut (GV.okL_at (cleanH_at hc e) e1)
  | nil h1 hq => exact .nil (by rw [hcut]; exact h1) hq
  | arr h1 h2 h3 h4 h5 h6 h7 h8 => exact .arr (by rw [hcut]; exact h1) h2 h3 h4 h5 h6 h7 h8
  | mnil h1 => exact .mnil (by rw [hcut]; exact h1)
  | mat h1 h2 h3 h4 h5 h6 h7 h8 h9 h10 h11 => exact .mat (by rw [hcut]; exact h1) h2 h3 h4 h5 h6 h7 h8 h9 h10 h11
 sep := fun g g' b n e e' i i' => h.sep g g' b n (k.isSome e) (k.isSome e') (idOf_cut i) (idOf_cut i')
 zsep := fun g b e i => h.zsep g b (k.isSome e) (idOf_cut i)
 mate := fun g b blk m e e1 e2 e3 =>
  let ⟨a, b, c⟩ := h.mate g b blk m (k.isSome e) (idOf_cut e1) e2 e3
  ⟨a, b, fun g' e' i => c g' (k.isSome e') (idOf_cut i)⟩
theorem FR.cut {Z : ZM} {om : Om} {L : GFr} {fr : T AV} {D : Nat → Bool} (h : FR Z om L fr) (hc : cleanL D L = true) : FR Z (om.cut D) L fr := fun k v e =>
 let ⟨a, h1, h2⟩ := h k v e
 ⟨a, h1, h2.cut (cleanL_at hc e)⟩
def pins (HG' : GHp) : GHp → Bool
 | [] => true
 | p :: r => (Nat.ble 10 p.1 || (lkP HG' p.1).isSome) && pins HG' r
theorem pins_at {HG' : GHp} : ∀ {HG : GHp}, pins HG' HG = true → ∀ g, g < 10 → (lkP HG g).isSome = true → (lkP HG' g).isSome = true
 | [], _, g, _, h => by cases h
 | p :: r, h, g, hg, e => by
   rw [pins, Bool.and_eq_true, Bool.or_eq_true] at h
   rw [lkP_cons] at e
   split at e
   ·rename_i c
    rcases h.1 with h1 | h1
    ·have := Nat.le_of_ble_eq_true h1; omega
    ·rw [← c]; exact h1
   ·exact pins_at h.2 g hg e
theorem Ext.less {Z : ZM} {om : Om} {HG HG' : GHp} {H : Heap} (hr : GRel Z om HG' H) (k : HLe HG HG') (hp : pins HG HG' = true) : Ext Z om HG' H Z (om.cut HG.D) HG H := ⟨Nat.le_refl _, .refl _, fun _ _ _ => ⟨rfl, rfl⟩, fun b _ h => by
 obtain ⟨g, e, f⟩ := h
 refine ⟨g, k.isSome e, ?_⟩
 rcases f with f | ⟨b', blk, f1, f2⟩
 ·exact .inl (idOf_cut f)
 ·exact .inr ⟨b', blk, idOf_cut f1, f2⟩, fun g b hg0 e => by
 have hg := hg0.1
 have hs : (lkP HG' g).isSome = true := by
  cases hx : lkP HG' g with
  | none => rw [hr.dom g hx] at e; cases e
  | some _ => rfl
 unfold Om.cut GHp.D
 rw [if_pos (pins_at hp g hg hs)]
 exact e, fun b _ h => let ⟨g, e, f⟩ := h; ⟨g, k.isSome e, idOf_cut f⟩, fun _ _ h k => absurd h k⟩
def LLe (L L' : GFr) : Prop := ∀ k v, lkP L k = some v → lkP L' k = some v
theorem FR.less {Z : ZM} {om : Om} {L L' : GFr} {fr : T AV} (h : FR Z om L' fr) (k : LLe L L') : FR Z om L fr := fun i v e => h i v (k i v e)
section
variable (A : AProg)
def WpG (c : AC) (L : GFr) (HG : GHp) (Q : AE → GFr → GHp → Prop) : Prop :=
 ∀ Z om fr H, GRel Z om HG H → FR Z om L fr → Wp A c fr H fun e fr' H' => ∃ Z' om' L' HG', GRel Z' om' HG' H' ∧ FR Z' om' L' fr' ∧ Ext Z om HG H Z' om' HG' H' ∧ Q e L' HG'
def WpOpsG (l : List AOper) (L : GFr) (HG : GHp) (Q : GFr → GHp → Prop) : Prop :=
 ∀ Z om fr H, GRel Z om HG H → FR Z om L fr → WpOps A l fr H fun fr' H' => ∃ Z' om' L' HG', GRel Z' om' HG' H' ∧ FR Z' om' L' fr' ∧ Ext Z om HG H Z' om' HG' H' ∧ Q L' HG'
def WpCallG (f : Nat) (vs : List GV) (HG : GHp) (Q : GV → GHp → Prop) : Prop :=
 ∀ Z om as H, GRel Z om HG H → VRs Z om vs as → WpCall A f as H fun a H' => ∃ Z' om' v HG', GRel Z' om' HG' H' ∧ VR Z' om' v a ∧ Ext Z om HG H Z' om' HG' H' ∧ (∀ g b, om g = some (.box b) → om' g = some (.box b)) ∧ Q v HG'
end
section
variable {A : AProg} {L : GFr} {HG : GHp}
theorem WpG.mono {c : AC} {Q Q' : AE → GFr → GHp → Prop} (h : WpG A c L HG Q) (k : ∀ e L H, Q e L H → Q' e L H) : WpG A c L HG Q' := fun Z om fr H hr hf =>
 (h Z om fr H hr hf).mono fun _ _ _ ⟨Z', om', L', HG', a, b, c, d⟩ => ⟨Z', om', L', HG', a, b, c, k _ _ _ d⟩
theorem WpOpsG.mono {l : List AOper} {Q Q' : GFr → GHp → Prop} (h : WpOpsG A l L HG Q) (k : ∀ L H, Q L H → Q' L H) : WpOpsG A l L HG Q' := fun Z om fr H hr hf =>
 (h Z om fr H hr hf).mono fun _ _ ⟨Z', om', L', HG', a, b, c, d⟩ => ⟨Z', om', L', HG', a, b, c, k _ _ d⟩
theorem WpCallG.mono {f : Nat} {vs : List GV} {Q Q' : GV → GHp → Prop} (h : WpCallG A f vs HG Q) (k : ∀ v H, Q v H → Q' v H) : WpCallG A f vs HG Q' := fun Z om fr H hr hf =>
 (h Z om fr H hr hf).mono fun _ _ ⟨Z', om', L', HG', a, b, c, e, d⟩ => ⟨Z', om', L', HG', a, b, c, e, k _ _ d⟩
theorem WpG.less {c : AC} {L' : GFr} {HG' : GHp} {Q : AE → GFr → GHp → Prop} (hl : LLe L' L) (hh : HLe HG' HG) (h1 : cleanL HG'.D L' = true) (h2 : cleanH HG'.D HG' = true) (h3 : pins HG' HG = true) (h : WpG A c L' HG' Q) : WpG A c L HG Q := fun Z om fr H hr hf =>
 (h Z _ fr H (hr.less hh h2) ((hf.less hl).cut h1)).mono fun _ _ _ ⟨Z', om', L', HG', a, b, c, d⟩ => ⟨Z', om', L', HG', a, b, (Ext.less hr hh h3).trans c, d⟩
theorem WpOpsG.less {l : List AOper} {L' : GFr} {HG' : GHp} {Q : GFr → GHp → Prop} (hl : LLe L' L) (hh : HLe HG' HG) (h1 : cleanL HG'.D L' = true) (h2 : cleanH HG'.D HG' = true) (h3 : pins HG' HG = true) (h : WpOpsG A l L' HG' Q) : WpOpsG A l L HG Q := fun Z om fr H hr hf =>
 (h Z _ fr H (hr.less hh h2) ((hf.less hl).cut h1)).mono fun _ _ ⟨Z', om', L', HG', a, b, c, d⟩ => ⟨Z', om', L', HG', a, b, (Ext.less hr hh h3).trans c, d⟩
theorem WpG.skip {Q : AE → GFr → GHp → Prop} (h : Q .nm L HG) : WpG A .skip L HG Q := fun Z om _ H hr hf => Wp.skip ⟨Z, om, L, HG, hr, hf, .refl _ _ _ _, h⟩
theorem WpG.exit {id : Nat} {Q : AE → GFr → GHp → Prop} (h : Q (.ex id) L HG) : WpG A (.exit id) L HG Q := fun Z om _ H hr hf => Wp.exit ⟨Z, om, L, HG, hr, hf, .refl _ _ _ _, h⟩
theorem WpG.ret {Q : AE → GFr → GHp → Prop} (h : Q .rt L HG) : WpG A .ret L HG Q := fun Z om _ H hr hf => Wp.ret ⟨Z, om, L, HG, hr, hf, .refl _ _ _ _, h⟩
theorem WpG.reg {id : Nat} {l : List AOper} {Q : AE → GFr → GHp → Prop} (h : WpOpsG A l L HG (Q .nm)) : WpG A (.reg id false l) L HG Q := fun Z om fr H hr hf =>
 Wp.reg (h Z om fr H hr hf)
def thenG (A : AProg) (b : AC) (Q : AE → GFr → GHp → Prop) : AE → GFr → GHp → Prop
 | .nm, L, HG => WpG A b L HG Q
 | e, L, HG => Q e L HG
theorem WpG.seq {a b : AC} {Q : AE → GFr → GHp → Prop} (h : WpG A a L HG (thenG A b Q)) : WpG A (.seq a b) L HG Q := fun Z om fr H hr hf => by
 refine Wp.seq ((h Z om fr H hr hf).mono ?_)
 rintro e fr' H' ⟨Z', om', L', HG', a, b, c, d⟩
 cases e with
 | nm =>
   refine Wp.mono ((show WpG A _ L' HG' Q from d) Z' om' fr' H' a b) ?_
   rintro e fr2 H2 ⟨Z2, om2, L2, HG2, a2, b2, c2, d2⟩
   exact ⟨Z2, om2, L2, HG2, a2, b2, c.trans c2, d2⟩
 | ex i => exact ⟨Z', om', L', HG', a, b, c, d⟩
 | rt => exact ⟨Z', om', L', HG', a, b, c, d⟩
theorem WpG.cond {x : AX} {a b : AC} {Q : AE → GFr → GHp → Prop} {q : Bool} (hx : lkGX L x = some (.v (.bool q))) (ha : q = true → WpG A a L HG Q) (hb : q = false → WpG A b L HG Q) : WpG A (.cond x a b) L HG Q := fun Z om fr H hr hf => by
 obtain ⟨v, h1, h2⟩ := hf.x hx
 obtain rfl := h2.v_inv
 exact Wp.cond h1 (fun e => ha e Z om fr H hr hf) (fun e => hb e Z om fr H hr hf)
def blockG (id : Nat) (Q : AE → GFr → GHp → Prop) : AE → GFr → GHp → Prop
 | .ex i, L, H => if i = id then Q .nm L H else Q (.ex i) L H
 | e, L, H => Q e L H
theorem WpG.block {id : Nat} {c : AC} {Q : AE → GFr → GHp → Prop} (h : WpG A c L HG (blockG id Q)) : WpG A (.block id c) L HG Q := fun Z om fr H hr hf => by
 refine Wp.block ((h Z om fr H hr hf).mono ?_)
 rintro e fr' H' ⟨Z', om', L', HG', a, b, c, d⟩
 cases e with
 | nm => exact ⟨Z', om', L', HG', a, b, c, d⟩
 | rt => exact ⟨Z', om', L', HG', a, b, c, d⟩
 | ex i =>
   show if i = id then _ else _
   by_cases hi : i = id
   ·rw [if_pos hi]; exact ⟨Z', om', L', HG', a, b, c, by have d' : (if i = id then Q .nm L' HG' else Q (.ex i) L' HG') := d; rwa [if_pos hi] at d'⟩
   ·rw [if_neg hi]; exact ⟨Z', om', L', HG', a, b, c, by have d' : (if i = id then Q .nm L' HG' else Q (.ex i) L' HG') := d; rwa [if_neg hi] at d'⟩
def hasP {β : Type} (X : List (Nat × β)) : List (Nat × β) → Prop
 | [] => True
 | p :: r => lkP X p.1 = some p.2 ∧ hasP X r
theorem hasP_le {β : Type} {X : List (Nat × β)} : ∀ {l : List (Nat × β)}, hasP X l → ∀ k v, lkP l k = some v → lkP X k = some v
 | [], _, k, v, e => by cases e
 | p :: r, h, k, v, e => by
   rw [lkP_cons] at e
   split at e
   ·rename_i hk; subst hk; cases e; exact h.1
   ·exact hasP_le h.2 k v e
def loopG (next : GFr → GHp → Prop) (Q : AE → GFr → GHp → Prop) : AE → GFr → GHp → Prop
 | .nm, L, H => next L H
 | e, L, H => Q e L H
theorem WpG.loop {S : Type} {c : AC} {Q : AE → GFr → GHp → Prop} (F : S → GFr) (G : S → GHp) (I : S → Prop) (m : S → Nat)
 (hcl : ∀ s, cleanL (G s).D (F s) = true ∧ cleanH (G s).D (G s) = true)
 (hstep : ∀ s, I s → WpG A c (F s) (G s) (loopG (fun L' H' => ∃ s', m s' < m s ∧ I s' ∧ hasP L' (F s') ∧ hasP H' (G s') ∧ pins (G s') H' = true) Q))
 (s : S) (h0 : I s) (hfr : hasP L (F s)) (hh : hasP HG (G s)) (hpin : pins (G s) HG = true) : WpG A (.loop c) L HG Q := by
 refine WpG.less (L' := F s) (HG' := G s) (hasP_le hfr) (hasP_le hh) (hcl s).1 (hcl s).2 hpin ?_
 clear hfr hh hpin
 suffices H0 : ∀ (k : Nat) (s : S), m s < k → I s → WpG A (.loop c) (F s) (G s) Q from H0 _ s (Nat.lt_succ_self _) h0
 intro k
 induction k with
 | zero => intro s h; omega
 | succ k ih =>
   intro s hk hI Z om fr H hr hf
   have hs := hstep s hI Z om fr H hr hf
   obtain ⟨n, e, f, f0, H', h1, h2, h3⟩ := hs
   obtain ⟨Z', om', L', HG', a, b, c', d⟩ := h3
   cases e with
   | nm =>
     obtain ⟨s', g1, g2, g3, g4, g5⟩ := d
     have hw := ih s' (by omega) g2 Z' _ f H' (a.less (hasP_le g4) (hcl s').2) (((b.less (hasP_le g3)).cut (hcl s').1).le h2)
     obtain ⟨n', e, g, g0, H2, k1, k2, Z2, om2, L2, HG2, a2, b2, c2, d2⟩ := hw
     obtain ⟨f', r1, r2⟩ := exec_le (A := A) (Nat.le_max_left n n') _ _ _ _ _ _ _ (FLe.refl _) h1
     obtain ⟨g', s1, s2⟩ := exec_le (A := A) (Nat.le_max_right n n') _ _ _ _ _ _ _ r2 k1
     refine ⟨max n n' + 1, e, g', g0, H2, ?_, k2.trans s2, Z2, om2, L2, HG2, a2, b2, c'.trans ((Ext.less a (hasP_le g4) g5).trans c2), d2⟩
     show execB A (exec A (max n n')) _ _ H = _
     simp only [execB, r1, s1]
   | ex i =>
     refine ⟨n + 1, .ex i, f, f0, H', ?_, h2, Z', om', L', HG', a, b, c', d⟩
     show execB A (exec A n) _ _ H = _
     simp only [execB, h1]
   | rt =>
     refine ⟨n + 1, .rt, f, f0, H', ?_, h2, Z', om', L', HG', a, b, c', d⟩
     show execB A (exec A n) _ _ H = _
     simp only [execB, h1]
theorem WpOpsG.nil {Q : GFr → GHp → Prop} (h : Q L HG) : WpOpsG A [] L HG Q := fun Z om _ _ hr hf => WpOps.nil ⟨Z, om, L, HG, hr, hf, .refl _ _ _ _, h⟩
theorem WpOpsG.step {d : Option Nat} {o : AOp} {l : List AOper} {L1 : GFr} {HG1 : GHp} {v : GV} {Q : GFr → GHp → Prop}
 (h : ∀ Z om fr H, GRel Z om HG H → FR Z om L fr → WpOp A o fr H fun a H' => ∃ Z' om', GRel Z' om' HG1 H' ∧ FR Z' om' L1 fr ∧ VR Z' om' v a ∧ Ext Z om HG H Z' om' HG1 H')
 (k : WpOpsG A l (putP L1 d v) HG1 Q) : WpOpsG A (⟨d, o, none⟩ :: l) L HG Q := fun Z om fr H hr hf => by
 refine WpOps.cons rfl ((h Z om fr H hr hf).mono ?_)
 rintro a H' ⟨Z', om', h1, h2, h3, h4⟩
 refine (k Z' om' _ H' h1 (h2.put h3 d)).mono ?_
 rintro fr' H2 ⟨Z2, om2, L2, HG2, a2, b2, c2, d2⟩
 exact ⟨Z2, om2, L2, HG2, a2, b2, h4.trans c2, d2⟩
theorem WpOpsG.pure {d : Option Nat} {o : AOp} {l : List AOper} {v : GV} {Q : GFr → GHp → Prop}
 (h : ∀ Z om fr H, GRel Z om HG H → FR Z om L fr → ∃ a, evOp (fun _ _ _ => none) o fr H = some (a, H) ∧ VR Z om v a)
 (k : WpOpsG A l (putP L d v) HG Q) : WpOpsG A (⟨d, o, none⟩ :: l) L HG Q :=
 WpOpsG.step (fun Z om fr H hr hf => let ⟨_, h1, h2⟩ := h Z om fr H hr hf; WpOp.eval h1 ⟨Z, om, hr, hf, h2, .refl _ _ _ _⟩) k
end
end Go.AM
set_option linter.all false
namespace Go.AM
section
variable {A : AProg} {L : GFr} {HG : GHp} {l : List AOper} {Q : GFr → GHp → Prop}
/-! ## One rule for each operation that does nothing to the heap -/
def GV.cs : GV → Option (List GV)
 | .agg cs => some cs
 | .tup _ => none
 | .any => none
 | x => some [x]
theorem VR.cs {Z : ZM} {om : Om} {g : GV} {a : AV} (h : VR Z om g a) {cs : List GV} (e : g.cs = some cs) : ∃ as, a.cs = some as ∧ cs.length = as.length ∧ ∀ (i : Nat) (c : GV) (x : AV), cs[i]? = some c → as[i]? = some x → VR Z om c x := by
 have one : ∀ {g : GV} {a : AV}, VR Z om g a → g.cs = some [g] → a.cs = some [a] → ∀ cs, g.cs = some cs → ∃ as, a.cs = some as ∧ cs.length = as.length ∧ ∀ (i : Nat) (c : GV) (x : AV), cs[i]? = some c → as[i]? = some x → VR Z om c x := by
  intro g a h e1 e2 cs e
  rw [e1] at e; cases e
  refine ⟨[a], e2, rfl, fun i c x h1 h2 => ?_⟩
  cases i with
  | zero => simp at h1 h2; subst h1; subst h2; exact h
  | succ i => simp at h1
 cases g with
 | agg cs' => cases e; obtain ⟨as, rfl, h1, h2⟩ := h.agg_inv; exact ⟨as, rfl, h1, h2⟩
 | tup _ => cases e
 | any => cases e
 | v x => obtain rfl := h.v_inv; exact one h rfl rfl _ e
 | fn f c => obtain ⟨as, rfl, _⟩ := h.fn_inv; exact one h rfl rfl _ e
 | ifc t x => obtain ⟨as, rfl, _⟩ := h.ifc_inv; exact one h rfl rfl _ e
 | fsl w c =>
   have h' := h.fsl_inv
   cases h' with
   | fsl f h1 h2 h3 h4 h5 h6 h7 => exact one h rfl rfl _ e
   | fnil => exact one h rfl rfl _ e
 | fptr c o =>
   have h' := h.fptr_inv
   cases h' with
   | fptr f h1 h2 h3 => exact one h rfl rfl _ e
 | osl g =>
   rcases h.osl_inv with ⟨_, _, _, _, _, _, _, rfl⟩ | ⟨_, rfl⟩
   ·exact one h rfl rfl _ e
   ·exact one h rfl rfl _ e
 | bptr g o => obtain ⟨_, _, rfl⟩ := h.bptr_inv; exact one h rfl rfl _ e
 | eptr g i o => obtain ⟨_, _, _, _, _, _, _, rfl⟩ := h.eptr_inv; exact one h rfl rfl _ e
 | msl g =>
   rcases h.msl_inv with ⟨_, _, _, _, _, _, rfl⟩ | ⟨_, rfl⟩
   ·exact one h rfl rfl _ e
   ·exact one h rfl rfl _ e
 | mptr g i => obtain ⟨_, _, _, _, _, _, rfl⟩ := h.mptr_inv; exact one h rfl rfl _ e
 | rsl g i =>
   rcases h.rsl_inv with ⟨_, _, _, _, _, _, ⟨_, _, _, _, _, _, _, rfl⟩ | ⟨_, rfl⟩⟩
   ·exact one h rfl rfl _ e
   ·exact one h rfl rfl _ e
 | rptr g i j o => obtain ⟨_, _, _, _, _, _, _, _, _, _, _, _, _, rfl⟩ := h.rptr_inv; exact one h rfl rfl _ e
theorem G.mv {d : Nat} {x : AX} {v : GV} (hx : lkGX L x = some v) (k : WpOpsG A l ((d, v) :: L) HG Q) : WpOpsG A (⟨some d, .mv x, none⟩ :: l) L HG Q :=
 WpOpsG.pure (d := some d) (fun Z om fr H _ hf => let ⟨a, h1, h2⟩ := hf.x hx; ⟨a, by simp only [evOp, h1], h2⟩) k
theorem G.pick {d : Nat} {c a b : AX} {q : Bool} {v w : GV} (hc : lkGX L c = some (.v (.bool q))) (ha : lkGX L a = some v) (hb : lkGX L b = some w) (k : WpOpsG A l ((d, if q then v else w) :: L) HG Q) : WpOpsG A (⟨some d, .pick c a b, none⟩ :: l) L HG Q :=
 WpOpsG.pure (d := some d) (v := if q then v else w) (fun Z om fr H _ hf => by
  obtain ⟨u, h1, h2⟩ := hf.x hc
  obtain rfl := h2.v_inv
  obtain ⟨x, a1, a2⟩ := hf.x ha
  obtain ⟨y, b1, b2⟩ := hf.x hb
  cases q
  ·exact ⟨y, by simp only [evOp, h1, b1], b2⟩
  ·exact ⟨x, by simp only [evOp, h1, a1], a2⟩) k
theorem G.bin {d : Nat} {o : BinOp} {x y : AX} {a b r : Value} (hx : lkGX L x = some (.v a)) (hy : lkGX L y = some (.v b)) (hr : binV o a b = some r) (k : WpOpsG A l ((d, .v r) :: L) HG Q) : WpOpsG A (⟨some d, .bin o x y, none⟩ :: l) L HG Q :=
 WpOpsG.pure (d := some d) (fun Z om fr H _ hf => by
  obtain ⟨u, h1, h2⟩ := hf.x hx
  obtain rfl := h2.v_inv
  obtain ⟨w, k1, k2⟩ := hf.x hy
  obtain rfl := k2.v_inv
  exact ⟨.v r, by simp only [evOp, h1, k1, hr], .pure (.v _)⟩) k
theorem G.un {d : Nat} {o : UnOp} {x : AX} {a r : Value} (hx : lkGX L x = some (.v a)) (hr : unV o a = some r) (k : WpOpsG A l ((d, .v r) :: L) HG Q) : WpOpsG A (⟨some d, .un o x, none⟩ :: l) L HG Q :=
 WpOpsG.pure (d := some d) (fun Z om fr H _ hf => by
  obtain ⟨u, h1, h2⟩ := hf.x hx
  obtain rfl := h2.v_inv
  exact ⟨.v r, by simp only [evOp, h1, hr], .pure (.v _)⟩) k
theorem G.convi {d : Nat} {k k' : IntKind} {x : AX} {n : Int} (hx : lkGX L x = some (.v (.int k' n))) (h : WpOpsG A l ((d, .v (.int k (k.wrap n))) :: L) HG Q) : WpOpsG A (⟨some d, .convi k x, none⟩ :: l) L HG Q :=
 WpOpsG.pure (d := some d) (fun Z om fr H _ hf => by
  obtain ⟨u, h1, h2⟩ := hf.x hx
  obtain rfl := h2.v_inv
  exact ⟨_, by simp only [evOp, h1], .pure (.v _)⟩) h
theorem G.convss {d : Nat} {x : AX} {s : ByteArray} (hx : lkGX L x = some (.v (.string s))) (h : WpOpsG A l ((d, .v (.string s)) :: L) HG Q) : WpOpsG A (⟨some d, .convss x, none⟩ :: l) L HG Q :=
 WpOpsG.pure (d := some d) (fun Z om fr H _ hf => by
  obtain ⟨u, h1, h2⟩ := hf.x hx
  obtain rfl := h2.v_inv
  exact ⟨_, by simp only [evOp, h1], .pure (.v _)⟩) h
theorem G.mn {d : Nat} {x y : AX} {k k' : IntKind} {a b : Int} (hx : lkGX L x = some (.v (.int k a))) (hy : lkGX L y = some (.v (.int k' b))) (h : WpOpsG A l ((d, .v (.int k (min a b))) :: L) HG Q) : WpOpsG A (⟨some d, .mn x y, none⟩ :: l) L HG Q :=
 WpOpsG.pure (d := some d) (fun Z om fr H _ hf => by
  obtain ⟨u, h1, h2⟩ := hf.x hx
  obtain rfl := h2.v_inv
  obtain ⟨w, k1, k2⟩ := hf.x hy
  obtain rfl := k2.v_inv
  have : (if b < a then b else a) = min a b := by split <;> omega
  exact ⟨.v (.int k (min a b)), by simp only [evOp, h1, k1, this], .pure (.v _)⟩) h
theorem G.mx {d : Nat} {x y : AX} {k k' : IntKind} {a b : Int} (hx : lkGX L x = some (.v (.int k a))) (hy : lkGX L y = some (.v (.int k' b))) (h : WpOpsG A l ((d, .v (.int k (max a b))) :: L) HG Q) : WpOpsG A (⟨some d, .mx x y, none⟩ :: l) L HG Q :=
 WpOpsG.pure (d := some d) (fun Z om fr H _ hf => by
  obtain ⟨u, h1, h2⟩ := hf.x hx
  obtain rfl := h2.v_inv
  obtain ⟨w, k1, k2⟩ := hf.x hy
  obtain rfl := k2.v_inv
  have : (if b > a then b else a) = max a b := by split <;> omega
  exact ⟨.v (.int k (max a b)), by simp only [evOp, h1, k1, this], .pure (.v _)⟩) h
theorem G.ext {d i : Nat} {x : AX} {vs : List GV} {v : GV} (hx : lkGX L x = some (.tup vs)) (hv : vs[i]? = some v) (k : WpOpsG A l ((d, v) :: L) HG Q) : WpOpsG A (⟨some d, .ext x i, none⟩ :: l) L HG Q :=
 WpOpsG.pure (d := some d) (fun Z om fr H _ hf => by
  obtain ⟨u, h1, h2⟩ := hf.x hx
  obtain ⟨as, rfl, k1, k2⟩ := h2.tup_inv
  have hi : i < as.length := by rw [← k1]; exact (List.getElem?_eq_some_iff.1 hv).1
  exact ⟨as[i], by simp only [evOp, h1, List.getElem?_eq_getElem hi], k2 i v _ hv (by simp [hi])⟩) k
theorem G.field1 {d off : Nat} {x : AX} {cs : List GV} {v : GV} (hx : lkGX L x = some (.agg cs)) (hv : cs[off]? = some v) (k : WpOpsG A l ((d, v) :: L) HG Q) : WpOpsG A (⟨some d, .field1 off x, none⟩ :: l) L HG Q :=
 WpOpsG.pure (d := some d) (fun Z om fr H _ hf => by
  obtain ⟨u, h1, h2⟩ := hf.x hx
  obtain ⟨as, rfl, k1, k2⟩ := h2.agg_inv
  have hi : off < as.length := by rw [← k1]; exact (List.getElem?_eq_some_iff.1 hv).1
  exact ⟨as[off], by simp only [evOp, h1, List.getElem?_eq_getElem hi], k2 off v _ hv (by simp [hi])⟩) k
def takeG : Nat → List GV → Option (List GV)
 | 0, _ => some []
 | n + 1, v :: vs => match takeG n vs with | some r => some (v :: r) | none => none
 | _ + 1, [] => none
theorem takeG_ok {P : GV → AV → Prop} : ∀ {n : Nat} {cs vs : List GV} {as : List AV}, takeG n cs = some vs → cs.length ≤ as.length → (∀ (i : Nat) (c : GV) (a : AV), cs[i]? = some c → as[i]? = some a → P c a) →
 ∃ ws, takeN n as = some ws ∧ vs.length = ws.length ∧ ∀ (i : Nat) (c : GV) (a : AV), vs[i]? = some c → ws[i]? = some a → P c a
 | 0, cs, vs, as, h, _, _ => by cases h; exact ⟨[], by simp [takeN], rfl, fun i c a e => by cases i <;> cases e⟩
 | n + 1, [], vs, as, h, _, _ => by cases h
 | n + 1, c :: cs, vs, [], h, hl, _ => by simp at hl
 | n + 1, c :: cs, vs, a :: as, h, hl, hp => by
   rw [takeG] at h
   cases hr : takeG n cs with
   | none => rw [hr] at h; cases h
   | some r =>
     rw [hr] at h
     cases h
     obtain ⟨ws, h1, h2, h3⟩ := takeG_ok (as := as) hr (by simpa using hl) (fun i c a e f => hp (i + 1) c a (by simpa using e) (by simpa using f))
     refine ⟨a :: ws, by simp [takeN, h1], by simp [h2], fun i c' a' e f => ?_⟩
     cases i with
     | zero => simp at e f; subst e; subst f; exact hp 0 _ _ rfl rfl
     | succ i => exact h3 i c' a' (by simpa using e) (by simpa using f)
theorem G.fieldN {d off n : Nat} {x : AX} {cs vs : List GV} (hx : lkGX L x = some (.agg cs)) (hv : takeG n (cs.drop off) = some vs) (k : WpOpsG A l ((d, .agg vs) :: L) HG Q) : WpOpsG A (⟨some d, .fieldN off n x, none⟩ :: l) L HG Q :=
 WpOpsG.pure (d := some d) (fun Z om fr H _ hf => by
  obtain ⟨u, h1, h2⟩ := hf.x hx
  obtain ⟨as, rfl, k1, k2⟩ := h2.agg_inv
  obtain ⟨ws, g1, g2, g3⟩ := takeG_ok (as := as.drop off) (P := VR Z om) hv (by simp [k1]) (fun i c a e f => k2 (off + i) c a (by simpa using e) (by simpa using f))
  exact ⟨.agg ws, by simp only [evOp, h1, g1], .agg g2 g3⟩) k
def putG : List GV → Nat → List GV → Option (List GV)
 | cs, 0, [] => some cs
 | _ :: cs, 0, v :: vs => match putG cs 0 vs with | some r => some (v :: r) | none => none
 | c :: cs, o + 1, vs => match putG cs o vs with | some r => some (c :: r) | none => none
 | [], 0, _ :: _ => none
 | [], _ + 1, _ => none
theorem putG_ok {P : GV → AV → Prop} : ∀ {cs : List GV} {o : Nat} {vs r : List GV} {as ws : List AV}, putG cs o vs = some r → cs.length = as.length → vs.length = ws.length →
 (∀ (i : Nat) (c : GV) (a : AV), cs[i]? = some c → as[i]? = some a → P c a) → (∀ (i : Nat) (c : GV) (a : AV), vs[i]? = some c → ws[i]? = some a → P c a) →
 ∃ bs, putAt as o ws = some bs ∧ r.length = bs.length ∧ ∀ (i : Nat) (c : GV) (a : AV), r[i]? = some c → bs[i]? = some a → P c a
 | cs, 0, [], r, as, [], h, hl, _, hp, _ => by
   have : r = cs := by cases cs <;> simpa [putG] using h.symm
   subst this
   exact ⟨as, by cases as <;> rfl, hl, hp⟩
 | _, _, [], _, _, _ :: _, _, _, hl, _, _ => by simp at hl
 | _, _, _ :: _, _, _, [], _, _, hl, _, _ => by simp at hl
 | [], 0, _ :: _, _, _, _, h, _, _, _, _ => by simp [putG] at h
 | [], _ + 1, _, _, _, _, h, _, _, _, _ => by simp [putG] at h
 | _ :: _, _, _, _, [], _, _, hl, _, _, _ => by simp at hl
 | c :: cs, 0, v :: vs, r, a :: as, w :: ws, h, hl, hm, hp, hq => by
   rw [putG] at h
   cases hr : putG cs 0 vs with
   | none => rw [hr] at h; cases h
   | some r' =>
     rw [hr] at h
     cases h
     obtain ⟨bs, h1, h2, h3⟩ := putG_ok (as := as) (ws := ws) hr (by simpa using hl) (by simpa using hm) (fun i c a e f => hp (i + 1) c a (by simpa using e) (by simpa using f)) (fun i c a e f => hq (i + 1) c a (by simpa using e) (by simpa using f))
     refine ⟨w :: bs, by simp [putAt, h1], by simp [h2], fun i c' a' e f => ?_⟩
     cases i with
     | zero => simp at e f; subst e; subst f; exact hq 0 _ _ rfl rfl
     | succ i => exact h3 i c' a' (by simpa using e) (by simpa using f)
 | c :: cs, o + 1, vs, r, a :: as, ws, h, hl, hm, hp, hq => by
   rw [putG] at h
   cases hr : putG cs o vs with
   | none => rw [hr] at h; cases h
   | some r' =>
     rw [hr] at h
     cases h
     obtain ⟨bs, h1, h2, h3⟩ := putG_ok (as := as) (ws := ws) hr (by simpa using hl) hm (fun i c a e f => hp (i + 1) c a (by simpa using e) (by simpa using f)) hq
     refine ⟨a :: bs, by simp [putAt, h1], by simp [h2], fun i c' a' e f => ?_⟩
     cases i with
     | zero => simp at e f; subst e; subst f; exact hp 0 _ _ rfl rfl
     | succ i => exact h3 i c' a' (by simpa using e) (by simpa using f)
def fillG (L : GFr) (cs : List GV) : List (Nat × Nat × AX) → Option (List GV)
 | [] => some cs
 | (o, s, x) :: r => match lkGX L x with
   | some v => match v.cs with
     | some vs => match Nat.beq vs.length s with
       | true => match putG cs o vs with
         | some cs => fillG L cs r
         | none => none
       | false => none
     | none => none
   | none => none
theorem fillG_ok {Z : ZM} {om : Om} {fr : T AV} (hf : FR Z om L fr) : ∀ {ps : List (Nat × Nat × AX)} {cs r : List GV} {as : List AV}, fillG L cs ps = some r → cs.length = as.length →
 (∀ (i : Nat) (c : GV) (a : AV), cs[i]? = some c → as[i]? = some a → VR Z om c a) → ∃ bs, fillA fr as ps = some bs ∧ r.length = bs.length ∧ ∀ (i : Nat) (c : GV) (a : AV), r[i]? = some c → bs[i]? = some a → VR Z om c a
 | [], cs, r, as, h, hl, hp => by cases h; exact ⟨as, rfl, hl, hp⟩
 | (o, s, x) :: ps, cs, r, as, h, hl, hp => by
   rw [fillG] at h
   cases hx : lkGX L x with
   | none => simp only [hx] at h; cases h
   | some v =>
     simp only [hx] at h
     cases hv : v.cs with
     | none => simp only [hv] at h; cases h
     | some vs =>
       simp only [hv] at h
       cases hb : Nat.beq vs.length s with
       | false => simp only [hb] at h; cases h
       | true =>
         simp only [hb] at h
         cases hq : putG cs o vs with
         | none => simp only [hq] at h; cases h
         | some cs' =>
           simp only [hq] at h
           obtain ⟨a, a1, a2⟩ := hf.x hx
           obtain ⟨ws, b1, b2, b3⟩ := a2.cs hv
           obtain ⟨bs, c1, c2, c3⟩ := putG_ok hq hl b2 hp b3
           obtain ⟨ds, d1, d2, d3⟩ := fillG_ok hf h c2 c3
           refine ⟨ds, ?_, d2, d3⟩
           have hs : ws.length = s := by rw [← b2]; exact Nat.eq_of_beq_eq_true hb
           simp only [fillA, a1, b1, hs, if_true, c1, d1]
theorem G.build {d : Nat} {z : List AV} {ps : List (Nat × Nat × AX)} {cs : List GV} (e : fillG L (cvt.cvts z) ps = some cs) (k : WpOpsG A l ((d, .agg cs) :: L) HG Q) : WpOpsG A (⟨some d, .build z ps, none⟩ :: l) L HG Q :=
 WpOpsG.pure (d := some d) (fun Z om fr H _ hf => by
  obtain ⟨bs, h1, h2, h3⟩ := fillG_ok hf e (cvts_ok (Z := Z) (om := om) z).1 (cvts_ok z).2
  exact ⟨.agg bs, by simp only [evOp, h1], .agg h2 h3⟩) k
def cellsEqG : List SK → List GV → List GV → Option Bool
 | [], [], [] => some true
 | k :: ks, (.v a) :: r, (.v b) :: s => match scalarEq k a b with
   | some p => match cellsEqG ks r s with
     | some q => some (p && q)
     | none => none
   | none => none
 | _, _, _ => none
theorem cellsEqG_ok {Z : ZM} {om : Om} : ∀ {ks : List SK} {xs ys : List GV} {as bs : List AV} {r : Bool}, cellsEqG ks xs ys = some r → xs.length = as.length → ys.length = bs.length →
 (∀ (i : Nat) (c : GV) (a : AV), xs[i]? = some c → as[i]? = some a → VR Z om c a) → (∀ (i : Nat) (c : GV) (a : AV), ys[i]? = some c → bs[i]? = some a → VR Z om c a) → cellsEq ks as bs = some r
 | [], [], [], as, bs, r, h, h1, h2, _, _ => by
   cases h
   cases as <;> cases bs <;> simp at h1 h2
   rfl
 | k :: ks, x :: xs, y :: ys, [], _, _, _, h1, _, _, _ => by simp at h1
 | k :: ks, x :: xs, y :: ys, _, [], _, _, _, h2, _, _ => by simp at h2
 | k :: ks, x :: xs, y :: ys, a :: as, b :: bs, r, h, h1, h2, p, q => by
   cases x <;> cases y <;> try (simp [cellsEqG] at h; done)
   rename_i u w
   have ha := (p 0 _ a rfl rfl).v_inv
   have hb := (q 0 _ b rfl rfl).v_inv
   subst ha; subst hb
   rw [cellsEqG] at h
   rw [cellsEq]
   cases hs : scalarEq k u w with
   | none => rw [hs] at h; cases h
   | some t =>
     rw [hs] at h
     simp only [] at h ⊢
     cases hr : cellsEqG ks xs ys with
     | none => rw [hr] at h; cases h
     | some t' =>
       rw [hr] at h
       cases h
       have ih := cellsEqG_ok (as := as) (bs := bs) hr (by simpa using h1) (by simpa using h2) (fun i c a e f => p (i + 1) c a (by simpa using e) (by simpa using f)) (fun i c a e f => q (i + 1) c a (by simpa using e) (by simpa using f))
       cases t
       ·rfl
       ·simpa using ih
 | [], _ :: _, _, _, _, _, h, _, _, _, _ => by simp [cellsEqG] at h
 | [], [], _ :: _, _, _, _, h, _, _, _, _ => by simp [cellsEqG] at h
 | _ :: _, [], _, _, _, _, h, _, _, _, _ => by simp [cellsEqG] at h
 | _ :: _, _ :: _, [], _, _, _, h, _, _, _, _ => by simp [cellsEqG] at h
def gEq (agg : Bool) (ks : List SK) (x y : GV) : Option Bool :=
 match agg, x, y with
 | false, .v a, .v b => scalarEq .b a b
 | true, .agg a, .agg b => cellsEqG ks a b
 | _, _, _ => none
theorem G.beq {d : Nat} {neq agg : Bool} {ks : List SK} {x y : AX} {a b : GV} {r : Bool} (hx : lkGX L x = some a) (hy : lkGX L y = some b) (hr : gEq agg ks a b = some r) (k : WpOpsG A l ((d, .v (.bool (xor neq r))) :: L) HG Q) : WpOpsG A (⟨some d, .beq neq agg ks x y, none⟩ :: l) L HG Q :=
 WpOpsG.pure (d := some d) (fun Z om fr H _ hf => by
  obtain ⟨u, h1, h2⟩ := hf.x hx
  obtain ⟨w, k1, k2⟩ := hf.x hy
  have : avEq agg ks u w = some r := by
   cases agg with
   | false =>
     cases a <;> cases b <;> try (simp [gEq] at hr; done)
     obtain rfl := h2.v_inv
     obtain rfl := k2.v_inv
     exact hr
   | true =>
     cases a <;> cases b <;> try (simp [gEq] at hr; done)
     obtain ⟨as, rfl, a1, a2⟩ := h2.agg_inv
     obtain ⟨bs, rfl, b1, b2⟩ := k2.agg_inv
     exact cellsEqG_ok hr a1 b1 a2 b2
  exact ⟨_, by simp only [evOp, h1, k1, this], .pure (.v _)⟩) k
theorem G.sidx {d : Nat} {x i : AX} {s : ByteArray} {k' : IntKind} {n : Int} {b : UInt8} (hx : lkGX L x = some (.v (.string s))) (hi : lkGX L i = some (.v (.int k' n))) (h0 : 0 ≤ n) (hb : s.data.toList[n.toNat]? = some b) (k : WpOpsG A l ((d, .v (.int .u8 b.toNat)) :: L) HG Q) : WpOpsG A (⟨some d, .sidx x i, none⟩ :: l) L HG Q :=
 WpOpsG.pure (d := some d) (fun Z om fr H _ hf => by
  obtain ⟨u, h1, h2⟩ := hf.x hx
  obtain rfl := h2.v_inv
  obtain ⟨w, k1, k2⟩ := hf.x hi
  obtain rfl := k2.v_inv
  exact ⟨_, by simp only [evOp, h1, k1, if_pos h0, hb], .pure (.v _)⟩) k
def bndG (L : GFr) (d hi : Nat) : Option AX → Option Nat
 | none => some d
 | some x => match lkGX L x with
   | some (.v (.int _ n)) => natOf n hi
   | _ => none
theorem bndG_ok {Z : ZM} {om : Om} {fr : T AV} (hf : FR Z om L fr) {d hi n : Nat} : ∀ {x : Option AX}, bndG L d hi x = some n → boundX fr d hi x = some n
 | none, h => h
 | some x, h => by
   rw [bndG] at h
   cases hx : lkGX L x with
   | none => rw [hx] at h; cases h
   | some v =>
     rw [hx] at h
     cases v <;> try (cases h; done)
     rename_i y
     obtain ⟨a, h1, h2⟩ := hf.x hx
     obtain rfl := h2.v_inv
     cases y <;> try (cases h; done)
     rw [boundX, h1]; exact h
theorem G.sstr {d lo hi : Nat} {x : AX} {xl xh : Option AX} {s : ByteArray} (hx : lkGX L x = some (.v (.string s))) (hh : bndG L s.size s.size xh = some hi) (hl : bndG L 0 hi xl = some lo) (k : WpOpsG A l ((d, .v (.string (s.extract lo hi))) :: L) HG Q) : WpOpsG A (⟨some d, .sstr x xl xh, none⟩ :: l) L HG Q :=
 WpOpsG.pure (d := some d) (fun Z om fr H _ hf => by
  obtain ⟨u, h1, h2⟩ := hf.x hx
  obtain rfl := h2.v_inv
  exact ⟨_, by simp only [evOp, h1, bndG_ok hf hh, bndG_ok hf hl], .pure (.v _)⟩) k
theorem takeN_of {cells : List AV} {off : Nat} : ∀ {n : Nat} {ws : List AV}, ws.length = n → (∀ i (h : i < n), cells[off + i]? = ws[i]?) → takeN n (cells.drop off) = some ws
 | 0, ws, hl, _ => by
   obtain rfl := List.length_eq_zero_iff.1 hl
   simp [takeN]
 | n + 1, [], hl, _ => by simp at hl
 | n + 1, w :: ws, hl, h => by
   have h0 : cells[off]? = some w := by simpa using h 0 (by omega)
   have hd : cells.drop off = w :: cells.drop (off + 1) := by
    obtain ⟨h1, h2⟩ := List.getElem?_eq_some_iff.1 h0
    rw [List.drop_eq_getElem_cons h1, h2]
   rw [hd, takeN, takeN_of (n := n) (ws := ws) (by simpa using hl) (fun i hi => by have := h (i + 1) (by omega); rw [List.getElem?_cons_succ] at this; rw [← this]; congr 1; omega)]
   rfl
theorem takeG_len : ∀ {n : Nat} {l r : List GV}, takeG n l = some r → r.length = n ∧ ∀ i (_ : i < n), l[i]? = r[i]?
 | 0, _, _, h => by cases h; exact ⟨rfl, fun i h => by omega⟩
 | n + 1, [], _, h => by cases h
 | n + 1, x :: l, r, h => by
   rw [takeG] at h
   cases hr : takeG n l with
   | none => rw [hr] at h; cases h
   | some r' =>
     rw [hr] at h
     cases h
     obtain ⟨h1, h2⟩ := takeG_len hr
     refine ⟨by simp [h1], fun i hi => ?_⟩
     cases i with
     | zero => rfl
     | succ i => simpa using h2 i (by omega)
theorem G.mkfn {d f : Nat} {xs : List AX} {vs : List GV} (hx : lkGXs L xs = some vs) (k : WpOpsG A l ((d, .fn f vs) :: L) HG Q) : WpOpsG A (⟨some d, .mkfn f xs, none⟩ :: l) L HG Q :=
 WpOpsG.pure (d := some d) (fun Z om fr H hr hf => by
  obtain ⟨as, h1, h2⟩ := hf.xs hx
  exact ⟨.fn f as, by simp only [evOp, h1], .fn h2.length h2.at⟩) k
end
end Go.AM
set_option linter.all false
namespace Go.AM
/-! ## What one makes and writes -/
def Om.set (om : Om) (g : Nat) (l : OL) : Om := fun h => if h = g then some l else om h
theorem Om.set_self (om : Om) (g : Nat) (l : OL) : om.set g l g = some l := if_pos rfl
theorem Om.set_ne {om : Om} {g h : Nat} {l : OL} (n : h ≠ g) : om.set g l h = om h := if_neg n
theorem BR.keep {Z Z' : ZM} {om om' : Om} {H H' : Heap} {g : Nat} {blk : GBlk} (h : BR Z om H g blk) (ho : om' g = om g) (hb : ∀ b, idOf om g b → H'.blks.get b = H.blks.get b) (hv : ∀ v a, VR Z om v a → VR Z' om' v a) (hz : ZLe Z Z') : BR Z' om' H' g blk := by
 have hid : ∀ l b, om g = some l → l.has b → H'.blks.get b = H.blks.get b := fun l b e e' => hb b (idOf_eq e e')
 cases h with
 | box h1 h2 h3 h4 h5 => exact .box (by rw [ho]; exact h1) (by rw [hid _ _ h1 rfl]; exact h2) h3 h4 fun i c a e f => hv _ _ (h5 i c a e f)
 | nil h1 hq => exact .nil (by rw [ho]; exact h1) hq
 | arr h1 h2 h3 h4 h5 h6 h7 h8 => exact .arr (by rw [ho]; exact h1) (by rw [hid _ _ h1 rfl]; exact h2) h3 h4 h5 h6 h7 (h8.mono hz)
 | mnil h1 => exact .mnil (by rw [ho]; exact h1)
 | mat h1 h2 h3 h4 h5 h6 h7 h8 h9 h10 h11 => exact .mat (by rw [ho]; exact h1) (by rw [hid _ _ h1 (.inl rfl)]; exact h2) h3 h4 h5 h6 h7 h8 (fun i r p e1 e2 => (h9 i r p e1 e2).keep hz fun b hb => hid _ _ h1 (.inr ⟨i, p, e2, hb⟩)) h10 h11
theorem isSome_cons {β : Type} {g h : Nat} {x : β} {r : List (Nat × β)} (e : (lkP ((g, x) :: r) h).isSome = true) : h = g ∨ (lkP r h).isSome = true := by
 rw [lkP_cons] at e
 split at e
 ·rename_i hg; exact .inl hg.symm
 ·exact .inr e
theorem idOf_set {om : Om} {g b : Nat} {l : OL} : idOf (om.set g l) g b = l.has b := propext ⟨fun i => idOf_of i (Om.set_self ..), fun h => ⟨l, Om.set_self .., h⟩⟩
theorem idOf_set_ne {om : Om} {g h : Nat} {l : OL} (n : h ≠ g) : idOf (om.set g l) h = idOf om h := by unfold idOf; rw [Om.set_ne n]
section
variable {Z : ZM} {om : Om} {HG : GHp} {H : Heap}
theorem GRel.old (h : GRel Z om HG H) {g b : Nat} (e : (lkP HG g).isSome = true) (i : idOf om g b) : b < H.next := (h.zsep g b e i).2
theorem Om.le_set (om : Om) (g : Nat) (l : OL) (e : om g = none) : ∀ h x, om h = some x → om.set g l h = some x := fun h x k => by
 unfold Om.set
 split
 ·rename_i c; subst c; rw [e] at k; cases k
 ·exact k
theorem GRel.alloc (h : GRel Z om HG H) {g : Nat} (e : lkP HG g = none) {es : Nat} {cs : List AV} {l : OL} {nb : GBlk} (hl : ∀ b, l.has b → b = H.next)
 (hn : BR Z (om.set g l) (H.alloc es cs) g nb) : GRel Z (om.set g l) ((g, nb) :: HG) (H.alloc es cs) ∧ Ext Z om HG H Z (om.set g l) ((g, nb) :: HG) (H.alloc es cs) := by
 have hg : ∀ h', (lkP HG h').isSome = true → h' ≠ g := fun h' i c => by subst c; rw [e] at i; cases i
 have hne : ∀ b, b < H.next → (H.alloc es cs).blks.get b = H.blks.get b := fun b hb => Heap.alloc_ne (by omega)
 have hnew : (H.alloc es cs).blks.get H.next = some ⟨cs, true, none, es⟩ := Heap.alloc_self rfl
 have hnx : (H.alloc es cs).next = H.next + 1 := rfl
 refine ⟨⟨fun g' e' => ?_, fun b zb hz => ?_, fun g' blk e' => ?_, fun g1 g2 b n e1 e2 i1 i2 => ?_, fun g' b e' i => ?_, fun g' b blk m e' i hb hm => ?_⟩, ⟨by omega, .refl _, fun b hb _ => ⟨hne b hb, rfl⟩, fun b hb hf => ?_, fun h' b _ k => Om.le_set _ _ _ (h.dom g e) _ _ k, fun b hb ho => ?_, fun _ _ h k => absurd h k⟩⟩
 ·rw [lkP_cons] at e'
  split at e'
  ·cases e'
  ·rename_i c; rw [Om.set_ne (fun x => c x.symm)]; exact h.dom g' e'
 ·obtain ⟨a1, blk, a2, a3⟩ := h.zok b zb hz
  exact ⟨by omega, blk, by rw [hne b a1]; exact a2, a3⟩
 ·rw [lkP_cons] at e'
  split at e'
  ·rename_i c; cases e'; subst c; exact hn
  ·rename_i c
   refine (h.own g' blk e').keep (Om.set_ne (fun x => c x.symm)) (fun b hb => hne b (h.old (by rw [e']; rfl) hb)) (fun v a hv => hv.mono (.refl _) (Om.le_set _ _ _ (h.dom g e))) (.refl _)
 ·rcases isSome_cons e1 with rfl | f1
  ·rcases isSome_cons e2 with rfl | f2
   ·exact n rfl
   ·rw [idOf_set] at i1
    rw [idOf_set_ne (fun c => n c.symm)] at i2
    have := hl _ i1; have := h.old f2 i2; omega
  ·have e1 := f1
   rw [idOf_set_ne (hg _ e1)] at i1
   rcases isSome_cons e2 with rfl | e2
   ·rw [idOf_set] at i2
    have := hl _ i2; have := h.old f1 i1; omega
   ·rw [idOf_set_ne (hg _ e2)] at i2
    exact h.sep g1 g2 b n e1 e2 i1 i2
 ·rcases isSome_cons e' with rfl | e'
  ·rw [idOf_set] at i
   obtain rfl := hl _ i
   refine ⟨?_, by omega⟩
   cases hz : Z H.next with
   | none => rfl
   | some zb => have := (h.zok _ _ hz).1; omega
  ·rw [idOf_set_ne (hg _ e')] at i
   have := h.zsep g' b e' i
   exact ⟨this.1, by omega⟩
 ·rcases isSome_cons e' with rfl | e'
  ·rw [idOf_set] at i
   obtain rfl := hl _ i
   rw [hnew] at hb; cases hb; cases hm
  ·rw [idOf_set_ne (hg _ e')] at i
   rw [hne b (h.old e' i)] at hb
   obtain ⟨a1, a2, a3⟩ := h.mate g' b blk m e' i hb hm
   refine ⟨by omega, a2, fun g2 e2 i2 => ?_⟩
   rcases isSome_cons e2 with rfl | e2
   ·rw [idOf_set] at i2
    have := hl _ i2; omega
   ·rw [idOf_set_ne (hg _ e2)] at i2
    exact a3 g2 e2 i2
 ·obtain ⟨g', e', hf⟩ := hf
  rcases isSome_cons e' with rfl | e'
  ·rw [idOf_set] at hf
   rcases hf with hf | ⟨b', blk, hf, hf2, hf3⟩
   ·have := hl _ hf; omega
   ·rw [idOf_set] at hf
    obtain rfl := hl _ hf; rw [hnew] at hf2; cases hf2; cases hf3
  ·rw [idOf_set_ne (hg _ e')] at hf
   refine ⟨g', e', ?_⟩
   rcases hf with hf | ⟨b', blk, hf, hf2, hf3⟩
   ·exact .inl hf
   ·exact .inr ⟨b', blk, hf, by rw [← hne b' (h.old e' hf)]; exact hf2, hf3⟩
 ·obtain ⟨g', e', hf⟩ := ho
  rcases isSome_cons e' with rfl | e'
  ·rw [idOf_set] at hf
   have := hl _ hf; omega
  ·rw [idOf_set_ne (hg _ e')] at hf
   exact ⟨g', e', hf⟩
theorem GRel.upd (h : GRel Z om HG H) {g b : Nat} (e : (lkP HG g).isSome = true) (i : idOf om g b) {blk : Blk} (hb : H.blks.get b = some blk) {cs : List AV} {nb : GBlk}
 (hn : BR Z om (H.upd b blk cs) g nb) : GRel Z om ((g, nb) :: HG) (H.upd b blk cs) ∧ Ext Z om HG H Z om ((g, nb) :: HG) (H.upd b blk cs) := by
 have hnx : (H.upd b blk cs).next = H.next := Heap.upd_next ..
 have hself : (H.upd b blk cs).blks.get b = some ⟨cs, true, none, blk.es⟩ := Heap.upd_self rfl
 have hne : ∀ c, c ≠ b → blk.mate ≠ some c → (H.upd b blk cs).blks.get c = H.blks.get c := fun c h1 h2 => Heap.upd_ne h1 h2
 have hm := fun m (hm : blk.mate = some m) => h.mate g b blk m e i hb hm
 have hother1 : ∀ g' b', b' ≠ b → (lkP HG g').isSome = true → idOf om g' b' → (H.upd b blk cs).blks.get b' = H.blks.get b' := fun g' b' n e' i' =>
  hne b' n (fun c => (hm b' c).2.2 g' e' i')
 have hother : ∀ g' b', g' ≠ g → (lkP HG g').isSome = true → idOf om g' b' → (H.upd b blk cs).blks.get b' = H.blks.get b' := fun g' b' n e' i' =>
  hother1 g' b' (fun c => by subst c; exact h.sep g' g _ n e' e i' i) e' i'
 refine ⟨⟨fun g' e' => ?_, fun z zb hz => ?_, fun g' blk' e' => ?_, fun g1 g2 b' n e1 e2 i1 i2 => ?_, fun g' b' e' i' => ?_, fun g' b' blk' m e' i' hb' hm' => ?_⟩, ⟨by omega, .refl _, fun b' hb' hf => ?_, fun b' hb' hf => ?_, fun _ _ _ k => k, fun b' _ ho => ?_, fun _ _ h k => absurd h k⟩⟩
 ·rw [lkP_cons] at e'
  split at e'
  ·cases e'
  ·exact h.dom g' e'
 ·obtain ⟨a1, blk', a2, a3⟩ := h.zok z zb hz
  refine ⟨by omega, blk', ?_, a3⟩
  rw [hne z (fun c => ?_) (fun c => ?_)]; exact a2
  ·subst c; rw [(h.zsep g z e i).1] at hz; cases hz
  ·rw [(hm z c).2.1] at hz; cases hz
 ·rw [lkP_cons] at e'
  split at e'
  ·rename_i c; cases e'; subst c; exact hn
  ·rename_i c
   exact (h.own g' blk' e').keep rfl (fun b' hb' => hother g' b' (fun x => c x.symm) (by rw [e']; rfl) hb') (fun v a hv => hv) (.refl _)
 ·have f1 : (lkP HG g1).isSome = true := by rcases isSome_cons e1 with rfl | e1; exact e; exact e1
  have f2 : (lkP HG g2).isSome = true := by rcases isSome_cons e2 with rfl | e2; exact e; exact e2
  exact h.sep g1 g2 b' n f1 f2 i1 i2
 ·have f1 : (lkP HG g').isSome = true := by rcases isSome_cons e' with rfl | e1; exact e; exact e1
  have := h.zsep g' b' f1 i'
  exact ⟨this.1, by omega⟩
 ·have f1 : (lkP HG g').isSome = true := by rcases isSome_cons e' with rfl | e1; exact e; exact e1
  by_cases hg : b' = b
  ·subst hg
   rw [hself] at hb'; cases hb'; cases hm'
  ·rw [hother1 g' b' hg f1 i'] at hb'
   obtain ⟨a1, a2, a3⟩ := h.mate g' b' blk' m f1 i' hb' hm'
   refine ⟨by omega, a2, fun g2 e2 i2 => a3 g2 ?_ i2⟩
   rcases isSome_cons e2 with rfl | e2
   ·exact e
   ·exact e2
 ·refine ⟨hne b' (fun c => ?_) (fun c => ?_), rfl⟩
  ·subst c; exact hf ⟨g, e, .inl i⟩
  ·exact hf ⟨g, e, .inr ⟨b, blk, i, hb, c⟩⟩
 ·obtain ⟨g', e', hf⟩ := hf
  have f1 : (lkP HG g').isSome = true := by rcases isSome_cons e' with rfl | e1; exact e; exact e1
  refine ⟨g', f1, ?_⟩
  rcases hf with hf | ⟨b2, blk2, hf, hf2, hf3⟩
  ·exact .inl hf
  ·by_cases hg : b2 = b
   ·subst hg
    rw [hself] at hf2; cases hf2; cases hf3
   ·rw [hother1 g' b2 hg f1 hf] at hf2
    exact .inr ⟨b2, blk2, hf, hf2, hf3⟩
 ·obtain ⟨g', e', hf⟩ := ho
  exact ⟨g', by rcases isSome_cons e' with rfl | e1; exact e; exact e1, hf⟩
end
section
variable {A : AProg} {L : GFr} {HG : GHp} {l : List AOper} {Q : GFr → GHp → Prop}
theorem G.box {d g : Nat} {x : AX} {v : GV} {cs : List GV} (hx : lkGX L x = some v) (hv : v.cs = some cs) (hg : (lkP HG g).isNone = true) (k : WpOpsG A l ((d, .bptr g 0) :: L) ((g, .box cs) :: HG) Q) : WpOpsG A (⟨some d, .box x, none⟩ :: l) L HG Q :=
 WpOpsG.step (d := some d) (fun Z om fr H hr hf => by
  obtain ⟨u, h1, h2⟩ := hf.x hx
  obtain ⟨as, a1, a2, a3⟩ := h2.cs hv
  have hg' : lkP HG g = none := by simpa using hg
  have hle := Om.le_set om g (.box H.next) (hr.dom g hg')
  obtain ⟨r1, r2⟩ := hr.alloc hg' (es := 0) (cs := as) (l := .box H.next) (nb := .box cs) (fun _ h => h.symm)
   (.box (Om.set_self ..) (Heap.alloc_self rfl) rfl a2 fun i c a e f => (a3 i c a e f).mono (.refl _) hle)
  exact WpOp.eval (by simp only [evOp, h1, a1]) ⟨Z, _, r1, hf.mono (.refl _) hle, .bptr (Om.set_self ..), r2⟩) k
theorem GRel.box {Z : ZM} {om : Om} {H : Heap} (h : GRel Z om HG H) {g : Nat} {cs : List GV} (e : lkP HG g = some (.box cs)) : ∃ b blk, om g = some (.box b) ∧ H.blks.get b = some blk ∧ blk.wr = true ∧ cs.length = blk.cells.length ∧ ∀ (i : Nat) (c : GV) (a : AV), cs[i]? = some c → blk.cells[i]? = some a → VR Z om c a := by
 cases h.own g _ e with
 | box h1 h2 h3 h4 h5 => exact ⟨_, _, h1, h2, h3, h4, h5⟩
/-! slices of one's own -/
theorem GRel.arr {Z : ZM} {om : Om} {H : Heap} (h : GRel Z om HG H) {g w : Nat} {full : Fl} {cs : List (List GV)} (e : lkP HG g = some (.arr full w cs)) :
 (om g = some .nil ∧ cs = []) ∨ ∃ b o cap ex blk, om g = some (.sl b o cs.length cap ex w) ∧ H.blks.get b = some blk ∧ blk.wr = true ∧ blk.es = w ∧ cs.length ≤ cap ∧ SzOk ex blk.cells.length o cap w ∧ FlOk full ex cs.length cap ∧ ArrAt Z blk.cells o w cs := by
 cases h.own g _ e with
 | nil h1 _ => exact .inl ⟨h1, rfl⟩
 | arr h1 h2 h3 h4 h5 h6 h7 h8 => exact .inr ⟨_, _, _, _, _, h1, h2, h3, h4, h5, h6, h7, h8⟩
theorem GRel.nilF {Z : ZM} {om : Om} {H : Heap} (h : GRel Z om HG H) {g w : Nat} {full : Fl} {cs : List (List GV)} (e : lkP HG g = some (.arr full w cs)) (c : om g = some .nil) : FlOk full true 0 0 := by
 cases h.own g _ e with
 | nil h1 hq => exact hq
 | arr h1 => rw [c] at h1; cases h1
theorem ArrAt.take {Z : ZM} {cells : List AV} {o w i off n : Nat} {cs : List (List GV)} {c vs : List GV} (h : ArrAt Z cells o w cs) (hc : cs[i]? = some c) (hv : takeG n (c.drop off) = some vs) :
 ∃ ws, takeN n (cells.drop (o + i * w + off)) = some ws ∧ vs.length = ws.length ∧ ∀ (i : Nat) (c : GV) (a : AV), vs[i]? = some c → ws[i]? = some a → PR Z c a := by
 obtain ⟨g1, g2⟩ := takeG_len hv
 have ht : ∀ j, j < n → ∃ y a, vs[j]? = some y ∧ cells[o + i * w + off + j]? = some a ∧ PR Z y a := fun j hj => by
  have hy : vs[j]? = some (vs[j]'(by omega)) := by simp [g1, hj]
  have := g2 j hj
  rw [List.getElem?_drop, hy] at this
  obtain ⟨a, ha, hp⟩ := (h i c hc).2 _ _ this
  exact ⟨_, a, hy, by rw [← ha]; congr 1; omega, hp⟩
 refine ⟨(List.range n).map fun j => (cells[o + i * w + off + j]?).getD (.tup []), takeN_of (by simp) (fun j hj => ?_), by simp [g1], fun j y a hy ha => ?_⟩
 ·obtain ⟨_, a, _, h2, _⟩ := ht j hj
  simp [hj, h2]
 ·have hj : j < n := by rw [← g1]; exact (List.getElem?_eq_some_iff.1 hy).1
  obtain ⟨y', a', h1, h2, h3⟩ := ht j hj
  rw [hy] at h1; cases h1
  simp [hj, h2] at ha
  subst ha
  exact h3
mutual
/-- holds nothing of one's own -/
def GV.pl : GV → Bool
 | .agg cs => GV.plL cs
 | .tup cs => GV.plL cs
 | .fn _ cs => GV.plL cs
 | .ifc _ x => GV.pl x
 | .v _ => true
 | .fsl _ _ => true
 | .fptr _ _ => true
 | .any => true
 | _ => false
def GV.plL : List GV → Bool
 | [] => true
 | c :: cs => GV.pl c && GV.plL cs
end
theorem GV.plL_at : ∀ {cs : List GV} {i : Nat} {c : GV}, GV.plL cs = true → cs[i]? = some c → c.pl = true
 | [], i, c, _, h => by cases i <;> cases h
 | x :: cs, i, c, h, e => by
   rw [GV.plL, Bool.and_eq_true] at h
   cases i with
   | zero => cases e; exact h.1
   | succ i => exact GV.plL_at h.2 (by simpa using e)
theorem VR.toPR {Z : ZM} {om : Om} {g : GV} {a : AV} (h : VR Z om g a) (k : g.pl = true) : PR Z g a := by
 induction h with
 | pure h => exact h
 | agg h _ ih => exact .agg h fun i c a e f => ih i c a e f (GV.plL_at (by rwa [GV.pl] at k) e)
 | tup h _ ih => exact .tup h fun i c a e f => ih i c a e f (GV.plL_at (by rwa [GV.pl] at k) e)
 | fn h _ ih => exact .fn h fun i c a e f => ih i c a e f (GV.plL_at (by rwa [GV.pl] at k) e)
 | ifc _ ih => exact .ifc (ih (by rwa [GV.pl] at k))
 | osl h => simp [GV.pl] at k
 | onil h => simp [GV.pl] at k
 | bptr h => simp [GV.pl] at k
 | eptr h => simp [GV.pl] at k
 | msl h => simp [GV.pl] at k
 | mnil h => simp [GV.pl] at k
 | mptr h => simp [GV.pl] at k
 | rsl h => simp [GV.pl] at k
 | rnil h => simp [GV.pl] at k
 | rptr h => simp [GV.pl] at k
 | any => exact .any
theorem putG_len : ∀ {cs : List GV} {o : Nat} {vs r : List GV}, putG cs o vs = some r → r.length = cs.length ∧ o + vs.length ≤ cs.length ∧ ∀ j, r[j]? = if o ≤ j ∧ j < o + vs.length then vs[j - o]? else cs[j]?
 | cs, 0, [], r, h => by
   have : r = cs := by cases cs <;> simpa [putG] using h.symm
   subst this
   exact ⟨rfl, by simp, fun j => by rw [if_neg (by simp)]⟩
 | [], 0, _ :: _, _, h => by simp [putG] at h
 | [], _ + 1, _, _, h => by simp [putG] at h
 | c :: cs, 0, v :: vs, r, h => by
   rw [putG] at h
   cases hr : putG cs 0 vs with
   | none => rw [hr] at h; cases h
   | some r' =>
     rw [hr] at h; cases h
     obtain ⟨h1, h2, h3⟩ := putG_len hr
     refine ⟨by simp [h1], by simp at h2 ⊢; omega, fun j => ?_⟩
     cases j with
     | zero => simp
     | succ j =>
       rw [List.getElem?_cons_succ, h3 j]
       by_cases hj : j < vs.length
       ·rw [if_pos (by omega), if_pos (by simp; omega)]; simp
       ·rw [if_neg (by omega), if_neg (by simp; omega)]; simp
 | c :: cs, o + 1, vs, r, h => by
   rw [putG] at h
   cases hr : putG cs o vs with
   | none => rw [hr] at h; cases h
   | some r' =>
     rw [hr] at h; cases h
     obtain ⟨h1, h2, h3⟩ := putG_len hr
     refine ⟨by simp [h1], by simp; omega, fun j => ?_⟩
     cases j with
     | zero => rw [if_neg (by omega)]; rfl
     | succ j =>
       rw [List.getElem?_cons_succ, h3 j]
       by_cases hj : o ≤ j ∧ j < o + vs.length
       ·rw [if_pos hj, if_pos (by omega)]; congr 1; omega
       ·rw [if_neg hj, if_neg (by omega)]; rfl
theorem putAt_ok : ∀ {cs : List AV} {o : Nat} {vs : List AV}, o + vs.length ≤ cs.length → ∃ r, putAt cs o vs = some r
 | cs, 0, [], _ => ⟨cs, by cases cs <;> rfl⟩
 | [], 0, _ :: _, h => by simp at h
 | [], _ + 1, _, h => by simp at h
 | c :: cs, 0, v :: vs, h => by
   obtain ⟨r, hr⟩ := putAt_ok (cs := cs) (o := 0) (vs := vs) (by simp at h ⊢; omega)
   exact ⟨v :: r, by simp [putAt, hr]⟩
 | c :: cs, o + 1, vs, h => by
   obtain ⟨r, hr⟩ := putAt_ok (cs := cs) (o := o) (vs := vs) (by simp at h; omega)
   exact ⟨c :: r, by simp [putAt, hr]⟩
end
end Go.AM
set_option linter.all false
namespace Go.AM
/-! ## Slices that are made, grow, are cut; what is never written again -/
def GV.st (g : Nat) (v : GV) : GV := match v.ok (fun h => !Nat.beq h g) with
 | true => v
 | false => .any
def stL (g : Nat) : GFr → GFr
 | [] => []
 | p :: r => (p.1, p.2.st g) :: stL g r
def stC (g : Nat) : List GV → List GV
 | [] => []
 | c :: r => c.st g :: stC g r
def stB (g : Nat) : GBlk → GBlk
 | .box cs => .box (stC g cs)
 | .arr f w cs => .arr f w cs
 | .mat w rs => .mat w rs
def stH (g : Nat) : GHp → GHp
 | [] => []
 | p :: r => (p.1, stB g p.2) :: stH g r
theorem lkP_stL {g : Nat} : ∀ {L : GFr} {k : Nat}, lkP (stL g L) k = (lkP L k).map (GV.st g)
 | [], _ => rfl
 | p :: r, k => by
   rw [stL, lkP_cons, lkP_cons, lkP_stL]
   split <;> rfl
theorem lkP_stH {g : Nat} : ∀ {L : GHp} {k : Nat}, lkP (stH g L) k = (lkP L k).map (stB g)
 | [], _ => rfl
 | p :: r, k => by
   rw [stH, lkP_cons, lkP_cons, lkP_stH]
   split <;> rfl
theorem stH_some {g : Nat} {L : GHp} {k : Nat} : (lkP (stH g L) k).isSome = (lkP L k).isSome := by rw [lkP_stH]; cases lkP L k <;> rfl
theorem stC_len {g : Nat} : ∀ {cs : List GV}, (stC g cs).length = cs.length
 | [] => rfl
 | c :: r => by simp [stC, stC_len]
theorem stC_at {g : Nat} : ∀ {cs : List GV} {i : Nat}, (stC g cs)[i]? = (cs[i]?).map (GV.st g)
 | [], i => by simp [stC]
 | c :: r, 0 => by simp [stC]
 | c :: r, i + 1 => by simp [stC, stC_at]
theorem VR.st {Z Z' : ZM} {om om' : Om} {g : Nat} {v : GV} {a : AV} (h : VR Z om v a) (hz : ZLe Z Z') (ho : ∀ k, k ≠ g → om' k = om k) : VR Z' om' (v.st g) a := by
 unfold GV.st
 split
 ·rename_i hk
  refine (h.cut hk).mono hz fun k x e => ?_
  unfold Om.cut at e
  split at e
  ·rename_i c
   rw [ho k (fun x => by subst x; simp at c)]; exact e
  ·cases e
 ·exact .any
theorem FR.st {Z Z' : ZM} {om om' : Om} {g : Nat} {L : GFr} {fr : T AV} (h : FR Z om L fr) (hz : ZLe Z Z') (ho : ∀ k, k ≠ g → om' k = om k) : FR Z' om' (stL g L) fr := fun k v e => by
 rw [lkP_stL] at e
 cases hx : lkP L k with
 | none => rw [hx] at e; cases e
 | some x =>
   rw [hx] at e; cases e
   obtain ⟨a, h1, h2⟩ := h k x hx
   exact ⟨a, h1, h2.st hz ho⟩
section
variable {Z : ZM} {om : Om} {HG : GHp} {H : Heap}
theorem GRel.move (h : GRel Z om HG H) {g : Nat} {full : Fl} {w : Nat} {cs : List (List GV)} (hmv : (Nat.ble 8 g && Nat.blt g 10) = false) (e : lkP HG g = some (.arr full w cs)) {l' : OL} {H' : Heap} {nb : GBlk}
 (hnx : H.next ≤ H'.next)
 (hkeep : ∀ b, b < H.next → ¬ idOf om g b → (∀ b' blk, idOf om g b' → H.blks.get b' = some blk → blk.mate ≠ some b) → H'.blks.get b = H.blks.get b)
 (hid : ∀ b, l'.has b → idOf om g b ∨ (H.next ≤ b ∧ b < H'.next))
 (hmate : ∀ b blk m, l'.has b → H'.blks.get b = some blk → blk.mate = some m → (idOf om g m ∧ ¬ l'.has m) ∨ (idOf om g b ∧ ∃ blk0, H.blks.get b = some blk0 ∧ blk0.mate = some m))
 (hn : BR Z (om.set g l') H' g nb) :
 GRel Z (om.set g l') ((g, nb) :: stH g HG) H' ∧ Ext Z om HG H Z (om.set g l') ((g, nb) :: stH g HG) H' := by
 have eS : (lkP HG g).isSome = true := by rw [e]; rfl
 have hS : ∀ k, (lkP ((g, nb) :: stH g HG) k).isSome = true → (lkP HG k).isSome = true := fun k hk => by
  rcases isSome_cons hk with rfl | hk
  ·exact eS
  ·rwa [stH_some] at hk
 have hset : ∀ k, k ≠ g → om.set g l' k = om k := fun k n => Om.set_ne n
 have hother : ∀ k b, k ≠ g → (lkP HG k).isSome = true → idOf om k b → H'.blks.get b = H.blks.get b := fun k b n hk hi =>
  hkeep b (h.old hk hi) (fun c => h.sep k g b n hk eS hi c) (fun b' blk i hb c => (h.mate g b' blk b eS i hb c).2.2 k hk hi)
 have hznone : ∀ b, l'.has b → Z b = none := fun b hb => by
  rcases hid b hb with i | ⟨i, _⟩
  ·exact (h.zsep g b eS i).1
  ·cases hz : Z b with
   | none => rfl
   | some zb => have := (h.zok b zb hz).1; omega
 refine ⟨⟨fun k hk => ?_, fun b zb hz => ?_, fun k blk hk => ?_, fun g1 g2 b n e1 e2 i1 i2 => ?_, fun k b hk i => ?_, fun k b blk m hk i hb hm => ?_⟩, ⟨hnx, .refl _, fun b hb hf => ?_, fun b hb hf => ?_, fun k b hnl hk => ?_, fun b hb ho => ?_, fun _ _ h k => absurd h k⟩⟩
 ·rw [lkP_cons] at hk
  split at hk
  ·cases hk
  ·rename_i c
   rw [lkP_stH] at hk
   rw [hset k (fun x => c x.symm)]
   exact h.dom k (by cases hx : lkP HG k with | none => rfl | some _ => rw [hx] at hk; cases hk)
 ·obtain ⟨a1, blk, a2, a3⟩ := h.zok b zb hz
  refine ⟨by omega, blk, ?_, a3⟩
  rw [hkeep b a1 (fun c => by rw [(h.zsep g b eS c).1] at hz; cases hz) (fun b' blk' i hb c => by rw [(h.mate g b' blk' b eS i hb c).2.1] at hz; cases hz)]
  exact a2
 ·rw [lkP_cons] at hk
  split at hk
  ·rename_i c; cases hk; subst c; exact hn
  ·rename_i c
   have n : k ≠ g := fun x => c x.symm
   rw [lkP_stH] at hk
   cases hx : lkP HG k with
   | none => rw [hx] at hk; cases hk
   | some old =>
     rw [hx] at hk; cases hk
     have hk' : (lkP HG k).isSome = true := by rw [hx]; rfl
     cases h.own k old hx with
     | box h1 h2 h3 h4 h5 =>
       have hi := idOf_eq h1 rfl
       refine .box (by rw [hset k n]; exact h1) (by rw [hother k _ n hk' hi]; exact h2) h3 (by rw [stC_len]; exact h4) fun i c a e1 e2 => ?_
       rw [stC_at] at e1
       cases hy : (_ : List GV)[i]? with
       | none => rw [hy] at e1; cases e1
       | some y => rw [hy] at e1; cases e1; exact (h5 i y a hy e2).st (.refl _) hset
     | nil h1 hq => exact .nil (by rw [hset k n]; exact h1) hq
     | arr h1 h2 h3 h4 h5 h6 h7 h8 =>
       have hi := idOf_eq h1 rfl
       exact .arr (by rw [hset k n]; exact h1) (by rw [hother k _ n hk' hi]; exact h2) h3 h4 h5 h6 h7 h8
     | mnil h1 => exact .mnil (by rw [hset k n]; exact h1)
     | mat h1 h2 h3 h4 h5 h6 h7 h8 h9 h10 h11 =>
       exact .mat (by rw [hset k n]; exact h1) (by rw [hother k _ n hk' (idOf_eq h1 (.inl rfl))]; exact h2) h3 h4 h5 h6 h7 h8 (fun i r p e1 e2 => (h9 i r p e1 e2).keep (.refl _) fun b hb => hother k b n hk' (idOf_eq h1 (.inr ⟨i, p, e2, hb⟩))) h10 h11
 ·have f1 := hS _ e1
  have f2 := hS _ e2
  by_cases c1 : g1 = g
  ·subst c1
   rw [idOf_set] at i1
   have n2 : g2 ≠ g1 := fun c => n c.symm
   rw [idOf_set_ne n2] at i2
   rcases hid b i1 with i | ⟨i, _⟩
   ·exact h.sep g1 g2 b n eS f2 i i2
   ·have := h.old f2 i2; omega
  ·rw [idOf_set_ne c1] at i1
   by_cases c2 : g2 = g
   ·subst c2
    rw [idOf_set] at i2
    rcases hid b i2 with i | ⟨i, _⟩
    ·exact h.sep g1 g2 b n f1 eS i1 i
    ·have := h.old f1 i1; omega
   ·rw [idOf_set_ne c2] at i2
    exact h.sep g1 g2 b n f1 f2 i1 i2
 ·by_cases c : k = g
  ·subst c
   rw [idOf_set] at i
   refine ⟨hznone b i, ?_⟩
   rcases hid b i with j | ⟨_, j⟩
   ·have := h.old eS j; omega
   ·exact j
  ·rw [idOf_set_ne c] at i
   have := h.zsep k b (hS k hk) i
   exact ⟨this.1, by omega⟩
 ·have claim : ∀ m, Z m = none → m < H.next → (∀ k', (lkP HG k').isSome = true → k' ≠ g → ¬ idOf om k' m) → ¬ l'.has m → m < H'.next ∧ Z m = none ∧ ∀ k', (lkP ((g, nb) :: stH g HG) k').isSome = true → ¬ idOf (om.set g l') k' m := fun m a1 a2 a3 a4 => by
   refine ⟨by omega, a1, fun k' hk' i' => ?_⟩
   by_cases c : k' = g
   ·subst c; rw [idOf_set] at i'; exact a4 i'
   ·rw [idOf_set_ne c] at i'; exact a3 k' (hS k' hk') c i'
  by_cases c : k = g
  ·subst c
   rw [idOf_set] at i
   rcases hmate b blk m i hb hm with ⟨j1, j2⟩ | ⟨j1, blk0, j2, j3⟩
   ·exact claim m (h.zsep k m eS j1).1 (h.old eS j1) (fun k' hk' n i' => h.sep k' k m n hk' eS i' j1) j2
   ·obtain ⟨a1, a2, a3⟩ := h.mate k b blk0 m eS j1 j2 j3
    refine claim m a2 a1 (fun k' hk' _ => a3 k' hk') (fun x => ?_)
    rcases hid m x with y | ⟨y, _⟩
    ·exact a3 k eS y
    ·omega
  ·rw [idOf_set_ne c] at i
   have hk' := hS k hk
   rw [hother k b c hk' i] at hb
   obtain ⟨a1, a2, a3⟩ := h.mate k b blk m hk' i hb hm
   refine claim m a2 a1 (fun k' hk' _ => a3 k' hk') (fun x => ?_)
   rcases hid m x with y | ⟨y, _⟩
   ·exact a3 g eS y
   ·omega
 ·exact ⟨hkeep b hb (fun c => hf ⟨g, eS, .inl c⟩) (fun b' blk i hb' c => hf ⟨g, eS, .inr ⟨b', blk, i, hb', c⟩⟩), rfl⟩
 ·obtain ⟨k, hk, hf⟩ := hf
  have hk' := hS k hk
  by_cases c : k = g
  ·subst c
   rw [idOf_set] at hf
   rcases hf with hf | ⟨b', blk, hf, hf2, hf3⟩
   ·rcases hid b hf with j | ⟨j, _⟩
    ·exact ⟨k, eS, .inl j⟩
    ·omega
   ·rw [idOf_set] at hf
    rcases hmate b' blk b hf hf2 hf3 with ⟨j1, j2⟩ | ⟨j1, blk0, j2, j3⟩
    ·exact ⟨k, eS, .inl j1⟩
    ·exact ⟨k, eS, .inr ⟨b', blk0, j1, j2, j3⟩⟩
  ·rw [idOf_set_ne c] at hf
   refine ⟨k, hk', ?_⟩
   rcases hf with hf | ⟨b', blk, hf, hf2, hf3⟩
   ·exact .inl hf
   ·exact .inr ⟨b', blk, hf, by rw [← hother k b' c hk' hf]; exact hf2, hf3⟩
 ·by_cases c : k = g
  ·subst c
   exfalso
   obtain ⟨n1, n2⟩ := hnl
   rcases n2 with n2 | ⟨b, rfl⟩
   ·rw [Eq.mpr Nat.ble_eq n2, Bool.true_and] at hmv
    have : Nat.blt k 10 = true := Eq.mpr Nat.ble_eq n1
    rw [this] at hmv; cases hmv
   ·rcases h.arr e with ⟨c1, _⟩ | ⟨_, _, _, _, _, c1, _⟩ <;> rw [c1] at hk <;> cases hk
  ·rw [hset k c]; exact hk
 ·obtain ⟨k, hk, hf⟩ := ho
  by_cases c : k = g
  ·subst c
   rw [idOf_set] at hf
   rcases hid b hf with j | ⟨j, _⟩
   ·exact ⟨k, eS, j⟩
   ·omega
  ·rw [idOf_set_ne c] at hf
   exact ⟨k, hS k hk, hf⟩
theorem GRel.nil {full : Fl} (hr : GRel Z om HG H) {g w : Nat} (hg' : lkP HG g = none) (hq : FlOk full true 0 0 := by exact .inl rfl) : GRel Z (om.set g .nil) ((g, .arr full w []) :: HG) H ∧ Ext Z om HG H Z (om.set g .nil) ((g, .arr full w []) :: HG) H := by
 have hid : ∀ k b, idOf (om.set g .nil) k b → k ≠ g ∧ idOf om k b := fun k b i => by
  by_cases c : k = g
  ·subst c; rw [idOf_set] at i; cases i
  ·rw [idOf_set_ne c] at i; exact ⟨c, i⟩
 have hS : ∀ k, k ≠ g → (lkP ((g, GBlk.arr full w []) :: HG) k).isSome = true → (lkP HG k).isSome = true := fun k n i => by
  rcases isSome_cons i with c | c
  ·exact absurd c n
  ·exact c
 refine ⟨⟨fun k e => ?_, hr.zok, fun k blk e => ?_, fun g1 g2 b n e1 e2 i1 i2 => ?_, fun k b e i => ?_, fun k b blk m e i hb hm => ?_⟩, ⟨Nat.le_refl _, .refl _, fun _ _ _ => ⟨rfl, rfl⟩, fun b hb hf => ?_, fun k b _ e => Om.le_set _ _ _ (hr.dom g hg') _ _ e, fun b hb ho => ?_, fun _ _ h k => absurd h k⟩⟩
 ·rw [lkP_cons] at e
  split at e
  ·cases e
  ·rename_i c; rw [Om.set_ne (fun x => c x.symm)]; exact hr.dom k e
 ·rw [lkP_cons] at e
  split at e
  ·rename_i c; cases e; subst c; exact .nil (Om.set_self ..) hq
  ·rename_i c; exact (hr.own k blk e).keep (Om.set_ne (fun x => c x.symm)) (fun _ _ => rfl) (fun v a hv => hv.mono (.refl _) (Om.le_set _ _ _ (hr.dom g hg'))) (.refl _)
 ·obtain ⟨n1, i1⟩ := hid _ _ i1
  obtain ⟨n2, i2⟩ := hid _ _ i2
  exact hr.sep g1 g2 b n (hS _ n1 e1) (hS _ n2 e2) i1 i2
 ·obtain ⟨n1, i1⟩ := hid _ _ i
  exact hr.zsep k b (hS _ n1 e) i1
 ·obtain ⟨n1, i1⟩ := hid _ _ i
  obtain ⟨a1, a2, a3⟩ := hr.mate k b blk m (hS _ n1 e) i1 hb hm
  refine ⟨a1, a2, fun k' e' i' => ?_⟩
  obtain ⟨n2, i2⟩ := hid _ _ i'
  exact a3 k' (hS _ n2 e') i2
 ·obtain ⟨k, e, f⟩ := hf
  rcases f with f | ⟨b', blk, f, f2, f3⟩
  ·obtain ⟨n1, i1⟩ := hid _ _ f
   exact ⟨k, hS _ n1 e, .inl i1⟩
  ·obtain ⟨n1, i1⟩ := hid _ _ f
   exact ⟨k, hS _ n1 e, .inr ⟨b', blk, i1, f2, f3⟩⟩
 ·obtain ⟨k, e, f⟩ := ho
  obtain ⟨n1, i1⟩ := hid _ _ f
  exact ⟨k, hS _ n1 e, i1⟩
end
/-! what an append puts in -/
theorem takeN_take : ∀ {n : Nat} {l : List AV}, n ≤ l.length → takeN n l = some (l.take n)
 | 0, l, _ => by simp [takeN]
 | n + 1, [], h => by simp at h
 | n + 1, x :: l, h => by simp [takeN, takeN_take (l := l) (by simpa using h)]
theorem ArrAt.size {Z : ZM} {cells : List AV} {o w : Nat} {cs : List (List GV)} (h : ArrAt Z cells o w cs) : cs.length * w = 0 ∨ o + cs.length * w ≤ cells.length := by
 by_cases h0 : cs.length * w = 0
 ·exact .inl h0
 ·have hl : 0 < cs.length := Nat.pos_of_ne_zero fun c => h0 (by rw [c, Nat.zero_mul])
  have hw : 0 < w := Nat.pos_of_ne_zero fun c => h0 (by rw [c, Nat.mul_zero])
  have hc : cs[cs.length - 1]? = some (cs[cs.length - 1]'(by omega)) := List.getElem?_eq_getElem (by omega)
  obtain ⟨h1, h2⟩ := h _ _ hc
  obtain ⟨a, ha, _⟩ := h2 (w - 1) ((cs[cs.length - 1]'(by omega))[w - 1]'(by omega)) (List.getElem?_eq_getElem (by omega))
  have := (List.getElem?_eq_some_iff.1 ha).1
  right
  have e : cs.length * w = (cs.length - 1) * w + w := by
   conv => lhs; rw [show cs.length = (cs.length - 1) + 1 by omega, Nat.add_mul, Nat.one_mul]
  omega
theorem ArrAt.rows {Z : ZM} {cells : List AV} {o w : Nat} {cs : List (List GV)} (h : ArrAt Z cells o w cs) : ∃ ws, takeN (cs.length * w) (cells.drop o) = some ws ∧ ws.length = cs.length * w ∧ ArrAt Z ws 0 w cs := by
 rcases h.size with h0 | h0
 ·refine ⟨[], by rw [h0]; simp [takeN], by simp [h0], fun i c e => ⟨(h i c e).1, fun k x e' => ?_⟩⟩
  have hi := (List.getElem?_eq_some_iff.1 e).1
  have hk := (List.getElem?_eq_some_iff.1 e').1
  rw [(h i c e).1] at hk
  have : 0 < cs.length * w := Nat.mul_pos (by omega) (by omega)
  omega
 ·refine ⟨(cells.drop o).take (cs.length * w), takeN_take (by simp; omega), by simp; omega, fun i c e => ⟨(h i c e).1, fun k x e' => ?_⟩⟩
  obtain ⟨a, ha, hp⟩ := (h i c e).2 k x e'
  refine ⟨a, ?_, hp⟩
  have hi := (List.getElem?_eq_some_iff.1 e).1
  have hk := (List.getElem?_eq_some_iff.1 e').1
  rw [(h i c e).1] at hk
  have hlt : i * w + k < cs.length * w := by
   have := Nat.mul_le_mul_right w (show i + 1 ≤ cs.length by omega)
   rw [Nat.add_mul] at this; omega
  rw [List.getElem?_take, if_pos (by omega), List.getElem?_drop, ← ha]; congr 1; omega
theorem ArrAt.append {Z : ZM} {xs ys : List AV} {w : Nat} {cs ds : List (List GV)} (h : ArrAt Z xs 0 w cs) (k : ArrAt Z ys 0 w ds) (hx : xs.length = cs.length * w) : ArrAt Z (xs ++ ys) 0 w (cs ++ ds) := fun i c e => by
 by_cases hi : i < cs.length
 ·rw [List.getElem?_append_left hi] at e
  refine ⟨(h i c e).1, fun j x e' => ?_⟩
  obtain ⟨a, ha, hp⟩ := (h i c e).2 j x e'
  exact ⟨a, by rw [List.getElem?_append_left (List.getElem?_eq_some_iff.1 ha).1]; exact ha, hp⟩
 ·rw [List.getElem?_append_right (by omega)] at e
  refine ⟨(k _ c e).1, fun j x e' => ?_⟩
  obtain ⟨a, ha, hp⟩ := (k _ c e).2 j x e'
  have := Nat.mul_le_mul_right w (show cs.length ≤ i by omega)
  refine ⟨a, ?_, hp⟩
  rw [List.getElem?_append_right (by omega), ← ha, hx]; congr 1
  rw [Nat.sub_mul]; omega
def srcG (HG : GHp) (w : Nat) : GV → Option (List (List GV))
 | .fsl w' ds => match Nat.beq w' w with | true => some ds | false => none
 | .osl g => match lkP HG g with
   | some (.arr _ w' ds) => match Nat.beq w' w with | true => some ds | false => none
   | _ => none
 | .v (.slice none 0 0) => some []
 | .v (.string s) => match Nat.beq w 1 with | true => some (s.data.toList.map fun b => [.v (.int .u8 b.toNat)]) | false => none
 | _ => none
section
variable {Z : ZM} {om : Om} {HG : GHp} {H : Heap}
theorem src_ok (hr : GRel Z om HG H) {v : GV} {a : AV} (hv : VR Z om v a) {w : Nat} {ds : List (List GV)} (e : srcG HG w v = some ds) : ∃ news, newsOf H w a = some (ds.length, news) ∧ news.length = ds.length * w ∧ ArrAt Z news 0 w ds := by
 have hnil : ∀ {w : Nat}, ∃ news, newsOf H w (.v (.slice none 0 0)) = some ((([] : List (List GV))).length, news) ∧ news.length = ([] : List (List GV)).length * w ∧ ArrAt Z news 0 w [] := ⟨[], rfl, by simp, fun i c e => by simp at e⟩
 cases v with
 | fsl w' ds' =>
   rw [srcG] at e
   split at e
   ·rename_i hb
    cases e
    obtain rfl := Nat.eq_of_beq_eq_true hb
    have hp := hv.fsl_inv
    cases a with
    | sl b off len cap ex =>
      obtain ⟨rfl, _, zb, hz, hes, ha⟩ := hp.sl_inv
      obtain ⟨_, blk, e1, e2, e3⟩ := hr.zok b zb hz
      obtain ⟨ws, t1, t2, t3⟩ := ha.rows
      exact ⟨ws, by simp only [newsOf, getN, e1, e2, t1, Option.map], t2, t3⟩
    | v x => cases hp; exact hnil
    | _ => cases hp
   ·cases e
 | osl g =>
   rw [srcG] at e
   split at e
   ·rename_i full w' ds' hg
    split at e
    ·rename_i hb
     cases e
     obtain rfl := Nat.eq_of_beq_eq_true hb
     rcases hr.arr hg with ⟨c1, rfl⟩ | ⟨b, o, cap, ex, blk, c1, c2, c3, c4, c5, c6, c7, c8⟩
     ·rcases hv.osl_inv with ⟨_, _, _, _, _, _, e', rfl⟩ | ⟨e', rfl⟩
      ·rw [c1] at e'; cases e'
      ·exact hnil
     ·rcases hv.osl_inv with ⟨_, _, _, _, _, _, e', rfl⟩ | ⟨e', rfl⟩
      ·rw [c1] at e'; cases e'
       obtain ⟨ws, t1, t2, t3⟩ := c8.rows
       exact ⟨ws, by simp only [newsOf, getN, c2, t1, Option.map], t2, t3⟩
      ·rw [c1] at e'; cases e'
    ·cases e
   ·cases e
 | v x =>
   obtain rfl := hv.v_inv
   unfold srcG at e
   split at e
   ·rename_i h; cases h
   ·rename_i h; cases h
   ·rename_i h; cases h; cases e; exact hnil
   ·rename_i s h
    cases h
    split at e
    ·rename_i hb
     cases e
     obtain rfl := Nat.eq_of_beq_eq_true hb
     refine ⟨s.data.toList.map fun b => .v (.int .u8 b.toNat), ?_, by simp, fun i c e => ?_⟩
     ·simp only [newsOf, if_true, List.length_map, Array.length_toList]; rfl
     ·rw [List.getElem?_map] at e
      cases hb : s.data.toList[i]? with
      | none => rw [hb] at e; cases e
      | some y =>
        rw [hb] at e; cases e
        refine ⟨rfl, fun k x e' => ?_⟩
        cases k with
        | zero => cases e'; exact ⟨_, by simp only [Nat.zero_add, Nat.mul_one, Nat.add_zero, List.getElem?_map, hb, Option.map], .v _⟩
        | succ k => simp at e'
    ·cases e
   ·cases e
 | _ => cases e
theorem GRel.app (hr : GRel Z om HG H) {g w by_ : Nat} {full : Fl} {cs ds : List (List GV)} (hmv : (Nat.ble 8 g && Nat.blt g 10) = false) (hg : lkP HG g = some (.arr full w cs)) {s t : AV} (hs : VR Z om (.osl g) s) {news : List AV} (hn : newsOf H w t = some (ds.length, news)) (hl : news.length = ds.length * w) (ha : ArrAt Z news 0 w ds)
 (hf : full.can ds.length) (hsz : (cs.length + ds.length) * by_ ≤ 2 ^ 47) :
 ∃ a H' om', appendA H w by_ s t = some (a, H') ∧ GRel Z om' ((g, .arr (full.app ds.length) w (cs ++ ds)) :: stH g HG) H' ∧ (∀ k, k ≠ g → om' k = om k) ∧ VR Z om' (.osl g) a ∧ Ext Z om HG H Z om' ((g, .arr (full.app ds.length) w (cs ++ ds)) :: stH g HG) H' := by
 have eS : (lkP HG g).isSome = true := by rw [hg]; rfl
 have same : ∀ l, om g = some l → ds = [] → BR Z om H g (.arr (full.app ds.length) w (cs ++ ds)) → GRel Z om ((g, .arr (full.app ds.length) w (cs ++ ds)) :: stH g HG) H ∧ Ext Z om HG H Z om ((g, .arr (full.app ds.length) w (cs ++ ds)) :: stH g HG) H := fun l hl hd hb => by
  have e : om.set g l = om := by
   funext k; unfold Om.set; split
   ·rename_i c; rw [c, hl]
   ·rfl
  have := hr.move hmv hg (l' := l) (H' := H) (nb := .arr (full.app ds.length) w (cs ++ ds)) (Nat.le_refl _) (fun _ _ _ _ => rfl) (fun b hb => .inl (idOf_eq hl hb))
   (fun b blk m i hb hm => .inr ⟨idOf_eq hl i, blk, hb, hm⟩) (by rw [e]; exact hb)
  rwa [e] at this
 rcases hr.arr hg with ⟨c1, rfl⟩ | ⟨b, o, cap, ex, blk, c1, c2, c3, c4, c5, c6, c7, c8⟩
 ·rcases hs.osl_inv with ⟨_, _, _, _, _, _, e', rfl⟩ | ⟨e', rfl⟩
  ·rw [c1] at e'; cases e'
  ·cases ds with
   | nil =>
     obtain ⟨r1, r2⟩ := same _ c1 rfl (.nil c1 (by have := (hr.nilF hg c1).in (n := 0) (Nat.le_refl _) (by cases full <;> first | trivial | exact Nat.zero_le _); exact this))
     exact ⟨_, H, om, by simp only [appendA, hn, List.length_nil], r1, fun _ _ => rfl, .onil c1, r2⟩
   | cons d ds =>
     have hid : ∀ b, ¬ idOf om g b := fun b => idOf_nil c1
     obtain ⟨r1, r2⟩ := hr.move hmv hg (l' := .sl H.next 0 (d :: ds).length (d :: ds).length false w) (H' := H.alloc w news) (nb := .arr (full.app (d :: ds).length) w ([] ++ d :: ds)) (Nat.le_succ _)
      (fun b hb _ _ => Heap.alloc_ne (by omega)) (fun b hb => .inr (by cases hb; exact ⟨Nat.le_refl _, Nat.lt_succ_self _⟩))
      (fun b blk m i hb hm => by cases i; rw [Heap.alloc_self rfl] at hb; cases hb; cases hm)
      (.arr (Om.set_self ..) (Heap.alloc_self rfl) rfl rfl (Nat.le_refl _) (.eq (by simpa using hl)) (((hr.nilF hg c1).out (n := (d :: ds).length) (by simp) hf).1 _ _) ha)
     refine ⟨_, _, _, ?_, r1, fun k n => Om.set_ne n, .osl (Om.set_self ..), r2⟩
     simp only [appendA, hn, List.length_cons]
     rw [if_pos (by simpa using hsz)]
 ·rcases hs.osl_inv with ⟨_, _, _, _, _, _, e', rfl⟩ | ⟨e', rfl⟩
  ·rw [c1] at e'; cases e'
   have hid : idOf om g b := idOf_eq c1 rfl
   have hblt : b < H.next := hr.old eS hid
   by_cases hfit : cs.length + ds.length ≤ cap
   ·cases ds with
    | nil =>
      obtain ⟨r1, r2⟩ := same _ c1 rfl (by rw [List.append_nil]; exact .arr c1 c2 c3 c4 c5 c6 (by have := c7.in (n := 0) c5 (by cases full <;> first | trivial | exact Nat.zero_le _); exact this) c8)
      exact ⟨_, H, om, by simp only [appendA, hn, List.length_nil, Nat.add_zero, if_pos c5], r1, fun _ _ => rfl, .osl c1, r2⟩
    | cons d ds =>
      have hfit2 : o + cs.length * w + news.length ≤ blk.cells.length := by
       have := Nat.mul_le_mul_right w hfit
       rw [Nat.add_mul] at this; have := c6.1; rw [hl]; omega
      obtain ⟨bs, e1⟩ := putAt_ok hfit2
      obtain ⟨_, e2, e3⟩ := putAt_some e1
      have hmate := fun m (hm : blk.mate = some m) => hr.mate g b blk m eS hid c2 hm
      have hnew : ArrAt Z bs o w (cs ++ d :: ds) := fun i c e => by
       by_cases hi : i < cs.length
       ·rw [List.getElem?_append_left hi] at e
        refine ⟨(c8 i c e).1, fun k x e' => ?_⟩
        obtain ⟨a, h1, h2⟩ := (c8 i c e).2 k x e'
        refine ⟨a, ?_, h2⟩
        have hk : k < w := by rw [← (c8 i c e).1]; exact (List.getElem?_eq_some_iff.1 e').1
        have := Nat.mul_le_mul_right w (show i + 1 ≤ cs.length by omega)
        rw [Nat.add_mul] at this
        rw [e3, if_neg (by omega)]; exact h1
       ·rw [List.getElem?_append_right (by omega)] at e
        refine ⟨(ha _ c e).1, fun k x e' => ?_⟩
        obtain ⟨a, h1, h2⟩ := (ha _ c e).2 k x e'
        have hk : k < w := by rw [← (ha _ c e).1]; exact (List.getElem?_eq_some_iff.1 e').1
        have hi2 := (List.getElem?_eq_some_iff.1 e).1
        have q1 := Nat.mul_le_mul_right w (show cs.length ≤ i by omega)
        have q2 := Nat.mul_le_mul_right w (show i - cs.length + 1 ≤ (d :: ds).length by omega)
        rw [Nat.add_mul] at q2
        have q3 : (i - cs.length) * w = i * w - cs.length * w := Nat.sub_mul ..
        refine ⟨a, ?_, h2⟩
        rw [e3, if_pos (by omega), ← h1]; congr 1; omega
      obtain ⟨r1, r2⟩ := hr.move hmv hg (l' := .sl b o (cs ++ d :: ds).length cap ex w) (H' := H.upd b blk bs) (nb := .arr (full.app (d :: ds).length) w (cs ++ d :: ds)) (Nat.le_refl _)
       (fun b' hb' n1 n2 => Heap.upd_ne (fun c => n1 (by rw [c]; exact hid)) (n2 b blk hid c2)) (fun b' hb' => .inl (by cases hb'; exact hid))
       (fun b' blk' m i hb' hm => by cases i; rw [Heap.upd_self rfl] at hb'; cases hb'; cases hm)
       (.arr (blk := ⟨bs, true, none, blk.es⟩) (Om.set_self ..) (Heap.upd_self rfl) rfl c4 (by simpa using hfit) (by show SzOk _ bs.length _ _ _; rw [e2]; exact c6) (by rw [List.length_append]; exact c7.in hfit hf) hnew)
      refine ⟨_, _, _, ?_, r1, fun k n => Om.set_ne n, .osl (Om.set_self ..), r2⟩
      simp only [List.length_cons] at hfit
      simp only [appendA, hn, List.length_cons, if_pos hfit, Heap.write_upd c2 c3 e1, List.length_append]
   ·obtain ⟨ws, t1, t2, t3⟩ := c8.rows
    have hlen : 0 < ds.length := by omega
    by_cases hex : ex = true
    ·obtain ⟨r1, r2⟩ := hr.move hmv hg (l' := .sl H.next 0 (cs ++ ds).length (cs ++ ds).length false w) (H' := H.alloc w (ws ++ news)) (nb := .arr (full.app ds.length) w (cs ++ ds)) (Nat.le_succ _)
      (fun b hb _ _ => Heap.alloc_ne (by omega)) (fun b hb => .inr (by cases hb; exact ⟨Nat.le_refl _, Nat.lt_succ_self _⟩))
      (fun b blk m i hb hm => by cases i; rw [Heap.alloc_self rfl] at hb; cases hb; cases hm)
      (.arr (Om.set_self ..) (Heap.alloc_self rfl) rfl rfl (Nat.le_refl _) (.eq (by simp [t2, hl, Nat.add_mul])) ((c7.out hfit hf).1 _ _) (t3.append ha t2))
     refine ⟨_, _, _, ?_, r1, fun k n => Om.set_ne n, .osl (Om.set_self ..), r2⟩
     simp only [appendA, hn, if_neg hfit, c2, t1, c4, hsz, and_self, if_true, hex, List.length_append]
    ·have hcap : cs.length = cap := by
      rcases (c7.out hfit hf).2 with h | h | h
      ·exact absurd h hex
      ·exact h
      ·omega
     have hex' : ex = false := by simpa using hex
     have hmate := fun m (hm : blk.mate = some m) => hr.mate g b blk m eS hid c2 hm
     have hold : ∀ b', b' < H.next → b' ≠ b → blk.mate ≠ some b' → (H.mate2 b blk (ws ++ news)).blks.get b' = H.blks.get b' := fun b' h1 h2 h3 => by
      simp only [Heap.mate2, T.get_set]
      rw [if_neg (by omega), if_neg h2]
      cases hk : blk.mate with
      | none => rfl
      | some m =>
        simp only [Heap.kill, T.get_set]
        rw [if_neg (fun c => h3 (by rw [hk, c]))]
     obtain ⟨r1, r2⟩ := hr.move hmv hg (l' := .sl H.next 0 (cs ++ ds).length (cs ++ ds).length false w) (H' := H.mate2 b blk (ws ++ news)) (nb := .arr (full.app ds.length) w (cs ++ ds)) (Nat.le_succ _)
      (fun b' hb' n1 n2 => hold b' hb' (fun c => n1 (by rw [c]; exact hid)) (n2 b blk hid c2)) (fun b hb => .inr (by cases hb; exact ⟨Nat.le_refl _, Nat.lt_succ_self _⟩))
      (fun b' blk' m i hb' hm => by cases i; rw [Heap.mate2_new] at hb'; cases hb'; cases hm; exact .inl ⟨hid, fun c => by cases c; omega⟩)
      (.arr (blk := ⟨ws ++ news, true, some b, blk.es⟩) (Om.set_self ..) Heap.mate2_new rfl c4 (Nat.le_refl _) (.eq (by simp [t2, hl, Nat.add_mul])) ((c7.out hfit hf).1 _ _) (t3.append ha t2))
     refine ⟨_, _, _, ?_, r1, fun k n => Om.set_ne n, .osl (Om.set_self ..), r2⟩
     have hbl : blk.cells.length = o + cap * w := c6.2 hex'
     simp only [appendA, hn, if_neg hfit, c2, t1, c4, hsz, and_self, if_true, hex', hbl, c3, if_pos hcap, List.length_append, Bool.false_eq_true, if_false]
  ·rw [c1] at e'; cases e'
end
section
variable {A : AProg} {L : GFr} {HG : GHp} {l : List AOper} {Q : GFr → GHp → Prop}
theorem G.app {d g w by_ : Nat} {full : Fl} {x y : AX} {v : GV} {cs ds : List (List GV)} (hx : lkGX L x = some (.osl g)) (hy : lkGX L y = some v) (hg : lkP HG g = some (.arr full w cs)) (hs : srcG HG w v = some ds) (hf : full.can ds.length) (hsz : (cs.length + ds.length) * by_ ≤ 2 ^ 47)
 (k : WpOpsG A l ((d, .osl g) :: stL g L) ((g, .arr (full.app ds.length) w (cs ++ ds)) :: stH g HG) Q) (hmv : (Nat.ble 8 g && Nat.blt g 10) = false := by rfl) : WpOpsG A (⟨some d, .app w by_ x y, none⟩ :: l) L HG Q :=
 WpOpsG.step (d := some d) (L1 := stL g L) (fun Z om fr H hr hf' => by
  obtain ⟨s, h1, h2⟩ := hf'.x hx
  obtain ⟨t, k1, k2⟩ := hf'.x hy
  obtain ⟨news, n1, n2, n3⟩ := src_ok hr k2 hs
  obtain ⟨a, H', om', e1, e2, e3, e4, e5⟩ := hr.app hmv hg h2 n1 n2 n3 hf hsz
  exact WpOp.eval (by simp only [evOp, h1, k1, e1]) ⟨Z, om', e2, hf'.st (.refl _) e3, e4, e5⟩) k
end
end Go.AM
set_option linter.all false
namespace Go.AM
/-! ## Made slices, parts of them, freezing, bytes and texts -/
def chunkG (w : Nat) : Nat → List GV → Option (List (List GV))
 | 0, [] => some []
 | 0, _ :: _ => none
 | n + 1, l => match takeG w l with
   | some c => match chunkG w n (l.drop w) with
     | some r => some (c :: r)
     | none => none
   | none => none
theorem takeG_le : ∀ {n : Nat} {l r : List GV}, takeG n l = some r → n ≤ l.length
 | 0, _, _, _ => Nat.zero_le _
 | n + 1, [], _, h => by cases h
 | n + 1, x :: l, r, h => by
   rw [takeG] at h
   cases hr : takeG n l with
   | none => rw [hr] at h; cases h
   | some r' => have := takeG_le hr; simp; exact this
theorem chunkG_ok {w : Nat} : ∀ {n : Nat} {l : List GV} {cs : List (List GV)}, chunkG w n l = some cs → cs.length = n ∧ l.length = n * w ∧ ∀ (i : Nat) (c : List GV), cs[i]? = some c → c.length = w ∧ ∀ (k : Nat) (x : GV), c[k]? = some x → l[i * w + k]? = some x
 | 0, [], cs, h => by cases h; exact ⟨rfl, by simp, fun i c e => by simp at e⟩
 | 0, _ :: _, cs, h => by cases h
 | n + 1, l, cs, h => by
   rw [chunkG] at h
   cases h1 : takeG w l with
   | none => rw [h1] at h; cases h
   | some c =>
     simp only [h1] at h
     cases h2 : chunkG w n (l.drop w) with
     | none => rw [h2] at h; cases h
     | some r =>
       rw [h2] at h; cases h
       obtain ⟨a1, a2⟩ := takeG_len h1
       have a3 := takeG_le h1
       obtain ⟨b1, b2, b3⟩ := chunkG_ok h2
       refine ⟨by simp [b1], by simp at b2; rw [Nat.add_mul]; omega, fun i c' e => ?_⟩
       cases i with
       | zero =>
         cases e
         refine ⟨a1, fun k x e' => ?_⟩
         have hk := (List.getElem?_eq_some_iff.1 e').1
         have := a2 k (by omega)
         rw [Nat.zero_mul, Nat.zero_add, this]; exact e'
       | succ i =>
         obtain ⟨d1, d2⟩ := b3 i c' (by simpa using e)
         refine ⟨d1, fun k x e' => ?_⟩
         have := d2 k x e'
         rw [List.getElem?_drop] at this
         rw [← this]; congr 1; rw [Nat.add_mul]; omega
section
variable {A : AProg} {L : GFr} {HG : GHp} {l : List AOper} {Q : GFr → GHp → Prop}
theorem G.bslice {d g w len : Nat} {z : List AV} {ps : List (Nat × Nat × AX)} {cells : List GV} {cs : List (List GV)} (e : fillG L (cvt.cvts z) ps = some cells) (hc : chunkG w len cells = some cs) (hpl : GV.plL cells = true) (hg : (lkP HG g).isNone = true)
 (k : WpOpsG A l ((d, .osl g) :: L) ((g, .arr .yes w cs) :: HG) Q) : WpOpsG A (⟨some d, .bslice w len z ps, none⟩ :: l) L HG Q :=
 WpOpsG.step (d := some d) (fun Z om fr H hr hf => by
  obtain ⟨bs, h1, h2, h3⟩ := fillG_ok hf e (cvts_ok (Z := Z) (om := om) z).1 (cvts_ok z).2
  have hg' : lkP HG g = none := by simpa using hg
  obtain ⟨c1, c2, c3⟩ := chunkG_ok hc
  have ha : ArrAt Z bs 0 w cs := fun i c e => ⟨(c3 i c e).1, fun k x e' => by
   have h4 := (c3 i c e).2 k x e'
   have hlt : i * w + k < bs.length := by rw [← h2]; exact (List.getElem?_eq_some_iff.1 h4).1
   exact ⟨bs[i * w + k], by simp [hlt], (h3 _ _ _ h4 (by simp [hlt])).toPR (GV.plL_at hpl h4)⟩⟩
  obtain ⟨r1, r2⟩ := hr.alloc hg' (es := w) (cs := bs) (l := .sl H.next 0 cs.length len true w) (nb := .arr .yes w cs) (fun _ h => h.symm)
   (.arr (Om.set_self ..) (Heap.alloc_self rfl) rfl rfl (by omega) (.eq (by simp only [Nat.zero_add]; omega)) (.inl rfl) ha)
  exact WpOp.eval (by simp only [evOp, h1, c1]) ⟨Z, _, r1, hf.mono (.refl _) (Om.le_set _ _ _ (hr.dom g hg')), .osl (Om.set_self ..), r2⟩) k
theorem flatten_rep (z : List AV) (w : Nat) (hz : z.length = w) : ∀ (n : Nat), (List.replicate n z).flatten.length = n * w ∧ ∀ i k, i < n → k < w → (List.replicate n z).flatten[i * w + k]? = z[k]?
 | 0 => ⟨by simp, fun i k h => by omega⟩
 | n + 1 => by
   obtain ⟨h1, h2⟩ := flatten_rep z w hz n
   refine ⟨by simp only [List.replicate_succ, List.flatten_cons, List.length_append, h1, hz, Nat.add_mul]; omega, fun i k hi hk => ?_⟩
   rw [List.replicate_succ, List.flatten_cons]
   cases i with
   | zero => rw [List.getElem?_append_left (by omega)]; congr 1; omega
   | succ i =>
     rw [List.getElem?_append_right (by rw [Nat.add_mul]; omega), ← h2 i k (by omega) hk]; congr 1; rw [Nat.add_mul]; omega
theorem G.mkslice {d g w by_ : Nat} {z : List AV} {x y : AX} {k1 k2 : IntKind} {n c : Int} (hx : lkGX L x = some (.v (.int k1 n))) (hy : lkGX L y = some (.v (.int k2 c))) (h0 : 0 ≤ n) (hc : n ≤ c) (hs : (by_ : Int) * c ≤ 2 ^ 47) (hs2 : c < 2 ^ 63)
 (hz : Nat.beq z.length w = true) (hw : Nat.ble 1 w = true) (hp : GV.plL (cvt.cvts z) = true) (hg : (lkP HG g).isNone = true)
 (k : WpOpsG A l ((d, .osl g) :: L) ((g, .arr .yes w (List.replicate n.toNat (cvt.cvts z))) :: HG) Q) : WpOpsG A (⟨some d, .mkslice w by_ z x y, none⟩ :: l) L HG Q :=
 WpOpsG.step (d := some d) (fun Z om fr H hr hf => by
  obtain ⟨u, h1, h2⟩ := hf.x hx
  obtain rfl := h2.v_inv
  obtain ⟨v, h3, h4⟩ := hf.x hy
  obtain rfl := h4.v_inv
  have hg' : lkP HG g = none := by simpa using hg
  have hzw := Nat.eq_of_beq_eq_true hz
  have hw' := Nat.le_of_ble_eq_true hw
  obtain ⟨f1, f2⟩ := flatten_rep z w hzw c.toNat
  obtain ⟨q1, q2⟩ := cvts_ok (Z := Z) (om := om) z
  have ha : ArrAt Z (List.replicate c.toNat z).flatten 0 w (List.replicate n.toNat (cvt.cvts z)) := fun i c' e => by
   rw [List.getElem?_replicate] at e
   split at e
   ·rename_i hi
    cases e
    refine ⟨by rw [q1, hzw], fun k x e' => ?_⟩
    have hk : k < w := by rw [← hzw, ← q1]; exact (List.getElem?_eq_some_iff.1 e').1
    have hzk : z[k]? = some (z[k]'(by omega)) := List.getElem?_eq_getElem (by omega)
    exact ⟨z[k]'(by omega), by rw [Nat.zero_add, f2 i k (by omega) hk, hzk], (q2 k x _ e' hzk).toPR (GV.plL_at hp e')⟩
   ·cases e
  obtain ⟨r1, r2⟩ := hr.alloc hg' (es := w) (cs := (List.replicate c.toNat z).flatten) (l := .sl H.next 0 (List.replicate n.toNat (cvt.cvts z)).length c.toNat true w) (nb := .arr .yes w (List.replicate n.toNat (cvt.cvts z))) (fun _ h => h.symm)
   (.arr (Om.set_self ..) (Heap.alloc_self rfl) rfl rfl (by simp; omega) (.eq (by simp only [Nat.zero_add]; exact f1)) (.inl rfl) ha)
  have hcond : 0 ≤ n ∧ n ≤ c ∧ (by_ : Int) * c ≤ 2 ^ 47 ∧ c < 2 ^ 63 ∧ z.length = w ∧ 0 < w := ⟨h0, hc, hs, hs2, hzw, hw'⟩
  exact WpOp.eval (by simp only [evOp, h1, h3, if_pos hcond, List.length_replicate]) ⟨Z, _, r1, hf.mono (.refl _) (Om.le_set _ _ _ (hr.dom g hg')), .osl (Om.set_self ..), r2⟩) k
end
mutual
/-- a name made a value -/
def GV.fz (g : Nat) (v : GV) : GV → GV
 | .agg cs => .agg (GV.fzL g v cs)
 | .tup cs => .tup (GV.fzL g v cs)
 | .fn f cs => .fn f (GV.fzL g v cs)
 | .ifc t x => .ifc t (GV.fz g v x)
 | .osl h => match Nat.beq h g with | true => v | false => .osl h
 | .bptr h o => match Nat.beq h g with | true => .any | false => .bptr h o
 | .eptr h i o => match Nat.beq h g with | true => .any | false => .eptr h i o
 | .msl h => match Nat.beq h g with | true => v | false => .msl h
 | .mptr h i => match Nat.beq h g with | true => .any | false => .mptr h i
 | .rsl h i => match Nat.beq h g with | true => .any | false => .rsl h i
 | .rptr h i j o => match Nat.beq h g with | true => .any | false => .rptr h i j o
 | x => x
def GV.fzL (g : Nat) (v : GV) : List GV → List GV
 | [] => []
 | c :: cs => GV.fz g v c :: GV.fzL g v cs
end
theorem GV.fzL_len {g : Nat} {v : GV} : ∀ {cs : List GV}, (GV.fzL g v cs).length = cs.length
 | [] => rfl
 | c :: r => by simp [GV.fzL, GV.fzL_len]
theorem GV.fzL_at {g : Nat} {v : GV} : ∀ {cs : List GV} {i : Nat}, (GV.fzL g v cs)[i]? = (cs[i]?).map (GV.fz g v)
 | [], i => by simp [GV.fzL]
 | c :: r, 0 => by simp [GV.fzL]
 | c :: r, i + 1 => by simp [GV.fzL, GV.fzL_at]
def fzF (g : Nat) (v : GV) : GFr → GFr
 | [] => []
 | p :: r => (p.1, GV.fz g v p.2) :: fzF g v r
def fzB (g : Nat) (v : GV) : GBlk → GBlk
 | .box cs => .box (GV.fzL g v cs)
 | .arr f w cs => .arr f w cs
 | .mat w rs => .mat w rs
def fzH (g : Nat) (v : GV) : GHp → GHp
 | [] => []
 | p :: r => match Nat.beq p.1 g with
   | true => fzH g v r
   | false => (p.1, fzB g v p.2) :: fzH g v r
theorem lkP_fzF {g : Nat} {v : GV} : ∀ {L : GFr} {k : Nat}, lkP (fzF g v L) k = (lkP L k).map (GV.fz g v)
 | [], _ => rfl
 | p :: r, k => by
   rw [fzF, lkP_cons, lkP_cons, lkP_fzF]
   split <;> rfl
theorem lkP_fzH {g : Nat} {v : GV} : ∀ {L : GHp} {k : Nat}, lkP (fzH g v L) k = if k = g then none else (lkP L k).map (fzB g v)
 | [], k => by split <;> rfl
 | p :: r, k => by
   rw [fzH, lkP_cons]
   cases hb : Nat.beq p.1 g with
   | true =>
     have hpg := Nat.eq_of_beq_eq_true hb
     simp only []
     rw [lkP_fzH]
     split
     ·rfl
     ·rename_i n; rw [if_neg (fun c => n (c.symm.trans hpg))]
   | false =>
     have hpg : p.1 ≠ g := fun c => by rw [c] at hb; simp at hb
     simp only []
     rw [lkP_cons, lkP_fzH]
     by_cases c : p.1 = k
     ·rw [if_pos c, if_pos c, if_neg (fun x => hpg (c.trans x))]; rfl
     ·rw [if_neg c, if_neg c]
section
variable {Z : ZM} {om : Om} {HG : GHp} {H : Heap}
theorem PR.fz {Z' : ZM} {om' : Om} {g : Nat} {v : GV} {u : GV} {a : AV} (h : PR Z u a) (hz : ZLe Z Z') : VR Z' om' (GV.fz g v u) a := by
 induction h with
 | v x => exact .pure (.v x)
 | @agg cs as h _ ih =>
   refine .agg (by rw [GV.fzL_len]; exact h) fun i c a e f => ?_
   rw [GV.fzL_at] at e
   cases hx : cs[i]? with
   | none => rw [hx] at e; cases e
   | some y => rw [hx] at e; cases e; exact ih i y a hx f
 | @tup cs as h _ ih =>
   refine .tup (by rw [GV.fzL_len]; exact h) fun i c a e f => ?_
   rw [GV.fzL_at] at e
   cases hx : cs[i]? with
   | none => rw [hx] at e; cases e
   | some y => rw [hx] at e; cases e; exact ih i y a hx f
 | @fn f0 cs as h _ ih =>
   refine .fn (by rw [GV.fzL_len]; exact h) fun i c a e f => ?_
   rw [GV.fzL_at] at e
   cases hx : cs[i]? with
   | none => rw [hx] at e; cases e
   | some y => rw [hx] at e; cases e; exact ih i y a hx f
 | ifc _ ih => exact .ifc ih
 | fsl f h1 h2 h3 h4 h5 h6 h7 _ => exact .pure (.fsl f (hz _ _ h1) h2 h3 h4 h5 h6 fun i k c x e e' => (h7 i k c x e e').mono hz)
 | fnil => exact .pure .fnil
 | fptr f h1 h2 h3 _ => exact .pure (.fptr f (hz _ _ h1) h2 fun k x e => (h3 k x e).mono hz)
 | any => exact .any
theorem VR.fz {Z' : ZM} {om' : Om} {g : Nat} {v : GV} {u : GV} {a : AV} (h : VR Z om u a) (hz : ZLe Z Z') (ho : ∀ k, k ≠ g → om' k = om k) (hv : ∀ a, VR Z om (.osl g) a ∨ VR Z om (.msl g) a → VR Z' om' v a) : VR Z' om' (GV.fz g v u) a := by
 induction h with
 | pure h => exact h.fz hz
 | @agg cs as h _ ih =>
   refine .agg (by rw [GV.fzL_len]; exact h) fun i c a e f => ?_
   rw [GV.fzL_at] at e
   cases hx : cs[i]? with
   | none => rw [hx] at e; cases e
   | some y => rw [hx] at e; cases e; exact ih i y a hx f
 | @tup cs as h _ ih =>
   refine .tup (by rw [GV.fzL_len]; exact h) fun i c a e f => ?_
   rw [GV.fzL_at] at e
   cases hx : cs[i]? with
   | none => rw [hx] at e; cases e
   | some y => rw [hx] at e; cases e; exact ih i y a hx f
 | @fn f0 cs as h _ ih =>
   refine .fn (by rw [GV.fzL_len]; exact h) fun i c a e f => ?_
   rw [GV.fzL_at] at e
   cases hx : cs[i]? with
   | none => rw [hx] at e; cases e
   | some y => rw [hx] at e; cases e; exact ih i y a hx f
 | ifc _ ih => exact .ifc ih
 | @osl k b o len cap ex w h =>
   rw [GV.fz]
   cases hb : Nat.beq k g with
   | true => obtain rfl := Nat.eq_of_beq_eq_true hb; exact hv _ (.inl (.osl h))
   | false => exact .osl (by rw [ho k (fun c => by rw [c] at hb; simp at hb)]; exact h)
 | @onil k h =>
   rw [GV.fz]
   cases hb : Nat.beq k g with
   | true => obtain rfl := Nat.eq_of_beq_eq_true hb; exact hv _ (.inl (.onil h))
   | false => exact .onil (by rw [ho k (fun c => by rw [c] at hb; simp at hb)]; exact h)
 | @bptr k off b h =>
   rw [GV.fz]
   cases hb : Nat.beq k g with
   | true => exact .any
   | false => exact .bptr (by rw [ho k (fun c => by rw [c] at hb; simp at hb)]; exact h)
 | @eptr k i off b o len cap ex w h =>
   rw [GV.fz]
   cases hb : Nat.beq k g with
   | true => exact .any
   | false => exact .eptr (by rw [ho k (fun c => by rw [c] at hb; simp at hb)]; exact h)
 | @msl k b o cap ex ps h =>
   rw [GV.fz]
   cases hb : Nat.beq k g with
   | true => obtain rfl := Nat.eq_of_beq_eq_true hb; exact hv _ (.inr (.msl h))
   | false => exact .msl (by rw [ho k (fun c => by rw [c] at hb; simp at hb)]; exact h)
 | @mnil k h =>
   rw [GV.fz]
   cases hb : Nat.beq k g with
   | true => obtain rfl := Nat.eq_of_beq_eq_true hb; exact hv _ (.inr (.mnil h))
   | false => exact .mnil (by rw [ho k (fun c => by rw [c] at hb; simp at hb)]; exact h)
 | @mptr k i b o cap ex ps h =>
   rw [GV.fz]
   cases hb : Nat.beq k g with
   | true => exact .any
   | false => exact .mptr (by rw [ho k (fun c => by rw [c] at hb; simp at hb)]; exact h)
 | @rsl k i b o cap ex ps b' o' len' cap' ex' w h hp =>
   rw [GV.fz]
   cases hb : Nat.beq k g with
   | true => exact .any
   | false => exact .rsl (by rw [ho k (fun c => by rw [c] at hb; simp at hb)]; exact h) hp
 | @rnil k i b o cap ex ps h hp =>
   rw [GV.fz]
   cases hb : Nat.beq k g with
   | true => exact .any
   | false => exact .rnil (by rw [ho k (fun c => by rw [c] at hb; simp at hb)]; exact h) hp
 | @rptr k i j off b o cap ex ps b' o' len' cap' ex' w h hp =>
   rw [GV.fz]
   cases hb : Nat.beq k g with
   | true => exact .any
   | false => exact .rptr (by rw [ho k (fun c => by rw [c] at hb; simp at hb)]; exact h) hp
 | any => exact .any
theorem GRel.fzKey (hr : GRel Z om HG H) {g : Nat} (eS : (lkP HG g).isSome = true) (hno : ∀ l, om g = some l → ¬ nailed g l) (v : GV) {Z' : ZM} (hz : ZLe Z Z')
 (hz' : ∀ b zb, Z' b = some zb → Z b = some zb ∨ (idOf om g b ∧ ∃ blk, H.blks.get b = some blk ∧ blk.cells = zb.cells ∧ blk.es = zb.es))
 (hv : ∀ a, VR Z om (.osl g) a ∨ VR Z om (.msl g) a → VR Z' (om.cut fun k => !Nat.beq k g) v a) :
 GRel Z' (om.cut fun k => !Nat.beq k g) (fzH g v HG) H ∧ (∀ u a, VR Z om u a → VR Z' (om.cut fun k => !Nat.beq k g) (GV.fz g v u) a) ∧ Ext Z om HG H Z' (om.cut fun k => !Nat.beq k g) (fzH g v HG) H := by
 have ho : ∀ k, k ≠ g → (om.cut fun k => !Nat.beq k g) k = om k := fun k n => by
  unfold Om.cut
  rw [if_pos]
  cases hb : Nat.beq k g with
  | true => exact absurd (Nat.eq_of_beq_eq_true hb) n
  | false => simp only [hb, Bool.not_false]
 have hog : (om.cut fun k => !Nat.beq k g) g = none := by unfold Om.cut; rw [if_neg]; simp
 have hV : ∀ u a, VR Z om u a → VR Z' (om.cut fun k => !Nat.beq k g) (GV.fz g v u) a := fun u a h => h.fz hz ho hv
 have hS : ∀ k, (lkP (fzH g v HG) k).isSome = true → k ≠ g ∧ (lkP HG k).isSome = true := fun k e => by
  rw [lkP_fzH] at e
  split at e
  ·cases e
  ·rename_i n; refine ⟨n, ?_⟩; cases hx : lkP HG k with
   | none => rw [hx] at e; cases e
   | some _ => rfl
 have hzn : ∀ b, Z b = none → ¬ idOf om g b → Z' b = none := fun b h1 h2 => by
  cases hb : Z' b with
  | none => rfl
  | some zb =>
    rcases hz' b zb hb with h | ⟨h, _⟩
    ·rw [h1] at h; cases h
    ·exact absurd h h2
 refine ⟨⟨fun k e => ?_, fun b zb e => ?_, fun k blk e => ?_, fun g1 g2 b n e1 e2 i1 i2 => ?_, fun k b e i => ?_, fun k b blk m e i hb hm => ?_⟩, hV, ⟨Nat.le_refl _, hz, fun b hb hf => ⟨rfl, ?_⟩, fun b hb hf => ?_, fun k b hnl e => ?_, fun b hb ho' => ?_, fun b hb h1 h2 => ?_⟩⟩
 ·by_cases c : k = g
  ·rw [c]; exact hog
  ·rw [ho k c]
   rw [lkP_fzH, if_neg c] at e
   exact hr.dom k (by cases hx : lkP HG k with | none => rfl | some _ => rw [hx] at e; cases e)
 ·rcases hz' b zb e with h | ⟨h, blk, h1, h2⟩
  ·exact hr.zok b zb h
  ·exact ⟨hr.old eS h, blk, h1, h2⟩
 ·rw [lkP_fzH] at e
  split at e
  ·cases e
  ·rename_i n
   cases hx : lkP HG k with
   | none => rw [hx] at e; cases e
   | some old =>
     rw [hx] at e; cases e
     cases hr.own k old hx with
     | @box cells _ _ h1 h2 h3 h4 h5 =>
       refine .box (by rw [ho k n]; exact h1) h2 h3 (by rw [GV.fzL_len]; exact h4) fun i c a e1 e2 => ?_
       rw [GV.fzL_at] at e1
       cases hy : cells[i]? with
       | none => rw [hy] at e1; cases e1
       | some y => rw [hy] at e1; cases e1; exact hV _ _ (h5 i y a hy e2)
     | nil h1 hq => exact .nil (by rw [ho k n]; exact h1) hq
     | arr h1 h2 h3 h4 h5 h6 h7 h8 => exact .arr (by rw [ho k n]; exact h1) h2 h3 h4 h5 h6 h7 (h8.mono hz)
     | mnil h1 => exact .mnil (by rw [ho k n]; exact h1)
     | mat h1 h2 h3 h4 h5 h6 h7 h8 h9 h10 h11 => exact .mat (by rw [ho k n]; exact h1) h2 h3 h4 h5 h6 h7 h8 (fun i r p e1 e2 => (h9 i r p e1 e2).keep hz fun _ _ => rfl) h10 h11
 ·exact hr.sep g1 g2 b n (hS _ e1).2 (hS _ e2).2 (idOf_cut i1) (idOf_cut i2)
 ·obtain ⟨n, e⟩ := hS k e
  have := hr.zsep k b e (idOf_cut i)
  exact ⟨hzn b this.1 (fun c => hr.sep k g b n e eS (idOf_cut i) c), this.2⟩
 ·obtain ⟨n, e⟩ := hS k e
  obtain ⟨a1, a2, a3⟩ := hr.mate k b blk m e (idOf_cut i) hb hm
  exact ⟨a1, hzn m a2 (a3 g eS), fun k' e' i' => a3 k' (hS k' e').2 (idOf_cut i')⟩
 ·by_cases c : Z b = none
  ·rw [c]; exact hzn b c (fun x => hf ⟨g, eS, .inl x⟩)
  ·cases hb' : Z b with
   | none => exact absurd hb' c
   | some zb => exact hz b zb hb'
 ·obtain ⟨k, e, f⟩ := hf
  refine ⟨k, (hS k e).2, ?_⟩
  rcases f with f | ⟨b', blk, f, f2⟩
  ·exact .inl (idOf_cut f)
  ·exact .inr ⟨b', blk, idOf_cut f, f2⟩
 ·rw [ho k (fun c => by subst c; exact hno _ e hnl)]
  exact e
 ·obtain ⟨k, e, f⟩ := ho'
  exact ⟨k, (hS k e).2, idOf_cut f⟩
 ·by_cases c : idOf om g b
  ·exact ⟨g, eS, c⟩
  ·exact absurd (hzn b h1 c) h2
theorem GRel.noNail (hr : GRel Z om HG H) {g w : Nat} {full : Fl} {cs : List (List GV)} (hmv : (Nat.ble 8 g && Nat.blt g 10) = false) (hg : lkP HG g = some (.arr full w cs)) : ∀ l, om g = some l → ¬ nailed g l := fun l e hnl => by
 obtain ⟨n1, n2⟩ := hnl
 rcases n2 with n2 | ⟨b, rfl⟩
 ·rw [Eq.mpr Nat.ble_eq n2, Bool.true_and] at hmv
  have : Nat.blt g 10 = true := Eq.mpr Nat.ble_eq n1
  rw [this] at hmv; cases hmv
 ·rcases hr.arr hg with ⟨c1, _⟩ | ⟨_, _, _, _, _, c1, _⟩ <;> rw [c1] at e <;> cases e
theorem GRel.freeze (hr : GRel Z om HG H) {g w : Nat} {full : Fl} {cs : List (List GV)} (hmv : (Nat.ble 8 g && Nat.blt g 10) = false) (hg : lkP HG g = some (.arr full w cs)) :
 ∃ Z' om', ZLe Z Z' ∧ GRel Z' om' (fzH g (.fsl w cs) HG) H ∧ (∀ u a, VR Z om u a → VR Z' om' (GV.fz g (.fsl w cs) u) a) ∧ Ext Z om HG H Z' om' (fzH g (.fsl w cs) HG) H := by
 have eS : (lkP HG g).isSome = true := by rw [hg]; rfl
 rcases hr.arr hg with ⟨c1, rfl⟩ | ⟨b, o, cap, ex, blk, c1, c2, c3, c4, c5, c6, c7, c8⟩
 ·refine ⟨Z, _, .refl _, hr.fzKey eS (hr.noNail hmv hg) _ (.refl _) (fun b zb h => .inl h) (fun a ha => ?_)⟩
  rcases ha with ha | ha
  ·rcases ha.osl_inv with ⟨_, _, _, _, _, _, e', rfl⟩ | ⟨e', rfl⟩
   ·rw [c1] at e'; cases e'
   ·exact .pure .fnil
  ·rcases ha.msl_inv with ⟨_, _, _, _, _, e', rfl⟩ | ⟨e', rfl⟩
   ·rw [c1] at e'; cases e'
   ·exact .pure .fnil
 ·have hid : idOf om g b := idOf_eq c1 rfl
  have hzb := (hr.zsep g b eS hid).1
  have hz : ZLe Z (fun k => if k = b then some ⟨blk.cells, blk.es⟩ else Z k) := fun k zb e => by
   show (if k = b then _ else _) = _
   rw [if_neg (fun c => by rw [c, hzb] at e; cases e)]; exact e
  refine ⟨_, _, hz, hr.fzKey eS (hr.noNail hmv hg) _ hz (fun k zb h => ?_) (fun a ha => ?_)⟩
  ·by_cases c : k = b
   ·subst c
    have h' : (if k = k then some (⟨blk.cells, blk.es⟩ : ZB) else Z k) = some zb := h
    rw [if_pos rfl] at h'
    cases h'
    exact .inr ⟨hid, blk, c2, rfl, rfl⟩
   ·have h' : (if k = b then some (⟨blk.cells, blk.es⟩ : ZB) else Z k) = some zb := h
    rw [if_neg c] at h'
    exact .inl h'
  ·rcases ha with ha | ha
   ·rcases ha.osl_inv with ⟨_, _, _, _, _, _, e', rfl⟩ | ⟨e', rfl⟩
    ·rw [c1] at e'; cases e'
     exact .pure (PR.sl (zb := ⟨blk.cells, blk.es⟩) (if_pos rfl) c4 rfl c5 (c8.mono hz))
    ·rw [c1] at e'; cases e'
   ·rcases ha.msl_inv with ⟨_, _, _, _, _, e', rfl⟩ | ⟨e', rfl⟩ <;> rw [c1] at e' <;> cases e'
end
section
variable {A : AProg} {L : GFr} {HG : GHp} {l : List AOper}
theorem FR.fz {Z Z' : ZM} {om om' : Om} {L : GFr} {fr : T AV} {g : Nat} {v : GV} (h : FR Z om L fr) (hv : ∀ u a, VR Z om u a → VR Z' om' (GV.fz g v u) a) : FR Z' om' (fzF g v L) fr := fun k x e => by
 rw [lkP_fzF] at e
 cases hx : lkP L k with
 | none => rw [hx] at e; cases e
 | some y =>
   rw [hx] at e; cases e
   obtain ⟨a, h1, h2⟩ := h k y hx
   exact ⟨a, h1, hv y a h2⟩
theorem WpG.freeze {c : AC} {Q : AE → GFr → GHp → Prop} (g : Nat) {w : Nat} {full : Fl} {cs : List (List GV)} (hg : lkP HG g = some (.arr full w cs)) (h : WpG A c (fzF g (.fsl w cs) L) (fzH g (.fsl w cs) HG) Q) (hmv : (Nat.ble 8 g && Nat.blt g 10) = false := by rfl) : WpG A c L HG Q := fun Z om fr H hr hf => by
 obtain ⟨Z', om', h1, h2, h3, h4⟩ := hr.freeze hmv hg
 refine (h Z' om' fr H h2 (hf.fz h3)).mono ?_
 rintro e fr' H' ⟨Z2, om2, L2, HG2, a2, b2, c2, d2⟩
 exact ⟨Z2, om2, L2, HG2, a2, b2, h4.trans c2, d2⟩
theorem WpOpsG.freeze {Q : GFr → GHp → Prop} (g : Nat) {w : Nat} {full : Fl} {cs : List (List GV)} (hg : lkP HG g = some (.arr full w cs)) (h : WpOpsG A l (fzF g (.fsl w cs) L) (fzH g (.fsl w cs) HG) Q) (hmv : (Nat.ble 8 g && Nat.blt g 10) = false := by rfl) : WpOpsG A l L HG Q := fun Z om fr H hr hf => by
 obtain ⟨Z', om', h1, h2, h3, h4⟩ := hr.freeze hmv hg
 refine (h Z' om' fr H h2 (hf.fz h3)).mono ?_
 rintro fr' H' ⟨Z2, om2, L2, HG2, a2, b2, c2, d2⟩
 exact ⟨Z2, om2, L2, HG2, a2, b2, h4.trans c2, d2⟩
end
end Go.AM
