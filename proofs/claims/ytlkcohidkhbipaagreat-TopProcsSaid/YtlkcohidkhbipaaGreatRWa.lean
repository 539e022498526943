/- From the memory of a call to the machine: the frame of a row. No condition. -/
import Derived.Test.YtlkcohidkhbipaaGreatGMb
import Derived.ChangeArms
import GoSem.Claim
import GoSem.ClaimJoined
import Derived.ProofKit
import Derived.ShutString
import Derived.ChangeOld
import Derived.SizedLaws
import Derived.Carry
set_option linter.all false
namespace Go.AM
open Go.RowKit
/-! ## From the program's memory to the machine -/
section
variable {W : World}
inductive Rep (W : World) : Value → GV → Prop where
 | v {x : Value} (h : x.oneCell' = true) : Rep W x (.v x)
 | nil {w : Nat} : Rep W (.slice none 0 0) (.fsl w [])
 | sl {a : Addr} {len cap w : Nat} {cs : List (List GV)} {cur : Array Value} {e : TypeId} {fz : Nat × Nat} (f : Nat → Nat → Value) (hs : a.spot = none) (hb : W.heap[a.block]? = some (.cells cur e fz)) (hsz : a.off + cap * w ≤ cur.size)
    (hl : len = cs.length) (hcap : len ≤ cap) (hw : ∀ c, c ∈ cs → c.length = w)
    (hc : ∀ (i k : Nat) (c : List GV) (x : GV), cs[i]? = some c → c[k]? = some x → cur[a.off + i * w + k]? = some (f i k))
    (hp : ∀ (i k : Nat) (c : List GV) (x : GV), cs[i]? = some c → c[k]? = some x → Rep W (f i k) x) : Rep W (.slice (some a) len cap) (.fsl w cs)
 | sl0 {a : Addr} {w r : Nat} {cur : Array Value} {e : TypeId} {fz : Nat × Nat} (hb : W.heap[r]? = some (.cells cur e fz)) : Rep W (.slice (some a) 0 0) (.fsl w [])
structure BS (W : World) (φ : Phi) (H : Heap) (Z : ZM) : Prop where
 rel : HRel W.heap.size φ H W
 ro : ∀ b blk, H.blks.get b = some blk → blk.wr = false
 dom : ∀ b, H.next ≤ b → φ b = none
 zok : ∀ b zb, Z b = some zb → b < H.next ∧ ∃ blk, H.blks.get b = some blk ∧ blk.cells = zb.cells ∧ blk.es = zb.es
theorem VRel.monoC {φ φ' : Phi} (h : Le φ φ') {B : Nat} {w : World} {blk : Blk} {p : Pl} (k : BRel B φ w blk p) : BRel B φ' w blk p := by
 obtain ⟨es, cur, e, fz, h1, h2, h3, h4, h5⟩ := k
 exact ⟨es, cur, e, fz, h1, h2, h3, fun i c hc => by obtain ⟨x, a, b, d⟩ := h4 i c hc; exact ⟨x, a, b.mono h, d⟩, h5⟩
theorem BS.add {φ : Phi} {H : Heap} {Z : ZM} (h : BS W φ H Z) {r o es : Nat} {cur : Array Value} {e : TypeId} {fz : Nat × Nat} (hb : W.heap[r]? = some (.cells cur e fz)) (ho : o ≤ cur.size) {cells : List AV} (hl : cells.length ≤ cur.size - o)
 (hc : ∀ (i : Nat) (c : AV), cells[i]? = some c → ∃ x : Value, cur[o + i]? = some x ∧ VRel φ c x ∧ c.one = true) :
 ∃ φ' H' Z', BS W φ' H' Z' ∧ Le φ φ' ∧ ZLe Z Z' ∧ φ' H.next = some ⟨r, o, cur.size - o, es, false⟩ ∧ Z' H.next = some ⟨cells, es⟩ := by
 have hle : Le φ (fun b => if b = H.next then some ⟨r, o, cur.size - o, es, false⟩ else φ b) := fun b p k => by
  show (if b = H.next then _ else _) = _
  rw [if_neg (fun c => by rw [c, h.dom _ (Nat.le_refl _)] at k; cases k)]; exact k
 have hz : ZLe Z (fun b => if b = H.next then some ⟨cells, es⟩ else Z b) := fun b zb k => by
  show (if b = H.next then _ else _) = _
  rw [if_neg (fun c => by rw [c] at k; have := (h.zok _ _ k).1; omega)]; exact k
 refine ⟨_, ⟨H.next + 1, H.blks.set H.next (some ⟨cells, false, none, es⟩)⟩, _, ⟨⟨fun b blk p k1 k2 km => ?_, fun b blk p k1 k2 km => ?_, fun b blk b' blk' p p' k1 k2 k3 k4 _ _ _ => ?_, Nat.le_refl _, fun b k => ?_⟩, fun b blk k => ?_, fun b k => ?_, fun b zb k => ?_⟩, hle, hz, if_pos rfl, if_pos rfl⟩
 ·simp only [T.get_set] at k1
  by_cases c : b = H.next
  ·rw [if_pos c] at k1; cases k1
   have k2' : (if b = H.next then some (⟨r, o, cur.size - o, es, false⟩ : Pl) else φ b) = some p := k2
   rw [if_pos c] at k2'; cases k2'
   exact ⟨rfl, cur, e, fz, hb, by show cur.size = o + (cur.size - o); omega, hl, fun i c' k => by obtain ⟨x, a1, a2, a3⟩ := hc i c' k; exact ⟨x, a1, a2.mono hle, a3⟩, fun k => by cases k⟩
  ·rw [if_neg c] at k1
   have k2' : (if b = H.next then some (⟨r, o, cur.size - o, es, false⟩ : Pl) else φ b) = some p := k2
   rw [if_neg c] at k2'
   exact VRel.monoC hle (h.rel.blk b blk p k1 k2' km)
 ·simp only [T.get_set] at k1
  by_cases c : b = H.next
  ·have k2' : (if b = H.next then some (⟨r, o, cur.size - o, es, false⟩ : Pl) else φ b) = some p := k2
   rw [if_pos c] at k2'; cases k2'; cases km
  ·rw [if_neg c] at k1
   have k2' : (if b = H.next then some (⟨r, o, cur.size - o, es, false⟩ : Pl) else φ b) = some p := k2
   rw [if_neg c] at k2'
   obtain ⟨a1, a2, a3⟩ := h.rel.mpr b blk p k1 k2' km
   exact ⟨a1, a2, a3⟩
 ·simp only [T.get_set] at k1
  split at k1
  ·cases k1; cases k4
  ·rw [h.ro b blk k1] at k4; cases k4
 ·simp only [T.get_set]
  have k' : H.next + 1 ≤ b := k
  rw [if_neg (by omega)]; exact h.rel.lt b (by omega)
 ·simp only [T.get_set] at k
  split at k
  ·cases k; rfl
  ·exact h.ro b blk k
 ·have k' : H.next + 1 ≤ b := k
  show (if b = H.next then _ else _) = _
  rw [if_neg (by omega)]; exact h.dom b (by omega)
 ·have k' : (if b = H.next then some (⟨cells, es⟩ : ZB) else Z b) = some zb := k
  by_cases c : b = H.next
  ·rw [if_pos c] at k'; cases k'
   exact ⟨by show b < H.next + 1; omega, ⟨cells, false, none, es⟩, by simp only [T.get_set]; rw [if_pos c], rfl, rfl⟩
  ·rw [if_neg c] at k'
   obtain ⟨a1, blk, a2, a3⟩ := h.zok b zb k'
   exact ⟨by show b < H.next + 1; omega, blk, by simp only [T.get_set]; rw [if_neg c]; exact a2, a3⟩
def Lays (W : World) (x : Value) (g : GV) : Prop := ∀ φ H Z, BS W φ H Z → ∃ φ' H' Z' a, BS W φ' H' Z' ∧ Le φ φ' ∧ ZLe Z Z' ∧ VRel φ' a x ∧ PR Z' g a ∧ a.one = true
theorem lays_all {xs : Nat → Value} {gs : Nat → GV} : ∀ (n : Nat), (∀ j, j < n → Lays W (xs j) (gs j)) → ∀ φ H Z, BS W φ H Z →
 ∃ φ' H' Z' , ∃ as : List AV, BS W φ' H' Z' ∧ Le φ φ' ∧ ZLe Z Z' ∧ as.length = n ∧ ∀ (j : Nat) (a : AV), as[j]? = some a → VRel φ' a (xs j) ∧ PR Z' (gs j) a ∧ a.one = true
 | 0, _, φ, H, Z, h => ⟨φ, H, Z, [], h, .refl _, .refl _, rfl, fun j a e => by simp at e⟩
 | n + 1, hl, φ, H, Z, h => by
   obtain ⟨φ1, H1, Z1, as, b1, b2, b3, b4, b5⟩ := lays_all n (fun j hj => hl j (by omega)) φ H Z h
   obtain ⟨φ2, H2, Z2, a, c1, c2, c3, c4, c5, c6⟩ := hl n (by omega) φ1 H1 Z1 b1
   refine ⟨φ2, H2, Z2, as ++ [a], c1, b2.trans c2, b3.trans c3, by simp [b4], fun j x e => ?_⟩
   by_cases hj : j < n
   ·rw [List.getElem?_append_left (by omega)] at e
    obtain ⟨d1, d2, d3⟩ := b5 j x e
    exact ⟨d1.mono c2, d2.mono c3, d3⟩
   ·rw [List.getElem?_append_right (by omega)] at e
    have : j - as.length = 0 := by
     have := (List.getElem?_eq_some_iff.1 e).1
     simp at this; exact this
    rw [this] at e; cases e
    have : j = n := by omega
    subst this
    exact ⟨c4, c5, c6⟩
theorem Rep.lays {x : Value} {g : GV} (h : Rep W x g) : Lays W x g := by
 induction h with
 | v h =>
   intro φ H Z hb
   refine ⟨φ, H, Z, .v _, hb, .refl _, .refl _, .v h, .v _, rfl⟩
 | nil =>
   intro φ H Z hb
   exact ⟨φ, H, Z, .v (.slice none 0 0), hb, .refl _, .refl _, .v rfl, .fnil, rfl⟩
 | @sl0 a w r cur e fz hb =>
   intro φ H Z h
   obtain ⟨φ', H', Z', c1, c2, c3, c4, c5⟩ := h.add (o := cur.size) (es := w) hb (Nat.le_refl _) (cells := []) (Nat.zero_le _) (fun i c e => by simp at e)
   exact ⟨φ', H', Z', .sl H.next 0 0 0 false, c1, c2, c3, .sl c4 (Nat.le_refl _) (Nat.le_refl _) (fun e => by cases e) (by show 0 + 0 * w ≤ _; omega) (.inl rfl) rfl, PR.sl c5 rfl rfl (Nat.le_refl _) (fun i c e => by simp at e), rfl⟩
 | @sl a len cap w cs cur e fz f hs hb hsz hl hcap hw hc hp ih =>
   intro φ H Z h
   have hat : ∀ j, j < len * w → ∃ c x, cs[j / w]? = some c ∧ c[j % w]? = some x := fun j hj => by
    have hw0 : 0 < w := Nat.pos_of_ne_zero fun e => by rw [e, Nat.mul_zero] at hj; omega
    have h1 : j / w < cs.length := by rw [← hl]; exact Nat.div_lt_of_lt_mul (by rw [Nat.mul_comm]; exact hj)
    have h2 := hw _ (List.getElem_mem h1)
    have h3 : j % w < (cs[j / w]).length := by rw [h2]; exact Nat.mod_lt _ hw0
    exact ⟨cs[j / w], (cs[j / w])[j % w], by simp [h1], by simp [h3]⟩
   obtain ⟨φ1, H1, Z1, as, b1, b2, b3, b4, b5⟩ := lays_all (W := W) (xs := fun j => f (j / w) (j % w)) (gs := fun j => ((cs[j / w]?).bind fun c => c[j % w]?).getD .any) (len * w) (fun j hj => by
    obtain ⟨c, x, h1, h2⟩ := hat j hj
    have := ih _ _ c x h1 h2
    rw [show ((cs[j / w]?).bind fun c => c[j % w]?).getD .any = x by rw [h1]; simp [h2]]
    exact this) φ H Z h
   have hlen2 : len * w ≤ cap * w := Nat.mul_le_mul_right w hcap
   obtain ⟨φ', H', Z', c1, c2, c3, c4, c5⟩ := b1.add (o := a.off) (es := w) hb (by omega) (cells := as) (by rw [b4]; omega) (fun j x e' => by
    have hj : j < len * w := by rw [← b4]; exact (List.getElem?_eq_some_iff.1 e').1
    obtain ⟨c, y, h1, h2⟩ := hat j hj
    have h3 := hc _ _ c y h1 h2
    obtain ⟨d1, d2, d3⟩ := b5 j x e'
    refine ⟨_, ?_, d1, d3⟩
    rw [← h3]; congr 1
    have := Nat.div_add_mod j w
    rw [Nat.mul_comm] at this; omega)
   refine ⟨φ', H', Z', .sl H1.next 0 len cap false, c1, b2.trans c2, b3.trans c3, ?_, ?_, rfl⟩
   ·refine .sl c4 hcap (Nat.le_refl _) (fun e => by cases e) (by show 0 + cap * w ≤ cur.size - a.off; omega) (.inr ?_) rfl
    cases a; cases hs; rfl
   ·refine PR.sl c5 rfl hl hcap fun i c e' => ⟨hw c (List.mem_of_getElem? e'), fun k x e'' => ?_⟩
    have hi := (List.getElem?_eq_some_iff.1 e').1
    have hk : k < w := by rw [← hw c (List.mem_of_getElem? e')]; exact (List.getElem?_eq_some_iff.1 e'').1
    have hj : i * w + k < as.length := by
     rw [b4, hl]
     have := Nat.mul_le_mul_right w (show i + 1 ≤ cs.length by omega)
     rw [Nat.add_mul] at this; omega
    refine ⟨as[i * w + k], by simp [hj], ?_⟩
    obtain ⟨_, d2, _⟩ := b5 (i * w + k) as[i * w + k] (by simp [hj])
    have hw0 : 0 < w := by omega
    have e1 : (i * w + k) / w = i := by rw [Nat.mul_comm, Nat.mul_add_div hw0, Nat.div_eq_of_lt hk, Nat.add_zero]
    have e2 : (i * w + k) % w = k := by rw [Nat.mul_comm, Nat.mul_add_mod, Nat.mod_eq_of_lt hk]
    have e3 : ((cs[(i * w + k) / w]?).bind fun c => c[(i * w + k) % w]?).getD .any = x := by rw [e1, e2, e']; simp [e'']
    rw [e3] at d2
    exact d2.mono c3
inductive RepV (W : World) : Value → GV → Prop where
 | one {x : Value} {g : GV} (h : Rep W x g) : RepV W x g
 | agg {xs : Array Value} {gs : List GV} (hl : gs.length = xs.size) (h : ∀ (i : Nat) (g : GV) (x : Value), gs[i]? = some g → xs[i]? = some x → Rep W x g) : RepV W (.agg xs) (.agg gs)
theorem RepV.lays {x : Value} {g : GV} (h : RepV W x g) {φ : Phi} {H : Heap} {Z : ZM} (hb : BS W φ H Z) : ∃ φ' H' Z' a, BS W φ' H' Z' ∧ Le φ φ' ∧ ZLe Z Z' ∧ VRel φ' a x ∧ PR Z' g a := by
 cases h with
 | one h => obtain ⟨φ', H', Z', a, h1, h2, h3, h4, h5, _⟩ := h.lays φ H Z hb; exact ⟨φ', H', Z', a, h1, h2, h3, h4, h5⟩
 | @agg xs gs hl h =>
   obtain ⟨φ', H', Z', as, b1, b2, b3, b4, b5⟩ := lays_all (W := W) (xs := fun j => xs.getD j (.bool false)) (gs := fun j => gs.getD j .any) gs.length (fun j hj => by
    have h2 : j < xs.size := by omega
    have := (h j gs[j] xs[j] (by simp [hj]) (by simp [h2])).lays
    rw [show xs.getD j (.bool false) = xs[j] by simp [Array.getD, h2], show gs.getD j .any = gs[j] by simp [List.getD, hj]]
    exact this) φ H Z hb
   refine ⟨φ', H', Z', .agg as, b1, b2, b3, .agg (by omega) (fun i c x e1 e2 => ?_) (fun c hc => ?_), .agg b4.symm fun i c a e1 e2 => ?_⟩
   ·have := (b5 i c e1).1
    rwa [show xs.getD i (.bool false) = x by simp [Array.getD, e2, (Array.getElem?_eq_some_iff.1 e2).1, (Array.getElem?_eq_some_iff.1 e2).2]] at this
   ·obtain ⟨i, hi⟩ := List.getElem?_of_mem hc
    exact (b5 i c hi).2.2
   ·have := (b5 i a e2).2.1
    rwa [show gs.getD i .any = c by simp [List.getD, e1]] at this
theorem lays_args : ∀ (gs : List GV) (xs : List Value), gs.length = xs.length → (∀ (i : Nat) (g : GV) (x : Value), gs[i]? = some g → xs[i]? = some x → RepV W x g) → ∀ φ H Z, BS W φ H Z →
 ∃ φ' H' Z' , ∃ as : List AV, BS W φ' H' Z' ∧ Le φ φ' ∧ ZLe Z Z' ∧ as.length = xs.length ∧ (∀ (i : Nat) (a : AV) (x : Value), as[i]? = some a → xs[i]? = some x → VRel φ' a x) ∧ VRs Z' (fun _ => none) gs as
 | [], [], _, _, φ, H, Z, h => ⟨φ, H, Z, [], h, .refl _, .refl _, rfl, fun i a x e => by simp at e, .nil⟩
 | [], _ :: _, hl, _, _, _, _, _ => by simp at hl
 | _ :: _, [], hl, _, _, _, _, _ => by simp at hl
 | g :: gs, x :: xs, hl, hr, φ, H, Z, h => by
   obtain ⟨φ1, H1, Z1, a, b1, b2, b3, b4, b5⟩ := (hr 0 g x rfl rfl).lays h
   obtain ⟨φ2, H2, Z2, as, c1, c2, c3, c4, c5, c6⟩ := lays_args gs xs (by simpa using hl) (fun i g' x' e1 e2 => hr (i + 1) g' x' (by simpa using e1) (by simpa using e2)) φ1 H1 Z1 b1
   refine ⟨φ2, H2, Z2, a :: as, c1, b2.trans c2, b3.trans c3, by simp [c4], fun i y z e1 e2 => ?_, .cons (.pure (b5.mono c3)) c6⟩
   cases i with
   | zero => simp at e1 e2; subst e1; subst e2; exact b4.mono c2
   | succ i => exact c5 i y z (by simpa using e1) (by simpa using e2)
end
theorem entry {P : Program} {A : AProg} (hL : Linked P A) {f : Nat} {gs : List GV} (hc : WpCallG A f gs [] (fun v H => v = .v (.bool true) ∧ H = [])) {W : World} {args : Array Value} (hl : gs.length = args.size)
 (hr : ∀ (i : Nat) (g : GV) (x : Value), gs[i]? = some g → args[i]? = some x → RepV W x g) : Calls P f args W fun e w' => e = .returned (.bool true) ∧ Below W.heap.size W w' := by
 have hb0 : BS W (fun _ => none) H0 (fun _ => none) := ⟨⟨fun b blk p h => by simp [H0, T.get_e] at h, fun b blk p h => by simp [H0, T.get_e] at h, fun b blk b' blk' p p' h => by simp [H0, T.get_e] at h, Nat.le_refl _, fun b _ => T.get_e b⟩, fun b blk h => by simp [H0, T.get_e] at h, fun _ _ => rfl, fun b zb h => by cases h⟩
 obtain ⟨φ, H, Z, as, b1, b2, b3, b4, b5, b6⟩ := lays_args gs args.toList (by simpa using hl) (fun i g x e1 e2 => hr i g x e1 (by simpa using e2)) _ _ _ hb0
 have hrel : GRel Z (fun _ => none) [] H := ⟨fun _ _ => rfl, b1.zok, (fun g blk e => by cases e), (fun g g' b n e => by cases e), (fun g b e => by cases e), (fun g b blk m e => by cases e)⟩
 obtain ⟨n, v, H', h1, Z', om', g, HG', k1, k2, k3, k4, rfl, rfl⟩ := hc Z _ as H hrel b6
 obtain rfl := k2.v_inv
 obtain ⟨_, hcall⟩ := call_sound_all (B := W.heap.size) hL n f as H _ H' φ W args h1 b1.rel (fun b hb _ => b1.dom b hb) (by rw [b4]; simp) (fun i c y e1 e2 => b5 i c y e1 (by simpa using e2))
 refine hcall.mono ?_
 rintro e w' ⟨x, φ', rfl, hs, hv⟩
 cases hv
 refine ⟨rfl, hs.os, hs.tape, hs.output, hs.size, fun r hr => hs.rows r hr ?_⟩
 rintro ⟨b, blk, p, q1, q2, _⟩
 rw [b1.ro b blk q1] at q2; cases q2
end Go.AM
set_option linter.all false
namespace Go.AM
open Go.RowKit
/-! ## What an argument reads as -/
def HasRow (W : World) : Prop := ∃ (r : Nat) (cur : Array Value) (e : TypeId) (fz : Nat × Nat), W.heap[r]? = some (.cells cur e fz)
section
variable {M : Nat} {P : Program} {W : World}
def Fine (M : Nat) (P : Program) (t : TypeId) {H : Type} (d : DataW H) : Prop := ∀ n, n ∈ d.weights P t → n ≤ M
structure RC (M : Nat) (P : Program) (W : World) {α : Type} (t : TypeId) (w : Nat) (enc : α → List GV) (ok : α → Prop) : Prop where
 cells : P.cellsOf t = w
 len : ∀ x, ok x → (enc x).length = w
 rd : ∀ {H : Type} {en : TypeId × Value → H} {fuel : Nat} {cs : List Value} {d : DataW H} {ps : List MemPlace}, DataW.trod en P W 0 (fun _ => true) true fuel t cs = some (d, ps) → Fine M P t d → (∀ a, Value.slice (some a) 0 0 ∈ cs → HasRow W) →
  ∃ x, ok x ∧ cs.length = w ∧ ∀ (i : Nat) (g : GV) (v : Value), (enc x)[i]? = some g → cs[i]? = some v → Rep W v g
theorem RC.int {t : TypeId} {k : IntKind} (ht : P.underlying t = some (.int k)) (hc : P.cellsOf t = 1) : RC M P W t 1 (fun n : Int => [.v (.int k n)]) (fun n => (Lit.int k n).wf = true) :=
 ⟨hc, fun _ _ => rfl, fun h _ _ => by
  obtain ⟨n, rfl, _, hw⟩ := DataW.trod_int ht h
  refine ⟨n, hw, rfl, fun i g v e1 e2 => ?_⟩
  cases i with
  | zero => cases e1; cases e2; exact .v rfl
  | succ i => simp at e1⟩
theorem RC.bool {t : TypeId} (ht : P.underlying t = some .bool) (hc : P.cellsOf t = 1) : RC M P W t 1 (fun n : Bool => [.v (.bool n)]) (fun _ => True) :=
 ⟨hc, fun _ _ => rfl, fun h _ _ => by
  obtain ⟨n, rfl, _⟩ := DataW.trod_bool ht h
  refine ⟨n, trivial, rfl, fun i g v e1 e2 => ?_⟩
  cases i with
  | zero => cases e1; cases e2; exact .v rfl
  | succ i => simp at e1⟩
theorem RC.map {α β : Type} {t : TypeId} {w : Nat} {enc : α → List GV} {enc' : β → List GV} {ok : α → Prop} {ok' : β → Prop} (h : RC M P W t w enc ok) (f : α → β) (hf : ∀ x, ok x → ok' (f x) ∧ enc' (f x) = enc x) (hl : ∀ y, ok' y → (enc' y).length = w) : RC M P W t w enc' ok' :=
 ⟨h.cells, hl, fun h1 h2 h3 => by
  obtain ⟨x, a, b, c⟩ := h.rd h1 h2 h3
  obtain ⟨e1, e2⟩ := hf x a
  exact ⟨f x, e1, b, fun i g v k1 k2 => c i g v (by rw [← e2]; exact k1) k2⟩⟩
theorem cells_at {a : Addr} {n : Nat} {l : List Value} (h : W.cells? 0 a n = some l) (hn : 0 < n) : l.length = n ∧ a.spot = none ∧ ∃ cur e fz, W.heap[a.block]? = some (.cells cur e fz) ∧ ∀ k, k < n → cur[a.off + k]? = l[k]? := by
 unfold World.cells? at h
 rw [if_pos (Nat.zero_le _)] at h
 have hl := mapM_some_length h
 simp at hl
 have hat : ∀ k, k < n → W.cell? (a.add k) = l[k]? := fun k hk => mapM_some_get h k k (by simp [hk])
 have h0 := hat 0 hn
 have hl0 : l[0]? = some (l[0]'(by omega)) := by simp [hl, hn]
 rw [hl0] at h0
 have ha0 : a.add 0 = a := by simp [Addr.add]
 rw [ha0] at h0
 unfold World.cell? at h0
 split at h0
 ·rename_i cur e fz hb
  split at h0
  ·cases h0
  ·rename_i hs
   refine ⟨hl, by simpa using hs, cur, e, fz, hb, fun k hk => ?_⟩
   rw [← hat k hk]
   unfold World.cell?
   by_cases hk0 : k = 0
   ·subst hk0
    rw [ha0]
    simp only [hb]
    rw [if_neg hs]; rfl
   ·have hadd : a.add k = { a with off := a.off + k, spot := none } := by simp [Addr.add, hk0]
    rw [hadd]
    simp only [hb]
    simp
 ·cases h0
theorem weightsAll_mem {e : TypeId} {H : Type} : ∀ {l : List (DataW H)} {d : DataW H} {n : Nat}, d ∈ l → n ∈ d.weights P e → n ∈ DataW.weightsAll P e l
 | x :: l, d, n, h, k => by
   rw [DataW.weightsAll, List.mem_append]
   rcases List.mem_cons.1 h with h | h
   ·subst h; exact .inl k
   ·exact .inr (weightsAll_mem h k)
theorem RC.slice {α : Type} {t e : TypeId} {w : Nat} {enc : α → List GV} {ok : α → Prop} (ht : P.underlying t = some (.slice e)) (hc : P.cellsOf t = 1) (he : RC M P W e w enc ok) (hw : 0 < w) :
 RC M P W t 1 (fun l : List α => [.fsl w (l.map enc)]) (fun l => (∀ x, x ∈ l → ok x) ∧ l.length * P.bytesOf e ≤ M) :=
 ⟨hc, fun _ _ => rfl, fun {H en fuel cs d ps} h hf hrow => by
  rcases DataW.trod_slice ht h with ⟨rfl, hx⟩ | ⟨a, len, cap, elems, rest, n, rfl, rfl, hx, _, hlc, _, hlen, hel, hsp, _⟩
  ·refine ⟨[], ⟨(fun x hx => by cases hx), by simp⟩, rfl, fun i g v e1 e2 => ?_⟩
   cases i with
   | zero => cases e1; cases e2; exact .nil
   | succ i => simp at e1
  ·simp only [Prod.mk.injEq] at hx
   obtain ⟨rfl, rfl⟩ := hx
   obtain ⟨hrl, hr⟩ := hsp rfl
   have hwt : (elems.length + rest.length) * P.bytesOf e ≤ M := hf _ (by simp [DataW.weights, ht])
   by_cases hcap : cap = 0
   ·subst hcap
    obtain rfl : len = 0 := by omega
    obtain ⟨r, cur, e', fz, hb⟩ := hrow a List.mem_cons_self
    refine ⟨[], ⟨(fun x hx => by cases hx), by simp⟩, rfl, fun i g v e1 e2 => ?_⟩
    cases i with
    | zero => cases e1; cases e2; exact .sl0 hb
    | succ i => simp at e1
   ·-- every place is read
    have each : ∀ j, j < cap → ∃ l y, W.cells? 0 (a.add (j * w)) w = some l ∧ DataW.trod en P W 0 (fun _ => true) true n e l = some y ∧ (j < len → elems[j]? = some y) := fun j hj => by
     by_cases hjl : j < len
     ·have h1 := hel j hjl
      have h2 : elems[j]? = some (elems[j]'(by omega)) := by first | (simp; done) | (simp; omega)
      rw [h2, Option.bind_eq_some_iff] at h1
      obtain ⟨l, l1, l2⟩ := h1
      rw [he.cells] at l1
      exact ⟨l, _, l1, l2, fun _ => h2⟩
     ·have h1 := hr (j - len) (by omega)
      have h2 : rest[j - len]? = some (rest[j - len]'(by omega)) := by first | (simp; done) | (simp; omega)
      rw [h2, Option.bind_eq_some_iff] at h1
      obtain ⟨l, l1, l2⟩ := h1
      rw [he.cells, show len + (j - len) = j by omega] at l1
      exact ⟨l, _, l1, l2, fun c => absurd c hjl⟩
    obtain ⟨l0, y0, k0, _, _⟩ := each 0 (by omega)
    rw [Nat.zero_mul, show a.add 0 = a by simp [Addr.add]] at k0
    obtain ⟨_, hs, cur, e', fz, hb, _⟩ := cells_at k0 hw
    have hadd : ∀ m, a.add m = ⟨a.block, a.off + m, none⟩ := fun m => by
     cases a; simp at hs; subst hs
     simp only [Addr.add]; split
     ·rename_i c; subst c; rfl
     ·rfl
    have hcell : ∀ j, j < cap → ∃ l y, l.length = w ∧ (∀ k, k < w → cur[a.off + j * w + k]? = l[k]?) ∧ DataW.trod en P W 0 (fun _ => true) true n e l = some y ∧ (j < len → elems[j]? = some y) := fun j hj => by
     obtain ⟨l, y, q1, q2, q3⟩ := each j hj
     obtain ⟨r1, _, cur', e'', fz', hb', r2⟩ := cells_at q1 hw
     rw [hadd] at hb' r2
     simp only [] at hb' r2
     rw [hb] at hb'; cases hb'
     exact ⟨l, y, r1, r2, q2, q3⟩
    have hsz : a.off + cap * w ≤ cur.size := by
     obtain ⟨l, y, q1, q2, _⟩ := hcell (cap - 1) (by omega)
     have h1 := q2 (w - 1) (by omega)
     have h2 : l[w - 1]? = some (l[w - 1]'(by omega)) := by first | (simp; done) | (simp; omega)
     rw [h2] at h1
     have h3 := (Array.getElem?_eq_some_iff.1 h1).1
     have h4 : cap * w = (cap - 1) * w + w := by
      conv => lhs; rw [show cap = (cap - 1) + 1 by omega, Nat.add_mul, Nat.one_mul]
     omega
    have build : ∀ m, m ≤ len → ∃ l : List α, l.length = m ∧ ∀ (i : Nat) (x : α), l[i]? = some x → ok x ∧ ∀ (k : Nat) (g : GV), (enc x)[k]? = some g → ∃ v, cur[a.off + i * w + k]? = some v ∧ Rep W v g := by
     intro m
     induction m with
     | zero => intro _; exact ⟨[], rfl, fun i x e => by simp at e⟩
     | succ m ih =>
       intro hm
       obtain ⟨l, b1, b2⟩ := ih (by omega)
       obtain ⟨c, y, q1, q2, q3, q4⟩ := hcell m (by omega)
       obtain ⟨d', ps'⟩ := y
       have hmem : elems[m]? = some (d', ps') := q4 (by omega)
       obtain ⟨x, x1, x2, x3⟩ := he.rd q3 (fun n' hn' => hf n' (by
        simp only [DataW.weights, ht, List.mem_cons, List.mem_append]
        right; left
        exact weightsAll_mem (List.mem_map.2 ⟨_, List.mem_of_getElem? hmem, rfl⟩) hn')) (fun a' _ => ⟨_, cur, e', fz, hb⟩)
       refine ⟨l ++ [x], by simp [b1], fun i z e => ?_⟩
       by_cases hi : i < m
       ·rw [List.getElem?_append_left (by omega)] at e; exact b2 i z e
       ·rw [List.getElem?_append_right (by omega)] at e
        have hi0 : i - l.length = 0 := by
         have := (List.getElem?_eq_some_iff.1 e).1
         simp at this; exact this
        rw [hi0] at e; cases e
        have : i = m := by omega
        subst this
        refine ⟨x1, fun k g hg => ?_⟩
        have hk : k < w := by rw [← he.len x x1]; exact (List.getElem?_eq_some_iff.1 hg).1
        have hck : c[k]? = some (c[k]'(by omega)) := by first | (simp; done) | (simp; omega)
        exact ⟨_, by rw [q2 k hk, hck], x3 k g _ hg hck⟩
    obtain ⟨l, b1, b2⟩ := build len (Nat.le_refl _)
    refine ⟨l, ⟨fun x hx => ?_, ?_⟩, rfl, fun i g v e1 e2 => ?_⟩
    ·obtain ⟨i, hi⟩ := List.getElem?_of_mem hx
     exact (b2 i x hi).1
    ·refine Nat.le_trans (Nat.mul_le_mul_right _ ?_) hwt
     omega
    ·cases i with
     | zero =>
       cases e1; cases e2
       refine Rep.sl (fun i k => cur.getD (a.off + i * w + k) (.bool false)) hs hb hsz (by simp [b1]) hlc (fun c hc' => ?_) (fun i k c x hi hk => ?_) (fun i k c x hi hk => ?_)
       ·obtain ⟨y, hy, rfl⟩ := List.mem_map.1 hc'
        obtain ⟨i, hi⟩ := List.getElem?_of_mem hy
        exact he.len y (b2 i y hi).1
       all_goals
        rw [List.getElem?_map] at hi
        cases hy : l[i]? with
        | none => rw [hy] at hi; cases hi
        | some y =>
          rw [hy] at hi; cases hi
          obtain ⟨v, v1, v2⟩ := (b2 i y hy).2 k x hk
          have hg : cur.getD (a.off + i * w + k) (.bool false) = v := by
           obtain ⟨z1, z2⟩ := Array.getElem?_eq_some_iff.1 v1
           simp [Array.getD, z1, z2]
          first | (rw [v1, hg]; done) | (rw [hg]; exact v2)
     | succ i => simp at e1⟩
/-! structs, field by field -/
structure RCF (M : Nat) (P : Program) (W : World) {α : Type} (fs : List Field) (o w : Nat) (enc : α → List GV) (ok : α → Prop) : Prop where
 len : ∀ x, ok x → (enc x).length = w
 rd : ∀ {H : Type} {en : TypeId × Value → H} {n : Nat} {cs : List Value} {xs : List (DataW H × List MemPlace)}, xs.length = fs.length →
  (∀ (i : Nat) (f : Field), fs[i]? = some f → DataW.trod en P W 0 (fun _ => true) true n f.type ((cs.drop f.offset).take (P.cellsOf f.type)) = xs[i]?) → (∀ m, m ∈ DataW.weightsEach P (fs.map (·.type)) (xs.map (·.1)) → m ≤ M) →
  (∀ a, Value.slice (some a) 0 0 ∈ cs → HasRow W) → ∃ x, ok x ∧ ∀ (i : Nat) (g : GV) (v : Value), (enc x)[i]? = some g → cs[o + i]? = some v → Rep W v g
theorem RCF.nil {o : Nat} : RCF M P W [] o 0 (fun _ : Unit => []) (fun _ => True) :=
 ⟨fun _ _ => rfl, fun _ _ _ _ => ⟨(), trivial, fun i g v e => by simp at e⟩⟩
theorem RCF.cons {α β : Type} {f : Field} {fs : List Field} {o o' w w' : Nat} {enc : α → List GV} {enc' : β → List GV} {ok : α → Prop} {ok' : β → Prop} (ho : f.offset = o) (h : RC M P W f.type w enc ok) (ho' : o' = o + w) (k : RCF M P W fs o' w' enc' ok') :
 RCF M P W (f :: fs) o (w + w') (fun p : α × β => enc p.1 ++ enc' p.2) (fun p => ok p.1 ∧ ok' p.2) := by
 subst ho'
 refine ⟨fun x hx => by rw [List.length_append, h.len _ hx.1, k.len _ hx.2], fun {H en n cs xs} hl hr hw hrow => ?_⟩
 cases xs with
 | nil => simp at hl
 | cons y ys =>
   have h0 := hr 0 f rfl
   obtain ⟨d, ps⟩ := y
   rw [ho, h.cells] at h0
   have h0' : DataW.trod en P W 0 (fun _ => true) true n f.type ((cs.drop o).take w) = some (d, ps) := h0
   obtain ⟨x, x1, x2, x3⟩ := h.rd h0' (fun m hm => hw m (by
    simp only [List.map_cons, DataW.weightsEach, List.mem_append]; exact .inl hm)) (fun a ha => hrow a (List.mem_of_mem_drop (List.mem_of_mem_take ha)))
   obtain ⟨z, z1, z2⟩ := k.rd (xs := ys) (by simpa using hl) (fun i f' hf' => by have := hr (i + 1) f' (by simpa using hf'); simpa using this) (fun m hm => hw m (by
    simp only [List.map_cons, DataW.weightsEach, List.mem_append]; exact .inr hm)) hrow
   refine ⟨(x, z), ⟨x1, z1⟩, fun i g v e1 e2 => ?_⟩
   have hlen := h.len x x1
   by_cases hi : i < w
   ·have e1' : (enc x)[i]? = some g := by
     have : (enc x ++ enc' z)[i]? = some g := e1
     rwa [List.getElem?_append_left (by omega)] at this
    exact x3 i g v e1' (by rw [List.getElem?_take, if_pos hi, List.getElem?_drop]; exact e2)
   ·have e1' : (enc' z)[i - w]? = some g := by
     have : (enc x ++ enc' z)[i]? = some g := e1
     rwa [List.getElem?_append_right (by omega), hlen] at this
    exact z2 (i - w) g v e1' (by rw [show o + w + (i - w) = o + i by omega]; exact e2)
theorem RC.struct {α : Type} {t : TypeId} {fs : Array Field} {w : Nat} {enc : α → List GV} {ok : α → Prop} (ht : P.underlying t = some (.struct fs)) (hc : P.cellsOf t = w) (k : RCF M P W fs.toList 0 w enc ok) : RC M P W t w enc ok :=
 ⟨hc, k.len, fun {H en fuel cs d ps} h hf hrow => by
  obtain ⟨xs, n, rfl, hx, h1, h2, h3⟩ := DataW.trod_struct ht h
  simp only [Prod.mk.injEq] at hx
  obtain ⟨rfl, rfl⟩ := hx
  obtain ⟨x, x1, x2⟩ := k.rd (cs := cs) (xs := xs) (by simpa using h2) (fun i f hf' => h3 i f (by simpa using hf')) (fun m hm => hf m (by simp only [DataW.weights, ht]; exact hm)) hrow
  exact ⟨x, x1, by rw [h1, hc], fun i g v e1 e2 => x2 i g v e1 (by rw [Nat.zero_add]; exact e2)⟩⟩
/-! arrays -/
theorem trod_array {H : Type} {en : TypeId × Value → H} {t e : TypeId} {n fuel : Nat} {cs : List Value} {x : DataW H × List MemPlace} (ht : P.underlying t = some (.array n e)) (h : DataW.trod en P W 0 (fun _ => true) true fuel t cs = some x) :
 ∃ (xs : List (DataW H × List MemPlace)) (m : Nat), fuel = m + 1 ∧ x = (.agg (xs.map (·.1)), xs.flatMap (·.2)) ∧ cs.length = P.cellsOf t ∧ xs.length = n ∧
   ∀ (i : Nat), i < n → DataW.trod en P W 0 (fun _ => true) true m e ((cs.drop (i * P.cellsOf e)).take (P.cellsOf e)) = xs[i]? := by
 cases fuel with
 | zero => simp [DataW.trod] at h
 | succ m =>
   unfold DataW.trod at h
   rw [ht] at h
   split at h <;> simp_all
   obtain ⟨hl, xs, hp, hd⟩ := h
   exact ⟨xs, hd.symm, by simpa using mapM_some_length hp, fun i hf => mapM_some_get hp i i (by simp [hf])⟩
theorem RC.array {α : Type} {t e : TypeId} {n w : Nat} {enc : α → List GV} {ok : α → Prop} (ht : P.underlying t = some (.array n e)) (hc : P.cellsOf t = n * w) (he : RC M P W e w enc ok) :
 RC M P W t (n * w) (fun l : List α => l.flatMap enc) (fun l => l.length = n ∧ ∀ x, x ∈ l → ok x) := by
 have hlen : ∀ (l : List α), (∀ x, x ∈ l → ok x) → (l.flatMap enc).length = l.length * w := by
  intro l
  induction l with
  | nil => intro _; simp
  | cons x l ih => intro h; rw [List.flatMap_cons, List.length_append, he.len x (h x List.mem_cons_self), ih (fun y hy => h y (List.mem_cons_of_mem _ hy)), List.length_cons, Nat.add_mul]; omega
 refine ⟨hc, fun l hl => by rw [hlen l hl.2, hl.1], fun {H en fuel cs d ps} h hf hrow => ?_⟩
 obtain ⟨xs, m, rfl, hx, h1, h2, h3⟩ := trod_array ht h
 simp only [Prod.mk.injEq] at hx
 obtain ⟨rfl, rfl⟩ := hx
 have build : ∀ q, q ≤ n → ∃ l : List α, l.length = q ∧ (∀ x, x ∈ l → ok x) ∧ ∀ (i : Nat) (g : GV) (v : Value), (l.flatMap enc)[i]? = some g → cs[i]? = some v → Rep W v g := by
  intro q
  induction q with
  | zero => intro _; exact ⟨[], rfl, (fun x hx => by cases hx), fun i g v e => by simp at e⟩
  | succ q ih =>
    intro hq
    obtain ⟨l, b1, b2, b3⟩ := ih (by omega)
    have h4 := h3 q (by omega)
    have h5 : xs[q]? = some (xs[q]'(by omega)) := by first | (simp; done) | (simp; omega)
    rw [h5, he.cells] at h4
    have h6 : xs[q]'(by omega) ∈ xs := List.getElem_mem _
    generalize xs[q]'(by omega) = y at h4 h6
    obtain ⟨d', ps'⟩ := y
    obtain ⟨x, x1, x2, x3⟩ := he.rd h4 (fun n' hn' => hf n' (by
     simp only [DataW.weights, ht]
     exact weightsAll_mem (List.mem_map.2 ⟨_, h6, rfl⟩) hn')) (fun a ha => hrow a (List.mem_of_mem_drop (List.mem_of_mem_take ha)))
    refine ⟨l ++ [x], by simp [b1], fun z hz => ?_, fun i g v e1 e2 => ?_⟩
    ·rcases List.mem_append.1 hz with hz | hz
     ·exact b2 z hz
     ·rcases List.mem_singleton.1 hz with rfl; exact x1
    ·rw [List.flatMap_append] at e1
     have hll := hlen l b2
     by_cases hi : i < (l.flatMap enc).length
     ·rw [List.getElem?_append_left hi] at e1; exact b3 i g v e1 e2
     ·rw [List.getElem?_append_right (by omega)] at e1
      simp only [List.flatMap_cons, List.flatMap_nil, List.append_nil] at e1
      have hk := (List.getElem?_eq_some_iff.1 e1).1
      rw [he.len x x1] at hk
      refine x3 _ g v e1 ?_
      rw [List.getElem?_take, if_pos hk, List.getElem?_drop, ← e2]; congr 1
      rw [hll, b1] at hi ⊢; omega
 obtain ⟨l, b1, b2, b3⟩ := build n (Nat.le_refl _)
 exact ⟨l, ⟨b1, b2⟩, by rw [h1, hc], b3⟩
/-! an argument -/
theorem row_of_ok {r : Reach} {b0 : Nat} {t : TypeId} {a : Addr} {n c : Nat} (h : Cell.okWide P W r b0 t (.slice (some a) n c)) : HasRow W := by
 have h' : Cell.ok P W r b0 t (.slice (some a) n c) := by
  unfold Cell.okWide at h
  split at h <;> first | exact h | (rename_i e; cases e)
 unfold Cell.ok at h'
 split at h' <;> first | (exact h'.elim) | skip
 all_goals (try (rename_i e; cases e; done))
 all_goals
  first
  | (obtain ⟨_, _, hh⟩ := h'
     obtain ⟨_, _, row, cells, hs, _⟩ := hh
     unfold World.shape? at hs
     split at hs
     ·rename_i cur el fz hb; exact ⟨_, cur, el, _, hb⟩
     ·cases hs)
  | skip
end
end Go.AM
set_option linter.all false
namespace Go.AM
open Go.RowKit
/-! ## The frame of a row -/
def okFn (P : Program) (f : Nat) : Bool := match P.funcs[f]? with
 | some fn => !(fn.name == "runtime.NumGoroutine") && fn.body.isSome
 | none => false
theorem enter_ok {P : Program} {f : Nat} (h : okFn P f = true) (args : Array Value) (w : World) : (callFunc f args).run P w = .ok (.enter f args) w := by
 unfold okFn at h
 split at h
 ·rename_i fn hf
  rw [Bool.and_eq_true, Bool.not_eq_true'] at h
  obtain ⟨h1, h2⟩ := h
  have h3 : fn.body.isNone = false := by cases hb : fn.body <;> simp_all
  unfold callFunc
  simp only [Sem.run_bind, run_program, Result.andThen, hf, h1, h3, Bool.false_eq_true, if_false]
  rfl
 ·cases h
def mkA : List (Nat × AFunc) → AProg
 | [] => .e
 | p :: r => (mkA r).set p.1 (some p.2)
theorem mkA_mem : ∀ {l : List (Nat × AFunc)} {f : Nat} {af : AFunc}, (mkA l).get f = some af → (f, af) ∈ l
 | [], f, af, h => by simp [mkA, T.get_e] at h
 | p :: r, f, af, h => by
   rw [mkA, T.get_set] at h
   split at h
   ·rename_i c; cases h; subst c; exact List.mem_cons_self
   ·exact List.mem_cons_of_mem _ (mkA_mem h)
theorem mkA_get : ∀ {l : List (Nat × AFunc)} {f : Nat} {af : AFunc}, lkP l f = some af → (mkA l).get f = some af
 | [], f, af, h => by cases h
 | p :: r, f, af, h => by
   rw [lkP_cons] at h
   rw [mkA, T.get_set]
   split at h
   ·rename_i c; rw [if_pos c.symm]; exact h
   ·rename_i c; rw [if_neg (fun e => c e.symm)]; exact mkA_get h
inductive LinkL (P : Program) : List (Nat × AFunc) → Prop where
 | nil : LinkL P []
 | cons {f : Nat} {af : AFunc} {l : List (Nat × AFunc)} (h : cFunc P f = some af) (k : okFn P f = true) (r : LinkL P l) : LinkL P ((f, af) :: l)
theorem LinkL.at {P : Program} {l : List (Nat × AFunc)} (h : LinkL P l) {f : Nat} {af : AFunc} (m : (f, af) ∈ l) : cFunc P f = some af ∧ okFn P f = true := by
 induction h with
 | nil => cases m
 | cons h k _ ih =>
   rcases List.mem_cons.1 m with e | e
   ·cases e; exact ⟨h, k⟩
   ·exact ih e
theorem LinkL.linked {P : Program} {l : List (Nat × AFunc)} (h : LinkL P l) (hm : P.follows .mixedOrders = true) : Linked P (mkA l) :=
 ⟨hm, fun f af e => ⟨(h.at (mkA_mem e)).1, fun args w => enter_ok (h.at (mkA_mem e)).2 args w⟩⟩
/-! arguments -/
section
variable {M : Nat} {P : Program} {W : World}
def RA (M : Nat) (P : Program) (W : World) {α : Type} (t : TypeId) (g : α → GV) (ok : α → Prop) : Prop :=
 ∀ {H : Type} {en : TypeId × Value → H} {v : Value} {d : DataW H} {ps : List MemPlace} {r : Reach} {b0 : Nat}, Value.okWide P W r b0 t v → DataW.Trod en P W 0 (fun _ => true) true t v d ps → Fine M P t d → ∃ x, ok x ∧ RepV W v (g x)
def oneTy (P : Program) (t : TypeId) : Bool := match P.underlying t with
 | some .bool | some (.int _) | some .string | some (.slice _) => true
 | _ => false
theorem RC.one {α : Type} {t : TypeId} {g : α → GV} {ok : α → Prop} (h : RC M P W t 1 (fun x => [g x]) ok) (ht : oneTy P t = true) : RA M P W t g ok := by
 intro H en v d ps r b0 hval hd hf
 obtain ⟨fuel, hd⟩ := hd
 have hc : Cell.okWide P W r b0 t v := by
  unfold Value.okWide at hval
  unfold oneTy at ht
  split at hval
  ·rename_i e; rw [e] at ht; cases ht
  ·rename_i e; rw [e] at ht; cases ht
  ·exact hval
 have hone : v.oneCell' = true := by
  cases v with
  | agg xs => exfalso; unfold oneTy at ht; unfold Cell.okWide at hc; split at hc <;> first | (rename_i e _; rw [e] at ht; cases ht) | (unfold Cell.ok at hc; split at hc <;> first | exact hc | (rename_i e; cases e) | skip) | skip
  | tuple xs => exfalso; unfold oneTy at ht; unfold Cell.okWide at hc; split at hc <;> first | (rename_i e _; rw [e] at ht; cases ht) | (unfold Cell.ok at hc; split at hc <;> first | exact hc | (rename_i e; cases e) | skip) | skip
  | _ => rfl
 have hcs : v.cells.toList = [v] := by cases v <;> first | rfl | cases hone
 rw [hcs] at hd
 obtain ⟨x, x1, _, x3⟩ := h.rd hd hf (fun a ha => by
  rw [List.mem_singleton] at ha
  subst ha
  exact row_of_ok hc)
 exact ⟨x, x1, .one (x3 0 _ _ rfl rfl)⟩
def aggTy (P : Program) (t : TypeId) : Bool := match P.underlying t with
 | some (.struct _) | some (.array _ _) => true
 | _ => false
theorem RC.agg {α : Type} {t : TypeId} {w : Nat} {enc : α → List GV} {ok : α → Prop} (h : RC M P W t w enc ok) (ht : aggTy P t = true) : RA M P W t (fun x => .agg (enc x)) ok := by
 intro H en v d ps r b0 hval hd hf
 obtain ⟨fuel, hd⟩ := hd
 have hc : ∃ cs, v = .agg cs ∧ cs.size = P.cellsOf t ∧ Row.okWide P W r b0 t cs := by
  unfold Value.okWide at hval
  unfold aggTy at ht
  split at hval
  ·exact hval
  ·exact hval
  ·rename_i h1 h2
   split at ht
   ·rename_i e; exact absurd e (h1 _)
   ·rename_i e; exact absurd e (h2 _ _)
   ·cases ht
 obtain ⟨cs, rfl, hsz, ts, _, _, hrow⟩ := hc
 have hcells : (Value.agg cs).cells.toList = cs.toList := rfl
 rw [hcells] at hd
 obtain ⟨x, x1, x2, x3⟩ := h.rd hd hf (fun a ha => by
  obtain ⟨i, hi⟩ := List.getElem?_of_mem ha
  obtain ⟨u, _, hu⟩ := hrow i _ (by simpa using hi)
  exact row_of_ok hu)
 refine ⟨x, x1, .agg ?_ fun i g y e1 e2 => x3 i g y e1 (by simpa using e2)⟩
 rw [h.len x x1, ← x2]; simp
theorem fine_each {H : Type} : ∀ {ts : List TypeId} {ds : List (DataW H)} {j : Nat} {t : TypeId} {d : DataW H}, (DataW.weightsEach P ts ds).all (· ≤ M) = true → ts[j]? = some t → ds[j]? = some d → Fine M P t d
 | [], ds, j, t, d, _, h, _ => by cases j <;> cases h
 | t0 :: ts, [], j, t, d, _, _, h => by cases j <;> cases h
 | t0 :: ts, d0 :: ds, 0, t, d, h, h1, h2 => by
   cases h1; cases h2
   intro n hn
   rw [DataW.weightsEach, List.all_append, Bool.and_eq_true] at h
   have := List.all_eq_true.1 h.1 n hn
   simpa using this
 | t0 :: ts, d0 :: ds, j + 1, t, d, h, h1, h2 => by
   rw [DataW.weightsEach, List.all_append, Bool.and_eq_true] at h
   exact fine_each h.2 (by simpa using h1) (by simpa using h2)
end
end Go.AM
