/- From the memory of a call to the machine: the frame of a row. No condition. -/
import Derived.Test.YtkohanehgndmhaaGM11
set_option linter.all false
namespace Go.AM
open Go.RowKit
/-! ## From the program's memory to the machine -/
section
variable {W : World}
/-- a cell in memory that nobody will write, and what it holds -/
inductive Rep (W : World) : Value → GV → Prop where
  | v {x : Value} (h : x.oneCell' = true) : Rep W x (.v x)
  | nil {w : Nat} : Rep W (.slice none 0 0) (.fsl w [])
  | sl {a : Addr} {len cap w : Nat} {cs : List (List GV)} {cur : Array Value} {e : TypeId} {fz : Nat × Nat} (f : Nat → Nat → Value) (hs : a.spot = none) (hb : W.heap[a.block]? = some (.cells cur e fz)) (hsz : a.off + cap * w ≤ cur.size)
      (hl : len = cs.length) (hcap : len ≤ cap) (hw : ∀ c, c ∈ cs → c.length = w)
      (hc : ∀ (i k : Nat) (c : List GV) (x : GV), cs[i]? = some c → c[k]? = some x → cur[a.off + i * w + k]? = some (f i k))
      (hp : ∀ (i k : Nat) (c : List GV) (x : GV), cs[i]? = some c → c[k]? = some x → Rep W (f i k) x) : Rep W (.slice (some a) len cap) (.fsl w cs)
  | sl0 {a : Addr} {w r : Nat} {cur : Array Value} {e : TypeId} {fz : Nat × Nat} (hb : W.heap[r]? = some (.cells cur e fz)) : Rep W (.slice (some a) 0 0) (.fsl w [])
structure BS (W : World) (φ : Phi) (H : Heap) (Z : ZM) : Prop where
  rel : HRel W.heap.size φ H W
  ro : ∀ b blk, H.blks.get b = some blk → blk.wr = false
  dom : ∀ b, H.next ≤ b → φ b = none
  zok : ∀ b zb, Z b = some zb → b < H.next ∧ ∃ blk, H.blks.get b = some blk ∧ blk.cells = zb.cells ∧ blk.es = zb.es
theorem VRel.monoC {φ φ' : Phi} (h : Le φ φ') {B : Nat} {w : World} {blk : Blk} {p : Pl} (k : BRel B φ w blk p) : BRel B φ' w blk p := by
  obtain ⟨es, cur, e, fz, h1, h2, h3, h4, h5⟩ := k
  exact ⟨es, cur, e, fz, h1, h2, h3, fun i c hc => by obtain ⟨x, a, b, d⟩ := h4 i c hc; exact ⟨x, a, b.mono h, d⟩, h5⟩
theorem BS.add {φ : Phi} {H : Heap} {Z : ZM} (h : BS W φ H Z) {r o es : Nat} {cur : Array Value} {e : TypeId} {fz : Nat × Nat} (hb : W.heap[r]? = some (.cells cur e fz)) (ho : o ≤ cur.size) {cells : List AV} (hl : cells.length ≤ cur.size - o)
    (hc : ∀ (i : Nat) (c : AV), cells[i]? = some c → ∃ x : Value, cur[o + i]? = some x ∧ VRel φ c x ∧ c.one = true) :
    ∃ φ' H' Z', BS W φ' H' Z' ∧ Le φ φ' ∧ ZLe Z Z' ∧ φ' H.next = some ⟨r, o, cur.size - o, es⟩ ∧ Z' H.next = some ⟨cells, es⟩ := by
  have hle : Le φ (fun b => if b = H.next then some ⟨r, o, cur.size - o, es⟩ else φ b) := fun b p k => by
    show (if b = H.next then _ else _) = _
    rw [if_neg (fun c => by rw [c, h.dom _ (Nat.le_refl _)] at k; cases k)]; exact k
  have hz : ZLe Z (fun b => if b = H.next then some ⟨cells, es⟩ else Z b) := fun b zb k => by
    show (if b = H.next then _ else _) = _
    rw [if_neg (fun c => by rw [c] at k; have := (h.zok _ _ k).1; omega)]; exact k
  refine ⟨_, ⟨H.next + 1, H.blks.set H.next (some ⟨cells, false, none, es⟩)⟩, _, ⟨⟨fun b blk p k1 k2 => ?_, fun b blk b' blk' p p' k1 k2 k3 k4 _ _ _ => ?_, Nat.le_refl _, fun b k => ?_⟩, fun b blk k => ?_, fun b k => ?_, fun b zb k => ?_⟩, hle, hz, if_pos rfl, if_pos rfl⟩
  · simp only [T.get_set] at k1
    by_cases c : b = H.next
    · rw [if_pos c] at k1; cases k1
      have k2' : (if b = H.next then some (⟨r, o, cur.size - o, es⟩ : Pl) else φ b) = some p := k2
      rw [if_pos c] at k2'; cases k2'
      exact ⟨rfl, cur, e, fz, hb, by show cur.size = o + (cur.size - o); omega, hl, fun i c' k => by obtain ⟨x, a1, a2, a3⟩ := hc i c' k; exact ⟨x, a1, a2.mono hle, a3⟩, fun k => by cases k⟩
    · rw [if_neg c] at k1
      have k2' : (if b = H.next then some (⟨r, o, cur.size - o, es⟩ : Pl) else φ b) = some p := k2
      rw [if_neg c] at k2'
      exact VRel.monoC hle (h.rel.blk b blk p k1 k2')
  · simp only [T.get_set] at k1
    split at k1
    · cases k1; cases k4
    · rw [h.ro b blk k1] at k4; cases k4
  · simp only [T.get_set]
    have k' : H.next + 1 ≤ b := k
    rw [if_neg (by omega)]; exact h.rel.lt b (by omega)
  · simp only [T.get_set] at k
    split at k
    · cases k; rfl
    · exact h.ro b blk k
  · have k' : H.next + 1 ≤ b := k
    show (if b = H.next then _ else _) = _
    rw [if_neg (by omega)]; exact h.dom b (by omega)
  · have k' : (if b = H.next then some (⟨cells, es⟩ : ZB) else Z b) = some zb := k
    by_cases c : b = H.next
    · rw [if_pos c] at k'; cases k'
      exact ⟨by show b < H.next + 1; omega, ⟨cells, false, none, es⟩, by simp only [T.get_set]; rw [if_pos c], rfl, rfl⟩
    · rw [if_neg c] at k'
      obtain ⟨a1, blk, a2, a3⟩ := h.zok b zb k'
      exact ⟨by show b < H.next + 1; omega, blk, by simp only [T.get_set]; rw [if_neg c]; exact a2, a3⟩
/-- what can be laid into the machine -/
def Lays (W : World) (x : Value) (g : GV) : Prop := ∀ φ H Z, BS W φ H Z → ∃ φ' H' Z' a, BS W φ' H' Z' ∧ Le φ φ' ∧ ZLe Z Z' ∧ VRel φ' a x ∧ PR Z' g a ∧ a.one = true
theorem lays_all {xs : Nat → Value} {gs : Nat → GV} : ∀ (n : Nat), (∀ j, j < n → Lays W (xs j) (gs j)) → ∀ φ H Z, BS W φ H Z →
    ∃ φ' H' Z' , ∃ as : List AV, BS W φ' H' Z' ∧ Le φ φ' ∧ ZLe Z Z' ∧ as.length = n ∧ ∀ (j : Nat) (a : AV), as[j]? = some a → VRel φ' a (xs j) ∧ PR Z' (gs j) a ∧ a.one = true
  | 0, _, φ, H, Z, h => ⟨φ, H, Z, [], h, .refl _, .refl _, rfl, fun j a e => by simp at e⟩
  | n + 1, hl, φ, H, Z, h => by
    obtain ⟨φ1, H1, Z1, as, b1, b2, b3, b4, b5⟩ := lays_all n (fun j hj => hl j (by omega)) φ H Z h
    obtain ⟨φ2, H2, Z2, a, c1, c2, c3, c4, c5, c6⟩ := hl n (by omega) φ1 H1 Z1 b1
    refine ⟨φ2, H2, Z2, as ++ [a], c1, b2.trans c2, b3.trans c3, by simp [b4], fun j x e => ?_⟩
    by_cases hj : j < n
    · rw [List.getElem?_append_left (by omega)] at e
      obtain ⟨d1, d2, d3⟩ := b5 j x e
      exact ⟨d1.mono c2, d2.mono c3, d3⟩
    · rw [List.getElem?_append_right (by omega)] at e
      have : j - as.length = 0 := by
        have := (List.getElem?_eq_some_iff.1 e).1
        simp at this; exact this
      rw [this] at e; cases e
      have : j = n := by omega
      subst this
      exact ⟨c4, c5, c6⟩
theorem Rep.lays {x : Value} {g : GV} (h : Rep W x g) : Lays W x g := by
  induction h with
  | v h =>
    intro φ H Z hb
    refine ⟨φ, H, Z, .v _, hb, .refl _, .refl _, .v h, .v _, rfl⟩
  | nil =>
    intro φ H Z hb
    exact ⟨φ, H, Z, .v (.slice none 0 0), hb, .refl _, .refl _, .v rfl, .fnil, rfl⟩
  | @sl0 a w r cur e fz hb =>
    intro φ H Z h
    obtain ⟨φ', H', Z', c1, c2, c3, c4, c5⟩ := h.add (o := cur.size) (es := w) hb (Nat.le_refl _) (cells := []) (Nat.zero_le _) (fun i c e => by simp at e)
    exact ⟨φ', H', Z', .sl H.next 0 0 0 false, c1, c2, c3, .sl c4 (Nat.le_refl _) (Nat.le_refl _) (fun e => by cases e) (by show 0 + 0 * w ≤ _; omega) (.inl rfl), PR.sl c5 rfl rfl (Nat.le_refl _) (fun i c e => by simp at e), rfl⟩
  | @sl a len cap w cs cur e fz f hs hb hsz hl hcap hw hc hp ih =>
    intro φ H Z h
    have hat : ∀ j, j < len * w → ∃ c x, cs[j / w]? = some c ∧ c[j % w]? = some x := fun j hj => by
      have hw0 : 0 < w := Nat.pos_of_ne_zero fun e => by rw [e, Nat.mul_zero] at hj; omega
      have h1 : j / w < cs.length := by rw [← hl]; exact Nat.div_lt_of_lt_mul (by rw [Nat.mul_comm]; exact hj)
      have h2 := hw _ (List.getElem_mem h1)
      have h3 : j % w < (cs[j / w]).length := by rw [h2]; exact Nat.mod_lt _ hw0
      exact ⟨cs[j / w], (cs[j / w])[j % w], by simp [h1], by simp [h3]⟩
    obtain ⟨φ1, H1, Z1, as, b1, b2, b3, b4, b5⟩ := lays_all (W := W) (xs := fun j => f (j / w) (j % w)) (gs := fun j => ((cs[j / w]?).bind fun c => c[j % w]?).getD .any) (len * w) (fun j hj => by
      obtain ⟨c, x, h1, h2⟩ := hat j hj
      have := ih _ _ c x h1 h2
      rw [show ((cs[j / w]?).bind fun c => c[j % w]?).getD .any = x by rw [h1]; simp [h2]]
      exact this) φ H Z h
    have hlen2 : len * w ≤ cap * w := Nat.mul_le_mul_right w hcap
    obtain ⟨φ', H', Z', c1, c2, c3, c4, c5⟩ := b1.add (o := a.off) (es := w) hb (by omega) (cells := as) (by rw [b4]; omega) (fun j x e' => by
      have hj : j < len * w := by rw [← b4]; exact (List.getElem?_eq_some_iff.1 e').1
      obtain ⟨c, y, h1, h2⟩ := hat j hj
      have h3 := hc _ _ c y h1 h2
      obtain ⟨d1, d2, d3⟩ := b5 j x e'
      refine ⟨_, ?_, d1, d3⟩
      rw [← h3]; congr 1
      have := Nat.div_add_mod j w
      rw [Nat.mul_comm] at this; omega)
    refine ⟨φ', H', Z', .sl H1.next 0 len cap false, c1, b2.trans c2, b3.trans c3, ?_, ?_, rfl⟩
    · refine .sl c4 hcap (Nat.le_refl _) (fun e => by cases e) (by show 0 + cap * w ≤ cur.size - a.off; omega) (.inr ?_)
      cases a; cases hs; rfl
    · refine PR.sl c5 rfl hl hcap fun i c e' => ⟨hw c (List.mem_of_getElem? e'), fun k x e'' => ?_⟩
      have hi := (List.getElem?_eq_some_iff.1 e').1
      have hk : k < w := by rw [← hw c (List.mem_of_getElem? e')]; exact (List.getElem?_eq_some_iff.1 e'').1
      have hj : i * w + k < as.length := by
        rw [b4, hl]
        have := Nat.mul_le_mul_right w (show i + 1 ≤ cs.length by omega)
        rw [Nat.add_mul] at this; omega
      refine ⟨as[i * w + k], by simp [hj], ?_⟩
      obtain ⟨_, d2, _⟩ := b5 (i * w + k) as[i * w + k] (by simp [hj])
      have hw0 : 0 < w := by omega
      have e1 : (i * w + k) / w = i := by rw [Nat.mul_comm, Nat.mul_add_div hw0, Nat.div_eq_of_lt hk, Nat.add_zero]
      have e2 : (i * w + k) % w = k := by rw [Nat.mul_comm, Nat.mul_add_mod, Nat.mod_eq_of_lt hk]
      have e3 : ((cs[(i * w + k) / w]?).bind fun c => c[(i * w + k) % w]?).getD .any = x := by rw [e1, e2, e']; simp [e'']
      rw [e3] at d2
      exact d2.mono c3
/-- an argument -/
inductive RepV (W : World) : Value → GV → Prop where
  | one {x : Value} {g : GV} (h : Rep W x g) : RepV W x g
  | agg {xs : Array Value} {gs : List GV} (hl : gs.length = xs.size) (h : ∀ (i : Nat) (g : GV) (x : Value), gs[i]? = some g → xs[i]? = some x → Rep W x g) : RepV W (.agg xs) (.agg gs)
theorem RepV.lays {x : Value} {g : GV} (h : RepV W x g) {φ : Phi} {H : Heap} {Z : ZM} (hb : BS W φ H Z) : ∃ φ' H' Z' a, BS W φ' H' Z' ∧ Le φ φ' ∧ ZLe Z Z' ∧ VRel φ' a x ∧ PR Z' g a := by
  cases h with
  | one h => obtain ⟨φ', H', Z', a, h1, h2, h3, h4, h5, _⟩ := h.lays φ H Z hb; exact ⟨φ', H', Z', a, h1, h2, h3, h4, h5⟩
  | @agg xs gs hl h =>
    obtain ⟨φ', H', Z', as, b1, b2, b3, b4, b5⟩ := lays_all (W := W) (xs := fun j => xs.getD j (.bool false)) (gs := fun j => gs.getD j .any) gs.length (fun j hj => by
      have h2 : j < xs.size := by omega
      have := (h j gs[j] xs[j] (by simp [hj]) (by simp [h2])).lays
      rw [show xs.getD j (.bool false) = xs[j] by simp [Array.getD, h2], show gs.getD j .any = gs[j] by simp [List.getD, hj]]
      exact this) φ H Z hb
    refine ⟨φ', H', Z', .agg as, b1, b2, b3, .agg (by omega) (fun i c x e1 e2 => ?_) (fun c hc => ?_), .agg b4.symm fun i c a e1 e2 => ?_⟩
    · have := (b5 i c e1).1
      rwa [show xs.getD i (.bool false) = x by simp [Array.getD, e2, (Array.getElem?_eq_some_iff.1 e2).1, (Array.getElem?_eq_some_iff.1 e2).2]] at this
    · obtain ⟨i, hi⟩ := List.getElem?_of_mem hc
      exact (b5 i c hi).2.2
    · have := (b5 i a e2).2.1
      rwa [show gs.getD i .any = c by simp [List.getD, e1]] at this
theorem lays_args : ∀ (gs : List GV) (xs : List Value), gs.length = xs.length → (∀ (i : Nat) (g : GV) (x : Value), gs[i]? = some g → xs[i]? = some x → RepV W x g) → ∀ φ H Z, BS W φ H Z →
    ∃ φ' H' Z' , ∃ as : List AV, BS W φ' H' Z' ∧ Le φ φ' ∧ ZLe Z Z' ∧ as.length = xs.length ∧ (∀ (i : Nat) (a : AV) (x : Value), as[i]? = some a → xs[i]? = some x → VRel φ' a x) ∧ VRs Z' (fun _ => none) gs as
  | [], [], _, _, φ, H, Z, h => ⟨φ, H, Z, [], h, .refl _, .refl _, rfl, fun i a x e => by simp at e, .nil⟩
  | [], _ :: _, hl, _, _, _, _, _ => by simp at hl
  | _ :: _, [], hl, _, _, _, _, _ => by simp at hl
  | g :: gs, x :: xs, hl, hr, φ, H, Z, h => by
    obtain ⟨φ1, H1, Z1, a, b1, b2, b3, b4, b5⟩ := (hr 0 g x rfl rfl).lays h
    obtain ⟨φ2, H2, Z2, as, c1, c2, c3, c4, c5, c6⟩ := lays_args gs xs (by simpa using hl) (fun i g' x' e1 e2 => hr (i + 1) g' x' (by simpa using e1) (by simpa using e2)) φ1 H1 Z1 b1
    refine ⟨φ2, H2, Z2, a :: as, c1, b2.trans c2, b3.trans c3, by simp [c4], fun i y z e1 e2 => ?_, .cons (.pure (b5.mono c3)) c6⟩
    cases i with
    | zero => simp at e1 e2; subst e1; subst e2; exact b4.mono c2
    | succ i => exact c5 i y z (by simpa using e1) (by simpa using e2)
end
/-- **What the machine says of a law, the program does.** -/
theorem entry {P : Program} {A : AProg} (hL : Linked P A) {f : Nat} {gs : List GV} (hc : WpCallG A f gs [] (fun v H => v = .v (.bool true) ∧ H = [])) {W : World} {args : Array Value} (hl : gs.length = args.size)
    (hr : ∀ (i : Nat) (g : GV) (x : Value), gs[i]? = some g → args[i]? = some x → RepV W x g) : Calls P f args W fun e w' => e = .returned (.bool true) ∧ Below W.heap.size W w' := by
  have hb0 : BS W (fun _ => none) H0 (fun _ => none) := ⟨⟨fun b blk p h => by simp [H0, T.get_e] at h, fun b blk b' blk' p p' h => by simp [H0, T.get_e] at h, Nat.le_refl _, fun b _ => T.get_e b⟩, fun b blk h => by simp [H0, T.get_e] at h, fun _ _ => rfl, fun b zb h => by cases h⟩
  obtain ⟨φ, H, Z, as, b1, b2, b3, b4, b5, b6⟩ := lays_args gs args.toList (by simpa using hl) (fun i g x e1 e2 => hr i g x e1 (by simpa using e2)) _ _ _ hb0
  have hrel : GRel Z (fun _ => none) [] H := ⟨fun _ _ => rfl, b1.zok, (fun g blk e => by cases e), (fun g g' b n e => by cases e), (fun g b e => by cases e), (fun g b blk m e => by cases e)⟩
  obtain ⟨n, v, H', h1, Z', om', g, HG', k1, k2, k3, k4, rfl, rfl⟩ := hc Z _ as H hrel b6
  obtain rfl := k2.v_inv
  obtain ⟨_, hcall⟩ := call_sound_all (B := W.heap.size) hL n f as H _ H' φ W args h1 b1.rel (fun b hb _ => b1.dom b hb) (by rw [b4]; simp) (fun i c y e1 e2 => b5 i c y e1 (by simpa using e2))
  refine hcall.mono ?_
  rintro e w' ⟨x, φ', rfl, hs, hv⟩
  cases hv
  refine ⟨rfl, hs.os, hs.tape, hs.output, hs.size, fun r hr => hs.rows r hr ?_⟩
  rintro ⟨b, blk, p, q1, q2, _⟩
  rw [b1.ro b blk q1] at q2; cases q2
end Go.AM
