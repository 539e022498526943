/- Rules for the machine. No condition. -/
import Derived.Test.YtkohanehgndmhaaW3
set_option linter.all false
namespace Go.AM
section
variable {A : AProg} {L : List (Nat × AV)} {l : List AOper} {H H' : Heap} {Q : T AV → Heap → Prop}
/-! ## One rule for each operation, over frames that are written out -/
def lk : List (Nat × AV) → Nat → Option AV
  | [], _ => none
  | p :: r, k => match Nat.beq p.1 k with
    | true => some p.2
    | false => lk r k
theorem lk_get : ∀ {L : List (Nat × AV)} {k : Nat} {v : AV}, lk L k = some v → (mkF L).get k = some v
  | [], _, _, h => by cases h
  | p :: r, k, v, h => by
    rw [mkF, T.get_set]
    rw [lk] at h
    cases hb : Nat.beq p.1 k with
    | true => rw [hb] at h; rw [if_pos (Nat.eq_of_beq_eq_true hb).symm]; exact h
    | false => rw [hb] at h; rw [if_neg (fun c => by subst c; simp at hb)]; exact lk_get h
def lkX (L : List (Nat × AV)) : AX → Option AV
  | .t n => lk L n
  | .c v => some v
theorem lkX_ev {x : AX} {v : AV} (h : lkX L x = some v) : evX (mkF L) x = some v := by
  cases x with
  | t n => exact lk_get h
  | c w => exact h
def lkXs (L : List (Nat × AV)) : List AX → Option (List AV)
  | [] => some []
  | x :: r => match lkX L x with
    | some v => match lkXs L r with
      | some vs => some (v :: vs)
      | none => none
    | none => none
theorem lkXs_ev : ∀ {xs : List AX} {vs : List AV}, lkXs L xs = some vs → evXs (mkF L) xs = some vs
  | [], _, h => h
  | x :: r, vs, h => by
    rw [lkXs] at h
    rw [evXs]
    cases hx : lkX L x with
    | none => simp only [hx] at h; cases h
    | some v =>
      simp only [hx] at h
      rw [lkX_ev hx]
      cases hr : lkXs L r with
      | none => simp only [hr] at h; cases h
      | some ws => simp only [hr] at h; simp only [lkXs_ev hr]; exact h
def putL (L : List (Nat × AV)) : Option Nat → AV → List (Nat × AV)
  | some d, v => (d, v) :: L
  | none, _ => L
theorem putL_eq (L : List (Nat × AV)) (d : Option Nat) (v : AV) : putD (mkF L) d v = mkF (putL L d v) := by cases d <;> rfl

/-- the rule of rules: an operation that is reckoned over the written frame -/
theorem S.any {d : Option Nat} {o : AOp} {v : AV} (e : evOp (fun _ _ _ => none) o (mkF L) H = some (v, H')) (h : WpOps A l (mkF (putL L d v)) H' Q) : WpOps A (⟨d, o, none⟩ :: l) (mkF L) H Q :=
  WpOps.cons rfl (WpOp.eval e (by rw [putL_eq]; exact h))
theorem S.mv {d : Nat} {x : AX} {v : AV} (hx : lkX L x = some v) (h : WpOps A l (mkF ((d, v) :: L)) H Q) : WpOps A (⟨some d, .mv x, none⟩ :: l) (mkF L) H Q :=
  S.any (d := some d) (by simp only [evOp, lkX_ev hx]) h
theorem S.pick {d : Nat} {c a b : AX} {q : Bool} {v w : AV} (hc : lkX L c = some (.v (.bool q))) (ha : lkX L a = some v) (hb : lkX L b = some w) (h : WpOps A l (mkF ((d, if q then v else w) :: L)) H Q) : WpOps A (⟨some d, .pick c a b, none⟩ :: l) (mkF L) H Q := by
  cases q
  · exact S.any (d := some d) (v := w) (by simp only [evOp, lkX_ev hc, lkX_ev hb]) h
  · exact S.any (d := some d) (v := v) (by simp only [evOp, lkX_ev hc, lkX_ev ha]) h
theorem S.pickT {d : Nat} {c a b : AX} {v : AV} (hc : lkX L c = some (.v (.bool true))) (ha : lkX L a = some v) (h : WpOps A l (mkF ((d, v) :: L)) H Q) : WpOps A (⟨some d, .pick c a b, none⟩ :: l) (mkF L) H Q :=
  S.any (d := some d) (by simp only [evOp, lkX_ev hc, lkX_ev ha]) h
theorem S.pickF {d : Nat} {c a b : AX} {v : AV} (hc : lkX L c = some (.v (.bool false))) (hb : lkX L b = some v) (h : WpOps A l (mkF ((d, v) :: L)) H Q) : WpOps A (⟨some d, .pick c a b, none⟩ :: l) (mkF L) H Q :=
  S.any (d := some d) (by simp only [evOp, lkX_ev hc, lkX_ev hb]) h
theorem S.box {d : Nat} {x : AX} {v : AV} {vs : List AV} (hx : lkX L x = some v) (hv : v.cs = some vs) (h : WpOps A l (mkF ((d, .ptr H.next 0) :: L)) (H.alloc 0 vs) Q) : WpOps A (⟨some d, .box x, none⟩ :: l) (mkF L) H Q :=
  S.any (d := some d) (by simp only [evOp, lkX_ev hx, hv]) h
def lkPs (L : List (Nat × AV)) (cs : List AV) : List (Nat × Nat × AX) → Option (List AV)
  | [] => some cs
  | (o, s, x) :: r => match lkX L x with
    | some v => match v.cs with
      | some vs => match Nat.beq vs.length s with
        | true => match putAt cs o vs with
          | some cs => lkPs L cs r
          | none => none
        | false => none
      | none => none
    | none => none
theorem lkPs_ev : ∀ {ps : List (Nat × Nat × AX)} {cs ds : List AV}, lkPs L cs ps = some ds → fillA (mkF L) cs ps = some ds
  | [], _, _, h => h
  | (o, s, x) :: r, cs, ds, h => by
    rw [lkPs] at h
    rw [fillA]
    cases hx : lkX L x with
    | none => simp only [hx] at h; cases h
    | some v =>
      simp only [hx] at h
      simp only [lkX_ev hx]
      cases hv : v.cs with
      | none => simp only [hv] at h; cases h
      | some vs =>
        simp only [hv] at h ⊢
        cases hb : Nat.beq vs.length s with
        | false => simp only [hb] at h; cases h
        | true =>
          simp only [hb] at h
          rw [if_pos (Nat.eq_of_beq_eq_true hb)]
          cases hp : putAt cs o vs with
          | none => simp only [hp] at h; cases h
          | some cs' => simp only [hp] at h ⊢; exact lkPs_ev h
theorem S.build {d : Nat} {z : List AV} {ps : List (Nat × Nat × AX)} {cs : List AV} (e : lkPs L z ps = some cs) (h : WpOps A l (mkF ((d, .agg cs) :: L)) H Q) : WpOps A (⟨some d, .build z ps, none⟩ :: l) (mkF L) H Q :=
  S.any (d := some d) (by simp only [evOp, lkPs_ev e]) h
theorem S.bslice {d es len : Nat} {z : List AV} {ps : List (Nat × Nat × AX)} {cs : List AV} (e : lkPs L z ps = some cs) (h : WpOps A l (mkF ((d, .sl H.next 0 len len true) :: L)) (H.alloc es cs) Q) : WpOps A (⟨some d, .bslice es len z ps, none⟩ :: l) (mkF L) H Q :=
  S.any (d := some d) (by simp only [evOp, lkPs_ev e]) h
theorem S.load1 {d b off : Nat} {x : AX} {blk : Blk} {v : AV} (hx : lkX L x = some (.ptr b off)) (hb : H.blks.get b = some blk) (hv : blk.cells[off]? = some v) (h : WpOps A l (mkF ((d, v) :: L)) H Q) : WpOps A (⟨some d, .load1 x, none⟩ :: l) (mkF L) H Q := by
  refine S.any (d := some d) ?_ h
  have : takeN 1 (blk.cells.drop off) = some [v] := by
    have e : (blk.cells.drop off).head? = some v := by rw [List.head?_drop, hv]
    match hd : blk.cells.drop off, e with
    | x :: r, e => simp at e; simp [takeN, e]
  simp only [evOp, lkX_ev hx, getN, hb, this]
theorem S.loadN {d b off n : Nat} {x : AX} {blk : Blk} {vs : List AV} (hx : lkX L x = some (.ptr b off)) (hb : H.blks.get b = some blk) (hv : takeN n (blk.cells.drop off) = some vs) (h : WpOps A l (mkF ((d, .agg vs) :: L)) H Q) : WpOps A (⟨some d, .loadN n x, none⟩ :: l) (mkF L) H Q :=
  S.any (d := some d) (by simp only [evOp, lkX_ev hx, getN, hb, hv]) h
theorem S.store {n b off : Nat} {x y : AX} {v : AV} {vs : List AV} (hx : lkX L x = some (.ptr b off)) (hy : lkX L y = some v) (hv : v.cs = some vs) (hn : vs.length = n) (hw : H.write b off vs = some H') (h : WpOps A l (mkF L) H' Q) : WpOps A (⟨none, .store n x y, none⟩ :: l) (mkF L) H Q :=
  S.any (d := none) (v := .tup []) (by simp only [evOp, lkX_ev hx, lkX_ev hy, hv, if_pos hn, hw]) h
theorem S.bin {d : Nat} {o : BinOp} {x y : AX} {a b r : Value} (hx : lkX L x = some (.v a)) (hy : lkX L y = some (.v b)) (hr : binV o a b = some r) (h : WpOps A l (mkF ((d, .v r) :: L)) H Q) : WpOps A (⟨some d, .bin o x y, none⟩ :: l) (mkF L) H Q :=
  S.any (d := some d) (by simp only [evOp, lkX_ev hx, lkX_ev hy, hr]) h
theorem S.beq {d : Nat} {neq agg : Bool} {ks : List SK} {x y : AX} {a b : AV} {r : Bool} (hx : lkX L x = some a) (hy : lkX L y = some b) (hr : avEq agg ks a b = some r) (h : WpOps A l (mkF ((d, .v (.bool (xor neq r))) :: L)) H Q) : WpOps A (⟨some d, .beq neq agg ks x y, none⟩ :: l) (mkF L) H Q :=
  S.any (d := some d) (by simp only [evOp, lkX_ev hx, lkX_ev hy, hr]) h
theorem S.un {d : Nat} {o : UnOp} {x : AX} {a r : Value} (hx : lkX L x = some (.v a)) (hr : unV o a = some r) (h : WpOps A l (mkF ((d, .v r) :: L)) H Q) : WpOps A (⟨some d, .un o x, none⟩ :: l) (mkF L) H Q :=
  S.any (d := some d) (by simp only [evOp, lkX_ev hx, hr]) h
theorem S.convi {d : Nat} {k k' : IntKind} {x : AX} {n : Int} (hx : lkX L x = some (.v (.int k' n))) (h : WpOps A l (mkF ((d, .v (.int k (k.wrap n))) :: L)) H Q) : WpOps A (⟨some d, .convi k x, none⟩ :: l) (mkF L) H Q :=
  S.any (d := some d) (by simp only [evOp, lkX_ev hx]) h
theorem S.nilc {d b off : Nat} {x : AX} (hx : lkX L x = some (.ptr b off)) (h : WpOps A l (mkF ((d, .ptr b off) :: L)) H Q) : WpOps A (⟨some d, .nilc x, none⟩ :: l) (mkF L) H Q :=
  S.any (d := some d) (by simp only [evOp, lkX_ev hx]) h
theorem S.faddr {d b off o : Nat} {x : AX} (hx : lkX L x = some (.ptr b o)) (h : WpOps A l (mkF ((d, .ptr b (o + off)) :: L)) H Q) : WpOps A (⟨some d, .faddr off x, none⟩ :: l) (mkF L) H Q :=
  S.any (d := some d) (by simp only [evOp, lkX_ev hx]) h
theorem S.field1 {d off : Nat} {x : AX} {cs : List AV} {v : AV} (hx : lkX L x = some (.agg cs)) (hv : cs[off]? = some v) (h : WpOps A l (mkF ((d, v) :: L)) H Q) : WpOps A (⟨some d, .field1 off x, none⟩ :: l) (mkF L) H Q :=
  S.any (d := some d) (by simp only [evOp, lkX_ev hx, hv]) h
theorem S.fieldN {d off n : Nat} {x : AX} {cs vs : List AV} (hx : lkX L x = some (.agg cs)) (hv : takeN n (cs.drop off) = some vs) (h : WpOps A l (mkF ((d, .agg vs) :: L)) H Q) : WpOps A (⟨some d, .fieldN off n x, none⟩ :: l) (mkF L) H Q :=
  S.any (d := some d) (by simp only [evOp, lkX_ev hx, hv]) h
theorem S.iaddr {d es b off len cap : Nat} {ex : Bool} {k : IntKind} {x i : AX} {n : Nat} {m : Int} (hx : lkX L x = some (.sl b off len cap ex)) (hi : lkX L i = some (.v (.int k m))) (hm : m = (n : Int)) (hn : n < len) (h : WpOps A l (mkF ((d, .ptr b (off + n * es)) :: L)) H Q) : WpOps A (⟨some d, .iaddr es x i, none⟩ :: l) (mkF L) H Q := by
  refine S.any (d := some d) ?_ h
  have : 0 ≤ m ∧ m < (len : Int) := by omega
  simp only [evOp, lkX_ev hx, lkX_ev hi, if_pos this]
  rw [hm, Int.toNat_natCast]
theorem S.aaddr {d es b off len : Nat} {k : IntKind} {x i : AX} {n : Nat} {m : Int} (hx : lkX L x = some (.ptr b off)) (hi : lkX L i = some (.v (.int k m))) (hm : m = (n : Int)) (hn : n < len) (h : WpOps A l (mkF ((d, .ptr b (off + n * es)) :: L)) H Q) : WpOps A (⟨some d, .aaddr len es x i, none⟩ :: l) (mkF L) H Q := by
  refine S.any (d := some d) ?_ h
  have : 0 ≤ m ∧ m < (len : Int) := by omega
  simp only [evOp, lkX_ev hx, lkX_ev hi, if_pos this]
  rw [hm, Int.toNat_natCast]
theorem S.ext {d i : Nat} {x : AX} {vs : List AV} {v : AV} (hx : lkX L x = some (.tup vs)) (hv : vs[i]? = some v) (h : WpOps A l (mkF ((d, v) :: L)) H Q) : WpOps A (⟨some d, .ext x i, none⟩ :: l) (mkF L) H Q :=
  S.any (d := some d) (by simp only [evOp, lkX_ev hx, hv]) h
theorem S.len {d b off n cap : Nat} {ex : Bool} {x : AX} (hx : lkX L x = some (.sl b off n cap ex)) (h : WpOps A l (mkF ((d, .v (.int .i64 (n : Int))) :: L)) H Q) : WpOps A (⟨some d, .len false x, none⟩ :: l) (mkF L) H Q :=
  S.any (d := some d) (by simp only [evOp, lkX_ev hx]) h
theorem S.lenNil {d : Nat} {x : AX} (hx : lkX L x = some (.v (.slice none 0 0))) (h : WpOps A l (mkF ((d, .v (.int .i64 0)) :: L)) H Q) : WpOps A (⟨some d, .len false x, none⟩ :: l) (mkF L) H Q :=
  S.any (d := some d) (by simp only [evOp, lkX_ev hx]) h
theorem S.lenStr {d : Nat} {x : AX} {s : ByteArray} (hx : lkX L x = some (.v (.string s))) (h : WpOps A l (mkF ((d, .v (.int .i64 (s.size : Int))) :: L)) H Q) : WpOps A (⟨some d, .len true x, none⟩ :: l) (mkF L) H Q :=
  S.any (d := some d) (by simp only [evOp, lkX_ev hx]) h
theorem S.call {d : Option Nat} {f : Nat} {xs : List AX} {vs : List AV} {K : AV → Heap → Prop} (hx : lkXs L xs = some vs) (hc : WpCall A f vs H K) (h : ∀ v H', K v H' → WpOps A l (mkF (putL L d v)) H' Q) : WpOps A (⟨d, .call f xs, none⟩ :: l) (mkF L) H Q :=
  WpOps.cons rfl (WpOp.call (lkXs_ev hx) (hc.mono fun v H' hk => by rw [putL_eq]; exact h v H' hk))
theorem S.app {d es by_ : Nat} {x y : AX} {s t v : AV} (hx : lkX L x = some s) (hy : lkX L y = some t) (e : appendA H es by_ s t = some (v, H')) (h : WpOps A l (mkF ((d, v) :: L)) H' Q) : WpOps A (⟨some d, .app es by_ x y, none⟩ :: l) (mkF L) H Q :=
  S.any (d := some d) (by simp only [evOp, lkX_ev hx, lkX_ev hy, e]) h
/-- a guard that says yes, and one that says no -/
theorem S.yes {d : Option Nat} {o : AOp} {g : Nat} {w : Bool} (hg : lk L g = some (.v (.bool w))) (h : WpOps A (⟨d, o, none⟩ :: l) (mkF L) H Q) : WpOps A (⟨d, o, some (g, w)⟩ :: l) (mkF L) H Q := by
  obtain ⟨n, f, f0, H', h1, h2, h3⟩ := h
  refine ⟨n, f, f0, H', ?_, h2, h3⟩
  rw [evOps] at h1 ⊢
  simp only [lk_get hg, if_true]
  exact h1
theorem S.no {d : Option Nat} {o : AOp} {g : Nat} {w b : Bool} (hg : lk L g = some (.v (.bool b))) (hb : b ≠ w) (h : WpOps A l (mkF (putL L d (.tup []))) H Q) : WpOps A (⟨d, o, some (g, w)⟩ :: l) (mkF L) H Q :=
  WpOps.consG rfl (lk_get hg) (fun c => absurd c hb) (fun _ => by rw [putL_eq]; exact h)
theorem S.noT {d : Option Nat} {o : AOp} {g : Nat} {w : Bool} {vs : List AV} (hg : lk L g = some (.tup vs)) (h : WpOps A l (mkF (putL L d (.tup []))) H Q) : WpOps A (⟨d, o, some (g, w)⟩ :: l) (mkF L) H Q :=
  WpOps.consT rfl (lk_get hg) (by rw [putL_eq]; exact h)
/-- the frame may be written anew, if each thing in it is there -/
def allIn (L : List (Nat × AV)) : List (Nat × AV) → Prop
  | [] => True
  | p :: r => lk L p.1 = some p.2 ∧ allIn L r
theorem allIn_has : ∀ {M : List (Nat × AV)}, allIn L M → hasF (mkF L) M
  | [], _ => trivial
  | _ :: _, h => ⟨lk_get h.1, allIn_has h.2⟩
theorem S.frame (M : List (Nat × AV)) (hM : allIn L M) (h : WpOps A l (mkF M) H Q) : WpOps A l (mkF L) H Q := h.frame (hasF_le (allIn_has hM))
theorem Wp.trim {c : AC} {Q : AE → T AV → Heap → Prop} (M : List (Nat × AV)) (hM : allIn L M) (h : Wp A c (mkF M) H Q) : Wp A c (mkF L) H Q := h.frame (hasF_le (allIn_has hM))
theorem Wp.condL {x : AX} {a b : AC} {Q : AE → T AV → Heap → Prop} {q : Bool} (hx : lkX L x = some (.v (.bool q))) (ha : q = true → Wp A a (mkF L) H Q) (hb : q = false → Wp A b (mkF L) H Q) : Wp A (.cond x a b) (mkF L) H Q := Wp.cond (lkX_ev hx) ha hb
def argL : Nat → List AV → List (Nat × AV)
  | _, [] => []
  | i, v :: r => (i, v) :: argL (i + 1) r
end
end Go.AM
