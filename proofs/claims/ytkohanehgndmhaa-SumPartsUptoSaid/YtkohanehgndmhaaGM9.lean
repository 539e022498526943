/- The machine over plain data: rules for each operation, calls. No condition. -/
import Derived.Test.YtkohanehgndmhaaGM8
set_option linter.all false
namespace Go.AM
/-! ## Side ways of any shape -/
/-- the operations ahead of the one that gathers a truth, and that one with the rest -/
def cutPre (g : Nat) : List AOper → List AOper
  | ⟨d, .pick (.t g') a b, none⟩ :: r => match Nat.beq g' g with
    | true => []
    | false => ⟨d, .pick (.t g') a b, none⟩ :: cutPre g r
  | o :: r => o :: cutPre g r
  | [] => []
def cutPost (g : Nat) : List AOper → List AOper
  | ⟨d, .pick (.t g') a b, none⟩ :: r => match Nat.beq g' g with
    | true => ⟨d, .pick (.t g') a b, none⟩ :: r
    | false => cutPost g r
  | _ :: r => cutPost g r
  | [] => []
theorem cut_eq (g : Nat) : ∀ (l : List AOper), cutPre g l ++ cutPost g l = l := by
  intro l
  fun_induction cutPre g l with
  | case1 d g' a b r h => rw [cutPost, h]; rfl
  | case2 d g' a b r h ih => rw [cutPost, h, List.cons_append, ih]
  | case3 o r h ih => rw [List.cons_append, cutPost, ih]; exact h
  | case4 => rfl
def strip (g : Nat) (w : Bool) : List AOper → List AOper
  | [] => []
  | ⟨d, o, some (g', w')⟩ :: r => match Nat.beq g' g && (w' == w) with
    | true => ⟨d, o, none⟩ :: strip g w r
    | false => ⟨d, o, some (g', w')⟩ :: strip g w r
  | ⟨d, o, none⟩ :: r => ⟨d, o, none⟩ :: strip g w r
/-- each of these runs only if (g, w), or if one of these says so -/
def skipOk (g : Nat) (w : Bool) : List Nat → List AOper → Bool
  | _, [] => true
  | ts, ⟨d, _, some (g', w')⟩ :: r => (Nat.beq g' g && (w' == w) || ts.any (Nat.beq g')) && skipOk g w (match d with | some d => d :: ts | none => ts) r
  | _, ⟨_, _, none⟩ :: _ => false
theorem evOps_append {c : Nat → List AV → Heap → Option (AV × Heap)} : ∀ {a b : List AOper} {fr : T AV} {H : Heap} {fr' : T AV} {H' : Heap}, evOps c a fr H = some (fr', H') → evOps c (a ++ b) fr H = evOps c b fr' H'
  | [], b, fr, H, fr', H', h => by
    simp only [evOps, Option.some.injEq, Prod.mk.injEq] at h
    obtain ⟨rfl, rfl⟩ := h
    rfl
  | o :: a, b, fr, H, fr', H', h => by
    rw [List.cons_append, evOps]
    rw [evOps] at h
    split at h
    · split at h
      · exact evOps_append h
      · cases h
    · rename_i g w hg
      split at h
      · split at h
        · rename_i hb
          rw [if_pos hb]
          split at h
          · exact evOps_append h
          · cases h
        · rename_i hb
          rw [if_neg hb]
          exact evOps_append h
      · exact evOps_append h
      · cases h
section
variable {L : GFr}
/-- stripped, it runs the same where the truth is that -/
theorem strip_ok {c : Nat → List AV → Heap → Option (AV × Heap)} {g : Nat} {w : Bool} : ∀ {l : List AOper} {fr : T AV} {H : Heap}, fr.get g = some (.v (.bool w)) → (∀ o ∈ l, o.dst ≠ some g) → evOps c l fr H = evOps c (strip g w l) fr H
  | [], _, _, _, _ => rfl
  | ⟨d, o, none⟩ :: r, fr, H, h, hd => by
    rw [strip, evOps, evOps]
    simp only []
    split
    · rename_i v H' e
      refine strip_ok ?_ (fun o ho => hd o (List.mem_cons_of_mem _ ho))
      cases d with
      | none => exact h
      | some d =>
        simp only [putD, T.get_set]
        rw [if_neg (fun e => hd _ List.mem_cons_self (by rw [e]))]; exact h
    · rfl
  | ⟨d, o, some (g', w')⟩ :: r, fr, H, h, hd => by
    have next : ∀ v H', evOps c r (putD fr d v) H' = evOps c (strip g w r) (putD fr d v) H' := fun v H' => by
      refine strip_ok ?_ (fun o ho => hd o (List.mem_cons_of_mem _ ho))
      cases d with
      | none => exact h
      | some d =>
        simp only [putD, T.get_set]
        rw [if_neg (fun e => hd _ List.mem_cons_self (by rw [e]))]; exact h
    rw [strip]
    cases hb : (Nat.beq g' g && (w' == w)) with
    | true =>
      simp only []
      simp only [Bool.and_eq_true, beq_iff_eq] at hb
      obtain ⟨h1, rfl⟩ := hb
      obtain rfl := Nat.eq_of_beq_eq_true h1
      rw [evOps, evOps]
      simp only [h, if_true]
      split
      · exact next _ _
      · rfl
    | false =>
      simp only []
      rw [evOps, evOps]
      simp only []
      split
      · split
        · split
          · exact next _ _
          · rfl
        · exact next _ _
      · exact next _ _
      · rfl
theorem skip_ok {Z : ZM} {om : Om} {g : Nat} {w q : Bool} (hg : lkP L g = some (.v (.bool q))) (hq : q ≠ w) : ∀ {l : List AOper} {ts : List Nat} {fr : T AV} {H : Heap}, skipOk g w ts l = true → newInG L l = true → FR Z om L fr → (∀ t ∈ ts, fr.get t = some (.tup [])) →
    ∃ fr', FR Z om L fr' ∧ ∀ call, evOps call l fr H = some (fr', H)
  | [], ts, fr, H, _, _, hf, _ => ⟨fr, hf, fun _ => rfl⟩
  | ⟨d, o, none⟩ :: r, ts, fr, H, hs, _, _, _ => by simp [skipOk] at hs
  | ⟨d, o, some (g', w')⟩ :: r, ts, fr, H, hs, hn, hf, ht => by
    obtain ⟨hd, hn⟩ := newInG_cons hn
    unfold skipOk at hs
    rw [Bool.and_eq_true] at hs
    obtain ⟨hs1, hs2⟩ := hs
    have hcase : (g' = g ∧ w' = w) ∨ (fr.get g' = some (.tup [])) := by
      rw [Bool.or_eq_true] at hs1
      rcases hs1 with h | h
      · simp only [Bool.and_eq_true, beq_iff_eq] at h
        exact .inl ⟨Nat.eq_of_beq_eq_true h.1, h.2⟩
      · obtain ⟨t, h1, h2⟩ := List.any_eq_true.1 h
        rw [Nat.eq_of_beq_eq_true h2]; exact .inr (ht t h1)
    have ht' : ∀ t ∈ (match d with | some d => d :: ts | none => ts), (putD fr d (.tup [])).get t = some (.tup []) := fun t hm => by
      cases d with
      | none => exact ht t hm
      | some d =>
        simp only [putD, T.get_set]
        split
        · rfl
        · rename_i c
          rcases List.mem_cons.1 hm with h | h
          · exact absurd h c
          · exact ht t h
    obtain ⟨fr', q1, q2⟩ := skip_ok (H := H) hg hq hs2 hn (hf.putNew (v := .tup []) hd) ht'
    refine ⟨fr', q1, fun call => ?_⟩
    rw [evOps]
    rcases hcase with ⟨rfl, rfl⟩ | h
    · obtain ⟨a, e1, e2⟩ := hf g' _ hg
      obtain rfl := e2.v_inv
      simp only [e1, if_neg hq]
      exact q2 call
    · simp only [h]
      exact q2 call
theorem newInG_ne {g : Nat} {v : GV} (hg : lkP L g = some v) : ∀ {l : List AOper}, newInG L l = true → ∀ o ∈ l, o.dst ≠ some g
  | [], _, o, h => by cases h
  | x :: l, h, o, hm => by
    obtain ⟨h1, h2⟩ := newInG_cons h
    rcases List.mem_cons.1 hm with e | e
    · subst e; intro c; rw [h1 g c] at hg; cases hg
    · exact newInG_ne hg h2 o e
end
section
variable {A : AProg} {L : GFr} {HG : GHp} {l : List AOper} {Q : GFr → GHp → Prop}
/-- the ways of `x && y`, `x || y` meet again -/
theorem G.side {o0 : AOper} {ops l : List AOper} {d g r : Nat} {w q p : Bool} {pk : AOp} (hpk : pk = if w then .pick (.t g) (.t r) (.c (.v (.bool false))) else .pick (.t g) (.c (.v (.bool true))) (.t r)) (hg : lkP L g = some (.v (.bool q)))
    (hs : skipOk g w [] (cutPre g (o0 :: ops)) = true) (hn : newInG L (cutPre g (o0 :: ops)) = true) (hr : cutPost g (o0 :: ops) = ⟨some d, pk, none⟩ :: l) (hcl : cleanL HG.D L = true) (hch : cleanH HG.D HG = true)
    (hB : q = w → WpOpsG A (strip g w (cutPre g (o0 :: ops))) L HG (sideG L HG r p)) (h : WpOpsG A l ((d, .v (.bool (if w then q && p else q || p))) :: L) HG Q) : WpOpsG A (o0 :: ops) L HG Q := fun Z om fr H hrel hf => by
  obtain ⟨a, e1, e2⟩ := hf g _ hg
  obtain rfl := e2.v_inv
  have heq := cut_eq g (o0 :: ops)
  by_cases hq : q = w
  · obtain ⟨m, s, s0, H2, i1, i2, Z1, om1, L1, HG1, r1, r2, r3, r4, r5, r6, r7⟩ := hB hq Z om fr H hrel hf
    have hF : FR Z1 (om1.cut HG.D) L s := (((r2.less r5).cut hcl).le i2)
    obtain ⟨a, e3, e4⟩ := r2 r _ r4
    obtain rfl := e4.v_inv
    have hsr := i2 _ _ e3
    have hval : (if w then q && p else q || p) = p := by subst hq; cases q <;> simp
    rw [hval] at h
    obtain ⟨n, f, f0, H', h1, h2, h3⟩ := h Z1 (om1.cut HG.D) (putD s (some d) (.v (.bool p))) H2 (r1.less r6 hch) (hF.put (.pure (.v _)) (some d))
    obtain ⟨u, u1, u2⟩ := evOps_le (callA_le (A := A) (Nat.le_max_right n m)) (FLe.refl _) i1
    obtain ⟨f2, g1, g2⟩ := evOps_le (callA_le (A := A) (Nat.le_max_left n m)) (FLe.put u2 (some d) _) h1
    obtain ⟨Z2, om2, L2, HG2, a2, b2, c2, d2⟩ := h3
    refine ⟨max n m, f2, f0, H', ?_, h2.trans g2, Z2, om2, L2, HG2, a2, b2, r3.trans ((Ext.less r1 r6 r7).trans c2), d2⟩
    have hpre : evOps (callA A (max n m)) (cutPre g (o0 :: ops)) fr H = some (u, H2) := by
      rw [strip_ok (w := w) (by rw [e1, hq]) (newInG_ne hg hn)]; exact u1
    rw [← heq, evOps_append hpre, hr, evOps]
    have hug : u.get g = some (.v (.bool w)) := by
      obtain ⟨a, x1, x2⟩ := hF g _ hg
      obtain rfl := x2.v_inv
      rw [u2 _ _ x1, hq]
    subst hpk
    cases w
    · simp only [evOp, evX, Bool.false_eq_true, if_false, hug, u2 _ _ hsr]; exact g1
    · simp only [evOp, evX, if_true, hug, u2 _ _ hsr]; exact g1
  · obtain ⟨fr3, i1, i2⟩ := skip_ok (H := H) hg hq hs hn hf (ts := []) (fun t h => by cases h)
    have hval : (if w then q && p else q || p) = !w := by cases q <;> cases w <;> simp at hq ⊢
    rw [hval] at h
    obtain ⟨n, f, f0, H', h1, h2, h3⟩ := h Z om (putD fr3 (some d) (.v (.bool !w))) H hrel (i1.put (.pure (.v _)) (some d))
    refine ⟨n, f, f0, H', ?_, h2, h3⟩
    obtain ⟨a', e1', e2'⟩ := i1 g _ hg
    obtain rfl := e2'.v_inv
    rw [← heq, evOps_append (i2 (callA A n)), hr, evOps]
    subst hpk
    cases w <;> cases q <;> first | (exact absurd rfl hq) | skip
    · simp only [evOp, evX, Bool.false_eq_true, if_false, e1', Bool.not_false] at h1 ⊢; exact h1
    · simp only [evOp, evX, if_true, e1', Bool.not_true] at h1 ⊢; exact h1
theorem G.andS {d0 : Option Nat} {o0 : AOp} {ops l : List AOper} {d g r : Nat} {q p : Bool} (hg : lkP L g = some (.v (.bool q)))
    (hs : skipOk g true [] (cutPre g (⟨d0, o0, some (g, true)⟩ :: ops)) = true) (hn : newInG L (cutPre g (⟨d0, o0, some (g, true)⟩ :: ops)) = true) (hr : cutPost g (⟨d0, o0, some (g, true)⟩ :: ops) = ⟨some d, .pick (.t g) (.t r) (.c (.v (.bool false))), none⟩ :: l) (hcl : cleanL HG.D L = true) (hch : cleanH HG.D HG = true)
    (hB : q = true → WpOpsG A (strip g true (cutPre g (⟨d0, o0, some (g, true)⟩ :: ops))) L HG (sideG L HG r p)) (h : WpOpsG A l ((d, .v (.bool (q && p))) :: L) HG Q) : WpOpsG A (⟨d0, o0, some (g, true)⟩ :: ops) L HG Q :=
  G.side (w := true) rfl hg hs hn hr hcl hch hB h
theorem G.orS {d0 : Option Nat} {o0 : AOp} {ops l : List AOper} {d g r : Nat} {q p : Bool} (hg : lkP L g = some (.v (.bool q)))
    (hs : skipOk g false [] (cutPre g (⟨d0, o0, some (g, false)⟩ :: ops)) = true) (hn : newInG L (cutPre g (⟨d0, o0, some (g, false)⟩ :: ops)) = true) (hr : cutPost g (⟨d0, o0, some (g, false)⟩ :: ops) = ⟨some d, .pick (.t g) (.c (.v (.bool true))) (.t r), none⟩ :: l) (hcl : cleanL HG.D L = true) (hch : cleanH HG.D HG = true)
    (hB : q = false → WpOpsG A (strip g false (cutPre g (⟨d0, o0, some (g, false)⟩ :: ops))) L HG (sideG L HG r p)) (h : WpOpsG A l ((d, .v (.bool (q || p))) :: L) HG Q) : WpOpsG A (⟨d0, o0, some (g, false)⟩ :: ops) L HG Q :=
  G.side (w := false) rfl hg hs hn hr hcl hch hB h
/-! ## Numbers that fit -/
theorem G.addI {d : Nat} {x y : AX} {a b : Int} (hx : lkGX L x = some (.v (.int .i64 a))) (hy : lkGX L y = some (.v (.int .i64 b))) (h : -2 ^ 63 ≤ a + b ∧ a + b < 2 ^ 63) (k : WpOpsG A l ((d, .v (.int .i64 (a + b))) :: L) HG Q) : WpOpsG A (⟨some d, .bin .add x y, none⟩ :: l) L HG Q :=
  G.bin hx hy (r := .int .i64 (IntKind.i64.wrap (a + b))) rfl (by rw [IntKind.wrap_i64, show (a + b + 9223372036854775808) % 18446744073709551616 - 9223372036854775808 = a + b by omega]; exact k)
theorem G.subI {d : Nat} {x y : AX} {a b : Int} (hx : lkGX L x = some (.v (.int .i64 a))) (hy : lkGX L y = some (.v (.int .i64 b))) (h : -2 ^ 63 ≤ a - b ∧ a - b < 2 ^ 63) (k : WpOpsG A l ((d, .v (.int .i64 (a - b))) :: L) HG Q) : WpOpsG A (⟨some d, .bin .sub x y, none⟩ :: l) L HG Q :=
  G.bin hx hy (r := .int .i64 (IntKind.i64.wrap (a - b))) rfl (by rw [IntKind.wrap_i64, show (a - b + 9223372036854775808) % 18446744073709551616 - 9223372036854775808 = a - b by omega]; exact k)
theorem G.mulI {d : Nat} {x y : AX} {a b : Int} (hx : lkGX L x = some (.v (.int .i64 a))) (hy : lkGX L y = some (.v (.int .i64 b))) (h : -2 ^ 63 ≤ a * b ∧ a * b < 2 ^ 63) (k : WpOpsG A l ((d, .v (.int .i64 (a * b))) :: L) HG Q) : WpOpsG A (⟨some d, .bin .mul x y, none⟩ :: l) L HG Q :=
  G.bin hx hy (r := .int .i64 (IntKind.i64.wrap (a * b))) rfl (by rw [IntKind.wrap_i64, show (a * b + 9223372036854775808) % 18446744073709551616 - 9223372036854775808 = a * b by omega]; exact k)
theorem G.conv64 {d : Nat} {k' : IntKind} {x : AX} {n : Int} (hx : lkGX L x = some (.v (.int k' n))) (h : -2 ^ 63 ≤ n ∧ n < 2 ^ 63) (k : WpOpsG A l ((d, .v (.int .i64 n)) :: L) HG Q) : WpOpsG A (⟨some d, .convi .i64 x, none⟩ :: l) L HG Q :=
  G.convi hx (by rw [IntKind.wrap_i64, show (n + 9223372036854775808) % 18446744073709551616 - 9223372036854775808 = n by omega]; exact k)
/-- an index that is a natural number -/
theorem G.iaddrN {d w : Nat} {x i : AX} {α : Type} {enc : α → List GV} {xs : List α} {k' : IntKind} {n : Nat} {y : α} (hx : lkGX L x = some (.fsl w (xs.map enc))) (hi : lkGX L i = some (.v (.int k' (n : Int)))) (hc : xs[n]? = some y) (k : WpOpsG A l ((d, .fptr (enc y) 0) :: L) HG Q) : WpOpsG A (⟨some d, .iaddr w x i, none⟩ :: l) L HG Q :=
  G.iaddrM hx hi (Int.natCast_nonneg n) (by rw [Int.toNat_natCast]; exact hc) k
theorem bndG_some {d hi : Nat} {x : AX} {k : IntKind} {n : Int} (hx : lkGX L x = some (.v (.int k n))) (h : 0 ≤ n ∧ n ≤ hi) : bndG L d hi (some x) = some n.toNat := by
  rw [bndG, hx]
  simp only [natOf, if_pos h]
/-- bytes as a text -/
def bytesG : List (List GV) → Option (List UInt8)
  | [] => some []
  | [.v (.int .u8 n)] :: r => match bytesG r with
    | some l => some (UInt8.ofNat n.toNat :: l)
    | none => none
  | _ => none
theorem bytesG_ok {Z : ZM} : ∀ {cs : List (List GV)} {bs : List UInt8} {ws : List AV}, bytesG cs = some bs → ws.length = cs.length → ArrAt Z ws 0 1 cs → bytesOf ws = some bs
  | [], bs, ws, h, hl, _ => by cases h; cases ws <;> simp at hl; rfl
  | c :: cs, bs, [], h, hl, _ => by simp at hl
  | c :: cs, bs, w :: ws, h, hl, ha => by
    unfold bytesG at h
    split at h
    · rename_i e; cases e
    · rename_i n r e
      cases e
      split at h
      · rename_i l hr
        cases h
        obtain ⟨a, a1, a2⟩ := (ha 0 _ rfl).2 0 _ rfl
        simp at a1
        subst a1
        cases a2
        have ih := bytesG_ok (ws := ws) hr (by simpa using hl) (fun i c e => by
          obtain ⟨h1, h2⟩ := ha (i + 1) c (by simpa using e)
          refine ⟨h1, fun k x e' => ?_⟩
          obtain ⟨a, b1, b2⟩ := h2 k x e'
          have hk := (List.getElem?_eq_some_iff.1 e').1
          obtain rfl : k = 0 := by omega
          simp only [Nat.zero_add, Nat.mul_one, Nat.add_zero, List.getElem?_cons_succ] at b1 ⊢
          exact ⟨a, b1, b2⟩)
        simp only [bytesOf, ih, Option.map]
      · cases h
    · cases h
theorem G.convbs {d : Nat} {x : AX} {v : GV} {cs : List (List GV)} {bs : List UInt8} (hx : lkGX L x = some v) (hs : srcG HG 1 v = some cs) (hb : bytesG cs = some bs) (hstr : ∀ s, v ≠ .v (.string s)) (k : WpOpsG A l ((d, .v (.string ⟨bs.toArray⟩)) :: L) HG Q) : WpOpsG A (⟨some d, .convbs x, none⟩ :: l) L HG Q :=
  WpOpsG.pure (d := some d) (fun Z om fr H hr hf => by
    obtain ⟨u, h1, h2⟩ := hf.x hx
    obtain ⟨news, n1, n2, n3⟩ := src_ok hr h2 hs
    have hbo := bytesG_ok hb (by rw [n2, Nat.mul_one]) n3
    refine ⟨.v (.string ⟨bs.toArray⟩), ?_, .pure (.v _)⟩
    cases u with
    | sl b off len cap ex =>
      simp only [newsOf, Nat.mul_one, Option.map_eq_some_iff, Prod.mk.injEq] at n1
      obtain ⟨ws, g1, g2, rfl⟩ := n1
      simp only [evOp, h1, g1, hbo]
    | v y =>
      have hnil : ∀ z, newsOf H 1 (.v y) = some z → (∃ s, y = .string s) ∨ y = .slice none 0 0 := by
        intro z hz
        unfold newsOf at hz
        split at hz
        · rename_i e; cases e; exact .inr rfl
        · rename_i e; cases e
        · rename_i s e; cases e; exact .inl ⟨s, rfl⟩
        · cases hz
      rcases hnil _ n1 with ⟨s, rfl⟩ | rfl
      · exfalso
        cases v with
        | v z => have := h2.v_inv; cases this; exact hstr s rfl
        | fsl w c => have := h2.fsl_inv; cases this
        | osl g => rcases h2.osl_inv with ⟨_, _, _, _, _, _, _, e⟩ | ⟨_, e⟩ <;> cases e
        | _ => simp [srcG] at hs
      · simp only [newsOf, Option.some.injEq, Prod.mk.injEq] at n1
        have : cs = [] := List.length_eq_zero_iff.1 n1.1.symm
        subst this
        cases hb
        have he : ByteArray.empty = ⟨([] : List UInt8).toArray⟩ := rfl
        simp only [evOp, h1, he]
    | _ => simp [newsOf] at n1) k
theorem G.convsb {d g : Nat} {x : AX} {s : ByteArray} (hx : lkGX L x = some (.v (.string s))) (hg : (lkP HG g).isNone = true) (k : WpOpsG A l ((d, .osl g) :: L) ((g, .arr .yes 1 (s.data.toList.map fun b => [.v (.int .u8 b.toNat)])) :: HG) Q) : WpOpsG A (⟨some d, .convsb x, none⟩ :: l) L HG Q :=
  WpOpsG.step (d := some d) (fun Z om fr H hr hf => by
    obtain ⟨u, h1, h2⟩ := hf.x hx
    obtain rfl := h2.v_inv
    have hg' : lkP HG g = none := by simpa using hg
    obtain ⟨news, n1, n2, n3⟩ := src_ok hr h2 (w := 1) (ds := s.data.toList.map fun b => [.v (.int .u8 b.toNat)]) rfl
    simp only [newsOf, if_true, Option.some.injEq, Prod.mk.injEq] at n1
    obtain ⟨_, rfl⟩ := n1
    have hlen : (s.data.toList.map fun b => [GV.v (.int .u8 b.toNat)]).length = s.size := by simp only [List.length_map]; rfl
    obtain ⟨r1, r2⟩ := hr.alloc hg' (es := 1) (cs := s.data.toList.map fun b => .v (.int .u8 b.toNat)) (l := .sl H.next 0 (s.data.toList.map fun b => [GV.v (.int .u8 b.toNat)]).length s.size false 1) (nb := .arr .yes 1 (s.data.toList.map fun b => [.v (.int .u8 b.toNat)])) (.inl rfl)
      (.arr (Om.set_self ..) (Heap.alloc_self rfl) rfl rfl (by omega) (by simp only [List.length_map, Nat.zero_add, Nat.mul_one]; rfl) (.inr hlen) n3)
    exact WpOp.eval (by simp only [evOp, h1, hlen]) ⟨Z, _, r1, hf.mono (.refl _) (Om.le_set _ _ _ (hr.dom g hg')), .osl (Om.set_self ..), r2⟩) k
end
end Go.AM
