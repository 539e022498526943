/- The machine, and that it tells the truth of the program. No condition. -/
import Derived.Test.YtlkcohidkhbipaaGreatAMa
import Derived.MapKept
import Derived.LoopN
set_option linter.all false
namespace Go.AM
open Go.RowKit
section
variable {P : Program} {B : Nat} {φ : Phi} {H H' : Heap} {w : World} {fr : T AV} {a : Act} {o : Oper} {ao : AOp} {v : AV}
 {call : Nat → List AV → Heap → Option (AV × Heap)}
theorem sl_inv {b off len cap : Nat} {ex : Bool} {x : Value} (h : VRel φ (.sl b off len cap ex) x) : ∃ p ad c, φ b = some p ∧ x = .slice (some ad) len c ∧ len ≤ cap ∧ cap ≤ c ∧ (ex = true → c = cap) ∧
 off + c * p.es ≤ p.n ∧ (c = 0 ∨ ad = ⟨p.r, p.o + off, none⟩) ∧ p.mp = false := by
 cases h with
 | sl h h1 h2 h3 h4 h5 hm => exact ⟨_, _, _, h, rfl, h1, h2, h3, h4, h5, hm⟩
theorem add_at (p : Pl) (off k : Nat) : (⟨p.r, p.o + off, none⟩ : Addr).add k = ⟨p.r, p.o + (off + k), none⟩ := by
 unfold Addr.add; split <;> simp_all [Nat.add_assoc]
theorem iaddr_sound (hr : HRel B φ H w) (hf : FRel φ fr a.tmps) {t : TypeId} {x y : Operand} (ho : o.op = .indexAddr t x y) (hc : cOp P o = some ao) (he : evOp call ao fr H = some (v, H')) :
 OpRes P B φ H w a o v H' := by
 simp only [cOp, ho, Option.bind_eq_bind, Option.bind_eq_some_iff] at hc
 obtain ⟨d, hd, hc⟩ := hc
 cases d with
 | slice e =>
   simp only [Option.bind_eq_some_iff] at hc
   obtain ⟨s, hs, ax, hx, ay, hy, hc⟩ := hc
   cases hc
   simp only [evOp] at he
   split at he
   ·rename_i b off len cap ex k n hev hev2
    split at he
    ·rename_i hin
     cases he
     obtain ⟨p, ad, c, hp, hx', h1, h2, _, _, h5, hpm⟩ := sl_inv (ev_sound hf hx hev)
     have hy' := (v_inv (ev_sound hf hy hev2)).1
     have had : ad = ⟨p.r, p.o + off, none⟩ := by
      rcases h5 with h5 | h5
      ·omega
      ·exact h5
     subst had
     refine OpRes.pure hr (x := .pointer (some ⟨p.r, p.o + (off + n.toNat * s), none⟩)) (.ptr hp hpm) ?_
     simp [execOp, ho, hx', hy', Instr.indexAt, asIntOf, run_underlying hd, hin, size_run hs, add_at]
    ·cases he
   ·cases he
 | array m e =>
   simp only [Option.bind_eq_some_iff] at hc
   obtain ⟨s, hs, ax, hx, ay, hy, hc⟩ := hc
   cases hc
   simp only [evOp] at he
   split at he
   ·rename_i b off k n hev hev2
    split at he
    ·rename_i hin
     cases he
     obtain ⟨p, hp, hpm, hx'⟩ := ptr_inv (ev_sound hf hx hev)
     have hy' := (v_inv (ev_sound hf hy hev2)).1
     refine OpRes.pure hr (x := .pointer (some ⟨p.r, p.o + (off + n.toNat * s), none⟩)) (.ptr hp hpm) ?_
     simp [execOp, ho, hx', hy', Instr.indexAt, Instr.sureAddr, asIntOf, run_underlying hd, hin, size_run hs, add_at]
    ·cases he
   ·cases he
 | _ => cases hc
theorem sidx_sound (hr : HRel B φ H w) (hf : FRel φ fr a.tmps) {t : TypeId} {x y : Operand} (ho : o.op = .index t x y) (hc : cOp P o = some ao) (he : evOp call ao fr H = some (v, H')) :
 OpRes P B φ H w a o v H' := by
 simp only [cOp, ho, Option.bind_eq_bind, Option.bind_eq_some_iff] at hc
 obtain ⟨d, hd, hc⟩ := hc
 cases d with
 | string =>
   simp only [Option.bind_eq_some_iff] at hc
   obtain ⟨ax, hx, ay, hy, hc⟩ := hc
   cases hc
   simp only [evOp] at he
   split at he
   ·rename_i s k n hev hev2
    split at he
    ·rename_i hn
     split at he
     ·rename_i u hu
      cases he
      have hx' := (v_inv (ev_sound hf hx hev)).1
      have hy' := (v_inv (ev_sound hf hy hev2)).1
      refine OpRes.pure hr (x := .int .u8 u.toNat) (.v rfl) ?_
      have : s[n.toNat]? = some u := by
       obtain ⟨h1, h2⟩ := List.getElem?_eq_some_iff.1 hu
       have h1' : n.toNat < s.size := by simpa using h1
       rw [getElem?_pos s n.toNat h1']
       rw [← h2]; rfl
      simp [execOp, ho, hx', hy', Instr.index, asIntOf, run_underlying hd, hn, this]
     ·cases he
    ·cases he
   ·cases he
 | array n e =>
   simp only [Option.bind_eq_some_iff] at hc
   obtain ⟨g, hg, s, hs, hc⟩ := hc
   split at hc
   ·simp only [Option.bind_eq_some_iff] at hc
    obtain ⟨ax, hx, ay, hy, hc⟩ := hc
    cases hc
    simp only [evOp] at he
    split at he
    ·rename_i cs k m hev hev2
     split at he
     ·rename_i hn
      split at he
      ·rename_i u hu
       cases he
       have h := ev_sound hf hx hev
       have hy' := (v_inv (ev_sound hf hy hev2)).1
       generalize hz : a.eval x = z at h
       have hrel := h.cs rfl
       cases h with
       | agg h1 h2 h3 =>
         rename_i xs
         have hlt : m.toNat < xs.size := by rw [← h1]; exact (List.getElem?_eq_some_iff.1 hu).1
         have hxs : xs[m.toNat]? = some xs[m.toNat] := by simp [hlt]
         refine OpRes.pure hr (x := xs[m.toNat]) (h2 _ _ _ hu hxs) ?_
         simp [execOp, ho, hz, hy', Instr.index, asIntOf, run_underlying hd, hn, part, agg_run hg, size_run hs, hlt]
      ·cases he
     ·cases he
    ·cases he
   ·cases hc
 | _ => cases hc
theorem natOf_some {n : Int} {hi k : Nat} (h : natOf n hi = some k) : 0 ≤ n ∧ n ≤ hi ∧ k = n.toNat := by
 unfold natOf at h
 split at h
 ·cases h; exact ⟨by omega, by omega, rfl⟩
 ·cases h
theorem bound_run {k : IntKind} {n : Int} {hi m : Nat} (h : natOf n hi = some m) (code : BoundsCode) (w : World) : (Instr.sliceBound (.int k n) hi code).run P w = .ok m w := by
 obtain ⟨h1, h2, rfl⟩ := natOf_some h
 simp [Instr.sliceBound, asIntOf, h1, h2]
theorem boundX_le {d hi m : Nat} {ax : Option AX} (hd : d ≤ hi) (he : boundX fr d hi ax = some m) : m ≤ hi := by
 cases ax with
 | none => simp only [boundX, Option.some.injEq] at he; omega
 | some ay =>
   simp only [boundX] at he
   split at he
   ·obtain ⟨_, h2, h3⟩ := natOf_some he; omega
   ·cases he
theorem bounds_run (hf : FRel φ fr a.tmps) {lo hi : Option Operand} {al ah : Option AX} (hl : cOptX lo = some al) (hh : cOptX hi = some ah) {len cap h l : Nat}
 (h1 : boundX fr len cap ah = some h) (h2 : boundX fr 0 h al = some l) (b : Bool) (w : World) :
 (Instr.sliceBounds b len cap (lo.map a.eval) (hi.map a.eval) none).run P w = .ok (l, h, cap) w := by
 have key : ∀ (ox : Option Operand) (ax : Option AX), cOptX ox = some ax → ∀ (d c m : Nat), boundX fr d c ax = some m →
  (ox = none ∧ m = d) ∨ (∃ x k n, ox = some x ∧ a.eval x = .int k n ∧ natOf n c = some m) := by
  intro ox ax hox d c m hm
  cases ox with
  | none => cases hox; simp only [boundX, Option.some.injEq] at hm; exact .inl ⟨rfl, hm.symm⟩
  | some x =>
    simp only [cOptX, Option.map_eq_some_iff] at hox
    obtain ⟨ay, hy, rfl⟩ := hox
    simp only [boundX] at hm
    split at hm
    ·rename_i k n hev
     exact .inr ⟨x, k, n, rfl, (v_inv (ev_sound hf hy hev)).1, hm⟩
    ·cases hm
 rcases key hi ah hh len cap h h1 with ⟨rfl, rfl⟩ | ⟨x, k, n, rfl, e1, e2⟩
 ·rcases key lo al hl 0 _ l h2 with ⟨rfl, rfl⟩ | ⟨y, k', n', rfl, e3, e4⟩
  ·simp [Instr.sliceBounds]
  ·simp [Instr.sliceBounds, e3, bound_run e4]
 ·rcases key lo al hl 0 h l h2 with ⟨rfl, rfl⟩ | ⟨y, k', n', rfl, e3, e4⟩
  ·simp [Instr.sliceBounds, e1, bound_run e2]
  ·simp [Instr.sliceBounds, e1, bound_run e2, e3, bound_run e4]
theorem bounds3_run (hf : FRel φ fr a.tmps) {lo : Option Operand} {hi mx : Operand} {al : Option AX} {ah am : AX} (hl : cOptX lo = some al) (hh : cX hi = some ah) (hm : cX mx = some am) {len cap h l m : Nat}
 (h0 : boundX fr 0 cap (some am) = some m) (h1 : boundX fr 0 m (some ah) = some h) (h2 : boundX fr 0 h al = some l) (w : World) :
 (Instr.sliceBounds true len cap (lo.map a.eval) (some (a.eval hi)) (some (a.eval mx))).run P w = .ok (l, h, m) w := by
 have key : ∀ (x : Operand) (ax : AX), cX x = some ax → ∀ (c m : Nat), boundX fr 0 c (some ax) = some m → ∃ k n, a.eval x = .int k n ∧ natOf n c = some m := by
  intro x ax hox c m hm
  simp only [boundX] at hm
  split at hm
  ·rename_i k n hev
   exact ⟨k, n, (v_inv (ev_sound hf hox hev)).1, hm⟩
  ·cases hm
 obtain ⟨k1, n1, e1, e2⟩ := key mx am hm _ _ h0
 obtain ⟨k2, n2, e3, e4⟩ := key hi ah hh _ _ h1
 cases lo with
 | none => cases hl; simp only [boundX, Option.some.injEq] at h2; subst h2; simp [Instr.sliceBounds, e1, bound_run e2, e3, bound_run e4]
 | some x =>
   simp only [cOptX, Option.map_eq_some_iff] at hl
   obtain ⟨ay, hy, rfl⟩ := hl
   obtain ⟨k3, n3, e5, e6⟩ := key x ay hy _ _ h2
   simp [Instr.sliceBounds, e1, bound_run e2, e3, bound_run e4, e5, bound_run e6]
theorem slice_sound (hr : HRel B φ H w) (hf : FRel φ fr a.tmps) {t : TypeId} {x : Operand} {lo hi mx : Option Operand} (ho : o.op = .slice t x lo hi mx) (hc : cOp P o = some ao) (he : evOp call ao fr H = some (v, H')) :
 OpRes P B φ H w a o v H' := by
 simp only [cOp, ho, Option.bind_eq_bind, Option.bind_eq_some_iff] at hc
 obtain ⟨d, hd, hc⟩ := hc
 cases mx with
 | some m =>
   cases d with
   | slice e =>
     cases hi with
     | none => cases hc
     | some xh =>
       simp only [Option.bind_eq_some_iff] at hc
       obtain ⟨s, hs, ax, hx, al, hl, ah, hh, am, hm, hc⟩ := hc
       cases hc
       simp only [evOp] at he
       split at he
       ·rename_i hev
        split at he
        ·rename_i m1 hm1
         split at he
         ·rename_i h1 hh1
          split at he
          ·rename_i l1 hl1
           cases he
           have hx' := (v_inv (ev_sound hf hx hev)).1
           refine OpRes.pure hr (x := .slice none 0 0) (.v rfl) ?_
           have m0 : m1 = 0 := by have := boundX_le (Nat.le_refl 0) hm1; omega
           have h0 : h1 = 0 := by have := boundX_le (Nat.zero_le _) hh1; omega
           have l0 : l1 = 0 := by have := boundX_le (Nat.zero_le _) hl1; omega
           subst m0 h0 l0
           simp [execOp, ho, hx', Instr.sliceAt, Instr.slice, run_underlying hd, bounds3_run (P := P) hf hl hh hm hm1 hh1 hl1, size_run hs]
          ·cases he
         ·cases he
        ·cases he
       ·rename_i b off len cap ex hev
        split at he
        ·rename_i m1 hm1
         split at he
         ·rename_i h1 hh1
          split at he
          ·rename_i l1 hl1
           split at he
           ·rename_i blk hb
            split at he
            ·rename_i hes
             cases he
             obtain ⟨p, ad, c, hp, hx', g1, g2, g3, g4, g5, hpm⟩ := sl_inv (ev_sound hf hx hev)
             have hpes : s = p.es := hes.symm.trans (hr.blk b blk p hb hp hpm).es
             have hmm := boundX_le (Nat.zero_le _) hm1
             have hh2 := boundX_le (Nat.zero_le _) hh1
             have hl2 := boundX_le (Nat.zero_le _) hl1
             have up : ∀ {d m m' : Nat} {x : AX}, m ≤ m' → ∀ {r}, boundX fr d m (some x) = some r → boundX fr d m' (some x) = some r := by
              intro d m m' x hm r hr'
              simp only [boundX] at hr' ⊢
              split at hr'
              ·obtain ⟨q1, q2, q3⟩ := natOf_some hr'
               unfold natOf
               rw [if_pos ⟨q1, by omega⟩, q3]
              ·cases hr'
             have hrun := bounds3_run (P := P) (len := len) hf hl hh hm (up g2 hm1) hh1 hl1 w
             refine OpRes.pure hr (x := .slice (if m1 = l1 then some ad else (some ad).map (·.add (l1 * s))) (h1 - l1) (m1 - l1)) ?_ ?_
             ·by_cases hcl : m1 = l1
              ·rw [if_pos hcl]
               refine .sl hp (by omega) (Nat.le_refl _) (fun _ => rfl) ?_ (.inl (by omega)) hpm
               subst hcl hpes
               have := Nat.mul_le_mul_right p.es (show m1 ≤ c by omega)
               simp only [Nat.sub_self, Nat.zero_mul]
               omega
              ·rw [if_neg hcl]
               have had : ad = ⟨p.r, p.o + off, none⟩ := by
                rcases g5 with g5 | g5
                ·omega
                ·exact g5
               subst had
               refine .sl hp (by omega) (Nat.le_refl _) (fun _ => rfl) ?_ (.inr (add_at p off (l1 * s))) hpm
               have e1 : l1 * p.es + (m1 - l1) * p.es = m1 * p.es := by rw [← Nat.add_mul]; congr 1; omega
               have e2 := Nat.mul_le_mul_right p.es (show m1 ≤ c by omega)
               rw [hpes]
               omega
             ·simp [execOp, ho, hx', Instr.sliceAt, Instr.slice, run_underlying hd, hrun, size_run hs]
            ·cases he
           ·cases he
          ·cases he
         ·cases he
        ·cases he
       ·cases he
   | _ => cases hc
 | none =>
 cases d with
 | slice e =>
   simp only [Option.bind_eq_some_iff] at hc
   obtain ⟨s, hs, ax, hx, al, hl, ah, hh, hc⟩ := hc
   cases hc
   simp only [evOp] at he
   split at he
   ·rename_i hev
    split at he
    ·rename_i h hhi
     split at he
     ·rename_i l hlo
      cases he
      have hx' := (v_inv (ev_sound hf hx hev)).1
      refine OpRes.pure hr (x := .slice none 0 0) (.v rfl) ?_
      have h0 : h = 0 := by have := boundX_le (Nat.le_refl 0) hhi; omega
      have l0 : l = 0 := by have := boundX_le (Nat.zero_le _) hlo; omega
      subst h0 l0
      simp [execOp, ho, hx', Instr.sliceAt, Instr.slice, run_underlying hd, bounds_run (P := P) hf hl hh hhi hlo, size_run hs]
     ·cases he
    ·cases he
   ·rename_i b off len cap ex hev
    split at he
    ·rename_i h hhi
     split at he
     ·rename_i l hlo
      split at he
      ·rename_i blk hb
       split at he
       ·rename_i hes
        cases he
        obtain ⟨p, ad, c, hp, hx', h1, h2, h3, h4, h5, hpm⟩ := sl_inv (ev_sound hf hx hev)
        have hpes : s = p.es := hes.symm.trans (hr.blk b blk p hb hp hpm).es
        have hh1 := boundX_le h1 hhi
        have hl1 := boundX_le (Nat.zero_le _) hlo
        -- the same bounds hold at the true capacity
        have up : ∀ {d m m' : Nat} {ax : Option AX}, m ≤ m' → ∀ {r}, boundX fr d m ax = some r → boundX fr d m' ax = some r := by
         intro d m m' ax hm r hr'
         cases ax with
         | none => exact hr'
         | some ay =>
           simp only [boundX] at hr' ⊢
           split at hr'
           ·obtain ⟨g1, g2, g3⟩ := natOf_some hr'
            unfold natOf
            rw [if_pos ⟨g1, by omega⟩, g3]
           ·cases hr'
        have hrun := bounds_run (P := P) hf hl hh (up h2 hhi) hlo true w
        refine OpRes.pure hr (x := .slice (if c = l then some ad else (some ad).map (·.add (l * s))) (h - l) (c - l)) ?_ ?_
        ·by_cases hcl : c = l
         ·rw [if_pos hcl]
          refine .sl hp (by omega) (by omega) (fun hex => by have := h3 hex; omega) ?_ (.inl (by omega)) hpm
          subst hcl hpes
          simpa using h4
         ·rw [if_neg hcl]
          have had : ad = ⟨p.r, p.o + off, none⟩ := by
           rcases h5 with h5 | h5
           ·omega
           ·exact h5
          subst had
          refine .sl hp (by omega) (by omega) (fun hex => by have := h3 hex; omega) ?_ (.inr (add_at p off (l * s))) hpm
          have : l * p.es + (c - l) * p.es = c * p.es := by rw [← Nat.add_mul]; congr 1; omega
          rw [hpes]
          omega
        ·simp [execOp, ho, hx', Instr.sliceAt, Instr.slice, run_underlying hd, hrun, size_run hs]
       ·cases he
      ·cases he
     ·cases he
    ·cases he
   ·cases he
 | string =>
   simp only [Option.bind_eq_some_iff] at hc
   obtain ⟨ax, hx, al, hl, ah, hh, hc⟩ := hc
   cases hc
   simp only [evOp] at he
   split at he
   ·rename_i s hev
    split at he
    ·rename_i h hhi
     split at he
     ·rename_i l hlo
      cases he
      have hx' := (v_inv (ev_sound hf hx hev)).1
      refine OpRes.pure hr (x := .string (s.extract l h)) (.v rfl) ?_
      simp [execOp, ho, hx', Instr.sliceAt, Instr.slice, run_underlying hd, bounds_run (P := P) hf hl hh hhi hlo]
     ·cases he
    ·cases he
   ·cases he
 | _ => cases hc
theorem un_sound (hr : HRel B φ H w) (hf : FRel φ fr a.tmps) {u : UnOp} {t : TypeId} {x : Operand} (ho : o.op = .unOp u t x) (hc : cOp P o = some ao) (he : evOp call ao fr H = some (v, H')) :
 OpRes P B φ H w a o v H' := by
 simp only [cOp, ho, Option.bind_eq_bind, Option.bind_eq_some_iff] at hc
 obtain ⟨ax, hx, hc⟩ := hc
 cases hc
 simp only [evOp] at he
 split at he
 ·rename_i y hev
  split at he
  ·rename_i r hu
   cases he
   have hx' := (v_inv (ev_sound hf hx hev)).1
   have key : (Op.unary u y).run P w = .ok r w ∧ r.oneCell' = true := by
    unfold unV at hu
    split at hu <;> cases hu
    ·exact ⟨rfl, rfl⟩
    ·exact ⟨rfl, rfl⟩
    ·exact ⟨rfl, rfl⟩
   refine OpRes.pure hr (x := r) (.v key.2) ?_
   simp [execOp, ho, hx', key.1]
  ·cases he
 ·cases he
theorem convi_run (k : IntKind) (n : Int) : (Conv.intToInt k n).run P w = .ok (.int k (k.wrap n)) w := rfl
theorem conv_sound (hr : HRel B φ H w) (hf : FRel φ fr a.tmps) (hφ : ∀ b, H.next ≤ b → b < H'.next → φ b = none) {s t : TypeId} {x : Operand} (ho : o.op = .convert s t x) (hc : cOp P o = some ao) (he : evOp call ao fr H = some (v, H')) :
 OpRes P B φ H w a o v H' := by
 simp only [cOp, ho, Option.bind_eq_bind, Option.bind_eq_some_iff] at hc
 obtain ⟨d, hd, d', hd', hc⟩ := hc
 split at hc
 ·rename_i k0 k
  simp only [Option.bind_eq_some_iff] at hc
  obtain ⟨ax, hx, hc⟩ := hc
  cases hc
  simp only [evOp] at he
  split at he
  ·rename_i k1 n hev
   cases he
   have hx' := (v_inv (ev_sound hf hx hev)).1
   refine OpRes.pure hr (x := .int k (k.wrap n)) (.v rfl) ?_
   simp [execOp, ho, hx', convert, run_underlying hd, run_underlying hd', convi_run]
  ·cases he
 ·rename_i e
  simp only [Option.bind_eq_some_iff] at hc
  obtain ⟨de, hde, hc⟩ := hc
  split at hc
  ·simp only [Option.bind_eq_some_iff] at hc
   obtain ⟨ax, hx, hc⟩ := hc
   cases hc
   simp only [evOp] at he
   split at he
   ·rename_i str hev
    cases he
    have hx' := (v_inv (ev_sound hf hx hev)).1
    generalize hq : (Question.appendCap str.size 0 e).cut (w.tape w.drawn (Question.appendCap str.size 0 e)) = cap
    have hcap : str.size ≤ cap := by rw [← hq]; simp [Question.cut]
    let xs : Array Value := (str.data.map fun b => Value.int .u8 b.toNat) ++ Array.replicate (cap - str.size) (.int .u8 0)
    have hxs : xs.size = cap := by
     have : str.data.size = str.size := rfl
     simp [xs]; omega
    let w1 : World := { w with drawn := w.drawn + 1 }
    let w' : World := { w1 with heap := w.heap.push (.cells xs e (cap, cap + 1)) }
    have hst : Step B φ H w _ _ w' := Step.alloc hr 1 (str.data.toList.map fun b => .v (.int .u8 b.toNat)) xs e (cap, cap + 1) (hφ _ (Nat.le_refl _) (Nat.lt_succ_self _))
     (by have : str.data.size = str.size := rfl
         simp [hxs]; omega) (by
       intro i c hc
       rw [List.getElem?_map] at hc
       cases hb : str.data.toList[i]? with
       | none => rw [hb] at hc; cases hc
       | some u =>
         rw [hb] at hc
         cases hc
         have hlt : i < str.data.toList.length := (List.getElem?_eq_some_iff.1 hb).1
         refine ⟨.int .u8 u.toNat, ?_, .v rfl, rfl⟩
         have hb' : str.data[i]? = some u := by simpa using hb
         simp only [xs]
         rw [Array.getElem?_append_left (by simpa using hlt), Array.getElem?_map, hb']
         rfl) (.inl (by rw [hxs]; exact Nat.le_refl _)) w' rfl rfl rfl rfl
    refine ⟨.slice (some ⟨w.heap.size, 0, none⟩) str.size cap, w', _, hst, ?_, .inl ?_⟩
    ·exact VRel.sl (p := ⟨w.heap.size, 0, xs.size, 1, false⟩) (by simp) (Nat.le_refl _) hcap (by simp) (by simp [hxs]) (.inr rfl) rfl
    ·have hmod : (w.heap.push (Obj.cells xs e)).modify w.heap.size (fun o => match o with
      | .cells c elem (lo, hi) => .cells c elem (if (lo == hi) = true then (cap, cap + 1) else (min lo cap, max hi (cap + 1)))
      | o => o) = w.heap.push (.cells xs e (cap, cap + 1)) := by
      apply Array.ext_getElem?
      intro i
      rw [Array.getElem?_modify, Array.getElem?_push, Array.getElem?_push]
      by_cases hi : i = w.heap.size
      ·subst hi; simp
      ·rw [if_neg (fun h => hi h.symm), if_neg hi, if_neg hi]
     have hsh : World.shape? { heap := w.heap.push (Obj.cells xs e), tape := w.tape, drawn := w.drawn + 1, os := w.os, output := w.output } w.heap.size = some (e, cap) := by
      simp [World.shape?, hxs]
     simp only [execOp, ho, hx', convert, Sem.run_bind, run_underlying hd, run_underlying hd', Result.andThen_ok, run_underlying hde, Conv.stringToBytes, run_choose, Question.forced, Bool.false_eq_true, if_false, hq, newRow, run_newObj, Sem.run_pure, markStringish, run_shape]
     have hxs' : (str.data.map fun b => Value.int .u8 b.toNat) ++ Array.replicate (cap - str.size) (.int .u8 0) = xs := rfl
     rw [hxs', hsh]
     simp only [run_freeze, World.freeze, Result.andThen_ok]
     rw [if_neg (by decide)]
     show Result.ok _ _ = Result.ok _ _
     congr 1
     simp only [w', w1]
     congr 1
   ·cases he
  ·cases hc
 ·rename_i e
  simp only [Option.bind_eq_some_iff] at hc
  obtain ⟨de, hde, hc⟩ := hc
  split at hc
  ·simp only [Option.bind_eq_some_iff] at hc
   obtain ⟨ax, hx, hc⟩ := hc
   cases hc
   simp only [evOp] at he
   split at he
   ·rename_i hev
    cases he
    have hx' := (v_inv (ev_sound hf hx hev)).1
    refine OpRes.pure hr (x := .string .empty) (.v rfl) ?_
    simp [execOp, ho, hx', convert, run_underlying hd, run_underlying hd', run_underlying hde, Conv.bytesToString]
   ·rename_i b off len cap ex hev
    split at he
    ·rename_i cs hg
     split at he
     ·rename_i l hl
      cases he
      obtain ⟨p, ad, c, hp, hx', h1, h2, _, _, h5, hpm⟩ := sl_inv (ev_sound hf hx hev)
      refine OpRes.pure hr (x := .string ⟨l.toArray⟩) (.v rfl) ?_
      obtain ⟨xs, g1, g2, g3⟩ := getN_rel hr hp hpm hg
      have key : ∀ (cs : List AV) (xs : List Value) (l : List UInt8), CRel φ cs xs.toArray → bytesOf cs = some l → ∃ ns : List Int, xs = ns.map (Value.int .u8) ∧ ns.map (fun n => UInt8.ofNat n.toNat) = l := by
       intro cs
       induction cs with
       | nil =>
         intro xs l hrel hl
         have hxs : xs = [] := List.eq_nil_of_length_eq_zero (by have := hrel.1; simpa using this.symm)
         simp only [bytesOf, Option.some.injEq] at hl
         subst hxs; subst hl
         exact ⟨[], rfl, rfl⟩
       | cons q cs ih =>
         intro xs l hrel hl
         cases xs with
         | nil => have := hrel.1; simp at this
         | cons y xs =>
           have hq := hrel.2 0 q y rfl rfl
           unfold bytesOf at hl
           split at hl
           ·rename_i h; cases h
           ·rename_i n r hcons
            cases hcons
            simp only [Option.map_eq_some_iff] at hl
            obtain ⟨l', hl', rfl⟩ := hl
            have hy := (v_inv hq.1).1
            obtain ⟨ns, e1, e2⟩ := ih xs l' ⟨by have := hrel.1; simp at this ⊢; exact this, fun i c z hc hz => hrel.2 (i + 1) c z (by simpa using hc) (by simpa using hz)⟩ hl'
            exact ⟨n :: ns, by rw [hy, e1]; rfl, by rw [List.map_cons, e2]⟩
           ·cases hl
      obtain ⟨ns, e1, e2⟩ := key cs xs l g2 hl
      have hload : (loadCells ad len).run P w = .ok (ns.map (Value.int .u8)).toArray w := by
       rcases h5 with h5 | h5
       ·have h0 : len = 0 := by omega
        subst h0
        have : ns = [] := by
         have : ns.length = 0 := by have := congrArg List.length e1; simp at this; omega
         exact List.eq_nil_of_length_eq_zero this
        subst this
        rfl
       ·subst h5
        rw [← e1, ← g1]
        exact load_cells_run g3
      have hfold : ∀ (ns : List Int) (r : ByteArray), (ns.foldl (fun r n => r.push (UInt8.ofNat n.toNat)) r) = ⟨(r.data.toList ++ ns.map (fun n => UInt8.ofNat n.toNat)).toArray⟩ := by
       intro ns
       induction ns with
       | nil => intro r; simp
       | cons n ns ih =>
         intro r
         rw [List.foldl_cons, ih]
         simp [ByteArray.push]
      have := run_bytesToString (P := P) w ad len c ns hload
      rw [hfold] at this
      have e3 : (⟨(ByteArray.empty.data.toList ++ ns.map (fun n => UInt8.ofNat n.toNat)).toArray⟩ : ByteArray) = ⟨l.toArray⟩ := by rw [e2]; rfl
      rw [e3] at this
      simp [execOp, ho, hx', convert, run_underlying hd, run_underlying hd', run_underlying hde, this]
     ·cases he
    ·cases he
   ·cases he
  ·cases hc
 ·simp only [Option.bind_eq_some_iff] at hc
  obtain ⟨ax, hx, hc⟩ := hc
  cases hc
  simp only [evOp] at he
  split at he
  ·rename_i str hev
   cases he
   have hx' := (v_inv (ev_sound hf hx hev)).1
   refine OpRes.pure hr (x := .string str) (.v rfl) ?_
   simp [execOp, ho, hx', convert, run_underlying hd, run_underlying hd']
  ·cases he
 ·simp only [Option.bind_eq_some_iff] at hc
  obtain ⟨ax, hx, hc⟩ := hc
  cases hc
  simp only [evOp] at he
  split at he
  ·rename_i k1 n hev
   cases he
   have hx' := (v_inv (ev_sound hf hx hev)).1
   refine OpRes.pure hr (x := .string (Utf8.encode n)) (.v rfl) ?_
   simp [execOp, ho, hx', convert, run_underlying hd, run_underlying hd', Conv.intToString]
  ·cases he
 ·simp only [Option.bind_eq_some_iff] at hc
  obtain ⟨de, hde, hc⟩ := hc
  split at hc
  ·rename_i hst
   simp only [Option.bind_eq_some_iff] at hc
   obtain ⟨ax, hx, hc⟩ := hc
   cases hc
   simp only [evOp] at he
   split at he
   ·rename_i b off len cap ex hev
    split at he
    ·rename_i blk hb
     split at he
     ·rename_i hcnd
      cases he
      obtain ⟨p, ad, c, hp, hx', h1, h2, h3, h4, h5, hpm⟩ := sl_inv (ev_sound hf hx hev)
      have had : ad = ⟨p.r, p.o + off, none⟩ := by
       rcases h5 with h5 | h5
       ·omega
       ·exact h5
      subst had
      obtain ⟨_, cur, e', fz, q1, q2, q3, q4, q5⟩ := hr.blk b blk p hb hp hpm
      let w' : World := { w with heap := w.heap.modify p.r (markO · cur.size) }
      refine ⟨.slice (some ⟨p.r, p.o + off, none⟩) len c, w', φ, Step.marks hr hb hp hcnd.1 q1 w' rfl rfl rfl rfl, (.sl hp h1 h2 h3 h4 (.inr rfl) hpm), .inl ?_⟩
      have hsh : World.shape? w p.r = some (e', cur.size) := by simp [World.shape?, q1]
      simp only [execOp, ho, hx', convert, Sem.run_bind, run_underlying hd, run_underlying hd', Result.andThen_ok, run_underlying hde, hst, markStringish, run_shape, hsh, run_freeze, World.freeze]
      first | rfl | (simp only [Sem.run_pure]; rfl)
     ·cases he
    ·cases he
   ·cases he
  ·cases hc
 ·cases hc
end
end Go.AM
namespace Go.AM
open Go.RowKit
section
variable {P : Program} {B : Nat} {φ : Phi} {H H' : Heap} {w : World} {fr : T AV} {a : Act} {o : Oper} {ao : AOp} {v : AV}
 {call : Nat → List AV → Heap → Option (AV × Heap)}
def scal : Value → Bool
 | .int .. | .string _ | .bool _ => true
 | _ => false
theorem guard_scal (op : BinOp) (t : TypeId) (x y : Operand) {p q : Value} (h : scal p = true) (w : World) : (eqGuard op t x y p q).run P w = .ok () w := by
 cases p <;> simp [scal] at h <;> cases op <;> simp [eqGuard]
theorem bin_run {op : BinOp} {p q r : Value} (h : binV op p q = some r) (t : TypeId) (w : World) : (binOp op t p q).run P w = .ok r w ∧ scal p = true ∧ r.oneCell' = true := by
 unfold binV at h
 split at h
 ·split at h
  ·cases h
  ·rename_i hb
   cases h
   refine ⟨?_, rfl, rfl⟩
   simp [binOp, Op.shift, hb]
 ·split at h
  ·cases h
  ·rename_i hb
   cases h
   refine ⟨?_, rfl, rfl⟩
   simp [binOp, Op.shift, hb]
 ·rename_i o' k a' k' b' hn1 hn2
  split at h
  ·rename_i hk
   subst hk
   unfold binI at h
   split at h <;> first
    | (cases h; exact ⟨by simp [binOp, Op.intArith, Op.intBits, Op.intCmp], rfl, rfl⟩)
    | (split at h
       ·cases h
       ·rename_i hz
        cases h
        exact ⟨by simp [binOp, Op.intDiv, hz], rfl, rfl⟩)
    | cases h
  ·cases h
 ·split at h
  ·cases h
  ·rename_i hb
   cases h
   refine ⟨?_, rfl, rfl⟩
   simp only [binOp, Op.stringOp]
   rw [if_neg hb]
   rfl
 ·cases h; exact ⟨rfl, rfl, rfl⟩
 ·cases h; exact ⟨rfl, rfl, rfl⟩
 ·cases h
theorem scalEq_run {k : SK} {p q : Value} {r : Bool} (h : scalarEq k p q = some r) {t : TypeId} {d : TypeDesc} (hd : P.underlying t = some d) (hk : skOf d = some k) (n : Nat) (w : World) :
 (Op.equalIn (n + 1) t p q).run P w = .ok r w ∧ scal p = true := by
 unfold scalarEq at h
 split at h
 ·split at h
  ·rename_i hkk
   cases h
   subst hkk
   cases d <;> cases hk
   exact ⟨by simp [Op.equalIn, run_underlying hd], rfl⟩
  ·cases h
 ·cases h
  cases d <;> cases hk
  exact ⟨by simp [Op.equalIn, run_underlying hd], rfl⟩
 ·cases h
  cases d <;> cases hk
  exact ⟨by simp [Op.equalIn, run_underlying hd], rfl⟩
 ·cases h
def eqBody (n : Nat) (xs ys : Array Value) (f : Field) (_ : Option Bool × Unit) : Sem (ForInStep (Option Bool × Unit)) :=
 if f.name ≠ "_" then do
  let x ← part f.type xs f.offset
  let y ← part f.type ys f.offset
  let e ← Op.equalIn (n + 1) f.type x y
  if (!e) = true then pure (ForInStep.done (some false, ())) else pure (ForInStep.yield (none, ()))
 else pure (ForInStep.yield (none, ()))
theorem sk_agg {t : TypeId} {d : TypeDesc} {k : SK} (hd : P.underlying t = some d) (hk : skOf d = some k) (w : World) : (isAgg t).run P w = .ok false w := by
 simp only [isAgg, Sem.run_bind, run_underlying hd, Result.andThen_ok]
 cases d <;> first | rfl | cases hk
theorem eq_loop (n : Nat) (w : World) (xs ys : Array Value) : ∀ (fs : List Field) (m : Nat) (ks : List SK) (cs ds : List AV) (r : Bool),
 kindsOf P fs m = some ks → cellsEq ks cs ds = some r → (∀ (i : Nat) (c : AV), cs[i]? = some c → ∃ x, xs[m + i]? = some x ∧ VRel φ c x) →
 (∀ (i : Nat) (c : AV), ds[i]? = some c → ∃ x, ys[m + i]? = some x ∧ VRel φ c x) →
 (forIn fs (none, ()) (eqBody n xs ys) : Sem (Option Bool × Unit)).run P w = .ok (if r then none else some false, ()) w
 | [], m, ks, cs, ds, r, h1, h2, h3, h4 => by
   cases h1
   cases cs <;> cases ds <;> simp [cellsEq] at h2
   subst h2
   rfl
 | f :: fs, m, ks, cs, ds, r, h1, h2, h3, h4 => by
   simp only [kindsOf, Option.bind_eq_bind, Option.bind_eq_some_iff] at h1
   obtain ⟨d, hd, k, hk, r', hr', h1⟩ := h1
   split at h1
   ·rename_i hof
    cases h1
    unfold cellsEq at h2
    split at h2
    ·rename_i h; cases h
    ·rename_i k0 ks0 p cs0 q ds0 hks
     cases hks
     obtain ⟨x, hx, hvx⟩ := h3 0 _ rfl
     obtain ⟨y, hy, hvy⟩ := h4 0 _ rfl
     have ex := (v_inv hvx).1
     have ey := (v_inv hvy).1
     subst ex; subst ey
     simp only [Nat.add_zero] at hx hy
     have px : (part f.type xs f.offset).run P w = .ok x w := by simp [part, sk_agg hd hk, hof.1, hx]
     have py : (part f.type ys f.offset).run P w = .ok y w := by simp [part, sk_agg hd hk, hof.1, hy]
     rw [List.forIn_cons]
     simp only [Sem.run_bind, eqBody]
     rw [if_pos hof.2]
     simp only [Sem.run_bind, px, py, Result.andThen_ok]
     split at h2
     ·rename_i he
      rw [(scalEq_run he hd hk n w).1]
      simp only [Result.andThen_ok, Bool.not_true, Bool.false_eq_true, if_false, Sem.run_pure]
      exact eq_loop n w xs ys fs (m + 1) r' cs0 ds0 r hr' h2 (fun i c hc => by have := h3 (i + 1) c (by simpa using hc); rwa [show m + 1 + i = m + (i + 1) by omega])
       (fun i c hc => by have := h4 (i + 1) c (by simpa using hc); rwa [show m + 1 + i = m + (i + 1) by omega])
     ·rename_i he
      cases h2
      rw [(scalEq_run he hd hk n w).1]
      simp
     ·cases h2
    ·cases h2
   ·cases h1
theorem beq_run {agg : Bool} {ks : List SK} {p q : AV} {r : Bool} (h : avEq agg ks p q = some r) {t : TypeId} {x y : Value} (hx : VRel φ p x) (hy : VRel φ q y)
 (ht : (agg = false ∧ P.underlying t = some .bool) ∨ (agg = true ∧ ∃ fs, P.underlying t = some (.struct fs) ∧ kindsOf P fs.toList 0 = some ks ∧ P.stoodInHeld t = false ∧ P.eqGuardType P.depth t = false)) (w : World) :
 (Op.equal t x y).run P w = .ok r w ∧ ∀ (op : BinOp) (u v : Operand), (eqGuard op t u v x y).run P w = .ok () w := by
 have e9 : Op.equal t x y = Op.equalIn (9998 + 2) t x y := rfl
 rw [e9]
 unfold avEq at h
 split at h
 ·rename_i p q
  have ex := (v_inv hx).1
  have ey := (v_inv hy).1
  subst ex; subst ey
  rcases ht with ⟨_, hd⟩ | ⟨hagg, _⟩
  ·have := scalEq_run h hd rfl 9999 w
   exact ⟨this.1, fun op u v => guard_scal op t u v this.2 w⟩
  ·cases hagg
 ·rename_i cs ds
  rcases ht with ⟨hagg, _⟩ | ⟨_, fs, hd, hk, hs, hg⟩
  ·cases hagg
  ·have hrx := hx.cs rfl
   have hry := hy.cs rfl
   cases hx with
   | agg a1 a2 a3 =>
     cases hy with
     | agg b1 b2 b3 =>
       rename_i xs ys
       have hl := eq_loop (P := P) (φ := φ) 9998 w xs ys fs.toList 0 ks cs ds r hk h (fun i c hc => by
        obtain ⟨x, g1, g2, _⟩ := hrx.at i c hc
        exact ⟨x, by simpa [Value.cells] using g1, g2⟩) (fun i c hc => by
        obtain ⟨x, g1, g2, _⟩ := hry.at i c hc
        exact ⟨x, by simpa [Value.cells] using g1, g2⟩)
       refine ⟨?_, fun op u v => ?_⟩
       ·unfold Op.equalIn
        simp only [Sem.run_bind, run_underlying hd, Result.andThen_ok, run_program, hs, Bool.false_eq_true, if_false]
        rw [← Array.forIn_toList]
        show Result.andThen ((forIn fs.toList (none, ()) (eqBody 9998 xs ys) : Sem (Option Bool × Unit)).run P w) _ = _
        rw [hl]
        cases r <;> rfl
       ·unfold eqGuard
        cases op <;> simp [hg]
 ·cases h
theorem nilEq1 {t e : TypeId} (hd : P.underlying t = some (.pointer e)) (n : Nat) (w : World) : (Op.equalIn (n + 1) t (.pointer none) (.pointer none)).run P w = .ok true w := by
 simp [Op.equalIn, run_underlying hd]
theorem nilEq2 {t e : TypeId} (hd : P.underlying t = some (.slice e)) (n : Nat) (w : World) : (Op.equalIn (n + 1) t (.slice none 0 0) (.slice none 0 0)).run P w = .ok true w := by
 simp [Op.equalIn, run_underlying hd]
theorem nilEq3 {t e : TypeId} (hd : P.underlying t = some (.pointer e)) (n : Nat) (w : World) (ad : Addr) : (Op.equalIn (n + 1) t (.pointer (some ad)) (.pointer none)).run P w = .ok false w := by
 simp [Op.equalIn, run_underlying hd]
theorem nilEq4 {t e : TypeId} (hd : P.underlying t = some (.slice e)) (n : Nat) (w : World) (ad : Addr) (l c : Nat) : (Op.equalIn (n + 1) t (.slice (some ad) l c) (.slice none 0 0)).run P w = .ok false w := by
 simp [Op.equalIn, run_underlying hd]
theorem ifc_inv' {φ : Phi} {t : Nat} {c : AV} {x : Value} (h : VRel φ (.ifc t c) x) (ht : t < MAPT) : ∃ y, x = .iface t y ∧ VRel φ c y := by
 cases h with
 | ifc h => exact ⟨_, rfl, h⟩
 | mp => exact absurd ht (Nat.lt_irrefl _)
 | bnd => unfold BNDT MAPT at ht; omega
 | mv => unfold MVT MAPT at ht; omega
theorem nilEq5 {t : TypeId} {ms} (hd : P.underlying t = some (.interface ms)) (n : Nat) (w : World) : (Op.equalIn (n + 1) t .nilIface .nilIface).run P w = .ok true w := by
 simp [Op.equalIn, run_underlying hd]
theorem nilEq6 {t : TypeId} {ms} (hd : P.underlying t = some (.interface ms)) (n : Nat) (w : World) (u : TypeId) (z : Value) : (Op.equalIn (n + 1) t (.iface u z) .nilIface).run P w = .ok false w := by
 simp [Op.equalIn, run_underlying hd]
theorem bin_sound (hr : HRel B φ H w) (hf : FRel φ fr a.tmps) {u : BinOp} {t t' : TypeId} {x y : Operand} (ho : o.op = .binOp u t x y t') (hc : cOp P o = some ao) (he : evOp call ao fr H = some (v, H')) :
 OpRes P B φ H w a o v H' := by
 have fin : ∀ (ax ay : AX), cX x = some ax → cX y = some ay → ao = .bin u ax ay → OpRes P B φ H w a o v H' := by
  intro ax ay hx hy hao
  subst hao
  simp only [evOp] at he
  split at he
  ·rename_i p q hev hev2
   split at he
   ·rename_i r hb
    cases he
    have ex := (v_inv (ev_sound hf hx hev)).1
    have ey := (v_inv (ev_sound hf hy hev2)).1
    obtain ⟨h1, h2, h3⟩ := bin_run (P := P) hb t w
    refine OpRes.pure hr (x := r) (.v h3) ?_
    simp only [execOp, ho, Sem.run_bind, ex, ey, guard_scal _ _ _ _ h2, Result.andThen_ok, h1, Sem.run_pure]
   ·cases he
  ·cases he
 have fin2 : ∀ (neq agg : Bool) (ks : List SK) (ax ay : AX), cX x = some ax → cX y = some ay → ao = .beq neq agg ks ax ay → u = (if neq then .neq else .eql) →
  ((agg = false ∧ P.underlying t = some .bool) ∨ (agg = true ∧ ∃ fs, P.underlying t = some (.struct fs) ∧ kindsOf P fs.toList 0 = some ks ∧ P.stoodInHeld t = false ∧ P.eqGuardType P.depth t = false)) → OpRes P B φ H w a o v H' := by
  intro neq agg ks ax ay hx hy hao hu ht
  subst hao
  simp only [evOp] at he
  split at he
  ·rename_i p q hev hev2
   split at he
   ·rename_i r hb
    cases he
    have hx' := ev_sound hf hx hev
    have hy' := ev_sound hf hy hev2
    obtain ⟨h1, h2⟩ := beq_run hb hx' hy' ht w
    have hbin : (binOp u t (a.eval x) (a.eval y)).run P w = .ok (.bool (xor neq r)) w := by
     unfold avEq at hb
     split at hb
     ·have ex := (v_inv hx').1
      have ey := (v_inv hy').1
      rw [ex, ey] at h1 ⊢
      subst hu
      unfold scalarEq at hb
      split at hb
      ·exact SK.noConfusion ‹SK.b = SK.i›
      ·cases hb
       cases neq <;> simp [binOp, h1]
      ·exact SK.noConfusion ‹SK.b = SK.s›
      ·cases hb
     ·generalize a.eval x = xx at *
      generalize a.eval y = yy at *
      cases hx'
      cases hy'
      subst hu
      cases neq <;> simp [binOp, h1]
     ·cases hb
    refine OpRes.pure hr (x := .bool (xor neq r)) (.v rfl) ?_
    simp [execOp, ho, h2, hbin]
   ·cases he
  ·cases he
 have fin3 : ∀ (neq sl : Bool) (ax : AX) (e : TypeId), P.underlying t = some (if sl then .slice e else .pointer e) → cX x = some ax → y = .const (if sl then .slice none 0 0 else .pointer none) →
  ao = .eqnil neq sl ax → u = (if neq then .neq else .eql) → OpRes P B φ H w a o v H' := by
  intro neq sl ax e hd hx hy hao hu
  subst hao hy hu
  have hg : ∀ (op : BinOp) (p q : Operand) (c : Value), c = (if sl then .slice none 0 0 else .pointer none) → ∀ z, (eqGuard op t p q z c).run P w = .ok () w := by
   intro op p q c hc z
   subst hc
   cases sl <;> cases op <;> cases z <;> simp [eqGuard]
  have fin4 : ∀ (r : Bool), (Op.equal t (a.eval x) (if sl then .slice none 0 0 else .pointer none)).run P w = .ok r w → H' = H → v = .v (.bool (xor neq r)) →
   (match a.eval x with | .slice .. | .pointer _ => true | _ => false) = true → OpRes P B φ H w a o v H' := by
   intro r h1 h2 h3 h4
   subst h2 h3
   have hbin : (binOp (if neq then .neq else .eql) t (a.eval x) (if sl then .slice none 0 0 else .pointer none)).run P w = .ok (.bool (xor neq r)) w := by
    generalize a.eval x = xx at *
    cases xx <;> simp at h4 <;> cases sl <;> cases neq <;> simp [binOp] <;> simp at h1 <;> simp [h1]
   refine OpRes.pure hr (x := .bool (xor neq r)) (.v rfl) ?_
   have hev : a.eval (.const (if sl then Value.slice none 0 0 else .pointer none)) = (if sl then Value.slice none 0 0 else .pointer none) := rfl
   simp only [execOp, ho, Sem.run_bind, hev, hg _ _ _ _ rfl, Result.andThen_ok, hbin]
   rfl
  have e9 : ∀ p q, Op.equal t p q = Op.equalIn (9999 + 1) t p q := fun _ _ => rfl
  simp only [evOp] at he
  split at he
  ·rename_i hev
   cases he
   have ex := (v_inv (ev_sound hf hx hev)).1
   refine fin4 true ?_ rfl (by cases neq <;> rfl) (by rw [ex])
   rw [ex, e9]
   exact nilEq1 hd 9999 w
  ·rename_i hev
   cases he
   have ex := (v_inv (ev_sound hf hx hev)).1
   refine fin4 true ?_ rfl (by cases neq <;> rfl) (by rw [ex])
   rw [ex, e9]
   exact nilEq2 hd 9999 w
  ·rename_i hev
   cases he
   obtain ⟨p, _, _, ex⟩ := ptr_inv (ev_sound hf hx hev)
   refine fin4 false ?_ rfl (by cases neq <;> rfl) (by rw [ex])
   rw [ex, e9]
   exact nilEq3 hd 9999 w _
  ·rename_i hev
   cases he
   obtain ⟨p, ad, c, _, ex, _⟩ := sl_inv (ev_sound hf hx hev)
   refine fin4 false ?_ rfl (by cases neq <;> rfl) (by rw [ex])
   rw [ex, e9]
   exact nilEq4 hd 9999 w _ _ _
  ·cases he
 have fin5 : ∀ (neq : Bool) (ax : AX) ms, P.underlying t = some (.interface ms) → cX x = some ax → y = .const .nilIface →
  ao = .eqif neq ax → u = (if neq then .neq else .eql) → OpRes P B φ H w a o v H' := by
  intro neq ax ms hd hx hy hao hu
  subst hao hy hu
  have e9 : ∀ p q, Op.equal t p q = Op.equalIn (9999 + 1) t p q := fun _ _ => rfl
  have hev : a.eval (.const Value.nilIface) = .nilIface := rfl
  simp only [evOp] at he
  split at he
  ·rename_i hevx
   cases he
   have ex := (v_inv (ev_sound hf hx hevx)).1
   refine OpRes.pure hr (x := .bool (!neq)) (.v rfl) ?_
   cases neq <;> simp [execOp, ho, Sem.run_bind, hev, ex, eqGuard, binOp, e9, nilEq5 hd]
  ·rename_i hevx
   split at he
   ·rename_i ht
    cases he
    obtain ⟨z, ex, _⟩ := ifc_inv' (ev_sound hf hx hevx) ht
    refine OpRes.pure hr (x := .bool neq) (.v rfl) ?_
    cases neq <;> simp [execOp, ho, Sem.run_bind, hev, ex, eqGuard, binOp, e9, nilEq6 hd]
   ·cases he
  ·cases he
 simp only [cOp, ho, Option.bind_eq_bind, Option.bind_eq_some_iff] at hc
 obtain ⟨d, hd, hc⟩ := hc
 cases d with
 | interface ms =>
   simp only at hc
   split at hc
   ·simp only [Option.bind_eq_some_iff] at hc
    obtain ⟨ax, hx, hc⟩ := hc
    cases hc
    exact fin5 false ax ms hd hx rfl rfl rfl
   ·simp only [Option.bind_eq_some_iff] at hc
    obtain ⟨ax, hx, hc⟩ := hc
    cases hc
    exact fin5 true ax ms hd hx rfl rfl rfl
   ·cases hc
 | int k =>
   simp only [Option.bind_eq_some_iff] at hc
   obtain ⟨ax, hx, ay, hy, hc⟩ := hc
   cases hc
   exact fin ax ay hx hy rfl
 | string =>
   simp only [Option.bind_eq_some_iff] at hc
   obtain ⟨ax, hx, ay, hy, hc⟩ := hc
   cases hc
   exact fin ax ay hx hy rfl
 | bool =>
   cases u <;> simp only [Option.bind_eq_some_iff] at hc <;> first
    | cases hc; done
    | (obtain ⟨ax, hx, ay, hy, hc⟩ := hc
       cases hc
       exact fin2 _ _ _ ax ay hx hy rfl rfl (.inl ⟨rfl, hd⟩))
 | struct fs =>
   simp only [Option.bind_eq_some_iff] at hc
   obtain ⟨ks, hks, hc⟩ := hc
   split at hc
   ·cases hc
   ·rename_i hn
    simp only [Bool.or_eq_true, not_or, Bool.not_eq_true] at hn
    cases u <;> simp only [Option.bind_eq_some_iff] at hc <;> first
     | cases hc; done
     | (obtain ⟨ax, hx, ay, hy, hc⟩ := hc
        cases hc
        exact fin2 _ _ _ ax ay hx hy rfl rfl (.inr ⟨rfl, fs, hd, hks, hn.1, hn.2⟩))
 | slice e =>
   simp only at hc
   split at hc
   ·simp only [Option.bind_eq_some_iff] at hc
    obtain ⟨ax, hx, hc⟩ := hc
    cases hc
    exact fin3 false true ax e hd hx rfl rfl rfl
   ·simp only [Option.bind_eq_some_iff] at hc
    obtain ⟨ax, hx, hc⟩ := hc
    cases hc
    exact fin3 true true ax e hd hx rfl rfl rfl
   ·cases hc
 | pointer e =>
   simp only at hc
   split at hc
   ·simp only [Option.bind_eq_some_iff] at hc
    obtain ⟨ax, hx, hc⟩ := hc
    cases hc
    exact fin3 false false ax e hd hx rfl rfl rfl
   ·simp only [Option.bind_eq_some_iff] at hc
    obtain ⟨ax, hx, hc⟩ := hc
    cases hc
    exact fin3 true false ax e hd hx rfl rfl rfl
   ·cases hc
 | _ => cases hc
end
end Go.AM
namespace Go.AM
open Go.RowKit
section
variable {P : Program} {B : Nat} {φ : Phi} {H H' : Heap} {w : World} {fr : T AV} {a : Act} {o : Oper} {ao : AOp} {v : AV}
 {call : Nat → List AV → Heap → Option (AV × Heap)}
theorem mkslice_sound (hr : HRel B φ H w) (hf : FRel φ fr a.tmps) (hφ : ∀ b, H.next ≤ b → b < H'.next → φ b = none) {t : TypeId} {x y : Operand} (ho : o.op = .makeSlice t x y) (hc : cOp P o = some ao) (he : evOp call ao fr H = some (v, H')) :
 OpRes P B φ H w a o v H' := by
 simp only [cOp, ho, Option.bind_eq_bind, Option.bind_eq_some_iff] at hc
 obtain ⟨d, hd, hc⟩ := hc
 cases d with
 | slice e =>
   simp only [Option.bind_eq_some_iff] at hc
   obtain ⟨s, hs, i, hi, z, hz, ax, hx, ay, hy, hc⟩ := hc
   cases hc
   obtain ⟨i', u, hi', hu, rfl, hp, hzr⟩ := zero_run hz
   rw [hi] at hi'; cases hi'
   obtain ⟨i'', hi'', rfl⟩ := size_info hs
   rw [hi] at hi''; cases hi''
   have hrel : CRel φ (u.cells.toList.map .v) u.cells := (vrel_plain φ u.cells hp).cs rfl
   simp only [evOp] at he
   split at he
   ·rename_i kl l kc c hev hev2
    split at he
    ·rename_i hcond
     obtain ⟨c1, c2, c3, c4, c5, c6⟩ := hcond
     cases he
     have ex := (v_inv (ev_sound hf hx hev)).1
     have ey := (v_inv (ev_sound hf hy hev2)).1
     have hzr' := zeros_rel hrel (by rw [c5]; exact c6) c.toNat
     rw [c5] at hzr'
     have hzr'' : CRel φ _ (madeCells u.cells (c.toNat * i.size)) := hzr'
     have hrun := run_make (P := P) w t e i u hd hi hu kl kc l c c1 c2 (by omega) (by omega)
     refine ⟨.slice (some ⟨w.heap.size, 0, none⟩) l.toNat c.toNat, w.alloc (.cells (madeCells u.cells (c.toNat * i.size)) e), _, new_row hr (hφ _ (Nat.le_refl _) (Nat.lt_succ_self _)) i.size hzr'' e, ?_, .inl ?_⟩
     ·exact VRel.sl (p := ⟨w.heap.size, 0, (madeCells u.cells (c.toNat * i.size)).size, i.size, false⟩) (by simp) (by omega) (Nat.le_refl _) (fun _ => rfl) (by simp [madeCells]) (.inr rfl) rfl
     ·simp [execOp, ho, ex, ey, hrun]
    ·cases he
   ·cases he
 | _ => cases hc
theorem len_run {t : TypeId} {ts : Array TypeId} {ty : TypeId} (ht : ts[0]? = some t) {s : Bool} {d : TypeDesc} (hd : P.underlying t = some d) (hk : (s = true ∧ d = .string) ∨ (s = false ∧ ∃ e, d = .slice e))
 {q : AV} {x : Value} (h : VRel φ q x) {n : Nat} (hn : (s = false ∧ ((∃ b off cap ex, q = .sl b off n cap ex) ∨ (q = .v (.slice none 0 0) ∧ n = 0))) ∨ (s = true ∧ ∃ str, q = .v (.string str) ∧ n = str.size)) (w : World) :
 (Builtin.len_ ts ty #[x]).run P w = .ok (.int .i64 n) w := by
 rcases hn with ⟨rfl, ⟨b, off, cap, ex, rfl⟩ | ⟨rfl, rfl⟩⟩ | ⟨rfl, str, rfl, rfl⟩
 ·rcases hk with ⟨h, _⟩ | ⟨_, e, rfl⟩
  ·cases h
  ·obtain ⟨p, ad, c, _, rfl, _⟩ := sl_inv h
   simp [Builtin.len_, ht, run_underlying hd, goInt]
 ·rcases hk with ⟨h, _⟩ | ⟨_, e, rfl⟩
  ·cases h
  ·have := (v_inv h).1
   subst this
   simp [Builtin.len_, ht, run_underlying hd, goInt]
 ·rcases hk with ⟨_, rfl⟩ | ⟨h, _⟩
  ·have := (v_inv h).1
   subst this
   simp [Builtin.len_, ht, run_underlying hd, goInt]
  ·cases h
theorem cXs_one {x : Operand} {xs : List Operand} {l : List AX} (h : cXs (x :: xs) = some l) : ∃ ax r, cX x = some ax ∧ cXs xs = some r ∧ l = ax :: r := by
 simp only [cXs, List.mapM_cons, Option.bind_eq_bind, Option.bind_eq_some_iff, Option.pure_def, Option.some.injEq] at h
 obtain ⟨ax, hx, r, hr, rfl⟩ := h
 exact ⟨ax, r, hx, hr, rfl⟩
theorem cXs_len {xs : List Operand} {l : List AX} (h : cXs xs = some l) : l.length = xs.length := by
 induction xs generalizing l with
 | nil => cases h; rfl
 | cons x xs ih => obtain ⟨ax, r, _, h2, rfl⟩ := cXs_one h; simp [ih h2]
theorem evXs_sound (hf : FRel φ fr a.tmps) : ∀ {xs : List Operand} {l : List AX} {vs : List AV}, cXs xs = some l → evXs fr l = some vs →
 vs.length = xs.length ∧ ∀ (i : Nat) (c : AV) (y : Value), vs[i]? = some c → (xs.map a.eval)[i]? = some y → VRel φ c y
 | [], l, vs, h, he => by
   have hl : l = [] := by
    have : some [] = some l := h
    exact (Option.some.inj this).symm
   subst hl
   have hv : vs = [] := by
    have : some [] = some vs := he
    exact (Option.some.inj this).symm
   subst hv
   exact ⟨rfl, fun i c y hc => by simp at hc⟩
 | x :: xs, l, vs, h, he => by
   obtain ⟨ax, r, h1, h2, rfl⟩ := cXs_one h
   simp only [evXs] at he
   split at he
   ·rename_i u hu
    split at he
    ·rename_i us hus
     cases he
     obtain ⟨k1, k2⟩ := evXs_sound hf h2 hus
     refine ⟨by simp [k1], ?_⟩
     intro i c y hc hy
     cases i with
     | zero => simp at hc hy; subst hc; subst hy; exact ev_sound hf h1 hu
     | succ i => exact k2 i c y (by simpa using hc) (by simpa using hy)
    ·cases he
   ·cases he
theorem news_rel (hr : HRel B φ H w) {es m : Nat} {q : AV} {x : Value} {news : List AV} (h : VRel φ q x) (hn : newsOf H es q = some (m, news)) :
 (Builtin.lenOf x).run P w = .ok m w ∧ ∃ xs : Array Value, CRel φ news xs ∧ xs.size = m * es ∧ ∀ w', w'.heap = w.heap → (Builtin.firstCells es m x).run P w' = .ok xs w' := by
 unfold newsOf at hn
 split at hn
 ·cases hn
  have := (v_inv h).1
  subst this
  exact ⟨rfl, #[], ⟨rfl, fun i c y hc => by simp at hc⟩, by simp, fun _ _ => rfl⟩
 ·rename_i b off len cap ex
  simp only [Option.map_eq_some_iff] at hn
  obtain ⟨vs, hg, hn⟩ := hn
  cases hn
  obtain ⟨p, ad, c, hp, rfl, h1, h2, _, _, h5, hpm⟩ := sl_inv h
  obtain ⟨xs, g1, g2, g3⟩ := getN_rel hr hp hpm hg
  refine ⟨rfl, xs.toArray, g2, by simpa using g1, fun w' hw' => ?_⟩
  rcases h5 with h5 | h5
  ·have : m = 0 := by omega
   subst this
   have : xs = [] := List.eq_nil_of_length_eq_zero (by simpa using g1)
   subst this
   simp [Builtin.firstCells, loadCells, loadCellsFrom]
  ·subst h5
   simp only [Builtin.firstCells]
   rw [← g1]
   exact load_cells_run fun i x hi => by rw [← g3 i x hi]; simp only [World.cell?, hw']
 ·rename_i str
  split at hn
  ·rename_i he1
   cases hn
   have := (v_inv h).1
   subst this
   subst he1
   refine ⟨rfl, str.data.map fun b => .int .u8 b.toNat, ⟨by simp, ?_⟩, by simp, ?_⟩
   ·intro i c y hc hy
    rw [List.getElem?_map] at hc
    rw [Array.getElem?_map] at hy
    cases hb : str.data[i]? with
    | none => rw [hb] at hy; cases hy
    | some u =>
      have hb' : str.data.toList[i]? = some u := by simpa using hb
      rw [hb'] at hc
      rw [hb] at hy
      cases hc; cases hy
      exact ⟨.v rfl, rfl⟩
   ·intro w' _
    simp [Builtin.firstCells]
  ·cases hn
 ·cases hn
theorem zeroCells_eq (z : Array Value) (n : Nat) : Builtin.zeroCells z n = (Array.range (n * z.size)).map (z[· % z.size]!) := rfl
theorem old_rel (hr : HRel B φ H w) {b off len : Nat} {p : Pl} {blk : Blk} {es : Nat} {old : List AV} (hp : φ b = some p) (hpm : p.mp = false) (hb : H.blks.get b = some blk) (ho : takeN (len * es) (blk.cells.drop off) = some old)
 {ad : Addr} {c : Nat} (h5 : c = 0 ∨ ad = ⟨p.r, p.o + off, none⟩) (hlc : len ≤ c) :
 ∃ xs : Array Value, CRel φ old xs ∧ xs.size = len * es ∧ ∀ w', w'.heap = w.heap → (Builtin.firstCells es len (.slice (some ad) len c)).run P w' = .ok xs w' := by
 have hg : getN H b off (len * es) = some old := by simp only [getN, hb]; exact ho
 obtain ⟨xs, g1, g2, g3⟩ := getN_rel hr hp hpm hg
 refine ⟨xs.toArray, g2, by simpa using g1, fun w' hw' => ?_⟩
 rcases h5 with h5 | h5
 ·have : len = 0 := by omega
  subst this
  have : xs = [] := List.eq_nil_of_length_eq_zero (by simpa using g1)
  subst this
  simp [Builtin.firstCells, loadCells, loadCellsFrom]
 ·subst h5
  simp only [Builtin.firstCells]
  rw [← g1]
  exact load_cells_run fun i x hi => by rw [← g3 i x hi]; simp only [World.cell?, hw']
section
variable {t u e : TypeId} {i : TypeInfo} {z : Value} {ts : Array TypeId} {ty : TypeId} {du : TypeDesc}
theorem app_room (ht : ts[0]? = some t) (hu : ts[1]? = some u) (hd : P.underlying t = some (.slice e)) (hdu : P.underlying u = some du) (hk : okU du = true)
 (hi : P.info? e = some i) {ad : Addr} {sLen c m : Nat} {x : Value} {xs : Array Value} (hl : (Builtin.lenOf x).run P w = .ok m w) (hx : (Builtin.firstCells i.size m x).run P w = .ok xs w)
 (hroom : sLen + m ≤ c) {w' : World} (hs : (storeCells (ad.add (sLen * i.size)) xs.toList).run P w = .ok () w') :
 (Builtin.append_ ts ty #[.slice (some ad) sLen c, x]).run P w = .ok (.slice (some ad) (sLen + m) c) w' := by
 cases du <;> simp [okU] at hk <;>
  simp [Builtin.append_, ht, hu, run_underlying hd, run_underlying hdu, sizeOf, typeInfo, hi, hl, hroom, hx, hs]
theorem app_grow (ht : ts[0]? = some t) (hu : ts[1]? = some u) (hd : P.underlying t = some (.slice e)) (hdu : P.underlying u = some du) (hk : okU du = true)
 (hi : P.info? e = some i) (hz : i.zero = some z) {base : Option Addr} {sLen c m : Nat} {x : Value} {xs ys : Array Value} (hl : (Builtin.lenOf x).run P w = .ok m w) (hx : ∀ w', w'.heap = w.heap → (Builtin.firstCells i.size m x).run P w' = .ok xs w')
 (hy : ∀ w', w'.heap = w.heap → (Builtin.firstCells i.size sLen (.slice base sLen c)).run P w' = .ok ys w') (hroom : c < sLen + m) (h63 : sLen + m ≤ 9223372036854775807) (hby : (sLen + m) * i.bytes ≤ 140737488355328) :
 (Builtin.append_ ts ty #[.slice base sLen c, x]).run P w =
   .ok (.slice (some ⟨w.heap.size, 0, none⟩) (sLen + m) (grownCap w (sLen + m) c e)) (w.drew.alloc (.cells (ys ++ xs ++ Builtin.zeroCells z.cells (grownCap w (sLen + m) c e - (sLen + m))) e)) := by
 have n1 : ¬ sLen + m ≤ c := by omega
 have n3 : ¬ Builtin.nextslicecap (sLen + m) c * i.bytes > 2 ^ 48 := by
  have := growslice_fits hroom hby
  omega
 have hx' := hx w.drew rfl
 have hy' := hy w.drew rfl
 cases du <;> simp [okU] at hk <;>
  simp [Builtin.append_, ht, hu, run_underlying hd, run_underlying hdu, sizeOf, typeInfo, zeroValue, hi, hz, hl, n1, n3, Question.forced, grownCap, hx', hy', newRow] <;> (intro h; omega)
end
theorem app_sound (hr : HRel B φ H w) (hφ : ∀ b, H.next ≤ b → b < H'.next → φ b = none) {t u e : TypeId} {i : TypeInfo} {z : Value} {ts : Array TypeId} {ty : TypeId} {du : TypeDesc}
 (ht : ts[0]? = some t) (hu : ts[1]? = some u) (hd : P.underlying t = some (.slice e)) (hdu : P.underlying u = some du) (hk : okU du = true)
 (hi : P.info? e = some i) (hz : i.zero = some z) (hzp : z.cells.all Value.plain1 = true) (hzl : z.cells.size = i.size) (hpos : 0 < i.size) (hbp : 0 < i.bytes)
 {s x : AV} {sv xv : Value} (hs : VRel φ s sv) (hx : VRel φ x xv) (he : appendA H i.size i.bytes s x = some (v, H')) :
 ∃ r w' φ', Step B φ H w φ' H' w' ∧ VRel φ' v r ∧ (Builtin.append_ ts ty #[sv, xv]).run P w = .ok r w' := by
 unfold appendA at he
 split at he
 ·cases he
 ·rename_i m news hn
  obtain ⟨n1, xs, n2, n3, n4⟩ := news_rel (P := P) hr hx hn
  have hzrel : CRel φ (z.cells.toList.map .v) z.cells := (vrel_plain φ z.cells hzp).cs rfl
  -- a new row behind a draw
  have fresh : ∀ (H1 : Heap), HRel B φ H1 w → H1.next = H.next → ∀ (base : Option Addr) (sLen c : Nat) (old : List AV) (ys : Array Value), CRel φ old ys → ys.size = sLen * i.size →
   (∀ w', w'.heap = w.heap → (Builtin.firstCells i.size sLen (.slice base sLen c)).run P w' = .ok ys w') → c < sLen + m → (sLen + m) * i.bytes ≤ 2 ^ 47 →
   ∀ (mt : Option Nat) (H2 : Heap), H2.next = H1.next + 1 → (∀ j, H2.blks.get j = if j = H1.next then some ⟨old ++ news, true, mt, i.size⟩ else H1.blks.get j) → φ H1.next = none →
   ∃ r w' φ', Step B φ H1 w φ' H2 w' ∧ VRel φ' (.sl H1.next 0 (sLen + m) (sLen + m) false) r ∧ (Builtin.append_ ts ty #[.slice base sLen c, xv]).run P w = .ok r w' := by
   intro H1 hr1 hnx base sLen c old ys ho hys hy hroom hby mt H2 hH2 hget hφ1
   have h63 : sLen + m ≤ 9223372036854775807 := by
    have := Nat.le_mul_of_pos_right (sLen + m) hbp
    omega
   have hrun := app_grow (P := P) (ty := ty) ht hu hd hdu hk hi hz n1 n4 hy hroom h63 (by omega)
   have hge := grownCap_ge w (sLen + m) c e
   have hall : CRel φ (old ++ news) (ys ++ xs) := by
    refine ⟨by simp [ho.1, n2.1], ?_⟩
    intro j q y hq hyy
    by_cases hj : j < old.length
    ·rw [List.getElem?_append_left hj] at hq
     rw [Array.getElem?_append_left (by rw [← ho.1]; exact hj)] at hyy
     exact ho.2 j q y hq hyy
    ·rw [List.getElem?_append_right (by omega)] at hq
     rw [Array.getElem?_append_right (by rw [← ho.1]; omega), ← ho.1] at hyy
     exact n2.2 _ q y hq hyy
   have hsz : (ys ++ xs ++ Builtin.zeroCells z.cells (grownCap w (sLen + m) c e - (sLen + m))).size = grownCap w (sLen + m) c e * i.size := by
    simp only [Array.size_append, size_zeroCells, hzl, hys, n3, ← Nat.add_mul]
    congr 1
    omega
   have hst := Step.alloc' (H' := H2) hr1 i.size mt (old ++ news) hH2 hget (ys ++ xs ++ Builtin.zeroCells z.cells (grownCap w (sLen + m) c e - (sLen + m))) e (0, 0) hφ1
    (by rw [hall.1]; simp) (fun j q hq => by
      obtain ⟨x, k1, k2⟩ := hall.at j q hq
      refine ⟨x, ?_, k2⟩
      have hlt : j < (ys ++ xs).size := (Array.getElem?_eq_some_iff.1 k1).1
      rw [Array.getElem?_append_left hlt]; exact k1) (.inr rfl) (w.drew.alloc (.cells (ys ++ xs ++ Builtin.zeroCells z.cells (grownCap w (sLen + m) c e - (sLen + m))) e)) rfl rfl rfl rfl
   refine ⟨_, _, _, hst, ?_, hrun⟩
   exact VRel.sl (p := ⟨w.heap.size, 0, _, i.size, false⟩) (by simp only [if_true]; rfl) (Nat.le_refl _) hge (by simp) (by simp only [Nat.zero_add, hsz]; exact Nat.le_refl _) (.inr rfl) rfl
  split at he
  ·-- nil
   have := (v_inv hs).1
   subst this
   rcases Nat.eq_zero_or_pos m with hm | hm
   ·subst hm
    simp only at he
    cases he
    have hxs : xs = #[] := by
     apply Array.eq_empty_of_size_eq_zero
     rw [n3]; simp
    refine ⟨.slice none 0 0, w, φ, .refl hr, .v rfl, ?_⟩
    have := n4 w rfl
    subst hxs
    cases du <;> simp [okU] at hk <;>
     simp [Builtin.append_, ht, hu, run_underlying hd, run_underlying hdu, sizeOf, typeInfo, hi, n1, this]
   ·obtain ⟨m0, rfl⟩ : ∃ k, m = k + 1 := ⟨m - 1, by omega⟩
    simp only at he
    split at he
    ·rename_i hby
     cases he
     have := fresh H hr rfl none 0 0 [] #[] ⟨rfl, fun i c y hc => by simp at hc⟩ (by simp) (fun _ _ => rfl) (by omega) (by simpa using hby) none (H.alloc i.size news) rfl (fun j => by
      show (H.blks.set _ _).get j = _
      rw [T.get_set]; rfl) (hφ _ (Nat.le_refl _) (Nat.lt_succ_self _))
     simpa using this
    ·cases he
  ·-- a slice
   rename_i b off len cap ex
   obtain ⟨p, ad, c, hp, rfl, h1, h2, h3, h4, h5, hpm⟩ := sl_inv hs
   split at he
   ·-- there is room
    rename_i hroom
    rcases Nat.eq_zero_or_pos m with hm | hm
    ·subst hm
     simp only at he
     cases he
     have hxs : xs = #[] := by
      apply Array.eq_empty_of_size_eq_zero
      rw [n3]; simp
     subst hxs
     exact ⟨_, w, φ, .refl hr, hs, app_room (P := P) (ty := ty) ht hu hd hdu hk hi n1 (n4 w rfl) (by omega) rfl⟩
    ·obtain ⟨m0, rfl⟩ : ∃ k, m = k + 1 := ⟨m - 1, by omega⟩
     simp only at he
     split at he
     ·rename_i H1 hw
      cases he
      obtain ⟨w', hs', hrun⟩ := write_step (P := P) hr hp hpm n2 hw
      have had : ad = ⟨p.r, p.o + off, none⟩ := by
       rcases h5 with h5 | h5
       ·omega
       ·exact h5
      subst had
      refine ⟨_, w', φ, hs', (.sl hp hroom h2 h3 h4 (.inr rfl) hpm), app_room (P := P) (ty := ty) ht hu hd hdu hk hi n1 (n4 w rfl) (by omega) ?_⟩
      rw [add_at, ← Nat.add_assoc]
      rw [← Nat.add_assoc] at hrun
      exact hrun
     ·cases he
   ·rename_i hroom
    split at he
    ·cases he
    ·rename_i blk hb
     split at he
     ·cases he
     ·rename_i old hold
      split at he
      ·rename_i hcond
       obtain ⟨hes, hby⟩ := hcond
       obtain ⟨ys, o1, o2, o3⟩ := old_rel (P := P) hr hp hpm hb hold h5 (by omega)
       split at he
       ·-- all of it is known: it grows
        rename_i hex
        cases he
        have hcc := h3 hex
        exact fresh H hr rfl (some ad) len c old ys o1 o2 o3 (by omega) hby none (H.alloc i.size (old ++ news)) rfl (fun j => by
         show (H.blks.set _ _).get j = _
         rw [T.get_set]) (hφ _ (Nat.le_refl _) (Nat.lt_succ_self _))
       ·rename_i hex
        split at he
        ·rename_i hcond2
         obtain ⟨hlen, hwr⟩ := hcond2
         split at he
         ·rename_i hlc
          cases he
          have hnn : φ H.next = none := hφ _ (Nat.le_refl _) (Nat.lt_succ_self _)
          let H1 : Heap := ⟨H.next, (H.kill blk.mate).blks.set b (some ⟨blk.cells, true, some H.next, blk.es⟩)⟩
          have g1 : ∀ j, H1.blks.get j = if j = b then some ⟨blk.cells, true, some H.next, blk.es⟩ else if blk.mate = some j then none else H.blks.get j := fun j => by
           show ((H.kill blk.mate).blks.set b _).get j = _
           rw [T.get_set, Heap.get_kill]
          obtain ⟨s1, hal⟩ := solo hr hb hp hwr (some H.next) (by intro b' hb'; cases hb'; exact Nat.le_refl _) H1 rfl g1
          have g2 : ∀ j, (H.mate2 b blk (old ++ news)).blks.get j = if j = H1.next then some ⟨old ++ news, true, some b, i.size⟩ else H1.blks.get j := fun j => by
           show (((H.kill blk.mate).blks.set b _).set H.next _).get j = _
           rw [T.get_set, hes, hwr, ← hes]
          have hb1 : H1.blks.get b = some ⟨blk.cells, true, some H.next, blk.es⟩ := by rw [g1, if_pos rfl]
          have hpes : blk.es = p.es := (hr.blk b blk p hb hp hpm).es
          by_cases hcc : len + m ≤ c
          ·-- it lies in the old row
           have had : ad = ⟨p.r, p.o + off, none⟩ := by
            rcases h5 with h5 | h5
            ·omega
            ·exact h5
           subst had
           obtain ⟨_, cur, e', fz, q1, q2, q3, q4, q5⟩ := hr.blk b blk p hb hp hpm
           have hes' : p.es = i.size := hpes.symm.trans hes
           rw [hes'] at h4
           have hmul : (len + m) * i.size ≤ c * i.size := Nat.mul_le_mul_right _ hcc
           rw [Nat.add_mul] at hmul
           have hle : p.o + (off + len * i.size) + xs.toList.length ≤ cur.size := by simp; omega
           have hcell : blk.cells.length = off + len * i.size := by rw [hlen, hlc]
           have s2 : Step B φ H1 w φ H1 (w.setRow p.r (splice cur (p.o + (off + len * i.size)) xs.toList)) :=
            Step.put s1.rel hb1 hp rfl hal blk.cells cur _ e' fz q1 (splice_size hle) q3 (fun j q hq => by
             have hj : j < blk.cells.length := (List.getElem?_eq_some_iff.1 hq).1
             rw [splice_get hle, if_neg (by omega)]
             obtain ⟨x, r1, r2, r3⟩ := q4 j q hq
             exact ⟨x, r1, r2, r3⟩) rfl (fun j => by
             rw [g1]
             by_cases hj : j = b
             ·simp [hj]
             ·simp [hj])
           have hstore := store_cells_run (P := P) p.r (p.o + (off + len * i.size)) e' fz xs.toList 0 cur w q1 (q5 hwr).2 (by simpa using hle) n2.oneCell
           have hrow := setRow_heap w p.r cur (splice cur (p.o + (off + len * i.size)) xs.toList) e' fz q1
           obtain ⟨rfl, hn1⟩ := takeN_some hold
           have hoff : off ≤ blk.cells.length := by omega
           have hlold : ((blk.cells.drop off).take (len * i.size)).length = len * i.size := by simp at hn1 ⊢; omega
           have hlnews : news.length = m * i.size := by rw [n2.1, n3]
           have s3 := Step.alias (H' := H.mate2 b blk ((blk.cells.drop off).take (len * i.size) ++ news)) s2.rel hb1 hp rfl hal rfl off ((blk.cells.drop off).take (len * i.size) ++ news) _ e' fz hrow hnn (by omega)
            (by rw [List.length_append, hlold, hlnews]; omega) (fun j q hq => by
              rw [splice_get hle]
              have hxl : xs.toList.length = m * i.size := by simpa using n3
              by_cases hj : j < len * i.size
              ·rw [if_neg (by omega)]
               rw [List.getElem?_append_left (by rw [hlold]; exact hj), List.getElem?_take, if_pos hj, List.getElem?_drop] at hq
               rw [Nat.add_assoc]
               exact q4 _ q hq
              ·rw [List.getElem?_append_right (by rw [hlold]; omega), hlold] at hq
               have hj2 : j - len * i.size < news.length := (List.getElem?_eq_some_iff.1 hq).1
               rw [if_pos (by omega)]
               obtain ⟨x, r1, r2, r3⟩ := n2.at _ q hq
               exact ⟨x, by rw [← r1]; simp; congr 1; omega, r2, r3⟩) rfl (fun j => by
              rw [g2]
              show (if j = H.next then _ else _) = if j = H.next then _ else _
              rw [← hes])
           refine ⟨_, _, _, (s1.trans s2).trans s3, ?_, app_room (P := P) (ty := ty) ht hu hd hdu hk hi n1 (n4 w rfl) hcc (w' := w.setRow p.r (splice cur (p.o + (off + len * i.size)) xs.toList)) ?_⟩
           ·exact VRel.sl (p := ⟨p.r, p.o + off, p.n - off, p.es, false⟩) (if_pos rfl) (Nat.le_refl _) hcc (by simp) (by simp only [hes']; omega) (.inr rfl) rfl
           ·rw [add_at]
            simpa using hstore
          ·-- or in a new one
           obtain ⟨r, w', φ', k1, k2, k3⟩ := fresh H1 s1.rel rfl (some ad) len c old ys o1 o2 o3 (by omega) hby (some b) (H.mate2 b blk (old ++ news)) rfl g2 hnn
           exact ⟨r, w', φ', s1.trans k1, k2, k3⟩
         ·cases he
        ·cases he
      ·cases he
  ·cases he
theorem cap_run {t : TypeId} {ts : Array TypeId} {ty : TypeId} {e : TypeId} (ht : ts[0]? = some t) (hd : P.underlying t = some (.slice e)) {q : AV} {x : Value} (h : VRel φ q x) {n : Nat}
 (hn : (∃ b off len, q = .sl b off len n true) ∨ (q = .v (.slice none 0 0) ∧ n = 0)) (w : World) : (Builtin.cap_ ts ty #[x]).run P w = .ok (.int .i64 n) w := by
 rcases hn with ⟨b, off, len, rfl⟩ | ⟨rfl, rfl⟩
 ·obtain ⟨p, ad, c, _, rfl, _, _, h3, _⟩ := sl_inv h
  have := h3 rfl
  subst this
  simp [Builtin.cap_, ht, run_underlying hd, goInt]
 ·have := (v_inv h).1
  subst this
  simp [Builtin.cap_, ht, run_underlying hd, goInt]
theorem appz_sound (hr : HRel B φ H w) (hφ : φ H.next = none) {t u e : TypeId} {i : TypeInfo} {z : Value} {ts : Array TypeId} {ty : TypeId} {du : TypeDesc}
 (ht : ts[0]? = some t) (hu : ts[1]? = some u) (hd : P.underlying t = some (.slice e)) (hdu : P.underlying u = some du) (hk : isI du = true)
 (hi : P.info? e = some i) (hz : i.zero = some z) (hzp : z.cells.all Value.plain1 = true) (hzl : z.cells.size = i.size) (hpos : 0 < i.size) (hbp : 0 < i.bytes) {k : IntKind} {n : Int} (hn0 : 0 < n) (hn : n * i.bytes ≤ 2 ^ 47) :
 ∃ r w' φ', Step B φ H w φ' (H.alloc i.size (List.replicate n.toNat (z.cells.toList.map .v)).flatten) w' ∧ VRel φ' (.sl H.next 0 n.toNat n.toNat false) r ∧ (Builtin.append_ ts ty #[.slice none 0 0, .int k n]).run P w = .ok r w' := by
 obtain ⟨m, rfl⟩ : ∃ m : Nat, n = (m : Int) := ⟨n.toNat, by omega⟩
 have hm0 : 0 < m := by omega
 have hby : m * i.bytes ≤ 2 ^ 47 := by
  have : ((m * i.bytes : Nat) : Int) ≤ 2 ^ 47 := by rw [Int.natCast_mul]; exact hn
  omega
 have hm : m ≤ 2 ^ 47 := by have := Nat.le_mul_of_pos_right m hbp; omega
 have hzrel : CRel φ (z.cells.toList.map .v) z.cells := (vrel_plain φ z.cells hzp).cs rfl
 have hzl2 : (z.cells.toList.map AV.v).length = i.size := by simp [hzl]
 have hnews := zeros_rel hzrel (by rw [hzl2]; exact hpos) m
 rw [hzl2] at hnews
 have hzc : Builtin.zeroCells z.cells m = (Array.range (m * i.size)).map (z.cells[· % z.cells.size]!) := by rw [zeroCells_eq, hzl]
 rw [← hzc] at hnews
 have hge := grownCap_ge w (0 + m) 0 e
 have hsz : (Builtin.zeroCells z.cells m ++ Builtin.zeroCells z.cells (grownCap w (0 + m) 0 e - (0 + m))).size = grownCap w (0 + m) 0 e * i.size := by
  simp only [Array.size_append, size_zeroCells, hzl, ← Nat.add_mul]
  congr 1
  omega
 have hst := Step.alloc' (H' := H.alloc i.size (List.replicate m (z.cells.toList.map .v)).flatten) hr i.size none (List.replicate m (z.cells.toList.map .v)).flatten rfl (fun j => by
  show (H.blks.set _ _).get j = _
  rw [T.get_set]) (Builtin.zeroCells z.cells m ++ Builtin.zeroCells z.cells (grownCap w (0 + m) 0 e - (0 + m))) e (0, 0) hφ
  (by rw [hnews.1]; simp) (fun j q hq => by
    obtain ⟨x, k1, k2⟩ := hnews.at j q hq
    refine ⟨x, ?_, k2⟩
    have hlt : j < (Builtin.zeroCells z.cells m).size := (Array.getElem?_eq_some_iff.1 k1).1
    rw [Array.getElem?_append_left hlt]; exact k1) (.inr rfl) (w.drew.alloc (.cells (Builtin.zeroCells z.cells m ++ Builtin.zeroCells z.cells (grownCap w (0 + m) 0 e - (0 + m))) e)) rfl rfl rfl rfl
 refine ⟨.slice (some ⟨w.heap.size, 0, none⟩) (0 + m) (grownCap w (0 + m) 0 e), _, _, hst, ?_, ?_⟩
 ·rw [Int.toNat_natCast]
  have := VRel.sl (φ := fun b => if b = H.next then some ⟨w.heap.size, 0, (Builtin.zeroCells z.cells m ++ Builtin.zeroCells z.cells (grownCap w (0 + m) 0 e - (0 + m))).size, i.size, false⟩ else φ b) (b := H.next) (off := 0) (len := 0 + m) (cap := 0 + m) (ex := false) (p := ⟨w.heap.size, 0, (Builtin.zeroCells z.cells m ++ Builtin.zeroCells z.cells (grownCap w (0 + m) 0 e - (0 + m))).size, i.size, false⟩) (a := ⟨w.heap.size, 0, none⟩) (c := grownCap w (0 + m) 0 e) (if_pos rfl) (Nat.le_refl _) hge (by simp) (by rw [hsz, Nat.zero_add]; exact Nat.le_refl _) (.inr rfl) rfl
  simpa using this
 ·have n1 : ¬ 0 + m ≤ 0 := by omega
  have n3 : ¬ Builtin.nextslicecap (0 + m) 0 * i.bytes > 2 ^ 48 := by
   have := growslice_fits (show 0 < 0 + m by omega) (show (0 + m) * i.bytes ≤ 140737488355328 by rw [Nat.zero_add]; exact hby)
   omega
  have w1 : IntKind.i64.wrap (m : Int) = (m : Int) := by rw [IntKind.wrap_i64]; omega
  have n4 : ¬ ((m : Int) < 0) := by omega
  have n5 : ¬ ((m : Int) * (i.bytes : Int) > 2 ^ 48) := by
   have : ((m * i.bytes : Nat) : Int) ≤ 2 ^ 47 := by omega
   rw [Int.natCast_mul] at this; omega
  have n5' : ¬ (281474976710656 < (m : Int) * (i.bytes : Int)) := fun h => n5 h
  have n6 : ¬ ((m : Int) > IntKind.i64.max) := by rw [show IntKind.i64.max = 9223372036854775807 by decide]; omega
  have n7 : ¬ (m * i.size = 0) := by have := Nat.mul_pos hm0 hpos; omega
  have n8 : ¬ m = 0 := by omega
  have n9 : ¬ i.size = 0 := by omega
  cases du <;> simp [isI] at hk
  simp only [Nat.zero_add] at n1 n3 ⊢
  simp [Builtin.append_, ht, hu, run_underlying hd, run_underlying hdu, sizeOf, typeInfo, zeroValue, hi, hz, asInt, asIntOf, w1, n4, n5, n5', n6, n7, n8, n9, n3, Question.forced, grownCap, newRow, Builtin.firstCells]
  all_goals (first | rfl | omega | skip)
theorem first_rel (hr : HRel B φ H w) {es k m : Nat} {q : AV} {x : Value} {news : List AV} (h : VRel φ q x) (hl : lenA q = some m) (hk : k ≤ m) (hn : firstA H es k q = some news) :
 ∃ xs : Array Value, CRel φ news xs ∧ xs.size = k * es ∧ (Builtin.firstCells es k x).run P w = .ok xs w := by
 unfold firstA at hn
 split at hn
 ·cases hn
  cases hl
  have := (v_inv h).1
  subst this
  obtain rfl : k = 0 := by omega
  exact ⟨#[], ⟨rfl, fun i c y hc => by simp at hc⟩, by simp, rfl⟩
 ·rename_i b off len cap ex
  cases hl
  obtain ⟨p, ad, c, hp, rfl, h1, h2, _, _, h5, hpm⟩ := sl_inv h
  obtain ⟨xs, g1, g2, g3⟩ := getN_rel hr hp hpm hn
  refine ⟨xs.toArray, g2, by simpa using g1, ?_⟩
  rcases h5 with h5 | h5
  ·obtain rfl : k = 0 := by omega
   have : xs = [] := List.eq_nil_of_length_eq_zero (by simpa using g1)
   subst this
   simp [Builtin.firstCells, loadCells, loadCellsFrom]
  ·subst h5
   simp only [Builtin.firstCells]
   rw [← g1]
   exact load_cells_run g3
 ·rename_i str
  cases hl
  split at hn
  ·rename_i he1
   cases hn
   have := (v_inv h).1
   subst this
   subst he1
   refine ⟨(str.extract 0 k).data.map fun b => .int .u8 b.toNat, ?_, ?_, rfl⟩
   ·have e0 : (str.extract 0 k).data = str.data.extract 0 k := by simp
    have e : (str.extract 0 k).data.toList = str.data.toList.take k := by rw [e0]; simp
    refine ⟨by rw [List.length_map, ← e]; simp, ?_⟩
    intro i c y hc hy
    rw [List.getElem?_map, ← e] at hc
    rw [Array.getElem?_map] at hy
    rw [← Array.getElem?_toList] at hy
    cases hb : (str.extract 0 k).data.toList[i]? with
    | none => rw [hb] at hy; cases hy
    | some u =>
      rw [hb] at hc
      rw [hb] at hy
      cases hc; cases hy
      exact ⟨.v rfl, rfl⟩
   ·have : (str.extract 0 k).size = k := by rw [ByteArray.size_extract]; omega
    simpa using this
  ·cases hn
 ·cases hn
theorem lenA_run {q : AV} {x : Value} (h : VRel φ q x) {m : Nat} (hl : lenA q = some m) : (Builtin.lenOf x).run P w = .ok m w := by
 unfold lenA at hl
 split at hl
 ·cases hl; have := (v_inv h).1; subst this; rfl
 ·cases hl; obtain ⟨p, ad, c, _, rfl, _⟩ := sl_inv h; rfl
 ·cases hl; have := (v_inv h).1; subst this; rfl
 ·cases hl
theorem copy_sound (hr : HRel B φ H w) {t e : TypeId} {es : Nat} {ts : Array TypeId} {ty : TypeId} (ht : ts[0]? = some t) (hd : P.underlying t = some (.slice e)) (hs : sizeO P e = some es)
 {d s : AV} {dv sv : Value} (hdr : VRel φ d dv) (hsr : VRel φ s sv) (he : cpyA H es d s = some (v, H')) :
 ∃ r w', Step B φ H w φ H' w' ∧ VRel φ v r ∧ (Builtin.copy_ ts ty #[dv, sv]).run P w = .ok r w' := by
 unfold cpyA at he
 split at he
 ·cases he
 ·rename_i m hm
  have hlen := lenA_run (P := P) (w := w) hsr hm
  split at he
  ·cases he
   have := (v_inv hdr).1
   subst this
   refine ⟨.int .i64 0, w, .refl hr, .v rfl, ?_⟩
   have hmin : Nat.min m 0 = 0 := Nat.min_zero m
   obtain ⟨xs, _, x2, x3⟩ : ∃ xs : Array Value, True ∧ True ∧ (Builtin.firstCells es 0 sv).run P w = .ok xs w := by
    unfold lenA at hm
    split at hm
    ·have := (v_inv hsr).1; subst this; exact ⟨_, trivial, trivial, rfl⟩
    ·obtain ⟨p, ad, c, _, rfl, _⟩ := sl_inv hsr; exact ⟨#[], trivial, trivial, by simp [Builtin.firstCells, loadCells, loadCellsFrom]⟩
    ·have := (v_inv hsr).1; subst this; exact ⟨_, trivial, trivial, rfl⟩
    ·cases hm
   simp [Builtin.copy_, ht, run_underlying hd, hlen, size_run hs, x3, goInt, hmin]
  ·rename_i b off len cap ex
   obtain ⟨p, ad, c, hp, rfl, h1, h2, h3, h4, h5, hpm⟩ := sl_inv hdr
   split at he
   ·rename_i hmin
    cases he
    refine ⟨.int .i64 0, w, .refl hr, .v rfl, ?_⟩
    obtain ⟨xs, x3, x4⟩ : ∃ xs : Array Value, (Builtin.firstCells es 0 sv).run P w = .ok xs w ∧ xs = #[] := by
     unfold lenA at hm
     split at hm
     ·have := (v_inv hsr).1; subst this; exact ⟨_, rfl, rfl⟩
     ·obtain ⟨p, ad, c, _, rfl, _⟩ := sl_inv hsr; exact ⟨#[], by simp [Builtin.firstCells, loadCells, loadCellsFrom], rfl⟩
     ·rename_i str
      have := (v_inv hsr).1; subst this; refine ⟨_, rfl, ?_⟩
      have e2 : (str.extract 0 0).data = #[] := by
       have e0 : (str.extract 0 0).data = str.data.extract 0 0 := by simp
       rw [e0]; simp
      rw [e2]; simp
     ·cases hm
    subst x4
    simp [Builtin.copy_, ht, run_underlying hd, hlen, size_run hs, hmin, x3, goInt]
    rfl
   ·rename_i k hmin
    split at he
    ·rename_i news hnews
     split at he
     ·rename_i H1 hw
      cases he
      have hmin2 : min m len = k + 1 := hmin
      have hle : k + 1 ≤ m := by omega
      have hle2 : k + 1 ≤ len := by omega
      obtain ⟨xs, f1, f2, f3⟩ := first_rel (P := P) hr hsr hm hle hnews
      obtain ⟨w', hs', hrun⟩ := write_step (P := P) hr hp hpm f1 hw
      have had : ad = ⟨p.r, p.o + off, none⟩ := by
       rcases h5 with h5 | h5
       ·omega
       ·exact h5
      subst had
      refine ⟨.int .i64 (k + 1 : Nat), w', hs', .v rfl, ?_⟩
      simp [Builtin.copy_, ht, run_underlying hd, hlen, size_run hs, hmin, f3, goInt, hrun]
     ·cases he
    ·cases he
  ·cases he
end
end Go.AM
namespace Go.AM
open Go.RowKit Go.MapKept
theorem mapP_L : ∀ {vs : List Value} {l : List (Int × Int)}, mapP vs = some l → vs = mapL l
 | [], l, h => by simp only [mapP, Option.some.injEq] at h; subst h; rfl
 | [_], l, h => by unfold mapP at h; split at h <;> first | (rename_i e; cases e) | cases h
 | a :: b :: r, l, h => by
   unfold mapP at h
   split at h
   ·rename_i e; cases e
   ·rename_i k v r' e
    cases e
    split at h
    ·rename_i l' hl
     cases h
     rw [mapP_L hl]; rfl
    ·cases h
   ·cases h
theorem mapP_E : ∀ l : List (Int × Int), mapP (mapL l) = some l
 | [] => rfl
 | e :: r => by
   show (match mapP (mapL r) with | some l => some ((e.1, e.2) :: l) | none => none) = _
   rw [mapP_E r]
theorem mapC_D {cs : List AV} {l : List (Int × Int)} (h : mapD cs = some l) : cs = mapC l := by
 unfold mapD at h
 split at h
 ·rename_i a
  have := mapP_L h
  unfold mapC mapV
  rw [← this]
 ·cases h
theorem mapD_C (l : List (Int × Int)) : mapD (mapC l) = some l := by
 show mapP (mapL l).toArray.toList = some l
 rw [List.toList_toArray]; exact mapP_E l
theorem mapC_inj {l l' : List (Int × Int)} (h : mapC l = mapC l') : l = l' := by
 have := mapD_C l
 rw [h, mapD_C] at this
 exact (Option.some.inj this).symm
theorem mapE_app : ∀ (l : List (Int × Int)) (e : Int × Int) (i : Nat), mapE (l ++ [e]) i = mapE l i ++ [⟨.int .i64 e.1, .int .i64 e.2, i + l.length⟩]
 | [], e, i => rfl
 | x :: l, e, i => by
   show _ :: mapE (l ++ [e]) (i + 1) = _ :: (mapE l (i + 1) ++ _)
   rw [mapE_app l e (i + 1), List.length_cons, show i + 1 + l.length = i + (l.length + 1) by omega]
theorem mapE_len : ∀ (l : List (Int × Int)) (i : Nat), (mapE l i).length = l.length
 | [], _ => rfl
 | x :: l, i => by show (mapE l (i + 1)).length + 1 = l.length + 1; rw [mapE_len l]
theorem mapE_at : ∀ (l : List (Int × Int)) (i j : Nat), (mapE l i)[j]? = (l[j]?).map fun e => ⟨.int .i64 e.1, .int .i64 e.2, i + j⟩
 | [], _, _ => rfl
 | x :: l, i, 0 => rfl
 | x :: l, i, j + 1 => by
   show (mapE l (i + 1))[j]? = (l[j]?).map _
   rw [mapE_at l (i + 1) j]
   simp only [show i + 1 + j = i + (j + 1) by omega]
theorem mapF_now : ∀ (l : List (Int × Int)) (n : Int) (i b : Nat), Instr.findNow (.int .i64) (.int .i64 n) (mapE l b) i = some ((mapF n l i).map fun p => (p.1, .int .i64 p.2))
 | [], n, i, b => rfl
 | e :: r, n, i, b => by
   show (match Instr.sameNow (.int .i64) (.int .i64 n) (.int .i64 e.1) with | some true => some (some (i, Value.int .i64 e.2)) | some false => Instr.findNow (.int .i64) (.int .i64 n) (mapE r (b + 1)) (i + 1) | none => none) = _
   simp only [Instr.sameNow, if_true]
   unfold mapF
   by_cases c : n = e.1
   ·rw [if_pos c, show (n == e.1) = true by simpa using c]; rfl
   ·rw [if_neg c, show (n == e.1) = false by simpa using c]
    exact mapF_now r n (i + 1) (b + 1)
theorem mapF_at : ∀ (l : List (Int × Int)) (n : Int) (i : Nat) {j : Nat} {v : Int}, mapF n l i = some (j, v) → ∃ k, j = i + k ∧ l[k]? = some (n, v)
 | [], n, i, j, v, h => by cases h
 | e :: r, n, i, j, v, h => by
   unfold mapF at h
   split at h
   ·rename_i c
    cases h
    exact ⟨0, rfl, by rw [c]; rfl⟩
   ·obtain ⟨k, h1, h2⟩ := mapF_at r n (i + 1) h
    exact ⟨k + 1, by omega, h2⟩
section
variable {P : Program} {B : Nat} {φ : Phi} {H H' : Heap} {w : World} {fr : T AV} {a : Act} {o : Oper} {ao : AOp} {v : AV}
 {call : Nat → List AV → Heap → Option (AV × Heap)}
theorem Step.allocMap (h : HRel B φ H w) (hφ : φ H.next = none) : Step B φ H w (fun b => if b = H.next then some ⟨w.heap.size, 0, 0, 0, true⟩ else φ b) (H.alloc 0 (mapC [])) (w.alloc (.map #[] 0)) := by
 have hle : Le φ (fun b => if b = H.next then some ⟨w.heap.size, 0, 0, 0, true⟩ else φ b) := by
  intro b p hp
  by_cases hb : b = H.next
  ·subst hb; rw [hφ] at hp; cases hp
  ·simp only [hb, if_false]; exact hp
 have hget : ∀ b, (H.alloc 0 (mapC [])).blks.get b = if b = H.next then some ⟨mapC [], true, none, 0⟩ else H.blks.get b := fun b => T.get_set _ _ _ _
 obtain ⟨hnew, hold⟩ := heap_alloc w (.map #[] 0)
 have hsz : (w.alloc (.map #[] 0)).heap.size = w.heap.size + 1 := by show (w.heap.push _).size = _; simp
 refine ⟨hle, ?_, ⟨fun b blk p hb hp hm => ?_, fun b blk p hb hp hm => ?_, ?_, by rw [hsz]; have := h.size; omega, ?_⟩, Nat.le_succ _, rfl, rfl, rfl, by rw [hsz]; omega, fun r hr _ => hold r hr, ?_⟩
 ·intro b p hp
  by_cases hb : b = H.next
  ·exact .inr ⟨by omega, by show b < H.next + 1; omega⟩
  ·simp only [hb, if_false] at hp; exact .inl hp
 ·rw [hget] at hb
  by_cases hbn : b = H.next
  ·simp only [hbn, if_true, Option.some.injEq] at hp
   subst hp; cases hm
  ·simp only [hbn, if_false] at hb hp
   obtain ⟨es', cur', e', fz', g1, g2, g3, g4, g5⟩ := h.blk b blk p hb hp hm
   refine ⟨es', cur', e', fz', by rw [hold _ (h.row_lt hb hp)]; exact g1, g2, g3, ?_, g5⟩
   intro i c hic
   obtain ⟨x, h1, h2, h3⟩ := g4 i c hic
   exact ⟨x, h1, h2.mono hle, h3⟩
 ·rw [hget] at hb
  by_cases hbn : b = H.next
  ·simp only [hbn, if_true, Option.some.injEq] at hp hb
   subst hp; subst hb
   exact ⟨rfl, h.size, [], hnew, rfl⟩
  ·simp only [hbn, if_false] at hb hp
   obtain ⟨a, c, l, h1, h2⟩ := h.mpr b blk p hb hp hm
   exact ⟨a, c, l, by rw [hold _ (h.row_lt hb hp)]; exact h1, h2⟩
 ·intro b blk b' blk' p p' hb hb' hne hwr hm hp hp'
  rw [hget] at hb hb'
  by_cases hbn : b = H.next
  ·by_cases hbn' : b' = H.next
   ·exact absurd (hbn.trans hbn'.symm) hne
   ·simp only [hbn, if_true, Option.some.injEq] at hp
    simp only [hbn', if_false] at hb' hp'
    subst hp
    have := h.row_lt hb' hp'
    simp only; omega
  ·simp only [hbn, if_false] at hb hp
   by_cases hbn' : b' = H.next
   ·simp only [hbn', if_true, Option.some.injEq] at hp'
    subst hp'
    have := h.row_lt hb hp
    simp only; omega
   ·simp only [hbn', if_false] at hb' hp'
    exact h.sep b blk b' blk' p p' hb hb' hne hwr hm hp hp'
 ·intro b hb
  have hb' : H.next + 1 ≤ b := hb
  rw [hget, if_neg (by omega)]
  exact h.lt b (by omega)
 ·rintro r ⟨b, blk, p, hb, hwr, hp, rfl⟩
  rw [hget] at hb
  by_cases hbn : b = H.next
  ·simp only [hbn, if_true, Option.some.injEq] at hp
   subst hp
   exact .inr (Nat.le_refl _)
  ·simp only [hbn, if_false] at hb hp
   exact .inl ⟨b, blk, p, hb, hwr, hp, rfl⟩
theorem Step.putMap (h : HRel B φ H w) {b : Nat} {blk : Blk} {p : Pl} (hb : H.blks.get b = some blk) (hp : φ b = some p) (hm : p.mp = true)
 (ha : Alone φ H b p) (l : List (Int × Int)) {o : Obj} (hr : w.heap[p.r]? = some o)
 (hn : H'.next = H.next) (hget : ∀ j, H'.blks.get j = if j = b then some ⟨mapC l, true, blk.mate, blk.es⟩ else H.blks.get j) : Step B φ H w φ H' { w with heap := w.heap.setIfInBounds p.r (.map (mapE l 0).toArray l.length) } := by
 obtain ⟨hnew, hold⟩ := heap_set (o' := .map (mapE l 0).toArray l.length) hr
 obtain ⟨hwr, hlow, _⟩ := h.mpr b blk p hb hp hm
 refine ⟨.refl _, fun _ _ h => .inl h, ⟨fun j blk' p' hj hp' hm' => ?_, fun j blk' p' hj hp' hm' => ?_, ?_, by simp; exact h.size, ?_⟩, by omega, rfl, rfl, rfl, by simp, fun r _ hno => hold r (fun e => hno ⟨b, blk, p, hb, hwr, hp, e.symm⟩), ?_⟩
 ·rw [hget] at hj
  by_cases hjb : j = b
  ·subst hjb
   rw [hp] at hp'; cases hp'
   rw [hm] at hm'; cases hm'
  ·simp only [hjb, if_false] at hj
   obtain ⟨es, c2, e2, f2, k1, k2⟩ := h.blk j blk' p' hj hp' hm'
   exact ⟨es, c2, e2, f2, by rw [hold _ (ha j blk' p' hj hjb hp')]; exact k1, k2⟩
 ·rw [hget] at hj
  by_cases hjb : j = b
  ·subst hjb
   rw [hp] at hp'; cases hp'
   simp only [if_true, Option.some.injEq] at hj
   subst hj
   exact ⟨rfl, hlow, l, hnew, rfl⟩
  ·simp only [hjb, if_false] at hj
   obtain ⟨a, c, l', h1, h2⟩ := h.mpr j blk' p' hj hp' hm'
   exact ⟨a, c, l', by rw [hold _ (ha j blk' p' hj hjb hp')]; exact h1, h2⟩
 ·intro j blk1 j' blk2 p1 p2 hj hj' hne hw hmm h1 h2
  rw [hget] at hj hj'
  by_cases hjb : j = b
  ·subst hjb
   rw [hp] at h1; cases h1
   simp only [Ne.symm hne, if_false] at hj'
   exact fun e => ha j' blk2 p2 hj' (Ne.symm hne) h2 e.symm
  ·simp only [hjb, if_false] at hj
   by_cases hjb' : j' = b
   ·subst hjb'
    rw [hp] at h2; cases h2
    exact ha j blk1 p1 hj hjb h1
   ·simp only [hjb', if_false] at hj'
    exact h.sep j blk1 j' blk2 p1 p2 hj hj' hne hw hmm h1 h2
 ·intro j hj
  rw [hget]
  by_cases hjb : j = b
  ·subst hjb; rw [h.lt j (by omega)] at hb; cases hb
  ·rw [if_neg hjb]; exact h.lt j (by omega)
 ·rintro r ⟨j, blk', p', hj, hw, hp', rfl⟩
  rw [hget] at hj
  by_cases hjb : j = b
  ·subst hjb; exact .inl ⟨j, blk, p', hb, hwr, hp', rfl⟩
  ·simp only [hjb, if_false] at hj
   exact .inl ⟨j, blk', p', hj, hw, hp', rfl⟩
theorem upd_map (hr : HRel B φ H w) {b : Nat} {blk : Blk} {p : Pl} (hb : H.blks.get b = some blk) (hp : φ b = some p) (hm : p.mp = true) (l : List (Int × Int)) :
 Step B φ H w φ (H.upd b blk (mapC l)) { w with heap := w.heap.setIfInBounds p.r (.map (mapE l 0).toArray l.length) } := by
 obtain ⟨hwr, hlow, l0, h1, _⟩ := hr.mpr b blk p hb hp hm
 obtain ⟨s1, hal⟩ := solo hr hb hp hwr none (by simp) ⟨H.next, (H.kill blk.mate).blks.set b (some ⟨blk.cells, true, none, blk.es⟩)⟩ rfl (fun j => by
  show ((H.kill blk.mate).blks.set b _).get j = _
  rw [T.get_set, Heap.get_kill])
 refine s1.trans (Step.putMap s1.rel (b := b) (blk := ⟨blk.cells, true, none, blk.es⟩) (by
  show ((H.kill blk.mate).blks.set b _).get b = _
  rw [T.get_set, if_pos rfl]) hp hm hal l h1 rfl (fun j => ?_))
 show ((H.kill blk.mate).blks.set b _).get j = if j = b then _ else ((H.kill blk.mate).blks.set b _).get j
 rw [T.get_set, T.get_set]
 by_cases hjb : j = b
 ·simp [hjb]
 ·simp [hjb]
theorem mapG_some {m : AV} {b : Nat} {blk : Blk} {l : List (Int × Int)} (h : mapG H m = some (b, blk, l)) : m = .ifc MAPT (.ptr b 0) ∧ H.blks.get b = some blk ∧ mapD blk.cells = some l := by
 unfold mapG at h
 split at h
 ·split at h
  ·rename_i ht
   subst ht
   split at h
   ·rename_i hb
    split at h
    ·rename_i hl
     cases h
     exact ⟨rfl, hb, hl⟩
    ·cases h
   ·cases h
  ·cases h
 ·cases h
theorem mp_inv {b : Nat} {x : Value} (h : VRel φ (.ifc MAPT (.ptr b 0)) x) : ∃ p, φ b = some p ∧ p.mp = true ∧ x = .map (some p.r) := by
 generalize hm : AV.ifc MAPT (.ptr b 0) = m at h
 cases h with
 | ifc _ ht => injection hm with h1 _; rw [← h1] at ht; exact absurd ht (Nat.lt_irrefl _)
 | mp h hp => injection hm with _ h2; injection h2 with h3 _; rw [h3]; exact ⟨_, h, hp, rfl⟩
 | bnd => injection hm with h1 _; unfold MAPT BNDT at h1; omega
 | mv => injection hm with h1 _; unfold MAPT MVT at h1; omega
 | _ => injection hm
theorem mapG_rel (hr : HRel B φ H w) {m : AV} {x : Value} {b : Nat} {blk : Blk} {l : List (Int × Int)} (h : VRel φ m x) (hg : mapG H m = some (b, blk, l)) : ∃ p, φ b = some p ∧ p.mp = true ∧ x = .map (some p.r) ∧ H.blks.get b = some blk ∧ w.heap[p.r]? = some (.map (mapE l 0).toArray l.length) := by
 obtain ⟨rfl, hb, hl⟩ := mapG_some hg
 obtain ⟨p, h1, h2, h3⟩ := mp_inv h
 obtain ⟨_, _, l', g1, g2⟩ := hr.mpr b blk p hb h1 h2
 have := mapC_inj ((mapC_D hl).symm.trans g2)
 subst this
 exact ⟨p, h1, h2, h3, hb, g1⟩
theorem okMap_inv {t : TypeId} (h : okMap P t = some ()) : ∃ k e, P.underlying t = some (.map k e) ∧ P.underlying k = some (.int .i64) ∧ ∀ w, (zeroValue e).run P w = .ok (.int .i64 0) w := by
 simp only [okMap, Option.bind_eq_bind, Option.bind_eq_some_iff] at h
 obtain ⟨d, hd, h⟩ := h
 split at h
 ·rename_i k e
  simp only [Option.bind_eq_some_iff] at h
  obtain ⟨dk, hk, h⟩ := h
  split at h
  ·simp only [Option.bind_eq_some_iff] at h
   obtain ⟨z, hz, h⟩ := h
   obtain ⟨i, u, hi, hu, _, _, hzr⟩ := zero_run hz
   rw [hi] at h
   simp only [Option.bind, hu] at h
   split at h
   ·rename_i e'
    cases e'
    exact ⟨k, e, hd, hk, hzr⟩
   ·cases h
  ·cases h
 ·cases h
theorem mkmap_sound (hr : HRel B φ H w) (hφ : ∀ b, H.next ≤ b → b < H'.next → φ b = none) {t : TypeId} (ho : o.op = .makeMap t none) (hc : cOp P o = some ao) (he : evOp call ao fr H = some (v, H')) :
 OpRes P B φ H w a o v H' := by
 simp only [cOp, ho, Option.bind_eq_bind, Option.bind_eq_some_iff] at hc
 obtain ⟨_, _, hc⟩ := hc
 cases hc
 simp only [evOp] at he
 cases he
 refine ⟨.map (some w.heap.size), w.alloc (.map #[] 0), _, Step.allocMap hr (hφ _ (Nat.le_refl _) (Nat.lt_succ_self _)), ?_, .inl ?_⟩
 ·exact VRel.mp (p := ⟨w.heap.size, 0, 0, 0, true⟩) (by simp) rfl
 ·simp only [execOp, ho, Option.map]
  rfl
theorem mlook_sound (hr : HRel B φ H w) (hf : FRel φ fr a.tmps) {t : TypeId} {x k : Operand} (ho : o.op = .lookup t x k false) (hc : cOp P o = some ao) (he : evOp call ao fr H = some (v, H')) :
 OpRes P B φ H w a o v H' := by
 simp only [cOp, ho, Option.bind_eq_bind, Option.bind_eq_some_iff] at hc
 obtain ⟨_, hm, ax, hx, ak, hk, hc⟩ := hc
 cases hc
 obtain ⟨kt, et, d1, d2, d3⟩ := okMap_inv hm
 simp only [evOp] at he
 split at he
 ·rename_i m n ex ek
  split at he
  ·rename_i b blk l hg
   obtain ⟨p, _, _, hxv, _, hheap⟩ := mapG_rel hr (ev_sound hf hx ex) hg
   obtain ⟨hkv, _⟩ := v_inv (ev_sound hf hk ek)
   have e1 : ∀ em, (Instr.checkKey em 10000 kt (.int .i64 n)).run P w = .ok () w := fun em => Go.MapKept.run_checkKey (k := .int .i64 n) d2 rfl em 9999
   have e2 : (Instr.findKey kt (.int .i64 n) (mapE l 0)).run P w = .ok _ w := Go.MapKept.run_findKey d2 (mapF_now l n 0 0)
   split at he
   ·rename_i i vv hF
    cases he
    refine OpRes.pure hr (x := .int .i64 vv) (.v rfl) ?_
    simp [execOp, ho, hxv, hkv, Instr.lookup, run_underlying d1, Go.MapKept.run_getObj_map (P := P) hheap, e1, e2, hF, Result.andThen]
   ·rename_i hF
    cases he
    refine OpRes.pure hr (x := .int .i64 0) (.v rfl) ?_
    simp [execOp, ho, hxv, hkv, Instr.lookup, run_underlying d1, Go.MapKept.run_getObj_map (P := P) hheap, e1, e2, hF, Result.andThen, d3]
  ·cases he
 ·cases he
theorem ment_sound (hr : HRel B φ H w) (hf : FRel φ fr a.tmps) {t : TypeId} {x k : Operand} (ho : o.op = .mapEntry t x k) (hc : cOp P o = some ao) (he : evOp call ao fr H = some (v, H')) :
 OpRes P B φ H w a o v H' := by
 simp only [cOp, ho, Option.bind_eq_bind, Option.bind_eq_some_iff] at hc
 obtain ⟨_, hm, ax, hx, ak, hk, hc⟩ := hc
 cases hc
 obtain ⟨kt, et, d1, d2, d3⟩ := okMap_inv hm
 simp only [evOp] at he
 split at he
 ·rename_i m n ex ek
  split at he
  ·rename_i b blk l hg
   obtain ⟨p, hp, hpm, hxv, hb, hheap⟩ := mapG_rel hr (ev_sound hf hx ex) hg
   obtain ⟨hkv, _⟩ := v_inv (ev_sound hf hk ek)
   have e1 : ∀ em, (Instr.checkKey em 10000 kt (.int .i64 n)).run P w = .ok () w := fun em => Go.MapKept.run_checkKey (k := .int .i64 n) d2 rfl em 9999
   have e2 : (Instr.findKey kt (.int .i64 n) (mapE l 0)).run P w = .ok _ w := Go.MapKept.run_findKey d2 (mapF_now l n 0 0)
   split at he
   ·rename_i i vv hF
    cases he
    obtain ⟨j, h1, h2⟩ := mapF_at l n 0 hF
    rw [Nat.zero_add] at h1
    subst h1
    have e3 : (mapE l 0)[i]? = some ⟨.int .i64 n, .int .i64 vv, i⟩ := by rw [mapE_at, h2]; simp
    have e4 : (mapE l 0).modify i (fun e => { e with key := .int .i64 n }) = mapE l 0 := by
     refine List.ext_getElem? fun q => ?_
     rw [List.getElem?_modify]
     by_cases c : i = q
     ·subst c
      rw [e3]; simp
     ·cases (mapE l 0)[q]? <;> simp [c]
    have e5 : w.heap.setIfInBounds p.r (.map (mapE l 0).toArray l.length) = w.heap := by
     apply Array.ext_getElem?
     intro q
     rw [Array.getElem?_setIfInBounds]
     split
     ·rename_i c
      subst c
      rw [if_pos (Array.getElem?_eq_some_iff.1 hheap).1, hheap]
     ·rfl
    refine ⟨.tuple #[.int .i64 vv, .int .i64 i], w, φ, .refl hr, ?_, .inl ?_⟩
    ·refine .tup rfl fun q c y hc hy => ?_
     match q, hc, hy with
     | 0, hc, hy => cases hc; cases hy; exact .v rfl
     | 1, hc, hy => cases hc; cases hy; exact .v rfl
    ·simp [execOp, ho, hxv, hkv, Instr.mapEntry, run_underlying d1, Go.MapKept.run_getObj_map (P := P) hheap, e1, e2, hF, Result.andThen, e3, Instr.keyThatStays, Instr.sameBits, Go.MapKept.run_setObj_map (P := P) _ hheap, e4, e5, goInt]
   ·rename_i hF
    cases he
    have e3 : mapE l 0 ++ [⟨.int .i64 n, .int .i64 0, l.length⟩] = mapE (l ++ [(n, 0)]) 0 := by rw [mapE_app, Nat.zero_add]
    refine ⟨.tuple #[.int .i64 0, .int .i64 l.length], _, φ, upd_map hr hb hp hpm (l ++ [(n, 0)]), ?_, .inl ?_⟩
    ·refine .tup rfl fun q c y hc hy => ?_
     match q, hc, hy with
     | 0, hc, hy => cases hc; cases hy; exact .v rfl
     | 1, hc, hy => cases hc; cases hy; exact .v rfl
    ·simp [execOp, ho, hxv, hkv, Instr.mapEntry, run_underlying d1, Go.MapKept.run_getObj_map (P := P) hheap, e1, e2, hF, Result.andThen, d3, Go.MapKept.run_setObj_map (P := P) _ hheap, e3, goInt]
  ·cases he
 ·cases he
theorem mst_sound (hr : HRel B φ H w) (hf : FRel φ fr a.tmps) {t : TypeId} {x y z : Operand} (ho : o.op = .entryStore t x y z) (hc : cOp P o = some ao) (he : evOp call ao fr H = some (v, H')) :
 OpRes P B φ H w a o v H' := by
 simp only [cOp, ho, Option.bind_eq_bind, Option.bind_eq_some_iff] at hc
 obtain ⟨ax, hx, ay, hy, az, hz, hc⟩ := hc
 cases hc
 simp only [evOp] at he
 split at he
 ·rename_i m i n ex ey ez
  split at he
  ·rename_i b blk l hg
   obtain ⟨p, hp, hpm, hxv, hb, hheap⟩ := mapG_rel hr (ev_sound hf hx ex) hg
   obtain ⟨hyv, _⟩ := v_inv (ev_sound hf hy ey)
   obtain ⟨hzv, _⟩ := v_inv (ev_sound hf hz ez)
   split at he
   ·rename_i e hl
    split at he
    ·rename_i hi
     cases he
     obtain ⟨j, rfl⟩ : ∃ j : Nat, i = (j : Int) := ⟨i.toNat, by omega⟩
     rw [Int.toNat_natCast] at hl ⊢
     have hlt : j < l.length := (List.getElem?_eq_some_iff.1 hl).1
     have e1 : (mapE l 0).findIdx? (fun e => (e.born : Int) == (j : Int)) = some j := by
      rw [List.findIdx?_eq_some_iff_getElem]
      refine ⟨by rw [mapE_len]; exact hlt, ?_, fun q hq => ?_⟩
      ·have := mapE_at l 0 j
       rw [hl, List.getElem?_eq_getElem (by rw [mapE_len]; exact hlt)] at this
       rw [Option.some.inj this]; simp
      ·have := mapE_at l 0 q
       rw [List.getElem?_eq_getElem (by rw [mapE_len]; omega), List.getElem?_eq_getElem (show q < l.length by omega)] at this
       rw [Option.some.inj this]; simp; omega
     have e2 : (mapE l 0).modify j (fun e => { e with val := .int .i64 n }) = mapE (l.set j (e.1, n)) 0 := by
      refine List.ext_getElem? fun q => ?_
      rw [List.getElem?_modify, mapE_at, mapE_at, List.getElem?_set]
      by_cases c : j = q
      ·subst c
       rw [if_pos rfl, if_pos hlt, hl]; simp
      ·rw [if_neg c]; cases l[q]? <;> simp [c]
     have e6 : (asInt (Value.int .i64 (j : Int))).run P w = .ok (j : Int) w := by simp [asInt, asIntOf]
     refine ⟨undef, _, φ, upd_map hr hb hp hpm (l.set j (e.1, n)), ?_, .inr ⟨?_, rfl⟩⟩
     ·exact .tup rfl fun q c y hc hy => by cases hc
     ·simp [execOp, ho, hxv, hyv, hzv, Instr.entryStore, Go.MapKept.run_getObj_map (P := P) hheap, e6, e1, e2, Go.MapKept.run_setObj_map (P := P) _ hheap, Result.andThen]
    ·cases he
   ·cases he
  ·cases he
 ·cases he
theorem mup_sound (hr : HRel B φ H w) (hf : FRel φ fr a.tmps) {t : TypeId} {x k z : Operand} (ho : o.op = .mapUpdate t x k z) (hc : cOp P o = some ao) (he : evOp call ao fr H = some (v, H')) :
 OpRes P B φ H w a o v H' := by
 simp only [cOp, ho, Option.bind_eq_bind, Option.bind_eq_some_iff] at hc
 obtain ⟨_, hm, ax, hx, ak, hk, az, hz, hc⟩ := hc
 cases hc
 obtain ⟨kt, et, d1, d2, d3⟩ := okMap_inv hm
 simp only [evOp] at he
 split at he
 ·rename_i m n zz ex ek ez
  split at he
  ·rename_i b blk l hg
   obtain ⟨p, hp, hpm, hxv, hb, hheap⟩ := mapG_rel hr (ev_sound hf hx ex) hg
   obtain ⟨hkv, _⟩ := v_inv (ev_sound hf hk ek)
   obtain ⟨hzv, _⟩ := v_inv (ev_sound hf hz ez)
   have e1 : ∀ em, (Instr.checkKey em 10000 kt (.int .i64 n)).run P w = .ok () w := fun em => Go.MapKept.run_checkKey (k := .int .i64 n) d2 rfl em 9999
   have e2 : (Instr.findKey kt (.int .i64 n) (mapE l 0)).run P w = .ok _ w := Go.MapKept.run_findKey d2 (mapF_now l n 0 0)
   split at he
   ·rename_i i vv hF
    cases he
    obtain ⟨j, h1, h2⟩ := mapF_at l n 0 hF
    rw [Nat.zero_add] at h1
    subst h1
    have hlt : i < l.length := (List.getElem?_eq_some_iff.1 h2).1
    have e3 : (mapE l 0)[i]? = some ⟨.int .i64 n, .int .i64 vv, i⟩ := by rw [mapE_at, h2]; simp
    have e4 : (mapE l 0).modify i (fun e => { e with key := .int .i64 n, val := .int .i64 zz }) = mapE (l.set i (n, zz)) 0 := by
     refine List.ext_getElem? fun q => ?_
     rw [List.getElem?_modify, mapE_at, mapE_at, List.getElem?_set]
     by_cases c : i = q
     ·subst c
      rw [if_pos rfl, if_pos hlt, h2]; simp
     ·rw [if_neg c]; cases l[q]? <;> simp [c]
    have e5 : (l.set i (n, zz)).length = l.length := List.length_set
    refine ⟨undef, _, φ, upd_map hr hb hp hpm (l.set i (n, zz)), ?_, .inr ⟨?_, rfl⟩⟩
    ·exact .tup rfl fun q c y hc hy => by cases hc
    ·simp [execOp, ho, hxv, hkv, hzv, Instr.mapUpdate, run_underlying d1, Go.MapKept.run_getObj_map (P := P) hheap, e1, e2, hF, Result.andThen, e3, Instr.keyThatStays, Instr.sameBits, Go.MapKept.run_setObj_map (P := P) _ hheap, e4]
   ·rename_i hF
    cases he
    have e3 : mapE l 0 ++ [⟨.int .i64 n, .int .i64 zz, l.length⟩] = mapE (l ++ [(n, zz)]) 0 := by rw [mapE_app, Nat.zero_add]
    refine ⟨undef, _, φ, upd_map hr hb hp hpm (l ++ [(n, zz)]), ?_, .inr ⟨?_, rfl⟩⟩
    ·exact .tup rfl fun q c y hc hy => by cases hc
    ·simp [execOp, ho, hxv, hkv, hzv, Instr.mapUpdate, run_underlying d1, Go.MapKept.run_getObj_map (P := P) hheap, e1, e2, hF, Result.andThen, Go.MapKept.run_setObj_map (P := P) _ hheap, e3]
  ·cases he
 ·cases he
end
end Go.AM
namespace Go.AM
open Go.RowKit
section
variable {P : Program} {B : Nat} {φ : Phi} {H H' : Heap} {w : World} {fr : T AV} {a : Act} {o : Oper} {ao : AOp} {v : AV}
 {call : Nat → List AV → Heap → Option (AV × Heap)}
def CallsOk (P : Program) (B : Nat) (call : Nat → List AV → Heap → Option (AV × Heap)) : Prop :=
 ∀ (f : Nat) (vs : List AV) (H : Heap) (v : AV) (H' : Heap) (φ : Phi) (w : World) (args : Array Value), call f vs H = some (v, H') → HRel B φ H w → (∀ b, H.next ≤ b → b < H'.next → φ b = none) →
   vs.length = args.size → (∀ (i : Nat) (c : AV) (y : Value), vs[i]? = some c → args[i]? = some y → VRel φ c y) →
   (callFunc f args).run P w = .ok (.enter f args) w ∧ Calls P f args w fun e w' => ∃ x φ', e = .returned x ∧ Step B φ H w φ' H' w' ∧ VRel φ' v x
theorem mono_write {b off : Nat} {vs : List AV} (h : H.write b off vs = some H') : H'.next = H.next := by
 unfold Heap.write at h
 split at h
 ·split at h
  ·split at h
   ·cases h; rfl
   ·cases h
  ·cases h
 ·cases h
theorem mono_app {es by_ : Nat} {s x : AV} (h : appendA H es by_ s x = some (v, H')) : H.next ≤ H'.next := by
 unfold appendA at h
 split at h
 ·cases h
 ·split at h
  ·split at h
   ·cases h; exact Nat.le_refl _
   ·split at h
    ·cases h; exact Nat.le_succ _
    ·cases h
  ·split at h
   ·split at h
    ·cases h; exact Nat.le_refl _
    ·split at h
     ·rename_i hw
      cases h
      exact Nat.le_of_eq (mono_write hw).symm
     ·cases h
   ·split at h
    ·cases h
    ·split at h
     ·cases h
     ·split at h
      ·split at h
       ·cases h; exact Nat.le_succ _
       ·split at h
        ·split at h
         ·cases h; exact Nat.le_succ _
         ·cases h
        ·cases h
      ·cases h
  ·cases h
theorem mono_op (hcall : ∀ f vs H v H', call f vs H = some (v, H') → H.next ≤ H'.next) (h : evOp call ao fr H = some (v, H')) : H.next ≤ H'.next := by
 induction ao generalizing v H' <;> simp only [evOp] at h
 case ck ih =>
  split at h
  ·rename_i he
   split at h
   ·cases h; exact ih he
   ·cases h
  ·cases h
 case app => split at h <;> first | exact mono_app h | cases h
 case cpy =>
  split at h
  ·unfold cpyA at h
   split at h
   ·cases h
   ·split at h
    ·cases h; exact Nat.le_refl _
    ·split at h
     ·cases h; exact Nat.le_refl _
     ·split at h
      ·split at h
       ·rename_i hw
        cases h
        exact Nat.le_of_eq (mono_write hw).symm
       ·cases h
      ·cases h
    ·cases h
  ·cases h
 case call => split at h <;> first | exact hcall _ _ _ _ _ h | cases h
 case callv =>
  split at h
  ·split at h <;> first | exact hcall _ _ _ _ _ h | cases h
  ·split at h
   ·split at h <;> first | exact hcall _ _ _ _ _ h | cases h
   ·cases h
  ·cases h
 case invk2 =>
  split at h
  ·split at h
   ·split at h <;> first | exact hcall _ _ _ _ _ h | cases h
   ·split at h
    ·split at h
     ·split at h <;> first | exact hcall _ _ _ _ _ h | cases h
     ·cases h
    ·cases h
   ·cases h
  ·cases h
 case invk =>
  split at h
  ·split at h
   ·split at h <;> first | exact hcall _ _ _ _ _ h | cases h
   ·cases h
  ·cases h
 case store =>
  split at h
  ·split at h
   ·split at h
    ·split at h
     ·rename_i hw
      cases h
      exact Nat.le_of_eq (mono_write hw).symm
     ·cases h
    ·cases h
   ·cases h
  ·cases h
 all_goals (repeat' (first | (cases h; first | exact Nat.le_refl _ | exact Nat.le_succ _) | split at h | cases h))
theorem upon_res {next : Act → World → Prop} {Q : Exit → Act → World → Prop} (h : OpRes P B φ H w a o v H') (hn : ∀ x w' φ', Step B φ H w φ' H' w' → VRel φ' v x → next (a.put o.dst x) w') : o.wp P a w next Q := by
 obtain ⟨x, w', φ', hs, hv, hr | ⟨hr, rfl⟩⟩ := h
 ·unfold Oper.wp
  rw [hr]
  exact hn x w' φ' hs hv
 ·unfold Oper.wp
  rw [hr]
  exact hn undef w' φ' hs hv
theorem call_wp {next : Act → World → Prop} {Q : Exit → Act → World → Prop} (hcall : CallsOk P B call) (hr : HRel B φ H w) (hφ : ∀ b, H.next ≤ b → b < H'.next → φ b = none) {f : Nat} {vs : List AV} {args : Array Value}
 (he : call f vs H = some (v, H')) (hl : vs.length = args.size) (ha : ∀ (i : Nat) (c : AV) (y : Value), vs[i]? = some c → args[i]? = some y → VRel φ c y)
 (hrun : (execOp a.eval o).run P w = (callFunc f args).run P w) (hn : ∀ x w' φ', Step B φ H w φ' H' w' → VRel φ' v x → next (a.put o.dst x) w') : o.wp P a w next Q := by
 obtain ⟨h1, h2⟩ := hcall f vs H v H' φ w args he hr hφ hl ha
 unfold Oper.wp
 rw [hrun, h1]
 refine h2.mono ?_
 rintro e w' ⟨x, φ', rfl, hs, hv⟩
 exact hn x w' φ' hs hv
theorem fn_inv {f : Nat} {cs : List AV} {x : Value} (h : VRel φ (.fn f cs) x) : ∃ vs : Array Value, x = .func (.func f) #[] vs ∧ cs.length = vs.size ∧ ∀ (i : Nat) (c : AV) (y : Value), cs[i]? = some c → vs[i]? = some y → VRel φ c y := by
 cases h with
 | fn h1 h2 => exact ⟨_, rfl, h1, h2⟩
theorem ifc_inv {t : Nat} {c : AV} {x : Value} (h : VRel φ (.ifc t c) x) (ht : t < MAPT) : ∃ y, x = .iface t y ∧ VRel φ c y := ifc_inv' h ht
theorem bnd_inv {t : Nat} {c : AV} {x : Value} (h : VRel φ (.ifc t c) x) (ht : BNDT ≤ t) : ∃ y, x = .func (.func (t - BNDT)) #[y] #[] ∧ VRel φ c y := by
 cases h with
 | ifc h hl => exact absurd hl (by unfold MAPT BNDT at *; omega)
 | mp => exact absurd ht (by unfold MAPT BNDT; omega)
 | bnd h => exact ⟨_, by rw [Nat.add_sub_cancel_left], h⟩
 | mv => exact absurd ht (by unfold MVT BNDT; omega)
theorem mv_inv {s : ByteArray} {c : AV} {x : Value} (h : VRel φ (.ifc MVT (.tup [.v (.string s), c])) x) : ∃ nm y, s = nm.toUTF8 ∧ x = .func (.method nm) #[y] #[] ∧ VRel φ c y := by
 generalize hm : AV.ifc MVT (.tup [.v (.string s), c]) = m at h
 cases h with
 | ifc _ ht => injection hm with h1 _; rw [← h1] at ht; exact absurd ht (by unfold MVT MAPT; omega)
 | mp => injection hm with h1 _; unfold MAPT MVT at h1; omega
 | bnd => injection hm with h1 _; unfold MVT BNDT at h1; omega
 | mv h =>
   injection hm with _ h2
   injection h2 with h3
   injection h3 with h4 h5
   injection h4 with h6
   injection h6 with h7
   injection h5 with h8 _
   subst h7 h8
   exact ⟨_, _, rfl, rfl, h⟩
 | _ => injection hm
theorem info_run {t : TypeId} {i : TypeInfo} (h : P.info? t = some i) : (typeInfo t).run P w = .ok i w := by
 unfold typeInfo; simp [h]
theorem meth_run {name : String} {t f : Nat} {v : Value} (h : methAt P name t = some (t, f)) (k : Nat) : (method (k + 1) t v name).run P w = .ok (f, v) w := by
 unfold methAt at h
 split at h
 ·rename_i e i hu hi
  split at h
  ·rename_i m hm
   split at h
   ·rename_i f' hf
    split at h
    ·rename_i hp
     cases h
     have hpe : m.path.toList = [] := by simpa using hp
     simp [method, info_run hi, hm, hpe, follow, hf, receiverAt, run_underlying hu, Place.get]
    ·cases h
   ·cases h
  ·cases h
 ·cases h
theorem methAt_own {name : String} {s t f : Nat} (h : methAt P name s = some (t, f)) : s = t := by
 unfold methAt at h
 split at h
 ·split at h
  ·split at h
   ·split at h
    ·cases h; rfl
    ·cases h
   ·cases h
  ·cases h
 ·cases h
theorem tab_lookup {name : String} {t f : Nat} : ∀ l : List Nat, (l.filterMap (methAt P name)).lookup t = some f → methAt P name t = some (t, f)
 | [], h => by cases h
 | s :: l, h => by
   cases e : methAt P name s with
   | none => rw [List.filterMap_cons_none e] at h; exact tab_lookup l h
   | some p =>
     obtain ⟨u, g⟩ := p
     obtain rfl := methAt_own e
     rw [List.filterMap_cons_some e, List.lookup_cons] at h
     by_cases c : (t == s) = true
     ·rw [c] at h
      cases h
      obtain rfl : t = s := by simpa using c
      exact e
     ·rw [show (t == s) = false by simpa using c] at h
      exact tab_lookup l h
theorem lookup_lt {β : Type} {M t : Nat} {f : β} : ∀ {l : List (Nat × β)}, (l.all fun p => decide (p.1 < M)) = true → l.lookup t = some f → t < M
 | [], _, h => by cases h
 | p :: l, ha, h => by
   rw [List.all_cons, Bool.and_eq_true] at ha
   rw [List.lookup_cons] at h
   by_cases c : (t == p.1) = true
   ·have : t = p.1 := by simpa using c
    rw [this]; exact of_decide_eq_true ha.1
   ·rw [show (t == p.1) = false by simpa using c] at h
    exact lookup_lt ha.2 h
theorem methAt2_own {name : String} {s t f : Nat} {how : Option Nat} (h : methAt2 P name s = some (t, f, how)) : s = t := by
 unfold methAt2 at h
 split at h
 ·split at h
  ·split at h
   ·split at h
    ·cases h; rfl
    ·cases h
   ·split at h
    ·cases h; rfl
    ·cases h
   ·split at h
    ·cases h; rfl
    ·cases h
   ·cases h
  ·cases h
 ·cases h
theorem tab2_lookup {name : String} {t f : Nat} {how : Option Nat} : ∀ l : List Nat, (l.filterMap (methAt2 P name)).lookup t = some (f, how) → methAt2 P name t = some (t, f, how)
 | [], h => by cases h
 | s :: l, h => by
   cases e : methAt2 P name s with
   | none => rw [List.filterMap_cons_none e] at h; exact tab2_lookup l h
   | some p =>
     obtain ⟨u, g⟩ := p
     obtain rfl := methAt2_own e
     rw [List.filterMap_cons_some e, List.lookup_cons] at h
     by_cases c : (t == s) = true
     ·rw [c] at h
      cases h
      obtain rfl : t = s := by simpa using c
      exact e
     ·rw [show (t == s) = false by simpa using c] at h
      exact tab2_lookup l h
theorem isPtr_some {t : Nat} (h : isPtr P t = true) : ∃ e, P.underlying t = some (.pointer e) := by
 unfold isPtr at h
 split at h
 ·exact ⟨_, ‹_›⟩
 ·cases h
theorem meth2_run {name : String} {t f : Nat} {v : Value} (h : methAt2 P name t = some (t, f, none)) (k : Nat) : (method (k + 1) t v name).run P w = .ok (f, v) w := by
 unfold methAt2 at h
 split at h
 ·rename_i d i hu hi
  split at h
  ·rename_i m hm
   split at h
   ·rename_i f' hf hp
    split at h
    ·rename_i hpt
     cases h
     obtain ⟨e, he⟩ := isPtr_some hpt
     simp [method, info_run hi, hm, hp, follow, hf, receiverAt, run_underlying he, Place.get]
    ·cases h
   ·rename_i f' hf hp
    split at h
    ·cases h
     simp [method, info_run hi, hm, hp, follow, hf, receiverAt, run_underlying hu, Place.get]
    ·cases h
   ·split at h <;> cases h
   ·cases h
  ·cases h
 ·cases h
theorem meth2_off {name : String} {t f off : Nat} {vs : Array Value} {r : Value} (h : methAt2 P name t = some (t, f, some off)) (hr : vs[off]? = some r) (k : Nat) : (method (k + 1) t (.agg vs) name).run P w = .ok (f, r) w := by
 unfold methAt2 at h
 split at h
 ·rename_i d i hu hi
  split at h
  ·rename_i m hm
   split at h
   ·split at h <;> cases h
   ·split at h <;> cases h
   ·rename_i f' s hf hp
    split at h
    ·rename_i off' hs
     cases h
     unfold stepAt at hs
     split at hs
     ·rename_i fs hd hst
      split at hs
      ·rename_i fd hfd
       split at hs
       ·rename_i hpt
        cases hs
        obtain ⟨e, he⟩ := isPtr_some hpt
        simp [method, info_run hi, hm, hp, follow, hf, receiverAt, run_underlying hst, hfd, hd, part, isAgg, run_underlying he, hr, Place.get]
       ·cases hs
      ·cases hs
     ·cases hs
    ·cases h
   ·cases h
  ·cases h
 ·cases h
theorem fine_run {name : String} {t : Nat} {v : Value} (h : fineAt P name t = true) (k : Nat) : (nilAhead (k + 1) t v name).run P w = .ok (some false) w := by
 unfold fineAt at h
 split at h
 ·rename_i fs i hu hi
  split at h
  ·rename_i m hm
   split at h
   ·rename_i f' hf hp
    simp [nilAhead, info_run hi, hm, hp, followBlind, hf, run_underlying hu]
   ·cases h
  ·cases h
 ·cases h
theorem nilm_sound (hr : HRel B φ H w) (hf : FRel φ fr a.tmps) {d : Nat} {nm : String} (ho : o.op = .nilCheck (.tmp d)) (hl : (fineTab P nm).all (fun t => decide (t < MAPT)) = true)
 (he : evOp call (.nilm nm (fineTab P nm) (.t d)) fr H = some (v, H')) : OpRes P B φ H w a o v H' := by
 simp only [evOp] at he
 split at he
 ·rename_i t s u c hev
  split at he
  ·rename_i hc
   obtain ⟨rfl, rfl, hu⟩ := hc
   cases he
   have h := ev_sound hf (x := .tmp d) rfl hev
   obtain ⟨nm', y, e1, e2, e3⟩ := mv_inv h
   obtain rfl := String.toByteArray_inj.mp e1
   have hut : u < MAPT := of_decide_eq_true (List.all_eq_true.1 hl u hu)
   obtain ⟨z, rfl, _⟩ := ifc_inv e3 hut
   have hfine := (List.mem_filter.1 hu).2
   refine OpRes.pure hr h ?_
   have hn := fine_run (w := w) (v := z) hfine (P.types.size + 99)
   simp [execOp, ho, e2, Made.depth, hn]
  ·cases he
 ·cases he
theorem call_sound {next : Act → World → Prop} {Q : Exit → Act → World → Prop} (hcall : CallsOk P B call) (hr : HRel B φ H w) (hf : FRel φ fr a.tmps) (hφ : ∀ b, H.next ≤ b → b < H'.next → φ b = none)
 {c : Call} (ho : o.op = .call c) {xs : List AX} (hxs : cXs c.args.toList = some xs) (hco : cCall P c xs = some ao) (he : evOp call ao fr H = some (v, H'))
 (hn : ∀ x w' φ', Step B φ H w φ' H' w' → VRel φ' v x → next (a.put o.dst x) w') : o.wp P a w next Q := by
 have one : ∀ ax, xs = [ax] → ∃ x, c.args = #[x] ∧ cX x = some ax := by
  intro ax hax
  subst hax
  have hlen := cXs_len hxs
  match hq : c.args.toList, hlen with
  | [x], _ =>
    rw [hq] at hxs
    obtain ⟨ax', r, h1, h2, h3⟩ := cXs_one hxs
    cases h3
    exact ⟨x, Array.toList_inj.1 (by simpa using hq), h1⟩
 have two : ∀ ax ay, xs = [ax, ay] → ∃ x y, c.args = #[x, y] ∧ cX x = some ax ∧ cX y = some ay := by
  intro ax ay hax
  subst hax
  have hlen := cXs_len hxs
  match hq : c.args.toList, hlen with
  | [x, y], _ =>
    rw [hq] at hxs
    obtain ⟨ax', r, h1, h2, h3⟩ := cXs_one hxs
    cases h3
    obtain ⟨ay', r, h4, h5, h6⟩ := cXs_one h2
    cases h6
    exact ⟨x, y, Array.toList_inj.1 (by simpa using hq), h1, h4⟩
 unfold cCall at hco
 split at hco
 ·-- a function
  rename_i f hcal
  cases hco
  simp only [evOp] at he
  split at he
  ·rename_i vs hvs
   obtain ⟨k1, k2⟩ := evXs_sound hf hxs hvs
   refine call_wp hcall hr hφ he (args := c.args.map a.eval) (by simpa using k1) (fun i c y h1 h2 => k2 i c y h1 (by simpa using h2)) ?_ hn
   have hef : a.eval (.func f) = .func (.func f) #[] #[] := rfl
   simp [execOp, ho, resolve, hcal, Deferred.ofValue, hef, invoke]
  ·cases he
 ·-- a value
  rename_i fx _ hcal
  simp only [Option.bind_eq_bind, Option.bind_eq_some_iff] at hco
  obtain ⟨ax, hx, hco⟩ := hco
  cases hco
  simp only [evOp] at he
  split at he
  ·rename_i f caps hev
   split at he
   ·rename_i vs hvs
    obtain ⟨k1, k2⟩ := evXs_sound hf hxs hvs
    obtain ⟨cv, e1, e2, e3⟩ := fn_inv (ev_sound hf hx hev)
    refine call_wp hcall hr hφ he (args := c.args.map a.eval ++ cv) (by simp [e2]; simpa using k1) (fun i c' y h1 h2 => ?_) ?_ hn
    ·have hk1 : vs.length = (c.args.map a.eval).size := by simpa using k1
     by_cases hi : i < vs.length
     ·rw [List.getElem?_append_left hi] at h1
      rw [Array.getElem?_append_left (by omega)] at h2
      exact k2 i c' y h1 (by simpa using h2)
     ·rw [List.getElem?_append_right (by omega)] at h1
      rw [Array.getElem?_append_right (by omega), ← hk1] at h2
      exact e3 _ c' y h1 h2
    ·simp [execOp, ho, resolve, hcal, Deferred.ofValue, e1, invoke]
   ·cases he
  ·rename_i t cc hev
   split at he
   ·rename_i hbt
    split at he
    ·rename_i vs hvs
     obtain ⟨k1, k2⟩ := evXs_sound hf hxs hvs
     obtain ⟨y, e1, e2⟩ := bnd_inv (ev_sound hf hx hev) hbt
     refine call_wp hcall hr hφ he (args := #[y] ++ c.args.map a.eval) (by have h5 : vs.length = c.args.size := (by simpa using k1); simp [h5]; omega) (fun i c' z h1 h2 => ?_) ?_ hn
     ·cases i with
      | zero =>
        rw [Array.getElem?_append_left (by simp)] at h2
        cases h1
        cases h2
        exact e2
      | succ i =>
        refine k2 i c' z (by simpa using h1) ?_
        rw [Array.getElem?_append_right (by simp)] at h2
        simpa using h2
     ·simp [execOp, ho, resolve, hcal, Deferred.ofValue, e1, invoke]
    ·cases he
   ·cases he
  ·cases he
 ·-- len
  rename_i hcal
  split at hco
  ·rename_i ax
   obtain ⟨x, hargs, hx⟩ := one _ rfl
   simp only [Option.bind_eq_bind, Option.bind_eq_some_iff] at hco
   obtain ⟨t, ht, d, hd, hco⟩ := hco
   have fin : ∀ (s : Bool) (n : Nat) (q : AV), evX fr ax = some q → v = .v (.int .i64 n) → H' = H → ((s = true ∧ d = .string) ∨ (s = false ∧ ∃ e, d = .slice e)) →
    ((s = false ∧ ((∃ b off cap ex, q = .sl b off n cap ex) ∨ (q = .v (.slice none 0 0) ∧ n = 0))) ∨ (s = true ∧ ∃ str, q = .v (.string str) ∧ n = str.size)) → o.wp P a w next Q := by
    intro s n q hev hv hH hk hq
    subst hv hH
    have := len_run (P := P) (ty := o.type) ht hd hk (ev_sound hf hx hev) hq w
    refine upon_res (OpRes.pure hr (x := .int .i64 n) (.v rfl) ?_) hn
    simp [execOp, ho, resolve, hcal, invoke, builtin, hargs, this]
   split at hco
   ·simp only [Option.some.injEq] at hco
    subst hco
    simp only [evOp] at he
    split at he
    ·rename_i hev
     cases he
     exact fin false _ _ hev rfl rfl (.inr ⟨rfl, _, rfl⟩) (.inl ⟨rfl, .inl ⟨_, _, _, _, rfl⟩⟩)
    ·rename_i hev
     cases he
     exact fin false 0 _ hev rfl rfl (.inr ⟨rfl, _, rfl⟩) (.inl ⟨rfl, .inr ⟨rfl, rfl⟩⟩)
    ·rename_i hb _; cases hb
    ·cases he
   ·simp only [Option.some.injEq] at hco
    subst hco
    simp only [evOp] at he
    split at he
    ·rename_i hb _; cases hb
    ·rename_i hb _; cases hb
    ·rename_i hev
     cases he
     exact fin true _ _ hev rfl rfl (.inl ⟨rfl, rfl⟩) (.inr ⟨rfl, _, rfl, rfl⟩)
    ·cases he
   ·cases hco
  ·cases hco
 ·-- cap
  rename_i hcal
  split at hco
  ·rename_i ax
   obtain ⟨x, hargs, hx⟩ := one _ rfl
   simp only [Option.bind_eq_bind, Option.bind_eq_some_iff] at hco
   obtain ⟨t, ht, d, hd, hco⟩ := hco
   split at hco
   ·cases hco
    simp only [evOp] at he
    split at he
    ·rename_i hev
     cases he
     have := cap_run (P := P) (ty := o.type) ht hd (ev_sound hf hx hev) (.inr ⟨rfl, rfl⟩) w
     refine upon_res (OpRes.pure hr (x := .int .i64 (0 : Nat)) (.v rfl) ?_) hn
     simp only [execOp, ho, resolve, hcal, invoke, builtin, hargs]
     simp [this]
    ·rename_i hev
     cases he
     have := cap_run (P := P) (ty := o.type) ht hd (ev_sound hf hx hev) (.inl ⟨_, _, _, rfl⟩) w
     refine upon_res (OpRes.pure hr (x := .int .i64 _) (.v rfl) ?_) hn
     simp [execOp, ho, resolve, hcal, invoke, builtin, hargs, this]
    ·cases he
   ·cases hco
  ·cases hco
 ·-- copy
  rename_i hcal
  split at hco
  ·rename_i ax ay
   obtain ⟨x, y, hargs, hx, hy⟩ := two _ _ rfl
   simp only [Option.bind_eq_bind, Option.bind_eq_some_iff] at hco
   obtain ⟨t, ht, d, hd, hco⟩ := hco
   split at hco
   ·simp only [Option.bind_eq_some_iff] at hco
    obtain ⟨es, hs, hco⟩ := hco
    cases hco
    simp only [evOp] at he
    split at he
    ·rename_i p q hev hev2
     obtain ⟨r, w', k1, k2, k3⟩ := copy_sound (P := P) (ts := c.argTypes) (ty := o.type) hr ht hd hs (ev_sound hf hx hev) (ev_sound hf hy hev2) he
     refine upon_res ⟨r, w', φ, k1, k2, .inl ?_⟩ hn
     simp [execOp, ho, resolve, hcal, invoke, builtin, hargs, k3]
    ·cases he
   ·cases hco
  ·cases hco
 ·-- min
  rename_i hcal
  split at hco
  ·rename_i ax ay
   obtain ⟨x, y, hargs, hx, hy⟩ := two _ _ rfl
   cases hco
   simp only [evOp] at he
   split at he
   ·rename_i k p k' q hev hev2
    cases he
    have ex := (v_inv (ev_sound hf hx hev)).1
    have ey := (v_inv (ev_sound hf hy hev2)).1
    refine upon_res (OpRes.pure hr (x := .int k (if q < p then q else p)) (.v rfl) ?_) hn
    simp [execOp, ho, resolve, hcal, invoke, builtin, hargs, ex, ey, Builtin.min_, Builtin.min2]
   ·cases he
  ·cases hco
 ·-- max
  rename_i hcal
  split at hco
  ·rename_i ax ay
   obtain ⟨x, y, hargs, hx, hy⟩ := two _ _ rfl
   cases hco
   simp only [evOp] at he
   split at he
   ·rename_i k p k' q hev hev2
    cases he
    have ex := (v_inv (ev_sound hf hx hev)).1
    have ey := (v_inv (ev_sound hf hy hev2)).1
    refine upon_res (OpRes.pure hr (x := .int k (if q > p then q else p)) (.v rfl) ?_) hn
    simp [execOp, ho, resolve, hcal, invoke, builtin, hargs, ex, ey, Builtin.max_, Builtin.max2]
   ·cases he
  ·cases hco
 ·-- append
  rename_i hcal
  split at hco
  ·rename_i ax ay
   obtain ⟨x, y, hargs, hx, hy⟩ := two _ _ rfl
   simp only [Option.bind_eq_bind, Option.bind_eq_some_iff] at hco
   obtain ⟨t, ht, u, hu, du, hdu, d, hd, hco⟩ := hco
   split at hco
   ·rename_i e hk
    simp only [Option.bind_eq_some_iff] at hco
    obtain ⟨z, hz, i, hi, hco⟩ := hco
    split at hco
    ·rename_i hcond
     cases hco
     obtain ⟨i', uz, hi', huz, rfl, hp, hzr⟩ := zero_run hz
     rw [hi] at hi'; cases hi'
     simp only [evOp] at he
     split at he
     ·rename_i p q hev hev2
      obtain ⟨r, w', φ', k1, k2, k3⟩ := app_sound (P := P) (ts := c.argTypes) (ty := o.type) hr hφ ht hu hd hdu hk hi huz hp (by simpa using hcond.1) hcond.2.1 hcond.2.2 (ev_sound hf hx hev) (ev_sound hf hy hev2) he
      refine upon_res ⟨r, w', φ', k1, k2, .inl ?_⟩ hn
      simp [execOp, ho, resolve, hcal, invoke, builtin, hargs, k3]
     ·cases he
    ·cases hco
   ·rename_i e hk hk2
    simp only [Option.bind_eq_some_iff] at hco
    obtain ⟨z, hz, i, hi, hco⟩ := hco
    split at hco
    ·rename_i hcond
     cases hco
     obtain ⟨i', uz, hi', huz, rfl, hp, hzr⟩ := zero_run hz
     rw [hi] at hi'; cases hi'
     simp only [evOp] at he
     split at he
     ·rename_i n hev hev2
      split at he
      ·rename_i hcn
       cases he
       have ex := (v_inv (ev_sound hf hx hev)).1
       have ey := (v_inv (ev_sound hf hy hev2)).1
       obtain ⟨r, w', φ', k1, k2, k3⟩ := appz_sound (P := P) (ts := c.argTypes) (ty := o.type) hr (hφ _ (Nat.le_refl _) (Nat.lt_succ_self _)) ht hu hd hdu hk2 hi huz hp (by simpa using hcond.1) hcond.2.1 hcond.2.2 (k := .i64) hcn.1 hcn.2
       refine upon_res ⟨r, w', φ', k1, k2, .inl ?_⟩ hn
       simp [execOp, ho, resolve, hcal, invoke, builtin, hargs, ex, ey, k3]
      ·cases he
     ·cases he
    ·cases hco
   ·cases hco
  ·cases hco
 ·-- a method of what an interface holds
  rename_i rx name hcal
  simp only [Option.bind_eq_bind, Option.bind_eq_some_iff] at hco
  obtain ⟨ax, hx, hco⟩ := hco
  have fin : ∀ (t f : Nat) (y r : Value) (b : AV) (vs : List AV), a.eval rx = .iface t y → (∀ w' : World, (method (P.types.size + 99 + 1) t y name).run P w' = .ok (f, r) w') → VRel φ b r → evXs fr xs = some vs → call f (b :: vs) H = some (v, H') → o.wp P a w next Q := by
   intro t f y r b vs e1 hm e2 hvs he
   obtain ⟨k1, k2⟩ := evXs_sound hf hxs hvs
   refine call_wp hcall hr hφ he (args := #[r] ++ c.args.map a.eval) (by have h5 : vs.length = c.args.size := (by simpa using k1); simp [h5]; omega) (fun i c' z h1 h2 => ?_) ?_ hn
   ·cases i with
    | zero =>
      rw [Array.getElem?_append_left (by simp)] at h2
      cases h1
      cases h2
      exact e2
    | succ i =>
      refine k2 i c' z (by simpa using h1) ?_
      rw [Array.getElem?_append_right (by simp)] at h2
      simpa using h2
   ·have h0 : (#[Value.iface t y] ++ Array.map a.eval c.args)[0]? = some (.iface t y) := by rw [Array.getElem?_append_left (by simp)]; rfl
    have h1 : (#[Value.iface t y] ++ Array.map a.eval c.args).extract 1 (#[Value.iface t y] ++ Array.map a.eval c.args).size = c.args.map a.eval := by simp
    have h2 : (Array.map a.eval c.args).extract 0 c.args.size = c.args.map a.eval := by simp
    simp [execOp, ho, resolve, hcal, invoke, callMethod, e1, Made.depth, hm, h0, h2]
  split at hco
  rotate_left
  ·split at hco
   ·rename_i hmt
    cases hco
    simp only [evOp] at he
    split at he
    ·rename_i t cc hev
     split at he
     ·rename_i f hlk
      split at he
      ·rename_i vs hvs
       obtain ⟨y, e1, e2⟩ := ifc_inv (ev_sound hf hx hev) (lookup_lt hmt hlk)
       exact fin t f y y cc vs e1 (fun w' => meth2_run (tab2_lookup _ hlk) _) e2 hvs he
      ·cases he
     ·rename_i f off hlk
      obtain ⟨y, e1, e2⟩ := ifc_inv (ev_sound hf hx hev) (lookup_lt hmt hlk)
      split at he
      ·rename_i cs
       split at he
       ·rename_i r hcr
        split at he
        ·rename_i vs hvs
         cases e2 with
         | agg q1 q2 q3 =>
           rename_i ys
           have hlt : off < cs.length := (List.getElem?_eq_some_iff.1 hcr).1
           have hy : ys[off]? = some ys[off] := by simp [q1 ▸ hlt]
           exact fin t f _ _ r vs e1 (fun w' => meth2_off (tab2_lookup _ hlk) hy _) (q2 off r _ hcr hy) hvs he
        ·cases he
       ·cases he
      ·cases he
     ·cases he
    ·cases he
   ·cases hco
  split at hco
  rotate_left
  ·cases hco
  rename_i hmt
  cases hco
  simp only [evOp] at he
  split at he
  ·rename_i t cc hev
   split at he
   ·rename_i f hlk
    split at he
    ·rename_i vs hvs
     obtain ⟨k1, k2⟩ := evXs_sound hf hxs hvs
     obtain ⟨y, e1, e2⟩ := ifc_inv (ev_sound hf hx hev) (lookup_lt hmt hlk)
     have hm := fun w' => meth_run (w := w') (v := y) (tab_lookup _ hlk) (P.types.size + 99)
     refine call_wp hcall hr hφ he (args := #[y] ++ c.args.map a.eval) (by have h5 : vs.length = c.args.size := (by simpa using k1); simp [h5]; omega) (fun i c' z h1 h2 => ?_) ?_ hn
     ·cases i with
      | zero =>
        rw [Array.getElem?_append_left (by simp)] at h2
        cases h1
        cases h2
        exact e2
      | succ i =>
        refine k2 i c' z (by simpa using h1) ?_
        rw [Array.getElem?_append_right (by simp)] at h2
        simpa using h2
     ·have h0 : (#[Value.iface t y] ++ Array.map a.eval c.args)[0]? = some (.iface t y) := by rw [Array.getElem?_append_left (by simp)]; rfl
      have h1 : (#[Value.iface t y] ++ Array.map a.eval c.args).extract 1 (#[Value.iface t y] ++ Array.map a.eval c.args).size = c.args.map a.eval := by simp
      have h2 : (Array.map a.eval c.args).extract 0 c.args.size = c.args.map a.eval := by simp
      simp [execOp, ho, resolve, hcal, invoke, callMethod, e1, Made.depth, hm, h0, h2]
    ·cases he
   ·cases he
  ·cases he
 ·cases hco
theorem oper_wp {next : Act → World → Prop} {Q : Exit → Act → World → Prop} (hcall : CallsOk P B call) (hr : HRel B φ H w) (hf : FRel φ fr a.tmps) (hφ : ∀ b, H.next ≤ b → b < H'.next → φ b = none)
 {ops : Array Oper} (hc : (cOpM P ops o).getD .bad = ao) (he : evOp call ao fr H = some (v, H')) (hn : ∀ x w' φ', Step B φ H w φ' H' w' → VRel φ' v x → next (a.put o.dst x) w') : o.wp P a w next Q := by
 have hM : cOpM P ops o = cOp P o ∨ ∃ d nm, o.op = .nilCheck (.tmp d) ∧ (fineTab P nm).all (fun t => decide (t < MAPT)) = true ∧ cOpM P ops o = some (.nilm nm (fineTab P nm) (.t d)) ∨ cOpM P ops o = none := by
  unfold cOpM
  split
  ·rename_i d ho
   split
   ·rename_i nm _
    split
    ·rename_i hl; exact .inr ⟨d, nm, .inl ⟨ho, hl, rfl⟩⟩
    ·exact .inr ⟨d, nm, .inr rfl⟩
   ·exact .inl rfl
  ·exact .inl rfl
 rcases hM with hM | ⟨d, nm, ⟨ho, hl, hM⟩ | hM⟩
 rotate_left
 ·rw [hM] at hc; cases hc; exact upon_res (nilm_sound hr hf ho hl he) hn
 ·rw [hM] at hc; cases hc; simp [evOp] at he
 rw [hM] at hc
 cases hco : cOp P o with
 | none =>
   rw [hco] at hc
   simp only [Option.getD_none] at hc
   subst hc
   simp [evOp] at he
 | some ao' =>
   rw [hco] at hc
   simp only [Option.getD_some] at hc
   subst hc
   cases ho : o.op with
   | move x => exact upon_res (move_sound hr hf (.inl ho) hco he) hn
   | assign x => exact upon_res (move_sound hr hf (.inr ho) hco he) hn
   | pick c x y => exact upon_res (pick_sound hr hf ho hco he) hn
   | alloc t => exact upon_res (alloc_sound hr hφ ho hco he) hn
   | box t x => exact upon_res (box_sound hr hf hφ ho hco he) hn
   | build t ps => exact upon_res (build_sound hr hf ho hco he) hn
   | buildSlice t n ps => exact upon_res (bslice_sound hr hf hφ ho hco he) hn
   | load t x => exact upon_res (load_sound hr hf ho hco he) hn
   | store t x y => exact upon_res (store_sound hr hf ho hco he) hn
   | nilCheck x => exact upon_res (nilc_sound hr hf ho hco he) hn
   | binOp u t x y t' => exact upon_res (bin_sound hr hf ho hco he) hn
   | unOp u t x => exact upon_res (un_sound hr hf ho hco he) hn
   | convert s t x => exact upon_res (conv_sound hr hf hφ ho hco he) hn
   | makeSlice t x y => exact upon_res (mkslice_sound hr hf hφ ho hco he) hn
   | slice t x lo hi mx => exact upon_res (slice_sound hr hf ho hco he) hn
   | fieldAddr t x i => exact upon_res (faddr_sound hr hf ho hco he) hn
   | field t x i => exact upon_res (field_sound hr hf ho hco he) hn
   | indexAddr t x y => exact upon_res (iaddr_sound hr hf ho hco he) hn
   | index t x y => exact upon_res (sidx_sound hr hf ho hco he) hn
   | extract x i => exact upon_res (ext_sound hr hf ho hco he) hn
   | makeFunc fn first caps =>
     cases fn with
     | func f =>
       simp only [cOp, ho] at hco
       split at hco
       ·rename_i hfirst
        simp only [Option.bind_eq_bind, Option.bind_eq_some_iff] at hco
        obtain ⟨l, hl, hco⟩ := hco
        cases hco
        simp only [evOp] at he
        split at he
        ·rename_i vs hvs
         cases he
         obtain ⟨k1, k2⟩ := evXs_sound hf hl hvs
         have hfe : first = #[] := by simpa using hfirst
         subst hfe
         refine upon_res (OpRes.pure hr (x := .func (.func f) #[] (caps.map a.eval)) (.fn (by simpa using k1) (fun i c y h1 h2 => k2 i c y h1 ?_)) ?_) hn
         ·simpa using h2
         ·simp [execOp, ho, Instr.makeFunc]
        ·cases he
       ·rename_i x hfirst hcaps
        cases hx : cX x with
        | none => rw [hx] at hco; cases hco
        | some ax =>
          rw [hx] at hco; cases hco
          simp only [evOp] at he
          split at he
          ·rename_i q hev
           cases he
           have hfe : first = #[x] := Array.toList_inj.1 (by simpa using hfirst)
           have hce : caps = #[] := by simpa using hcaps
           subst hfe hce
           refine upon_res (OpRes.pure hr (x := .func (.func f) #[a.eval x] #[]) (.bnd (ev_sound hf hx hev)) ?_) hn
           simp [execOp, ho, Instr.makeFunc]
          ·cases he
       ·cases hco
     | method nm =>
       simp only [cOp, ho] at hco
       split at hco
       ·rename_i x hfirst hcaps
        cases hx : cX x with
        | none => rw [hx] at hco; cases hco
        | some ax =>
          rw [hx] at hco; cases hco
          simp only [evOp] at he
          split at he
          ·rename_i q hev
           cases he
           have hfe : first = #[x] := Array.toList_inj.1 (by simpa using hfirst)
           have hce : caps = #[] := by simpa using hcaps
           subst hfe hce
           refine upon_res (OpRes.pure hr (x := .func (.method nm) #[a.eval x] #[]) (.mv (ev_sound hf hx hev)) ?_) hn
           simp [execOp, ho, Instr.makeFunc]
          ·cases he
       ·cases hco
     | _ => simp [cOp, ho] at hco
   | makeInterface t x =>
     simp only [cOp, ho, Option.bind_eq_bind, Option.bind_eq_some_iff] at hco
     obtain ⟨d, hd, hco⟩ := hco
     split at hco
     ·cases hco
     ·rename_i hni
      simp only [Option.bind_eq_some_iff] at hco
      obtain ⟨ax, hx, hco⟩ := hco
      split at hco
      rotate_left
      ·cases hco
      rename_i hmt
      cases hco
      simp only [evOp] at he
      split at he
      ·rename_i q hev
       cases he
       refine upon_res (OpRes.pure hr (x := .iface t (a.eval x)) (.ifc (ev_sound hf hx hev) hmt) ?_) hn
       cases d <;> first | exact absurd rfl (hni _) | simp [execOp, ho, Instr.makeInterface, run_underlying hd]
      ·cases he
   | typeAssert x xt t ok =>
     simp only [cOp, ho, Option.bind_eq_bind, Option.bind_eq_some_iff] at hco
     obtain ⟨d, hd, hco⟩ := hco
     split at hco
     ·cases hco
     ·rename_i hni
      simp only [Option.bind_eq_some_iff] at hco
      obtain ⟨ax, hx, hco⟩ := hco
      split at hco
      rotate_left
      ·cases hco
      rename_i hmt
      cases hco
      simp only [evOp] at he
      split at he
      ·rename_i u q hev
       split at he
       ·rename_i hut
        cases he
        obtain ⟨y, e1, e2⟩ := ifc_inv (ev_sound hf hx hev) (hut ▸ hmt)
        refine upon_res (OpRes.pure hr (x := y) e2 ?_) hn
        cases d <;> first | exact absurd rfl (hni _) | simp [execOp, ho, Instr.typeAssert, run_underlying hd, e1, hut]
       ·cases he
      ·cases he
     ·cases hco
   | call c =>
     simp only [cOp, ho, Option.bind_eq_bind, Option.bind_eq_some_iff] at hco
     obtain ⟨xs, hxs, hco⟩ := hco
     exact call_sound hcall hr hf hφ ho hxs hco he hn
   | makeMap t r =>
     cases r with
     | none => exact upon_res (mkmap_sound hr hφ ho hco he) hn
     | some r => simp [cOp, ho] at hco
   | lookup t x k ok =>
     cases ok with
     | false => exact upon_res (mlook_sound hr hf ho hco he) hn
     | true => simp [cOp, ho] at hco
   | mapEntry t x k => exact upon_res (ment_sound hr hf ho hco he) hn
   | mapUpdate t x k z => exact upon_res (mup_sound hr hf ho hco he) hn
   | entryStore t x y z => exact upon_res (mst_sound hr hf ho hco he) hn
   | _ => simp [cOp, ho] at hco
end
end Go.AM
namespace Go.AM
open Go.RowKit
section
variable {P : Program} {B : Nat} {φ : Phi} {H H' : Heap} {w : World} {fr fr' : T AV} {a : Act} {v : AV}
 {call : Nat → List AV → Heap → Option (AV × Heap)}
structure SRel (B N : Nat) (φ : Phi) (H : Heap) (fr : T AV) (a : Act) (w : World) : Prop where
 heap : HRel B φ H w
 frame : FRel φ fr a.tmps
 size : N ≤ a.tmps.size
 defers : a.defers = []
theorem SRel.put {N : Nat} (h : SRel B N φ H fr a w) {d : Option Nat} {x : Value} (hd : (d.all fun d => decide (d < N)) = true) (hv : VRel φ v x) : SRel B N φ H (putD fr d v) (a.put d x) w := by
 cases d with
 | none => exact h
 | some d =>
   have hlt : d < N := by simpa using hd
   have hs := h.size
   refine ⟨h.heap, ?_, by simp [Act.put]; exact h.size, h.defers⟩
   intro t u hu
   simp only [putD, T.get_set] at hu
   by_cases ht : t = d
   ·rw [if_pos ht] at hu
    cases hu
    subst ht
    refine ⟨x, ?_, hv⟩
    simp only [Act.put, Array.getElem?_setIfInBounds, if_true]
    rw [if_pos (by omega)]
   ·rw [if_neg ht] at hu
    obtain ⟨y, h1, h2⟩ := h.frame t u hu
    refine ⟨y, ?_, h2⟩
    simp only [Act.put, Array.getElem?_setIfInBounds]
    rw [if_neg (fun e => ht e.symm)]
    exact h1
theorem SRel.step {N : Nat} {φ' : Phi} {w' : World} (h : SRel B N φ H fr a w) (hs : Step B φ H w φ' H' w') : SRel B N φ' H' fr a w' :=
 ⟨hs.rel, h.frame.mono hs.le, h.size, h.defers⟩
def CallsMono (call : Nat → List AV → Heap → Option (AV × Heap)) : Prop := ∀ f vs H v H', call f vs H = some (v, H') → H.next ≤ H'.next
theorem mono_ops (hm : CallsMono call) : ∀ {l : List AOper} {fr : T AV} {H : Heap} {fr' : T AV} {H' : Heap}, evOps call l fr H = some (fr', H') → H.next ≤ H'.next
 | [], fr, H, fr', H', h => by simp only [evOps, Option.some.injEq, Prod.mk.injEq] at h; rw [h.2]; exact Nat.le_refl _
 | o :: l, fr, H, fr', H', h => by
   simp only [evOps] at h
   split at h
   ·split at h
    ·rename_i he
     exact Nat.le_trans (mono_op hm he) (mono_ops hm h)
    ·cases h
   ·split at h
    ·split at h
     ·split at h
      ·rename_i he
       exact Nat.le_trans (mono_op hm he) (mono_ops hm h)
      ·cases h
     ·exact mono_ops hm h
    ·exact mono_ops hm h
    ·cases h
theorem fresh_left {H1 : Heap} (hφ : ∀ b, H.next ≤ b → b < H'.next → φ b = none) (h : H1.next ≤ H'.next) : ∀ b, H.next ≤ b → b < H1.next → φ b = none :=
 fun b h1 h2 => hφ b h1 (Nat.lt_of_lt_of_le h2 h)
theorem fresh_right {H1 : Heap} {φ1 : Phi} {w1 : World} (hs : Step B φ H w φ1 H1 w1) (hφ : ∀ b, H.next ≤ b → b < H'.next → φ b = none) : ∀ b, H1.next ≤ b → b < H'.next → φ1 b = none := by
 intro b h1 h2
 cases hq : φ1 b with
 | none => rfl
 | some p =>
   rcases hs.dom b p hq with h | ⟨_, h⟩
   ·rw [hφ b (Nat.le_trans hs.next h1) h2] at h; cases h
   ·omega
theorem cOper_some {N : Nat} {ops : Array Oper} {o : Oper} {ao : AOper} (h : cOper P N ops o = some ao) : ao.dst = o.dst ∧ ao.op = (cOpM P ops o).getD .bad ∧ (o.dst.all fun d => decide (d < N)) = true ∧
 ((o.guard = none ∧ ao.guard = none) ∨ ∃ j w d, o.guard = some (j, w) ∧ (ops[j]?).bind (·.dst) = some d ∧ ao.guard = some (d, w)) := by
 unfold cOper at h
 cases hgd : o.guard with
 | none =>
   rw [hgd] at h
   simp only [Option.bind_eq_bind, Option.bind_some] at h
   split at h
   ·rename_i hd
    cases h
    exact ⟨rfl, rfl, hd, .inl ⟨rfl, rfl⟩⟩
   ·cases h
 | some jw =>
   obtain ⟨j, w⟩ := jw
   rw [hgd] at h
   simp only [Option.bind_eq_bind, Option.bind_some] at h
   cases hd' : (ops[j]?).bind (·.dst) with
   | none => rw [hd'] at h; simp at h
   | some d =>
     rw [hd'] at h
     simp only [Option.bind_some] at h
     split at h
     ·rename_i hd
      cases h
      exact ⟨rfl, rfl, hd, .inr ⟨j, w, d, rfl, hd', rfl⟩⟩
     ·cases h
theorem ops_wp {N : Nat} {ops : Array Oper} (hcall : CallsOk P B call) (hm : CallsMono call) {Q : Exit → Act → World → Prop} :
 ∀ (l : List AOper) (k : Nat) (φ : Phi) (H : Heap) (fr : T AV) (a : Act) (w : World), (∀ j, l[j]? = (ops[k + j]?).bind (cOper P N ops)) → k + l.length = ops.size → SRel B N φ H fr a w →
   (∀ b, H.next ≤ b → b < H'.next → φ b = none) → evOps call l fr H = some (fr', H') →
   (∀ φ' a' w', Step B φ H w φ' H' w' → SRel B N φ' H' fr' a' w' → Q .normal a' w') → wpOps P ops Q ((List.range ops.size).drop k) a w
 | [], k, φ, H, fr, a, w, hl, hk, hs, hφ, he, hq => by
   simp only [evOps, Option.some.injEq, Prod.mk.injEq] at he
   obtain ⟨rfl, rfl⟩ := he
   have : (List.range ops.size).drop k = [] := by simp at hk ⊢; omega
   rw [this]
   exact hq φ a w (.refl hs.heap) hs
 | ao :: l, k, φ, H, fr, a, w, hl, hk, hs, hφ, he, hq => by
   have hk' : k < ops.size := by simp at hk; omega
   have hdrop : (List.range ops.size).drop k = k :: (List.range ops.size).drop (k + 1) := by
    rw [List.drop_eq_getElem_cons (by simpa using hk')]
    simp
   have h0 := hl 0
   simp only [List.getElem?_cons_zero, Nat.add_zero] at h0
   obtain ⟨o, ho, hco⟩ := Option.bind_eq_some_iff.1 h0.symm
   obtain ⟨c1, c2, c3, c4⟩ := cOper_some hco
   have hrest : ∀ j, l[j]? = (ops[k + 1 + j]?).bind (cOper P N ops) := fun j => by
    have := hl (j + 1)
    rw [List.getElem?_cons_succ] at this
    rw [this]
    congr 2
    omega
   rw [hdrop]
   simp only [wpOps, ho]
   -- the operation is carried out
   have run : ∀ {u : AV} {H1 : Heap}, evOp call ao.op fr H = some (u, H1) → evOps call l (putD fr ao.dst u) H1 = some (fr', H') → Region.wanted o (yielded ops a.tmps) = true →
    (if Region.wanted o (yielded ops a.tmps) = true then o.wp P a w (wpOps P ops Q ((List.range ops.size).drop (k + 1))) Q ∨ (o.asks P a w ∧ LetsOut Q) else wpOps P ops Q ((List.range ops.size).drop (k + 1)) (a.put o.dst undef) w) := by
    intro u H1 h1 h2 hw
    rw [if_pos hw]
    refine .inl (oper_wp hcall hs.heap hs.frame (fresh_left hφ (mono_ops hm h2)) c2.symm h1 ?_)
    intro x w' φ' hst hv
    rw [c1] at h2
    refine ops_wp hcall hm l (k + 1) φ' H1 _ _ w' hrest (by simp at hk; omega) ((hs.step hst).put c3 hv) (fresh_right hst hφ) h2 ?_
    intro φ2 a2 w2 hst2 hs2
    exact hq φ2 a2 w2 (hst.trans hst2) hs2
   -- it is not
   have skip : evOps call l (putD fr ao.dst (.tup [])) H = some (fr', H') → Region.wanted o (yielded ops a.tmps) = false →
    (if Region.wanted o (yielded ops a.tmps) = true then o.wp P a w (wpOps P ops Q ((List.range ops.size).drop (k + 1))) Q ∨ (o.asks P a w ∧ LetsOut Q) else wpOps P ops Q ((List.range ops.size).drop (k + 1)) (a.put o.dst undef) w) := by
    intro h2 hw
    rw [hw, if_neg (by decide)]
    rw [c1] at h2
    exact ops_wp hcall hm l (k + 1) φ H _ _ w hrest (by simp at hk; omega) (hs.put c3 (.tup (by simp) (by simp))) hφ h2 hq
   simp only [evOps] at he
   rcases c4 with ⟨g1, g2⟩ | ⟨j, want, d, g1, g2, g3⟩
   ·rw [g2] at he
    simp only at he
    split at he
    ·rename_i h1
     exact run h1 he (by simp [Region.wanted, g1])
    ·cases he
   ·rw [g3] at he
    simp only at he
    split at he
    ·rename_i b hb
     obtain ⟨x, e1, e2⟩ := hs.frame d _ hb
     have ex := (v_inv e2).1
     subst ex
     have hy : yielded ops a.tmps j = some b := by simp only [yielded, g2, Option.bind_some, e1]
     split at he
     ·rename_i hbw
      split at he
      ·rename_i h1
       exact run h1 he (by simp [Region.wanted, g1, hy, hbw])
      ·cases he
     ·rename_i hbw
      exact skip he (by simp [Region.wanted, g1, hy, hbw])
    ·rename_i hb
     obtain ⟨x, e1, e2⟩ := hs.frame d _ hb
     have hy : yielded ops a.tmps j = none := by
      cases e2
      simp only [yielded, g2, Option.bind_some, e1]
     exact skip he (by simp [Region.wanted, g1, hy])
    ·cases he
end
end Go.AM
