/- The machine, and that it tells the truth of the program. No condition. -/
import Derived.Test.YtkohanehgndmhaaAM4
set_option linter.all false
namespace Go.AM
open Go.RowKit
section
variable {P : Program} {B : Nat} {φ : Phi} {H H' : Heap} {w : World} {fr : T AV} {a : Act} {o : Oper} {ao : AOp} {v : AV}
  {call : Nat → List AV → Heap → Option (AV × Heap)}

theorem sl_inv {b off len cap : Nat} {ex : Bool} {x : Value} (h : VRel φ (.sl b off len cap ex) x) : ∃ p ad c, φ b = some p ∧ x = .slice (some ad) len c ∧ len ≤ cap ∧ cap ≤ c ∧ (ex = true → c = cap) ∧
    off + c * p.es ≤ p.n ∧ (c = 0 ∨ ad = ⟨p.r, p.o + off, none⟩) := by
  cases h with
  | sl h h1 h2 h3 h4 h5 => exact ⟨_, _, _, h, rfl, h1, h2, h3, h4, h5⟩

theorem add_at (p : Pl) (off k : Nat) : (⟨p.r, p.o + off, none⟩ : Addr).add k = ⟨p.r, p.o + (off + k), none⟩ := by
  unfold Addr.add; split <;> simp_all [Nat.add_assoc]

theorem iaddr_sound (hr : HRel B φ H w) (hf : FRel φ fr a.tmps) {t : TypeId} {x y : Operand} (ho : o.op = .indexAddr t x y) (hc : cOp P o = some ao) (he : evOp call ao fr H = some (v, H')) :
    OpRes P B φ H w a o v H' := by
  simp only [cOp, ho, Option.bind_eq_bind, Option.bind_eq_some_iff] at hc
  obtain ⟨d, hd, hc⟩ := hc
  cases d with
  | slice e =>
    simp only [Option.bind_eq_some_iff] at hc
    obtain ⟨s, hs, ax, hx, ay, hy, hc⟩ := hc
    cases hc
    simp only [evOp] at he
    split at he
    · rename_i b off len cap ex k n hev hev2
      split at he
      · rename_i hin
        cases he
        obtain ⟨p, ad, c, hp, hx', h1, h2, _, _, h5⟩ := sl_inv (ev_sound hf hx hev)
        have hy' := (v_inv (ev_sound hf hy hev2)).1
        have had : ad = ⟨p.r, p.o + off, none⟩ := by
          rcases h5 with h5 | h5
          · omega
          · exact h5
        subst had
        refine OpRes.pure hr (x := .pointer (some ⟨p.r, p.o + (off + n.toNat * s), none⟩)) (.ptr hp) ?_
        simp [execOp, ho, hx', hy', Instr.indexAt, asIntOf, run_underlying hd, hin, size_run hs, add_at]
      · cases he
    · cases he
  | array m e =>
    simp only [Option.bind_eq_some_iff] at hc
    obtain ⟨s, hs, ax, hx, ay, hy, hc⟩ := hc
    cases hc
    simp only [evOp] at he
    split at he
    · rename_i b off k n hev hev2
      split at he
      · rename_i hin
        cases he
        obtain ⟨p, hp, hx'⟩ := ptr_inv (ev_sound hf hx hev)
        have hy' := (v_inv (ev_sound hf hy hev2)).1
        refine OpRes.pure hr (x := .pointer (some ⟨p.r, p.o + (off + n.toNat * s), none⟩)) (.ptr hp) ?_
        simp [execOp, ho, hx', hy', Instr.indexAt, Instr.sureAddr, asIntOf, run_underlying hd, hin, size_run hs, add_at]
      · cases he
    · cases he
  | _ => cases hc

theorem sidx_sound (hr : HRel B φ H w) (hf : FRel φ fr a.tmps) {t : TypeId} {x y : Operand} (ho : o.op = .index t x y) (hc : cOp P o = some ao) (he : evOp call ao fr H = some (v, H')) :
    OpRes P B φ H w a o v H' := by
  simp only [cOp, ho, Option.bind_eq_bind, Option.bind_eq_some_iff] at hc
  obtain ⟨d, hd, hc⟩ := hc
  cases d with
  | string =>
    simp only [Option.bind_eq_some_iff] at hc
    obtain ⟨ax, hx, ay, hy, hc⟩ := hc
    cases hc
    simp only [evOp] at he
    split at he
    · rename_i s k n hev hev2
      split at he
      · rename_i hn
        split at he
        · rename_i u hu
          cases he
          have hx' := (v_inv (ev_sound hf hx hev)).1
          have hy' := (v_inv (ev_sound hf hy hev2)).1
          refine OpRes.pure hr (x := .int .u8 u.toNat) (.v rfl) ?_
          have : s[n.toNat]? = some u := by
            obtain ⟨h1, h2⟩ := List.getElem?_eq_some_iff.1 hu
            have h1' : n.toNat < s.size := by simpa using h1
            rw [getElem?_pos s n.toNat h1']
            rw [← h2]; rfl
          simp [execOp, ho, hx', hy', Instr.index, asIntOf, run_underlying hd, hn, this]
        · cases he
      · cases he
    · cases he
  | array n e =>
    simp only [Option.bind_eq_some_iff] at hc
    obtain ⟨g, hg, s, hs, hc⟩ := hc
    split at hc
    · simp only [Option.bind_eq_some_iff] at hc
      obtain ⟨ax, hx, ay, hy, hc⟩ := hc
      cases hc
      simp only [evOp] at he
      split at he
      · rename_i cs k m hev hev2
        split at he
        · rename_i hn
          split at he
          · rename_i u hu
            cases he
            have h := ev_sound hf hx hev
            have hy' := (v_inv (ev_sound hf hy hev2)).1
            generalize hz : a.eval x = z at h
            have hrel := h.cs rfl
            cases h with
            | agg h1 h2 h3 =>
              rename_i xs
              have hlt : m.toNat < xs.size := by rw [← h1]; exact (List.getElem?_eq_some_iff.1 hu).1
              have hxs : xs[m.toNat]? = some xs[m.toNat] := by simp [hlt]
              refine OpRes.pure hr (x := xs[m.toNat]) (h2 _ _ _ hu hxs) ?_
              simp [execOp, ho, hz, hy', Instr.index, asIntOf, run_underlying hd, hn, part, agg_run hg, size_run hs, hlt]
          · cases he
        · cases he
      · cases he
    · cases hc
  | _ => cases hc

theorem natOf_some {n : Int} {hi k : Nat} (h : natOf n hi = some k) : 0 ≤ n ∧ n ≤ hi ∧ k = n.toNat := by
  unfold natOf at h
  split at h
  · cases h; exact ⟨by omega, by omega, rfl⟩
  · cases h

theorem bound_run {k : IntKind} {n : Int} {hi m : Nat} (h : natOf n hi = some m) (code : BoundsCode) (w : World) : (Instr.sliceBound (.int k n) hi code).run P w = .ok m w := by
  obtain ⟨h1, h2, rfl⟩ := natOf_some h
  simp [Instr.sliceBound, asIntOf, h1, h2]

theorem bound_sound (hf : FRel φ fr a.tmps) {ox : Option Operand} {ax : Option AX} (hc : cOptX ox = some ax) {d hi m : Nat} (he : boundX fr d hi ax = some m) (code : BoundsCode) :
    (match ox.map a.eval with | some v => Instr.sliceBound v hi code | none => pure d : Sem Nat).run P w = .ok m w := by
  cases ox with
  | none => cases hc; simp only [boundX, Option.some.injEq] at he; subst he; rfl
  | some x =>
    simp only [cOptX, Option.map_eq_some_iff] at hc
    obtain ⟨ay, hy, rfl⟩ := hc
    simp only [boundX] at he
    split at he
    · rename_i k n hev
      have := (v_inv (ev_sound hf hy hev)).1
      simp only [Option.map_some, this]
      exact bound_run he code w
    · cases he

theorem boundX_le {d hi m : Nat} {ax : Option AX} (hd : d ≤ hi) (he : boundX fr d hi ax = some m) : m ≤ hi := by
  cases ax with
  | none => simp only [boundX, Option.some.injEq] at he; omega
  | some ay =>
    simp only [boundX] at he
    split at he
    · obtain ⟨_, h2, h3⟩ := natOf_some he; omega
    · cases he

theorem bounds_run (hf : FRel φ fr a.tmps) {lo hi : Option Operand} {al ah : Option AX} (hl : cOptX lo = some al) (hh : cOptX hi = some ah) {len cap h l : Nat}
    (h1 : boundX fr len cap ah = some h) (h2 : boundX fr 0 h al = some l) (b : Bool) (w : World) :
    (Instr.sliceBounds b len cap (lo.map a.eval) (hi.map a.eval) none).run P w = .ok (l, h, cap) w := by
  have key : ∀ (ox : Option Operand) (ax : Option AX), cOptX ox = some ax → ∀ (d c m : Nat), boundX fr d c ax = some m →
      (ox = none ∧ m = d) ∨ (∃ x k n, ox = some x ∧ a.eval x = .int k n ∧ natOf n c = some m) := by
    intro ox ax hox d c m hm
    cases ox with
    | none => cases hox; simp only [boundX, Option.some.injEq] at hm; exact .inl ⟨rfl, hm.symm⟩
    | some x =>
      simp only [cOptX, Option.map_eq_some_iff] at hox
      obtain ⟨ay, hy, rfl⟩ := hox
      simp only [boundX] at hm
      split at hm
      · rename_i k n hev
        exact .inr ⟨x, k, n, rfl, (v_inv (ev_sound hf hy hev)).1, hm⟩
      · cases hm
  rcases key hi ah hh len cap h h1 with ⟨rfl, rfl⟩ | ⟨x, k, n, rfl, e1, e2⟩
  · rcases key lo al hl 0 _ l h2 with ⟨rfl, rfl⟩ | ⟨y, k', n', rfl, e3, e4⟩
    · simp [Instr.sliceBounds]
    · simp [Instr.sliceBounds, e3, bound_run e4]
  · rcases key lo al hl 0 h l h2 with ⟨rfl, rfl⟩ | ⟨y, k', n', rfl, e3, e4⟩
    · simp [Instr.sliceBounds, e1, bound_run e2]
    · simp [Instr.sliceBounds, e1, bound_run e2, e3, bound_run e4]

theorem bounds3_run (hf : FRel φ fr a.tmps) {lo : Option Operand} {hi mx : Operand} {al : Option AX} {ah am : AX} (hl : cOptX lo = some al) (hh : cX hi = some ah) (hm : cX mx = some am) {len cap h l m : Nat}
    (h0 : boundX fr 0 cap (some am) = some m) (h1 : boundX fr 0 m (some ah) = some h) (h2 : boundX fr 0 h al = some l) (w : World) :
    (Instr.sliceBounds true len cap (lo.map a.eval) (some (a.eval hi)) (some (a.eval mx))).run P w = .ok (l, h, m) w := by
  have key : ∀ (x : Operand) (ax : AX), cX x = some ax → ∀ (c m : Nat), boundX fr 0 c (some ax) = some m → ∃ k n, a.eval x = .int k n ∧ natOf n c = some m := by
    intro x ax hox c m hm
    simp only [boundX] at hm
    split at hm
    · rename_i k n hev
      exact ⟨k, n, (v_inv (ev_sound hf hox hev)).1, hm⟩
    · cases hm
  obtain ⟨k1, n1, e1, e2⟩ := key mx am hm _ _ h0
  obtain ⟨k2, n2, e3, e4⟩ := key hi ah hh _ _ h1
  cases lo with
  | none => cases hl; simp only [boundX, Option.some.injEq] at h2; subst h2; simp [Instr.sliceBounds, e1, bound_run e2, e3, bound_run e4]
  | some x =>
    simp only [cOptX, Option.map_eq_some_iff] at hl
    obtain ⟨ay, hy, rfl⟩ := hl
    obtain ⟨k3, n3, e5, e6⟩ := key x ay hy _ _ h2
    simp [Instr.sliceBounds, e1, bound_run e2, e3, bound_run e4, e5, bound_run e6]

theorem slice_sound (hr : HRel B φ H w) (hf : FRel φ fr a.tmps) {t : TypeId} {x : Operand} {lo hi mx : Option Operand} (ho : o.op = .slice t x lo hi mx) (hc : cOp P o = some ao) (he : evOp call ao fr H = some (v, H')) :
    OpRes P B φ H w a o v H' := by
  simp only [cOp, ho, Option.bind_eq_bind, Option.bind_eq_some_iff] at hc
  obtain ⟨d, hd, hc⟩ := hc
  cases mx with
  | some m =>
    cases d with
    | slice e =>
      cases hi with
      | none => cases hc
      | some xh =>
        simp only [Option.bind_eq_some_iff] at hc
        obtain ⟨s, hs, ax, hx, al, hl, ah, hh, am, hm, hc⟩ := hc
        cases hc
        simp only [evOp] at he
        split at he
        · rename_i hev
          split at he
          · rename_i m1 hm1
            split at he
            · rename_i h1 hh1
              split at he
              · rename_i l1 hl1
                cases he
                have hx' := (v_inv (ev_sound hf hx hev)).1
                refine OpRes.pure hr (x := .slice none 0 0) (.v rfl) ?_
                have m0 : m1 = 0 := by have := boundX_le (Nat.le_refl 0) hm1; omega
                have h0 : h1 = 0 := by have := boundX_le (Nat.zero_le _) hh1; omega
                have l0 : l1 = 0 := by have := boundX_le (Nat.zero_le _) hl1; omega
                subst m0 h0 l0
                simp [execOp, ho, hx', Instr.sliceAt, Instr.slice, run_underlying hd, bounds3_run (P := P) hf hl hh hm hm1 hh1 hl1, size_run hs]
              · cases he
            · cases he
          · cases he
        · rename_i b off len cap ex hev
          split at he
          · rename_i m1 hm1
            split at he
            · rename_i h1 hh1
              split at he
              · rename_i l1 hl1
                split at he
                · rename_i blk hb
                  split at he
                  · rename_i hes
                    cases he
                    obtain ⟨p, ad, c, hp, hx', g1, g2, g3, g4, g5⟩ := sl_inv (ev_sound hf hx hev)
                    have hpes : s = p.es := hes.symm.trans (hr.blk b blk p hb hp).es
                    have hmm := boundX_le (Nat.zero_le _) hm1
                    have hh2 := boundX_le (Nat.zero_le _) hh1
                    have hl2 := boundX_le (Nat.zero_le _) hl1
                    have up : ∀ {d m m' : Nat} {x : AX}, m ≤ m' → ∀ {r}, boundX fr d m (some x) = some r → boundX fr d m' (some x) = some r := by
                      intro d m m' x hm r hr'
                      simp only [boundX] at hr' ⊢
                      split at hr'
                      · obtain ⟨q1, q2, q3⟩ := natOf_some hr'
                        unfold natOf
                        rw [if_pos ⟨q1, by omega⟩, q3]
                      · cases hr'
                    have hrun := bounds3_run (P := P) (len := len) hf hl hh hm (up g2 hm1) hh1 hl1 w
                    refine OpRes.pure hr (x := .slice (if m1 = l1 then some ad else (some ad).map (·.add (l1 * s))) (h1 - l1) (m1 - l1)) ?_ ?_
                    · by_cases hcl : m1 = l1
                      · rw [if_pos hcl]
                        refine .sl hp (by omega) (Nat.le_refl _) (fun _ => rfl) ?_ (.inl (by omega))
                        subst hcl hpes
                        have := Nat.mul_le_mul_right p.es (show m1 ≤ c by omega)
                        simp only [Nat.sub_self, Nat.zero_mul]
                        omega
                      · rw [if_neg hcl]
                        have had : ad = ⟨p.r, p.o + off, none⟩ := by
                          rcases g5 with g5 | g5
                          · omega
                          · exact g5
                        subst had
                        refine .sl hp (by omega) (Nat.le_refl _) (fun _ => rfl) ?_ (.inr (add_at p off (l1 * s)))
                        have e1 : l1 * p.es + (m1 - l1) * p.es = m1 * p.es := by rw [← Nat.add_mul]; congr 1; omega
                        have e2 := Nat.mul_le_mul_right p.es (show m1 ≤ c by omega)
                        rw [hpes]
                        omega
                    · simp [execOp, ho, hx', Instr.sliceAt, Instr.slice, run_underlying hd, hrun, size_run hs]
                  · cases he
                · cases he
              · cases he
            · cases he
          · cases he
        · cases he
    | _ => cases hc
  | none =>
  cases d with
  | slice e =>
    simp only [Option.bind_eq_some_iff] at hc
    obtain ⟨s, hs, ax, hx, al, hl, ah, hh, hc⟩ := hc
    cases hc
    simp only [evOp] at he
    split at he
    · rename_i hev
      split at he
      · rename_i h hhi
        split at he
        · rename_i l hlo
          cases he
          have hx' := (v_inv (ev_sound hf hx hev)).1
          refine OpRes.pure hr (x := .slice none 0 0) (.v rfl) ?_
          have h0 : h = 0 := by have := boundX_le (Nat.le_refl 0) hhi; omega
          have l0 : l = 0 := by have := boundX_le (Nat.zero_le _) hlo; omega
          subst h0 l0
          simp [execOp, ho, hx', Instr.sliceAt, Instr.slice, run_underlying hd, bounds_run (P := P) hf hl hh hhi hlo, size_run hs]
        · cases he
      · cases he
    · rename_i b off len cap ex hev
      split at he
      · rename_i h hhi
        split at he
        · rename_i l hlo
          split at he
          · rename_i blk hb
            split at he
            · rename_i hes
              cases he
              obtain ⟨p, ad, c, hp, hx', h1, h2, h3, h4, h5⟩ := sl_inv (ev_sound hf hx hev)
              have hpes : s = p.es := hes.symm.trans (hr.blk b blk p hb hp).es
              have hh1 := boundX_le h1 hhi
              have hl1 := boundX_le (Nat.zero_le _) hlo
              -- the same bounds hold at the true capacity
              have up : ∀ {d m m' : Nat} {ax : Option AX}, m ≤ m' → ∀ {r}, boundX fr d m ax = some r → boundX fr d m' ax = some r := by
                intro d m m' ax hm r hr'
                cases ax with
                | none => exact hr'
                | some ay =>
                  simp only [boundX] at hr' ⊢
                  split at hr'
                  · obtain ⟨g1, g2, g3⟩ := natOf_some hr'
                    unfold natOf
                    rw [if_pos ⟨g1, by omega⟩, g3]
                  · cases hr'
              have hrun := bounds_run (P := P) hf hl hh (up h2 hhi) hlo true w
              refine OpRes.pure hr (x := .slice (if c = l then some ad else (some ad).map (·.add (l * s))) (h - l) (c - l)) ?_ ?_
              · by_cases hcl : c = l
                · rw [if_pos hcl]
                  refine .sl hp (by omega) (by omega) (fun hex => by have := h3 hex; omega) ?_ (.inl (by omega))
                  subst hcl hpes
                  simpa using h4
                · rw [if_neg hcl]
                  have had : ad = ⟨p.r, p.o + off, none⟩ := by
                    rcases h5 with h5 | h5
                    · omega
                    · exact h5
                  subst had
                  refine .sl hp (by omega) (by omega) (fun hex => by have := h3 hex; omega) ?_ (.inr (add_at p off (l * s)))
                  have : l * p.es + (c - l) * p.es = c * p.es := by rw [← Nat.add_mul]; congr 1; omega
                  rw [hpes]
                  omega
              · simp [execOp, ho, hx', Instr.sliceAt, Instr.slice, run_underlying hd, hrun, size_run hs]
            · cases he
          · cases he
        · cases he
      · cases he
    · cases he
  | string =>
    simp only [Option.bind_eq_some_iff] at hc
    obtain ⟨ax, hx, al, hl, ah, hh, hc⟩ := hc
    cases hc
    simp only [evOp] at he
    split at he
    · rename_i s hev
      split at he
      · rename_i h hhi
        split at he
        · rename_i l hlo
          cases he
          have hx' := (v_inv (ev_sound hf hx hev)).1
          refine OpRes.pure hr (x := .string (s.extract l h)) (.v rfl) ?_
          simp [execOp, ho, hx', Instr.sliceAt, Instr.slice, run_underlying hd, bounds_run (P := P) hf hl hh hhi hlo]
        · cases he
      · cases he
    · cases he
  | _ => cases hc

theorem un_sound (hr : HRel B φ H w) (hf : FRel φ fr a.tmps) {u : UnOp} {t : TypeId} {x : Operand} (ho : o.op = .unOp u t x) (hc : cOp P o = some ao) (he : evOp call ao fr H = some (v, H')) :
    OpRes P B φ H w a o v H' := by
  simp only [cOp, ho, Option.bind_eq_bind, Option.bind_eq_some_iff] at hc
  obtain ⟨ax, hx, hc⟩ := hc
  cases hc
  simp only [evOp] at he
  split at he
  · rename_i y hev
    split at he
    · rename_i r hu
      cases he
      have hx' := (v_inv (ev_sound hf hx hev)).1
      have key : (Op.unary u y).run P w = .ok r w ∧ r.oneCell' = true := by
        unfold unV at hu
        split at hu <;> cases hu
        · exact ⟨rfl, rfl⟩
        · exact ⟨rfl, rfl⟩
        · exact ⟨rfl, rfl⟩
      refine OpRes.pure hr (x := r) (.v key.2) ?_
      simp [execOp, ho, hx', key.1]
    · cases he
  · cases he

theorem convi_run (k : IntKind) (n : Int) : (Conv.intToInt k n).run P w = .ok (.int k (k.wrap n)) w := rfl

theorem conv_sound (hr : HRel B φ H w) (hf : FRel φ fr a.tmps) (hφ : ∀ b, H.next ≤ b → b < H'.next → φ b = none) {s t : TypeId} {x : Operand} (ho : o.op = .convert s t x) (hc : cOp P o = some ao) (he : evOp call ao fr H = some (v, H')) :
    OpRes P B φ H w a o v H' := by
  simp only [cOp, ho, Option.bind_eq_bind, Option.bind_eq_some_iff] at hc
  obtain ⟨d, hd, d', hd', hc⟩ := hc
  split at hc
  · rename_i k0 k
    simp only [Option.bind_eq_some_iff] at hc
    obtain ⟨ax, hx, hc⟩ := hc
    cases hc
    simp only [evOp] at he
    split at he
    · rename_i k1 n hev
      cases he
      have hx' := (v_inv (ev_sound hf hx hev)).1
      refine OpRes.pure hr (x := .int k (k.wrap n)) (.v rfl) ?_
      simp [execOp, ho, hx', convert, run_underlying hd, run_underlying hd', convi_run]
    · cases he
  · rename_i e
    simp only [Option.bind_eq_some_iff] at hc
    obtain ⟨de, hde, hc⟩ := hc
    split at hc
    · simp only [Option.bind_eq_some_iff] at hc
      obtain ⟨ax, hx, hc⟩ := hc
      cases hc
      simp only [evOp] at he
      split at he
      · rename_i str hev
        cases he
        have hx' := (v_inv (ev_sound hf hx hev)).1
        generalize hq : (Question.appendCap str.size 0 e).cut (w.tape w.drawn (Question.appendCap str.size 0 e)) = cap
        have hcap : str.size ≤ cap := by rw [← hq]; simp [Question.cut]
        let xs : Array Value := (str.data.map fun b => Value.int .u8 b.toNat) ++ Array.replicate (cap - str.size) (.int .u8 0)
        have hxs : xs.size = cap := by
          have : str.data.size = str.size := rfl
          simp [xs]; omega
        let w1 : World := { w with drawn := w.drawn + 1 }
        let w' : World := { w1 with heap := w.heap.push (.cells xs e (cap, cap + 1)) }
        have hst : Step B φ H w _ _ w' := Step.alloc hr 1 (str.data.toList.map fun b => .v (.int .u8 b.toNat)) xs e (cap, cap + 1) (hφ _ (Nat.le_refl _) (Nat.lt_succ_self _))
          (by have : str.data.size = str.size := rfl
              simp [hxs]; omega) (by
            intro i c hc
            rw [List.getElem?_map] at hc
            cases hb : str.data.toList[i]? with
            | none => rw [hb] at hc; cases hc
            | some u =>
              rw [hb] at hc
              cases hc
              have hlt : i < str.data.toList.length := (List.getElem?_eq_some_iff.1 hb).1
              refine ⟨.int .u8 u.toNat, ?_, .v rfl, rfl⟩
              have hb' : str.data[i]? = some u := by simpa using hb
              simp only [xs]
              rw [Array.getElem?_append_left (by simpa using hlt), Array.getElem?_map, hb']
              rfl) (.inl (by rw [hxs]; exact Nat.le_refl _)) w' rfl rfl rfl rfl
        refine ⟨.slice (some ⟨w.heap.size, 0, none⟩) str.size cap, w', _, hst, ?_, .inl ?_⟩
        · exact VRel.sl (p := ⟨w.heap.size, 0, xs.size, 1⟩) (by simp) (Nat.le_refl _) hcap (by simp) (by simp [hxs]) (.inr rfl)
        · have hmod : (w.heap.push (Obj.cells xs e)).modify w.heap.size (fun o => match o with
              | .cells c elem (lo, hi) => .cells c elem (if (lo == hi) = true then (cap, cap + 1) else (min lo cap, max hi (cap + 1)))
              | o => o) = w.heap.push (.cells xs e (cap, cap + 1)) := by
            apply Array.ext_getElem?
            intro i
            rw [Array.getElem?_modify, Array.getElem?_push, Array.getElem?_push]
            by_cases hi : i = w.heap.size
            · subst hi; simp
            · rw [if_neg (fun h => hi h.symm), if_neg hi, if_neg hi]
          have hsh : World.shape? { heap := w.heap.push (Obj.cells xs e), tape := w.tape, drawn := w.drawn + 1, os := w.os, output := w.output } w.heap.size = some (e, cap) := by
            simp [World.shape?, hxs]
          simp only [execOp, ho, hx', convert, Sem.run_bind, run_underlying hd, run_underlying hd', Result.andThen_ok, run_underlying hde, Conv.stringToBytes, run_choose, Question.forced, Bool.false_eq_true, if_false, hq, newRow, run_newObj, Sem.run_pure, markStringish, run_shape]
          have hxs' : (str.data.map fun b => Value.int .u8 b.toNat) ++ Array.replicate (cap - str.size) (.int .u8 0) = xs := rfl
          rw [hxs', hsh]
          simp only [run_freeze, World.freeze, Result.andThen_ok]
          rw [if_neg (by decide)]
          show Result.ok _ _ = Result.ok _ _
          congr 1
          simp only [w', w1]
          congr 1
      · cases he
    · cases hc
  · rename_i e
    simp only [Option.bind_eq_some_iff] at hc
    obtain ⟨de, hde, hc⟩ := hc
    split at hc
    · simp only [Option.bind_eq_some_iff] at hc
      obtain ⟨ax, hx, hc⟩ := hc
      cases hc
      simp only [evOp] at he
      split at he
      · rename_i hev
        cases he
        have hx' := (v_inv (ev_sound hf hx hev)).1
        refine OpRes.pure hr (x := .string .empty) (.v rfl) ?_
        simp [execOp, ho, hx', convert, run_underlying hd, run_underlying hd', run_underlying hde, Conv.bytesToString]
      · rename_i b off len cap ex hev
        split at he
        · rename_i cs hg
          split at he
          · rename_i l hl
            cases he
            obtain ⟨p, ad, c, hp, hx', h1, h2, _, _, h5⟩ := sl_inv (ev_sound hf hx hev)
            refine OpRes.pure hr (x := .string ⟨l.toArray⟩) (.v rfl) ?_
            obtain ⟨xs, g1, g2, g3⟩ := getN_rel hr hp hg
            have key : ∀ (cs : List AV) (xs : List Value) (l : List UInt8), CRel φ cs xs.toArray → bytesOf cs = some l → ∃ ns : List Int, xs = ns.map (Value.int .u8) ∧ ns.map (fun n => UInt8.ofNat n.toNat) = l := by
              intro cs
              induction cs with
              | nil =>
                intro xs l hrel hl
                have hxs : xs = [] := List.eq_nil_of_length_eq_zero (by have := hrel.1; simpa using this.symm)
                simp only [bytesOf, Option.some.injEq] at hl
                subst hxs; subst hl
                exact ⟨[], rfl, rfl⟩
              | cons q cs ih =>
                intro xs l hrel hl
                cases xs with
                | nil => have := hrel.1; simp at this
                | cons y xs =>
                  have hq := hrel.2 0 q y rfl rfl
                  unfold bytesOf at hl
                  split at hl
                  · rename_i h; cases h
                  · rename_i n r hcons
                    cases hcons
                    simp only [Option.map_eq_some_iff] at hl
                    obtain ⟨l', hl', rfl⟩ := hl
                    have hy := (v_inv hq.1).1
                    obtain ⟨ns, e1, e2⟩ := ih xs l' ⟨by have := hrel.1; simp at this ⊢; exact this, fun i c z hc hz => hrel.2 (i + 1) c z (by simpa using hc) (by simpa using hz)⟩ hl'
                    exact ⟨n :: ns, by rw [hy, e1]; rfl, by rw [List.map_cons, e2]⟩
                  · cases hl
            obtain ⟨ns, e1, e2⟩ := key cs xs l g2 hl
            have hload : (loadCells ad len).run P w = .ok (ns.map (Value.int .u8)).toArray w := by
              rcases h5 with h5 | h5
              · have h0 : len = 0 := by omega
                subst h0
                have : ns = [] := by
                  have : ns.length = 0 := by have := congrArg List.length e1; simp at this; omega
                  exact List.eq_nil_of_length_eq_zero this
                subst this
                rfl
              · subst h5
                rw [← e1, ← g1]
                exact load_cells_run g3
            have hfold : ∀ (ns : List Int) (r : ByteArray), (ns.foldl (fun r n => r.push (UInt8.ofNat n.toNat)) r) = ⟨(r.data.toList ++ ns.map (fun n => UInt8.ofNat n.toNat)).toArray⟩ := by
              intro ns
              induction ns with
              | nil => intro r; simp
              | cons n ns ih =>
                intro r
                rw [List.foldl_cons, ih]
                simp [ByteArray.push]
            have := run_bytesToString (P := P) w ad len c ns hload
            rw [hfold] at this
            have e3 : (⟨(ByteArray.empty.data.toList ++ ns.map (fun n => UInt8.ofNat n.toNat)).toArray⟩ : ByteArray) = ⟨l.toArray⟩ := by rw [e2]; rfl
            rw [e3] at this
            simp [execOp, ho, hx', convert, run_underlying hd, run_underlying hd', run_underlying hde, this]
          · cases he
        · cases he
      · cases he
    · cases hc
  · simp only [Option.bind_eq_some_iff] at hc
    obtain ⟨ax, hx, hc⟩ := hc
    cases hc
    simp only [evOp] at he
    split at he
    · rename_i str hev
      cases he
      have hx' := (v_inv (ev_sound hf hx hev)).1
      refine OpRes.pure hr (x := .string str) (.v rfl) ?_
      simp [execOp, ho, hx', convert, run_underlying hd, run_underlying hd']
    · cases he
  · simp only [Option.bind_eq_some_iff] at hc
    obtain ⟨ax, hx, hc⟩ := hc
    cases hc
    simp only [evOp] at he
    split at he
    · rename_i k1 n hev
      cases he
      have hx' := (v_inv (ev_sound hf hx hev)).1
      refine OpRes.pure hr (x := .string (Utf8.encode n)) (.v rfl) ?_
      simp [execOp, ho, hx', convert, run_underlying hd, run_underlying hd', Conv.intToString]
    · cases he
  · simp only [Option.bind_eq_some_iff] at hc
    obtain ⟨de, hde, hc⟩ := hc
    split at hc
    · rename_i hst
      simp only [Option.bind_eq_some_iff] at hc
      obtain ⟨ax, hx, hc⟩ := hc
      cases hc
      simp only [evOp] at he
      split at he
      · rename_i b off len cap ex hev
        split at he
        · rename_i blk hb
          split at he
          · rename_i hcnd
            cases he
            obtain ⟨p, ad, c, hp, hx', h1, h2, h3, h4, h5⟩ := sl_inv (ev_sound hf hx hev)
            have had : ad = ⟨p.r, p.o + off, none⟩ := by
              rcases h5 with h5 | h5
              · omega
              · exact h5
            subst had
            obtain ⟨_, cur, e', fz, q1, q2, q3, q4, q5⟩ := hr.blk b blk p hb hp
            let w' : World := { w with heap := w.heap.modify p.r (markO · cur.size) }
            refine ⟨.slice (some ⟨p.r, p.o + off, none⟩) len c, w', φ, Step.marks hr hb hp hcnd.1 q1 w' rfl rfl rfl rfl, .sl hp h1 h2 h3 h4 (.inr rfl), .inl ?_⟩
            have hsh : World.shape? w p.r = some (e', cur.size) := by simp [World.shape?, q1]
            simp only [execOp, ho, hx', convert, Sem.run_bind, run_underlying hd, run_underlying hd', Result.andThen_ok, run_underlying hde, hst, markStringish, run_shape, hsh, run_freeze, World.freeze]
            first | rfl | (simp only [Sem.run_pure]; rfl)
          · cases he
        · cases he
      · cases he
    · cases hc
  · cases hc

end
end Go.AM
