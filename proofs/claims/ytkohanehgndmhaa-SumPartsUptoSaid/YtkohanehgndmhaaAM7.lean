/- The machine, and that it tells the truth of the program. No condition. -/
import Derived.Test.YtkohanehgndmhaaAM6
set_option linter.all false
namespace Go.AM
open Go.RowKit
section
variable {P : Program} {B : Nat} {φ : Phi} {H H' : Heap} {w : World} {fr : T AV} {a : Act} {o : Oper} {ao : AOp} {v : AV}
  {call : Nat → List AV → Heap → Option (AV × Heap)}

theorem mkslice_sound (hr : HRel B φ H w) (hf : FRel φ fr a.tmps) (hφ : ∀ b, H.next ≤ b → b < H'.next → φ b = none) {t : TypeId} {x y : Operand} (ho : o.op = .makeSlice t x y) (hc : cOp P o = some ao) (he : evOp call ao fr H = some (v, H')) :
    OpRes P B φ H w a o v H' := by
  simp only [cOp, ho, Option.bind_eq_bind, Option.bind_eq_some_iff] at hc
  obtain ⟨d, hd, hc⟩ := hc
  cases d with
  | slice e =>
    simp only [Option.bind_eq_some_iff] at hc
    obtain ⟨s, hs, i, hi, z, hz, ax, hx, ay, hy, hc⟩ := hc
    cases hc
    obtain ⟨i', u, hi', hu, rfl, hp, hzr⟩ := zero_run hz
    rw [hi] at hi'; cases hi'
    obtain ⟨i'', hi'', rfl⟩ := size_info hs
    rw [hi] at hi''; cases hi''
    have hrel : CRel φ (u.cells.toList.map .v) u.cells := (vrel_plain φ u.cells hp).cs rfl
    simp only [evOp] at he
    split at he
    · rename_i kl l kc c hev hev2
      split at he
      · rename_i hcond
        obtain ⟨c1, c2, c3, c4, c5, c6⟩ := hcond
        cases he
        have ex := (v_inv (ev_sound hf hx hev)).1
        have ey := (v_inv (ev_sound hf hy hev2)).1
        have hzr' := zeros_rel hrel (by rw [c5]; exact c6) c.toNat
        rw [c5] at hzr'
        have hzr'' : CRel φ _ (madeCells u.cells (c.toNat * i.size)) := hzr'
        have hrun := run_make (P := P) w t e i u hd hi hu kl kc l c c1 c2 (by omega) (by omega)
        refine ⟨.slice (some ⟨w.heap.size, 0, none⟩) l.toNat c.toNat, w.alloc (.cells (madeCells u.cells (c.toNat * i.size)) e), _, new_row hr (hφ _ (Nat.le_refl _) (Nat.lt_succ_self _)) i.size hzr'' e, ?_, .inl ?_⟩
        · exact VRel.sl (p := ⟨w.heap.size, 0, (madeCells u.cells (c.toNat * i.size)).size, i.size⟩) (by simp) (by omega) (Nat.le_refl _) (fun _ => rfl) (by simp [madeCells]) (.inr rfl)
        · simp [execOp, ho, ex, ey, hrun]
      · cases he
    · cases he
  | _ => cases hc

theorem len_run {t : TypeId} {ts : Array TypeId} {ty : TypeId} (ht : ts[0]? = some t) {s : Bool} {d : TypeDesc} (hd : P.underlying t = some d) (hk : (s = true ∧ d = .string) ∨ (s = false ∧ ∃ e, d = .slice e))
    {q : AV} {x : Value} (h : VRel φ q x) {n : Nat} (hn : (s = false ∧ ((∃ b off cap ex, q = .sl b off n cap ex) ∨ (q = .v (.slice none 0 0) ∧ n = 0))) ∨ (s = true ∧ ∃ str, q = .v (.string str) ∧ n = str.size)) (w : World) :
    (Builtin.len_ ts ty #[x]).run P w = .ok (.int .i64 n) w := by
  rcases hn with ⟨rfl, ⟨b, off, cap, ex, rfl⟩ | ⟨rfl, rfl⟩⟩ | ⟨rfl, str, rfl, rfl⟩
  · rcases hk with ⟨h, _⟩ | ⟨_, e, rfl⟩
    · cases h
    · obtain ⟨p, ad, c, _, rfl, _⟩ := sl_inv h
      simp [Builtin.len_, ht, run_underlying hd, goInt]
  · rcases hk with ⟨h, _⟩ | ⟨_, e, rfl⟩
    · cases h
    · have := (v_inv h).1
      subst this
      simp [Builtin.len_, ht, run_underlying hd, goInt]
  · rcases hk with ⟨_, rfl⟩ | ⟨h, _⟩
    · have := (v_inv h).1
      subst this
      simp [Builtin.len_, ht, run_underlying hd, goInt]
    · cases h

theorem cXs_one {x : Operand} {xs : List Operand} {l : List AX} (h : cXs (x :: xs) = some l) : ∃ ax r, cX x = some ax ∧ cXs xs = some r ∧ l = ax :: r := by
  simp only [cXs, List.mapM_cons, Option.bind_eq_bind, Option.bind_eq_some_iff, Option.pure_def, Option.some.injEq] at h
  obtain ⟨ax, hx, r, hr, rfl⟩ := h
  exact ⟨ax, r, hx, hr, rfl⟩

theorem cXs_nil {xs : List Operand} (h : cXs xs = some []) : xs = [] := by
  cases xs with
  | nil => rfl
  | cons x xs => obtain ⟨ax, r, _, _, h⟩ := cXs_one h; cases h

theorem cXs_len {xs : List Operand} {l : List AX} (h : cXs xs = some l) : l.length = xs.length := by
  induction xs generalizing l with
  | nil => cases h; rfl
  | cons x xs ih => obtain ⟨ax, r, _, h2, rfl⟩ := cXs_one h; simp [ih h2]

theorem evXs_sound (hf : FRel φ fr a.tmps) : ∀ {xs : List Operand} {l : List AX} {vs : List AV}, cXs xs = some l → evXs fr l = some vs →
    vs.length = xs.length ∧ ∀ (i : Nat) (c : AV) (y : Value), vs[i]? = some c → (xs.map a.eval)[i]? = some y → VRel φ c y
  | [], l, vs, h, he => by
    have hl : l = [] := by
      have : some [] = some l := h
      exact (Option.some.inj this).symm
    subst hl
    have hv : vs = [] := by
      have : some [] = some vs := he
      exact (Option.some.inj this).symm
    subst hv
    exact ⟨rfl, fun i c y hc => by simp at hc⟩
  | x :: xs, l, vs, h, he => by
    obtain ⟨ax, r, h1, h2, rfl⟩ := cXs_one h
    simp only [evXs] at he
    split at he
    · rename_i u hu
      split at he
      · rename_i us hus
        cases he
        obtain ⟨k1, k2⟩ := evXs_sound hf h2 hus
        refine ⟨by simp [k1], ?_⟩
        intro i c y hc hy
        cases i with
        | zero => simp at hc hy; subst hc; subst hy; exact ev_sound hf h1 hu
        | succ i => exact k2 i c y (by simpa using hc) (by simpa using hy)
      · cases he
    · cases he

/-- what an append puts in -/
theorem news_rel (hr : HRel B φ H w) {es m : Nat} {q : AV} {x : Value} {news : List AV} (h : VRel φ q x) (hn : newsOf H es q = some (m, news)) :
    (Builtin.lenOf x).run P w = .ok m w ∧ ∃ xs : Array Value, CRel φ news xs ∧ xs.size = m * es ∧ ∀ w', w'.heap = w.heap → (Builtin.firstCells es m x).run P w' = .ok xs w' := by
  unfold newsOf at hn
  split at hn
  · cases hn
    have := (v_inv h).1
    subst this
    exact ⟨rfl, #[], ⟨rfl, fun i c y hc => by simp at hc⟩, by simp, fun _ _ => rfl⟩
  · rename_i b off len cap ex
    simp only [Option.map_eq_some_iff] at hn
    obtain ⟨vs, hg, hn⟩ := hn
    cases hn
    obtain ⟨p, ad, c, hp, rfl, h1, h2, _, _, h5⟩ := sl_inv h
    obtain ⟨xs, g1, g2, g3⟩ := getN_rel hr hp hg
    refine ⟨rfl, xs.toArray, g2, by simpa using g1, fun w' hw' => ?_⟩
    rcases h5 with h5 | h5
    · have : m = 0 := by omega
      subst this
      have : xs = [] := List.eq_nil_of_length_eq_zero (by simpa using g1)
      subst this
      simp [Builtin.firstCells, loadCells, loadCellsFrom]
    · subst h5
      simp only [Builtin.firstCells]
      rw [← g1]
      exact load_cells_run fun i x hi => by rw [← g3 i x hi]; simp only [World.cell?, hw']
  · rename_i str
    split at hn
    · rename_i he1
      cases hn
      have := (v_inv h).1
      subst this
      subst he1
      refine ⟨rfl, str.data.map fun b => .int .u8 b.toNat, ⟨by simp, ?_⟩, by simp, ?_⟩
      · intro i c y hc hy
        rw [List.getElem?_map] at hc
        rw [Array.getElem?_map] at hy
        cases hb : str.data[i]? with
        | none => rw [hb] at hy; cases hy
        | some u =>
          have hb' : str.data.toList[i]? = some u := by simpa using hb
          rw [hb'] at hc
          rw [hb] at hy
          cases hc; cases hy
          exact ⟨.v rfl, rfl⟩
      · intro w' _
        simp [Builtin.firstCells]
    · cases hn
  · cases hn

theorem zeroCells_eq (z : Array Value) (n : Nat) : Builtin.zeroCells z n = (Array.range (n * z.size)).map (z[· % z.size]!) := rfl

/-- what a slice holds, for a slice whose block is alive -/
theorem old_rel (hr : HRel B φ H w) {b off len : Nat} {p : Pl} {blk : Blk} {es : Nat} {old : List AV} (hp : φ b = some p) (hb : H.blks.get b = some blk) (ho : takeN (len * es) (blk.cells.drop off) = some old)
    {ad : Addr} {c : Nat} (h5 : c = 0 ∨ ad = ⟨p.r, p.o + off, none⟩) (hlc : len ≤ c) :
    ∃ xs : Array Value, CRel φ old xs ∧ xs.size = len * es ∧ ∀ w', w'.heap = w.heap → (Builtin.firstCells es len (.slice (some ad) len c)).run P w' = .ok xs w' := by
  have hg : getN H b off (len * es) = some old := by simp only [getN, hb]; exact ho
  obtain ⟨xs, g1, g2, g3⟩ := getN_rel hr hp hg
  refine ⟨xs.toArray, g2, by simpa using g1, fun w' hw' => ?_⟩
  rcases h5 with h5 | h5
  · have : len = 0 := by omega
    subst this
    have : xs = [] := List.eq_nil_of_length_eq_zero (by simpa using g1)
    subst this
    simp [Builtin.firstCells, loadCells, loadCellsFrom]
  · subst h5
    simp only [Builtin.firstCells]
    rw [← g1]
    exact load_cells_run fun i x hi => by rw [← g3 i x hi]; simp only [World.cell?, hw']

section
variable {t u e : TypeId} {i : TypeInfo} {z : Value} {ts : Array TypeId} {ty : TypeId} {du : TypeDesc}

/-- there is room -/
theorem app_room (ht : ts[0]? = some t) (hu : ts[1]? = some u) (hd : P.underlying t = some (.slice e)) (hdu : P.underlying u = some du) (hk : okU du = true)
    (hi : P.info? e = some i) {ad : Addr} {sLen c m : Nat} {x : Value} {xs : Array Value} (hl : (Builtin.lenOf x).run P w = .ok m w) (hx : (Builtin.firstCells i.size m x).run P w = .ok xs w)
    (hroom : sLen + m ≤ c) {w' : World} (hs : (storeCells (ad.add (sLen * i.size)) xs.toList).run P w = .ok () w') :
    (Builtin.append_ ts ty #[.slice (some ad) sLen c, x]).run P w = .ok (.slice (some ad) (sLen + m) c) w' := by
  cases du <;> simp [okU] at hk <;>
    simp [Builtin.append_, ht, hu, run_underlying hd, run_underlying hdu, sizeOf, typeInfo, hi, hl, hroom, hx, hs]

/-- there is none: a new row -/
theorem app_grow (ht : ts[0]? = some t) (hu : ts[1]? = some u) (hd : P.underlying t = some (.slice e)) (hdu : P.underlying u = some du) (hk : okU du = true)
    (hi : P.info? e = some i) (hz : i.zero = some z) {base : Option Addr} {sLen c m : Nat} {x : Value} {xs ys : Array Value} (hl : (Builtin.lenOf x).run P w = .ok m w) (hx : ∀ w', w'.heap = w.heap → (Builtin.firstCells i.size m x).run P w' = .ok xs w')
    (hy : ∀ w', w'.heap = w.heap → (Builtin.firstCells i.size sLen (.slice base sLen c)).run P w' = .ok ys w') (hroom : c < sLen + m) (h63 : sLen + m ≤ 9223372036854775807) (hby : (sLen + m) * i.bytes ≤ 140737488355328) :
    (Builtin.append_ ts ty #[.slice base sLen c, x]).run P w =
      .ok (.slice (some ⟨w.heap.size, 0, none⟩) (sLen + m) (grownCap w (sLen + m) c e)) (w.drew.alloc (.cells (ys ++ xs ++ Builtin.zeroCells z.cells (grownCap w (sLen + m) c e - (sLen + m))) e)) := by
  have n1 : ¬ sLen + m ≤ c := by omega
  have n3 : ¬ Builtin.nextslicecap (sLen + m) c * i.bytes > 2 ^ 48 := by
    have := growslice_fits hroom hby
    omega
  have hx' := hx w.drew rfl
  have hy' := hy w.drew rfl
  cases du <;> simp [okU] at hk <;>
    simp [Builtin.append_, ht, hu, run_underlying hd, run_underlying hdu, sizeOf, typeInfo, zeroValue, hi, hz, hl, n1, n3, Question.forced, grownCap, hx', hy', newRow] <;> (intro h; omega)
end

theorem app_sound (hr : HRel B φ H w) (hφ : ∀ b, H.next ≤ b → b < H'.next → φ b = none) {t u e : TypeId} {i : TypeInfo} {z : Value} {ts : Array TypeId} {ty : TypeId} {du : TypeDesc}
    (ht : ts[0]? = some t) (hu : ts[1]? = some u) (hd : P.underlying t = some (.slice e)) (hdu : P.underlying u = some du) (hk : okU du = true)
    (hi : P.info? e = some i) (hz : i.zero = some z) (hzp : z.cells.all Value.plain1 = true) (hzl : z.cells.size = i.size) (hpos : 0 < i.size) (hbp : 0 < i.bytes)
    {s x : AV} {sv xv : Value} (hs : VRel φ s sv) (hx : VRel φ x xv) (he : appendA H i.size i.bytes s x = some (v, H')) :
    ∃ r w' φ', Step B φ H w φ' H' w' ∧ VRel φ' v r ∧ (Builtin.append_ ts ty #[sv, xv]).run P w = .ok r w' := by
  unfold appendA at he
  split at he
  · cases he
  · rename_i m news hn
    obtain ⟨n1, xs, n2, n3, n4⟩ := news_rel (P := P) hr hx hn
    have hzrel : CRel φ (z.cells.toList.map .v) z.cells := (vrel_plain φ z.cells hzp).cs rfl
    -- a new row behind a draw
    have fresh : ∀ (H1 : Heap), HRel B φ H1 w → H1.next = H.next → ∀ (base : Option Addr) (sLen c : Nat) (old : List AV) (ys : Array Value), CRel φ old ys → ys.size = sLen * i.size →
        (∀ w', w'.heap = w.heap → (Builtin.firstCells i.size sLen (.slice base sLen c)).run P w' = .ok ys w') → c < sLen + m → (sLen + m) * i.bytes ≤ 2 ^ 47 →
        ∀ (mt : Option Nat) (H2 : Heap), H2.next = H1.next + 1 → (∀ j, H2.blks.get j = if j = H1.next then some ⟨old ++ news, true, mt, i.size⟩ else H1.blks.get j) → φ H1.next = none →
        ∃ r w' φ', Step B φ H1 w φ' H2 w' ∧ VRel φ' (.sl H1.next 0 (sLen + m) (sLen + m) false) r ∧ (Builtin.append_ ts ty #[.slice base sLen c, xv]).run P w = .ok r w' := by
      intro H1 hr1 hnx base sLen c old ys ho hys hy hroom hby mt H2 hH2 hget hφ1
      have h63 : sLen + m ≤ 9223372036854775807 := by
        have := Nat.le_mul_of_pos_right (sLen + m) hbp
        omega
      have hrun := app_grow (P := P) (ty := ty) ht hu hd hdu hk hi hz n1 n4 hy hroom h63 (by omega)
      have hge := grownCap_ge w (sLen + m) c e
      have hall : CRel φ (old ++ news) (ys ++ xs) := by
        refine ⟨by simp [ho.1, n2.1], ?_⟩
        intro j q y hq hyy
        by_cases hj : j < old.length
        · rw [List.getElem?_append_left hj] at hq
          rw [Array.getElem?_append_left (by rw [← ho.1]; exact hj)] at hyy
          exact ho.2 j q y hq hyy
        · rw [List.getElem?_append_right (by omega)] at hq
          rw [Array.getElem?_append_right (by rw [← ho.1]; omega), ← ho.1] at hyy
          exact n2.2 _ q y hq hyy
      have hsz : (ys ++ xs ++ Builtin.zeroCells z.cells (grownCap w (sLen + m) c e - (sLen + m))).size = grownCap w (sLen + m) c e * i.size := by
        simp only [Array.size_append, size_zeroCells, hzl, hys, n3, ← Nat.add_mul]
        congr 1
        omega
      have hst := Step.alloc' (H' := H2) hr1 i.size mt (old ++ news) hH2 hget (ys ++ xs ++ Builtin.zeroCells z.cells (grownCap w (sLen + m) c e - (sLen + m))) e (0, 0) hφ1
        (by rw [hall.1]; simp) (fun j q hq => by
          obtain ⟨x, k1, k2⟩ := hall.at j q hq
          refine ⟨x, ?_, k2⟩
          have hlt : j < (ys ++ xs).size := (Array.getElem?_eq_some_iff.1 k1).1
          rw [Array.getElem?_append_left hlt]; exact k1) (.inr rfl) (w.drew.alloc (.cells (ys ++ xs ++ Builtin.zeroCells z.cells (grownCap w (sLen + m) c e - (sLen + m))) e)) rfl rfl rfl rfl
      refine ⟨_, _, _, hst, ?_, hrun⟩
      exact VRel.sl (p := ⟨w.heap.size, 0, _, i.size⟩) (by simp only [if_true]; rfl) (Nat.le_refl _) hge (by simp) (by simp only [Nat.zero_add, hsz]; exact Nat.le_refl _) (.inr rfl)
    split at he
    · -- nil
      have := (v_inv hs).1
      subst this
      rcases Nat.eq_zero_or_pos m with hm | hm
      · subst hm
        simp only at he
        cases he
        have hxs : xs = #[] := by
          apply Array.eq_empty_of_size_eq_zero
          rw [n3]; simp
        refine ⟨.slice none 0 0, w, φ, .refl hr, .v rfl, ?_⟩
        have := n4 w rfl
        subst hxs
        cases du <;> simp [okU] at hk <;>
          simp [Builtin.append_, ht, hu, run_underlying hd, run_underlying hdu, sizeOf, typeInfo, hi, n1, this]
      · obtain ⟨m0, rfl⟩ : ∃ k, m = k + 1 := ⟨m - 1, by omega⟩
        simp only at he
        split at he
        · rename_i hby
          cases he
          have := fresh H hr rfl none 0 0 [] #[] ⟨rfl, fun i c y hc => by simp at hc⟩ (by simp) (fun _ _ => rfl) (by omega) (by simpa using hby) none (H.alloc i.size news) rfl (fun j => by
            show (H.blks.set _ _).get j = _
            rw [T.get_set]; rfl) (hφ _ (Nat.le_refl _) (Nat.lt_succ_self _))
          simpa using this
        · cases he
    · -- a slice
      rename_i b off len cap ex
      obtain ⟨p, ad, c, hp, rfl, h1, h2, h3, h4, h5⟩ := sl_inv hs
      split at he
      · -- there is room
        rename_i hroom
        rcases Nat.eq_zero_or_pos m with hm | hm
        · subst hm
          simp only at he
          cases he
          have hxs : xs = #[] := by
            apply Array.eq_empty_of_size_eq_zero
            rw [n3]; simp
          subst hxs
          exact ⟨_, w, φ, .refl hr, hs, app_room (P := P) (ty := ty) ht hu hd hdu hk hi n1 (n4 w rfl) (by omega) rfl⟩
        · obtain ⟨m0, rfl⟩ : ∃ k, m = k + 1 := ⟨m - 1, by omega⟩
          simp only at he
          split at he
          · rename_i H1 hw
            cases he
            obtain ⟨w', hs', hrun⟩ := write_step (P := P) hr hp n2 hw
            have had : ad = ⟨p.r, p.o + off, none⟩ := by
              rcases h5 with h5 | h5
              · omega
              · exact h5
            subst had
            refine ⟨_, w', φ, hs', .sl hp hroom h2 h3 h4 (.inr rfl), app_room (P := P) (ty := ty) ht hu hd hdu hk hi n1 (n4 w rfl) (by omega) ?_⟩
            rw [add_at, ← Nat.add_assoc]
            rw [← Nat.add_assoc] at hrun
            exact hrun
          · cases he
      · rename_i hroom
        split at he
        · cases he
        · rename_i blk hb
          split at he
          · cases he
          · rename_i old hold
            split at he
            · rename_i hcond
              obtain ⟨hes, hby⟩ := hcond
              obtain ⟨ys, o1, o2, o3⟩ := old_rel (P := P) hr hp hb hold h5 (by omega)
              split at he
              · -- all of it is known: it grows
                rename_i hex
                cases he
                have hcc := h3 hex
                exact fresh H hr rfl (some ad) len c old ys o1 o2 o3 (by omega) hby none (H.alloc i.size (old ++ news)) rfl (fun j => by
                  show (H.blks.set _ _).get j = _
                  rw [T.get_set]) (hφ _ (Nat.le_refl _) (Nat.lt_succ_self _))
              · rename_i hex
                split at he
                · rename_i hcond2
                  obtain ⟨hlen, hwr⟩ := hcond2
                  split at he
                  · rename_i hlc
                    cases he
                    have hnn : φ H.next = none := hφ _ (Nat.le_refl _) (Nat.lt_succ_self _)
                    let H1 : Heap := ⟨H.next, (H.kill blk.mate).blks.set b (some ⟨blk.cells, true, some H.next, blk.es⟩)⟩
                    have g1 : ∀ j, H1.blks.get j = if j = b then some ⟨blk.cells, true, some H.next, blk.es⟩ else if blk.mate = some j then none else H.blks.get j := fun j => by
                      show ((H.kill blk.mate).blks.set b _).get j = _
                      rw [T.get_set, Heap.get_kill]
                    obtain ⟨s1, hal⟩ := solo hr hb hp hwr (some H.next) (by intro b' hb'; cases hb'; exact Nat.le_refl _) H1 rfl g1
                    have g2 : ∀ j, (H.mate2 b blk (old ++ news)).blks.get j = if j = H1.next then some ⟨old ++ news, true, some b, i.size⟩ else H1.blks.get j := fun j => by
                      show (((H.kill blk.mate).blks.set b _).set H.next _).get j = _
                      rw [T.get_set, hes, hwr, ← hes]
                    have hb1 : H1.blks.get b = some ⟨blk.cells, true, some H.next, blk.es⟩ := by rw [g1, if_pos rfl]
                    have hpes : blk.es = p.es := (hr.blk b blk p hb hp).es
                    by_cases hcc : len + m ≤ c
                    · -- it lies in the old row
                      have had : ad = ⟨p.r, p.o + off, none⟩ := by
                        rcases h5 with h5 | h5
                        · omega
                        · exact h5
                      subst had
                      obtain ⟨_, cur, e', fz, q1, q2, q3, q4, q5⟩ := hr.blk b blk p hb hp
                      have hes' : p.es = i.size := hpes.symm.trans hes
                      rw [hes'] at h4
                      have hmul : (len + m) * i.size ≤ c * i.size := Nat.mul_le_mul_right _ hcc
                      rw [Nat.add_mul] at hmul
                      have hle : p.o + (off + len * i.size) + xs.toList.length ≤ cur.size := by simp; omega
                      have hcell : blk.cells.length = off + len * i.size := by rw [hlen, hlc]
                      have s2 : Step B φ H1 w φ H1 (w.setRow p.r (splice cur (p.o + (off + len * i.size)) xs.toList)) :=
                        Step.put s1.rel hb1 hp rfl hal blk.cells cur _ e' fz q1 (splice_size hle) q3 (fun j q hq => by
                          have hj : j < blk.cells.length := (List.getElem?_eq_some_iff.1 hq).1
                          rw [splice_get hle, if_neg (by omega)]
                          obtain ⟨x, r1, r2, r3⟩ := q4 j q hq
                          exact ⟨x, r1, r2, r3⟩) rfl (fun j => by
                          rw [g1]
                          by_cases hj : j = b
                          · simp [hj]
                          · simp [hj])
                      have hstore := store_cells_run (P := P) p.r (p.o + (off + len * i.size)) e' fz xs.toList 0 cur w q1 (q5 hwr).2 (by simpa using hle) n2.oneCell
                      have hrow := setRow_heap w p.r cur (splice cur (p.o + (off + len * i.size)) xs.toList) e' fz q1
                      obtain ⟨rfl, hn1⟩ := takeN_some hold
                      have hoff : off ≤ blk.cells.length := by omega
                      have hlold : ((blk.cells.drop off).take (len * i.size)).length = len * i.size := by simp at hn1 ⊢; omega
                      have hlnews : news.length = m * i.size := by rw [n2.1, n3]
                      have s3 := Step.alias (H' := H.mate2 b blk ((blk.cells.drop off).take (len * i.size) ++ news)) s2.rel hb1 hp rfl hal rfl off ((blk.cells.drop off).take (len * i.size) ++ news) _ e' fz hrow hnn (by omega)
                        (by rw [List.length_append, hlold, hlnews]; omega) (fun j q hq => by
                          rw [splice_get hle]
                          have hxl : xs.toList.length = m * i.size := by simpa using n3
                          by_cases hj : j < len * i.size
                          · rw [if_neg (by omega)]
                            rw [List.getElem?_append_left (by rw [hlold]; exact hj), List.getElem?_take, if_pos hj, List.getElem?_drop] at hq
                            rw [Nat.add_assoc]
                            exact q4 _ q hq
                          · rw [List.getElem?_append_right (by rw [hlold]; omega), hlold] at hq
                            have hj2 : j - len * i.size < news.length := (List.getElem?_eq_some_iff.1 hq).1
                            rw [if_pos (by omega)]
                            obtain ⟨x, r1, r2, r3⟩ := n2.at _ q hq
                            exact ⟨x, by rw [← r1]; simp; congr 1; omega, r2, r3⟩) rfl (fun j => by
                          rw [g2]
                          show (if j = H.next then _ else _) = if j = H.next then _ else _
                          rw [← hes])
                      refine ⟨_, _, _, (s1.trans s2).trans s3, ?_, app_room (P := P) (ty := ty) ht hu hd hdu hk hi n1 (n4 w rfl) hcc (w' := w.setRow p.r (splice cur (p.o + (off + len * i.size)) xs.toList)) ?_⟩
                      · exact VRel.sl (p := ⟨p.r, p.o + off, p.n - off, p.es⟩) (if_pos rfl) (Nat.le_refl _) hcc (by simp) (by simp only [hes']; omega) (.inr rfl)
                      · rw [add_at]
                        simpa using hstore
                    · -- or in a new one
                      obtain ⟨r, w', φ', k1, k2, k3⟩ := fresh H1 s1.rel rfl (some ad) len c old ys o1 o2 o3 (by omega) hby (some b) (H.mate2 b blk (old ++ news)) rfl g2 hnn
                      exact ⟨r, w', φ', s1.trans k1, k2, k3⟩
                  · cases he
                · cases he
            · cases he
    · cases he


theorem cap_run {t : TypeId} {ts : Array TypeId} {ty : TypeId} {e : TypeId} (ht : ts[0]? = some t) (hd : P.underlying t = some (.slice e)) {q : AV} {x : Value} (h : VRel φ q x) {n : Nat}
    (hn : (∃ b off len, q = .sl b off len n true) ∨ (q = .v (.slice none 0 0) ∧ n = 0)) (w : World) : (Builtin.cap_ ts ty #[x]).run P w = .ok (.int .i64 n) w := by
  rcases hn with ⟨b, off, len, rfl⟩ | ⟨rfl, rfl⟩
  · obtain ⟨p, ad, c, _, rfl, _, _, h3, _⟩ := sl_inv h
    have := h3 rfl
    subst this
    simp [Builtin.cap_, ht, run_underlying hd, goInt]
  · have := (v_inv h).1
    subst this
    simp [Builtin.cap_, ht, run_underlying hd, goInt]
/-- so many zeros behind nothing -/
theorem appz_sound (hr : HRel B φ H w) (hφ : φ H.next = none) {t u e : TypeId} {i : TypeInfo} {z : Value} {ts : Array TypeId} {ty : TypeId} {du : TypeDesc}
    (ht : ts[0]? = some t) (hu : ts[1]? = some u) (hd : P.underlying t = some (.slice e)) (hdu : P.underlying u = some du) (hk : isI du = true)
    (hi : P.info? e = some i) (hz : i.zero = some z) (hzp : z.cells.all Value.plain1 = true) (hzl : z.cells.size = i.size) (hpos : 0 < i.size) (hbp : 0 < i.bytes) {k : IntKind} {n : Int} (hn0 : 0 < n) (hn : n * i.bytes ≤ 2 ^ 47) :
    ∃ r w' φ', Step B φ H w φ' (H.alloc i.size (List.replicate n.toNat (z.cells.toList.map .v)).flatten) w' ∧ VRel φ' (.sl H.next 0 n.toNat n.toNat false) r ∧ (Builtin.append_ ts ty #[.slice none 0 0, .int k n]).run P w = .ok r w' := by
  obtain ⟨m, rfl⟩ : ∃ m : Nat, n = (m : Int) := ⟨n.toNat, by omega⟩
  have hm0 : 0 < m := by omega
  have hby : m * i.bytes ≤ 2 ^ 47 := by
    have : ((m * i.bytes : Nat) : Int) ≤ 2 ^ 47 := by rw [Int.natCast_mul]; exact hn
    omega
  have hm : m ≤ 2 ^ 47 := by have := Nat.le_mul_of_pos_right m hbp; omega
  have hzrel : CRel φ (z.cells.toList.map .v) z.cells := (vrel_plain φ z.cells hzp).cs rfl
  have hzl2 : (z.cells.toList.map AV.v).length = i.size := by simp [hzl]
  have hnews := zeros_rel hzrel (by rw [hzl2]; exact hpos) m
  rw [hzl2] at hnews
  have hzc : Builtin.zeroCells z.cells m = (Array.range (m * i.size)).map (z.cells[· % z.cells.size]!) := by rw [zeroCells_eq, hzl]
  rw [← hzc] at hnews
  have hge := grownCap_ge w (0 + m) 0 e
  have hsz : (Builtin.zeroCells z.cells m ++ Builtin.zeroCells z.cells (grownCap w (0 + m) 0 e - (0 + m))).size = grownCap w (0 + m) 0 e * i.size := by
    simp only [Array.size_append, size_zeroCells, hzl, ← Nat.add_mul]
    congr 1
    omega
  have hst := Step.alloc' (H' := H.alloc i.size (List.replicate m (z.cells.toList.map .v)).flatten) hr i.size none (List.replicate m (z.cells.toList.map .v)).flatten rfl (fun j => by
      show (H.blks.set _ _).get j = _
      rw [T.get_set]) (Builtin.zeroCells z.cells m ++ Builtin.zeroCells z.cells (grownCap w (0 + m) 0 e - (0 + m))) e (0, 0) hφ
    (by rw [hnews.1]; simp) (fun j q hq => by
      obtain ⟨x, k1, k2⟩ := hnews.at j q hq
      refine ⟨x, ?_, k2⟩
      have hlt : j < (Builtin.zeroCells z.cells m).size := (Array.getElem?_eq_some_iff.1 k1).1
      rw [Array.getElem?_append_left hlt]; exact k1) (.inr rfl) (w.drew.alloc (.cells (Builtin.zeroCells z.cells m ++ Builtin.zeroCells z.cells (grownCap w (0 + m) 0 e - (0 + m))) e)) rfl rfl rfl rfl
  refine ⟨.slice (some ⟨w.heap.size, 0, none⟩) (0 + m) (grownCap w (0 + m) 0 e), _, _, hst, ?_, ?_⟩
  · rw [Int.toNat_natCast]
    have := VRel.sl (φ := fun b => if b = H.next then some ⟨w.heap.size, 0, (Builtin.zeroCells z.cells m ++ Builtin.zeroCells z.cells (grownCap w (0 + m) 0 e - (0 + m))).size, i.size⟩ else φ b) (b := H.next) (off := 0) (len := 0 + m) (cap := 0 + m) (ex := false) (p := ⟨w.heap.size, 0, (Builtin.zeroCells z.cells m ++ Builtin.zeroCells z.cells (grownCap w (0 + m) 0 e - (0 + m))).size, i.size⟩) (a := ⟨w.heap.size, 0, none⟩) (c := grownCap w (0 + m) 0 e) (if_pos rfl) (Nat.le_refl _) hge (by simp) (by rw [hsz, Nat.zero_add]; exact Nat.le_refl _) (.inr rfl)
    simpa using this
  · have n1 : ¬ 0 + m ≤ 0 := by omega
    have n3 : ¬ Builtin.nextslicecap (0 + m) 0 * i.bytes > 2 ^ 48 := by
      have := growslice_fits (show 0 < 0 + m by omega) (show (0 + m) * i.bytes ≤ 140737488355328 by rw [Nat.zero_add]; exact hby)
      omega
    have w1 : IntKind.i64.wrap (m : Int) = (m : Int) := by rw [IntKind.wrap_i64]; omega
    have n4 : ¬ ((m : Int) < 0) := by omega
    have n5 : ¬ ((m : Int) * (i.bytes : Int) > 2 ^ 48) := by
      have : ((m * i.bytes : Nat) : Int) ≤ 2 ^ 47 := by omega
      rw [Int.natCast_mul] at this; omega
    have n5' : ¬ (281474976710656 < (m : Int) * (i.bytes : Int)) := fun h => n5 h
    have n6 : ¬ ((m : Int) > IntKind.i64.max) := by rw [show IntKind.i64.max = 9223372036854775807 by decide]; omega
    have n7 : ¬ (m * i.size = 0) := by have := Nat.mul_pos hm0 hpos; omega
    have n8 : ¬ m = 0 := by omega
    have n9 : ¬ i.size = 0 := by omega
    cases du <;> simp [isI] at hk
    simp only [Nat.zero_add] at n1 n3 ⊢
    simp [Builtin.append_, ht, hu, run_underlying hd, run_underlying hdu, sizeOf, typeInfo, zeroValue, hi, hz, asInt, asIntOf, w1, n4, n5, n5', n6, n7, n8, n9, n3, Question.forced, grownCap, newRow, Builtin.firstCells]
    all_goals (first | rfl | omega | skip)
/-- the first cells -/
theorem first_rel (hr : HRel B φ H w) {es k m : Nat} {q : AV} {x : Value} {news : List AV} (h : VRel φ q x) (hl : lenA q = some m) (hk : k ≤ m) (hn : firstA H es k q = some news) :
    ∃ xs : Array Value, CRel φ news xs ∧ xs.size = k * es ∧ (Builtin.firstCells es k x).run P w = .ok xs w := by
  unfold firstA at hn
  split at hn
  · cases hn
    cases hl
    have := (v_inv h).1
    subst this
    obtain rfl : k = 0 := by omega
    exact ⟨#[], ⟨rfl, fun i c y hc => by simp at hc⟩, by simp, rfl⟩
  · rename_i b off len cap ex
    cases hl
    obtain ⟨p, ad, c, hp, rfl, h1, h2, _, _, h5⟩ := sl_inv h
    obtain ⟨xs, g1, g2, g3⟩ := getN_rel hr hp hn
    refine ⟨xs.toArray, g2, by simpa using g1, ?_⟩
    rcases h5 with h5 | h5
    · obtain rfl : k = 0 := by omega
      have : xs = [] := List.eq_nil_of_length_eq_zero (by simpa using g1)
      subst this
      simp [Builtin.firstCells, loadCells, loadCellsFrom]
    · subst h5
      simp only [Builtin.firstCells]
      rw [← g1]
      exact load_cells_run g3
  · rename_i str
    cases hl
    split at hn
    · rename_i he1
      cases hn
      have := (v_inv h).1
      subst this
      subst he1
      refine ⟨(str.extract 0 k).data.map fun b => .int .u8 b.toNat, ?_, ?_, rfl⟩
      · have e0 : (str.extract 0 k).data = str.data.extract 0 k := by simp
        have e : (str.extract 0 k).data.toList = str.data.toList.take k := by rw [e0]; simp
        refine ⟨by rw [List.length_map, ← e]; simp, ?_⟩
        intro i c y hc hy
        rw [List.getElem?_map, ← e] at hc
        rw [Array.getElem?_map] at hy
        rw [← Array.getElem?_toList] at hy
        cases hb : (str.extract 0 k).data.toList[i]? with
        | none => rw [hb] at hy; cases hy
        | some u =>
          rw [hb] at hc
          rw [hb] at hy
          cases hc; cases hy
          exact ⟨.v rfl, rfl⟩
      · have : (str.extract 0 k).size = k := by rw [ByteArray.size_extract]; omega
        simpa using this
    · cases hn
  · cases hn
theorem lenA_run {q : AV} {x : Value} (h : VRel φ q x) {m : Nat} (hl : lenA q = some m) : (Builtin.lenOf x).run P w = .ok m w := by
  unfold lenA at hl
  split at hl
  · cases hl; have := (v_inv h).1; subst this; rfl
  · cases hl; obtain ⟨p, ad, c, _, rfl, _⟩ := sl_inv h; rfl
  · cases hl; have := (v_inv h).1; subst this; rfl
  · cases hl
theorem copy_sound (hr : HRel B φ H w) {t e : TypeId} {es : Nat} {ts : Array TypeId} {ty : TypeId} (ht : ts[0]? = some t) (hd : P.underlying t = some (.slice e)) (hs : sizeO P e = some es)
    {d s : AV} {dv sv : Value} (hdr : VRel φ d dv) (hsr : VRel φ s sv) (he : cpyA H es d s = some (v, H')) :
    ∃ r w', Step B φ H w φ H' w' ∧ VRel φ v r ∧ (Builtin.copy_ ts ty #[dv, sv]).run P w = .ok r w' := by
  unfold cpyA at he
  split at he
  · cases he
  · rename_i m hm
    have hlen := lenA_run (P := P) (w := w) hsr hm
    split at he
    · cases he
      have := (v_inv hdr).1
      subst this
      refine ⟨.int .i64 0, w, .refl hr, .v rfl, ?_⟩
      have hmin : Nat.min m 0 = 0 := Nat.min_zero m
      obtain ⟨xs, _, x2, x3⟩ : ∃ xs : Array Value, True ∧ True ∧ (Builtin.firstCells es 0 sv).run P w = .ok xs w := by
        unfold lenA at hm
        split at hm
        · have := (v_inv hsr).1; subst this; exact ⟨_, trivial, trivial, rfl⟩
        · obtain ⟨p, ad, c, _, rfl, _⟩ := sl_inv hsr; exact ⟨#[], trivial, trivial, by simp [Builtin.firstCells, loadCells, loadCellsFrom]⟩
        · have := (v_inv hsr).1; subst this; exact ⟨_, trivial, trivial, rfl⟩
        · cases hm
      simp [Builtin.copy_, ht, run_underlying hd, hlen, size_run hs, x3, goInt, hmin]
    · rename_i b off len cap ex
      obtain ⟨p, ad, c, hp, rfl, h1, h2, h3, h4, h5⟩ := sl_inv hdr
      split at he
      · rename_i hmin
        cases he
        refine ⟨.int .i64 0, w, .refl hr, .v rfl, ?_⟩
        obtain ⟨xs, x3, x4⟩ : ∃ xs : Array Value, (Builtin.firstCells es 0 sv).run P w = .ok xs w ∧ xs = #[] := by
          unfold lenA at hm
          split at hm
          · have := (v_inv hsr).1; subst this; exact ⟨_, rfl, rfl⟩
          · obtain ⟨p, ad, c, _, rfl, _⟩ := sl_inv hsr; exact ⟨#[], by simp [Builtin.firstCells, loadCells, loadCellsFrom], rfl⟩
          · rename_i str
            have := (v_inv hsr).1; subst this; refine ⟨_, rfl, ?_⟩
            have e2 : (str.extract 0 0).data = #[] := by
              have e0 : (str.extract 0 0).data = str.data.extract 0 0 := by simp
              rw [e0]; simp
            rw [e2]; simp
          · cases hm
        subst x4
        simp [Builtin.copy_, ht, run_underlying hd, hlen, size_run hs, hmin, x3, goInt]
        rfl
      · rename_i k hmin
        split at he
        · rename_i news hnews
          split at he
          · rename_i H1 hw
            cases he
            have hmin2 : min m len = k + 1 := hmin
            have hle : k + 1 ≤ m := by omega
            have hle2 : k + 1 ≤ len := by omega
            obtain ⟨xs, f1, f2, f3⟩ := first_rel (P := P) hr hsr hm hle hnews
            obtain ⟨w', hs', hrun⟩ := write_step (P := P) hr hp f1 hw
            have had : ad = ⟨p.r, p.o + off, none⟩ := by
              rcases h5 with h5 | h5
              · omega
              · exact h5
            subst had
            refine ⟨.int .i64 (k + 1 : Nat), w', hs', .v rfl, ?_⟩
            simp [Builtin.copy_, ht, run_underlying hd, hlen, size_run hs, hmin, f3, goInt, hrun]
          · cases he
        · cases he
    · cases he

end
end Go.AM
