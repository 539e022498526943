/- Contracts of the functions that the statement reaches. No condition. -/
import Derived.Test.YtabhoinefficpaaPL9
import Derived.Test.YtabhoinefficpaaPL17b
set_option linter.all false
set_option maxRecDepth 10000
namespace Go.AM.PL
def encSp (s : Sp) : List GV := [.v (.int .i64 s.1), .v (.int .i64 s.2)]
theorem spV_app (p : Int) : ∀ (A B : List Rn) (a : Int), (∀ r ∈ A, 0 ≤ r.n) → spV p a (A ++ B) = spV p a A ++ spV p (a + wlen A) B
  | [], B, a, _ => by rw [List.nil_append, show wlen [] = 0 from rfl, Int.add_zero]; rfl
  | r :: A, B, a, h => by
    have ih := spV_app p A B (a + r.n) (fun x hx => h x (List.mem_cons_of_mem _ hx))
    rw [List.cons_append, spV, spV, ih, wlen_cons r A (h r (List.mem_cons_self ..)), show a + (r.n + wlen A) = a + r.n + wlen A by omega]
    split <;> rfl
theorem wlen_take {l : List Rn} {i : Nat} (h : i < l.length) (hn : 0 ≤ l[i].n) : wlen (l.take (i + 1)) = wlen (l.take i) + l[i].n := by
  rw [List.take_succ_eq_append_getElem h, wlen_app]
  have : wlen [l[i]] = l[i].n := by rw [wlen_cons _ _ hn]; show _ + wlen [] = _; rw [show wlen [] = 0 from rfl]; omega
  rw [this]
theorem sp_take {p : Int} {l : List Rn} {i : Nat} (h : i < l.length) (hl : ∀ r ∈ l, 1 ≤ r.n) : spV p 0 (l.take (i + 1)) = spV p 0 (l.take i) ++ (if l[i].p = p then [(wlen (l.take i), wlen (l.take i) + l[i].n)] else []) := by
  rw [List.take_succ_eq_append_getElem h, spV_app p _ _ _ (fun r hr => by have := hl r (List.mem_of_mem_take hr); omega), Int.zero_add]
  rfl
theorem wlen_le {l : List Rn} {i : Nat} : 0 ≤ wlen (l.take i) ∧ wlen (l.take i) ≤ wlen l := by
  have e : wlen l = wlen (l.take i) + wlen (l.drop i) := by rw [← wlen_app, List.take_append_drop]
  have : 0 ≤ wlen (l.drop i) := by unfold wlen; omega
  have : 0 ≤ wlen (l.take i) := by unfold wlen; omega
  omega
theorem wlen_tot {l : List Rn} (h : ∀ r ∈ l, 1 ≤ r.n) : wlen l = tot l := by
  induction l with
  | nil => rfl
  | cons r l ih => rw [wlen_cons r l (by have := h r (List.mem_cons_self ..); omega), ih (fun x hx => h x (List.mem_cons_of_mem _ hx))]; rfl
theorem total_wlen {l : List Rn} (h : ∀ r ∈ l, 1 ≤ r.n) (hw : wlen l < 2 ^ 62) : total l = wlen l := by
  rw [wlen_tot h] at hw ⊢
  have := foldl_tot l 0 (Int.le_refl _) (fun r hr => by have := h r hr; omega) (by omega)
  unfold total; rw [this]; omega
theorem late_ne {l : List Rn} {p q : Int} (ha : spV p 0 l ≠ []) (hb : spV q 0 l ≠ []) : lateV l p q = (spV p 0 l).foldl (lateF (spV q 0 l) (wlen l)) 0 := by unfold lateV; rw [if_neg ha, if_neg hb]
/-! ticks -/
def cnt (b : List Sp) : Int := b.foldl (fun n s => n + (s.2 - s.1)) 0
theorem cnt_from (b : List Sp) : ∀ m, b.foldl (fun n s => n + (s.2 - s.1)) m = m + cnt b := by
  induction b with
  | nil => intro m; show m = m + 0; omega
  | cons s b ih => intro m; unfold cnt; rw [List.foldl_cons, List.foldl_cons, ih, ih (0 + _)]; omega
theorem cnt_app (a b : List Sp) : cnt (a ++ b) = cnt a + cnt b := by unfold cnt; rw [List.foldl_append, cnt_from b]; rfl
theorem cnt_cons (s : Sp) (b : List Sp) : cnt (s :: b) = (s.2 - s.1) + cnt b := by unfold cnt; rw [List.foldl_cons, cnt_from]; unfold cnt; omega
theorem cnt_shift (p : Int) : ∀ (l : List Rn) (a c : Int), cnt (spV p a l) = cnt (spV p c l)
  | [], _, _ => rfl
  | r :: l, a, c => by
    rw [spV, spV]
    split
    · rw [cnt_cons, cnt_cons, cnt_shift p l (a + r.n) (c + r.n)]; show a + r.n - a + _ = c + r.n - c + _; omega
    · exact cnt_shift p l _ _
theorem cnt_rng {a e : Int} : ∀ {b : List Sp} {a : Int}, Rising a e b → 0 ≤ cnt b ∧ cnt b ≤ e - a ∧ (cnt b = 0 → b = [])
  | [], a, h => ⟨Int.le_refl _, by have : a ≤ e := h; show (0 : Int) ≤ _; omega, fun _ => rfl⟩
  | s :: b, a, h => by
    have ih := cnt_rng (a := a) h.2.2
    have := h.1; have := h.2.1
    rw [cnt_cons]
    exact ⟨by omega, by omega, fun h => by omega⟩
theorem tick_cnt {p : Int} {l : List Rn} (h : ∀ r ∈ l, 1 ≤ r.n) (hw : wlen l < 2 ^ 62) : tickV l p = cnt (spV p 0 l) := by
  induction l using snoc_ind with
  | h0 => rfl
  | h1 l r ih =>
    have hl : ∀ x ∈ l, 1 ≤ x.n := fun x hx => h x (List.mem_append_left _ hx)
    have hr := h r (by simp)
    have hwl : wlen (l ++ [r]) = wlen l + r.n := by rw [wlen_app, wlen_cons _ _ (by omega)]; show _ + (_ + wlen []) = _; rw [show wlen [] = 0 from rfl]; omega
    have h0 : 0 ≤ wlen l := by unfold wlen; omega
    have ih := ih hl (by omega)
    rw [tickV_snoc, spV_app p _ _ _ (fun x hx => by have := hl x hx; omega), cnt_app, ih]
    have hc := (cnt_rng (a := 0) (sp_rising p l 0 hl))
    by_cases c : r.p = p
    · rw [if_pos c, spV, if_pos c, cnt_cons]
      have : sadd (cnt (spV p 0 l)) r.n = cnt (spV p 0 l) + r.n := by unfold sadd; rw [if_neg (by omega)]; omega
      rw [this]; show _ = _ + (0 + wlen l + r.n - (0 + wlen l) + cnt []); rw [show cnt [] = 0 from rfl]; omega
    · rw [if_neg c, spV, if_neg c]; show _ = _ + cnt []; rw [show cnt [] = 0 from rfl]; omega
theorem sp_nil {p : Int} {l : List Rn} (h : ∀ r ∈ l, 1 ≤ r.n) : spV p 0 l = [] ↔ cnt (spV p 0 l) = 0 :=
  ⟨fun e => by rw [e]; rfl, (cnt_rng (a := 0) (sp_rising p l 0 h)).2.2⟩
/-! a frame twice; a frame that begins later -/
theorem PW_two (l : List Rn) (part v : Int) : PW (l ++ l) part v ↔ PW l part v := by
  unfold PW
  rw [wlen_app, word_app]
  by_cases h0 : wlen l = 0
  · have : word l = [] := List.length_eq_zero_iff.1 (by unfold wlen at h0; omega)
    rw [this]; simp
  · have hp : 0 < wlen l := by unfold wlen at *; omega
    have h1 := Int.emod_nonneg v (show wlen l ≠ 0 by omega)
    have h2 := Int.emod_lt_of_pos v hp
    have h3 := Int.emod_nonneg v (show wlen l + wlen l ≠ 0 by omega)
    have h4 := Int.emod_lt_of_pos v (show 0 < wlen l + wlen l by omega)
    have h5 : (v % (wlen l + wlen l)) % wlen l = v % wlen l := by rw [← Int.two_mul, Int.emod_emod_of_dvd _ (Int.dvd_mul_left ..)]
    have hl : (word l).length = (wlen l).toNat := by unfold wlen; omega
    by_cases c : v % (wlen l + wlen l) < wlen l
    · rw [Int.emod_eq_of_lt h3 c] at h5
      rw [h5, List.getElem?_append_left (by omega)]
    · have h6 : v % (wlen l + wlen l) - wlen l = v % wlen l := by
        rw [← h5, ← Int.emod_eq_of_lt (show 0 ≤ v % (wlen l + wlen l) - wlen l by omega) (show _ < wlen l by omega), Int.sub_emod_right]
      rw [List.getElem?_append_right (by omega), hl, show (v % (wlen l + wlen l)).toNat - (wlen l).toNat = (v % wlen l).toNat by omega]
theorem PW_round (A B : List Rn) (part v : Int) : PW (B ++ A) part v ↔ PW (A ++ B) part (v + wlen A) := by
  unfold PW
  rw [wlen_app, wlen_app, word_app, word_app, Int.add_comm (wlen B) (wlen A)]
  by_cases h0 : wlen A + wlen B = 0
  · have ha : 0 ≤ wlen A := by unfold wlen; omega
    have hb : 0 ≤ wlen B := by unfold wlen; omega
    have e1 : word A = [] := List.length_eq_zero_iff.1 (by unfold wlen at *; omega)
    have e2 : word B = [] := List.length_eq_zero_iff.1 (by unfold wlen at *; omega)
    rw [e1, e2]; simp
  · have ha : (word A).length = (wlen A).toNat := by unfold wlen; omega
    have hb : (word B).length = (wlen B).toNat := by unfold wlen; omega
    have ha0 : 0 ≤ wlen A := by unfold wlen; omega
    have hb0 : 0 ≤ wlen B := by unfold wlen; omega
    have h1 := Int.emod_nonneg v (show wlen A + wlen B ≠ 0 by omega)
    have h2 := Int.emod_lt_of_pos v (show 0 < wlen A + wlen B by omega)
    have h3 : (v + wlen A) % (wlen A + wlen B) = (v % (wlen A + wlen B) + wlen A) % (wlen A + wlen B) := by rw [Int.emod_add_emod]
    generalize v % (wlen A + wlen B) = u at *
    rw [h3]
    by_cases c : u < wlen B
    · rw [Int.emod_eq_of_lt (by omega) (by omega), List.getElem?_append_left (by omega), List.getElem?_append_right (by omega)]
      rw [show (u + wlen A).toNat - (word A).length = u.toNat by omega]
    · have h4 : (u + wlen A) % (wlen A + wlen B) = u - wlen B := by
        rw [← Int.emod_eq_of_lt (show 0 ≤ u - wlen B by omega) (show u - wlen B < wlen A + wlen B by omega), show u + wlen A = (u - wlen B) + (wlen A + wlen B) by omega, Int.add_emod_right]
      rw [h4, List.getElem?_append_right (by omega), List.getElem?_append_left (by omega), hb, show u.toNat - (wlen B).toNat = (u - wlen B).toNat by omega]
theorem late_two {l : List Rn} (h : ∀ r ∈ l, 1 ≤ r.n) (p q : Int) : lateV (l ++ l) p q = lateV l p q := by
  have h2 : ∀ r ∈ l ++ l, 1 ≤ r.n := fun r hr => (List.mem_append.1 hr).elim (h r) (h r)
  have hsp : ∀ p, spV p 0 (l ++ l) = [] ↔ spV p 0 l = [] := fun p => by
    rw [spV_app p _ _ _ (fun x hx => by have := h x hx; omega), List.append_eq_nil_iff]
    refine ⟨fun k => k.1, fun k => ⟨k, ?_⟩⟩
    have : cnt (spV p (0 + wlen l) l) = 0 := by rw [cnt_shift p l _ 0, k]; rfl
    exact (cnt_rng (a := 0) (sp_rising p l _ h)).2.2 this
  by_cases ha : spV p 0 l = []
  · unfold lateV; rw [if_pos ha, if_pos ((hsp p).2 ha)]
  · by_cases hb : spV q 0 l = []
    · unfold lateV; rw [if_neg ha, if_pos hb, if_neg (fun c => ha ((hsp p).1 c)), if_pos ((hsp q).2 hb)]
    · have k1 := (late_is h2 (fun c => ha ((hsp p).1 c)) (fun c => hb ((hsp q).1 c))).1
      have k2 := (late_is h ha hb).1
      exact k1.uniq (k2.shift (c := 0) (fun t => by rw [PW_two, Int.add_zero]) (fun t => by rw [PW_two, Int.add_zero]))
theorem sp_round {A B : List Rn} (hA : ∀ r ∈ A, 1 ≤ r.n) (hB : ∀ r ∈ B, 1 ≤ r.n) (p : Int) : cnt (spV p 0 (B ++ A)) = cnt (spV p 0 (A ++ B)) := by
  rw [spV_app p _ _ _ (fun x hx => by have := hB x hx; omega), spV_app p _ _ _ (fun x hx => by have := hA x hx; omega), cnt_app, cnt_app, cnt_shift p A _ 0, cnt_shift p B _ (0 + wlen A)]; omega
theorem late_round {A B : List Rn} (hA : ∀ r ∈ A, 1 ≤ r.n) (hB : ∀ r ∈ B, 1 ≤ r.n) (p q : Int) : lateV (B ++ A) p q = lateV (A ++ B) p q := by
  have h1 : ∀ r ∈ A ++ B, 1 ≤ r.n := fun r hr => (List.mem_append.1 hr).elim (hA r) (hB r)
  have h2 : ∀ r ∈ B ++ A, 1 ≤ r.n := fun r hr => (List.mem_append.1 hr).elim (hB r) (hA r)
  have hsp : ∀ p, spV p 0 (B ++ A) = [] ↔ spV p 0 (A ++ B) = [] := fun p => by rw [sp_nil h2, sp_nil h1, sp_round hA hB]
  by_cases ha : spV p 0 (A ++ B) = []
  · unfold lateV; rw [if_pos ha, if_pos ((hsp p).2 ha)]
  · by_cases hb : spV q 0 (A ++ B) = []
    · unfold lateV; rw [if_neg ha, if_pos hb, if_neg (fun c => ha ((hsp p).1 c)), if_pos ((hsp q).2 hb)]
    · have k1 := (late_is h2 (fun c => ha ((hsp p).1 c)) (fun c => hb ((hsp q).1 c))).1
      have k2 := (late_is h1 ha hb).1
      exact k1.uniq (k2.shift (c := wlen A) (fun t => PW_round A B p t) (fun t => PW_round A B q t))
/-! gaps -/
def spD (b : List Sp) (i : Nat) : Sp := b.getD i (0, 0)
def gapI (b : List Sp) (len : Int) : Nat → Int
  | 0 => (spD b 0).1 + len - (spD b (b.length - 1)).2
  | i + 1 => max (gapI b len i) ((spD b (i + 1)).1 - (spD b i).2)
def gapV (l : List Rn) (p : Int) : Int := if spV p 0 l = [] then -1 else gapI (spV p 0 l) (wlen l) ((spV p 0 l).length - 1)
theorem Rising.spD {e : Int} : ∀ {b : List Sp} {a : Int}, Rising a e b → ∀ i, i + 1 < b.length → (spD b i).2 ≤ (PL.spD b (i + 1)).1
  | [], _, _, i, h => by simp at h
  | [s], _, _, i, h => by simp at h
  | s :: s' :: b, a, h, 0, _ => h.2.2.1
  | s :: s' :: b, a, h, i + 1, hi => Rising.spD h.2.2 i (by simp only [List.length_cons] at hi ⊢; omega)
theorem spD_mem {b : List Sp} {i : Nat} (h : i < b.length) : spD b i ∈ b := by
  unfold spD; rw [List.getD_eq_getElem?_getD, List.getElem?_eq_getElem h]; exact List.getElem_mem h
theorem mem_spD {b : List Sp} {s : Sp} (h : s ∈ b) : ∃ i, i < b.length ∧ spD b i = s := by
  obtain ⟨i, hi, e⟩ := List.getElem_of_mem h
  exact ⟨i, hi, by unfold spD; rw [List.getD_eq_getElem?_getD, List.getElem?_eq_getElem hi, e]; rfl⟩
theorem gapI_ge (b : List Sp) (len : Int) : ∀ k, gapI b len 0 ≤ gapI b len k ∧ ∀ i, i < k → (spD b (i + 1)).1 - (spD b i).2 ≤ gapI b len k
  | 0 => ⟨Int.le_refl _, fun i h => by omega⟩
  | k + 1 => by
    have ih := gapI_ge b len k
    have e : gapI b len (k + 1) = max (gapI b len k) ((spD b (k + 1)).1 - (spD b k).2) := rfl
    refine ⟨by omega, fun i hi => ?_⟩
    by_cases c : i = k
    · subst c; omega
    · have := ih.2 i (by omega); omega
theorem gapI_is (b : List Sp) (len : Int) : ∀ k, gapI b len k = gapI b len 0 ∨ ∃ i, i < k ∧ gapI b len k = (spD b (i + 1)).1 - (spD b i).2
  | 0 => .inl rfl
  | k + 1 => by
    have e : gapI b len (k + 1) = max (gapI b len k) ((spD b (k + 1)).1 - (spD b k).2) := rfl
    rcases Int.le_total (gapI b len k) ((spD b (k + 1)).1 - (spD b k).2) with c | c
    · exact .inr ⟨k, by omega, by omega⟩
    · have e2 : gapI b len (k + 1) = gapI b len k := by omega
      rw [e2]
      rcases gapI_is b len k with h | ⟨i, hi, h⟩
      · exact .inl h
      · exact .inr ⟨i, by omega, h⟩
theorem Rising.mono {e : Int} {b : List Sp} {a : Int} (h : Rising a e b) : ∀ i j, i < j → j < b.length → (PL.spD b i).2 ≤ (PL.spD b j).1 := fun i j hij hj => by
  obtain ⟨d, rfl⟩ : ∃ d, j = i + 1 + d := ⟨j - i - 1, by omega⟩
  clear hij
  induction d with
  | zero => exact h.spD i (by omega)
  | succ d ih =>
    have ih := ih (by omega)
    have h1 := h.spD (i + 1 + d) (by omega)
    have h2 := h.mem (PL.spD b (i + 1 + d)) (spD_mem (by omega))
    rw [show i + 1 + (d + 1) = i + 1 + d + 1 by omega]
    omega
theorem gap_late {l : List Rn} (h : ∀ r ∈ l, 1 ≤ r.n) {p : Int} (ha : spV p 0 l ≠ []) : lateV l p p = gapV l p + 1 := by
  have h0 := sp_pos h ha
  have hr := sp_rising p l 0 h
  rw [Int.zero_add] at hr
  refine (late_is h ha ha).1.uniq ?_
  have hin : ∀ v, PW l p v ↔ inS (spV p 0 l) (v % wlen l) := fun v => PW_in h p v h0
  have hper : ∀ v d, PW l p (v % wlen l + d) ↔ PW l p (v + d) := fun v d => by unfold PW; rw [Int.emod_add_emod]
  have hmod : ∀ v, 0 ≤ v → v < wlen l → v % wlen l = v := fun v a b => Int.emod_eq_of_lt a b
  have hmod2 : ∀ v, wlen l ≤ v → v < wlen l + wlen l → v % wlen l = v - wlen l := fun v a b => by
    rw [← Int.emod_eq_of_lt (show 0 ≤ v - wlen l by omega) (show v - wlen l < wlen l by omega), Int.sub_emod_right]
  unfold gapV
  rw [if_neg ha]
  generalize hB : spV p 0 l = B at *
  have hlen : 0 < B.length := List.length_pos_iff.2 ha
  have hm := hr.mem
  have hge := gapI_ge B (wlen l) (B.length - 1)
  have h00 := hm _ (spD_mem (b := B) (i := 0) hlen)
  have hLL := hm _ (spD_mem (b := B) (i := B.length - 1) (by omega))
  have hg0 : gapI B (wlen l) 0 = (spD B 0).1 + wlen l - (spD B (B.length - 1)).2 := rfl
  generalize hG : gapI B (wlen l) (B.length - 1) = G at *
  refine ⟨fun t ht => ?_, ?_⟩
  · obtain ⟨s, hs, k1, k2⟩ := (hin t).1 ht
    generalize ht0 : t % wlen l = t0 at *
    have hsm := hm s hs
    suffices hx : ∃ d, 1 ≤ d ∧ d ≤ G + 1 ∧ PW l p (t0 + d) by
      obtain ⟨d, a, b, c⟩ := hx
      exact ⟨d, a, b, by rw [← hper, ht0]; exact c⟩
    by_cases c : t0 + 1 < s.2
    · exact ⟨1, by omega, by omega, (hin _).2 (by rw [hmod _ (by omega) (by omega)]; exact ⟨s, hs, by omega, by omega⟩)⟩
    · obtain ⟨i, hi, e⟩ := mem_spD hs
      by_cases ci : i + 1 < B.length
      · have h1 := hm _ (spD_mem (b := B) (i := i + 1) ci)
        have h2 := hr.spD i ci
        have h3 := hge.2 i (by omega)
        refine ⟨(spD B (i + 1)).1 - t0, by rw [e] at h2; omega, by rw [e] at h3; omega, (hin _).2 ?_⟩
        rw [show t0 + ((spD B (i + 1)).1 - t0) = (spD B (i + 1)).1 by omega, hmod _ (by omega) (by omega)]
        exact ⟨_, spD_mem (b := B) ci, by omega, by omega⟩
      · have ei : i = B.length - 1 := by omega
        rw [ei] at e
        rw [e] at hg0 hLL
        refine ⟨wlen l + (spD B 0).1 - t0, by omega, by omega, (hin _).2 ?_⟩
        rw [show t0 + (wlen l + (spD B 0).1 - t0) = wlen l + (spD B 0).1 by omega, hmod2 _ (by omega) (by omega)]
        exact ⟨_, spD_mem (b := B) hlen, by omega, by omega⟩
  · rcases gapI_is B (wlen l) (B.length - 1) with c | ⟨i, hi, c⟩
    · rw [hG] at c
      refine ⟨(spD B (B.length - 1)).2 - 1, (hin _).2 (by rw [hmod _ (by omega) (by omega)]; exact ⟨_, spD_mem (b := B) (i := B.length - 1) (by omega), by omega, by omega⟩), fun d d1 d2 k => ?_⟩
      have k := (hin _).1 k
      by_cases cv : (spD B (B.length - 1)).2 - 1 + d < wlen l
      · rw [hmod _ (by omega) cv] at k
        obtain ⟨x, hx, x1, x2⟩ := k
        obtain ⟨j, hj, ej⟩ := mem_spD hx
        by_cases cj : j = B.length - 1
        · subst cj
          have e1 := congrArg Prod.fst ej
          have e2 := congrArg Prod.snd ej
          omega
        · have := hr.mono j (B.length - 1) (by omega) (by omega)
          have := hm x hx
          have e1 := congrArg Prod.fst ej
          have e2 := congrArg Prod.snd ej
          omega
      · rw [hmod2 _ (by omega) (by omega)] at k
        obtain ⟨x, hx, x1, x2⟩ := k
        obtain ⟨j, hj, ej⟩ := mem_spD hx
        have hxm := hm x hx
        by_cases cj : j = 0
        · subst cj; rw [← ej] at x1; omega
        · have := hr.mono 0 j (by omega) hj
          rw [ej] at this; omega
    · rw [hG] at c
      have h1 := hm _ (spD_mem (b := B) (i := i) (by omega))
      have h2 := hm _ (spD_mem (b := B) (i := i + 1) (by omega))
      refine ⟨(spD B i).2 - 1, (hin _).2 (by rw [hmod _ (by omega) (by omega)]; exact ⟨_, spD_mem (b := B) (i := i) (by omega), by omega, by omega⟩), fun d d1 d2 k => ?_⟩
      have k := (hin _).1 k
      rw [hmod _ (by omega) (by omega)] at k
      obtain ⟨x, hx, x1, x2⟩ := k
      obtain ⟨j, hj, ej⟩ := mem_spD hx
      rcases Nat.lt_trichotomy j (i + 1) with cj | cj | cj
      · by_cases cc : j = i
        · subst cc; rw [← ej] at x2; omega
        · have := hr.mono j i (by omega) (by omega)
          have hxm := hm x hx
          rw [ej] at this; omega
      · subst cj; rw [← ej] at x1; omega
      · have := hr.mono (i + 1) j cj hj
        rw [ej] at this; omega
end Go.AM.PL
