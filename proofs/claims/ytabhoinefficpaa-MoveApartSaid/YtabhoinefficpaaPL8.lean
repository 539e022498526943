/- Contracts of the functions that the statement reaches. No condition. -/
import Derived.Test.YtabhoinefficpaaPLb
set_option linter.all false
set_option maxRecDepth 10000
namespace Go.AM.PL
def tstep (R : List Rn) (r : Rn) : List Rn :=
  if r.n < 1 then R else match R with
  | [] => [r]
  | q :: Q => if q.p = r.p then ⟨q.p, sadd q.n r.n⟩ :: Q else r :: q :: Q
def tidyR (l : List Rn) : List Rn := l.foldl tstep []
def tidyV (l : List Rn) : List Rn := (tidyR l).reverse
def hdR (R : List Rn) : Rn := R.headD ⟨0, 0⟩
theorem rtop {R : List Rn} (h : 0 < R.length) : R.reverse[R.length - 1]? = some (hdR R) := by
  cases R with
  | nil => simp at h
  | cons q Q => rw [List.reverse_cons, List.getElem?_append_right (by simp)]; simp [hdR]
theorem rset {R : List Rn} (h : 0 < R.length) (z : Rn) : R.reverse.set (R.length - 1) z = (z :: R.tail).reverse := by
  cases R with
  | nil => simp at h
  | cons q Q =>
    rw [List.reverse_cons, List.set_append_right _ _ (by simp)]
    simp
theorem tstep_0 {R : List Rn} {r : Rn} (h : r.n < 1) : tstep R r = R := by unfold tstep; rw [if_pos h]
theorem tstep_T {R : List Rn} {r : Rn} (h : ¬ r.n < 1) (h2 : 0 < R.length) (h3 : (hdR R).p = r.p) : tstep R r = ⟨(hdR R).p, sadd (hdR R).n r.n⟩ :: R.tail := by
  unfold tstep
  rw [if_neg h]
  cases R with
  | nil => simp at h2
  | cons q Q =>
    have h3 : q.p = r.p := h3
    show (if q.p = r.p then _ else _) = _
    rw [if_pos h3]; rfl
theorem tstep_F {R : List Rn} {r : Rn} (h : ¬ r.n < 1) (h2 : R.length = 0 ∨ (hdR R).p ≠ r.p) : tstep R r = r :: R := by
  unfold tstep
  rw [if_neg h]
  cases R with
  | nil => rfl
  | cons q Q =>
    have h3 : q.p ≠ r.p := by
      rcases h2 with h2 | h2
      · simp at h2
      · exact h2
    show (if q.p = r.p then _ else _) = _
    rw [if_neg h3]
theorem tidyR_snoc {l : List Rn} {i : Nat} (h : i < l.length) : tidyR (l.take (i + 1)) = tstep (tidyR (l.take i)) l[i] := by
  unfold tidyR; rw [foldl_take _ _ h]
theorem tstep_ok {R : List Rn} {r : Rn} (h : ∀ q ∈ R, okN q ∧ 1 ≤ q.n) (hr : okN r) : ∀ q ∈ tstep R r, okN q ∧ 1 ≤ q.n := by
  by_cases c : r.n < 1
  · rw [tstep_0 c]; exact h
  · cases R with
    | nil => intro q hq; rw [tstep_F c (.inl rfl)] at hq; rw [List.mem_singleton.1 hq]; exact ⟨hr, by omega⟩
    | cons q Q =>
      have hq0 := h q (List.mem_cons_self ..)
      by_cases d : q.p = r.p
      · intro z hz
        rw [tstep_T (R := q :: Q) c (by simp) d] at hz
        rcases List.mem_cons.1 hz with e | e
        · rw [e]
          unfold okN i64 at *
          have := hq0.1.1
          have h2 : 1 ≤ sadd q.n r.n ∧ sadd q.n r.n < 2 ^ 63 := by unfold sadd; split <;> omega
          show (_ ∧ _) ∧ _
          dsimp only [hdR, List.headD_cons]
          omega
        · exact h z (List.mem_cons_of_mem _ e)
      · intro z hz
        rw [tstep_F (R := q :: Q) c (.inr d)] at hz
        rcases List.mem_cons.1 hz with e | e
        · rw [e]; exact ⟨hr, by omega⟩
        · exact h z e
theorem tidyR_ok : ∀ (l : List Rn), (∀ r ∈ l, okN r) → ∀ q ∈ tidyR l, okN q ∧ 1 ≤ q.n := by
  have key : ∀ (l R : List Rn), (∀ r ∈ l, okN r) → (∀ q ∈ R, okN q ∧ 1 ≤ q.n) → ∀ q ∈ l.foldl tstep R, okN q ∧ 1 ≤ q.n := by
    intro l
    induction l with
    | nil => intro R _ h; exact h
    | cons r l ih => intro R hl h; exact ih (tstep R r) (fun x hx => hl x (List.mem_cons_of_mem _ hx)) (tstep_ok h (hl r (List.mem_cons_self ..)))
  exact fun l hl => key l [] hl (fun q hq => by cases hq)
theorem tidyR_len : ∀ (l : List Rn), (tidyR l).length ≤ l.length := by
  have key : ∀ (l R : List Rn), (l.foldl tstep R).length ≤ R.length + l.length := by
    intro l
    induction l with
    | nil => intro R; exact Nat.le_refl _
    | cons r l ih =>
      intro R
      have h1 := ih (tstep R r)
      have h2 : (tstep R r).length ≤ R.length + 1 := by
        unfold tstep
        split
        · omega
        · cases R with
          | nil => simp
          | cons q Q =>
            show (if q.p = r.p then _ else _ : List Rn).length ≤ _
            split <;> simp
      rw [List.foldl_cons, List.length_cons]; omega
  intro l
  have := key l []
  simpa [tidyR] using this
theorem tidyV_ok {l : List Rn} (h : ∀ r ∈ l, okN r) : ∀ q ∈ tidyV l, okN q := fun q hq => (tidyR_ok l h q (List.mem_reverse.1 hq)).1
theorem tidyV_len (l : List Rn) : (tidyV l).length ≤ l.length := by unfold tidyV; rw [List.length_reverse]; exact tidyR_len l
theorem sadd_assoc (a b c : Int) : sadd (sadd a b) c = sadd a (sadd b c) := by
  unfold sadd
  (repeat' split) <;> omega
theorem tstep_two {W : List Rn} {q r : Rn} (h : q.p = r.p) (hq : 1 ≤ q.n) (hr : ¬ r.n < 1) : tstep (tstep W q) r = tstep W ⟨q.p, sadd q.n r.n⟩ := by
  have hs : ¬ sadd q.n r.n < 1 := by unfold sadd; split <;> omega
  cases W with
  | nil =>
    rw [tstep_F (R := []) (by omega) (.inl rfl), tstep_T (R := [q]) hr (by simp) h, tstep_F (R := []) hs (.inl rfl)]; rfl
  | cons w W =>
    by_cases c : w.p = q.p
    · rw [tstep_T (R := w :: W) (by omega) (by simp) c]
      show tstep (⟨w.p, sadd w.n q.n⟩ :: W) r = _
      rw [tstep_T (R := ⟨w.p, sadd w.n q.n⟩ :: W) hr (by simp) (by show w.p = r.p; omega), tstep_T (R := w :: W) (r := ⟨q.p, sadd q.n r.n⟩) hs (by simp) c]
      show (⟨w.p, sadd (sadd w.n q.n) r.n⟩ : Rn) :: W = ⟨w.p, sadd w.n (sadd q.n r.n)⟩ :: W
      rw [sadd_assoc]
    · rw [tstep_F (R := w :: W) (by omega) (.inr c), tstep_T (R := q :: w :: W) hr (by simp) h, tstep_F (R := w :: W) (r := ⟨q.p, sadd q.n r.n⟩) hs (.inr c)]; rfl
/-- rows one by one, from the last one on -/
theorem snoc_ind {P : List Rn → Prop} (h0 : P []) (h1 : ∀ l r, P l → P (l ++ [r])) (l : List Rn) : P l := by
  have : ∀ n (l : List Rn), l.length = n → P l := by
    intro n
    induction n with
    | zero => intro l hl; rw [List.eq_nil_of_length_eq_zero hl]; exact h0
    | succ n ih =>
      intro l hl
      have hne : l ≠ [] := fun e => by rw [e] at hl; simp at hl
      rw [← List.dropLast_concat_getLast hne]
      exact h1 _ _ (ih _ (by rw [List.length_dropLast]; omega))
  exact this _ l rfl
theorem tidyR_app1 (l : List Rn) (r : Rn) : tidyR (l ++ [r]) = tstep (tidyR l) r := by unfold tidyR; rw [List.foldl_append]; rfl
theorem fold_tidy (R : List Rn) (Y : List Rn) : (∀ r ∈ Y, okN r) → (tidyV Y).foldl tstep R = Y.foldl tstep R := by
  induction Y using snoc_ind with
  | h0 => intro _; rfl
  | h1 Y r ih =>
    intro hY
    have hYo : ∀ x ∈ Y, okN x := fun x hx => hY x (List.mem_append_left _ hx)
    have ih := ih hYo
    have hq := tidyR_ok Y hYo
    rw [List.foldl_append]
    show (tidyR (Y ++ [r])).reverse.foldl tstep R = tstep (Y.foldl tstep R) r
    rw [← ih, tidyR_app1]
    by_cases c : r.n < 1
    · rw [tstep_0 c, tstep_0 c]; rfl
    · by_cases d : 0 < (tidyR Y).length ∧ (hdR (tidyR Y)).p = r.p
      · rw [tstep_T c d.1 d.2]
        unfold tidyV
        cases e : tidyR Y with
        | nil => rw [e] at d; simp at d
        | cons q Q =>
          rw [e] at d
          rw [List.reverse_cons, List.reverse_cons, List.foldl_append, List.foldl_append]
          exact (tstep_two (q := q) d.2 (hq q (by rw [e]; exact List.mem_cons_self ..)).2 c).symm
      · rw [tstep_F c (by by_cases z : (tidyR Y).length = 0
                          · exact .inl z
                          · exact .inr (fun h => d ⟨by omega, h⟩)), List.reverse_cons, List.foldl_append]
        rfl
theorem tidy_parts (X Y : List Rn) (hX : ∀ r ∈ X, okN r) (hY : ∀ r ∈ Y, okN r) : tidyV (tidyV X ++ tidyV Y) = tidyV (X ++ Y) := by
  unfold tidyV tidyR
  rw [List.foldl_append, List.foldl_append]
  have h1 := fold_tidy [] X hX
  have h2 := fold_tidy (X.foldl tstep []) Y hY
  unfold tidyV tidyR at h1 h2
  rw [h1, h2]
def tickV (l : List Rn) (p : Int) : Int := l.foldl (fun n r => if r.p = p then sadd n r.n else n) 0
theorem tickV_snoc (l : List Rn) (r : Rn) (p : Int) : tickV (l ++ [r]) p = if r.p = p then sadd (tickV l p) r.n else tickV l p := by unfold tickV; rw [List.foldl_append]; rfl
theorem tickV_rng (l : List Rn) (p : Int) : 0 ≤ tickV l p ∧ tickV l p < 2 ^ 63 := by
  induction l using snoc_ind with
  | h0 => show 0 ≤ (0 : Int) ∧ (0 : Int) < 2 ^ 63; omega
  | h1 l r ih =>
    rw [tickV_snoc]
    split
    · unfold sadd; split <;> omega
    · exact ih
theorem sadd_0 {a b : Int} (h : 0 ≤ a ∧ a < 2 ^ 63) (hb : b < 1) : sadd a b = a := by unfold sadd; split <;> omega
theorem tick_tidy (Y : List Rn) (p : Int) : (∀ r ∈ Y, okN r) → tickV (tidyV Y) p = tickV Y p := by
  induction Y using snoc_ind with
  | h0 => intro _; rfl
  | h1 Y r ih =>
    intro hY
    have ih := ih (fun x hx => hY x (List.mem_append_left _ hx))
    have hr := tickV_rng Y p
    rw [tickV_snoc, ← ih] at *
    show tickV (tidyR (Y ++ [r])).reverse p = _
    rw [tidyR_app1]
    by_cases c : r.n < 1
    · rw [tstep_0 c]
      show tickV (tidyV Y) p = _
      split
      · rw [sadd_0 hr c]
      · rfl
    · by_cases d : 0 < (tidyR Y).length ∧ (hdR (tidyR Y)).p = r.p
      · rw [tstep_T c d.1 d.2]
        unfold tidyV
        cases e : tidyR Y with
        | nil => rw [e] at d; simp at d
        | cons q Q =>
          rw [e] at d
          have hd : q.p = r.p := d.2
          rw [List.reverse_cons, List.reverse_cons, tickV_snoc, tickV_snoc]
          show (if q.p = p then sadd (tickV Q.reverse p) (sadd q.n r.n) else tickV Q.reverse p) = _
          by_cases z : r.p = p
          · rw [if_pos z, if_pos (by omega), if_pos (by omega), sadd_assoc]
          · rw [if_neg z, if_neg (by omega), if_neg (by omega)]
      · rw [tstep_F c (by by_cases z : (tidyR Y).length = 0
                          · exact .inl z
                          · exact .inr (fun h => d ⟨by omega, h⟩)), List.reverse_cons, tickV_snoc]
        rfl
def both (a b : Int) (r : Rn) : Bool := (r.p == a) || (r.p == b)
def projV (l : List Rn) (a b : Int) : List Rn := tidyV (l.filter (both a b))
theorem tick_filter (l : List Rn) (a b : Int) : tickV (l.filter (both a b)) a = tickV l a := by
  induction l using snoc_ind with
  | h0 => rfl
  | h1 l r ih =>
    rw [List.filter_append, tickV_snoc, ← ih]
    by_cases c : both a b r = true
    · rw [List.filter_cons_of_pos c, List.filter_nil, tickV_snoc]
    · rw [List.filter_cons_of_neg c, List.filter_nil, List.append_nil, if_neg (fun e => c (by unfold both; simp [e]))]
theorem tick_proj (l : List Rn) (a b : Int) (h : ∀ r ∈ l, okN r) : tickV (projV l a b) a = tickV l a := by
  unfold projV
  rw [tick_tidy _ _ (fun r hr => h r (List.mem_filter.1 hr).1), tick_filter]
theorem proj_parts (l : List Rn) (k : Nat) (a b : Int) (h : ∀ r ∈ l, okN r) : tidyV (projV (l.take k) a b ++ projV (l.drop k) a b) = projV l a b := by
  unfold projV
  rw [tidy_parts _ _ (fun r hr => h r (List.mem_of_mem_take (List.mem_filter.1 hr).1)) (fun r hr => h r (List.mem_of_mem_drop (List.mem_filter.1 hr).1)), ← List.filter_append, List.take_append_drop]
theorem projV_len (l : List Rn) (a b : Int) : (projV l a b).length ≤ l.length := by
  unfold projV
  exact Nat.le_trans (tidyV_len _) (List.length_filter_le _ _)
theorem filter_snoc {l : List Rn} {i : Nat} (h : i < l.length) (f : Rn → Bool) : (l.take (i + 1)).filter f = (l.take i).filter f ++ (if f l[i] = true then [l[i]] else []) := by
  rw [List.take_succ_eq_append_getElem h, List.filter_append]
  congr 1
  split
  · rename_i c; rw [List.filter_cons_of_pos c]; rfl
  · rename_i c; rw [List.filter_cons_of_neg c]; rfl

theorem hdR_mem {R : List Rn} (h : 0 < R.length) : hdR R ∈ R := by
  cases R with
  | nil => simp at h
  | cons q Q => exact List.mem_cons_self ..
instance : DecidableEq Rn := fun x y => decidable_of_iff (x.p = y.p ∧ x.n = y.n) ⟨fun h => by cases x; cases y; simp at h; simp [h], fun h => by rw [h]; exact ⟨rfl, rfl⟩⟩
def rneq (x y : Rn) : Bool := x.p == y.p && (x.n == y.n && true)
theorem rneq_eq (x y : Rn) : rneq x y = decide (x = y) := by
  obtain ⟨a, b⟩ := x
  obtain ⟨a', b'⟩ := y
  unfold rneq
  by_cases h : (⟨a, b⟩ : Rn) = ⟨a', b'⟩
  · rw [decide_eq_true h]; cases h; simp
  · rw [decide_eq_false h]
    simp only [Rn.mk.injEq] at h
    simp
    omega
theorem rn_t {x y : Rn} (h : true = rneq x y) : x = y := of_decide_eq_true ((rneq_eq x y).symm.trans h.symm)
theorem rn_f {x y : Rn} (h : ¬ true = rneq x y) : x ≠ y := fun e => h (((rneq_eq x y).trans (decide_eq_true e)).symm)
theorem tickV_take {l : List Rn} {i : Nat} (h : i < l.length) (p : Int) : tickV (l.take (i + 1)) p = if l[i].p = p then sadd (tickV (l.take i) p) l[i].n else tickV (l.take i) p := by
  rw [List.take_succ_eq_append_getElem h, tickV_snoc]
theorem both_T {a b : Int} {r : Rn} (h : r.p = a ∨ r.p = b) : both a b r = true := by unfold both; simpa using h
theorem both_F {a b : Int} {r : Rn} (h : ¬ (r.p = a ∨ r.p = b)) : ¬ both a b r = true := by unfold both; simpa using h
theorem gd8 {α : Type} {l : List α} {i : Nat} (d : α) (h : i < l.length) : l[i]? = some (l.getD i d) := by
  rw [List.getD_eq_getElem?_getD, List.getElem?_eq_getElem h]; rfl
def encO (b : Bool) : List GV := [.v (.bool b)]
def encBs (r : List Bool) : List GV := [.fsl 1 (r.map encO)]
def toV (dep : List (List Bool)) (a b : Int) : Bool := ((((decide (a ≥ 0) && decide (b ≥ 0)) && decide (a < (dep.length : Int))) && decide (b < (((dep.getD a.toNat []).length : Nat) : Int))) && (dep.getD a.toNat []).getD b.toNat false)
def depV8 (dep : List (List Bool)) (a b : Int) : Bool := ((a == b) || toV dep a b) || toV dep b a
section
variable (a b : List Rn) (dep : List (List Bool))
def difV (x y : Int) : Bool := depV8 dep x y && !decide (projV a x y = projV b x y)
def dyV (x : Nat) : Nat → Nat → Option (Nat × Nat)
  | 0, _ => none
  | k + 1, y => if difV a b dep x y = true then some (x, y) else dyV x k (y + 1)
def dxV : Nat → Nat → Option (Nat × Nat)
  | 0, _ => none
  | k + 1, x => match dyV a b dep x (6 - x) x with
    | some z => some z
    | none => dxV k (x + 1)
def differV : Int × Int × Bool := match dxV a b dep 6 0 with
  | some (x, y) => ((x : Int), (y : Int), true)
  | none => (-1, -1, tickV a (-1) != tickV b (-1))
end
def swapV (l : List Rn) (a : Int) : List Rn := if 0 ≤ a ∧ a < (l.length : Int) - 1 then (l.set a.toNat (l.getD (a.toNat + 1) ⟨0, 0⟩)).set (a.toNat + 1) (l.getD a.toNat ⟨0, 0⟩) else l

theorem difV_T {a b : List Rn} {dep : List (List Bool)} {x y : Int} (h : depV8 dep x y = true ∧ ¬ projV a x y = projV b x y) : difV a b dep x y = true := by
  unfold difV; rw [h.1, decide_eq_false h.2]; rfl
theorem difV_F {a b : List Rn} {dep : List (List Bool)} {x y : Int} (h : depV8 dep x y = false ∨ projV a x y = projV b x y) : ¬ difV a b dep x y = true := by
  unfold difV
  rcases h with h | h
  · rw [h]; simp
  · rw [decide_eq_true h]; simp
theorem swap_len (l : List Rn) (a : Int) : (swapV l a).length = l.length := by unfold swapV; split <;> simp

def kl8 : List Rn := [⟨0, 1⟩, ⟨1, 2⟩, ⟨-1, 3⟩]
def kx8 : List Rn := [⟨1, 2⟩, ⟨0, 1⟩, ⟨-1, 3⟩]
theorem ok3 {a b c : Rn} (ha : okN a) (hb : okN b) (hc : okN c) : ∀ r ∈ [a, b, c], okN r := fun r hr => by
  simp only [List.mem_cons, List.not_mem_nil, or_false] at hr
  rcases hr with rfl | rfl | rfl <;> assumption
theorem kl8_ok : ∀ r ∈ kl8, okN r := ok3 (by unfold okN i64; decide) (by unfold okN i64; decide) (by unfold okN i64; decide)
theorem kx8_ok : ∀ r ∈ kx8, okN r := ok3 (by unfold okN i64; decide) (by unfold okN i64; decide) (by unfold okN i64; decide)
theorem okT_N4 {l : List Rn} (h : ∀ r ∈ l, okT 4 r) : ∀ r ∈ l, okN r := fun r hr => by
  have := h r hr
  unfold okT at this
  unfold okN i64; omega
theorem projV_ok {l : List Rn} {a b : Int} (h : ∀ r ∈ l, okN r) : ∀ r ∈ projV l a b, okN r := tidyV_ok (fun r hr => h r (List.mem_filter.1 hr).1)
theorem ok_app {X Y : List Rn} (hX : ∀ r ∈ X, okN r) (hY : ∀ r ∈ Y, okN r) : ∀ r ∈ X ++ Y, okN r := fun r hr => (List.mem_append.1 hr).elim (hX r) (hY r)

end Go.AM.PL
