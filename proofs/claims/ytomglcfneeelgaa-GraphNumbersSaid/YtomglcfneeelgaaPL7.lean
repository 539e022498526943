/- Contracts of the functions that the statement reaches. No condition. -/
import Derived.Test.YtomglcfneeelgaaPL9d
import Derived.Test.YtomglcfneeelgaaPL3b
set_option linter.all false
set_option maxRecDepth 10000
namespace Go.AM.PL
/-! square tables that are filled row by row -/
def lexF (i j : Nat) (f g : Nat → Nat → Bool) (a b : Nat) : Bool := if a < i ∨ (a = i ∧ b < j) then f a b else g a b
def noF (_ _ : Nat) : Bool := false
def eqF (a b : Nat) : Bool := decide (a = b)
theorem lex_0 {n : Nat} {f g : Nat → Nat → Bool} : bM n g = bM n (lexF 0 0 f g) := bM_ext fun a b _ _ => by unfold lexF; rw [if_neg (by omega)]
theorem lex_next {n i : Nat} {f g : Nat → Nat → Bool} : bM n (lexF i n f g) = bM n (lexF (i + 1) 0 f g) := bM_ext fun a b ha hb => by
  unfold lexF
  by_cases h : a < i ∨ (a = i ∧ b < n)
  · rw [if_pos h, if_pos (by omega)]
  · rw [if_neg h, if_neg (by omega)]
theorem lex_n {n : Nat} {f g : Nat → Nat → Bool} : bM n (lexF n 0 f g) = bM n f := bM_ext fun a b ha hb => by unfold lexF; rw [if_pos (by omega)]
theorem lex_step {n i j : Nat} {f g : Nat → Nat → Bool} {x : Bool} (hx : x = f i j) : bM n (updF (lexF i j f g) i j x) = bM n (lexF i (j + 1) f g) := bM_ext fun a b ha hb => by
  subst hx
  unfold updF lexF
  by_cases c : a = i ∧ b = j
  · rw [if_pos c, if_pos (by omega), c.1, c.2]
  · rw [if_neg c]
    by_cases h : a < i ∨ (a = i ∧ b < j)
    · rw [if_pos h, if_pos (by omega)]
    · rw [if_neg h, if_neg (by omega)]
theorem lex_at {i j : Nat} {f g : Nat → Nat → Bool} : lexF i j f g i j = g i j := by unfold lexF; rw [if_neg (by omega)]
def kM (k n : Nat) (f : Nat → Nat → Bool) : List (Option (List (List GV))) := (List.range k).map fun a => some (bRow n (f a))
theorem kM_len {k n : Nat} {f : Nat → Nat → Bool} : (kM k n f).length = k := by simp [kM]
theorem kM_snoc {k n : Nat} {f : Nat → Nat → Bool} : kM (k + 1) n f = kM k n f ++ [some (bRow n (f k))] := by unfold kM; rw [List.range_succ, List.map_append]; rfl
theorem no_row {n a : Nat} : List.replicate n [GV.v (.bool false)] = bRow n (noF a) := by
  refine List.ext_getElem? fun b => ?_
  rw [List.getElem?_replicate, bRow_at']; rfl
def kR (k n : Nat) (f : Nat → Nat → Bool) : List (Option (List (List GV))) := kM k n f ++ List.replicate (n - k) (some [])
theorem kR_len {k n : Nat} {f : Nat → Nat → Bool} (h : k ≤ n) : (kR k n f).length = n := by unfold kR; rw [List.length_append, kM_len, List.length_replicate]; omega
theorem kR_0 {n : Nat} {f : Nat → Nat → Bool} : kR 0 n f = List.replicate n (some []) := rfl
theorem kR_n {n : Nat} {f : Nat → Nat → Bool} : kR n n f = bM n f := by unfold kR; rw [Nat.sub_self]; exact List.append_nil _
theorem kR_set {k n : Nat} {f : Nat → Nat → Bool} (h : k < n) {r : List (List GV)} : (kR k n f).set k (some r) = kM k n f ++ some r :: List.replicate (n - (k + 1)) (some []) := by
  unfold kR
  rw [List.set_append_right _ _ (by rw [kM_len]; omega), kM_len, Nat.sub_self, show n - k = (n - (k + 1)) + 1 by omega, List.replicate_succ, List.set_cons_zero]
theorem kR_at {k n : Nat} {f : Nat → Nat → Bool} {r : List (List GV)} {t : List (Option (List (List GV)))} : (kM k n f ++ some r :: t)[k]? = some (some r) := by
  rw [List.getElem?_append_right (by rw [kM_len]; omega), kM_len, Nat.sub_self]; rfl
theorem kR_step {k n : Nat} {f : Nat → Nat → Bool} {r r' : List (List GV)} (hr : r' = bRow n (f k)) : (kM k n f ++ some r :: List.replicate (n - (k + 1)) (some [])).set k (some r') = kR (k + 1) n f := by
  rw [List.set_append_right _ _ (by rw [kM_len]; omega), kM_len, Nat.sub_self, List.set_cons_zero, hr]
  unfold kR; rw [kM_snoc, List.append_assoc]; rfl
theorem row_upd {n i : Nat} : (List.replicate n [GV.v (.bool false)]).set i [.v (.bool true)] = bRow n (eqF i) := by
  rw [no_row (a := 0), bRow_set]
  unfold bRow
  refine List.map_congr_left fun b _ => ?_
  unfold noF eqF
  by_cases h : b = i
  · subst h; simp
  · show [GV.v (.bool (if b = i then true else false))] = [GV.v (.bool (decide (i = b)))]
    rw [if_neg h, decide_eq_false (fun c => h c.symm)]
/-! who depends, who sways -/
def isP (n : Nat) (p : Int) : Bool := decide (p ≥ 0) && decide (p < (n : Int))
theorem isP_T {n : Nat} {p : Int} (h : isP n p = true) : 0 ≤ p ∧ p < n := by unfold isP at h; rw [Bool.and_eq_true, decide_eq_true_eq, decide_eq_true_eq] at h; omega
theorem isP_of {n : Nat} {p : Int} (h0 : 0 ≤ p) (h : p < n) : isP n p = true := by unfold isP; rw [Bool.and_eq_true, decide_eq_true_eq, decide_eq_true_eq]; omega
def dF (P : List Pt) (a b : Nat) : Bool := decide ((a : Int) = (b : Int)) || ((P.getD a zP).sched && (P.getD b zP).sched)
def sF (P : List Pt) (a b : Nat) : Bool := (decide ((a : Int) = (b : Int)) || (P.getD a zP).sched) || (P.getD a zP).stop
def both7 (n : Nat) (x : Ch) : Bool := isP n x.fr && isP n x.to
def stD (n : Nat) (f : Nat → Nat → Bool) (x : Ch) : Nat → Nat → Bool := if both7 n x = true then updF (updF f x.fr.toNat x.to.toNat true) x.to.toNat x.fr.toNat true else f
def upS (f : Nat → Nat → Bool) (u v : Nat) (q : Bool) : Nat → Nat → Bool := updF (updF f u v true) v u (updF f u v true v u || q)
def stS (n : Nat) (f : Nat → Nat → Bool) (x : Ch) : Nat → Nat → Bool := if both7 n x = true then upS f x.fr.toNat x.to.toNat x.q else f
def depG (P : List Pt) (C : List Ch) : Nat → Nat → Bool := C.foldl (stD P.length) (dF P)
def swG (P : List Pt) (C : List Ch) : Nat → Nat → Bool := C.foldl (stS P.length) (sF P)
theorem foldl_snoc7 {α β : Type} (f : β → α → β) (b : β) {l : List α} {i : Nat} (h : i < l.length) : (l.take (i + 1)).foldl f b = f ((l.take i).foldl f b) l[i] := by
  rw [List.take_succ_eq_append_getElem h, List.foldl_append]; rfl
theorem eq_or {a b : Nat} {x : Bool} : (eqF a b || x) = (decide ((a : Int) = (b : Int)) || x) := by
  unfold eqF; congr 1; rw [Bool.eq_iff_iff, decide_eq_true_eq, decide_eq_true_eq]; omega
/-! what goes on over others -/
def wS (k : Nat) (f : Nat → Nat → Bool) (a b : Nat) : Bool := f a b || (f a k && f k b)
def clo (f : Nat → Nat → Bool) : Nat → Nat → Nat → Bool
  | 0 => f
  | k + 1 => wS k (clo f k)
theorem wS_lex {k a c : Nat} {f : Nat → Nat → Bool} : (lexF a c (wS k f) f a c || (lexF a c (wS k f) f a k && lexF a c (wS k f) f k c)) = wS k f a c := by
  have h1 : lexF a c (wS k f) f a c = f a c := lex_at
  have h2 : lexF a c (wS k f) f a k = f a k := by
    unfold lexF; split
    · unfold wS; cases f a k <;> cases f k k <;> rfl
    · rfl
  have h3 : lexF a c (wS k f) f k c = f k c := by
    unfold lexF; split
    · unfold wS; cases f k c <;> cases f k k <;> rfl
    · rfl
  rw [h1, h2, h3]; rfl
def toF (m : List (List Bool)) (a b : Nat) : Bool := (m.getD a []).getD b false
def sqB (m : List (List Bool)) : Bool := m.all fun r => decide (r.length = m.length)
def cloV (m : List (List Bool)) : List (List Bool) := if sqB m = true then matF m.length (clo (toF m) m.length) else []
theorem sqB_T {m : List (List Bool)} : sqB m = true ↔ ∀ r ∈ m, r.length = m.length := by unfold sqB; rw [List.all_eq_true]; exact ⟨fun h r hr => of_decide_eq_true (h r hr), fun h r hr => decide_eq_true (h r hr)⟩
theorem row_toF {m : List (List Bool)} {i : Nat} (h : i < m.length) (hr : m[i].length = m.length) : m[i].map encO = bRow m.length (toF m i) := by
  refine List.ext_getElem? fun b => ?_
  rw [List.getElem?_map, bRow_at']
  unfold toF
  rw [List.getD_eq_getElem?_getD (l := m), List.getElem?_eq_getElem h, Option.getD_some, List.getD_eq_getElem?_getD]
  split
  · rename_i c; rw [List.getElem?_eq_getElem (by omega)]; rfl
  · rename_i c; rw [List.getElem?_eq_none (by omega)]; rfl
theorem toF_mat {n : Nat} {f : Nat → Nat → Bool} {a b : Nat} (ha : a < n) (hb : b < n) : toF (matF n f) a b = f a b := matF_get ha hb
theorem sq_mat {n : Nat} {f : Nat → Nat → Bool} : sqB (matF n f) = true := sqB_T.2 fun r hr => by rw [matF_rows r hr, matF_len]
theorem clo_congr {n : Nat} {f g : Nat → Nat → Bool} (h : ∀ a b, a < n → b < n → f a b = g a b) : ∀ k, k ≤ n → ∀ a b, a < n → b < n → clo f k a b = clo g k a b
  | 0, _, a, b, ha, hb => h a b ha hb
  | k + 1, hk, a, b, ha, hb => by
    show wS k (clo f k) a b = wS k (clo g k) a b
    unfold wS
    rw [clo_congr h k (by omega) a b ha hb, clo_congr h k (by omega) a k ha (by omega), clo_congr h k (by omega) k b (by omega) hb]
theorem matF_ext {n : Nat} {f g : Nat → Nat → Bool} (h : ∀ a b, a < n → b < n → f a b = g a b) : matF n f = matF n g := by
  unfold matF
  refine List.map_congr_left fun a ha => List.map_congr_left fun b hb => ?_
  exact h a b (List.mem_range.1 ha) (List.mem_range.1 hb)
theorem clo_mat {n : Nat} {f : Nat → Nat → Bool} : cloV (matF n f) = matF n (clo f n) := by
  unfold cloV
  rw [if_pos sq_mat, matF_len]
  exact matF_ext fun a b ha hb => clo_congr (fun a b ha hb => toF_mat ha hb) n (Nat.le_refl _) a b ha hb
def reV (n : Nat) (f : Nat → Nat → Bool) (p : Int) : List Nat := if isP n p = true then (List.range n).filter fun a => f a p.toNat else []
theorem re_snoc {k : Nat} {f : Nat → Bool} : (List.range (k + 1)).filter f = (List.range k).filter f ++ if f k = true then [k] else [] := by
  rw [List.range_succ, List.filter_append]; congr 1
  by_cases h : f k = true
  · rw [if_pos h, List.filter_cons, if_pos h]; rfl
  · rw [if_neg h, List.filter_cons, if_neg h]; rfl
theorem re_len {k : Nat} {f : Nat → Bool} : ((List.range k).filter f).length ≤ k := Nat.le_trans (List.length_filter_le _ _) (by rw [List.length_range]; exact Nat.le_refl _)
def freeG (P : List Pt) (C : List Ch) (a b : Int) : Bool := if ((a < -1 ∨ b < -1) ∨ a ≥ (P.length : Int)) ∨ b ≥ (P.length : Int) then false else ((a == -1) || (b == -1)) || !depG P C a.toNat b.toNat
def kc7 : List Ch := [⟨0, 1, false, 0, 0, 0⟩, ⟨1, 2, true, 0, 0, 0⟩]
theorem free_val {P : List Pt} {C : List Ch} {a b : Int} (h : ¬ (((a < -1 ∨ b < -1) ∨ a ≥ (P.length : Int)) ∨ b ≥ (P.length : Int))) : ((decide (a = -1) || decide (b = -1)) || !(((matF P.length (depG P C)).getD a.toNat []).getD b.toNat false)) = freeG P C a b := by
  unfold freeG
  rw [if_neg h]
  have e1 : decide (a = -1) = (a == -1) := by rw [Bool.eq_iff_iff, decide_eq_true_eq, beq_iff_eq]
  have e2 : decide (b = -1) = (b == -1) := by rw [Bool.eq_iff_iff, decide_eq_true_eq, beq_iff_eq]
  rw [e1, e2]
  by_cases c : a = -1
  · subst c; rfl
  · by_cases d : b = -1
    · subst d; simp
    · rw [matF_get (by omega) (by omega)]
theorem isP_iff {n : Nat} {p : Int} : isP n p = true ↔ 0 ≤ p ∧ p < n := ⟨isP_T, fun h => isP_of h.1 h.2⟩
theorem isP_no {n : Nat} {p : Int} : isP n p = false ↔ ¬ (0 ≤ p ∧ p < n) := by rw [← isP_iff]; simp
theorem gfree_T {n : Nat} {a b : Int} (h : (¬ a = -1 ∧ isP n a = false) ∨ (¬ b = -1 ∧ isP n b = false)) : ((a < -1 ∨ b < -1) ∨ a ≥ (n : Int)) ∨ b ≥ (n : Int) := by
  rw [isP_no, isP_no] at h; omega
theorem gfree_F {n : Nat} {a b : Int} (h : (a = -1 ∨ isP n a = true) ∧ (b = -1 ∨ isP n b = true)) : ¬ (((a < -1 ∨ b < -1) ∨ a ≥ (n : Int)) ∨ b ≥ (n : Int)) := by
  rw [isP_iff, isP_iff] at h; omega
theorem reach_no {n i : Nat} {p : Int} (h : (n : Int) ≤ (i : Int) ∨ isP n p = false) : ¬ ((i : Int) < (n : Int) ∧ isP n p = true) := by
  rcases h with h | h
  · omega
  · rw [h]; exact fun c => absurd c.2 (by decide)
theorem reach_end {n i : Nat} {p : Int} {f : Nat → Nat → Bool} (h1 : i ≤ n) (h2 : 0 < i → isP n p = true) (h3 : ¬ ((i : Int) < (n : Int) ∧ isP n p = true)) : reV n f p = (List.range i).filter fun a => f a p.toNat := by
  unfold reV
  by_cases c : isP n p = true
  · rw [if_pos c, show i = n by simp only [c, and_true] at h3; omega]
  · rw [if_neg c]
    have : i = 0 := by
      rcases Nat.eq_zero_or_pos i with h | h
      · exact h
      · exact absurd (h2 h) c
    rw [this]; rfl
end Go.AM.PL
