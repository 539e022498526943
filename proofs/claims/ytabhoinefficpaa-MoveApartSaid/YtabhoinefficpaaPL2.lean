/- Contracts of the functions that the statement reaches. No condition. -/
import Derived.Test.YtabhoinefficpaaPL1
set_option linter.all false
set_option maxRecDepth 10000
namespace Go.AM.PL
theorem wrap64_rng (x : Int) : i64 (IntKind.i64.wrap x) := by
  unfold i64; rw [IntKind.wrap_i64]; omega
theorem wrap64_id {x : Int} (h : i64 x) : IntKind.i64.wrap x = x := by
  unfold i64 at h; rw [IntKind.wrap_i64]; omega
/-- digits, the least first -/
def leF : Nat → Nat → List UInt8
  | 0, _ => []
  | k + 1, n => if n = 0 then [] else b8 (n : Int) :: leF k (n / 256)
def mag (n : Int) : List UInt8 := leF 8 n.natAbs
def hdr (n : Int) : UInt8 := b8 ((if n < 0 then 128 else 0) + (mag n).length)
def putB (n : Int) : List UInt8 := hdr n :: (mag n).reverse
theorem leF_len : ∀ (k n : Nat), (leF k n).length ≤ k
  | 0, _ => Nat.zero_le _
  | k + 1, n => by
    rw [leF]; split
    · exact Nat.zero_le _
    · rw [List.length_cons]; have := leF_len k (n / 256); omega
theorem mag_len (n : Int) : (mag n).length ≤ 8 := leF_len 8 _
theorem putB_len (n : Int) : (putB n).length = (mag n).length + 1 := by unfold putB; rw [List.length_cons, List.length_reverse]
theorem putB_le (n : Int) : 1 ≤ (putB n).length ∧ (putB n).length ≤ 9 := by have := putB_len n; have := mag_len n; omega
theorem leF_zero (k : Nat) : leF k 0 = [] := by cases k <;> simp [leF]
theorem leF_pos {k n : Nat} (h : 0 < n) : leF (k + 1) n = b8 (n : Int) :: leF k (n / 256) := by rw [leF, if_neg (by omega)]
/-- how far the digits are -/
def dgs (m : Nat) (d : List UInt8) (u : Nat) : Prop := ∃ k, leF 8 m = d ++ leF k u ∧ u < 256 ^ k
theorem dgs_start {m : Nat} (h : m < 2 ^ 64) : dgs m [] m := ⟨8, rfl, by simpa using h⟩
theorem dgs_step {m : Nat} {d : List UInt8} {u : Nat} (h : dgs m d u) (hu : 0 < u) : dgs m (d ++ [b8 (u : Int)]) (u / 256) := by
  obtain ⟨k, h1, h2⟩ := h
  cases k with
  | zero => rw [Nat.pow_zero] at h2; omega
  | succ k =>
    refine ⟨k, ?_, ?_⟩
    · rw [h1, leF_pos hu, List.append_assoc]; rfl
    · rw [Nat.pow_succ] at h2; exact Nat.div_lt_of_lt_mul (by omega)
theorem dgs_end {m : Nat} {d : List UInt8} {u : Nat} (h : dgs m d u) (hu : u = 0) : d = leF 8 m := by
  obtain ⟨k, h1, _⟩ := h
  subst hu
  rw [h1, leF_zero, List.append_nil]
theorem dgs_len {m : Nat} {d : List UInt8} {u : Nat} (h : dgs m d u) : d.length ≤ 8 := by
  obtain ⟨k, h1, _⟩ := h
  have := leF_len 8 m
  rw [h1, List.length_append] at this; omega
theorem u64_neg {n : Int} (h : i64 n) (hn : n < 0) : IntKind.u64.wrap (0 - IntKind.u64.wrap n) = (n.natAbs : Int) := by
  unfold i64 at h
  rw [wrap_u64, wrap_u64]; omega
theorem u64_pos {n : Int} (h : i64 n) (hn : ¬ n < 0) : IntKind.u64.wrap n = (n.natAbs : Int) := by
  unfold i64 at h
  rw [wrap_u64]; omega
theorem shr8 (u : Nat) : (u : Int).fdiv (2 ^ (min (8 : Int).toNat IntKind.u64.bits)) = ((u / 256 : Nat) : Int) := fdiv_nat u 256
theorem cast0 (n : Nat) (h : n ≤ 8) : IntKind.u8.wrap (n : Int) = (n : Int) := by rw [wrap_u8]; omega
theorem hdr_pos {n : Int} (h : ¬ n < 0) : encB (hdr n) = [.v (.int .u8 (IntKind.u8.wrap ((mag n).length : Int)))] := by
  unfold hdr; rw [if_neg h, Int.zero_add, encB_b8]
theorem hdr_neg {n : Int} (h : n < 0) : encB (hdr n) = [.v (.int .u8 (IntKind.u8.wrap (IntKind.u8.wrap ((mag n).length : Int) + 128)))] := by
  unfold hdr; rw [if_pos h, encB_b8]
  congr 3
  rw [wrap_u8, wrap_u8, wrap_u8]; omega
theorem hdr_ref (n : Int) : encB (hdr n) = [.v (.int .u8 (IntKind.u8.wrap ((if n < 0 then 128 else 0) + IntKind.u8.wrap ((mag n).length : Int))))] := by
  unfold hdr; rw [encB_b8]
  congr 3
  rw [wrap_u8, wrap_u8, wrap_u8]; split <;> omega
/-- turning a row about, step by step -/
def rv (l : List UInt8) : Nat → List UInt8
  | 0 => l
  | i + 1 => ((rv l i).set i ((rv l i).getD (l.length - 1 - i) 0)).set (l.length - 1 - i) ((rv l i).getD i 0)
theorem rv_len (l : List UInt8) : ∀ i, (rv l i).length = l.length
  | 0 => rfl
  | i + 1 => by rw [rv, List.length_set, List.length_set, rv_len l i]
theorem rv_at (l : List UInt8) : ∀ (i p : Nat), p < l.length → 2 * i ≤ l.length → (rv l i).getD p 0 = if p < i ∨ l.length - i ≤ p then l.getD (l.length - 1 - p) 0 else l.getD p 0
  | 0, p, hp, _ => by rw [if_neg (by omega)]; rfl
  | i + 1, p, hp, hi => by
    have hl := rv_len l i
    rw [rv, List.getD_eq_getElem?_getD, List.getElem?_set, List.getElem?_set, List.length_set, hl]
    by_cases c1 : l.length - 1 - i = p
    · rw [if_pos c1, if_pos (by omega), if_pos (by omega)]
      show (rv l i).getD i 0 = _
      rw [rv_at l i i (by omega) (by omega), if_neg (by omega)]
      congr 1; omega
    · rw [if_neg c1]
      by_cases c2 : i = p
      · rw [if_pos c2, if_pos (by omega), if_pos (by omega)]
        show (rv l i).getD _ 0 = _
        rw [rv_at l i _ (by omega) (by omega), if_neg (by omega)]
        congr 1; omega
      · rw [if_neg c2, ← List.getD_eq_getElem?_getD, rv_at l i p hp (by omega)]
        by_cases c3 : p < i ∨ l.length - i ≤ p
        · rw [if_pos c3, if_pos (by omega)]
        · rw [if_neg c3, if_neg (by omega)]
theorem rv_all (l : List UInt8) {i : Nat} (h1 : 2 * i ≤ l.length) (h2 : l.length ≤ 2 * i + 1) : rv l i = l.reverse := by
  apply List.ext_getElem (by rw [rv_len, List.length_reverse])
  intro p q r
  rw [rv_len] at q
  have e := rv_at l i p q h1
  rw [List.getD_eq_getElem?_getD, List.getElem?_eq_getElem (by rw [rv_len]; exact q)] at e
  have e : (rv l i)[p]'(by rw [rv_len]; exact q) = _ := e
  rw [e, List.getElem_reverse]
  by_cases c : p < i ∨ l.length - i ≤ p
  · rw [if_pos c, List.getD_eq_getElem?_getD, List.getElem?_eq_getElem (by omega)]; rfl
  · rw [if_neg c, List.getD_eq_getElem?_getD, List.getElem?_eq_getElem q]
    have : p = l.length - 1 - p := by omega
    show l[p] = _
    congr 1
def val (l : List UInt8) : Nat := l.foldl (fun u b => u * 256 + b.toNat) 0
theorem val_snoc (l : List UInt8) (b : UInt8) : val (l ++ [b]) = val l * 256 + b.toNat := by unfold val; rw [List.foldl_append]; rfl
theorem val_le (l : List UInt8) : val l.reverse < 256 ^ l.length := by
  induction l with
  | nil => decide
  | cons b l ih =>
    rw [List.reverse_cons, val_snoc, List.length_cons, Nat.pow_succ]
    have := b.toNat_lt; omega
theorem val_lt (l : List UInt8) : val l < 256 ^ l.length := by
  have := val_le l.reverse
  rwa [List.reverse_reverse, List.length_reverse] at this
theorem val64 {l : List UInt8} (h : l.length ≤ 8) : val l < 2 ^ 64 := Nat.lt_of_lt_of_le (val_lt l) (by
  have : 256 ^ l.length ≤ 256 ^ 8 := Nat.pow_le_pow_right (by decide) h
  exact Nat.le_trans this (by decide))
theorem or_step {l : List UInt8} (b : UInt8) (h : l.length < 8) : orI .u64 (IntKind.u64.wrap ((val l : Int) * 2 ^ (min (8 : Int).toNat IntKind.u64.bits))) (b.toNat : Int) = ((val (l ++ [b]) : Nat) : Int) := by
  have h1 := val_lt l
  have hb := b.toNat_lt
  have h2 : 256 ^ l.length ≤ 256 ^ 7 := Nat.pow_le_pow_right (by decide) (by omega)
  have h3 : (256 : Nat) ^ 7 = 2 ^ 56 := by decide
  have h4 : IntKind.u64.wrap ((val l : Int) * 2 ^ (min (8 : Int).toNat IntKind.u64.bits)) = ((val l * 256 : Nat) : Int) := by
    rw [wrap_u64]
    show (val l : Int) * 2 ^ 8 % 18446744073709551616 = _
    omega
  rw [h4, val_snoc]
  unfold orI
  have e1 : BitVec.ofInt IntKind.u64.bits ((val l * 256 : Nat) : Int) = BitVec.ofNat 64 (val l <<< 8) := by
    rw [Nat.shiftLeft_eq]; rfl
  have e2 : BitVec.ofInt IntKind.u64.bits (b.toNat : Int) = BitVec.ofNat 64 b.toNat := rfl
  have e3 : (BitVec.ofNat 64 (val l <<< 8) ||| BitVec.ofNat 64 b.toNat).toNat = val l * 256 + b.toNat := by
    rw [BitVec.toNat_or, BitVec.toNat_ofNat, BitVec.toNat_ofNat, Nat.mod_eq_of_lt (by rw [Nat.shiftLeft_eq]; omega), Nat.mod_eq_of_lt (by omega), ← Nat.shiftLeft_add_eq_or_of_lt (by omega), Nat.shiftLeft_eq]
  show IntKind.u64.wrap ((BitVec.ofInt IntKind.u64.bits ((val l * 256 : Nat) : Int) ||| BitVec.ofInt IntKind.u64.bits (b.toNat : Int)).toNat : Int) = _
  rw [e1, e2]
  have e4 : ((BitVec.ofNat 64 (val l <<< 8) ||| BitVec.ofNat 64 b.toNat).toNat : Int) = ((val l * 256 + b.toNat : Nat) : Int) := congrArg Nat.cast e3
  refine (congrArg IntKind.u64.wrap e4).trans ?_
  rw [wrap_u64]; omega
theorem an128 : ∀ n : Nat, n < 256 → andNotI .u8 (n : Int) 128 = ((n % 128 : Nat) : Int) := by decide +kernel
theorem a127 : ∀ n : Nat, n < 256 → andI .u8 (n : Int) 127 = ((n % 128 : Nat) : Int) := by decide +kernel
def dgt (b : List UInt8) (k : Nat) : List UInt8 := (b.take (k + 1)).drop 1
def numB (b : List UInt8) : Int := if 128 ≤ (b.headD 0).toNat then IntKind.i64.wrap (0 - IntKind.i64.wrap (val (dgt b ((b.headD 0).toNat % 128)))) else IntKind.i64.wrap (val (dgt b ((b.headD 0).toNat % 128)))
def getB (b : List UInt8) : Int × Int :=
  if b = [] then (0, 0) else
  if 8 < (b.headD 0).toNat % 128 ∨ b.length ≤ (b.headD 0).toNat % 128 then (0, 0) else
  if putB (numB b) = b.take ((b.headD 0).toNat % 128 + 1) then (numB b, (((b.headD 0).toNat % 128 + 1 : Nat) : Int)) else (0, 0)
theorem numB_rng (b : List UInt8) : i64 (numB b) := by unfold numB; split <;> exact wrap64_rng _
theorem getB_rng (b : List UInt8) : i64 (getB b).1 ∧ 0 ≤ (getB b).2 ∧ (getB b).2 ≤ 9 ∧ (getB b).2 ≤ b.length := by
  unfold getB
  split
  · exact ⟨by unfold i64; decide, by decide, by decide, Int.natCast_nonneg _⟩
  · split
    · exact ⟨by unfold i64; decide, by decide, by decide, Int.natCast_nonneg _⟩
    · split
      · exact ⟨numB_rng b, Int.natCast_nonneg _, by dsimp only; omega, by dsimp only; omega⟩
      · exact ⟨by unfold i64; decide, by decide, by decide, Int.natCast_nonneg _⟩
def cutB (b : List UInt8) (most : Int) : List UInt8 × Int :=
  if (getB b).2 = 0 ∨ (getB b).1 < 0 ∨ min most (b.length - (getB b).2) < (getB b).1 then ([], 0)
  else ((b.take ((getB b).2 + (getB b).1).toNat).drop (getB b).2.toNat, (getB b).2 + (getB b).1)
theorem head_get {b : List UInt8} (h : 0 < b.length) : b.headD 0 = b[0] := by cases b with
  | nil => simp at h
  | cons x b => rfl

theorem b8w2 (n : Int) : IntKind.u8.wrap n = ((b8 n).toNat : Int) := (b8_val n).symm
theorem hdrI_pos {n : Int} (h : ¬ n < 0) : IntKind.u8.wrap ((mag n).length : Int) = ((hdr n).toNat : Int) := by
  unfold hdr; rw [if_neg h, Int.zero_add, b8w2]
theorem hdrI_neg {n : Int} (h : n < 0) : IntKind.u8.wrap (IntKind.u8.wrap ((mag n).length : Int) + 128) = ((hdr n).toNat : Int) := by
  unfold hdr; rw [if_pos h, b8_val]; simp only [wrap_u8]; omega
theorem hdrI_ref (n : Int) : IntKind.u8.wrap ((if n < 0 then 128 else 0) + IntKind.u8.wrap ((mag n).length : Int)) = ((hdr n).toNat : Int) := by
  unfold hdr; rw [b8_val]; simp only [wrap_u8]; split <;> omega
theorem getD_g {l : List UInt8} {i : Nat} (h : i < l.length) : l.getD i 0 = l[i] := by
  rw [List.getD_eq_getElem?_getD, List.getElem?_eq_getElem h]; rfl
theorem dgt_len {b : List UInt8} {k : Nat} (h : k < b.length) : (dgt b k).length = k := by
  unfold dgt; rw [List.length_drop, List.length_take]; omega
theorem td_succ {b : List UInt8} {i : Nat} (h1 : 1 ≤ i) (h : i < b.length) : (b.take (i + 1)).drop 1 = (b.take i).drop 1 ++ [b[i]] := by
  rw [List.take_succ_eq_append_getElem h, List.drop_append_of_le_length (by rw [List.length_take]; omega)]
theorem td_len {b : List UInt8} {i : Nat} (h : i ≤ b.length) : ((b.take i).drop 1).length = i - 1 := by
  rw [List.length_drop, List.length_take]; omega

theorem val_leF : ∀ (k m : Nat), m < 256 ^ k → val (leF k m).reverse = m
  | 0, m, h => by rw [Nat.pow_zero] at h; obtain rfl : m = 0 := by omega
                  rfl
  | k + 1, m, h => by
    rw [leF]
    split
    · rename_i c; rw [c]; rfl
    · rw [List.reverse_cons, val_snoc, val_leF k (m / 256) (by rw [Nat.pow_succ] at h; exact Nat.div_lt_of_lt_mul (by omega))]
      have := b8_val (m : Int)
      omega
theorem hdr_val (n : Int) : ((hdr n).toNat : Int) = (if n < 0 then 128 else 0) + (mag n).length := by
  unfold hdr
  rw [b8_val]
  have := mag_len n
  split <;> omega
theorem get_put {n : Int} (hn : i64 n) (rest : List UInt8) : getB (putB n ++ rest) = (n, ((putB n).length : Int)) := by
  have hml := mag_len n
  have hv := hdr_val n
  have hh : (putB n ++ rest).headD 0 = hdr n := rfl
  have hk : (hdr n).toNat % 128 = (mag n).length := by split at hv <;> omega
  have hl := putB_len n
  have htk : (putB n ++ rest).take ((mag n).length + 1) = putB n := by
    rw [← hl, List.take_left']; rfl
  have hd : dgt (putB n ++ rest) (mag n).length = (mag n).reverse := by unfold dgt; rw [htk]; rfl
  have hva : val (mag n).reverse = n.natAbs := val_leF 8 _ (by unfold i64 at hn; omega)
  have hnum : numB (putB n ++ rest) = n := by
    unfold numB
    rw [hh, hk, hd, hva]
    unfold i64 at hn
    split at hv
    · rw [if_pos (by omega), IntKind.wrap_i64, IntKind.wrap_i64]; omega
    · rw [if_neg (by omega), IntKind.wrap_i64]; omega
  unfold getB
  rw [if_neg (by simp [putB]), hh, hk, if_neg (by rw [List.length_append]; omega), hnum, htk, if_pos rfl, hl]
theorem get_short (n : Int) (rest : List UInt8) (w : Nat) (hw : w < (putB n).length) : (getB ((putB n ++ rest).take w)).2 = 0 := by
  have hml := mag_len n
  have hv := hdr_val n
  have hk : (hdr n).toNat % 128 = (mag n).length := by split at hv <;> omega
  have hl := putB_len n
  cases w with
  | zero => rfl
  | succ w =>
    have hc : (putB n ++ rest).take (w + 1) = hdr n :: ((mag n).reverse ++ rest).take w := rfl
    unfold getB
    rw [hc, if_neg (by simp)]
    have hh : (hdr n :: ((mag n).reverse ++ rest).take w).headD 0 = hdr n := rfl
    rw [hh, hk, if_pos]
    right
    rw [List.length_cons, List.length_take]; omega
theorem extract_take (st : List UInt8) (k : Nat) : (⟨st.toArray⟩ : ByteArray).extract 0 k = ⟨(st.take k).toArray⟩ := by
  apply ByteArray.ext
  rw [ByteArray.data_extract]
  apply Array.ext'
  simp
theorem fdiv_rng {n : Int} (h : i64 n) (q : Nat) : i64 (n.fdiv (2 ^ q)) := by
  unfold i64 at h ⊢
  have hp : (1 : Int) ≤ 2 ^ q := by have : (0 : Int) < 2 ^ q := Int.pow_pos (by decide); omega
  rw [Int.fdiv_eq_ediv_of_nonneg _ (by omega)]
  by_cases c : 0 ≤ n
  · have h1 := Int.ediv_le_self (2 ^ q) c
    have h2 : 0 ≤ n / 2 ^ q := Int.ediv_nonneg c (by omega)
    omega
  · have h1 : n ≤ n / 2 ^ q := by
      rw [Int.le_ediv_iff_mul_le (by omega)]
      have : n * 2 ^ q ≤ n * 1 := Int.mul_le_mul_of_nonpos_left (by omega) hp
      omega
    have h2 : n / 2 ^ q < 0 := Int.ediv_neg_of_neg_of_pos (by omega) (by omega)
    omega
def puts (ns : List Int) : List UInt8 := ns.flatMap putB
theorem puts_snoc {ns : List Int} {i : Nat} (h : i < ns.length) : puts (ns.take (i + 1)) = puts (ns.take i) ++ putB ns[i] := by
  unfold puts
  rw [List.take_succ_eq_append_getElem h, List.flatMap_append]; simp
theorem puts_le (ns : List Int) : (puts ns).length ≤ 9 * ns.length := by
  induction ns with
  | nil => simp [puts]
  | cons n ns ih =>
    have := putB_le n
    unfold puts at ih ⊢
    rw [List.flatMap_cons, List.length_append, List.length_cons]; omega
theorem puts_drop {ns : List Int} {k i : Nat} (hk : k ≤ ns.length) (h : i < k) (more : List UInt8) : (puts (ns.take k) ++ more).drop (puts (ns.take i)).length = putB (ns[i]'(by omega)) ++ (puts ((ns.take k).drop (i + 1)) ++ more) := by
  have e : puts (ns.take k) = puts (ns.take i) ++ (putB (ns[i]'(by omega)) ++ puts ((ns.take k).drop (i + 1))) := by
    have h1 : ns.take k = ns.take i ++ (ns[i]'(by omega) :: (ns.take k).drop (i + 1)) := by
      have h2 : (ns.take k).drop i = (ns.take k)[i]'(by rw [List.length_take]; omega) :: (ns.take k).drop (i + 1) := List.drop_eq_getElem_cons _
      rw [List.getElem_take] at h2
      rw [← h2, show ns.take i = (ns.take k).take i by rw [List.take_take, Nat.min_eq_left (by omega)], List.take_append_drop]
    unfold puts
    conv => lhs; rw [h1]
    rw [List.flatMap_append, List.flatMap_cons]
  rw [e, List.append_assoc, List.append_assoc, List.drop_left']
  rfl

theorem puts_mono (ns : List Int) {i k : Nat} (h : i ≤ k) : (puts (ns.take i)).length ≤ (puts (ns.take k)).length := by
  rw [show ns.take i = (ns.take k).take i by rw [List.take_take, Nat.min_eq_left h]]
  have : puts (ns.take k) = puts ((ns.take k).take i) ++ puts ((ns.take k).drop i) := by
    unfold puts; rw [← List.flatMap_append, List.take_append_drop]
  rw [this, List.length_append]; omega
theorem cut200 (st : List UInt8) : ∃ s, (if 200 < st.length then st.take 200 else st) = s ∧ s.length ≤ 200 := by
  refine ⟨_, rfl, ?_⟩
  split
  · rw [List.length_take]; omega
  · omega
theorem mid_take (l : List UInt8) (a w : Nat) : (l.take (a + w)).drop a = (l.drop a).take w := by
  rw [List.drop_take, Nat.add_sub_cancel_left]

theorem cut_put (s rest : List UInt8) (hs : s.length ≤ 2 ^ 50) {m : Int} (hm : (s.length : Int) ≤ m) : cutB (putB (s.length : Int) ++ (s ++ rest)) m = (s, (((putB (s.length : Int)).length + s.length : Nat) : Int)) := by
  have hg := get_put (n := (s.length : Int)) (by unfold i64; omega) (s ++ rest)
  have hp := putB_le (s.length : Int)
  unfold cutB
  rw [hg]
  dsimp only
  rw [if_neg (by simp only [List.length_append]; omega)]
  have e : (((putB (s.length : Int)).length : Int) + (s.length : Int)) = (((putB (s.length : Int)).length + s.length : Nat) : Int) := by omega
  rw [e, Int.toNat_natCast, Int.toNat_natCast, mid_take, List.drop_left' rfl, List.take_left' rfl]
theorem cut_short (s rest : List UInt8) (hs : s.length ≤ 2 ^ 50) {m : Int} (hm : m < (s.length : Int)) : (cutB (putB (s.length : Int) ++ (s ++ rest)) m).2 = 0 := by
  have hg := get_put (n := (s.length : Int)) (by unfold i64; omega) (s ++ rest)
  unfold cutB
  rw [hg]
  dsimp only
  rw [if_pos (by simp only [List.length_append]; omega)]
def encT (l : List UInt8) : List GV := [.v (.string ⟨l.toArray⟩)]
def cut60 (s : List UInt8) : List UInt8 := if 60 < s.length then s.take 60 else s
theorem cut60_le (s : List UInt8) : (cut60 s).length ≤ 60 := by
  unfold cut60; split
  · rw [List.length_take]; omega
  · omega
def texts (ws : List (List UInt8)) : List UInt8 := ws.flatMap fun s => putB (s.length : Int) ++ s
theorem texts_snoc {ws : List (List UInt8)} {i : Nat} (h : i < ws.length) : texts (ws.take (i + 1)) = texts (ws.take i) ++ putB (ws[i].length : Int) ++ ws[i] := by
  unfold texts
  rw [List.take_succ_eq_append_getElem h, List.flatMap_append]; simp
theorem texts_le (ws : List (List UInt8)) (h : ∀ s ∈ ws, s.length ≤ 60) : (texts ws).length ≤ 69 * ws.length := by
  induction ws with
  | nil => simp [texts]
  | cons s ws ih =>
    have := putB_le (s.length : Int)
    have := h s (List.mem_cons_self ..)
    have ih := ih (fun x hx => h x (List.mem_cons_of_mem _ hx))
    unfold texts at ih ⊢
    rw [List.flatMap_cons, List.length_append, List.length_append, List.length_cons]; omega
theorem texts_drop {ws : List (List UInt8)} {i : Nat} (h : i < ws.length) (more : List UInt8) : (texts ws ++ more).drop (texts (ws.take i)).length = putB (ws[i].length : Int) ++ (ws[i] ++ (texts (ws.drop (i + 1)) ++ more)) := by
  have e : texts ws = texts (ws.take i) ++ (putB (ws[i].length : Int) ++ (ws[i] ++ texts (ws.drop (i + 1)))) := by
    have h1 : ws = ws.take i ++ (ws[i] :: ws.drop (i + 1)) := by rw [← List.drop_eq_getElem_cons h, List.take_append_drop]
    unfold texts
    conv => lhs; rw [h1]
    rw [List.flatMap_append, List.flatMap_cons, List.append_assoc]
  rw [e, List.append_assoc, List.drop_left' rfl, List.append_assoc, List.append_assoc]
theorem cuts_take {ls : List (List UInt8)} {k i : Nat} (h : i < k) (hk : k ≤ ls.length) : ((ls.take (i + 1)).map cut60) = ((ls.take i).map cut60) ++ [cut60 (ls[i]'(by omega))] := by
  rw [List.take_succ_eq_append_getElem (by omega : i < ls.length), List.map_append]; rfl
theorem cuts_mem {ls : List (List UInt8)} : ∀ s ∈ ls.map cut60, s.length ≤ 60 := fun s hs => by
  obtain ⟨x, _, rfl⟩ := List.mem_map.1 hs; exact cut60_le x
theorem texts_app (ws : List (List UInt8)) (s : List UInt8) : texts (ws ++ [s]) = texts ws ++ putB (s.length : Int) ++ s := by
  unfold texts; rw [List.flatMap_append]; simp

theorem texts_tl (ws : List (List UInt8)) (i : Nat) : (texts (ws.take i)).length ≤ (texts ws).length := by
  have : texts ws = texts (ws.take i) ++ texts (ws.drop i) := by
    unfold texts; rw [← List.flatMap_append, List.take_append_drop]
  rw [this, List.length_append]; omega

def encR1 (l : List UInt8) : List GV := [.fsl 1 (l.map encB)]
def rows8 : List (List UInt8) := [[], [0], [1], [255, 1, 1, 1, 1, 1, 1, 1, 1], [0, 1, 1, 1, 1, 1, 1, 1, 1], [128, 0, 0, 0, 0, 0, 0, 0], [128, 0, 0, 0, 0, 0, 0, 1], [127, 255, 255, 255, 255, 255, 255, 255, 9]]
theorem rows8_le : ∀ r ∈ rows8, r.length ≤ 9 := by decide

end Go.AM.PL
