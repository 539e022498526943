/- Contracts of the functions that the statement reaches. No condition. -/
import Derived.Test.YtabhoinefficpaaPLg
import Derived.Test.YtabhoinefficpaaPLb
set_option linter.all false
set_option maxRecDepth 10000
namespace Go.AM.PL
def I32 (c : BitVec 32) : Int := (c.toNat : Int)
theorem ofInt_wrap (n : Int) : BitVec.ofInt 32 (IntKind.u32.wrap n) = BitVec.ofInt 32 n := by
  apply BitVec.eq_of_toNat_eq
  rw [BitVec.toNat_ofInt, BitVec.toNat_ofInt, wrap_u32]
  omega
theorem ofInt_I (c : BitVec 32) : BitVec.ofInt 32 (I32 c) = c := by
  apply BitVec.eq_of_toNat_eq
  rw [BitVec.toNat_ofInt]
  have := c.isLt
  unfold I32; omega
theorem wrap_I (c : BitVec 32) : IntKind.u32.wrap (c.toNat : Int) = I32 c := by
  rw [wrap_u32]; have := c.isLt; unfold I32; omega
theorem xor32 (a b : Int) : xorI .u32 a b = I32 (BitVec.ofInt 32 a ^^^ BitVec.ofInt 32 b) := wrap_I _
theorem and32 (a b : Int) : andI .u32 a b = I32 (BitVec.ofInt 32 a &&& BitVec.ofInt 32 b) := wrap_I _
def poly : BitVec 32 := 79764919#32
def stp (c : BitVec 32) : BitVec 32 := (c <<< 1) ^^^ (if c.msb then poly else 0#32)
def stpn : Nat → BitVec 32 → BitVec 32
  | 0, c => c
  | n + 1, c => stpn n (stp c)
theorem stpn_out : ∀ (n : Nat) (c : BitVec 32), stpn (n + 1) c = stp (stpn n c)
  | 0, _ => rfl
  | n + 1, c => by rw [stpn, stpn_out n]; rfl
def byt (b : UInt8) : BitVec 32 := BitVec.ofNat 32 b.toNat <<< 24
def nxt (c : BitVec 32) (b : UInt8) : BitVec 32 := stpn 8 (c ^^^ byt b)
def crc (c : BitVec 32) (l : List UInt8) : BitVec 32 := l.foldl nxt c
def sumB (l : List UInt8) : BitVec 32 := ~~~ crc 4294967295#32 l
theorem fdiv_nat (a b : Nat) : (a : Int).fdiv (b : Int) = ((a / b : Nat) : Int) := by
  rw [Int.fdiv_eq_ediv_of_nonneg _ (by omega)]; rfl
theorem shl24 (b : UInt8) : BitVec.ofInt 32 ((b.toNat : Int) * 2 ^ 24) = byt b := by
  apply BitVec.eq_of_toNat_eq
  unfold byt
  rw [BitVec.toNat_ofInt, BitVec.toNat_shiftLeft, BitVec.toNat_ofNat]
  have := b.toNat_lt
  rw [Nat.shiftLeft_eq]
  omega
theorem next_in (c : BitVec 32) (b : UInt8) : xorI .u32 (I32 c) (IntKind.u32.wrap ((b.toNat : Int) * 2 ^ 24)) = I32 (c ^^^ byt b) := by
  rw [xor32, ofInt_wrap, ofInt_I, shl24]
theorem shl1 (c : BitVec 32) : BitVec.ofInt 32 (I32 c * 2 ^ 1) = c <<< 1 := by
  apply BitVec.eq_of_toNat_eq
  rw [BitVec.toNat_ofInt, BitVec.toNat_shiftLeft, Nat.shiftLeft_eq]
  unfold I32; omega
theorem msb_div (c : BitVec 32) : (I32 c).fdiv (2 ^ 31) = if c.msb then 1 else 0 := by
  have h : (I32 c).fdiv (2 ^ 31) = ((c.toNat / 2 ^ 31 : Nat) : Int) := fdiv_nat c.toNat (2 ^ 31)
  rw [h, BitVec.msb_eq_decide]
  have := c.isLt
  by_cases k : 2 ^ (32 - 1) ≤ c.toNat
  · rw [decide_eq_true k, if_pos rfl]; omega
  · rw [decide_eq_false k, if_neg (by simp)]; omega
theorem step_mul (c : BitVec 32) : xorI .u32 (IntKind.u32.wrap (I32 c * 2 ^ 1)) (IntKind.u32.wrap (79764919 * (I32 c).fdiv (2 ^ 31))) = I32 (stp c) := by
  rw [xor32, ofInt_wrap, ofInt_wrap, shl1, msb_div]
  unfold stp
  cases c.msb <;> rfl
theorem step_ifT (c : BitVec 32) (h : (I32 c).fdiv (2 ^ 31) = 1) : xorI .u32 (IntKind.u32.wrap (I32 c * 2 ^ 1)) 79764919 = I32 (stp c) := by
  rw [msb_div] at h
  rw [xor32, ofInt_wrap, shl1]
  unfold stp
  cases hm : c.msb with
  | true => rfl
  | false => rw [hm] at h; simp at h
theorem step_ifF (c : BitVec 32) (h : ¬ (I32 c).fdiv (2 ^ 31) = 1) : IntKind.u32.wrap (I32 c * 2 ^ 1) = I32 (stp c) := by
  rw [msb_div] at h
  have e : IntKind.u32.wrap (I32 c * 2 ^ 1) = I32 (BitVec.ofInt 32 (I32 c * 2 ^ 1)) := by
    show IntKind.u32.wrap _ = ((BitVec.ofInt 32 (I32 c * 2 ^ 1)).toNat : Int)
    rw [BitVec.toNat_ofInt, wrap_u32]; omega
  rw [e, shl1]
  unfold stp
  cases hm : c.msb with
  | true => rw [hm] at h; simp at h
  | false => simp
theorem not32 (c : BitVec 32) : IntKind.u32.wrap (BitVec.ofInt 32 4294967295 ^^^ BitVec.ofInt 32 (I32 c)).toNat = I32 (~~~ c) := by
  have : BitVec.ofInt 32 4294967295 = BitVec.allOnes 32 := by decide
  rw [wrap_I, ofInt_I, this, BitVec.allOnes_xor]
def tailB (c : BitVec 32) : List UInt8 := [b8 ((I32 c).fdiv (2 ^ 24)), b8 ((I32 c).fdiv (2 ^ 16)), b8 ((I32 c).fdiv (2 ^ 8)), b8 (I32 c)]
theorem tailB_enc (c : BitVec 32) : (tailB c).map encB = [[.v (.int .u8 (IntKind.u8.wrap ((I32 c).fdiv (2 ^ 24))))], [.v (.int .u8 (IntKind.u8.wrap ((I32 c).fdiv (2 ^ 16))))], [.v (.int .u8 (IntKind.u8.wrap ((I32 c).fdiv (2 ^ 8))))], [.v (.int .u8 (IntKind.u8.wrap (I32 c)))]] := by
  simp only [tailB, List.map, encB_b8]
def sealB (l : List UInt8) : List UInt8 := l ++ tailB (sumB l)
def openB (l : List UInt8) : Bool := decide (4 ≤ l.length) && decide (tailB (sumB (l.take (l.length - 4))) = l.drop (l.length - 4))
def bodyB (l : List UInt8) : List UInt8 := if openB l = true then l.take (l.length - 4) else []
theorem sealB_len (l : List UInt8) : (sealB l).length = l.length + 4 := by unfold sealB; rw [List.length_append]; rfl
theorem openB_seal (l : List UInt8) : openB l = (decide (4 ≤ l.length) && decide (sealB (l.take (l.length - 4)) = l)) := by
  unfold openB sealB
  by_cases h : 4 ≤ l.length
  · rw [decide_eq_true h, Bool.true_and, Bool.true_and, decide_eq_decide]
    constructor
    · intro e; rw [e, List.take_append_drop]
    · intro e
      have e2 := congrArg (List.drop (l.length - 4)) e
      rw [List.drop_append, List.drop_eq_nil_of_le (by rw [List.length_take]; omega), List.nil_append] at e2
      rw [show l.length - 4 - (l.take (l.length - 4)).length = 0 by rw [List.length_take]; omega, List.drop_zero] at e2
      exact e2
  · rw [decide_eq_false h, Bool.false_and, Bool.false_and]
theorem toList_loop (b : ByteArray) : ∀ (n i : Nat) (r : List UInt8), b.size - i = n → ByteArray.toList.loop b i r = r.reverse ++ b.data.toList.drop i
  | 0, i, r, h => by
    rw [ByteArray.toList.loop, if_neg (by omega), List.drop_eq_nil_of_le (by have : b.data.toList.length = b.size := by simp
                                                                             omega), List.append_nil]
  | n + 1, i, r, h => by
    have hi : i < b.size := by omega
    have hl : b.data.toList.length = b.size := by simp
    have hg : b.get! i = b.data.toList[i]'(by omega) := by
      have : b.data.size = b.size := rfl
      show b.data[i]! = _
      rw [getElem!_pos b.data i (by omega)]; simp
    rw [ByteArray.toList.loop, if_pos hi, toList_loop b n (i + 1) _ (by omega), List.reverse_cons, List.append_assoc, List.drop_eq_getElem_cons (by omega : i < b.data.toList.length), hg]
    rfl
theorem toList_data (b : ByteArray) : b.toList = b.data.toList := by
  rw [ByteArray.toList, toList_loop b _ 0 [] rfl]; rfl
theorem str_eq (a b : List UInt8) : ((⟨a.toArray⟩ : ByteArray).toList == (⟨b.toArray⟩ : ByteArray).toList) = decide (a = b) := by
  rw [toList_data, toList_data]
  show (a == b) = _
  by_cases h : a = b
  · subst h; simp
  · simp [h]

theorem openB_F {l : List UInt8} (h : (l.length : Int) - 4 < 0 ∨ ¬ tailB (sumB (l.take (l.length - 4))) = l.drop (l.length - 4)) : openB l = false := by
  unfold openB
  rcases h with h | h
  · rw [decide_eq_false (by omega)]; rfl
  · rw [decide_eq_false h, Bool.and_false]
theorem openB_T {l : List UInt8} (h : 0 ≤ (l.length : Int) - 4 ∧ tailB (sumB (l.take (l.length - 4))) = l.drop (l.length - 4)) : openB l = true := by
  unfold openB
  rw [decide_eq_true (by omega), decide_eq_true h.2]; rfl
theorem bodyB_F {l : List UInt8} (h : openB l = false) : bodyB l = [] := by unfold bodyB; rw [h]; rfl
theorem bodyB_T {l : List UInt8} (h : openB l = true) : bodyB l = l.take (l.length - 4) := by unfold bodyB; rw [h]; rfl

theorem open_seal (l : List UInt8) : openB (sealB l) = true := by
  rw [openB_seal, sealB_len, decide_eq_true (by omega), Bool.true_and, decide_eq_true_iff]
  rw [show l.length + 4 - 4 = l.length by omega]
  have : (sealB l).take l.length = l := by unfold sealB; rw [List.take_left']; rfl
  rw [this]
theorem body_seal (l : List UInt8) : bodyB (sealB l) = l := by
  rw [bodyB_T (open_seal l), sealB_len, show l.length + 4 - 4 = l.length by omega]
  unfold sealB; rw [List.take_left']; rfl

end Go.AM.PL
