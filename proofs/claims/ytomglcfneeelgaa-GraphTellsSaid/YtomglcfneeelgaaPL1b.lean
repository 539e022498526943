/- Contracts of the functions that the statement reaches. No condition. -/
import Derived.Test.YtomglcfneeelgaaPL1
set_option linter.all false
set_option maxRecDepth 10000
namespace Go.AM.PL
def ts (T : BitVec 32) (i : Nat) : UInt8 := b8 ((I32 T).fdiv (2 ^ (min (8 * (i : Int)).toNat 32)))
theorem and_rng1 (n : Int) (m : Nat) (hm : m < 2 ^ 62) : ∃ q : Nat, andI .i64 n m = (q : Int) ∧ q ≤ m := by
  unfold andI
  have h1 : (BitVec.ofInt 64 n &&& BitVec.ofInt 64 (m : Int)).toNat ≤ m := by
    rw [BitVec.toNat_and]
    refine Nat.le_trans Nat.and_le_right ?_
    rw [BitVec.toNat_ofInt]
    omega
  refine ⟨(BitVec.ofInt 64 n &&& BitVec.ofInt 64 (m : Int)).toNat, ?_, h1⟩
  show IntKind.i64.wrap ((BitVec.ofInt 64 n &&& BitVec.ofInt 64 (m : Int)).toNat : Int) = _
  rw [IntKind.wrap_i64]; omega
end Go.AM.PL
