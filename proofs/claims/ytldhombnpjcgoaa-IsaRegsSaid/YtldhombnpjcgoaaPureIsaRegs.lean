/- With registers that are none no op that has them is right; jumps and ends have none: for any four numbers. No condition. -/
import Derived.Test.YtldhombnpjcgoaaPIsaRegsx4
import Derived.Laws.Bits128
namespace Go.Proofs.Ytldhombnpjcgoaa.Pure
open Go.RowKit Go.Proofs.Ytldhombnpjcgoaa.PIsaRegs Go.Proofs.YtldhombnpjcgoaaW.PrintWords Go.Proofs.YtldhombnpjcgoaaW.PrintLast

theorem and_mask (n : Int) (i : Nat) (hi : i < 64) : bits .and .i64 n (2 ^ i - 1) = n % 2 ^ i ∧ True := by
  refine ⟨?_, trivial⟩
  have hp : (2 ^ i : Nat) - 1 < 2 ^ 64 := by
    have : (2 ^ i : Nat) ≤ 2 ^ 64 := Nat.pow_le_pow_right (by decide) (by omega)
    have := Nat.two_pow_pos i
    omega
  have hpos := Nat.two_pow_pos i
  have hc : ((2 : Int) ^ i - 1) = ((2 ^ i - 1 : Nat) : Int) := by
    rw [Int.natCast_sub hpos]; simp
  have h127 : (BitVec.ofInt 64 ((2 : Int) ^ i - 1)).toNat = 2 ^ i - 1 := by
    rw [hc, BitVec.ofInt_natCast, BitVec.toNat_ofNat, Nat.mod_eq_of_lt hp]
  have key : (BitVec.ofInt 64 n &&& BitVec.ofInt 64 ((2 : Int) ^ i - 1)).toNat = (n % ((2 ^ 64 : Nat) : Int)).toNat % 2 ^ i := by
    rw [BitVec.toNat_and, BitVec.toNat_ofInt, h127, Nat.and_two_pow_sub_one_eq_mod]
  show IntKind.i64.wrap ((BitVec.ofInt 64 n &&& BitVec.ofInt 64 ((2 : Int) ^ i - 1)).toNat : Nat) = n % 2 ^ i
  rw [key, IntKind.wrap_i64]
  have hlt : (2 : Nat) ^ i ≤ 2 ^ 63 := Nat.pow_le_pow_right (by decide) (by omega)
  have hm : (n % ((2 ^ 64 : Nat) : Int)).toNat % 2 ^ i < 2 ^ i := Nat.mod_lt _ hpos
  have e1 : (((n % ((2 ^ 64 : Nat) : Int)).toNat % 2 ^ i : Nat) : Int) = n % 2 ^ i := by
    have h0 : 0 ≤ n % ((2 ^ 64 : Nat) : Int) := Int.emod_nonneg _ (by decide)
    rw [Int.natCast_emod, Int.toNat_of_nonneg h0]
    rw [show (((2 ^ i : Nat)) : Int) = 2 ^ i from by simp]
    apply Int.emod_emod_of_dvd
    refine ⟨2 ^ (64 - i), ?_⟩
    have : ((2 ^ 64 : Nat) : Int) = (2 : Int) ^ 64 := by decide
    rw [this, ← Int.pow_add]
    congr 1; omega
  have h63 : (2 : Nat) ^ 63 = 9223372036854775808 := by decide
  have b1 : 0 ≤ n % 2 ^ i := by
    rw [← e1]; exact Int.natCast_nonneg _
  have b2 : n % 2 ^ i < 9223372036854775808 := by
    rw [← e1]; omega
  rw [e1]
  omega

theorem and7 (n : Int) : bits .and .i64 n 7 = n % 8 := (and_mask n 3 (by decide)).1
theorem and127 (n : Int) : bits .and .i64 n 127 = n % 128 := (and_mask n 7 (by decide)).1
theorem and63 (n : Int) : bits .and .i64 n 63 = n % 64 := (and_mask n 6 (by decide)).1

theorem known_ok : horariumlaw15_known.f 10 = some true := by decide +kernel

def nr (m : Int) : Bool × Bool × Bool :=
  if m = 1 ∨ m = 9 ∨ m = 10 ∨ m = 13 ∨ m = 14 ∨ m = 15 then (true, false, false)
  else if m = 2 ∨ m = 3 ∨ m = 4 ∨ m = 5 then (true, true, true)
  else if m = 6 ∨ m = 7 then (true, true, false)
  else if m = 11 ∨ m = 12 then (false, true, false) else (false, false, false)

theorem cases18 (m : Int) (h0 : 0 ≤ m) (h1 : m ≤ 17) : m = 0 ∨ m = 1 ∨ m = 2 ∨ m = 3 ∨ m = 4 ∨ m = 5 ∨ m = 6 ∨ m = 7 ∨ m = 8 ∨ m = 9 ∨ m = 10 ∨ m = 11 ∨ m = 12 ∨ m = 13 ∨ m = 14 ∨ m = 15 ∨ m = 16 ∨ m = 17 := by omega

theorem regs_ok (m : Int) (h0 : 0 ≤ m) (h1 : m ≤ 17) : isa_regs.f 10 m = some (nr m) := by
  rcases cases18 m h0 h1 with rfl | rfl | rfl | rfl | rfl | rfl | rfl | rfl | rfl | rfl | rfl | rfl | rfl | rfl | rfl | rfl | rfl | rfl <;> decide +kernel

theorem regs_big (m : Int) (h1 : 17 < m) : ∃ r, isa_regs.f 10 m = some r := by
  refine ⟨(false, false, false), ?_⟩
  have n1 : (m == 15) = false := by simp; omega
  have n2 : (m == 5) = false := by simp; omega
  have n3 : (m == 7) = false := by simp; omega
  have m1 : ¬ m = 1 := by omega
  have m9 : ¬ m = 9 := by omega
  have m10 : ¬ m = 10 := by omega
  have m13 : ¬ m = 13 := by omega
  have m14 : ¬ m = 14 := by omega
  have m2 : ¬ m = 2 := by omega
  have m3 : ¬ m = 3 := by omega
  have m4 : ¬ m = 4 := by omega
  have m6 : ¬ m = 6 := by omega
  have m11 : ¬ m = 11 := by omega
  have m12 : ¬ m = 12 := by omega
  simp [isa_regs.f, isa_regs.j0, isa_regs.j1, isa_regs.j2, n1, n2, n3, m1, m9, m10, m13, m14, m2, m3, m4, m6, m11, m12]

theorem field_ok (n : Int) (r : Bool) (h0 : 0 ≤ n) (h1 : n ≤ 7) : isa_field.f n r = some true := by
  unfold isa_field.f
  rw [if_pos h0, if_pos (by omega)]
  cases r
  · simp
  · simp; omega

theorem field_no (n : Int) (r : Bool) (h0 : 8 ≤ n) (h1 : n ≤ 135) : isa_field.f n r = some (!r) := by
  unfold isa_field.f
  rw [if_pos (by omega), if_pos (by omega)]
  cases r
  · simp
  · simp; omega

theorem right_ok (m A B C : Int) (h0 : 0 ≤ m) (h1 : m ≤ 17) (a0 : 0 ≤ A) (a1 : A ≤ 7) (b0 : 0 ≤ B) (b1 : B ≤ 7) (c0 : 0 ≤ C) (c1 : C ≤ 7) :
    isa_Right.f 10 m A B C = some true := by
  unfold isa_Right.f
  rw [regs_ok m h0 h1]
  simp only [Option.bind_some]
  rw [if_pos h0, if_pos h1, field_ok A _ a0 a1, field_ok B _ b0 b1, field_ok C _ c0 c1]
  rfl

def free (m : Int) : Bool := m == 0 || m == 8 || m == 17 || m == 16

theorem right_no (m A B C : Int) (h0 : 0 ≤ m) (h1 : m ≤ 17) (a0 : 8 ≤ A) (a1 : A ≤ 135) (b0 : 8 ≤ B) (b1 : B ≤ 135) (c0 : 8 ≤ C) (c1 : C ≤ 135) :
    isa_Right.f 10 m A B C = some (free m) := by
  unfold isa_Right.f
  rw [regs_ok m h0 h1]
  simp only [Option.bind_some]
  rw [if_pos h0, if_pos h1, field_no A _ a0 a1, field_no B _ b0 b1, field_no C _ c0 c1]
  rcases cases18 m h0 h1 with rfl | rfl | rfl | rfl | rfl | rfl | rfl | rfl | rfl | rfl | rfl | rfl | rfl | rfl | rfl | rfl | rfl | rfl <;> decide

theorem right_big (m : Int) (h1 : 17 < m) : isa_Right.f 10 m 0 0 0 = some false := by
  unfold isa_Right.f
  obtain ⟨r, hr⟩ := regs_big m h1
  rw [hr]
  simp only [Option.bind_some]
  rw [if_pos (by omega), if_neg (by omega)]

theorem right_256 (m : Int) (h0 : 0 ≤ m) (h1 : m ≤ 17) : isa_Right.f 10 m 256 0 0 = some false := by
  unfold isa_Right.f
  rw [regs_ok m h0 h1]
  simp only [Option.bind_some]
  rw [if_pos h0, if_pos h1]
  have : isa_field.f 256 (nr m).1 = some false := by
    unfold isa_field.f
    rw [if_pos (by omega), if_neg (by omega)]
  rw [this]; rfl

theorem name_ok (m : Int) (h0 : 0 ≤ m) (h1 : m ≤ 17) : ∃ s, isa_Name.f m = some s ∧ ¬ s.toList = ([] : List UInt8) := by
  rcases cases18 m h0 h1 with rfl | rfl | rfl | rfl | rfl | rfl | rfl | rfl | rfl | rfl | rfl | rfl | rfl | rfl | rfl | rfl | rfl | rfl <;> exact ⟨_, rfl, by decide +kernel⟩

theorem rest_ok (a0 m A B C D E F : Int) (h0 : 0 ≤ m) (h1 : m ≤ 17) (u0 : 0 ≤ A) (u1 : A ≤ 7) (b0 : 0 ≤ B) (b1 : B ≤ 7) (c0 : 0 ≤ C) (c1 : C ≤ 7)
    (d0 : 8 ≤ D) (d1 : D ≤ 135) (e0 : 8 ≤ E) (e1 : E ≤ 135) (f0 : 8 ≤ F) (f1 : F ≤ 135) :
    horariumlaw15_IsaRegs.j0 11 a0 (free m) m A B C m D E F = some true := by
  obtain ⟨s, hs, hne⟩ := name_ok m h0 h1
  have hb : 17 < wrap64 (18 + bits .and .i64 a0 63) := by
    rw [and63]; unfold wrap64; omega
  simp only [horariumlaw15_IsaRegs.j0]
  rw [right_ok m A B C h0 h1 u0 u1 b0 b1 c0 c1, right_no m D E F h0 h1 d0 d1 e0 e1 f0 f1, right_big _ hb, right_256 m h0 h1, hs, known_ok]
  simp [hne]

theorem IsaRegs : horariumlaw15_IsaRegs.Pure := by
  intro a0 a1 a2 a3 w0 _ _ _
  refine ⟨11, ?_⟩
  have hm0 : 0 ≤ Int.tmod (wrap64 ((Int.tmod a0 18) + 18)) 18 ∧ Int.tmod (wrap64 ((Int.tmod a0 18) + 18)) 18 ≤ 17 := by
    have h1 : wrap64 ((Int.tmod a0 18) + 18) = Int.tmod a0 18 + 18 := by
      have := Int.tmod_lt_of_pos a0 (show (0 : Int) < 18 by decide)
      have := Int.lt_tmod_of_pos a0 (show (0 : Int) < 18 by decide)
      unfold wrap64; omega
    have := Int.tmod_lt_of_pos a0 (show (0 : Int) < 18 by decide)
    have := Int.lt_tmod_of_pos a0 (show (0 : Int) < 18 by decide)
    rw [h1, Int.tmod_eq_emod_of_nonneg (by omega)]
    omega
  unfold horariumlaw15_IsaRegs.f
  generalize Int.tmod (wrap64 ((Int.tmod a0 18) + 18)) 18 = m at *
  obtain ⟨h0, h1⟩ := hm0
  rw [and7, and7, and7, and127, and127, and127]
  have wr : ∀ x : Int, wrap64 (8 + x % 128) = 8 + x % 128 := fun x => by unfold wrap64; omega
  rw [wr, wr, wr]
  have key := rest_ok a0 m (a1 % 8) (a2 % 8) (a3 % 8) (8 + a1 % 128) (8 + a2 % 128) (8 + a3 % 128) h0 h1 (by omega) (by omega) (by omega) (by omega) (by omega) (by omega) (by omega) (by omega) (by omega) (by omega) (by omega) (by omega)
  by_cases e0 : m = 0
  · rw [if_pos e0]; subst e0; exact key
  rw [if_neg e0]
  by_cases e8 : m = 8
  · rw [if_pos e8]; subst e8; exact key
  rw [if_neg e8]
  by_cases e17 : m = 17
  · rw [if_pos e17]; subst e17; exact key
  rw [if_neg e17]
  have : free m = (m == 16) := by
    unfold free
    have n0 : (m == 0) = false := by simp [e0]
    have n8 : (m == 8) = false := by simp [e8]
    have n17 : (m == 17) = false := by simp [e17]
    rw [n0, n8, n17]; rfl
  rw [this] at key
  exact key

end Go.Proofs.Ytldhombnpjcgoaa.Pure
