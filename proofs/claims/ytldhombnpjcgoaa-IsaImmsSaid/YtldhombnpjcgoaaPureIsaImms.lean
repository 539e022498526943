/- A number below 65536 goes into an instruction and comes out of it: for any two numbers. No condition. -/
import Derived.Test.YtldhombnpjcgoaaPIsaImmsx4
import Derived.Laws.BitsLemmas
namespace Go.Proofs.Ytldhombnpjcgoaa.Pure
open Go.RowKit Go.Proofs.Ytldhombnpjcgoaa.PIsaImms Go.Proofs.YtldhombnpjcgoaaW.PrintWords Go.Proofs.YtldhombnpjcgoaaW.PrintLast

theorem known_ok : horariumlaw15_known.f 10 = some true := by decide +kernel

theorem wraps_u32 (n : Int) (h₀ : 0 ≤ n) (h₁ : n < 2 ^ 32) : IntKind.u32.wrap n = n := by rw [IntKind.wrap_u32]; omega

theorem IsaImms : horariumlaw15_IsaImms.Pure := by
  intro n op wn _
  refine ⟨10, ?_⟩
  have hn : 0 ≤ n ∧ n < 2 ^ 32 := by
    simp only [Lit.wf, IntKind.min, IntKind.max, IntKind.signed, IntKind.bits, Bool.and_eq_true] at wn
    simp at wn
    omega
  have hm0 : 0 ≤ Int.tmod (wrap64 ((Int.tmod op 18) + 18)) 18 ∧ Int.tmod (wrap64 ((Int.tmod op 18) + 18)) 18 ≤ 17 := by
    have h1 : wrap64 ((Int.tmod op 18) + 18) = Int.tmod op 18 + 18 := by
      have := Int.tmod_lt_of_pos op (show (0 : Int) < 18 by decide)
      have := Int.lt_tmod_of_pos op (show (0 : Int) < 18 by decide)
      unfold wrap64; omega
    have := Int.tmod_lt_of_pos op (show (0 : Int) < 18 by decide)
    have := Int.lt_tmod_of_pos op (show (0 : Int) < 18 by decide)
    rw [h1, Int.tmod_eq_emod_of_nonneg (by omega)]
    omega
  have hk : bits .and .u32 n 65535 = n % 65536 := bits_mask .u32 32 (by decide) wraps_u32 16 (by decide) n hn.1 hn.2
  have hk2 : bits .and .u32 (n % 65536) 255 = n % 65536 % 256 := bits_mask .u32 32 (by decide) wraps_u32 8 (by decide) (n % 65536) (by omega) (by omega)
  unfold horariumlaw15_IsaImms.f
  rw [hk, hk2]
  generalize Int.tmod (wrap64 ((Int.tmod op 18) + 18)) 18 = m at *
  obtain ⟨m0, m1⟩ := hm0
  have w1 : wrap64 (n % 65536 / 256) = n % 65536 / 256 := by unfold wrap64; omega
  have w2 : wrap64 (n % 65536 % 256) = n % 65536 % 256 := by unfold wrap64; omega
  rw [w1, w2]
  generalize hb : n % 65536 / 256 = b at *
  generalize hc : n % 65536 % 256 = c at *
  have b0 : 0 ≤ b ∧ b ≤ 255 := by omega
  have c0 : 0 ≤ c ∧ c ≤ 255 := by omega
  have hbytes : isa_Bytes.f 10 [(⟨0, 0, 0, 0⟩ : S26), (⟨m, 1, b, c⟩ : S26)] = some [0, 0, 0, 0, m, 1, b, c] := by
    have e1 : m % 256 = m := by omega
    have e2 : b % 256 = b := by omega
    have e3 : c % 256 = c := by omega
    simp [isa_Bytes.f, isa_Bytes.l0, rd_T26, wrap64, e1, e2, e3]
  have hfetch : isa_Fetch.f [0, 0, 0, 0, m, 1, b, c] 4 = some (m, 1, b, c, true) := by
    have e1 : (m + 9223372036854775808) % 18446744073709551616 - 9223372036854775808 = m := by omega
    have e2 : (b + 9223372036854775808) % 18446744073709551616 - 9223372036854775808 = b := by omega
    have e3 : (c + 9223372036854775808) % 18446744073709551616 - 9223372036854775808 = c := by omega
    simp [isa_Fetch.f, rd, wrap64, e1, e2, e3]
  have himm : isa_Imm.f m 1 b c = some (n % 65536) := by
    unfold isa_Imm.f
    congr 1
    omega
  rw [hbytes]
  simp only [Option.bind_some]
  rw [hfetch]
  simp only [Option.bind_some]
  rw [if_pos trivial, himm, known_ok]
  simp

end Go.Proofs.Ytldhombnpjcgoaa.Pure
