/- Numbers of either sign as numbers without one, as printed. -/
import Derived.Test.YtgmeellapjimgaaQPBax3
import Derived.Test.YtgmeellapjimgaaQBitsPlain
namespace Go.Proofs.Ytgmeellapjimgaa.Bp
open Go Go.RowKit Go.Proofs.Ytgmeellapjimgaa.PBa Go.Proofs.YtgmeellapjimgaaW.PrintWords Go.Proofs.YtgmeellapjimgaaW.PrintLast Go.Proofs.YtgmeellapjimgaaW.PrintMore
set_option linter.unusedVariables false
set_option linter.unusedSimpArgs false

theorem xor_ones {x : Int} (h : 0 ≤ x ∧ x < 18446744073709551616) : Go.bits .xor .u64 x 18446744073709551615 = 18446744073709551615 - x := by
  obtain ⟨a, rfl⟩ := Int.eq_ofNat_of_zero_le h.1
  have e : (18446744073709551615 : Int) = ((18446744073709551615 : Nat) : Int) := rfl
  rw [e, u64_xor_nat a 18446744073709551615 (by omega) (by omega)]
  have q : (BitVec.ofNat 64 a ^^^ BitVec.allOnes 64).toNat = (~~~(BitVec.ofNat 64 a)).toNat := by rw [BitVec.xor_allOnes]
  rw [BitVec.toNat_xor, BitVec.toNat_not, BitVec.toNat_ofNat, BitVec.toNat_allOnes, Nat.mod_eq_of_lt (by omega)] at q
  rw [show (18446744073709551615 : Nat) = 2 ^ 64 - 1 from rfl, q]
  omega
theorem xor_nought {x : Int} (h : 0 ≤ x ∧ x < 18446744073709551616) : Go.bits .xor .u64 x 0 = x := by
  obtain ⟨a, rfl⟩ := Int.eq_ofNat_of_zero_le h.1
  have e : (0 : Int) = ((0 : Nat) : Int) := rfl
  rw [e, u64_xor_nat a 0 (by omega) (by omega), Nat.xor_zero]

def zig (n : Int) : Int := if 0 ≤ n then 2 * n else -2 * n - 1
theorem zig_range {n : Int} (h : -9223372036854775808 ≤ n ∧ n ≤ 9223372036854775807) : 0 ≤ zig n ∧ zig n < 18446744073709551616 := by unfold zig; split <;> omega
theorem zig_f {n : Int} (h : -9223372036854775808 ≤ n ∧ n ≤ 9223372036854775807) : bits_Zig.f n = some (zig n) := by
  unfold bits_Zig.f zig
  simp only [IntKind.wrap_u64]
  by_cases c : 0 ≤ n
  · rw [if_pos c, show n / 9223372036854775808 = 0 from by omega, show n % 18446744073709551616 * 2 % 18446744073709551616 = 2 * n from by omega, show (0 : Int) % 18446744073709551616 = 0 from rfl, xor_nought (by omega)]
  · rw [if_neg c, show n / 9223372036854775808 = -1 from by omega, show n % 18446744073709551616 * 2 % 18446744073709551616 = 2 * n + 18446744073709551616 from by omega, show (-1 : Int) % 18446744073709551616 = 18446744073709551615 from rfl, xor_ones (by omega)]
    congr 1
    omega


end Go.Proofs.Ytgmeellapjimgaa.Bp
