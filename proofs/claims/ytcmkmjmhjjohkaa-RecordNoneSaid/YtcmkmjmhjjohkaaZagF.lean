/- Numbers with their sign again, as printed. -/
import Derived.Test.YtcmkmjmhjjohkaaPDecx4
import Derived.Test.YtcmkmjmhjjohkaaZigF
namespace Go.Proofs.Ytcmkmjmhjjohkaa.Bp
open Go Go.RowKit Go.Proofs.Ytcmkmjmhjjohkaa.PDec Go.Proofs.YtcmkmjmhjjohkaaW.PrintWords Go.Proofs.YtcmkmjmhjjohkaaW.PrintLast Go.Proofs.YtcmkmjmhjjohkaaW.PrintMore
set_option linter.unusedVariables false
set_option linter.unusedSimpArgs false

theorem ixor_nought {x : Int} (h : 0 ≤ x ∧ x < 9223372036854775808) : Go.bits .xor .i64 x 0 = x := by
  obtain ⟨a, rfl⟩ := Int.eq_ofNat_of_zero_le h.1
  show IntKind.i64.wrap ((BitVec.ofInt 64 (a : Int) ^^^ BitVec.ofInt 64 (0 : Int)).toNat : Int) = _
  have e : BitVec.ofInt 64 (0 : Int) = 0#64 := rfl
  rw [e, BitVec.xor_zero, BitVec.ofInt_natCast, BitVec.toNat_ofNat, Nat.mod_eq_of_lt (by omega), i64_w]
  unfold wrap64
  omega
theorem ixor_ones {x : Int} (h : 0 ≤ x ∧ x < 9223372036854775808) : Go.bits .xor .i64 x (-1) = -1 - x := by
  obtain ⟨a, rfl⟩ := Int.eq_ofNat_of_zero_le h.1
  show IntKind.i64.wrap ((BitVec.ofInt 64 (a : Int) ^^^ BitVec.ofInt 64 (-1 : Int)).toNat : Int) = _
  have e : BitVec.ofInt 64 (-1 : Int) = BitVec.allOnes 64 := by decide
  rw [e, BitVec.xor_allOnes, BitVec.ofInt_natCast, BitVec.toNat_not, BitVec.toNat_ofNat, Nat.mod_eq_of_lt (by omega), i64_w]
  unfold wrap64
  omega
def zag (u : Int) : Int := if u % 2 = 0 then u / 2 else -1 - u / 2
theorem zag_f {u : Int} (h : 0 ≤ u ∧ u < 18446744073709551616) : bits_Zag.f u = some (zag u) := by
  unfold bits_Zag.f zag
  rw [u64_and1 h, w64 (by omega) (by omega)]
  by_cases c : u % 2 = 0
  · rw [if_pos c, c, show wrap64 (-(wrap64 0)) = 0 from by unfold wrap64; omega, ixor_nought (by omega)]
  · rw [if_neg c, show u % 2 = 1 from by omega, show wrap64 (-(wrap64 1)) = -1 from by unfold wrap64; omega, ixor_ones (by omega)]
theorem zag_zig (n : Int) : zag (zig n) = n := by
  unfold zag zig
  split <;> split <;> omega
theorem zag_range {u : Int} (h : 0 ≤ u ∧ u < 18446744073709551616) : -9223372036854775808 ≤ zag u ∧ zag u ≤ 9223372036854775807 := by unfold zag; split <;> omega
theorem zig_zag {u : Int} (h : 0 ≤ u) : zig (zag u) = u := by
  unfold zag zig
  split <;> split <;> omega

end Go.Proofs.Ytcmkmjmhjjohkaa.Bp
