/- Of each width from 1 to 62 the least and the greatest number fit, and one beyond does not; of any other width what the document fixes holds. No condition. -/
import Derived.Test.YtlpbgknpgogaaaaPBitsx5
import Derived.Test.YtlpbgknpgogaaaaBitsNar
import Derived.Test.YtlpbgknpgogaaaaBitsAwake
namespace Go.Proofs.Ytlpbgknpgogaaaa.Pure
open Go Go.RowKit Go.Proofs.Ytlpbgknpgogaaaa.PBits Go.Proofs.YtlpbgknpgogaaaaW.PrintWords Go.Proofs.YtlpbgknpgogaaaaW.PrintLast Go.Proofs.YtlpbgknpgogaaaaW.PrintMore Go.Proofs.Ytlpbgknpgogaaaa.Bp
set_option linter.unusedVariables false
set_option linter.unusedSimpArgs false

theorem BitsEdges : bollardlaw1_BitsEdges.Pure := by
  intro w hw
  have hw := wfi hw
  refine ⟨61, ?_⟩
  have et : bollardlaw1_BitsEdges.j0 61 w true = some true := by
    simp only [bollardlaw1_BitsEdges.j0]
    rw [if_pos (by trivial), awake_f 60 (by omega)]
    rfl
  unfold bollardlaw1_BitsEdges.f
  by_cases c1 : w < 1
  · rw [if_pos c1]; exact et
  rw [if_neg c1]
  by_cases c2 : w > 62
  · rw [decide_eq_true c2]; exact et
  rw [decide_eq_false c2]
  obtain ⟨n, rfl⟩ := Int.eq_ofNat_of_zero_le (show 0 ≤ w from by omega)
  have hh := pow_split (show (n - 1) + 1 = n from by omega)
  have hW2 : (2 : Int) ^ n = 2 ^ (n - 1) * 2 := by rw [← hh]; rfl
  have hr := pow_pos' (n - 1)
  have h61 : (2 : Int) ^ (n - 1) ≤ 2305843009213693952 := by
    have : (2 : Int) ^ (n - 1) ≤ 2 ^ 61 := pow_le (by omega)
    omega
  have es : shl .i64 1 ((n : Int) - 1) = 2 ^ (n - 1) := by
    unfold shl
    simp only [IntKind.bits]
    rw [show min ((n : Int) - 1).toNat 64 = n - 1 from by omega, i64_w, Int.one_mul]
    exact w64 (by omega) (by omega)
  have nf : ∀ (v : Int) (s : Bool), -9223372036854775808 ≤ v → v ≤ 9223372036854775807 → bits_Narrow.f 60 v (n : Int) s = some (narrow v n s) := fun v s a b => narrow_f ⟨a, b⟩ n (by omega) (by omega) s 60 (by omega)
  simp only [bollardlaw1_BitsEdges.j0]
  rw [if_neg (by simp), w64 (x := (n : Int) - 1) (by omega) (by omega), if_pos (by omega), es]
  rw [w64 (x := 2 ^ (n - 1) - 1) (by omega) (by omega), w64 (x := -(2 ^ (n - 1))) (by omega) (by omega), w64 (x := -(2 ^ (n - 1)) - 1) (by omega) (by omega), w64 (x := 2 * 2 ^ (n - 1)) (by omega) (by omega), w64 (x := 2 * 2 ^ (n - 1) - 1) (by omega) (by omega)]
  rw [nf _ _ (by omega) (by omega), nf _ _ (by omega) (by omega), nf _ _ (by omega) (by omega), nf _ _ (by omega) (by omega), nf _ _ (by omega) (by omega), nf _ _ (by omega) (by omega), nf _ _ (by omega) (by omega)]
  simp only [Option.bind_some]
  have t : ∀ v, (narrow v n true).2 = decide (-(2 ^ (n - 1)) ≤ v ∧ v < 2 ^ (n - 1)) := by
    intro v
    unfold narrow
    rw [if_pos rfl]
    split
    · rename_i q; exact (decide_eq_true q).symm
    · rename_i q; exact (decide_eq_false q).symm
  have f : ∀ v, (narrow v n false).2 = decide (0 ≤ v ∧ v < 2 ^ n) := by
    intro v
    unfold narrow
    rw [if_neg (by simp)]
    split
    · rename_i q; exact (decide_eq_true q).symm
    · rename_i q; exact (decide_eq_false q).symm
  rw [t, t, t, t, f, f, f]
  rw [decide_eq_true (show -(2 ^ (n - 1)) ≤ (2 : Int) ^ (n - 1) - 1 ∧ (2 : Int) ^ (n - 1) - 1 < 2 ^ (n - 1) from by omega), decide_eq_false (show ¬ (-(2 ^ (n - 1)) ≤ (2 : Int) ^ (n - 1) ∧ (2 : Int) ^ (n - 1) < 2 ^ (n - 1)) from by omega),
    decide_eq_true (show -(2 ^ (n - 1)) ≤ -(2 : Int) ^ (n - 1) ∧ -(2 : Int) ^ (n - 1) < 2 ^ (n - 1) from by omega), decide_eq_false (show ¬ (-(2 ^ (n - 1)) ≤ -(2 : Int) ^ (n - 1) - 1 ∧ -(2 : Int) ^ (n - 1) - 1 < 2 ^ (n - 1)) from by omega),
    decide_eq_true (show 0 ≤ 2 * (2 : Int) ^ (n - 1) - 1 ∧ 2 * (2 : Int) ^ (n - 1) - 1 < 2 ^ n from by omega), decide_eq_false (show ¬ (0 ≤ 2 * (2 : Int) ^ (n - 1) ∧ 2 * (2 : Int) ^ (n - 1) < 2 ^ n) from by omega),
    decide_eq_false (show ¬ (0 ≤ (-1 : Int) ∧ (-1 : Int) < 2 ^ n) from by omega), awake_f 60 (by omega)]
  simp

end Go.Proofs.Ytlpbgknpgogaaaa.Pure
