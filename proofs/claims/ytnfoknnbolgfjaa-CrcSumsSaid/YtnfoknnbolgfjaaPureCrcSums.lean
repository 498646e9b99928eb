/- Any bytes have the sum that the document tells, in one piece or two: of every two rows of bytes and every sum ahead. No condition. -/
import Derived.Test.YtnfoknnbolgfjaaPCrcx1
import Derived.Test.YtnfoknnbolgfjaaCrcFun
import Derived.Test.YtnfoknnbolgfjaaCrcLaws
namespace Go.Proofs.Ytnfoknnbolgfjaa.Pure
open Go Go.RowKit Go.Proofs.Ytnfoknnbolgfjaa.PCrc Go.Proofs.YtnfoknnbolgfjaaW.PrintWords Go.Proofs.YtnfoknnbolgfjaaW.PrintLast Go.Proofs.Ytnfoknnbolgfjaa.Crc
set_option linter.unusedVariables false
set_option linter.unusedSimpArgs false

theorem CrcSums : bollardlaw2_CrcSums.Pure := by
  intro l0 l1 a2 _ h0 _ _ h1 _ h2
  obtain ⟨c, rfl⟩ := word_of h2
  have aw := awake_f
  refine ⟨200 + 10 * (l0.length + l1.length) + 20, ?_⟩
  obtain ⟨K, hK⟩ : ∃ K, K = 200 + 10 * (l0.length + l1.length) + 19 := ⟨_, rfl⟩
  rw [show 200 + 10 * (l0.length + l1.length) + 20 = K + 1 from by omega]
  unfold bollardlaw2_CrcSums.f
  have e : ∀ b, (b = false → l0.length ≤ 3000 ∧ l1.length ≤ 3000) → bollardlaw2_CrcSums.j0 (K + 1) l0 l1 (c.toNat : Int) b = some true := by
    intro b hb
    simp only [bollardlaw2_CrcSums.j0]
    cases b with
    | true => rw [if_pos (by trivial), aw K (by omega)]; rfl
    | false =>
      obtain ⟨g0, g1⟩ := hb rfl
      have s0 := sum_f l0 (by omega) K (by omega)
      have r0 := rsum_f l0 (by omega) K (by omega)
      have m1 := more_f c l1 (by omega) K (by omega)
      have n1 := rmore_f c l1 (by omega) K (by omega)
      have m2 := more_f (more 0#32 l0) l1 (by omega) K (by omega)
      have r2 := rsum_f (l0 ++ l1) (by rw [List.length_append]; omega) K (by rw [List.length_append]; omega)
      have ec : crc l0 = ((more 0#32 l0).toNat : Int) := rfl
      have ed : crc (l0 ++ l1) = ((more (more 0#32 l0) l1).toNat : Int) := by rw [more_append]; rfl
      rw [if_neg (by simp), s0]; simp only [Option.bind_some]
      rw [r0]; simp only [Option.bind_some]
      rw [if_pos (by trivial), m1]; simp only [Option.bind_some]
      rw [n1]; simp only [Option.bind_some]
      rw [if_pos (by trivial), ec, m2]; simp only [Option.bind_some, List.nil_append, List.length_nil, Nat.zero_add]
      rw [if_pos (by omega), if_pos (by omega), r2]; simp only [Option.bind_some]
      rw [if_pos ed.symm, aw K (by omega)]; rfl
  by_cases c1 : (l0.length : Int) > 3000
  · rw [if_pos c1]
    exact e _ (by simp)
  · rw [if_neg c1]
    by_cases c2 : (l1.length : Int) > 3000
    · rw [decide_eq_true c2]
      exact e _ (by simp)
    · rw [decide_eq_false c2]
      exact e _ (fun _ => by omega)

end Go.Proofs.Ytnfoknnbolgfjaa.Pure
