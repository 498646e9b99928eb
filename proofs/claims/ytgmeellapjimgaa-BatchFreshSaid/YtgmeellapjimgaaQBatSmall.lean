/- What Small lets in. -/
import Derived.Test.YtgmeellapjimgaaQPBax2
import Derived.Test.YtgmeellapjimgaaQBatRef
namespace Go.Proofs.Ytgmeellapjimgaa.Bp
open Go Go.RowKit Go.Proofs.Ytgmeellapjimgaa.PBa Go.Proofs.YtgmeellapjimgaaW.PrintWords Go.Proofs.YtgmeellapjimgaaW.PrintLast Go.Proofs.YtgmeellapjimgaaW.PrintMore
set_option linter.unusedVariables false
set_option linter.unusedSimpArgs false

theorem small_l0 (l : List S45) (hl : l.length ≤ 4000000000000000000) (n : Nat) : ∀ (k i : Nat) (sum : Int), i + n = l.length → n + 1 ≤ k → ∃ r, bollardalike_Small.l0 k l sum (i : Int) = some r ∧ (r = true → l.length ≤ 300) := by
  induction n with
  | zero =>
    intro k i sum hi hk
    obtain ⟨K, rfl⟩ : ∃ K, k = K + 1 := ⟨k - 1, by omega⟩
    simp only [bollardalike_Small.l0]
    rw [if_neg (by omega)]
    by_cases c : sum ≤ 20000
    · rw [if_pos c]
      exact ⟨_, rfl, fun h => by have := of_decide_eq_true h; omega⟩
    · rw [if_neg c]
      exact ⟨_, rfl, fun h => by cases h⟩
  | succ n ih =>
    intro k i sum hi hk
    obtain ⟨K, rfl⟩ : ∃ K, k = K + 1 := ⟨k - 1, by omega⟩
    simp only [bollardalike_Small.l0]
    rw [if_pos (by omega)]
    by_cases c : sum ≤ 20000
    · rw [if_pos c, if_pos (by omega), show wrap64 ((i : Int) + 1) = ((i + 1 : Nat) : Int) from by unfold wrap64; omega]
      exact ih K (i + 1) _ (by omega) (by omega)
    · rw [if_neg c]
      exact ⟨_, rfl, fun h => by cases h⟩
end Go.Proofs.Ytgmeellapjimgaa.Bp
