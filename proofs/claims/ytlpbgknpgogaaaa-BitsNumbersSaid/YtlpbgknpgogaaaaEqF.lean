/- Two rows of bytes, as printed: are they the same? -/
import Derived.Test.YtlpbgknpgogaaaaPBnx1
import Derived.Test.YtlpbgknpgogaaaaBitsPlain
namespace Go.Proofs.Ytlpbgknpgogaaaa.Bp
open Go Go.RowKit Go.Proofs.Ytlpbgknpgogaaaa.PBn Go.Proofs.YtlpbgknpgogaaaaW.PrintWords Go.Proofs.YtlpbgknpgogaaaaW.PrintLast Go.Proofs.YtlpbgknpgogaaaaW.PrintMore
set_option linter.unusedVariables false
set_option linter.unusedSimpArgs false

theorem bytes_l0 (l m : List Int) (hl : l.length ≤ 4000000000000000000) (h : l.length = m.length) (n : Nat) : ∀ (k i : Nat), i + n = l.length → n + 1 ≤ k →
    bollardalike_Bytes.l0 k l m (i : Int) = some (decide (l.drop i = m.drop i)) := by
  induction n with
  | zero =>
    intro k i hi hk
    obtain ⟨K, rfl⟩ : ∃ K, k = K + 1 := ⟨k - 1, by omega⟩
    simp only [bollardalike_Bytes.l0]
    rw [if_neg (by omega), List.drop_eq_nil_of_le (by omega), List.drop_eq_nil_of_le (by omega)]
    simp
  | succ n ih =>
    intro k i hi hk
    obtain ⟨K, rfl⟩ : ∃ K, k = K + 1 := ⟨k - 1, by omega⟩
    simp only [bollardalike_Bytes.l0]
    rw [if_pos (by omega), if_pos (by omega), if_pos (by omega), drop_cons (by omega : i < l.length), drop_cons (by omega : i < m.length)]
    by_cases c : rd l (i : Int) = rd m (i : Int)
    · rw [if_pos c, up64 i (by omega), ih K (i + 1) (by omega) (by omega), c]
      simp
    · rw [if_neg c]
      simp [c]

theorem bytes_f (l m : List Int) (hl : l.length ≤ 4000000000000000000) (k : Nat) (hk : l.length + 1 ≤ k) : bollardalike_Bytes.f k l m = some (decide (l = m)) := by
  unfold bollardalike_Bytes.f
  by_cases c : (l.length : Int) = (m.length : Int)
  · rw [if_pos c]
    have := bytes_l0 l m hl (by omega) l.length k 0 (by omega) hk
    simpa using this
  · rw [if_neg c]
    have : l ≠ m := fun e => c (by rw [e])
    simp [this]


end Go.Proofs.Ytlpbgknpgogaaaa.Bp
