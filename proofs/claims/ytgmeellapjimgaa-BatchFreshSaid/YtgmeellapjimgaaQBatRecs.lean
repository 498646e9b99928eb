/- Rows of records, compared. -/
import Derived.Test.YtgmeellapjimgaaQPBax12
import Derived.Test.YtgmeellapjimgaaQBatRef
namespace Go.Proofs.Ytgmeellapjimgaa.Bp
open Go Go.RowKit Go.Proofs.Ytgmeellapjimgaa.PBa Go.Proofs.YtgmeellapjimgaaW.PrintWords Go.Proofs.YtgmeellapjimgaaW.PrintLast Go.Proofs.YtgmeellapjimgaaW.PrintMore
set_option linter.unusedVariables false
set_option linter.unusedSimpArgs false

theorem recs_l0 (l : List S45) (hl : l.length ≤ 4000000000000000000) (n : Nat) : ∀ (k i : Nat), i + n = l.length → n + 1 ≤ k → bollardalike_Records.l0 k l l (i : Int) = some true := by
  induction n with
  | zero =>
    intro k i hi hk
    obtain ⟨K, rfl⟩ : ∃ K, k = K + 1 := ⟨k - 1, by omega⟩
    rw [bollardalike_Records.l0, if_neg (by omega)]
  | succ n ih =>
    intro k i hi hk
    obtain ⟨K, rfl⟩ : ∃ K, k = K + 1 := ⟨k - 1, by omega⟩
    rw [bollardalike_Records.l0, if_pos (by omega), if_pos (by omega), if_pos (by omega), if_neg (by simp), show wrap64 ((i : Int) + 1) = ((i + 1 : Nat) : Int) from by unfold wrap64; omega]
    exact ih K (i + 1) (by omega) (by omega)
theorem recs_f (l : List S45) (hl : l.length ≤ 4000000000000000000) (k : Nat) (hk : l.length + 1 ≤ k) : bollardalike_Records.f k l l = some true := by
  unfold bollardalike_Records.f
  rw [if_pos rfl]
  exact recs_l0 l hl l.length k 0 (by omega) (by omega)
theorem same_f (b s p q : Int) (l : List S45) (hl : l.length ≤ 4000000000000000000) (k : Nat) (hk : l.length + 1 ≤ k) : bollardlaw13_same.f k b s p q l b s p q l = some true := by
  unfold bollardlaw13_same.f
  rw [if_pos ⟨rfl, rfl, rfl, rfl⟩, recs_f l hl k hk]
end Go.Proofs.Ytgmeellapjimgaa.Bp
