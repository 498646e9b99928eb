/- Areas stand one behind the other, each as great as it must be, to the last block. -/
import Derived.Test.YtnfoknnbolgfjaaPArex2
import Derived.Test.YtnfoknnbolgfjaaLayMake
namespace Go.Proofs.Ytnfoknnbolgfjaa.Pure
open Go Go.RowKit Go.Proofs.Ytnfoknnbolgfjaa.PAre Go.Proofs.YtnfoknnbolgfjaaW.PrintWords Go.Proofs.YtnfoknnbolgfjaaW.PrintLast Go.Proofs.YtnfoknnbolgfjaaW.PrintMore Go.Proofs.Ytnfoknnbolgfjaa.Lay
set_option linter.unusedVariables false
set_option linter.unusedSimpArgs false

theorem LayoutAreas : bollardlaw6_LayoutAreas.Pure := by
  intro n i hn hi
  unfold bollardlaw6_LayoutAreas.f
  by_cases f : Fits n i
  · by_cases g : room n i < 1
    · rw [make_full f g, Option.bind_some]
      dsimp only
      rw [if_neg (by decide), awake_f]
    · rw [make_good f (by omega), Option.bind_some]
      dsimp only
      rw [if_pos rfl, if_pos, awake_f]
      have f2 := f
      unfold Fits at f2
      have hr : mkRest n i = n - 246 - (i + 4095) / 4096 - (i + 7) / 8 := rfl
      have hb1 := mkBlocks_ge (mkRest n i)
      have hb2 := mkBlocks_le (mkRest n i) (by omega)
      have no := mkBlocks_no (r := mkRest n i)
      have yes : mkBlocks (mkRest n i) ≠ 1 → 4096 * (mkBlocks (mkRest n i) - 1) < mkRest n i - (mkBlocks (mkRest n i) - 1) := fun h => mkBlocks_yes (by omega) (by omega)
      have hm : room n i = mkRest n i - mkBlocks (mkRest n i) := rfl
      generalize mkBlocks (mkRest n i) = m at *
      generalize room n i = q at *
      have e1 : wrap64 (246 + (i + 4095) / 4096 - 246) = (i + 4095) / 4096 := by rw [w64 (by omega) (by omega)]; omega
      have e2 : wrap64 (246 + (i + 4095) / 4096 + m - (246 + (i + 4095) / 4096)) = m := by rw [w64 (by omega) (by omega)]; omega
      have e3 : wrap64 (246 + (i + 4095) / 4096 + m + (i + 7) / 8 - (246 + (i + 4095) / 4096 + m)) = (i + 7) / 8 := by rw [w64 (by omega) (by omega)]; omega
      unfold bollardlaw6_LayoutAreas.ok
      rw [e1, e2, e3]
      rw [w64 (x := (i + 4095) / 4096 * 4096) (by omega) (by omega), w64 (x := (i + 4095) / 4096 - 1) (by omega) (by omega), w64 (x := ((i + 4095) / 4096 - 1) * 4096) (by omega) (by omega), w64 (x := m * 4096) (by omega) (by omega), w64 (x := (i + 7) / 8 * 8) (by omega) (by omega), w64 (x := (i + 7) / 8 - 1) (by omega) (by omega), w64 (x := ((i + 7) / 8 - 1) * 8) (by omega) (by omega),
        w64 (x := 246 + (i + 4095) / 4096 + m + (i + 7) / 8 + q) (by omega) (by omega), w64 (x := m - 1) (by omega) (by omega), w64 (x := (m - 1) * 4096) (by omega) (by omega), w64 (x := q + 1) (by omega) (by omega)]
      refine ⟨⟨rfl, decide_eq_true (by omega), decide_eq_true (by omega), decide_eq_true (by omega), decide_eq_true (by omega), decide_eq_true (by omega), decide_eq_true (by omega), beq_iff_eq.mpr (by omega), decide_eq_true (by omega)⟩, ?_⟩
      by_cases c : m = 1
      · exact .inl (beq_iff_eq.mpr c)
      · have := yes c
        exact .inr ⟨beq_eq_false_iff_ne.mpr c, decide_eq_true (by omega)⟩
  · rw [make_bad f, Option.bind_some]
    dsimp only
    rw [if_neg (by decide), awake_f]

end Go.Proofs.Ytnfoknnbolgfjaa.Pure
