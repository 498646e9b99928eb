/- Any device is planned as the document says, or refused: of any two numbers. No condition. -/
import Derived.Test.YtnfoknnbolgfjaaPLayx2
import Derived.Test.YtnfoknnbolgfjaaLayMake
import Derived.Test.YtnfoknnbolgfjaaLayRef
namespace Go.Proofs.Ytnfoknnbolgfjaa.Pure
open Go Go.RowKit Go.Proofs.Ytnfoknnbolgfjaa.PLay Go.Proofs.YtnfoknnbolgfjaaW.PrintWords Go.Proofs.YtnfoknnbolgfjaaW.PrintLast Go.Proofs.YtnfoknnbolgfjaaW.PrintMore Go.Proofs.Ytnfoknnbolgfjaa.Lay
set_option linter.unusedVariables false
set_option linter.unusedSimpArgs false

theorem LayoutPlans : bollardlaw6_LayoutPlans.Pure := by
  intro n i _ _
  refine ⟨100, ?_⟩
  unfold bollardlaw6_LayoutPlans.f
  rw [rmake_f n i 100 (by omega), awake_f]
  have ok : ∃ r, layout_Make.f n i = some r := by
    rcases Classical.em (Fits n i) with h | h
    · rcases Int.lt_or_le (room n i) 1 with g | g
      · exact ⟨_, make_full h g⟩
      · exact ⟨_, make_good h g⟩
    · exact ⟨_, make_bad h⟩
  obtain ⟨r, hr⟩ := ok
  rw [hr]
  simp

end Go.Proofs.Ytnfoknnbolgfjaa.Pure
