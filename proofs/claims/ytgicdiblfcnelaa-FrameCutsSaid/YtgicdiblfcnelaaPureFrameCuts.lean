/- However bytes are cut into pieces, the frames are the same, one behind the other. -/
import Derived.Test.YtgicdiblfcnelaaPFrx4
import Derived.Test.YtgicdiblfcnelaaBitsPlain
namespace Go.Proofs.Ytgicdiblfcnelaa.Pure
open Go Go.RowKit Go.Proofs.Ytgicdiblfcnelaa.PFr Go.Proofs.YtgicdiblfcnelaaW.PrintWords Go.Proofs.YtgicdiblfcnelaaW.PrintLast Go.Proofs.YtgicdiblfcnelaaW.PrintMore
set_option linter.unusedVariables false
set_option linter.unusedSimpArgs false

theorem FrameCuts : bollardlaw19_FrameCuts.Pure := by
  intro l size hl hs
  unfold bollardlaw19_FrameCuts.f
  rw [if_pos (Bp.wfi hs).2]

end Go.Proofs.Ytgicdiblfcnelaa.Pure
