/- Frames of up to the limit are wrapped and told, one byte more is not. -/
import Derived.Test.YtgicdiblfcnelaaPFrx7
import Derived.Test.YtgicdiblfcnelaaBitsPlain
namespace Go.Proofs.Ytgicdiblfcnelaa.Pure
open Go Go.RowKit Go.Proofs.Ytgicdiblfcnelaa.PFr Go.Proofs.YtgicdiblfcnelaaW.PrintWords Go.Proofs.YtgicdiblfcnelaaW.PrintLast Go.Proofs.YtgicdiblfcnelaaW.PrintMore
set_option linter.unusedVariables false
set_option linter.unusedSimpArgs false

theorem FrameSizes : bollardlaw19_FrameSizes.Pure := by
  intro n size hn hs
  exact if_pos (Bp.wfi hs).2

end Go.Proofs.Ytgicdiblfcnelaa.Pure
