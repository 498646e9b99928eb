/- Two that are fed at the same time tell each its own frames. -/
import Derived.Test.YtgicdiblfcnelaaPFrx5
import Derived.Test.YtgicdiblfcnelaaBitsPlain
namespace Go.Proofs.Ytgicdiblfcnelaa.Pure
open Go Go.RowKit Go.Proofs.Ytgicdiblfcnelaa.PFr Go.Proofs.YtgicdiblfcnelaaW.PrintWords Go.Proofs.YtgicdiblfcnelaaW.PrintLast Go.Proofs.YtgicdiblfcnelaaW.PrintMore
set_option linter.unusedVariables false
set_option linter.unusedSimpArgs false

theorem FrameApart : bollardlaw19_FrameApart.Pure := by
  intro la lb size ha hb hs
  exact if_pos (Bp.wfi hs).2

end Go.Proofs.Ytgicdiblfcnelaa.Pure
