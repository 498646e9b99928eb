/- What was made frames comes back, in order, whatever stands behind. -/
import Derived.Test.YtgicdiblfcnelaaPFrx5
import Derived.Test.YtgicdiblfcnelaaBitsPlain
namespace Go.Proofs.Ytgicdiblfcnelaa.Pure
open Go Go.RowKit Go.Proofs.Ytgicdiblfcnelaa.PFr Go.Proofs.YtgicdiblfcnelaaW.PrintWords Go.Proofs.YtgicdiblfcnelaaW.PrintLast Go.Proofs.YtgicdiblfcnelaaW.PrintMore
set_option linter.unusedVariables false
set_option linter.unusedSimpArgs false

theorem FrameBack : bollardlaw19_FrameBack.Pure := by
  intro l behind hl hb
  exact if_pos (fun x hx => by have := (hl.2 x hx).1; omega)

end Go.Proofs.Ytgicdiblfcnelaa.Pure
