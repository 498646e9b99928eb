/- A frame may be empty, and as many as there are of these are told; no bytes tell nothing. -/
import Derived.Test.YtgicdiblfcnelaaPFrx4
import Derived.Test.YtgicdiblfcnelaaBitsPlain
namespace Go.Proofs.Ytgicdiblfcnelaa.Pure
open Go Go.RowKit Go.Proofs.Ytgicdiblfcnelaa.PFr Go.Proofs.YtgicdiblfcnelaaW.PrintWords Go.Proofs.YtgicdiblfcnelaaW.PrintLast Go.Proofs.YtgicdiblfcnelaaW.PrintMore
set_option linter.unusedVariables false
set_option linter.unusedSimpArgs false

theorem FrameEmpty : bollardlaw19_FrameEmpty.Pure := by
  intro n e hn he
  exact rfl

end Go.Proofs.Ytgicdiblfcnelaa.Pure
