/- A length that may not be ends it for good, behind the frames ahead. -/
import Derived.Test.YtgicdiblfcnelaaPFrx5
import Derived.Test.YtgicdiblfcnelaaBitsPlain
namespace Go.Proofs.Ytgicdiblfcnelaa.Pure
open Go Go.RowKit Go.Proofs.Ytgicdiblfcnelaa.PFr Go.Proofs.YtgicdiblfcnelaaW.PrintWords Go.Proofs.YtgicdiblfcnelaaW.PrintLast Go.Proofs.YtgicdiblfcnelaaW.PrintMore
set_option linter.unusedVariables false
set_option linter.unusedSimpArgs false

theorem FrameOver : bollardlaw19_FrameOver.Pure := by
  intro l n m hl hn hm
  exact if_pos ⟨fun x hx => by have := (hl.2 x hx).1; omega, by simp [Lit.wf, IntKind.min, IntKind.max, IntKind.signed, IntKind.bits] at hn; omega⟩

end Go.Proofs.Ytgicdiblfcnelaa.Pure
