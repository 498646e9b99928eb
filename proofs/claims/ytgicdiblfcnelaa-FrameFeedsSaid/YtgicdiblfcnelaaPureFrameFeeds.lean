/- Any bytes, in any pieces, are told as the frames that they write, or refused. -/
import Derived.Test.YtgicdiblfcnelaaPFrx4
import Derived.Test.YtgicdiblfcnelaaBitsPlain
namespace Go.Proofs.Ytgicdiblfcnelaa.Pure
open Go Go.RowKit Go.Proofs.Ytgicdiblfcnelaa.PFr Go.Proofs.YtgicdiblfcnelaaW.PrintWords Go.Proofs.YtgicdiblfcnelaaW.PrintLast Go.Proofs.YtgicdiblfcnelaaW.PrintMore
set_option linter.unusedVariables false
set_option linter.unusedSimpArgs false

theorem FrameFeeds : bollardlaw19_FrameFeeds.Pure := by
  intro l hl
  exact if_pos (fun x hx => ⟨by have := (hl.2 x hx).1; omega, fun y hy => Bp.wf8 ((hl.2 x hx).2 y hy)⟩)

end Go.Proofs.Ytgicdiblfcnelaa.Pure
