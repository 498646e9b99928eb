/- CheckFinds: what its law's f says; the walk stands in ChFW. -/
import Derived.Test.YtdlkofmcioalfaaPCkx7
import Derived.Test.YtdlkofmcioalfaaChFW
namespace Go.Proofs.Ytdlkofmcioalfaa.Pure
open Go Go.RowKit Go.Proofs.Ytdlkofmcioalfaa.PCk
theorem CheckFinds : bollardlaw24_CheckFinds.Pure := by
  intro a0 a1 h0 h1
  exact ⟨0, if_pos ⟨h0, h1⟩⟩
end Go.Proofs.Ytdlkofmcioalfaa.Pure
