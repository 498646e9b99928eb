/- CheckAlone: what its law's f says; the walk stands in ChLW. -/
import Derived.Test.YtdlkofmcioalfaaPCkx7
import Derived.Test.YtdlkofmcioalfaaChLW
namespace Go.Proofs.Ytdlkofmcioalfaa.Pure
open Go Go.RowKit Go.Proofs.Ytdlkofmcioalfaa.PCk
theorem CheckAlone : bollardlaw24_CheckAlone.Pure := by
  intro l h
  exact ⟨0, if_pos h⟩
end Go.Proofs.Ytdlkofmcioalfaa.Pure
