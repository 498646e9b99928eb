/- Small numbers of either sign have small numbers without one, one each: of any number of 64 digits. No condition. -/
import Derived.Test.YtlpbgknpgogaaaaPBitsx2
import Derived.Test.YtlpbgknpgogaaaaBitsZig
import Derived.Test.YtlpbgknpgogaaaaBitsAwake
namespace Go.Proofs.Ytlpbgknpgogaaaa.Pure
open Go Go.RowKit Go.Proofs.Ytlpbgknpgogaaaa.PBits Go.Proofs.YtlpbgknpgogaaaaW.PrintWords Go.Proofs.YtlpbgknpgogaaaaW.PrintLast Go.Proofs.YtlpbgknpgogaaaaW.PrintMore Go.Proofs.Ytlpbgknpgogaaaa.Bp

theorem BitsSigns : bollardlaw1_BitsSigns.Pure := by
  intro a h
  have ha := wfi h
  refine ⟨60, ?_⟩
  unfold bollardlaw1_BitsSigns.f
  rw [zig_f ha]
  simp only [Option.bind_some, awake_f 60 (Nat.le_refl _), IntKind.wrap_u64]
  unfold zig
  by_cases c : a ≥ 0
  · rw [if_pos c, if_pos c, if_pos (by omega)]
  · rw [if_neg c, if_neg c, if_pos (by unfold wrap64; omega)]

end Go.Proofs.Ytlpbgknpgogaaaa.Pure
