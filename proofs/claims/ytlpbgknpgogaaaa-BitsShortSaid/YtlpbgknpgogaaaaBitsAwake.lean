/- What the document fixes of bits, by running the printed function. -/
import Derived.Test.YtlpbgknpgogaaaaPBsx2
import Derived.KernelRfl
namespace Go.Proofs.Ytlpbgknpgogaaaa.Bp
open Go Go.RowKit Go.Proofs.Ytlpbgknpgogaaaa.PBs Go.Proofs.YtlpbgknpgogaaaaW.PrintWords Go.Proofs.YtlpbgknpgogaaaaW.PrintLast Go.Proofs.YtlpbgknpgogaaaaW.PrintMore

theorem awake_f (k : Nat) (hk : 60 ≤ k) : bollardlaw1_awake.f k = some true :=
  at_rounds bollardlaw1_awake.mono hk (by kernel_rfl : bollardlaw1_awake.f 60 = some true)

end Go.Proofs.Ytlpbgknpgogaaaa.Bp
