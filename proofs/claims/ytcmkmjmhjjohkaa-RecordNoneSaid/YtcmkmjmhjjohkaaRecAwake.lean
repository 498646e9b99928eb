/- What the document fixes of records, by running the printed function. -/
import Derived.Test.YtcmkmjmhjjohkaaPDecx4
import Derived.KernelRfl
namespace Go.Proofs.Ytcmkmjmhjjohkaa.Bp
open Go Go.RowKit Go.Proofs.Ytcmkmjmhjjohkaa.PDec Go.Proofs.YtcmkmjmhjjohkaaW.PrintWords Go.Proofs.YtcmkmjmhjjohkaaW.PrintLast Go.Proofs.YtcmkmjmhjjohkaaW.PrintMore

theorem awake_f (k : Nat) (hk : 60 ≤ k) : bollardlaw12_awake.f k = some true :=
  at_rounds bollardlaw12_awake.mono hk (by kernel_rfl : bollardlaw12_awake.f 60 = some true)

end Go.Proofs.Ytcmkmjmhjjohkaa.Bp
