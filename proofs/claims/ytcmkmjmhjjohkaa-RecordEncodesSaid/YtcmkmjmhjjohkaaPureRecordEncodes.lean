/- Any record is written as the document says, or refused: of any record and any first time. No condition. -/
import Derived.Test.YtcmkmjmhjjohkaaPRecx6
import Derived.Test.YtcmkmjmhjjohkaaRecRef
import Derived.Test.YtcmkmjmhjjohkaaRecAwake
import Derived.Test.YtcmkmjmhjjohkaaEqF
namespace Go.Proofs.Ytcmkmjmhjjohkaa.Pure
open Go Go.RowKit Go.Proofs.Ytcmkmjmhjjohkaa.PRec Go.Proofs.YtcmkmjmhjjohkaaW.PrintWords Go.Proofs.YtcmkmjmhjjohkaaW.PrintLast Go.Proofs.YtcmkmjmhjjohkaaW.PrintMore Go.Proofs.Ytcmkmjmhjjohkaa.Bp
set_option linter.unusedVariables false
set_option linter.unusedSimpArgs false

theorem RecordEncodes : bollardlaw12_RecordEncodes.Pure := by
  intro hk key hv val t o first h1 h3 ht ho hf
  refine ⟨20000, ?_⟩
  unfold bollardlaw12_RecordEncodes.f
  rw [w64 (by omega) (by omega), awake_f 20000 (by omega)]
  by_cases c : (key.size : Int) + (val.size : Int) > 6000
  · rw [if_pos c]; rfl
  · rw [if_neg c, encode_R _ _ _ _ _ _ _ _ (by omega), rencode_R _ _ _ _ _ _ _ _ (by omega), rcheck_f, check_f _ _ _ _ _ _ _ (by omega)]
    have hl : (encR hk key hv val t o first).1.length ≤ 10000 := by
      unfold encR
      split
      · rename_i q
        have hc := chk_ok q
        split
        · have := enc_len hk key hv val t o first (by omega) (by omega) (by omega) (by omega)
          simp only
          omega
        · simp
      · simp
    simp only [Option.bind_some]
    rw [bytes_f _ _ (by omega) 20000 (by omega)]
    simp

end Go.Proofs.Ytcmkmjmhjjohkaa.Pure
