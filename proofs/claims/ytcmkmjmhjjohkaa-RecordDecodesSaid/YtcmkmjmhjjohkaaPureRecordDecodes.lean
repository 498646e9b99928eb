/- Any bytes are read as the record that they begin with, as the document says, or refused; what was handed in is as it was: of any bytes and any first time. No condition. -/
import Derived.Test.YtcmkmjmhjjohkaaPRecx12
import Derived.Test.YtcmkmjmhjjohkaaRecRDec
import Derived.Test.YtcmkmjmhjjohkaaRecAwake
import Derived.Test.YtcmkmjmhjjohkaaEqF
namespace Go.Proofs.Ytcmkmjmhjjohkaa.Pure
open Go Go.RowKit Go.Proofs.Ytcmkmjmhjjohkaa.PRec Go.Proofs.YtcmkmjmhjjohkaaW.PrintWords Go.Proofs.YtcmkmjmhjjohkaaW.PrintLast Go.Proofs.YtcmkmjmhjjohkaaW.PrintMore Go.Proofs.Ytcmkmjmhjjohkaa.Bp
set_option linter.unusedVariables false
set_option linter.unusedSimpArgs false

theorem RecordDecodes : bollardlaw12_RecordDecodes.Pure := by
  intro l first _ hl hb hf
  have b := bytes_of hb
  have hf := wfi hf
  refine ⟨30000, ?_⟩
  unfold bollardlaw12_RecordDecodes.f
  rw [awake_f 30000 (by omega)]
  by_cases c : (l.length : Int) > 6000
  · rw [if_pos c]; rfl
  · rw [if_neg c, if_pos (by simp; omega), Option.bind_some, List.nil_append, decode_f b (by omega) first 30000 (by omega), rdecode_f b (by omega) first hf 30000 (by omega), bytes_f _ _ (by omega) 30000 (by omega)]
    simp

end Go.Proofs.Ytcmkmjmhjjohkaa.Pure
