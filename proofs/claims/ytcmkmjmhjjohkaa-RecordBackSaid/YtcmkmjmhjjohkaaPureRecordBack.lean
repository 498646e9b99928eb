/- What is written is read, whatever stands behind: of any record, any first time and any bytes behind. No condition. -/
import Derived.Test.YtcmkmjmhjjohkaaPDecx6
import Derived.Test.YtcmkmjmhjjohkaaRecBack
import Derived.Test.YtcmkmjmhjjohkaaRecAwake
namespace Go.Proofs.Ytcmkmjmhjjohkaa.Pure
open Go Go.RowKit Go.Proofs.Ytcmkmjmhjjohkaa.PDec Go.Proofs.YtcmkmjmhjjohkaaW.PrintWords Go.Proofs.YtcmkmjmhjjohkaaW.PrintLast Go.Proofs.YtcmkmjmhjjohkaaW.PrintMore Go.Proofs.Ytcmkmjmhjjohkaa.Bp
set_option linter.unusedVariables false
set_option linter.unusedSimpArgs false

theorem RecordBack : bollardlaw12_RecordBack.Pure := by
  intro hk key hv val t o first l hK hV ht ho hf hl
  have hb := bytes_of hl.2
  have hl := hl.1
  refine ⟨40000, ?_⟩
  unfold bollardlaw12_RecordBack.f
  rw [awake_f 40000 (by omega), w64 (x := (key.size : Int) + (val.size : Int)) (by omega) (by omega), w64 (by omega) (by omega)]
  by_cases c : (key.size : Int) + (val.size : Int) + (l.length : Int) > 6000
  · rw [if_pos c]; rfl
  · rw [if_neg c, encode_R _ _ _ _ _ _ _ _ (by omega), Option.bind_some]
    unfold encR
    by_cases h0 : chk hk key hv val t o = 0
    · rw [if_pos h0]
      have hc := chk_ok h0
      by_cases h1 : 0 ≤ first ∧ first ≤ 1125899906842624
      · have hlen := enc_len hk key hv val t o first (by omega) (by omega) (by omega) (by omega)
        rw [if_pos h1]
        simp only
        rw [if_pos trivial, if_pos (by omega), decode_f ((enc_bytes _ _ _ _ _ _ _).append hb) (by rw [List.length_append]; omega) first 40000 (by rw [List.length_append]; omega), Option.bind_some, dec_enc h0 h1 first h1 l, if_neg (show ¬ (t - first + first < 0 ∨ 1125899906842624 < t - first + first) by omega)]
        simp only [outR]
        have et : t - first + first = t := by omega
        simp [et]
      · rw [if_neg h1]
        simp
    · rw [if_neg h0]
      simp only
      rw [if_neg h0]
      simp

end Go.Proofs.Ytcmkmjmhjjohkaa.Pure
