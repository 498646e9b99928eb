/- A record that is cut off is none: of any record, any first time and any place of the cut. No condition. -/
import Derived.Test.YtcmkmjmhjjohkaaPDecx7
import Derived.Test.YtcmkmjmhjjohkaaRecBack
import Derived.Test.YtcmkmjmhjjohkaaRecAwake
namespace Go.Proofs.Ytcmkmjmhjjohkaa.Pure
open Go Go.RowKit Go.Proofs.Ytcmkmjmhjjohkaa.PDec Go.Proofs.YtcmkmjmhjjohkaaW.PrintWords Go.Proofs.YtcmkmjmhjjohkaaW.PrintLast Go.Proofs.YtcmkmjmhjjohkaaW.PrintMore Go.Proofs.Ytcmkmjmhjjohkaa.Bp
set_option linter.unusedVariables false
set_option linter.unusedSimpArgs false

theorem round_f (x n : Int) (h : 0 < n) (hn : n ≤ 1000000000000) (hx : -9223372036854775808 ≤ x ∧ x ≤ 9223372036854775807) : ∃ j, bollardalike_Round.f x n = some j ∧ 0 ≤ j ∧ j < n := by
  unfold bollardalike_Round.f
  have h1 : Int.tmod x n < n := Int.tmod_lt_of_pos x h
  have h2 : -n < Int.tmod x n := by
    have h3 := Int.tmod_lt_of_pos (-x) h
    rw [Int.neg_tmod] at h3
    omega
  rw [if_neg (by omega)]
  by_cases c : Int.tmod x n < 0
  · rw [if_pos c]
    exact ⟨_, rfl, by rw [w64 (by omega) (by omega)]; omega, by rw [w64 (by omega) (by omega)]; omega⟩
  · rw [if_neg c]
    exact ⟨_, rfl, by omega, h1⟩

theorem RecordCuts : bollardlaw12_RecordCuts.Pure := by
  intro hk key hv val t o first kk hK hV ht ho hf hg
  have hg := wfi hg
  refine ⟨40000, ?_⟩
  unfold bollardlaw12_RecordCuts.f
  rw [if_neg (not_not_intro ⟨hK, hV⟩), awake_f 40000 (by omega)]
  by_cases c : 6000 < (key.size : Int) + (val.size : Int)
  · rw [if_pos c]
  rw [if_neg c, encode_R _ _ _ _ _ _ _ _ (by omega), Option.bind_some]
  unfold encR
  by_cases h0 : chk hk key hv val t o = 0
  · rw [if_pos h0]
    have hc := chk_ok h0
    by_cases h1 : 0 ≤ first ∧ first ≤ 1125899906842624
    · have hlen := enc_len hk key hv val t o first (by omega) (by omega) (by omega) (by omega)
      have hb := enc_bytes hk key hv val t o first
      have hne : (enc hk key hv val t o first).length ≠ 0 := by unfold enc; simp
      obtain ⟨j, e, j0, j1⟩ := round_f kk ((enc hk key hv val t o first).length : Int) (by omega) (by omega) hg
      rw [if_pos h1]
      simp only
      rw [if_neg (by simp), if_neg hne, e, Option.bind_some, if_pos (by omega), decode_f (hb.take _) (by rw [List.length_take]; omega) first 40000 (by rw [List.length_take]; omega), Option.bind_some]
      rw [dec_cut h0 h1 j.toNat (by omega) hb]
      simp [outR]
    · rw [if_neg h1]
      simp
  · rw [if_neg h0, if_pos (by simpa using h0)]

end Go.Proofs.Ytcmkmjmhjjohkaa.Pure
