/- A record is read as it was by the first time that it was written by; by another one its time is moved by as much, or it is none: of any record and any two first times. No condition. -/
import Derived.Test.YtcmkmjmhjjohkaaPDecx6
import Derived.Test.YtcmkmjmhjjohkaaRecBack
import Derived.Test.YtcmkmjmhjjohkaaRecAwake
namespace Go.Proofs.Ytcmkmjmhjjohkaa.Pure
open Go Go.RowKit Go.Proofs.Ytcmkmjmhjjohkaa.PDec Go.Proofs.YtcmkmjmhjjohkaaW.PrintWords Go.Proofs.YtcmkmjmhjjohkaaW.PrintLast Go.Proofs.YtcmkmjmhjjohkaaW.PrintMore Go.Proofs.Ytcmkmjmhjjohkaa.Bp
set_option linter.unusedVariables false
set_option linter.unusedSimpArgs false

theorem RecordFirst : bollardlaw12_RecordFirst.Pure := by
  intro hk key hv val t o first other hK hV ht ho hf hg
  have ht := wfi ht
  have hf := wfi hf
  have hg := wfi hg
  refine ⟨40002, ?_⟩
  have out : bollardlaw12_RecordFirst.j0 40002 first other true hk key hv val t o = some true := by
    simp only [bollardlaw12_RecordFirst.j0]
    rw [if_pos (by trivial), awake_f 40001 (by omega)]
    rfl
  unfold bollardlaw12_RecordFirst.f
  rw [w64 (x := (key.size : Int) + (val.size : Int)) (by omega) (by omega)]
  by_cases c : (key.size : Int) + (val.size : Int) > 6000
  · rw [if_pos c]; exact out
  rw [if_neg c]
  by_cases c2 : other < 0
  · rw [if_pos c2]; exact out
  rw [if_neg c2]
  by_cases c3 : other > 1125899906842624
  · rw [decide_eq_true c3]; exact out
  rw [decide_eq_false c3]
  simp only [bollardlaw12_RecordFirst.j0]
  rw [if_neg (by simp), encode_R _ _ _ _ _ _ _ _ (by omega), Option.bind_some, awake_f 40001 (by omega)]
  unfold encR
  by_cases h0 : chk hk key hv val t o = 0
  · rw [if_pos h0]
    have hc := chk_ok h0
    by_cases h1 : 0 ≤ first ∧ first ≤ 1125899906842624
    · have hlen := enc_len hk key hv val t o first (by omega) (by omega) (by omega) (by omega)
      have hd := dec_enc h0 h1 other ⟨by omega, by omega⟩ []
      rw [List.append_nil] at hd
      rw [if_pos h1]
      simp only
      rw [if_pos trivial, decode_f (enc_bytes _ _ _ _ _ _ _) (by omega) other 40001 (by omega), Option.bind_some, hd, w64 (x := t - first) (by omega) (by omega), w64 (x := t - first + other) (by omega) (by omega)]
      have j : ∀ b : Bool, (b = true ↔ (t - first + other < 0 ∨ 1125899906842624 < t - first + other)) →
          bollardlaw12_RecordFirst.j1 40001 (outR (if t - first + other < 0 ∨ 1125899906842624 < t - first + other then none else some (hk, key, hv, val, t - first + other, o, ((enc hk key hv val t o first).length : Int)))).2.2.2.2.2.2.2 (t - first + other) b hk key hv val t o (outR (if t - first + other < 0 ∨ 1125899906842624 < t - first + other then none else some (hk, key, hv, val, t - first + other, o, ((enc hk key hv val t o first).length : Int)))).1 (outR (if t - first + other < 0 ∨ 1125899906842624 < t - first + other then none else some (hk, key, hv, val, t - first + other, o, ((enc hk key hv val t o first).length : Int)))).2.1 (outR (if t - first + other < 0 ∨ 1125899906842624 < t - first + other then none else some (hk, key, hv, val, t - first + other, o, ((enc hk key hv val t o first).length : Int)))).2.2.1 (outR (if t - first + other < 0 ∨ 1125899906842624 < t - first + other then none else some (hk, key, hv, val, t - first + other, o, ((enc hk key hv val t o first).length : Int)))).2.2.2.1 (outR (if t - first + other < 0 ∨ 1125899906842624 < t - first + other then none else some (hk, key, hv, val, t - first + other, o, ((enc hk key hv val t o first).length : Int)))).2.2.2.2.1 (outR (if t - first + other < 0 ∨ 1125899906842624 < t - first + other then none else some (hk, key, hv, val, t - first + other, o, ((enc hk key hv val t o first).length : Int)))).2.2.2.2.2.1 = some true := by
        intro b hb
        simp only [bollardlaw12_RecordFirst.j1]
        by_cases d : b = true
        · rw [if_pos d, if_pos (hb.1 d)]
          simp [outR, awake_f 40000 (by omega)]
        · rw [if_neg d, if_neg (fun h => d (hb.2 h))]
          simp only [outR]
          simp [awake_f 40000 (by omega)]
      by_cases q : t - first + other < 0
      · rw [if_pos q]
        exact j true ⟨fun _ => Or.inl q, fun _ => rfl⟩
      · rw [if_neg q]
        exact j _ (by simp; omega)
    · rw [if_neg h1]
      simp only
      rw [if_neg (by decide)]
      rfl
  · rw [if_neg h0]
    simp only
    rw [if_neg h0]
    rfl

end Go.Proofs.Ytcmkmjmhjjohkaa.Pure
