/- A key, or a value, that is not there is another thing than one that is empty: of any two texts and any time. No condition. -/
import Derived.Test.YtcmkmjmhjjohkaaPDecx7
import Derived.Test.YtcmkmjmhjjohkaaRecBack
import Derived.Test.YtcmkmjmhjjohkaaRecAwake
import Derived.Test.YtcmkmjmhjjohkaaEqF
namespace Go.Proofs.Ytcmkmjmhjjohkaa.Pure
open Go Go.RowKit Go.Proofs.Ytcmkmjmhjjohkaa.PDec Go.Proofs.YtcmkmjmhjjohkaaW.PrintWords Go.Proofs.YtcmkmjmhjjohkaaW.PrintLast Go.Proofs.YtcmkmjmhjjohkaaW.PrintMore Go.Proofs.Ytcmkmjmhjjohkaa.Bp
set_option linter.unusedVariables false
set_option linter.unusedSimpArgs false

theorem none_one (hk : Bool) (key : ByteArray) (hv : Bool) (val : ByteArray) (t : Int) (h1 : hk = false → key.toList = []) (h2 : hv = false → val.toList = []) (h3 : 0 ≤ t) (h4 : t ≤ 1125899906842624) (h5 : key.size ≤ 2000) (h6 : val.size ≤ 2000) :
    record_Encode.f 40000 hk key hv val t 0 t = some (enc hk key hv val t 0 t, 0) ∧ (enc hk key hv val t 0 t).length ≤ 5000 ∧ ∃ n, record_Decode.f 40000 (enc hk key hv val t 0 t) t = some (hk, key, hv, val, t, 0, n, 0) := by
  have h0 : chk hk key hv val t 0 = 0 := by
    rw [chk_sizes h1 h2 h3 h4 (by omega) (by omega), if_neg (by omega)]
  have hlen := enc_len hk key hv val t 0 t (by omega) (by omega) (by omega) (by omega)
  refine ⟨?_, by omega, ((enc hk key hv val t 0 t).length : Int), ?_⟩
  · rw [encode_R _ _ _ _ _ _ _ _ (by omega)]
    unfold encR
    rw [if_pos h0, if_pos ⟨h3, h4⟩]
  · have hd := dec_enc h0 ⟨h3, h4⟩ t ⟨h3, h4⟩ []
    rw [List.append_nil, if_neg (by omega)] at hd
    rw [decode_f (enc_bytes _ _ _ _ _ _ _) (by omega) t 40000 (by omega), hd]
    have et : t - t + t = t := by omega
    simp [outR, et]

theorem enc_ne {hk hv hk2 hv2 : Bool} (h : flags hk hv ≠ flags hk2 hv2) (key val key2 val2 : ByteArray) (t : Int) (hl : (enc hk key hv val t 0 t).length ≤ 5000) : bollardalike_Bytes.f 40000 (enc hk key hv val t 0 t) (enc hk2 key2 hv2 val2 t 0 t) = some false := by
  rw [bytes_f _ _ (by omega) 40000 (by omega)]
  congr 1
  refine decide_eq_false fun e => ?_
  unfold enc at e
  injection e with e1 _
  exact h e1

theorem RecordNone : bollardlaw12_RecordNone.Pure := by
  intro key val t hK hV ht
  refine ⟨40000, ?_⟩
  unfold bollardlaw12_RecordNone.f
  rw [awake_f 40000 (by omega)]
  by_cases c0 : 2000 < key.size
  · rw [if_pos c0]
  rw [if_neg c0]
  by_cases c1 : 2000 < val.size
  · rw [if_pos c1]
  rw [if_neg c1]
  by_cases c2 : t < 0
  · rw [if_pos c2]
  rw [if_neg c2]
  by_cases c3 : 1125899906842624 < t
  · rw [if_pos c3]
  rw [if_neg c3]
  have em : (⟨#[]⟩ : ByteArray).toList = [] := by decide +kernel
  have es : (⟨#[]⟩ : ByteArray).size = 0 := rfl
  obtain ⟨e0, l0, n0, d0⟩ := none_one true key true val t (by simp) (by simp) (by omega) (by omega) (by omega) (by omega)
  obtain ⟨e1, l1, n1, d1⟩ := none_one false ⟨#[]⟩ true val t (fun _ => em) (by simp) (by omega) (by omega) (by omega) (by omega)
  obtain ⟨e2, l2, n2, d2⟩ := none_one true key false ⟨#[]⟩ t (by simp) (fun _ => em) (by omega) (by omega) (by omega) (by omega)
  obtain ⟨e3, l3, n3, d3⟩ := none_one false ⟨#[]⟩ false ⟨#[]⟩ t (fun _ => em) (fun _ => em) (by omega) (by omega) (by omega) (by omega)
  rw [e0, Option.bind_some, e1, Option.bind_some, e2, Option.bind_some, e3, Option.bind_some]
  simp only
  rw [d0, Option.bind_some, d1, Option.bind_some, d2, Option.bind_some, d3, Option.bind_some]
  rw [enc_ne (by decide) _ _ _ _ t l1, Option.bind_some, enc_ne (by decide) _ _ _ _ t l2, Option.bind_some, enc_ne (by decide) _ _ _ _ t l2, Option.bind_some, enc_ne (by decide) _ _ _ _ t l3, Option.bind_some, enc_ne (by decide) _ _ _ _ t l3, Option.bind_some, enc_ne (by decide) _ _ _ _ t l3, Option.bind_some]
  simp

end Go.Proofs.Ytcmkmjmhjjohkaa.Pure
