/- What the program's Encode of a record comes to, whatever the record. -/
import Derived.Test.YtgmeellapjimgaaQRecEnc
namespace Go.Proofs.Ytgmeellapjimgaa.Bp
open Go Go.RowKit Go.Proofs.Ytgmeellapjimgaa.PBa Go.Proofs.YtgmeellapjimgaaW.PrintWords Go.Proofs.YtgmeellapjimgaaW.PrintLast Go.Proofs.YtgmeellapjimgaaW.PrintMore
set_option linter.unusedVariables false
set_option linter.unusedSimpArgs false

/-- What a record comes to, as bytes and an error. -/
def encR (hk : Bool) (key : ByteArray) (hv : Bool) (val : ByteArray) (t o first : Int) : List Int × Int :=
  if chk hk key hv val t o = 0 then (if 0 ≤ first ∧ first ≤ 1125899906842624 then (enc hk key hv val t o first, 0) else ([], 1)) else ([], chk hk key hv val t o)

theorem chk_ok {hk : Bool} {key : ByteArray} {hv : Bool} {val : ByteArray} {t o : Int} (h0 : chk hk key hv val t o = 0) :
    (hk = false → key.toList = []) ∧ (hv = false → val.toList = []) ∧ 0 ≤ t ∧ t ≤ 1125899906842624 ∧ 0 ≤ o ∧ o < 100 ∧ key.size ≤ 2000 ∧ val.size ≤ 2000 := by
  unfold chk at h0
  by_cases q : odd hk key hv val t o
  · rw [if_pos q] at h0; omega
  · rw [if_neg q] at h0
    have hs : ¬ (key.size > 2000 ∨ val.size > 2000) := fun r => by rw [if_pos r] at h0; omega
    unfold odd at q
    refine ⟨fun a => ?_, fun a => ?_, by omega, by omega, by omega, by omega, by omega, by omega⟩
    · exact Classical.byContradiction fun b => q (Or.inl ⟨a, b⟩)
    · exact Classical.byContradiction fun b => q (Or.inr (Or.inl ⟨a, b⟩))

theorem encode_R (hk : Bool) (key : ByteArray) (hv : Bool) (val : ByteArray) (t o first : Int) (k : Nat) (h : 40 ≤ k) : record_Encode.f k hk key hv val t o first = some (encR hk key hv val t o first) := by
  unfold encR
  by_cases c : chk hk key hv val t o = 0
  · rw [if_pos c]
    by_cases d : 0 ≤ first ∧ first ≤ 1125899906842624
    · rw [if_pos d, encode_f hk key hv val t o first k h c d]
    · rw [if_neg d, encode_first hk key hv val t o first k h c d]
  · rw [if_neg c, encode_odd hk key hv val t o first k h c]

end Go.Proofs.Ytgmeellapjimgaa.Bp
