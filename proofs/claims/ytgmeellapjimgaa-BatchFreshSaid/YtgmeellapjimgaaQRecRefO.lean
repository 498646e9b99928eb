/- The document's Check and Encode of a record, as printed, come to the same. -/
import Derived.Test.YtgmeellapjimgaaQPBax6
import Derived.Test.YtgmeellapjimgaaQPBax7
import Derived.Test.YtgmeellapjimgaaQRecEncR
import Derived.Test.YtgmeellapjimgaaQRvrO
namespace Go.Proofs.Ytgmeellapjimgaa.Bp
open Go Go.RowKit Go.Proofs.Ytgmeellapjimgaa.PBa Go.Proofs.YtgmeellapjimgaaW.PrintWords Go.Proofs.YtgmeellapjimgaaW.PrintLast Go.Proofs.YtgmeellapjimgaaW.PrintMore
set_option linter.unusedVariables false
set_option linter.unusedSimpArgs false

theorem rodd_f (hk : Bool) (key : ByteArray) (hv : Bool) (val : ByteArray) (t o : Int) : bollardref12_odd.f hk key hv val t o = some (decide (odd hk key hv val t o)) := by
  unfold bollardref12_odd.f
  by_cases h1 : hk = true <;> by_cases h2 : key.toList = [] <;> by_cases h3 : hv = true <;> by_cases h4 : val.toList = [] <;> by_cases h5 : t < 0 <;> by_cases h6 : t > 1125899906842624 <;> by_cases h7 : o < 0 <;> simp [h1, h2, h3, h4, h5, h6, h7, odd] <;> omega

theorem rcheck_f (hk : Bool) (key : ByteArray) (hv : Bool) (val : ByteArray) (t o : Int) : bollardref12_Check.f hk key hv val t o = some (chk hk key hv val t o) := by
  unfold bollardref12_Check.f chk
  rw [rodd_f, Option.bind_some]
  by_cases c : odd hk key hv val t o
  · rw [if_pos c, decide_eq_true c, if_pos rfl]
  · rw [if_neg c, decide_eq_false c, if_neg (by simp)]
    by_cases d : (key.size : Int) > 2000
    · rw [if_pos d, if_pos (Or.inl (by omega))]
    · rw [if_neg d]
      by_cases e : (val.size : Int) > 2000
      · rw [if_pos e, if_pos (Or.inr (by omega))]
      · rw [if_neg e, if_neg (by omega)]

theorem rencode_j2 (x first : Int) (hk : Bool) (key : ByteArray) (hv : Bool) (val : ByteArray) (t o : Int) (k : Nat) (h : 30 ≤ k) (ho : 0 ≤ o ∧ o < 1000) (ht : -9223372036854775808 ≤ t - first ∧ t - first ≤ 9223372036854775807) (h1 : key.size ≤ 100000) (h2 : val.size ≤ 100000) :
    bollardref12_Encode.j2 k first x hk key hv val t o = some (x :: (vr o.toNat ++ (vr (zig (t - first)).toNat ++ ((if hk = true then txt key else []) ++ (if hv = true then txt val else [])))), 0) := by
  obtain ⟨K, rfl⟩ : ∃ K, k = K + 1 := ⟨k - 1, by omega⟩
  simp only [bollardref12_Encode.j2]
  have hz := zig_range ht
  have v1 := vr_len 9 o.toNat (by omega)
  have v2 := vr_len 9 (zig (t - first)).toNat (by omega)
  have v3 := vr_len 9 key.size (by omega)
  have v4 := vr_len 9 val.size (by omega)
  have bk := bytesOf_len key
  have bv := bytesOf_len val
  have e1 : bollardref1_Varint.f K (IntKind.u64.wrap o) = some (vr o.toNat) := by
    rw [u64_id (by omega) (by omega)]
    have := rvarint_f o.toNat (by omega) K (by omega)
    rw [Int.toNat_of_nonneg ho.1] at this
    exact this
  have e2 : bollardref1_Varint.f K (zig (t - first)) = some (vr (zig (t - first)).toNat) := by
    have := rvarint_f (zig (t - first)).toNat (by omega) K (by omega)
    rw [Int.toNat_of_nonneg hz.1] at this
    exact this
  have e3 : bollardref1_Varint.f K (IntKind.u64.wrap (key.size : Int)) = some (vr key.size) := by
    rw [u64_id (by omega) (by omega)]
    exact rvarint_f key.size (by omega) K (by omega)
  have e4 : bollardref1_Varint.f K (IntKind.u64.wrap (val.size : Int)) = some (vr val.size) := by
    rw [u64_id (by omega) (by omega)]
    exact rvarint_f val.size (by omega) K (by omega)
  have ez : bollardref1_Zig.f (t - first) = some (zig (t - first)) := zig_f ht
  rw [Option.bind_some, e1, Option.bind_some, if_pos (by simp; omega), Option.bind_some, w64 (x := t - first) ht.1 ht.2, ez, Option.bind_some, e2, Option.bind_some, if_pos (by simp only [List.length_append, List.length_cons, List.length_nil]; omega), Option.bind_some]
  by_cases c : hk = true
  · rw [if_pos c, if_pos c, e3, Option.bind_some, if_pos (by simp only [List.length_append, List.length_cons, List.length_nil]; omega), Option.bind_some, if_pos (by simp only [List.length_append, List.length_cons, List.length_nil]; omega), Option.bind_some]
    by_cases d : hv = true
    · rw [if_pos d, if_pos d, e4, Option.bind_some, if_pos (by simp only [List.length_append, List.length_cons, List.length_nil]; omega), Option.bind_some, if_pos (by simp only [List.length_append, List.length_cons, List.length_nil]; omega)]
      simp [txt]
    · rw [if_neg d, if_neg d]
      simp [txt]
  · rw [if_neg c, if_neg c]
    by_cases d : hv = true
    · rw [if_pos d, if_pos d, e4, Option.bind_some, if_pos (by simp only [List.length_append, List.length_cons, List.length_nil]; omega), Option.bind_some, if_pos (by simp only [List.length_append, List.length_cons, List.length_nil]; omega)]
      simp [txt]
    · rw [if_neg d, if_neg d]
      simp

theorem rencode_R (hk : Bool) (key : ByteArray) (hv : Bool) (val : ByteArray) (t o first : Int) (k : Nat) (h : 40 ≤ k) : bollardref12_Encode.f k hk key hv val t o first = some (encR hk key hv val t o first) := by
  obtain ⟨K, rfl⟩ : ∃ K, k = K + 1 + 1 := ⟨k - 2, by omega⟩
  unfold encR bollardref12_Encode.f
  rw [rcheck_f, Option.bind_some]
  by_cases c : chk hk key hv val t o = 0
  · rw [if_pos c, if_pos c]
    have hc := chk_ok c
    by_cases d : 0 ≤ first ∧ first ≤ 1125899906842624
    · rw [if_pos d, if_neg (by omega), decide_eq_false (by omega)]
      simp only [bollardref12_Encode.j0]
      rw [if_neg (by simp)]
      have j := fun x => rencode_j2 x first hk key hv val t o K (by omega) (by omega) (by omega) (by omega) (by omega)
      have g : ∀ x, bollardref12_Encode.j1 (K + 1) first x hk key hv val t o = some ((if hv = true then Go.bits .or .u8 x 2 else x) :: (vr o.toNat ++ (vr (zig (t - first)).toNat ++ ((if hk = true then txt key else []) ++ (if hv = true then txt val else [])))), 0) := by
        intro x
        simp only [bollardref12_Encode.j1]
        by_cases c : hv = true
        · rw [if_pos c, j]
          simp only [c, if_true]
        · rw [if_neg c, j]
          simp [c]
      rw [g, g]
      unfold enc flags
      cases hk <;> cases hv <;> simp [or02, or12]
    · rw [if_neg d]
      have e : bollardref12_Encode.j0 (K + 1 + 1) first true hk key hv val t o = some ([], 1) := by
        simp only [bollardref12_Encode.j0]
        rw [if_pos (by trivial)]
      by_cases q : first < 0
      · rw [if_pos q]; exact e
      · rw [if_neg q, decide_eq_true (by omega)]; exact e
  · rw [if_neg c, if_neg c]

end Go.Proofs.Ytgmeellapjimgaa.Bp
