/- Keys and values are taken up to their limit, times and offsets too, and not above: of any four numbers. No condition. -/
import Derived.Test.YtcmkmjmhjjohkaaPLimx4
import Derived.Test.YtcmkmjmhjjohkaaRecEnc
import Derived.Test.YtcmkmjmhjjohkaaRecAwake
namespace Go.Proofs.Ytcmkmjmhjjohkaa.Pure
open Go Go.RowKit Go.Proofs.Ytcmkmjmhjjohkaa.PLim Go.Proofs.YtcmkmjmhjjohkaaW.PrintWords Go.Proofs.YtcmkmjmhjjohkaaW.PrintLast Go.Proofs.YtcmkmjmhjjohkaaW.PrintMore Go.Proofs.Ytcmkmjmhjjohkaa.Bp
set_option linter.unusedVariables false
set_option linter.unusedSimpArgs false

theorem zeros_size (n : Nat) : (strOfNums (List.replicate n 0)).size = n := by
  unfold strOfNums
  simp [ByteArray.size]

theorem RecordLimits : bollardlaw12_RecordLimits.Pure := by
  intro key val t o _ _ ht ho
  have ht := wfi ht
  have ho := wfi ho
  refine ⟨203, ?_⟩
  have et : bollardlaw12_RecordLimits.j0 203 key val t o true = some true := by
    simp only [bollardlaw12_RecordLimits.j0]
    rw [if_pos (by trivial), awake_f 202 (by omega), Option.bind_some]
  unfold bollardlaw12_RecordLimits.f
  by_cases c1 : key < 0
  · rw [if_pos c1]; exact et
  rw [if_neg c1]
  by_cases c2 : key > 2100
  · rw [if_pos c2]; exact et
  rw [if_neg c2]
  by_cases c3 : val < 0
  · rw [if_pos c3]; exact et
  rw [if_neg c3]
  by_cases c4 : val > 2100
  · rw [decide_eq_true c4]; exact et
  rw [decide_eq_false c4]
  obtain ⟨a, rfl⟩ := Int.eq_ofNat_of_zero_le (show 0 ≤ key from by omega)
  obtain ⟨b, rfl⟩ := Int.eq_ofNat_of_zero_le (show 0 ≤ val from by omega)
  obtain ⟨K, hK⟩ : ∃ K : ByteArray, K = strOfNums (List.replicate a 0) := ⟨_, rfl⟩
  obtain ⟨V, hV⟩ : ∃ V : ByteArray, V = strOfNums (List.replicate b 0) := ⟨_, rfl⟩
  have sK : K.size = a := by rw [hK, zeros_size]
  have sV : V.size = b := by rw [hV, zeros_size]
  simp only [bollardlaw12_RecordLimits.j0]
  rw [if_neg (by simp), if_pos (by omega), Int.toNat_natCast, if_pos (by omega), Option.bind_some, if_pos (by omega), Int.toNat_natCast, if_pos (by omega), Option.bind_some, ← hK, ← hV, check_f 202 true K true V t o (by omega), Option.bind_some]
  -- refused by its numbers
  have j1t : odd true K true V t o → bollardlaw12_RecordLimits.j1 202 (a : Int) (b : Int) (chk true K true V t o) true true K true V t o = some true := by
    intro h
    simp only [bollardlaw12_RecordLimits.j1]
    have e : chk true K true V t o = 1 := by unfold chk; rw [if_pos h]
    rw [if_pos (by trivial), if_pos e, awake_f 201 (by omega), Option.bind_some]
  have j2t : ¬ odd true K true V t o → (a > 2000 ∨ b > 2000) → bollardlaw12_RecordLimits.j2 201 (a : Int) (b : Int) (chk true K true V t o) true true K true V t o = some true := by
    intro h g
    simp only [bollardlaw12_RecordLimits.j2]
    have e : chk true K true V t o = 2 := by unfold chk; rw [if_neg h, if_pos (by omega)]
    rw [if_pos (by trivial), if_pos e, awake_f 200 (by omega), Option.bind_some]
  have j1f : ¬ odd true K true V t o → bollardlaw12_RecordLimits.j1 202 (a : Int) (b : Int) (chk true K true V t o) false true K true V t o = some true := by
    intro h
    simp only [bollardlaw12_RecordLimits.j1]
    rw [if_neg (by simp)]
    by_cases d1 : (a : Int) > 2000
    · rw [if_pos d1]; exact j2t h (by omega)
    rw [if_neg d1]
    by_cases d2 : (b : Int) > 2000
    · rw [decide_eq_true d2]; exact j2t h (by omega)
    rw [decide_eq_false d2]
    simp only [bollardlaw12_RecordLimits.j2]
    have e : chk true K true V t o = 0 := by unfold chk; rw [if_neg h, if_neg (by omega)]
    unfold odd at h
    rw [if_neg (by simp), encode_f true K true V t o 0 200 (by omega) e (by omega), Option.bind_some, if_pos e, if_pos (by trivial)]
    have hl : a + b + 5 ≤ (enc true K true V t o 0).length := by
      unfold enc txt
      simp only [List.length_cons, List.length_append, if_true, bytesOf_len]
      have q : ∀ n, 1 ≤ (vr n).length := fun n => List.length_pos_iff.2 (vr_ne n)
      have := q o.toNat
      have := q (zig (t - 0)).toNat
      have := q K.size
      have := q V.size
      omega
    dsimp only
    rw [w64 (x := (a : Int) + (b : Int)) (by omega) (by omega), w64 (by omega) (by omega), if_pos (by omega), awake_f 200 (by omega), Option.bind_some]
  by_cases d1 : t < 0
  · rw [if_pos d1]; exact j1t (by unfold odd; omega)
  rw [if_neg d1]
  by_cases d2 : t > 1125899906842624
  · rw [if_pos d2]; exact j1t (by unfold odd; omega)
  rw [if_neg d2]
  by_cases d3 : o < 0
  · rw [if_pos d3]; exact j1t (by unfold odd; omega)
  rw [if_neg d3]
  by_cases d4 : o > 99
  · rw [decide_eq_true d4]; exact j1t (by unfold odd; omega)
  · rw [decide_eq_false d4]
    exact j1f (by unfold odd; simp; omega)

end Go.Proofs.Ytcmkmjmhjjohkaa.Pure
