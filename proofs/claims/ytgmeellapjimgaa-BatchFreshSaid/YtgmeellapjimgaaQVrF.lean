/- The program's groups of seven digits, as printed, and what holds of them. -/
import Derived.Test.YtgmeellapjimgaaQPBax3
import Derived.Test.YtgmeellapjimgaaQBitsPlain
namespace Go.Proofs.Ytgmeellapjimgaa.Bp
open Go Go.RowKit Go.Proofs.Ytgmeellapjimgaa.PBa Go.Proofs.YtgmeellapjimgaaW.PrintWords Go.Proofs.YtgmeellapjimgaaW.PrintLast Go.Proofs.YtgmeellapjimgaaW.PrintMore
set_option linter.unusedVariables false
set_option linter.unusedSimpArgs false

theorem varint_l0 (n : Nat) : ∀ (k v : Nat) (acc : List Int), v < 128 ^ (n + 1) → n + 1 ≤ k → acc.length + n + 1 < 140737488355328 → bits_Varint.l0 k (v : Int) acc = some (acc ++ vr v) := by
  induction n with
  | zero =>
    intro k v acc hv hk ha
    obtain ⟨K, rfl⟩ : ∃ K, k = K + 1 := ⟨k - 1, by omega⟩
    simp only [bits_Varint.l0]
    rw [if_neg (by omega), if_pos (by omega), vr_small (by omega), show ((v : Int)) % 256 = (v : Int) from by omega]
  | succ n ih =>
    intro k v acc hv hk ha
    obtain ⟨K, rfl⟩ : ∃ K, k = K + 1 := ⟨k - 1, by omega⟩
    simp only [bits_Varint.l0]
    by_cases c : v < 128
    · rw [if_neg (by omega), if_pos (by omega), vr_small c, show ((v : Int)) % 256 = (v : Int) from by omega]
    · rw [if_pos (by omega), if_pos (by omega), or128, show (v : Int) / 128 = ((v / 128 : Nat) : Int) from by omega, ih K (v / 128) _ ?_ (by omega) (by simp; omega), vr_big c]
      · rw [List.append_assoc, show ((v : Int)) % 128 + 128 = ((v % 128 + 128 : Nat) : Int) from by omega]
        rfl
      · rw [Nat.pow_succ] at hv
        omega

theorem varint_f (v : Nat) (hv : v < 18446744073709551616) (k : Nat) (hk : 10 ≤ k) : bits_Varint.f k (v : Int) = some (vr v) := by
  unfold bits_Varint.f
  rw [varint_l0 9 k v [] (by omega) (by omega) (by simp), List.nil_append]

theorem vr_ne (v : Nat) : vr v ≠ [] := by
  by_cases h : v < 128
  · rw [vr_small h]; simp
  · rw [vr_big h]; simp

theorem vr_len (n : Nat) : ∀ v : Nat, v < 128 ^ (n + 1) → (vr v).length ≤ n + 1 := by
  induction n with
  | zero => intro v hv; rw [vr_small (by omega)]; simp
  | succ n ih =>
    intro v hv
    by_cases h : v < 128
    · rw [vr_small h]; simp
    · rw [vr_big h, List.length_cons]
      have := ih (v / 128) (by rw [Nat.pow_succ] at hv; omega)
      omega

theorem vr_bytes : ∀ v : Nat, Bytes (vr v) := by
  intro v
  induction v using Nat.strongRecOn with
  | _ v ih =>
    by_cases h : v < 128
    · rw [vr_small h]
      intro x hx
      simp at hx
      omega
    · rw [vr_big h]
      intro x hx
      rcases List.mem_cons.1 hx with rfl | hx
      · omega
      · exact ih (v / 128) (by omega) x hx


end Go.Proofs.Ytgmeellapjimgaa.Bp
