/- The document's groups of seven digits, as printed, are the same. -/
import Derived.Test.YtgmeellapjimgaaQPBax6
import Derived.Test.YtgmeellapjimgaaQVrF
namespace Go.Proofs.Ytgmeellapjimgaa.Bp
open Go Go.RowKit Go.Proofs.Ytgmeellapjimgaa.PBa Go.Proofs.YtgmeellapjimgaaW.PrintWords Go.Proofs.YtgmeellapjimgaaW.PrintLast Go.Proofs.YtgmeellapjimgaaW.PrintMore
set_option linter.unusedVariables false
set_option linter.unusedSimpArgs false

theorem rvarint_l0 (n : Nat) : ∀ (k v : Nat) (acc : List Int), v < 18446744073709551616 → v < 128 ^ (n + 1) → n + 1 ≤ k → acc.length + n + 1 < 140737488355328 → bollardref1_Varint.l0 k (v : Int) acc = some (acc ++ vr v) := by
  induction n with
  | zero =>
    intro k v acc h64 hv hk ha
    obtain ⟨K, rfl⟩ : ∃ K, k = K + 1 := ⟨k - 1, by omega⟩
    simp only [bollardref1_Varint.l0]
    rw [if_neg (by omega), if_pos (by omega), vr_small (by omega), show ((v : Int)) % 256 = (v : Int) from by omega]
  | succ n ih =>
    intro k v acc h64 hv hk ha
    obtain ⟨K, rfl⟩ : ∃ K, k = K + 1 := ⟨k - 1, by omega⟩
    simp only [bollardref1_Varint.l0]
    by_cases c : v < 128
    · rw [if_neg (by omega), if_pos (by omega), vr_small c, show ((v : Int)) % 256 = (v : Int) from by omega]
    · rw [if_pos (by omega), if_pos (by omega), u64_and127 (by omega), u64_or128 (by omega), show (v : Int) / 128 = ((v / 128 : Nat) : Int) from by omega, ih K (v / 128) _ (by omega) ?_ (by omega) (by simp; omega), vr_big c]
      · rw [List.append_assoc, show (((v : Int)) % 128 + 128) % 256 = ((v % 128 + 128 : Nat) : Int) from by omega]
        rfl
      · rw [Nat.pow_succ] at hv
        omega

theorem rvarint_f (v : Nat) (hv : v < 18446744073709551616) (k : Nat) (hk : 10 ≤ k) : bollardref1_Varint.f k (v : Int) = some (vr v) := by
  unfold bollardref1_Varint.f
  rw [rvarint_l0 9 k v [] hv (by omega) (by omega) (by simp), List.nil_append]


end Go.Proofs.Ytgmeellapjimgaa.Bp
