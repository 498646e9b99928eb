/- The document's groups of seven digits, as printed, are the same. -/
import Derived.Test.YtcmkmjmhjjohkaaPRecx4
import Derived.Test.YtcmkmjmhjjohkaaPRecx10
import Derived.Test.YtcmkmjmhjjohkaaVrF
namespace Go.Proofs.Ytcmkmjmhjjohkaa.Bp
open Go Go.RowKit Go.Proofs.Ytcmkmjmhjjohkaa.PRec Go.Proofs.YtcmkmjmhjjohkaaW.PrintWords Go.Proofs.YtcmkmjmhjjohkaaW.PrintLast Go.Proofs.YtcmkmjmhjjohkaaW.PrintMore
set_option linter.unusedVariables false
set_option linter.unusedSimpArgs false

theorem rvarint_l0 (n : Nat) : ∀ (k v : Nat) (acc : List Int), v < 18446744073709551616 → v < 128 ^ (n + 1) → n + 1 ≤ k → acc.length + n + 1 < 140737488355328 → bollardref1_Varint.l0 k (v : Int) acc = some (acc ++ vr v) := by
  induction n with
  | zero =>
    intro k v acc h64 hv hk ha
    obtain ⟨K, rfl⟩ : ∃ K, k = K + 1 := ⟨k - 1, by omega⟩
    simp only [bollardref1_Varint.l0]
    rw [if_neg (by omega), if_pos (by omega), vr_small (by omega), show ((v : Int)) % 256 = (v : Int) from by omega]
  | succ n ih =>
    intro k v acc h64 hv hk ha
    obtain ⟨K, rfl⟩ : ∃ K, k = K + 1 := ⟨k - 1, by omega⟩
    simp only [bollardref1_Varint.l0]
    by_cases c : v < 128
    · rw [if_neg (by omega), if_pos (by omega), vr_small c, show ((v : Int)) % 256 = (v : Int) from by omega]
    · rw [if_pos (by omega), if_pos (by omega), u64_and127 (by omega), u64_or128 (by omega), show (v : Int) / 128 = ((v / 128 : Nat) : Int) from by omega, ih K (v / 128) _ (by omega) ?_ (by omega) (by simp; omega), vr_big c]
      · rw [List.append_assoc, show (((v : Int)) % 128 + 128) % 256 = ((v % 128 + 128 : Nat) : Int) from by omega]
        rfl
      · rw [Nat.pow_succ] at hv
        omega

theorem rvarint_f (v : Nat) (hv : v < 18446744073709551616) (k : Nat) (hk : 10 ≤ k) : bollardref1_Varint.f k (v : Int) = some (vr v) := by
  unfold bollardref1_Varint.f
  rw [rvarint_l0 9 k v [] hv (by omega) (by omega) (by simp), List.nil_append]

theorem runvarint_l0 (l : List Int) (hb : Bytes l) (hl : l.length ≤ 4000000000000000000) (n : Nat) : ∀ (k i : Nat) (v : Int), i + n = l.length → i ≤ 10 → 3 * n + 2 ≤ k →
    bollardref1_Unvarint.l0 k l v (i : Int) = some (unv (l.drop i) i v) := by
  induction n with
  | zero =>
    intro k i v hi h10 hk
    obtain ⟨K, rfl⟩ : ∃ K, k = K + 1 + 1 := ⟨k - 2, by omega⟩
    simp only [bollardref1_Unvarint.l0]
    rw [List.drop_eq_nil_of_le (by omega)]
    have e : bollardref1_Unvarint.j1 (K + 1) l v (i : Int) false = some (unv [] i v) := by
      simp only [bollardref1_Unvarint.j1]
      rw [if_neg (by simp)]
      rfl
    by_cases c : (i : Int) < 10
    · rw [if_pos c, decide_eq_false (by omega)]
      exact e
    · rw [if_neg c]
      exact e
  | succ n ih =>
    intro k i v hi h10 hk
    obtain ⟨K, rfl⟩ : ∃ K, k = K + 1 + 1 + 1 := ⟨k - 3, by omega⟩
    simp only [bollardref1_Unvarint.l0]
    rw [drop_cons (by omega : i < l.length)]
    by_cases c : (i : Int) < 10
    · rw [if_pos c, decide_eq_true (by omega)]
      have hx := rd_byte hb (i : Int)
      have j : ∀ b : Bool, (b = true ↔ (i = 9 ∧ rd l (i : Int) > 1)) → bollardref1_Unvarint.j2 (K + 1) l v (i : Int) b = some (unv (rd l (i : Int) :: l.drop (i + 1)) i v) := by
        intro b hbb
        simp only [bollardref1_Unvarint.j2, unv]
        by_cases d : b = true
        · rw [if_pos d, if_pos (Or.inr (Or.inl (hbb.1 d)))]
        · have hd : ¬ (i = 9 ∧ rd l (i : Int) > 1) := fun h => d (hbb.2 h)
          rw [if_neg d, if_pos (by omega), if_pos (by omega), if_pos (by rw [w64 (by omega) (by omega)]; omega)]
          by_cases q : rd l (i : Int) < 128
          · rw [if_pos q]
            by_cases q0 : rd l (i : Int) = 0
            · rw [if_pos q0]
              by_cases qi : (i : Int) > 0
              · rw [if_pos qi, if_pos (Or.inr (Or.inr ⟨by omega, q0⟩))]
              · rw [if_neg qi, if_neg (by omega), if_pos q, up64 i (by omega)]
                rfl
            · rw [if_neg q0, if_neg (by omega), if_pos q, up64 i (by omega)]
              rfl
          · rw [if_neg q, if_neg (by omega), if_neg q, up64 i (by omega)]
            exact ih K (i + 1) _ (by omega) (by omega) (by omega)
      simp only [bollardref1_Unvarint.j1]
      rw [if_pos (by trivial)]
      by_cases c9 : (i : Int) = 9
      · rw [if_pos c9, if_pos (by omega), if_pos (by omega)]
        exact j _ (by simp; omega)
      · rw [if_neg c9]
        exact j false (by simp; omega)
    · rw [if_neg c]
      simp only [bollardref1_Unvarint.j1, unv]
      rw [if_neg (by simp), if_pos (Or.inl (by omega))]

theorem runvarint_f (l : List Int) (hb : Bytes l) (hl : l.length ≤ 4000000000000000000) (k : Nat) (hk : 3 * l.length + 2 ≤ k) : bollardref1_Unvarint.f k l = some (unv l 0 0) := by
  unfold bollardref1_Unvarint.f
  exact runvarint_l0 l hb hl l.length k 0 0 (by omega) (by omega) hk

end Go.Proofs.Ytcmkmjmhjjohkaa.Bp
