/- What is read as groups: its range; more bytes behind it do not matter. -/
import Derived.Test.YtcmkmjmhjjohkaaBitsPlain
namespace Go.Proofs.Ytcmkmjmhjjohkaa.Bp
open Go Go.RowKit Go.Proofs.YtcmkmjmhjjohkaaW.PrintWords Go.Proofs.YtcmkmjmhjjohkaaW.PrintLast Go.Proofs.YtcmkmjmhjjohkaaW.PrintMore
set_option linter.unusedVariables false
set_option linter.unusedSimpArgs false

theorem Bytes.drop {l : List Int} (h : Bytes l) (n : Nat) : Bytes (l.drop n) := fun x hx => h x (List.mem_of_mem_drop hx)
theorem Bytes.take {l : List Int} (h : Bytes l) (n : Nat) : Bytes (l.take n) := fun x hx => h x (List.mem_of_mem_take hx)
theorem Bytes.append {l m : List Int} (h : Bytes l) (g : Bytes m) : Bytes (l ++ m) := fun x hx => by
  rcases List.mem_append.1 hx with q | q
  · exact h x q
  · exact g x q

theorem pow128 (i : Nat) (hi : i ≤ 8) : (128 : Int) ^ (i + 1) ≤ 9223372036854775808 := by
  have hc : i = 0 ∨ i = 1 ∨ i = 2 ∨ i = 3 ∨ i = 4 ∨ i = 5 ∨ i = 6 ∨ i = 7 ∨ i = 8 := by omega
  rcases hc with h | h | h | h | h | h | h | h | h <;> subst h <;> decide

theorem unv_range : ∀ (l : List Int) (i : Nat) (v : Int), Bytes l → i ≤ 10 → 0 ≤ v → v < 128 ^ i → 0 ≤ (unv l i v).1 ∧ (unv l i v).1 < 18446744073709551616 ∧ 0 ≤ (unv l i v).2 ∧ (unv l i v).2 ≤ (i : Int) + l.length ∧ ((unv l i v).2 = 0 ∨ (i : Int) < (unv l i v).2)
  | [], i, v, _, _, _, _ => by
    have e : unv [] i v = (0, 0) := rfl
    rw [e]
    refine ⟨Int.le_refl _, by decide, Int.le_refl _, ?_, Or.inl rfl⟩
    show (0 : Int) ≤ _
    omega
  | x :: xs, i, v, hb, hi, h0, h1 => by
    simp only [unv]
    have hx := hb x (by simp)
    by_cases c : i = 10 ∨ (i = 9 ∧ x > 1) ∨ (0 < i ∧ x = 0)
    · rw [if_pos c]
      refine ⟨Int.le_refl _, by decide, Int.le_refl _, ?_, Or.inl rfl⟩
      show (0 : Int) ≤ _
      omega
    · rw [if_neg c]
      have h9 : i = 9 → x % 128 ≤ 1 := by omega
      have hp := put7_add (v := v) (x := x) (i := i) (by omega) hx h9 h0 h1
      have hpos : (0 : Int) < 128 ^ i := Int.pow_pos (by decide)
      have hs : (128 : Int) ^ (i + 1) = 128 ^ i * 128 := Int.pow_succ _ _
      have hm : (x % 128) * 128 ^ i ≤ 127 * 128 ^ i := Int.mul_le_mul_of_nonneg_right (by omega) (by omega)
      have hm0 : 0 ≤ (x % 128) * 128 ^ i := Int.mul_nonneg (by omega) (by omega)
      have hlt : put7 v x i < 18446744073709551616 := by
        rw [hp]
        rcases Nat.lt_or_ge i 9 with q | q
        · have := pow128 i (by omega)
          omega
        · obtain rfl : i = 9 := by omega
          have e : (128 : Int) ^ 9 = 9223372036854775808 := by decide
          have h9' := h9 rfl
          have : (x % 128) * 128 ^ 9 ≤ 1 * 128 ^ 9 := Int.mul_le_mul_of_nonneg_right (by omega) (by omega)
          omega
      by_cases d : x < 128
      · rw [if_pos d]
        simp only [List.length_cons]
        refine ⟨by omega, hlt, by omega, by omega, Or.inr (by omega)⟩
      · rw [if_neg d]
        have i8 : i ≤ 9 := by omega
        have ih := unv_range xs (i + 1) (put7 v x i) (fun y hy => hb y (by simp [hy])) (by omega) (by omega) (by rw [hp, hs]; omega)
        simp only [List.length_cons]
        omega

theorem unv_app (rest : List Int) : ∀ (l : List Int) (i : Nat) (v : Int), (unv l i v).2 ≠ 0 → unv (l ++ rest) i v = unv l i v
  | [], i, v, h => by simp [unv] at h
  | x :: xs, i, v, h => by
    simp only [List.cons_append, unv] at h ⊢
    by_cases c : i = 10 ∨ (i = 9 ∧ x > 1) ∨ (0 < i ∧ x = 0)
    · rw [if_pos c] at h
      exact absurd rfl h
    · rw [if_neg c] at h ⊢
      rw [if_neg c]
      by_cases d : x < 128
      · rw [if_pos d, if_pos d]
      · rw [if_neg d] at h ⊢
        rw [if_neg d]
        exact unv_app rest xs (i + 1) _ h

theorem unv0_range {l : List Int} (hb : Bytes l) : 0 ≤ (unv l 0 0).1 ∧ (unv l 0 0).1 < 18446744073709551616 ∧ 0 ≤ (unv l 0 0).2 ∧ (unv l 0 0).2 ≤ (l.length : Int) := by
  have := unv_range l 0 0 hb (by omega) (by omega) (by decide)
  omega

end Go.Proofs.Ytcmkmjmhjjohkaa.Bp
