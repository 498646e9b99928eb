/- Numbers of so many digits, as printed of the program, and what holds of them. -/
import Derived.Test.YtlpbgknpgogaaaaPBitsx4
import Derived.Test.YtlpbgknpgogaaaaPBitsx3
import Derived.Test.YtlpbgknpgogaaaaBitsPlain
namespace Go.Proofs.Ytlpbgknpgogaaaa.Bp
open Go Go.RowKit Go.Proofs.Ytlpbgknpgogaaaa.PBits Go.Proofs.YtlpbgknpgogaaaaW.PrintWords Go.Proofs.YtlpbgknpgogaaaaW.PrintLast Go.Proofs.YtlpbgknpgogaaaaW.PrintMore
set_option linter.unusedVariables false
set_option linter.unusedSimpArgs false

theorem pow_pos' (n : Nat) : (0 : Int) < 2 ^ n := Int.pow_pos (by decide)
theorem pow_split {a b c : Nat} (h : a + b = c) : (2 : Int) ^ a * 2 ^ b = 2 ^ c := by rw [← Int.pow_add, h]
theorem pow_le {a b : Nat} (h : a ≤ b) : (2 : Int) ^ a ≤ 2 ^ b := by
  obtain ⟨c, rfl⟩ := Nat.exists_eq_add_of_le h
  rw [Int.pow_add]
  have h1 := pow_pos' a
  have h2 := pow_pos' c
  have : (2 : Int) ^ a * 1 ≤ 2 ^ a * 2 ^ c := Int.mul_le_mul_of_nonneg_left (by omega) (by omega)
  omega
theorem and_mask {x : Int} (w : Nat) (h : 0 ≤ x ∧ x < 18446744073709551616) (hw : w ≤ 64) : Go.bits .and .u64 x (2 ^ w - 1) = x % 2 ^ w := by
  have hp := pow_pos' w
  have hl : (2 : Int) ^ w ≤ 18446744073709551616 := pow_le hw
  rw [u64_and _ _ (by omega) (by omega) (by omega) (by omega)]
  have e : ((2 : Int) ^ w - 1).toNat = 2 ^ w - 1 := by
    have : ((2 : Int) ^ w) = ((2 ^ w : Nat) : Int) := by push_cast; rfl
    rw [this]
    have := Nat.two_pow_pos w
    omega
  rw [e, Nat.and_two_pow_sub_one_eq_mod]
  obtain ⟨n, rfl⟩ := Int.eq_ofNat_of_zero_le h.1
  rw [Int.toNat_natCast]
  push_cast
  rfl
theorem mask_f (w : Nat) (h1 : 1 ≤ w) (h2 : w ≤ 64) : bits_mask.f (w : Int) = some (2 ^ w - 1) := by
  unfold bits_mask.f
  rw [w64 (by omega) (by omega), if_pos (by omega)]
  unfold shr
  simp only [IntKind.bits]
  have e : min (64 - (w : Int)).toNat 64 = 64 - w := by omega
  rw [e]
  have hs := pow_split (show w + (64 - w) = 64 from by omega)
  have hp := pow_pos' (64 - w)
  have hq := pow_pos' w
  congr 1
  have : (18446744073709551615 : Int) = (2 ^ w - 1) * 2 ^ (64 - w) + (2 ^ (64 - w) - 1) := by
    rw [Int.sub_mul, hs]
    omega
  rw [this, Int.add_comm, Int.add_mul_ediv_right _ _ (by omega), Int.ediv_eq_zero_of_lt (by omega) (by omega)]
  omega

/-- Digits as a number. -/
def wide (u : Int) (w : Nat) (s : Bool) : Int := if s = true then (if u % 2 ^ w < 2 ^ (w - 1) then u % 2 ^ w else u % 2 ^ w - 2 ^ w) else wrap64 (u % 2 ^ w)

theorem shifted {u : Int} (hu : 0 ≤ u ∧ u < 18446744073709551616) (w : Nat) (h1 : 1 ≤ w) (h2 : w ≤ 64) :
    (wrap64 (IntKind.u64.wrap (u * 2 ^ (64 - w)))) / 2 ^ (64 - w) = if u % 2 ^ w < 2 ^ (w - 1) then u % 2 ^ w else u % 2 ^ w - 2 ^ w := by
  have hs := pow_split (show w + (64 - w) = 64 from by omega)
  have hh := pow_split (show (w - 1) + 1 = w from by omega)
  have hp := pow_pos' (64 - w)
  have hq := pow_pos' w
  have hr := pow_pos' (w - 1)
  have m0 := Int.emod_nonneg u (show (2 : Int) ^ w ≠ 0 from by omega)
  have m1 := Int.emod_lt_of_pos u hq
  generalize (2 : Int) ^ (64 - w) = P at *
  generalize (2 : Int) ^ (w - 1) = Q at *
  generalize (2 : Int) ^ w = W at *
  have hW2 : W = Q * 2 := by rw [← hh]; rfl
  have h64 : W * P = 18446744073709551616 := by rw [hs]; rfl
  have h63 : Q * P = 9223372036854775808 := by
    have : W * P = Q * P * 2 := by rw [hW2, Int.mul_assoc, Int.mul_comm 2 P, ← Int.mul_assoc]
    omega
  have e0 : u * P % 18446744073709551616 = u % W * P := by
    rw [← h64, Int.mul_comm u P, Int.mul_comm W P, Int.mul_emod_mul_of_pos _ _ hp, Int.mul_comm]
  rw [IntKind.wrap_u64, e0]
  generalize u % W = m at *
  have lo : 0 ≤ m * P := Int.mul_nonneg m0 (by omega)
  by_cases c : m < Q
  · rw [if_pos c]
    have hi : m * P ≤ (Q - 1) * P := Int.mul_le_mul_of_nonneg_right (by omega) (by omega)
    rw [Int.sub_mul, Int.one_mul, h63] at hi
    rw [w64 (by omega) (by omega), Int.mul_ediv_cancel _ (by omega)]
  · rw [if_neg c]
    have l2 : Q * P ≤ m * P := Int.mul_le_mul_of_nonneg_right (by omega) (by omega)
    have hi : m * P ≤ (W - 1) * P := Int.mul_le_mul_of_nonneg_right (by omega) (by omega)
    rw [Int.sub_mul, Int.one_mul, h64] at hi
    have e : wrap64 (m * P) = (m - W) * P := by
      rw [Int.sub_mul, h64]
      unfold wrap64
      omega
    rw [e, Int.mul_ediv_cancel _ (by omega)]

theorem widen_f {u : Int} (hu : 0 ≤ u ∧ u < 18446744073709551616) (w : Nat) (h1 : 1 ≤ w) (h2 : w ≤ 64) (s : Bool) (k : Nat) (hk : 1 ≤ k) : bits_Widen.f k u (w : Int) s = some (wide u w s) := by
  obtain ⟨K, rfl⟩ : ∃ K, k = K + 1 := ⟨k - 1, by omega⟩
  unfold bits_Widen.f
  rw [if_neg (by omega), decide_eq_false (by omega)]
  simp only [bits_Widen.j0]
  rw [if_neg (by simp), mask_f w h1 h2]
  unfold wide
  have e : min (64 - (w : Int)).toNat 64 = 64 - w := by omega
  by_cases c : s = true
  · rw [if_pos c, if_pos c, w64 (by omega) (by omega), if_pos (by omega)]
    unfold shl shr
    simp only [IntKind.bits]
    rw [e, shifted hu w h1 h2]
  · rw [if_neg c, if_neg c]
    simp only [Option.bind_some]
    rw [and_mask w hu h2]

theorem widen_none (u w : Int) (h : w < 1 ∨ w > 64) (s : Bool) (k : Nat) (hk : 1 ≤ k) : bits_Widen.f k u w s = some 0 := by
  obtain ⟨K, rfl⟩ : ∃ K, k = K + 1 := ⟨k - 1, by omega⟩
  unfold bits_Widen.f
  have e : bits_Widen.j0 (K + 1) u w s true = some 0 := by
    simp only [bits_Widen.j0]
    rw [if_pos (by trivial)]
  by_cases c : w < 1
  · rw [if_pos c]; exact e
  · rw [if_neg c, decide_eq_true (by omega)]; exact e

/-- A number of so many digits, or none. -/
def narrow (v : Int) (w : Nat) (s : Bool) : Int × Bool :=
  if s = true then (if -(2 ^ (w - 1)) ≤ v ∧ v < 2 ^ (w - 1) then (v % 2 ^ w, true) else (0, false)) else (if 0 ≤ v ∧ v < 2 ^ w then (v, true) else (0, false))

theorem mod_mod {v : Int} (w : Nat) (h : w ≤ 64) : v % 18446744073709551616 % 2 ^ w = v % 2 ^ w := by
  have : (2 : Int) ^ w ∣ 18446744073709551616 := ⟨2 ^ (64 - w), by rw [pow_split (show w + (64 - w) = 64 from by omega)]; rfl⟩
  exact Int.emod_emod_of_dvd v this

/-- What is read back is the number that was narrowed, if it fits; else another one. -/
theorem wide_signed (v : Int) (w : Nat) (h1 : 1 ≤ w) : wide (v % 2 ^ w) w true = v ↔ -(2 ^ (w - 1)) ≤ v ∧ v < 2 ^ (w - 1) := by
  unfold wide
  rw [if_pos rfl, Int.emod_emod_of_dvd v (Int.dvd_refl _)]
  have hh := pow_split (show (w - 1) + 1 = w from by omega)
  have hq := pow_pos' w
  have hr := pow_pos' (w - 1)
  have m0 := Int.emod_nonneg v (show (2 : Int) ^ w ≠ 0 from by omega)
  have m1 := Int.emod_lt_of_pos v hq
  have hd := Int.emod_add_mul_ediv v (2 ^ w)
  have hW2 : (2 : Int) ^ w = 2 ^ (w - 1) * 2 := by rw [← hh]; rfl
  rw [hW2] at hd hq m0 m1 ⊢
  clear hh hW2
  generalize (2 : Int) ^ (w - 1) = Q at *
  generalize v % (Q * 2) = m at *
  generalize v / (Q * 2) = d at *
  by_cases c : m < Q
  · rw [if_pos c]
    constructor
    · intro e; omega
    · intro ⟨a, b⟩
      have : d = 0 := by
        rcases Int.lt_trichotomy d 0 with q | q | q
        · have : Q * 2 * d ≤ Q * 2 * (-1) := Int.mul_le_mul_of_nonneg_left (by omega) (by omega)
          omega
        · exact q
        · have : Q * 2 * 1 ≤ Q * 2 * d := Int.mul_le_mul_of_nonneg_left (by omega) (by omega)
          omega
      rw [this] at hd
      omega
  · rw [if_neg c]
    constructor
    · intro e; omega
    · intro ⟨a, b⟩
      have : d = -1 := by
        rcases Int.lt_trichotomy d (-1) with q | q | q
        · have : Q * 2 * d ≤ Q * 2 * (-2) := Int.mul_le_mul_of_nonneg_left (by omega) (by omega)
          omega
        · exact q
        · have : Q * 2 * 0 ≤ Q * 2 * d := Int.mul_le_mul_of_nonneg_left (by omega) (by omega)
          omega
      rw [this] at hd
      omega

theorem wide_plain {v : Int} (w : Nat) (hw : w ≤ 64) (hv : 0 ≤ v ∧ v ≤ 9223372036854775807) : wide (v % 2 ^ w) w false = v ↔ v < 2 ^ w := by
  unfold wide
  rw [if_neg (by simp), Int.emod_emod_of_dvd v (Int.dvd_refl _)]
  have hq := pow_pos' w
  have m0 := Int.emod_nonneg v (show (2 : Int) ^ w ≠ 0 from by omega)
  have m1 := Int.emod_lt_of_pos v hq
  have m2 : v % 2 ^ w ≤ v := by
    have a := Int.emod_add_mul_ediv v (2 ^ w)
    have b : 0 ≤ 2 ^ w * (v / 2 ^ w) := Int.mul_nonneg (by omega) (Int.ediv_nonneg hv.1 (by omega))
    omega
  rw [w64 (by omega) (by omega)]
  constructor
  · intro e; omega
  · intro h; exact Int.emod_eq_of_lt hv.1 h

theorem narrow_f {v : Int} (hv : -9223372036854775808 ≤ v ∧ v ≤ 9223372036854775807) (w : Nat) (h1 : 1 ≤ w) (h2 : w ≤ 64) (s : Bool) (k : Nat) (hk : 2 ≤ k) : bits_Narrow.f k v (w : Int) s = some (narrow v w s) := by
  obtain ⟨K, rfl⟩ : ∃ K, k = K + 1 := ⟨k - 1, by omega⟩
  have hq := pow_pos' w
  have hl : (2 : Int) ^ w ≤ 18446744073709551616 := pow_le h2
  have m0 := Int.emod_nonneg v (show (2 : Int) ^ w ≠ 0 from by omega)
  have m1 := Int.emod_lt_of_pos v hq
  unfold bits_Narrow.f
  rw [if_neg (by omega), decide_eq_false (by omega)]
  simp only [bits_Narrow.j0]
  rw [if_neg (by simp), mask_f w h1 h2]
  simp only [Option.bind_some]
  rw [IntKind.wrap_u64, and_mask w (by omega) h2, mod_mod w h2, widen_f (by omega) w h1 h2 s K (by omega)]
  simp only [Option.bind_some]
  unfold narrow
  by_cases c : s = true
  · subst c
    rw [if_pos rfl, if_pos rfl]
    by_cases d : -(2 ^ (w - 1)) ≤ v ∧ v < 2 ^ (w - 1)
    · rw [if_pos d, if_pos ((wide_signed v w h1).2 d)]
    · rw [if_neg d, if_neg (fun e => d ((wide_signed v w h1).1 e))]
  · have : s = false := by simpa using c
    subst this
    rw [if_neg (show ¬ (false = true) by simp), if_neg (show ¬ (false = true) by simp)]
    by_cases d0 : v < 0
    · rw [if_pos d0, if_neg (by omega)]
    · rw [if_neg d0]
      by_cases d : v < 2 ^ w
      · rw [if_pos ((wide_plain w h2 (by omega)).2 d), if_pos (by omega), Int.emod_eq_of_lt (by omega) d]
      · rw [if_neg (fun e => d ((wide_plain w h2 (by omega)).1 e)), if_neg (by omega)]

theorem narrow_none (v w : Int) (h : w < 1 ∨ w > 64) (s : Bool) (k : Nat) (hk : 1 ≤ k) : bits_Narrow.f k v w s = some (0, false) := by
  obtain ⟨K, rfl⟩ : ∃ K, k = K + 1 := ⟨k - 1, by omega⟩
  unfold bits_Narrow.f
  have e : bits_Narrow.j0 (K + 1) v w s true = some (0, false) := by
    simp only [bits_Narrow.j0]
    rw [if_pos (by trivial)]
  by_cases c : w < 1
  · rw [if_pos c]; exact e
  · rw [if_neg c, decide_eq_true (by omega)]; exact e

end Go.Proofs.Ytlpbgknpgogaaaa.Bp
