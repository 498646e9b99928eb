/- Any number is told in so many digits, or refused, and back, as the document says: of any number, any width, with a sign or without. No condition. -/
import Derived.Test.YtlpbgknpgogaaaaPBitsx4
import Derived.Test.YtlpbgknpgogaaaaBitsNar
import Derived.Test.YtlpbgknpgogaaaaBitsAwake
namespace Go.Proofs.Ytlpbgknpgogaaaa.Pure
open Go Go.RowKit Go.Proofs.Ytlpbgknpgogaaaa.PBits Go.Proofs.YtlpbgknpgogaaaaW.PrintWords Go.Proofs.YtlpbgknpgogaaaaW.PrintLast Go.Proofs.YtlpbgknpgogaaaaW.PrintMore Go.Proofs.Ytlpbgknpgogaaaa.Bp
set_option linter.unusedVariables false
set_option linter.unusedSimpArgs false

theorem shl_one (w : Nat) (hw : w < 63) : shl .i64 1 (w : Int) = 2 ^ w := by
  unfold shl
  simp only [IntKind.bits]
  rw [show min ((w : Int)).toNat 64 = w from by omega, i64_w, Int.one_mul]
  have hp := pow_pos' w
  have : (2 : Int) ^ w ≤ 2 ^ 62 := pow_le (by omega)
  exact w64 (by omega) (by omega)
theorem ushl_one (w : Nat) (hw : w < 64) : shl .u64 1 (w : Int) = 2 ^ w := by
  unfold shl
  simp only [IntKind.bits]
  rw [show min ((w : Int)).toNat 64 = w from by omega, Int.one_mul]
  have hp := pow_pos' w
  have : (2 : Int) ^ w ≤ 2 ^ 63 := pow_le (by omega)
  exact u64_id (by omega) (by omega)
theorem pred_cast (w : Nat) (h : 1 ≤ w) : (w : Int) - 1 = ((w - 1 : Nat) : Int) := by omega

theorem rwiden_f {u : Int} (hu : 0 ≤ u ∧ u < 18446744073709551616) (w : Nat) (h1 : 1 ≤ w) (h2 : w ≤ 64) (s : Bool) (k : Nat) (hk : 1 ≤ k) : bollardref1_Widen.f k u (w : Int) s = some (wide u w s) := by
  obtain ⟨K, rfl⟩ : ∃ K, k = K + 1 := ⟨k - 1, by omega⟩
  unfold bollardref1_Widen.f
  rw [if_neg (by omega), decide_eq_false (by omega)]
  simp only [bollardref1_Widen.j0]
  rw [if_neg (by simp)]
  have hq := pow_pos' w
  have hl : (2 : Int) ^ w ≤ 18446744073709551616 := pow_le h2
  have m0 := Int.emod_nonneg u (show (2 : Int) ^ w ≠ 0 from by omega)
  have m1 := Int.emod_lt_of_pos u hq
  have hh := pow_split (show (w - 1) + 1 = w from by omega)
  have hr := pow_pos' (w - 1)
  by_cases c : (w : Int) = 64
  · rw [if_pos c]
    obtain rfl : w = 64 := by omega
    unfold wide
    have e : u % 2 ^ 64 = u := Int.emod_eq_of_lt hu.1 hu.2
    rw [e]
    cases s with
    | true =>
      rw [if_pos rfl]
      congr 1
      unfold wrap64
      split <;> omega
    | false => rfl
  · have hw : w < 64 := by omega
    rw [if_neg c, if_pos (by omega), ushl_one w hw, w64 (by omega) (by omega), u64_id (x := 2 ^ w - 1) (by omega) (by omega), and_mask w hu h2]
    have h63 : (2 : Int) ^ w ≤ 9223372036854775808 := by
      have : (2 : Int) ^ w ≤ 2 ^ 63 := pow_le (by omega)
      omega
    rw [w64 (x := u % 2 ^ w) (by omega) (by omega)]
    unfold wide
    cases s with
    | false =>
      rw [if_neg (by simp), if_neg (by simp), w64 (by omega) (by omega)]
    | true =>
      rw [if_pos (by trivial), if_pos (by omega), if_pos rfl]
      have e : shr .u64 (u % 2 ^ w) ((w : Int) - 1) = u % 2 ^ w / 2 ^ (w - 1) := by
        unfold shr
        simp only [IntKind.bits]
        rw [show min ((w : Int) - 1).toNat 64 = w - 1 from by omega]
      rw [e]
      have hW2 : (2 : Int) ^ w = 2 ^ (w - 1) * 2 := by rw [← hh]; rfl
      have hsh : wrap64 (u % 2 ^ w - shl .i64 1 (w : Int)) = if u % 2 ^ w < 2 ^ (w - 1) then wrap64 (u % 2 ^ w - shl .i64 1 (w : Int)) else u % 2 ^ w - 2 ^ w := by
        split
        · rfl
        · rcases Nat.lt_or_ge w 63 with q | q
          · rw [shl_one w q]
            exact w64 (by omega) (by omega)
          · obtain rfl : w = 63 := by omega
            have e63 : shl .i64 1 ((63 : Nat) : Int) = -9223372036854775808 := by
              unfold shl
              simp only [IntKind.bits]
              rw [show min (((63 : Nat) : Int)).toNat 64 = 63 from by omega, i64_w]
              unfold wrap64
              omega
            rw [e63]
            unfold wrap64
            omega
      by_cases d : u % 2 ^ w < 2 ^ (w - 1)
      · rw [Int.ediv_eq_zero_of_lt m0 d, if_neg (by omega), if_pos d]
      · have : u % 2 ^ w / 2 ^ (w - 1) = 1 := by
          have a := Int.ediv_lt_of_lt_mul hr (show u % 2 ^ w < 2 * 2 ^ (w - 1) from by omega)
          have b := Int.le_ediv_of_mul_le hr (show 1 * 2 ^ (w - 1) ≤ u % 2 ^ w from by omega)
          omega
        rw [this, if_pos rfl, hsh, if_neg d, if_neg d]

theorem rwiden_none (u w : Int) (h : w < 1 ∨ w > 64) (s : Bool) (k : Nat) (hk : 1 ≤ k) : bollardref1_Widen.f k u w s = some 0 := by
  obtain ⟨K, rfl⟩ : ∃ K, k = K + 1 := ⟨k - 1, by omega⟩
  unfold bollardref1_Widen.f
  have e : bollardref1_Widen.j0 (K + 1) u w s true = some 0 := by
    simp only [bollardref1_Widen.j0]
    rw [if_pos (by trivial)]
  by_cases c : w < 1
  · rw [if_pos c]; exact e
  · rw [if_neg c, decide_eq_true (by omega)]; exact e

theorem rnarrow_f {v : Int} (hv : -9223372036854775808 ≤ v ∧ v ≤ 9223372036854775807) (w : Nat) (h1 : 1 ≤ w) (h2 : w ≤ 64) (s : Bool) (k : Nat) (hk : 3 ≤ k) : bollardref1_Narrow.f k v (w : Int) s = some (narrow v w s) := by
  obtain ⟨K, rfl⟩ : ∃ K, k = K + 1 + 1 + 1 := ⟨k - 3, by omega⟩
  have hq := pow_pos' w
  have hl : (2 : Int) ^ w ≤ 18446744073709551616 := pow_le h2
  have hh := pow_split (show (w - 1) + 1 = w from by omega)
  have hW2 : (2 : Int) ^ w = 2 ^ (w - 1) * 2 := by rw [← hh]; rfl
  have hr := pow_pos' (w - 1)
  -- the number itself
  have j1t : (s = true → -(2 ^ (w - 1)) ≤ v ∧ v < 2 ^ (w - 1) ∧ IntKind.u64.wrap v = v % 2 ^ w) → (s = false → 0 ≤ v ∧ v < 2 ^ w) → bollardref1_Narrow.j1 (K + 1 + 1) v (w : Int) s true = some (narrow v w s) := by
    intro a b
    simp only [bollardref1_Narrow.j1]
    rw [if_pos (by trivial)]
    unfold narrow
    cases s with
    | true =>
      obtain ⟨a1, a2, a3⟩ := a rfl
      rw [if_pos rfl, if_pos ⟨a1, a2⟩, a3]
    | false =>
      obtain ⟨b1, b2⟩ := b rfl
      rw [if_neg (by simp), if_pos ⟨b1, b2⟩, u64_id b1 (by omega)]
  have j2 : ∀ b : Bool, w < 64 → s = true → (b = true ↔ ¬ (-(2 ^ (w - 1)) ≤ v ∧ v < 2 ^ (w - 1))) → bollardref1_Narrow.j2 (K + 1) v (w : Int) b = some (narrow v w s) := by
    intro b hw hs hb
    subst hs
    simp only [bollardref1_Narrow.j2]
    unfold narrow
    rw [if_pos (show true = true from rfl)]
    by_cases c : b = true
    · rw [if_pos c, if_neg (hb.1 c)]
    · have d : -(2 ^ (w - 1)) ≤ v ∧ v < 2 ^ (w - 1) := by
        rcases Classical.em (-(2 ^ (w - 1)) ≤ v ∧ v < 2 ^ (w - 1)) with q | q
        · exact q
        · exact absurd (hb.2 q) c
      rw [if_neg c, if_pos d, if_pos (by omega), ushl_one w hw, u64_id (x := 2 ^ w - 1) (by omega) (by omega), IntKind.wrap_u64, and_mask w (by omega) h2, mod_mod w h2]
  have j1f : w < 64 → ¬ (s = false ∧ w = 63) → (s = false → 0 ≤ v) → bollardref1_Narrow.j1 (K + 1 + 1) v (w : Int) s false = some (narrow v w s) := by
    intro hw h63 h0
    simp only [bollardref1_Narrow.j1]
    rw [if_neg (by simp)]
    by_cases c : s = true
    · rw [if_pos c, pred_cast w h1, w64 (by omega) (by omega), if_pos (by omega), if_pos (by omega)]
      rw [shl_one (w - 1) (by omega)]
      have hp62 : (2 : Int) ^ (w - 1) ≤ 2 ^ 62 := pow_le (by omega)
      rw [w64 (by omega) (by omega), w64 (by omega) (by omega)]
      by_cases d : v < -(2 ^ (w - 1))
      · rw [if_pos d]
        exact j2 true hw c (by simp; omega)
      · rw [if_neg d]
        exact j2 _ hw c (by simp; omega)
    · have hs : s = false := by simpa using c
      have hw2 : w < 63 := by
        rcases Nat.lt_or_ge w 63 with q | q
        · exact q
        · exact absurd ⟨hs, by omega⟩ h63
      rw [if_neg c, if_pos (by omega), shl_one w hw2]
      have hp62 : (2 : Int) ^ w ≤ 2 ^ 62 := pow_le (by omega)
      rw [w64 (by omega) (by omega)]
      unfold narrow
      rw [if_neg c]
      have h0 := h0 hs
      by_cases d : v > 2 ^ w - 1
      · rw [if_pos d, if_neg (by omega)]
      · rw [if_neg d, if_pos (by omega), u64_id h0 (by omega)]
  have j0f : (s = false → 0 ≤ v) → bollardref1_Narrow.j0 (K + 1 + 1 + 1) v (w : Int) s false = some (narrow v w s) := by
    intro h0
    simp only [bollardref1_Narrow.j0]
    rw [if_neg (by simp)]
    by_cases c : (w : Int) = 64
    · rw [if_pos c]
      obtain rfl : w = 64 := by omega
      refine j1t (fun _ => ⟨by simp; omega, by simp; omega, IntKind.wrap_u64 v⟩) (fun hs => ⟨h0 hs, by simp; omega⟩)
    · rw [if_neg c]
      by_cases cs : s = true
      · rw [if_pos cs]
        exact j1f (by omega) (by simp [cs]) h0
      · have hs : s = false := by simpa using cs
        rw [if_neg cs]
        by_cases c63 : (w : Int) = 63
        · obtain rfl : w = 63 := by omega
          rw [show (((63 : Nat) : Int) == 63) = true from rfl]
          exact j1t (fun h => absurd h cs) (fun hs => ⟨h0 hs, by simp; omega⟩)
        · rw [show ((w : Int) == 63) = false from by simpa using c63]
          exact j1f (by omega) (by omega) h0
  unfold bollardref1_Narrow.f
  rw [if_neg (by omega), if_neg (by omega)]
  by_cases c : s = true
  · rw [if_pos c]
    exact j0f (by simp [c])
  · have hs : s = false := by simpa using c
    rw [if_neg c]
    by_cases d : v < 0
    · rw [decide_eq_true d]
      simp only [bollardref1_Narrow.j0]
      rw [if_pos (by trivial)]
      unfold narrow
      rw [if_neg c, if_neg (by omega)]
    · rw [decide_eq_false d]
      exact j0f (by omega)

theorem rnarrow_none (v w : Int) (h : w < 1 ∨ w > 64) (s : Bool) (k : Nat) (hk : 1 ≤ k) : bollardref1_Narrow.f k v w s = some (0, false) := by
  obtain ⟨K, rfl⟩ : ∃ K, k = K + 1 := ⟨k - 1, by omega⟩
  unfold bollardref1_Narrow.f
  have e : bollardref1_Narrow.j0 (K + 1) v w s true = some (0, false) := by
    simp only [bollardref1_Narrow.j0]
    rw [if_pos (by trivial)]
  by_cases c : w < 1
  · rw [if_pos c]; exact e
  · rw [if_neg c, if_pos (by omega)]; exact e

theorem BitsNarrow : bollardlaw1_BitsNarrow.Pure := by
  intro v u w s hv hu hw
  have hv := wfi hv
  have hu := wf64 hu
  refine ⟨60, ?_⟩
  unfold bollardlaw1_BitsNarrow.f
  rw [awake_f 60 (Nat.le_refl _)]
  by_cases c : w < 1 ∨ w > 64
  · rw [narrow_none v w c s 60 (by omega), rnarrow_none v w c s 60 (by omega), widen_none u w c s 60 (by omega), rwiden_none u w c s 60 (by omega)]
    simp
  · obtain ⟨n, rfl⟩ := Int.eq_ofNat_of_zero_le (show 0 ≤ w from by omega)
    rw [narrow_f hv n (by omega) (by omega) s 60 (by omega), rnarrow_f hv n (by omega) (by omega) s 60 (by omega), widen_f hu n (by omega) (by omega) s 60 (by omega), rwiden_f hu n (by omega) (by omega) s 60 (by omega)]
    simp

end Go.Proofs.Ytlpbgknpgogaaaa.Pure
