/- What is laid is read; a number's groups lead back to it; what is narrowed is widened: of any bytes, places, numbers and widths. No condition. -/
import Derived.Test.YtlpbgknpgogaaaaPBitsx9
import Derived.Test.YtlpbgknpgogaaaaBitsPutF
import Derived.Test.YtlpbgknpgogaaaaBitsVar
import Derived.Test.YtlpbgknpgogaaaaBitsZig
import Derived.Test.YtlpbgknpgogaaaaBitsNar
import Derived.Test.YtlpbgknpgogaaaaBitsAwake
namespace Go.Proofs.Ytlpbgknpgogaaaa.Pure
open Go Go.RowKit Go.Proofs.Ytlpbgknpgogaaaa.PBits Go.Proofs.YtlpbgknpgogaaaaW.PrintWords Go.Proofs.YtlpbgknpgogaaaaW.PrintLast Go.Proofs.YtlpbgknpgogaaaaW.PrintMore Go.Proofs.Ytlpbgknpgogaaaa.Bp
set_option linter.unusedVariables false
set_option linter.unusedSimpArgs false

theorem back_wide {n : Int} (hn : -9223372036854775808 ≤ n ∧ n ≤ 9223372036854775807) (w : Nat) (h1 : 1 ≤ w) (h2 : w ≤ 64) (s : Bool) (hf : (narrow n w s).2 = true) (k : Nat) (hk : 1 ≤ k) : bits_Widen.f k (narrow n w s).1 (w : Int) s = some n := by
  have hq := pow_pos' w
  have hl : (2 : Int) ^ w ≤ 18446744073709551616 := pow_le h2
  have m0 := Int.emod_nonneg n (show (2 : Int) ^ w ≠ 0 from by omega)
  have m1 := Int.emod_lt_of_pos n hq
  unfold narrow at hf ⊢
  cases s with
  | true =>
    rw [if_pos rfl] at hf ⊢
    by_cases c : -(2 ^ (w - 1)) ≤ n ∧ n < 2 ^ (w - 1)
    · rw [if_pos c]
      rw [widen_f (by simp only; omega) w h1 h2 true k hk]
      exact congrArg some ((wide_signed n w h1).2 c)
    · rw [if_neg c] at hf
      simp at hf
  | false =>
    rw [if_neg (by simp)] at hf ⊢
    by_cases c : 0 ≤ n ∧ n < 2 ^ w
    · rw [if_pos c, widen_f (by simp only; omega) w h1 h2 false k hk]
      have := (wide_plain (v := n) w h2 (by omega)).2 c.2
      rw [Int.emod_eq_of_lt c.1 c.2] at this
      exact congrArg some this
    · rw [if_neg c] at hf
      simp at hf

theorem back_j0 (v : Nat) (hv : v < 18446744073709551616) (n w : Int) (hn : -9223372036854775808 ≤ n ∧ n ≤ 9223372036854775807) (s : Bool) (k : Nat) (hk : 70 ≤ k) : bollardlaw1_BitsBack.j0 k (v : Int) n w s = some true := by
  obtain ⟨K, rfl⟩ : ∃ K, k = K + 1 := ⟨k - 1, by omega⟩
  have hlen := vr_len 9 v (by omega)
  simp only [bollardlaw1_BitsBack.j0]
  rw [varint_f v hv K (by omega)]
  simp only [Option.bind_some]
  rw [if_pos (by omega), unvarint_f _ (by simp; omega) K (by simp; omega), unv_varint v hv, zig_f hn, awake_f K (by omega)]
  simp only [Option.bind_some]
  rw [zag_f (zig_range hn), zag_zig]
  simp only [Option.bind_some, if_true]
  by_cases c : w < 1 ∨ w > 64
  · rw [narrow_none n w c s K (by omega)]
    simp
  · obtain ⟨m, rfl⟩ := Int.eq_ofNat_of_zero_le (show 0 ≤ w from by omega)
    rw [narrow_f hn m (by omega) (by omega) s K (by omega)]
    simp only [Option.bind_some]
    by_cases f : (narrow n m s).2 = true
    · rw [if_pos f, back_wide hn m (by omega) (by omega) s f K (by omega)]
      simp
    · rw [if_neg f]

theorem BitsBack : bollardlaw1_BitsBack.Pure := by
  intro l a1 a2 big a4 n w s _ hl hb h1 h2 h4 h5 h6
  have b := bytes_of hb
  have r1 := wfi h1
  have r2 := wfi h2
  have r4 := wf64 h4
  have r5 := wfi h5
  obtain ⟨v, rfl⟩ := Int.eq_ofNat_of_zero_le r4.1
  refine ⟨80, ?_⟩
  unfold bollardlaw1_BitsBack.f
  by_cases c0 : (l.length : Int) > 2000
  · rw [if_pos c0, awake_f 80 (by omega)]
    rfl
  rw [if_neg c0]
  have j := back_j0 v (by omega) n w r5 s 80 (by omega)
  by_cases c : 1 ≤ a2 ∧ a2 ≤ 8 ∧ 0 ≤ a1 ∧ a1 ≤ (l.length : Int) - a2
  · obtain ⟨c1, c2, c3, c4⟩ := c
    obtain ⟨a, rfl⟩ := Int.eq_ofNat_of_zero_le c3
    obtain ⟨m, rfl⟩ := Int.eq_ofNat_of_zero_le (show 0 ≤ a2 from by omega)
    have hlay := lay_length l a m (fun p => dg v (wh m big p)) (by omega)
    rw [put_f l (by omega) a m v big (by omega) (by omega) (by omega) 80 (by omega)]
    simp only [Option.bind_some]
    rw [if_pos (by trivial), get_f _ (lay_bytes l a m _ b (fun p => dg_byte _ _)) (by rw [hlay]; omega) a m big (by omega) (by omega) (by rw [hlay]; omega) 80 (by omega)]
    simp only [Option.bind_some]
    rw [get_lay l a m v big (by omega), hlay]
    by_cases d : (m : Int) < 8
    · rw [if_pos d, w64 (by omega) (by omega), if_pos (by omega), if_pos (by trivial)]
      have e1 : shl .u64 1 (8 * (m : Int)) = 2 ^ (8 * m) := by
        unfold shl
        simp only [IntKind.bits]
        rw [show min (8 * (m : Int)).toNat 64 = 8 * m from by omega, Int.one_mul]
        have hp := pow_pos' (8 * m)
        have : (2 : Int) ^ (8 * m) ≤ 2 ^ 56 := pow_le (by omega)
        exact u64_id (by omega) (by omega)
      have hp := pow_pos' (8 * m)
      have h56 : (2 : Int) ^ (8 * m) ≤ 2 ^ 56 := pow_le (by omega)
      have e2 : ((v % 256 ^ m : Nat) : Int) = (v : Int) % 2 ^ (8 * m) := by
        rw [Int.natCast_emod, Int.natCast_pow, Int.pow_mul]
        rfl
      rw [e1, u64_id (x := 2 ^ (8 * m) - 1) (by omega) (by omega), and_mask (8 * m) (by omega) (by omega), e2, if_pos (by trivial), if_pos (by trivial)]
      exact j
    · obtain rfl : m = 8 := by omega
      rw [if_neg d, if_pos (by trivial), if_pos (by rw [Nat.mod_eq_of_lt (by omega)]), if_pos (by trivial)]
      exact j
  · rw [put_none l (by omega) a1 a2 (v : Int) big c 80]
    simp only [Option.bind_some]
    rw [if_neg (by simp)]
    exact j

end Go.Proofs.Ytlpbgknpgogaaaa.Pure
