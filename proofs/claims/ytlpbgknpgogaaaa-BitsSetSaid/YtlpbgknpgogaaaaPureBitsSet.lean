/- Setting a bit changes that bit alone: of any bytes, any place, on or off. No condition. -/
import Derived.Test.YtlpbgknpgogaaaaPBitsx6
import Derived.Test.YtlpbgknpgogaaaaBitsMap
import Derived.Test.YtlpbgknpgogaaaaBitsAwake
namespace Go.Proofs.Ytlpbgknpgogaaaa.Pure
open Go Go.RowKit Go.Proofs.Ytlpbgknpgogaaaa.PBits Go.Proofs.YtlpbgknpgogaaaaW.PrintWords Go.Proofs.YtlpbgknpgogaaaaW.PrintLast Go.Proofs.YtlpbgknpgogaaaaW.PrintMore Go.Proofs.Ytlpbgknpgogaaaa.Bp
set_option linter.unusedVariables false
set_option linter.unusedSimpArgs false

theorem set_l0 (l c : List Int) (hb : Bytes l) (hc : Bytes c) (hl : l.length ≤ 100) (a : Int) (on : Bool) (h : ∀ j : Nat, j < 8 * l.length → tb c j = if (j : Int) = a then on else tb l j) (m : Nat) : ∀ (k i : Nat), i + m = 8 * l.length → m + 70 ≤ k →
    bollardlaw1_BitsSet.l0 k l a on c (i : Int) = some true := by
  induction m with
  | zero =>
    intro k i hi hk
    obtain ⟨K, rfl⟩ : ∃ K, k = K + 1 := ⟨k - 1, by omega⟩
    simp only [bollardlaw1_BitsSet.l0]
    rw [w64 (by omega) (by omega), if_neg (by omega), awake_f K (by omega)]
    rfl
  | succ m ih =>
    intro k i hi hk
    obtain ⟨K, rfl⟩ : ∃ K, k = K + 1 := ⟨k - 1, by omega⟩
    simp only [bollardlaw1_BitsSet.l0]
    have hj := h i (by omega)
    rw [w64 (by omega) (by omega), if_pos (by omega), test_f l hb i (by omega), test_f c hc i (by omega), up64 i (by omega)]
    simp only [Option.bind_some]
    have n := ih K (i + 1) (by omega) (by omega)
    by_cases e : (i : Int) = a
    · rw [if_pos e] at hj ⊢
      rw [if_neg (by rw [hj]; simp)]
      exact n
    · rw [if_neg e] at hj ⊢
      rw [if_neg (by rw [hj]; simp)]
      exact n

theorem BitsSet : bollardlaw1_BitsSet.Pure := by
  intro l a on _ hl hb ha
  have b := bytes_of hb
  have r := wfi ha
  refine ⟨8 * l.length + 70, ?_⟩
  unfold bollardlaw1_BitsSet.f
  by_cases c : (l.length : Int) > 100
  · rw [if_pos c, awake_f _ (by omega)]
    rfl
  rw [if_neg c]
  by_cases d : a < 0
  · rw [set_neg l (by omega) a d on _ (by omega)]
    simp only [Option.bind_some]
    rw [if_pos (by trivial)]
    exact set_l0 l l b b (by omega) a on (fun j hj => by rw [if_neg (by omega)]) (8 * l.length) _ 0 (by omega) (by omega)
  · obtain ⟨n, rfl⟩ := Int.eq_ofNat_of_zero_le (show 0 ≤ a from by omega)
    rw [set_f l (by omega) n (by omega) on _ (by omega)]
    simp only [Option.bind_some]
    rw [setb_length, if_pos (by trivial)]
    refine set_l0 l _ b (setb_bytes b n on) (by omega) (n : Int) on (fun j hj => ?_) (8 * l.length) _ 0 (by omega) (by omega)
    by_cases e : n / 8 < l.length
    · rw [tb_setb b n on e j]
      by_cases q : j = n
      · rw [if_pos q, if_pos (by omega)]
      · rw [if_neg q, if_neg (by omega)]
    · rw [setb_out l n on (by omega), if_neg (by omega)]

end Go.Proofs.Ytlpbgknpgogaaaa.Pure
