/- What the document's maps of bits come to: the same. -/
import Derived.Test.YtlpbgknpgogaaaaPBnx4
import Derived.Test.YtlpbgknpgogaaaaPBnx5
import Derived.Test.YtlpbgknpgogaaaaBitsMap
namespace Go.Proofs.Ytlpbgknpgogaaaa.Bp
open Go Go.RowKit Go.Proofs.Ytlpbgknpgogaaaa.PBn Go.Proofs.YtlpbgknpgogaaaaW.PrintWords Go.Proofs.YtlpbgknpgogaaaaW.PrintLast Go.Proofs.YtlpbgknpgogaaaaW.PrintMore
set_option linter.unusedVariables false
set_option linter.unusedSimpArgs false

theorem td8 (k : Nat) (h : k ≤ 9223372036854775807) : wrap64 (Int.tdiv (k : Int) 8) = ((k / 8 : Nat) : Int) := by
  rw [Int.tdiv_eq_ediv_of_nonneg (by omega)]
  unfold wrap64
  omega
theorem tm8 (k : Nat) : Int.tmod (k : Int) 8 = ((k % 8 : Nat) : Int) := by
  rw [Int.tmod_eq_emod_of_nonneg (by omega)]
  omega
theorem rtest_f (l : List Int) (hb : Bytes l) (k : Nat) (hk : k ≤ 9223372036854775807) : bollardref1_Test.f l (k : Int) = some (tb l k) := by
  unfold bollardref1_Test.f
  rw [if_pos (by omega), td8 k hk, tm8]
  by_cases c : k / 8 < l.length
  · rw [if_pos (by omega), if_pos (by omega), if_pos (by omega), shr8 (rd_byte hb _) (k % 8) (by omega)]
    unfold tb
    cases bitOf (rd l ((k / 8 : Nat) : Int)) (k % 8) <;> rfl
  · rw [if_neg (by omega), tb_out l k (by omega)]
theorem rtest_neg (l : List Int) (k : Int) (h : k < 0) : bollardref1_Test.f l k = some false := by
  unfold bollardref1_Test.f
  rw [if_neg (by omega)]
theorem rset_f (l : List Int) (hl : l.length ≤ 140737488351232) (a : Nat) (ha : a ≤ 9223372036854775807) (on : Bool) (k : Nat) (hk : 1 ≤ k) : bollardref1_Set.f k l (a : Int) on = some (setb l a on) := by
  obtain ⟨K, rfl⟩ : ∃ K, k = K + 1 := ⟨k - 1, by omega⟩
  unfold bollardref1_Set.f
  rw [if_pos (by simp only [List.length_nil]; omega), Option.bind_some, List.nil_append, if_neg (by omega), td8 a ha]
  by_cases c : l.length ≤ a / 8
  · rw [decide_eq_true (show ((a / 8 : Nat) : Int) ≥ (l.length : Int) by omega)]
    simp only [bollardref1_Set.j0]
    rw [if_pos (by trivial), setb_out l a on c]
  · rw [decide_eq_false (show ¬ ((a / 8 : Nat) : Int) ≥ (l.length : Int) by omega)]
    simp only [bollardref1_Set.j0]
    rw [if_neg (by simp), tm8, td8 a ha, if_pos (by omega)]
    unfold setb setByte
    cases on with
    | true => rw [if_pos (by trivial), if_pos (by omega), if_pos (by omega), if_pos rfl, Int.toNat_natCast]
    | false => rw [if_neg (by simp), if_pos (by omega), if_pos (by omega), if_neg (by simp), Int.toNat_natCast]
theorem rset_neg (l : List Int) (hl : l.length ≤ 140737488351232) (a : Int) (ha : a < 0) (on : Bool) (k : Nat) (hk : 1 ≤ k) : bollardref1_Set.f k l a on = some l := by
  obtain ⟨K, rfl⟩ : ∃ K, k = K + 1 := ⟨k - 1, by omega⟩
  unfold bollardref1_Set.f
  rw [if_pos (by simp only [List.length_nil]; omega), Option.bind_some, List.nil_append, if_pos ha]
  simp only [bollardref1_Set.j0]
  rw [if_pos (by trivial)]
theorem rfirst_l0 (l : List Int) (hb : Bytes l) (hl : l.length ≤ 140737488351232) (n : Int) (m : Nat) : ∀ (k i : Nat), i + m = 8 * l.length → 2 * m + 2 ≤ k → (∀ j, j < i → tb l j = true) →
    ∃ r, bollardref1_First.l0 k l n (i : Int) = some r ∧ IsFirst l n r := by
  induction m with
  | zero =>
    intro k i hi hk hj
    obtain ⟨K, rfl⟩ : ∃ K, k = K + 1 + 1 := ⟨k - 2, by omega⟩
    refine ⟨-1, ?_, .inl ⟨rfl, fun j _ h => hj j (by omega)⟩⟩
    rw [bollardref1_First.l0, td8 i (by omega), decide_eq_false (by omega)]
    by_cases c : (i : Int) < n
    · rw [if_pos c, bollardref1_First.j1, if_neg (by simp)]
    · rw [if_neg c, bollardref1_First.j1, if_neg (by simp)]
  | succ m ih =>
    intro k i hi hk hj
    obtain ⟨K, rfl⟩ : ∃ K, k = K + 1 + 1 := ⟨k - 2, by omega⟩
    rw [bollardref1_First.l0, td8 i (by omega), decide_eq_true (by omega)]
    by_cases c : (i : Int) < n
    · rw [if_pos c, bollardref1_First.j1, if_pos rfl, rtest_f l hb i (by omega), Option.bind_some]
      by_cases d : tb l i = true
      · rw [if_pos d, show wrap64 ((i : Int) + 1) = ((i + 1 : Nat) : Int) from by unfold wrap64; omega]
        exact ih K (i + 1) (by omega) (by omega) (fun j h => by
          by_cases e : j = i
          · subst e; exact d
          · exact hj j (by omega))
      · rw [if_neg d]
        exact ⟨_, rfl, .inr ⟨i, rfl, c, by omega, by simpa using d, hj⟩⟩
    · rw [if_neg c, bollardref1_First.j1, if_neg (by simp)]
      exact ⟨-1, rfl, .inl ⟨rfl, fun j h _ => hj j (by omega)⟩⟩
theorem rfirst_f (l : List Int) (hb : Bytes l) (hl : l.length ≤ 140737488351232) (n : Int) (k : Nat) (hk : 20 * l.length + 2 ≤ k) : ∃ r, bollardref1_First.f k l n = some r ∧ IsFirst l n r :=
  rfirst_l0 l hb hl n (8 * l.length) k 0 (by omega) (by omega) (fun j h => by omega)
theorem rcount_l0 (l : List Int) (hb : Bytes l) (hl : l.length ≤ 140737488351232) (n : Int) (m : Nat) : ∀ (k i : Nat), i + m = 8 * l.length → 2 * m + 2 ≤ k →
    bollardref1_Count.l0 k l n ((cn l (upto l n i) : Nat) : Int) (i : Int) = some ((cn l (upto l n (8 * l.length)) : Nat) : Int) := by
  induction m with
  | zero =>
    intro k i hi hk
    obtain ⟨K, rfl⟩ : ∃ K, k = K + 1 + 1 := ⟨k - 2, by omega⟩
    obtain rfl : i = 8 * l.length := by omega
    rw [bollardref1_Count.l0, td8 _ (by omega), decide_eq_false (by omega)]
    by_cases c : ((8 * l.length : Nat) : Int) < n
    · rw [if_pos c, bollardref1_Count.j1, if_neg (by simp)]
    · rw [if_neg c, bollardref1_Count.j1, if_neg (by simp)]
  | succ m ih =>
    intro k i hi hk
    obtain ⟨K, rfl⟩ : ∃ K, k = K + 1 + 1 := ⟨k - 2, by omega⟩
    have hcl := cn_le l (upto l n i)
    have hui : upto l n i ≤ i := by unfold upto; omega
    rw [bollardref1_Count.l0, td8 i (by omega), decide_eq_true (by omega)]
    by_cases c : (i : Int) < n
    · have hu : upto l n i = i := by unfold upto; omega
      have hu1 : upto l n (i + 1) = i + 1 := by unfold upto; omega
      have ihd := ih K (i + 1) (by omega) (by omega)
      rw [hu1, cn] at ihd
      rw [if_pos c, bollardref1_Count.j1, if_pos rfl, rtest_f l hb i (by omega), Option.bind_some, show wrap64 ((i : Int) + 1) = ((i + 1 : Nat) : Int) from by unfold wrap64; omega, hu]
      by_cases d : tb l i = true
      · rw [if_pos d, show wrap64 (((cn l i : Nat) : Int) + 1) = ((cn l i + 1 : Nat) : Int) from by rw [hu] at hcl; unfold wrap64; omega]
        rw [if_pos d] at ihd
        exact ihd
      · rw [if_neg d]
        rw [if_neg d] at ihd
        exact ihd
    · rw [if_neg c, bollardref1_Count.j1, if_neg (by simp), show upto l n (8 * l.length) = upto l n i from by unfold upto; omega]
theorem rcount_f (l : List Int) (hb : Bytes l) (hl : l.length ≤ 140737488351232) (n : Int) (k : Nat) (hk : 20 * l.length + 2 ≤ k) : bollardref1_Count.f k l n = some ((cn l (upto l n (8 * l.length)) : Nat) : Int) := by
  have := rcount_l0 l hb hl n (8 * l.length) k 0 (by omega) (by omega)
  rw [show upto l n 0 = 0 from by unfold upto; omega] at this
  exact this
end Go.Proofs.Ytlpbgknpgogaaaa.Bp
