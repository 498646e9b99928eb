/- What the document's Put comes to, as printed. -/
import Derived.Test.YtlpbgknpgogaaaaPBnx3
import Derived.Test.YtlpbgknpgogaaaaRGet
import Derived.Test.YtlpbgknpgogaaaaBitsPut
namespace Go.Proofs.Ytlpbgknpgogaaaa.Bp
open Go Go.RowKit Go.Proofs.Ytlpbgknpgogaaaa.PBn Go.Proofs.YtlpbgknpgogaaaaW.PrintWords Go.Proofs.YtlpbgknpgogaaaaW.PrintLast Go.Proofs.YtlpbgknpgogaaaaW.PrintMore
set_option linter.unusedVariables false
set_option linter.unusedSimpArgs false

theorem rput_l0 (l : List Int) (hl : l.length ≤ 140737488351232) (a n v : Nat) (big : Bool) (h : a + n ≤ l.length) (h8 : n ≤ 8) (m : Nat) : ∀ (k i : Nat) (c : List Int), i + m = n → m + 1 ≤ k →
    (∀ p, c[p]? = if a ≤ p ∧ p < a + i then some (dg v (wh n big (p - a))) else l[p]?) → c.length = l.length →
    bollardref1_Put.l0 k (a : Int) (n : Int) big (v : Int) c (i : Int) = some (lay l a n (fun p => dg v (wh n big p)), true) := by
  induction m with
  | zero =>
    intro k i c hi hk hc hcl
    obtain ⟨K, rfl⟩ : ∃ K, k = K + 1 := ⟨k - 1, by omega⟩
    simp only [bollardref1_Put.l0]
    rw [if_neg (by omega)]
    congr 2
    refine lay_eq h (fun p => ?_)
    rw [hc p]
    obtain rfl : i = n := by omega
    rfl
  | succ m ih =>
    intro k i c hi hk hc hcl
    obtain ⟨K, rfl⟩ : ∃ K, k = K + 1 := ⟨k - 1, by omega⟩
    simp only [bollardref1_Put.l0]
    have go : ∀ p, (c.set (a + i) (dg v (wh n big i)))[p]? = if a ≤ p ∧ p < a + (i + 1) then some (dg v (wh n big (p - a))) else l[p]? := by
      intro p
      rw [List.getElem?_set]
      by_cases e : a + i = p
      · subst e
        rw [if_pos rfl, if_pos (by omega), if_pos (by omega), show a + i - a = i by omega]
      · rw [if_neg e, hc p]
        by_cases d : a ≤ p ∧ p < a + i
        · rw [if_pos d, if_pos (by omega)]
        · rw [if_neg d, if_neg (by omega)]
    rw [if_pos (by omega), w64 (x := (n : Int) - 1) (by omega) (by omega), w64 (x := (n : Int) - 1 - (i : Int)) (by omega) (by omega), w64 (x := 8 * ((n : Int) - 1 - (i : Int))) (by omega) (by omega), w64 (x := 8 * (i : Int)) (by omega) (by omega), w64 (x := (a : Int) + (i : Int)) (by omega) (by omega), show wrap64 ((i : Int) + 1) = ((i + 1 : Nat) : Int) from by unfold wrap64; omega]
    cases big with
    | true =>
      rw [if_pos rfl, if_pos (by omega), if_pos (by omega), if_pos (by omega), show (n : Int) - 1 - (i : Int) = ((n - 1 - i : Nat) : Int) by omega, dg_shr v _ (by omega), show ((a : Int) + (i : Int)).toNat = a + i by omega]
      have h2 := ih K (i + 1) _ (by omega) (by omega) go (by rw [List.length_set]; exact hcl)
      rw [show wh n true i = n - 1 - i from by unfold wh; rw [if_pos rfl]] at h2
      exact h2
    | false =>
      rw [if_neg (by simp), if_pos (by omega), if_pos (by omega), if_pos (by omega), dg_shr v _ (by omega), show ((a : Int) + (i : Int)).toNat = a + i by omega]
      have h2 := ih K (i + 1) _ (by omega) (by omega) go (by rw [List.length_set]; exact hcl)
      rw [show wh n false i = i from by unfold wh; rw [if_neg (by simp)]] at h2
      exact h2
theorem rput_f (l : List Int) (hb : Bytes l) (hl : l.length ≤ 140737488351232) (a n v : Nat) (big : Bool) (h1 : 1 ≤ n) (h8 : n ≤ 8) (h : a + n ≤ l.length) (k : Nat) (hk : 10 ≤ k) : bollardref1_Put.f k l (a : Int) (n : Int) big (v : Int) = some (lay l a n (fun p => dg v (wh n big p)), true) := by
  unfold bollardref1_Put.f
  rw [rget_f l hb (by omega) a n big h1 h8 h k hk, Option.bind_some]
  dsimp only
  rw [if_pos rfl, if_pos (by simp only [List.length_nil]; omega), List.nil_append]
  refine rput_l0 l hl a n v big h h8 n k 0 l (by omega) (by omega) (fun p => ?_) rfl
  rw [if_neg (by omega)]
theorem rput_none (l : List Int) (hl : l.length ≤ 4000000000000000000) (a n v : Int) (big : Bool) (h : ¬ (1 ≤ n ∧ n ≤ 8 ∧ 0 ≤ a ∧ a ≤ (l.length : Int) - n)) (k : Nat) (hk : 1 ≤ k) : bollardref1_Put.f k l a n big v = some ([], false) := by
  unfold bollardref1_Put.f
  rw [rget_none l hl a n big h k hk, Option.bind_some]
  dsimp only
  rw [if_neg (by simp)]
end Go.Proofs.Ytlpbgknpgogaaaa.Bp
