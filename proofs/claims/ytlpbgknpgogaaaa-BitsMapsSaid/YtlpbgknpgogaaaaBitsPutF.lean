/- What the program's Get and Put come to, as printed. -/
import Derived.Test.YtlpbgknpgogaaaaPBnx1
import Derived.Test.YtlpbgknpgogaaaaPBnx3
import Derived.Test.YtlpbgknpgogaaaaBitsPut
namespace Go.Proofs.Ytlpbgknpgogaaaa.Bp
open Go Go.RowKit Go.Proofs.Ytlpbgknpgogaaaa.PBn Go.Proofs.YtlpbgknpgogaaaaW.PrintWords Go.Proofs.YtlpbgknpgogaaaaW.PrintLast Go.Proofs.YtlpbgknpgogaaaaW.PrintMore
set_option linter.unusedVariables false
set_option linter.unusedSimpArgs false

theorem may_f (l : List Int) (a n : Int) (hl : l.length ≤ 4000000000000000000) : bits_may.f l a n = some (decide (1 ≤ n ∧ n ≤ 8 ∧ 0 ≤ a ∧ a ≤ (l.length : Int) - n)) := by
  unfold bits_may.f
  by_cases c1 : n ≥ 1
  · rw [if_pos c1]
    by_cases c2 : n ≤ 8
    · rw [if_pos c2]
      by_cases c3 : a ≥ 0
      · rw [if_pos c3, w64 (by omega) (by omega)]
        congr 1
        rw [Bool.eq_iff_iff]
        simp
        omega
      · rw [if_neg c3]
        simp
        omega
    · rw [if_neg c2]
      simp
      omega
  · rw [if_neg c1]
    simp
    omega

/-- The bytes in the order in which they are read. -/
def inOrder (l : List Int) (a n : Nat) (big : Bool) : List Int := if big = true then (l.drop a).take n else ((l.drop a).take n).reverse
theorem inOrder_length (l : List Int) (a n : Nat) (big : Bool) (h : a + n ≤ l.length) : (inOrder l a n big).length = n := by
  unfold inOrder; split <;> simp <;> omega
theorem inOrder_bytes {l : List Int} (hb : Bytes l) (a n : Nat) (big : Bool) : Bytes (inOrder l a n big) := by
  unfold inOrder
  split
  · exact seg_bytes hb a n
  · exact rev_bytes (seg_bytes hb a n)
theorem inOrder_get (l : List Int) (a n : Nat) (big : Bool) (h : a + n ≤ l.length) (i : Nat) (hi : i < n) : (inOrder l a n big)[i]? = some (rd l ((a + (if big = true then i else n - 1 - i) : Nat) : Int)) := by
  unfold inOrder
  cases big with
  | true =>
    rw [if_pos rfl, if_pos rfl, List.getElem?_take_of_lt hi, List.getElem?_drop, rd_at (by omega), List.getElem?_eq_getElem (by omega)]
  | false =>
    rw [if_neg (by simp), if_neg (by simp), List.getElem?_reverse (by simp; omega)]
    have : ((l.drop a).take n).length = n := by simp; omega
    rw [this, List.getElem?_take_of_lt (by omega), List.getElem?_drop, rd_at (by omega), List.getElem?_eq_getElem (by omega)]
theorem take_step {l : List Int} {i : Nat} {x : Int} (h : l[i]? = some x) : l.take (i + 1) = l.take i ++ [x] := by
  rw [List.take_add_one, h]
  rfl

theorem get_l0 (l : List Int) (hb : Bytes l) (hl : l.length ≤ 4000000000000000000) (a n : Nat) (big : Bool) (h : a + n ≤ l.length) (h8 : n ≤ 8) (m : Nat) : ∀ (k i : Nat), i + m = n → m + 1 ≤ k →
    bits_Get.l0 k l (a : Int) (n : Int) big (be ((inOrder l a n big).take i)) (n : Int) (i : Int) = some (get l a n big, true) := by
  induction m with
  | zero =>
    intro k i hi hk
    obtain ⟨K, rfl⟩ : ∃ K, k = K + 1 := ⟨k - 1, by omega⟩
    simp only [bits_Get.l0]
    rw [if_neg (by omega), List.take_of_length_le (by rw [inOrder_length l a n big h]; omega)]
    rfl
  | succ m ih =>
    intro k i hi hk
    obtain ⟨K, rfl⟩ : ∃ K, k = K + 1 := ⟨k - 1, by omega⟩
    simp only [bits_Get.l0]
    have g := inOrder_get l a n big h i (by omega)
    have hr := be_range ((inOrder l a n big).take i) (fun x hx => inOrder_bytes hb a n big x (List.mem_of_mem_take hx))
    have hlt : ((inOrder l a n big).take i).length ≤ 7 := by rw [List.length_take, inOrder_length l a n big h]; omega
    have hp := pow256_le hlt
    have hp7 : (256 : Int) ^ 7 = 72057594037927936 := by decide
    have step : ∀ x, x = rd l ((a + (if big = true then i else n - 1 - i) : Nat) : Int) → Go.bits .or .u64 (IntKind.u64.wrap (be ((inOrder l a n big).take i) * 256)) (IntKind.u64.wrap x) = be ((inOrder l a n big).take (i + 1)) := by
      intro x hx
      have hxb := rd_byte hb ((a + (if big = true then i else n - 1 - i) : Nat) : Int)
      rw [← hx] at hxb
      rw [u64_id (by omega) (by omega), u64_id (by omega) (by omega), u64_shl_or (by omega) hxb (by omega), take_step g, be_snoc, hx]
    rw [if_pos (by omega)]
    cases big with
    | true =>
      rw [if_pos (by trivial), w64 (by omega) (by omega), if_pos (by omega), if_pos (by omega), step _ (by simp), up64 i (by omega)]
      exact ih K (i + 1) (by omega) (by omega)
    | false =>
      rw [if_neg (by simp), w64 (x := (n : Int) - 1) (by omega) (by omega), w64 (x := (n : Int) - 1 - (i : Int)) (by omega) (by omega), w64 (by omega) (by omega), if_pos (by omega), if_pos (by omega), step _ (by rw [if_neg (by simp)]; congr 1; omega), up64 i (by omega)]
      exact ih K (i + 1) (by omega) (by omega)

theorem get_f (l : List Int) (hb : Bytes l) (hl : l.length ≤ 4000000000000000000) (a n : Nat) (big : Bool) (h1 : 1 ≤ n) (h8 : n ≤ 8) (h : a + n ≤ l.length) (k : Nat) (hk : 9 ≤ k) : bits_Get.f k l (a : Int) (n : Int) big = some (get l a n big, true) := by
  unfold bits_Get.f
  rw [may_f l _ _ hl, decide_eq_true (by omega)]
  simp only [Option.bind_some]
  rw [if_pos (by trivial)]
  exact get_l0 l hb hl a n big h h8 n k 0 (by omega) (by omega)
theorem get_none (l : List Int) (hl : l.length ≤ 4000000000000000000) (a n : Int) (big : Bool) (h : ¬ (1 ≤ n ∧ n ≤ 8 ∧ 0 ≤ a ∧ a ≤ (l.length : Int) - n)) (k : Nat) : bits_Get.f k l a n big = some (0, false) := by
  unfold bits_Get.f
  rw [may_f l _ _ hl, decide_eq_false h]
  rfl

theorem clone_f (l : List Int) (hl : l.length ≤ 140737488351232) : slices_Clone_byte_byte.f l = some l := by
  unfold slices_Clone_byte_byte.f
  simp only [Option.bind_some, List.nil_append, List.length_nil, Nat.zero_add]
  rw [if_pos (by omega)]

theorem put_l0 (l : List Int) (hl : l.length ≤ 140737488351232) (a n v : Nat) (big : Bool) (h : a + n ≤ l.length) (h8 : n ≤ 8) (m : Nat) : ∀ (k i : Nat) (c : List Int), i + m = n → m + 1 ≤ k →
    (∀ p, c[p]? = if (if big = true then a + n ≤ p + i else a ≤ p) ∧ (if big = true then p < a + n else p < a + i) then some (dg v (wh n big (p - a))) else l[p]?) → c.length = l.length →
    bits_Put.l0 k (a : Int) (n : Int) big (v : Int) c (n : Int) (i : Int) = some (lay l a n (fun p => dg v (wh n big p)), true) := by
  induction m with
  | zero =>
    intro k i c hi hk hc hcl
    obtain ⟨K, rfl⟩ : ∃ K, k = K + 1 := ⟨k - 1, by omega⟩
    simp only [bits_Put.l0]
    rw [if_neg (by omega)]
    congr 2
    refine lay_eq h (fun p => ?_)
    rw [hc p]
    have e : ((if big = true then a + n ≤ p + i else a ≤ p) ∧ (if big = true then p < a + n else p < a + i)) ↔ (a ≤ p ∧ p < a + n) := by
      cases big with
      | true => simp only [if_true]; omega
      | false => simp only [Bool.false_eq_true, if_false]; omega
    simp only [e]
  | succ m ih =>
    intro k i c hi hk hc hcl
    obtain ⟨K, rfl⟩ : ∃ K, k = K + 1 := ⟨k - 1, by omega⟩
    simp only [bits_Put.l0]
    rw [if_pos (by omega), w64 (x := 8 * (i : Int)) (by omega) (by omega), dg_shr v i (by omega), up64 i (by omega)]
    have go : ∀ q : Nat, q = a + (if big = true then n - 1 - i else i) → ∀ p, (c.set q (dg v i))[p]? = if (if big = true then a + n ≤ p + (i + 1) else a ≤ p) ∧ (if big = true then p < a + n else p < a + (i + 1)) then some (dg v (wh n big (p - a))) else l[p]? := by
      intro q hq p
      rw [List.getElem?_set]
      by_cases e : q = p
      · subst e
        rw [if_pos rfl, if_pos (by rw [hcl]; cases big <;> simp at hq <;> omega)]
        cases big with
        | true =>
          simp only [if_true] at hq ⊢
          rw [if_pos (by omega)]
          unfold wh
          rw [if_pos rfl, show n - 1 - (q - a) = i from by omega]
        | false =>
          simp only [Bool.false_eq_true, if_false] at hq ⊢
          rw [if_pos (by omega)]
          unfold wh
          rw [if_neg (by simp), show q - a = i from by omega]
      · rw [if_neg e, hc p]
        cases big with
        | true =>
          simp only [if_true] at hq ⊢
          by_cases d : a + n ≤ p + i ∧ p < a + n
          · rw [if_pos d, if_pos (by omega)]
          · rw [if_neg d, if_neg (by omega)]
        | false =>
          simp only [Bool.false_eq_true, if_false] at hq ⊢
          by_cases d : a ≤ p ∧ p < a + i
          · rw [if_pos d, if_pos (by omega)]
          · rw [if_neg d, if_neg (by omega)]
    cases big with
    | true =>
      rw [if_pos (by trivial), if_pos (by omega), w64 (x := (n : Int) - 1) (by omega) (by omega), w64 (x := (n : Int) - 1 - (i : Int)) (by omega) (by omega), w64 (by omega) (by omega), if_pos (by omega), if_pos (by omega)]
      refine ih K (i + 1) _ (by omega) (by omega) (go _ ?_) (by rw [List.length_set]; exact hcl)
      rw [if_pos rfl]; omega
    | false =>
      rw [if_neg (by simp), if_pos (by omega), w64 (by omega) (by omega), if_pos (by omega), if_pos (by omega)]
      refine ih K (i + 1) _ (by omega) (by omega) (go _ ?_) (by rw [List.length_set]; exact hcl)
      rw [if_neg (by simp)]; omega

theorem put_f (l : List Int) (hl : l.length ≤ 140737488351232) (a n v : Nat) (big : Bool) (h1 : 1 ≤ n) (h8 : n ≤ 8) (h : a + n ≤ l.length) (k : Nat) (hk : 9 ≤ k) : bits_Put.f k l (a : Int) (n : Int) big (v : Int) = some (lay l a n (fun p => dg v (wh n big p)), true) := by
  unfold bits_Put.f
  rw [may_f l _ _ (by omega), decide_eq_true (by omega), clone_f l hl]
  simp only [Option.bind_some]
  rw [if_pos (by trivial)]
  refine put_l0 l hl a n v big h h8 n k 0 l (by omega) (by omega) (fun p => ?_) rfl
  rw [if_neg]
  cases big with
  | true => simp only [if_true]; omega
  | false => simp only [Bool.false_eq_true, if_false]; omega
theorem put_none (l : List Int) (hl : l.length ≤ 4000000000000000000) (a n v : Int) (big : Bool) (h : ¬ (1 ≤ n ∧ n ≤ 8 ∧ 0 ≤ a ∧ a ≤ (l.length : Int) - n)) (k : Nat) : bits_Put.f k l a n big v = some ([], false) := by
  unfold bits_Put.f
  rw [may_f l _ _ hl, decide_eq_false h]
  rfl

end Go.Proofs.Ytlpbgknpgogaaaa.Bp
