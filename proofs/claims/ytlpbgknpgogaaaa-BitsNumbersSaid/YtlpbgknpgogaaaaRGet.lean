/- What the document's Get comes to, as printed. -/
import Derived.Test.YtlpbgknpgogaaaaPBnx2
import Derived.Test.YtlpbgknpgogaaaaBitsPut
namespace Go.Proofs.Ytlpbgknpgogaaaa.Bp
open Go Go.RowKit Go.Proofs.Ytlpbgknpgogaaaa.PBn Go.Proofs.YtlpbgknpgogaaaaW.PrintWords Go.Proofs.YtlpbgknpgogaaaaW.PrintLast Go.Proofs.YtlpbgknpgogaaaaW.PrintMore
set_option linter.unusedVariables false
set_option linter.unusedSimpArgs false

theorem take_next {l : List Int} {i : Nat} {x : Int} (h : l[i]? = some x) : l.take (i + 1) = l.take i ++ [x] := by
  rw [List.take_add_one, h]
  rfl
/-- The bytes read so far. -/
def part (l : List Int) (a i : Nat) (big : Bool) : Int := be (if big = true then (l.drop a).take i else ((l.drop a).take i).reverse)
theorem part_range {l : List Int} (hb : Bytes l) (a i : Nat) (big : Bool) : 0 ≤ part l a i big ∧ part l a i big < 256 ^ i := by
  have h1 : ((l.drop a).take i).length ≤ i := by rw [List.length_take]; omega
  have := pow256_le h1
  unfold part
  split
  · have := be_range _ (seg_bytes hb a i); omega
  · have := be_range _ (rev_bytes (seg_bytes hb a i)); rw [List.length_reverse] at this; omega
theorem u64_or_high (v x : Int) (i : Nat) (h0 : 0 ≤ v) (hv : v < 256 ^ i) (hx : 0 ≤ x ∧ x < 256) (hi : i ≤ 7) : Go.bits .or .u64 v (shl .u64 x (8 * (i : Int))) = x * 256 ^ i + v := by
  obtain ⟨a, rfl⟩ := Int.eq_ofNat_of_zero_le h0
  obtain ⟨b, rfl⟩ := Int.eq_ofNat_of_zero_le hx.1
  have hp : (2 : Int) ^ (8 * i) = 256 ^ i := by rw [Int.pow_mul]; rfl
  have hpn : 2 ^ (8 * i) = 256 ^ i := by rw [Nat.pow_mul]
  have hc : ((256 : Int) ^ i) = ((256 ^ i : Nat) : Int) := by rw [Int.natCast_pow]; rfl
  have ha : a < 2 ^ (8 * i) := by rw [hpn]; rw [hc] at hv; omega
  have h7 : 256 ^ i ≤ 256 ^ 7 := Nat.pow_le_pow_right (by decide) hi
  have hbm : b * 256 ^ i ≤ 255 * 256 ^ i := Nat.mul_le_mul_right _ (by omega)
  have h77 : (256 : Nat) ^ 7 = 72057594037927936 := by decide
  have e : shl .u64 (b : Int) (8 * (i : Int)) = ((2 ^ (8 * i) * b : Nat) : Int) := by
    unfold shl
    rw [show min (8 * (i : Int)).toNat (IntKind.u64).bits = 8 * i from by simp only [IntKind.bits]; omega, hp, hc]
    have : IntKind.u64.wrap ((b : Int) * ((256 ^ i : Nat) : Int)) = (b : Int) * ((256 ^ i : Nat) : Int) := by
      show ((b : Int) * ((256 ^ i : Nat) : Int)) % 18446744073709551616 = _
      have e2 : (b : Int) * ((256 ^ i : Nat) : Int) = ((b * 256 ^ i : Nat) : Int) := (Int.natCast_mul _ _).symm
      rw [e2]
      omega
    rw [this, hpn, Nat.mul_comm, Int.natCast_mul]
  rw [e]
  have hbm2 : 2 ^ (8 * i) * b ≤ 255 * 256 ^ i := by rw [hpn, Nat.mul_comm]; exact hbm
  rw [u64_or_nat _ _ (by omega) (by omega), Nat.or_comm, ← Nat.two_pow_add_eq_or_of_lt ha b, hpn, hc, Int.natCast_add, Int.natCast_mul, Int.mul_comm]
theorem rget_l0 (l : List Int) (hb : Bytes l) (hl : l.length ≤ 4000000000000000000) (a n : Nat) (big : Bool) (h : a + n ≤ l.length) (h8 : n ≤ 8) (m : Nat) : ∀ (k i : Nat), i + m = n → m + 1 ≤ k →
    bollardref1_Get.l0 k l (a : Int) (n : Int) big (part l a i big) (i : Int) = some (get l a n big, true) := by
  induction m with
  | zero =>
    intro k i hi hk
    obtain ⟨K, rfl⟩ : ∃ K, k = K + 1 := ⟨k - 1, by omega⟩
    obtain rfl : i = n := by omega
    simp only [bollardref1_Get.l0]
    rw [if_neg (by omega)]
    rfl
  | succ m ih =>
    intro k i hi hk
    obtain ⟨K, rfl⟩ : ∃ K, k = K + 1 := ⟨k - 1, by omega⟩
    simp only [bollardref1_Get.l0]
    have hr := part_range hb a i big
    have h7 := pow256_le (show i ≤ 7 by omega)
    have hp7 : (256 : Int) ^ 7 = 72057594037927936 := by decide
    have hx := rd_byte hb ((a : Int) + (i : Int))
    have hg : (l.drop a)[i]? = some (rd l ((a : Int) + (i : Int))) := by
      rw [List.getElem?_drop, show (a : Int) + (i : Int) = ((a + i : Nat) : Int) by omega, rd_at (by omega), List.getElem?_eq_getElem (by omega)]
    have hlen : ((l.drop a).take i).length = i := by rw [List.length_take, List.length_drop]; omega
    rw [if_pos (by omega), w64 (x := (a : Int) + (i : Int)) (by omega) (by omega), if_pos (by omega), if_pos (by omega), up64 i (by omega)]
    cases big with
    | true =>
      rw [if_pos (by trivial), u64_id (by omega) (by omega), u64_id (by omega) (by omega), u64_shl_or (by omega) hx (by omega)]
      have e : part l a i true * 256 + rd l ((a : Int) + (i : Int)) = part l a (i + 1) true := by
        unfold part
        rw [if_pos rfl, if_pos rfl, take_next hg, be_snoc]
      rw [e]
      exact ih K (i + 1) (by omega) (by omega)
    | false =>
      rw [if_neg (by simp), w64 (x := 8 * (i : Int)) (by omega) (by omega), if_pos (by omega), u64_id (by omega) (by omega), u64_or_high _ _ i hr.1 hr.2 hx (by omega)]
      have e : rd l ((a : Int) + (i : Int)) * 256 ^ i + part l a i false = part l a (i + 1) false := by
        unfold part
        rw [if_neg (by simp), if_neg (by simp), take_next hg, List.reverse_append, List.reverse_singleton, List.singleton_append, be_cons, List.length_reverse, hlen]
      rw [e]
      exact ih K (i + 1) (by omega) (by omega)
theorem rget_f (l : List Int) (hb : Bytes l) (hl : l.length ≤ 4000000000000000000) (a n : Nat) (big : Bool) (h1 : 1 ≤ n) (h8 : n ≤ 8) (h : a + n ≤ l.length) (k : Nat) (hk : 10 ≤ k) : bollardref1_Get.f k l (a : Int) (n : Int) big = some (get l a n big, true) := by
  obtain ⟨K, rfl⟩ : ∃ K, k = K + 1 := ⟨k - 1, by omega⟩
  unfold bollardref1_Get.f
  rw [if_neg (by omega), if_neg (by omega), if_neg (by omega), if_neg (by omega), w64 (by omega) (by omega), decide_eq_false (by omega)]
  simp only [bollardref1_Get.j0]
  rw [if_neg (by simp)]
  have e : part l a 0 big = 0 := by unfold part; split <;> rfl
  have := rget_l0 l hb hl a n big h h8 n K 0 (by omega) (by omega)
  rw [e] at this
  exact this
theorem rget_none (l : List Int) (hl : l.length ≤ 4000000000000000000) (a n : Int) (big : Bool) (h : ¬ (1 ≤ n ∧ n ≤ 8 ∧ 0 ≤ a ∧ a ≤ (l.length : Int) - n)) (k : Nat) (hk : 1 ≤ k) : bollardref1_Get.f k l a n big = some (0, false) := by
  obtain ⟨K, rfl⟩ : ∃ K, k = K + 1 := ⟨k - 1, by omega⟩
  have hj : bollardref1_Get.j0 (K + 1) l a n big true = some (0, false) := by
    simp only [bollardref1_Get.j0]
    rw [if_pos (by trivial)]
  unfold bollardref1_Get.f
  split
  · exact hj
  split
  · exact hj
  split
  · exact hj
  split
  · exact hj
  rw [w64 (by omega) (by omega), decide_eq_true (by omega)]
  exact hj

end Go.Proofs.Ytlpbgknpgogaaaa.Bp
