/- Plain facts on whole numbers as Go tells them: digits laid over one another, shifts, groups of seven, bytes of a number. No program in sight. -/
import Derived.Laws.BitsAllLaws
import Derived.RowKit
import Derived.Test.YtncfofnikmfjbaaQWMore
import Derived.Test.YtncfofnikmfjbaaQPCix3
import Derived.Outline
import Derived.StillTailTactics
import Derived.RegionTactic
import Derived.BigRegion
import Derived.Lib.BufferWrite
namespace Go.Proofs.Ytncfofnikmfjbaa.Bp
open Go Go.RowKit Go.Proofs.YtncfofnikmfjbaaW.PrintWords Go.Proofs.YtncfofnikmfjbaaW.PrintLast Go.Proofs.YtncfofnikmfjbaaW.PrintMore
set_option linter.unusedVariables false
set_option linter.unusedSimpArgs false

/-! one byte -/
/-! words of 64 digits -/
theorem w64 {x : Int} (h : -9223372036854775808 ≤ x) (h2 : x ≤ 9223372036854775807) : wrap64 x = x := by unfold wrap64; omega
theorem u64_id {x : Int} (h : 0 ≤ x) (h2 : x < 18446744073709551616) : IntKind.u64.wrap x = x := by rw [IntKind.wrap_u64]; omega
theorem up64 (i : Nat) (h : i ≤ 4000000000000000000) : wrap64 ((i : Int) + 1) = ((i + 1 : Nat) : Int) := by unfold wrap64; omega
theorem wf64 {x : Int} (h : (Lit.int .u64 x).wf = true) : 0 ≤ x ∧ x < 18446744073709551616 := by
  simp only [Lit.wf, IntKind.min, IntKind.max, IntKind.signed, IntKind.bits] at h
  simp at h
  omega
def Bytes (l : List Int) : Prop := ∀ x ∈ l, 0 ≤ x ∧ x < 256
theorem rd_at {l : List Int} {i : Nat} (h : i < l.length) : rd l (i : Int) = l[i] := by
  unfold rd
  rw [Int.toNat_natCast, List.getD_eq_getElem?_getD, List.getElem?_eq_getElem h]
  rfl
theorem rd_byte {l : List Int} (h : Bytes l) (i : Int) : 0 ≤ rd l i ∧ rd l i < 256 := by
  unfold rd
  rw [List.getD_eq_getElem?_getD]
  cases e : l[i.toNat]? with
  | none => simp
  | some x => exact h x (List.mem_of_getElem? e)
/-! groups of seven digits -/
end Go.Proofs.Ytncfofnikmfjbaa.Bp

/- Numbers of some bytes: plain facts. A number's bytes, greatest first (beL) or as they are laid into a row (lay); what bytes come to (be). -/
namespace Go.Proofs.Ytncfofnikmfjbaa.Bp
open Go Go.RowKit Go.Proofs.YtncfofnikmfjbaaW.PrintWords Go.Proofs.YtncfofnikmfjbaaW.PrintLast Go.Proofs.YtncfofnikmfjbaaW.PrintMore
set_option linter.unusedVariables false
set_option linter.unusedSimpArgs false

theorem u64_shl_or {v b : Int} (h0 : 0 ≤ v) (hb : 0 ≤ b ∧ b < 256) (h : v * 256 + b < 18446744073709551616) : Go.bits .or .u64 (v * 256) b = v * 256 + b := by
  obtain ⟨a, rfl⟩ := Int.eq_ofNat_of_zero_le h0
  obtain ⟨c, rfl⟩ := Int.eq_ofNat_of_zero_le hb.1
  have e : ((a : Int) * 256) = ((2 ^ 8 * a : Nat) : Int) := by omega
  rw [e] at h ⊢
  rw [u64_or_nat _ _ (by omega) (by omega), ← Nat.two_pow_add_eq_or_of_lt (show c < 2 ^ 8 from by omega) a]
  omega

/-- The j-th byte of a number, the least one first. -/
def dg (v j : Nat) : Int := ((v / 256 ^ j % 256 : Nat) : Int)
theorem dg_byte (v j : Nat) : 0 ≤ dg v j ∧ dg v j < 256 := by unfold dg; omega
theorem dg_shr (v j : Nat) (hj : j ≤ 7) : (shr .u64 (v : Int) (8 * (j : Int))) % 256 = dg v j := by
  unfold shr dg
  simp only [IntKind.bits]
  rw [show min (8 * (j : Int)).toNat 64 = 8 * j from by omega]
  have hp : (2 : Int) ^ (8 * j) = ((256 ^ j : Nat) : Int) := by rw [Int.pow_mul, Int.natCast_pow]; rfl
  rw [hp, Int.natCast_emod, Int.natCast_ediv]
  rfl

/-- What bytes come to, the greatest first. -/
def be (l : List Int) : Int := l.foldl (fun v b => v * 256 + b) 0
theorem be_from (l : List Int) : ∀ v : Int, l.foldl (fun v b => v * 256 + b) v = v * 256 ^ l.length + be l := by
  induction l with
  | nil => intro v; simp [be]
  | cons b l ih =>
    intro v
    unfold be
    rw [List.foldl_cons, List.foldl_cons, ih, ih (0 * 256 + b), List.length_cons, Int.pow_succ, Int.add_mul, Int.mul_assoc, Int.mul_comm 256, Int.zero_mul, Int.zero_add, Int.add_assoc]
theorem be_nil : be [] = 0 := rfl
theorem be_append (l m : List Int) : be (l ++ m) = be l * 256 ^ m.length + be m := by
  unfold be
  rw [List.foldl_append]
  exact be_from m _
theorem be_snoc (l : List Int) (b : Int) : be (l ++ [b]) = be l * 256 + b := by unfold be; rw [List.foldl_append]; rfl
theorem be_cons (b : Int) (l : List Int) : be (b :: l) = b * 256 ^ l.length + be l := by
  have := be_append [b] l
  simpa [be] using this
theorem be_range (l : List Int) (h : Bytes l) : 0 ≤ be l ∧ be l < 256 ^ l.length := by
  induction l with
  | nil => exact ⟨by rw [be_nil]; omega, by rw [be_nil]; simp⟩
  | cons b l ih =>
    have h1 := ih (fun x hx => h x (by simp [hx]))
    have h2 := h b (by simp)
    have hp : (0 : Int) < 256 ^ l.length := Int.pow_pos (by decide)
    rw [be_cons, List.length_cons, Int.pow_succ, Int.mul_comm _ 256]
    have l1 : 0 * 256 ^ l.length ≤ b * 256 ^ l.length := Int.mul_le_mul_of_nonneg_right (by omega) (by omega)
    have l2 : b * 256 ^ l.length ≤ 255 * 256 ^ l.length := Int.mul_le_mul_of_nonneg_right (by omega) (by omega)
    constructor <;> omega
theorem pow256_le {a b : Nat} (h : a ≤ b) : (256 : Int) ^ a ≤ 256 ^ b := by
  obtain ⟨c, rfl⟩ := Nat.exists_eq_add_of_le h
  rw [Int.pow_add]
  have h1 : (0 : Int) < 256 ^ a := Int.pow_pos (by decide)
  have h2 : (0 : Int) < 256 ^ c := Int.pow_pos (by decide)
  have : (256 : Int) ^ a * 1 ≤ 256 ^ a * 256 ^ c := Int.mul_le_mul_of_nonneg_left (by omega) (by omega)
  omega

/-- A number's bytes, the greatest first. -/
def beL (v : Nat) : Nat → List Int
  | 0 => []
  | n + 1 => dg v n :: beL v n
theorem beL_length (v n : Nat) : (beL v n).length = n := by
  induction n with
  | zero => rfl
  | succ n ih => rw [beL, List.length_cons, ih]
theorem beL_bytes (v n : Nat) : Bytes (beL v n) := by
  induction n with
  | zero => intro x hx; simp [beL] at hx
  | succ n ih =>
    intro x hx
    rcases List.mem_cons.1 hx with rfl | hx
    · exact dg_byte v n
    · exact ih x hx
theorem beL_get (v n p : Nat) (h : p < n) : (beL v n)[p]? = some (dg v (n - 1 - p)) := by
  induction n generalizing p with
  | zero => omega
  | succ n ih =>
    rw [beL]
    cases p with
    | zero => simp
    | succ p => rw [List.getElem?_cons_succ, ih p (by omega), show n - 1 - p = n + 1 - 1 - (p + 1) from by omega]
theorem be_beL (v n : Nat) : be (beL v n) = ((v % 256 ^ n : Nat) : Int) := by
  induction n with
  | zero => simp [beL, be_nil, Nat.mod_one]
  | succ n ih =>
    rw [beL, show dg v n :: beL v n = [dg v n] ++ beL v n from rfl, be_append, ih, beL_length, Nat.pow_succ, Nat.mod_mul]
    unfold dg
    have : be [((v / 256 ^ n % 256 : Nat) : Int)] = ((v / 256 ^ n % 256 : Nat) : Int) := by simp [be]
    rw [this, Int.natCast_add, Int.natCast_mul, Int.natCast_pow, Int.mul_comm, Int.add_comm]
    rfl

/-- A row with n bytes of it, from place a on, laid anew. -/
def lay (l : List Int) (a n : Nat) (d : Nat → Int) : List Int := l.take a ++ ((List.range n).map d ++ l.drop (a + n))
theorem lay_get (l : List Int) (a n : Nat) (d : Nat → Int) (h : a + n ≤ l.length) (p : Nat) : (lay l a n d)[p]? = if a ≤ p ∧ p < a + n then some (d (p - a)) else l[p]? := by
  unfold lay
  by_cases h1 : p < a
  · rw [List.getElem?_append_left (by simp; omega), if_neg (by omega), List.getElem?_take_of_lt h1]
  · rw [List.getElem?_append_right (by simp; omega), List.length_take, Nat.min_eq_left (by omega)]
    by_cases h2 : p < a + n
    · rw [List.getElem?_append_left (by simp; omega), if_pos (by omega), List.getElem?_map, List.getElem?_range (by omega)]
      rfl
    · rw [List.getElem?_append_right (by simp; omega), if_neg (by omega), List.getElem?_drop, List.length_map, List.length_range]
      congr 1
      omega
theorem lay_eq {l m : List Int} {a n : Nat} {d : Nat → Int} (h : a + n ≤ l.length) (hm : ∀ p, m[p]? = if a ≤ p ∧ p < a + n then some (d (p - a)) else l[p]?) : m = lay l a n d := by
  apply List.ext_getElem?
  intro p
  rw [hm p, lay_get l a n d h p]
/-- Which byte of a number stands at which place. -/
def wh (n : Nat) (big : Bool) (p : Nat) : Nat := if big = true then n - 1 - p else p
theorem range_big (v n : Nat) : (List.range n).map (fun p => dg v (wh n true p)) = beL v n := by
  apply List.ext_getElem?
  intro p
  by_cases h : p < n
  · rw [beL_get v n p h]
    simp [h, wh]
  · rw [List.getElem?_eq_none (by simp; omega), List.getElem?_eq_none (by rw [beL_length]; omega)]
/-- A number that is read: of so many bytes from place a on, the greatest first or last. -/
def get (l : List Int) (a n : Nat) (big : Bool) : Int := be (if big = true then (l.drop a).take n else ((l.drop a).take n).reverse)
theorem seg_bytes {l : List Int} (h : Bytes l) (a n : Nat) : Bytes ((l.drop a).take n) := fun x hx => h x (List.mem_of_mem_drop (List.mem_of_mem_take hx))
theorem rev_bytes {l : List Int} (h : Bytes l) : Bytes l.reverse := fun x hx => h x (List.mem_reverse.1 hx)
end Go.Proofs.Ytncfofnikmfjbaa.Bp

/- What the program's Get and Put come to, as printed. -/
namespace Go.Proofs.Ytncfofnikmfjbaa.Bp
open Go Go.RowKit Go.Proofs.Ytncfofnikmfjbaa.PCi Go.Proofs.YtncfofnikmfjbaaW.PrintWords Go.Proofs.YtncfofnikmfjbaaW.PrintLast Go.Proofs.YtncfofnikmfjbaaW.PrintMore
set_option linter.unusedVariables false
set_option linter.unusedSimpArgs false

theorem may_f (l : List Int) (a n : Int) (hl : l.length ≤ 4000000000000000000) : bits_may.f l a n = some (decide (1 ≤ n ∧ n ≤ 8 ∧ 0 ≤ a ∧ a ≤ (l.length : Int) - n)) := by
  unfold bits_may.f
  by_cases c1 : n ≥ 1
  · rw [if_pos c1]
    by_cases c2 : n ≤ 8
    · rw [if_pos c2]
      by_cases c3 : a ≥ 0
      · rw [if_pos c3, w64 (by omega) (by omega)]
        congr 1
        rw [Bool.eq_iff_iff]
        simp
        omega
      · rw [if_neg c3]
        simp
        omega
    · rw [if_neg c2]
      simp
      omega
  · rw [if_neg c1]
    simp
    omega

/-- The bytes in the order in which they are read. -/
def inOrder (l : List Int) (a n : Nat) (big : Bool) : List Int := if big = true then (l.drop a).take n else ((l.drop a).take n).reverse
theorem inOrder_length (l : List Int) (a n : Nat) (big : Bool) (h : a + n ≤ l.length) : (inOrder l a n big).length = n := by
  unfold inOrder; split <;> simp <;> omega
theorem inOrder_bytes {l : List Int} (hb : Bytes l) (a n : Nat) (big : Bool) : Bytes (inOrder l a n big) := by
  unfold inOrder
  split
  · exact seg_bytes hb a n
  · exact rev_bytes (seg_bytes hb a n)
theorem inOrder_get (l : List Int) (a n : Nat) (big : Bool) (h : a + n ≤ l.length) (i : Nat) (hi : i < n) : (inOrder l a n big)[i]? = some (rd l ((a + (if big = true then i else n - 1 - i) : Nat) : Int)) := by
  unfold inOrder
  cases big with
  | true =>
    rw [if_pos rfl, if_pos rfl, List.getElem?_take_of_lt hi, List.getElem?_drop, rd_at (by omega), List.getElem?_eq_getElem (by omega)]
  | false =>
    rw [if_neg (by simp), if_neg (by simp), List.getElem?_reverse (by simp; omega)]
    have : ((l.drop a).take n).length = n := by simp; omega
    rw [this, List.getElem?_take_of_lt (by omega), List.getElem?_drop, rd_at (by omega), List.getElem?_eq_getElem (by omega)]
theorem take_step {l : List Int} {i : Nat} {x : Int} (h : l[i]? = some x) : l.take (i + 1) = l.take i ++ [x] := by
  rw [List.take_add_one, h]
  rfl

theorem get_l0 (l : List Int) (hb : Bytes l) (hl : l.length ≤ 4000000000000000000) (a n : Nat) (big : Bool) (h : a + n ≤ l.length) (h8 : n ≤ 8) (m : Nat) : ∀ (k i : Nat), i + m = n → m + 1 ≤ k →
    bits_Get.l0 k l (a : Int) (n : Int) big (be ((inOrder l a n big).take i)) (n : Int) (i : Int) = some (get l a n big, true) := by
  induction m with
  | zero =>
    intro k i hi hk
    obtain ⟨K, rfl⟩ : ∃ K, k = K + 1 := ⟨k - 1, by omega⟩
    simp only [bits_Get.l0]
    rw [if_neg (by omega), List.take_of_length_le (by rw [inOrder_length l a n big h]; omega)]
    rfl
  | succ m ih =>
    intro k i hi hk
    obtain ⟨K, rfl⟩ : ∃ K, k = K + 1 := ⟨k - 1, by omega⟩
    simp only [bits_Get.l0]
    have g := inOrder_get l a n big h i (by omega)
    have hr := be_range ((inOrder l a n big).take i) (fun x hx => inOrder_bytes hb a n big x (List.mem_of_mem_take hx))
    have hlt : ((inOrder l a n big).take i).length ≤ 7 := by rw [List.length_take, inOrder_length l a n big h]; omega
    have hp := pow256_le hlt
    have hp7 : (256 : Int) ^ 7 = 72057594037927936 := by decide
    have step : ∀ x, x = rd l ((a + (if big = true then i else n - 1 - i) : Nat) : Int) → Go.bits .or .u64 (IntKind.u64.wrap (be ((inOrder l a n big).take i) * 256)) (IntKind.u64.wrap x) = be ((inOrder l a n big).take (i + 1)) := by
      intro x hx
      have hxb := rd_byte hb ((a + (if big = true then i else n - 1 - i) : Nat) : Int)
      rw [← hx] at hxb
      rw [u64_id (by omega) (by omega), u64_id (by omega) (by omega), u64_shl_or (by omega) hxb (by omega), take_step g, be_snoc, hx]
    rw [if_pos (by omega)]
    cases big with
    | true =>
      rw [if_pos (by trivial), w64 (by omega) (by omega), if_pos (by omega), if_pos (by omega), step _ (by simp), up64 i (by omega)]
      exact ih K (i + 1) (by omega) (by omega)
    | false =>
      rw [if_neg (by simp), w64 (x := (n : Int) - 1) (by omega) (by omega), w64 (x := (n : Int) - 1 - (i : Int)) (by omega) (by omega), w64 (by omega) (by omega), if_pos (by omega), if_pos (by omega), step _ (by rw [if_neg (by simp)]; congr 1; omega), up64 i (by omega)]
      exact ih K (i + 1) (by omega) (by omega)

theorem get_f (l : List Int) (hb : Bytes l) (hl : l.length ≤ 4000000000000000000) (a n : Nat) (big : Bool) (h1 : 1 ≤ n) (h8 : n ≤ 8) (h : a + n ≤ l.length) (k : Nat) (hk : 9 ≤ k) : bits_Get.f k l (a : Int) (n : Int) big = some (get l a n big, true) := by
  unfold bits_Get.f
  rw [may_f l _ _ hl, decide_eq_true (by omega)]
  simp only [Option.bind_some]
  rw [if_pos (by trivial)]
  exact get_l0 l hb hl a n big h h8 n k 0 (by omega) (by omega)
theorem get_none (l : List Int) (hl : l.length ≤ 4000000000000000000) (a n : Int) (big : Bool) (h : ¬ (1 ≤ n ∧ n ≤ 8 ∧ 0 ≤ a ∧ a ≤ (l.length : Int) - n)) (k : Nat) : bits_Get.f k l a n big = some (0, false) := by
  unfold bits_Get.f
  rw [may_f l _ _ hl, decide_eq_false h]
  rfl

theorem clone_f (l : List Int) (hl : l.length ≤ 140737488351232) : slices_Clone_byte_byte.f l = some l := by
  unfold slices_Clone_byte_byte.f
  simp only [Option.bind_some, List.nil_append, List.length_nil, Nat.zero_add]
  rw [if_pos (by omega)]

theorem put_l0 (l : List Int) (hl : l.length ≤ 140737488351232) (a n v : Nat) (big : Bool) (h : a + n ≤ l.length) (h8 : n ≤ 8) (m : Nat) : ∀ (k i : Nat) (c : List Int), i + m = n → m + 1 ≤ k →
    (∀ p, c[p]? = if (if big = true then a + n ≤ p + i else a ≤ p) ∧ (if big = true then p < a + n else p < a + i) then some (dg v (wh n big (p - a))) else l[p]?) → c.length = l.length →
    bits_Put.l0 k (a : Int) (n : Int) big (v : Int) c (n : Int) (i : Int) = some (lay l a n (fun p => dg v (wh n big p)), true) := by
  induction m with
  | zero =>
    intro k i c hi hk hc hcl
    obtain ⟨K, rfl⟩ : ∃ K, k = K + 1 := ⟨k - 1, by omega⟩
    simp only [bits_Put.l0]
    rw [if_neg (by omega)]
    congr 2
    refine lay_eq h (fun p => ?_)
    rw [hc p]
    have e : ((if big = true then a + n ≤ p + i else a ≤ p) ∧ (if big = true then p < a + n else p < a + i)) ↔ (a ≤ p ∧ p < a + n) := by
      cases big with
      | true => simp only [if_true]; omega
      | false => simp only [Bool.false_eq_true, if_false]; omega
    simp only [e]
  | succ m ih =>
    intro k i c hi hk hc hcl
    obtain ⟨K, rfl⟩ : ∃ K, k = K + 1 := ⟨k - 1, by omega⟩
    simp only [bits_Put.l0]
    rw [if_pos (by omega), w64 (x := 8 * (i : Int)) (by omega) (by omega), dg_shr v i (by omega), up64 i (by omega)]
    have go : ∀ q : Nat, q = a + (if big = true then n - 1 - i else i) → ∀ p, (c.set q (dg v i))[p]? = if (if big = true then a + n ≤ p + (i + 1) else a ≤ p) ∧ (if big = true then p < a + n else p < a + (i + 1)) then some (dg v (wh n big (p - a))) else l[p]? := by
      intro q hq p
      rw [List.getElem?_set]
      by_cases e : q = p
      · subst e
        rw [if_pos rfl, if_pos (by rw [hcl]; cases big <;> simp at hq <;> omega)]
        cases big with
        | true =>
          simp only [if_true] at hq ⊢
          rw [if_pos (by omega)]
          unfold wh
          rw [if_pos rfl, show n - 1 - (q - a) = i from by omega]
        | false =>
          simp only [Bool.false_eq_true, if_false] at hq ⊢
          rw [if_pos (by omega)]
          unfold wh
          rw [if_neg (by simp), show q - a = i from by omega]
      · rw [if_neg e, hc p]
        cases big with
        | true =>
          simp only [if_true] at hq ⊢
          by_cases d : a + n ≤ p + i ∧ p < a + n
          · rw [if_pos d, if_pos (by omega)]
          · rw [if_neg d, if_neg (by omega)]
        | false =>
          simp only [Bool.false_eq_true, if_false] at hq ⊢
          by_cases d : a ≤ p ∧ p < a + i
          · rw [if_pos d, if_pos (by omega)]
          · rw [if_neg d, if_neg (by omega)]
    cases big with
    | true =>
      rw [if_pos (by trivial), if_pos (by omega), w64 (x := (n : Int) - 1) (by omega) (by omega), w64 (x := (n : Int) - 1 - (i : Int)) (by omega) (by omega), w64 (by omega) (by omega), if_pos (by omega), if_pos (by omega)]
      refine ih K (i + 1) _ (by omega) (by omega) (go _ ?_) (by rw [List.length_set]; exact hcl)
      rw [if_pos rfl]; omega
    | false =>
      rw [if_neg (by simp), if_pos (by omega), w64 (by omega) (by omega), if_pos (by omega), if_pos (by omega)]
      refine ih K (i + 1) _ (by omega) (by omega) (go _ ?_) (by rw [List.length_set]; exact hcl)
      rw [if_neg (by simp)]; omega

theorem put_f (l : List Int) (hl : l.length ≤ 140737488351232) (a n v : Nat) (big : Bool) (h1 : 1 ≤ n) (h8 : n ≤ 8) (h : a + n ≤ l.length) (k : Nat) (hk : 9 ≤ k) : bits_Put.f k l (a : Int) (n : Int) big (v : Int) = some (lay l a n (fun p => dg v (wh n big p)), true) := by
  unfold bits_Put.f
  rw [may_f l _ _ (by omega), decide_eq_true (by omega), clone_f l hl]
  simp only [Option.bind_some]
  rw [if_pos (by trivial)]
  refine put_l0 l hl a n v big h h8 n k 0 l (by omega) (by omega) (fun p => ?_) rfl
  rw [if_neg]
  cases big with
  | true => simp only [if_true]; omega
  | false => simp only [Bool.false_eq_true, if_false]; omega
end Go.Proofs.Ytncfofnikmfjbaa.Bp

namespace Go.Proofs.Ytncfofnikmfjbaa.PCi
open Go.RowKit Go.Proofs.YtncfofnikmfjbaaW.PrintWords Go.Proofs.YtncfofnikmfjbaaW.PrintLast Go.Proofs.YtncfofnikmfjbaaW.PrintMore
attribute [local go_sem] max2_int min2_int max_two min_two max_three min_three max_four min_four
set_option linter.unusedVariables false
set_option linter.unusedSimpArgs false

/-! ### codec: a writer at a block, what it leaves as it is -/
/-- Bytes' blocks. -/
def IsU8 (o : Obj) : Prop := ∃ cells fr, o = .cells cells 5 fr
/-- All stands but block g and own rows of bytes. -/
structure KeepW (w w' : World) (g base : Nat) : Prop where
  below : Below base w w'
  keep : ∀ i o, i ≠ g → w.heap[i]? = some o → ¬ (base ≤ i ∧ IsU8 o) → w'.heap[i]? = some o
theorem KeepW.refl (w : World) (g base : Nat) : KeepW w w g base := ⟨Below.refl _ _, fun _ _ _ h _ => h⟩
theorem KeepW.trans {w w1 w2 : World} {g base : Nat} (h : KeepW w w1 g base) (k : KeepW w1 w2 g base) : KeepW w w2 g base :=
  ⟨h.below.trans k.below, fun i o hi ho hn => k.keep i o hi (h.keep i o hi ho hn) hn⟩
theorem KeepW.of_below {w w1 : World} {g base : Nat} (h : Below w.heap.size w w1) (hb : base ≤ w.heap.size) : KeepW w w1 g base :=
  ⟨h.mono hb, fun i o _ ho _ => blk_below ho h⟩
theorem KeepW.drewN {w w1 : World} {g base : Nat} (h : KeepW w w1 g base) (n : Nat) : KeepW w (w1.drewN n) g base := ⟨pw_below_drewN h.below n, h.keep⟩
theorem KeepW.set {w w1 : World} {g base : Nat} (h : KeepW w w1 g base) (hg : base ≤ g) (j : Nat) (u : Value) : KeepW w (w1.setCell ⟨g, j, none⟩ u) g base :=
  ⟨h.below.setCell (p := ⟨g, j, none⟩) hg u, fun i o hi ho hn => (Below.heap_setCell w1 ⟨g, j, none⟩ u i hi).trans (h.keep i o hi ho hn)⟩
theorem KeepW.grown {w w1 w2 : World} {g base : Nat} {ok : Nat → Prop} {v : Value} {xs : List Int} (h : KeepW w w1 g base) (hr : Kd.R (Kd.int .u8) 5 w1 base ok v xs) (hg : w1.grownBy w2 v.ownBlock) (hb : Below base w w2) : KeepW w w2 g base := by
  refine ⟨hb, fun i o hi ho hn => ?_⟩
  have h1 := h.keep i o hi ho hn
  refine (hg.block i (blk_lt h1) (fun e => ?_)).trans h1
  obtain ⟨inner, hown⟩ := Kd.R_own hr
  obtain ⟨cells, hc⟩ := own_typed hown i e.symm
  rw [hc] at h1
  exact hn ⟨own_base hown i e.symm, cells, (0, 0), (Option.some.inj h1).symm⟩
theorem KeepW.blk {w w1 : World} {g base i t : Nat} {cells : Array Value} {fr : Nat × Nat} (h : KeepW w w1 g base) (hb : w.heap[i]? = some (.cells cells t fr)) (hi : i ≠ g) (ht : t ≠ 5) : w1.heap[i]? = some (.cells cells t fr) :=
  h.keep i _ hi hb (fun ⟨_, c, f, e⟩ => ht (by injection e))
/-- A writer at block g: its bytes, is it over? -/
def Wr (W : World) (g base : Nat) (xs : List Int) (bad : Bool) : Prop := ∃ A c, W.heap[g]? = some (.cells #[.slice A xs.length c, .bool bad] 64 (0, 0)) ∧ Kd.R (Kd.int .u8) 5 W base (fun _ => True) (.slice A xs.length c) xs
theorem Wr.mk' {W : World} {g base : Nat} {v : Value} {xs : List Int} {bad : Bool} (h : W.heap[g]? = some (.cells #[v, .bool bad] 64 (0, 0))) (hr : Kd.R (Kd.int .u8) 5 W base (fun _ => True) v xs) : Wr W g base xs bad := by
  obtain ⟨A, c, rfl⟩ := Kd.R_slice hr
  exact ⟨A, c, h, hr⟩
theorem Wr.bad {W : World} {g base : Nat} {xs : List Int} {bad : Bool} (h : Wr W g base xs bad) (b : Bool) : Wr (W.setCell ⟨g, 1, none⟩ (.bool b)) g base xs b := by
  obtain ⟨A, c, h1, h2⟩ := h
  exact ⟨A, c, by simpa using blk_set h1 1 (.bool b), Kd.R_set h2 h1 (by decide) 1 _⟩
theorem info_u8 : (Try.prog.info? 5).map (fun i => (i.zero, i.size, i.bytes)) = some (some (.int .u8 0), 1, 1) := by kernel_rfl
/-- A number's bytes, as a writer writes them: the greatest first. -/
def nb (v : Int) (n : Nat) : List Int := Bp.beL (v % 18446744073709551616).toNat n
theorem nb_len (v : Int) (n : Nat) : (nb v n).length = n := Bp.beL_length _ _
theorem put_nb (v : Int) (n : Nat) (h1 : 1 ≤ n) (h8 : n ≤ 8) : bits_Put.f 9 (List.replicate n 0) 0 (n : Int) true (IntKind.u64.wrap v) = some (nb v n, true) := by
  have hv : IntKind.u64.wrap v = (((v % 18446744073709551616).toNat : Nat) : Int) := by rw [IntKind.wrap_u64]; omega
  have hp := Bp.put_f (List.replicate n 0) (by rw [List.length_replicate]; omega) 0 n (v % 18446744073709551616).toNat true h1 h8 (by rw [List.length_replicate]; omega) 9 (Nat.le_refl _)
  rw [hv]
  refine hp.trans ?_
  congr 2
  unfold Bp.lay
  rw [Bp.range_big]
  simp [nb]

theorem Wr.below {W W1 : World} {g base : Nat} {xs : List Int} {bad : Bool} (h : Wr W g base xs bad) (hb : Below W.heap.size W W1) : Wr W1 g base xs bad := by
  obtain ⟨A, c, h1, h2⟩ := h
  exact ⟨A, c, blk_below h1 hb, Kd.R_below h2 hb⟩
theorem Wr.drewN {W : World} {g base : Nat} {xs : List Int} {bad : Bool} (h : Wr W g base xs bad) (n : Nat) : Wr (W.drewN n) g base xs bad := by
  obtain ⟨A, c, h1, h2⟩ := h
  exact ⟨A, c, h1, Kd.R_drewN h2 n⟩
set_option maxHeartbeats 4000000 in
set_option maxRecDepth 100000 in
theorem wr_numberN (g base : Nat) (xs : List Int) (bad : Bool) (v size : Int) (ys : List Int) (w : World) (hF : Wr w g base xs bad) (hg : base ≤ g) (hb : base ≤ w.heap.size) (h1 : 1 ≤ size) (h8 : size ≤ 8) (hx : xs.length ≤ 1000000000)
    (hp : bits_Put.f 9 (List.replicate size.toNat 0) 0 size true (IntKind.u64.wrap v) = some (ys, true)) (hy : ys.length = size.toNat) :
    Calls Try.prog 28 #[.pointer (some ⟨g, 0, none⟩), .int .i64 v, .int .i64 size] w fun e w' => e = .returned (.tuple #[]) ∧ Wr w' g base (xs ++ ys) bad ∧ KeepW w w' g base := by
  obtain ⟨A, c, hF1, hF2⟩ := hF
  have HF1 := Aside0.mk hF1
  have HF2 := Aside0.mk hF2
  have HG := Aside0.mk hg
  have HB := Aside0.mk hb
  have HP := Aside0.mk hp
  have HX := Aside0.mk hx
  have HY := Aside0.mk hy
  have H1 := Aside0.mk h1
  have H8 := Aside0.mk h8
  obtain ⟨zl, hzl⟩ : ∃ zl : List Int, zl = List.replicate size.toNat 0 := ⟨_, rfl⟩
  have HZ := Aside0.mk hzl
  have HZN := Aside0.mk (show zl.length = size.toNat from by rw [hzl, List.length_replicate])
  clear hF1 hF2 hg hb hp hx hy h1 h8 hzl
  go_enter Try.func28, Try.ntmps28
  go_wp2_with ((with_reducible refine gate_dst (N := 10) rfl ?_); refine Kd.R_make (Kd.int .u8) _ 5 rfl (N := 10) rfl 29 _ _ rfl size rfl rfl Try.underlying29 (.int .u8 0) 1 info_u8 rfl (by decide) (by decide) 0 (ok := fun _ => True) (okp := fun _ => True) rfl (fun _ hk => hk) trivial (by have := H1.out; omega) (by have := H8.out; omega) (Below.refl _ _) (Nat.le_refl _) ?_; intro vm w3 hm hb hg_ hnew_; clear hg_ hnew_; rw [← HZ.out] at hm; obtain ⟨Am, cm, em⟩ := Kd.R_slice hm; subst em; have HM3 := Aside0.mk hm; have HB3 := Aside0.mk hb; clear hm hb)
  refine (bits_Put.calls 9 Am cm zl 0 size true (IntKind.u64.wrap v) ys true w3 (Kd.R_reads' HM3.out).2.2 (Kd.R_reads' HM3.out).2.1 (by rw [HZ.out]; exact HP.out)).mono ?_
  rintro e y1 ⟨vo, rfl, ho, hbl⟩
  have HB1 := Aside0.mk (HB3.out.trans (hbl.mono HB3.out.size))
  have HY1 := Aside0.mk ho
  have HW1 := Aside0.mk (Wr.below ⟨A, c, HF1.out, HF2.out⟩ HB1.out)
  obtain ⟨Ao, co, eo⟩ := Kd.R_slice ho
  subst eo
  clear ho hbl HM3 HF1 HF2 HB3
  obtain ⟨A1, c1, hg1, hr1⟩ := HW1.out
  have HR1 := Aside0.mk hr1
  have HG1 := Aside0.mk hg1
  have q0 : y1.cell? ⟨g, 0, none⟩ = some (.slice A1 xs.length c1) := (blk_cell hg1 0).trans rfl
  have z0 : y1.frozen? ⟨g, 0, none⟩ = false := blk_frozen hg1 0
  clear hr1 hg1 HW1
  obtain ⟨ws, hws⟩ : ∃ ws, ws = xs ++ ys := ⟨_, rfl⟩
  have HWS := Aside0.mk hws
  clear hws
  go_wp2_with ((with_reducible refine gate_builtin (b := .append) (xs := #[.tmp 21, .tmp 22]) rfl ?_); refine Kd.R_append_rows (Kd.int .u8) (w0 := w) base rfl (.tmp 21) (.tmp 22) 29 5 (.int .u8 0) 1 rfl Try.underlying29 info_u8 rfl (by decide) (by decide) (.slice A1 xs.length c1) xs ys Ao ys.length co (fun _ => True) (fun _ => False) rfl rfl HR1.out (Kd.R_reads' HY1.out).2.2 (fun _ _ h => h) (fun _ h => h.elim) (fun _ _ => trivial) (HB1.out.mono HB.out) (Nat.le_trans HB.out HB1.out.size) ?aL ?_; (case aL => have := HX.out; have := HY.out; have := H8.out; omega); intro v2 w2 ho hb hg hat; rw [← HWS.out] at ho; obtain ⟨A2, c2, e2⟩ := Kd.R_slice ho; subst e2; have HO2 := Aside0.mk ho; have HK2 := Aside0.mk ((KeepW.of_below HB1.out HB.out).grown (g := g) HR1.out hg hb); have hG2 := hg.block g (blk_lt HG1.out) (Kd.R_ne HR1.out HG1.out (by decide)); rw [HG1.out] at hG2; have HG2 := Aside0.mk hG2; have z0 : w2.frozen? ⟨g, 0, none⟩ = false := blk_frozen hG2 0; have q0 : w2.cell? ⟨g, 0, none⟩ = some (.slice A1 xs.length c1) := (blk_cell hG2 0).trans rfl; clear ho hb hg hat hG2)
  refine bodyPost_end (v := .tuple #[]) (by simp [results, Try.results28, go_sem]) rfl ?_
  refine ⟨rfl, ?_, HK2.out.set HG.out 0 _⟩
  rw [← HWS.out]
  exact Wr.mk' (by simpa using blk_set HG2.out 0 (.slice A2 ws.length c2)) (Kd.R_set HO2.out HG2.out (by decide) 0 _)
theorem wr_number (g base : Nat) (xs : List Int) (bad : Bool) (v : Int) (n : Nat) (w : World) (hF : Wr w g base xs bad) (hg : base ≤ g) (hb : base ≤ w.heap.size) (h1 : 1 ≤ n) (h8 : n ≤ 8) (hx : xs.length ≤ 1000000000) :
    Calls Try.prog 28 #[.pointer (some ⟨g, 0, none⟩), .int .i64 v, .int .i64 (n : Int)] w fun e w' => e = .returned (.tuple #[]) ∧ Wr w' g base (xs ++ nb v n) bad ∧ KeepW w w' g base :=
  wr_numberN g base xs bad v n (nb v n) w hF hg hb (by omega) (by omega) hx (by rw [Int.toNat_natCast]; exact put_nb v n h1 h8) (nb_len v n)

end Go.Proofs.Ytncfofnikmfjbaa.PCi

namespace Go.Proofs.Ytncfofnikmfjbaa.PCi
open Go.RowKit Go.Proofs.YtncfofnikmfjbaaW.PrintWords Go.Proofs.YtncfofnikmfjbaaW.PrintLast Go.Proofs.YtncfofnikmfjbaaW.PrintMore
attribute [local go_sem] max2_int min2_int max_two min_two max_three min_three max_four min_four
set_option linter.unusedVariables false
set_option linter.unusedSimpArgs false

/-! ### codec: a message -/
structure Msg where
  kind : Int
  id : Int
  topic : ByteArray
  part : Int
  parts : Int
  seg : Int
  byt : Int
  age : Int
  comp : Bool
  delay : Int
  prod : Int
  seq : Int
  u1 : Value
  off : Int
  max : Int
  time : Int
  group : ByteArray
  akind : Int
  aid : Int
  acode : Int
  aoff : Int
  astart : Int
  anext : Int
  u2 : Value
  u3 : Value
  u4 : Value
def Msg.cells (m : Msg) : Array Value := #[.int .i64 m.kind, .int .i64 m.id, .string m.topic, .int .i64 m.part, .int .i64 m.parts, .int .i64 m.seg, .int .i64 m.byt, .int .i64 m.age, .bool m.comp, .int .i64 m.delay, .int .i64 m.prod, .int .i64 m.seq, m.u1, .int .i64 m.off, .int .i64 m.max, .int .i64 m.time, .string m.group, .int .i64 m.akind, .int .i64 m.aid, .int .i64 m.acode, .int .i64 m.aoff, .int .i64 m.astart, .int .i64 m.anext, m.u2, m.u3, m.u4]
def slotI (which f : Int) : Nat := if f = 2 then 3 else if f = 3 then 4 else if f = 4 then 5 else if f = 5 then 6 else if f = 6 then 7 else if f = 8 then 9 else if f = 9 then 10 else if f = 10 then 11 else if f = 12 then 14 else if f = 13 then 15 else if f = 14 then 21 else if f = 15 then 22 else if which = 0 then 13 else 20
def Msg.num (m : Msg) (which f : Int) : Int := if f = 2 then m.part else if f = 3 then m.parts else if f = 4 then m.seg else if f = 5 then m.byt else if f = 6 then m.age else if f = 8 then m.delay else if f = 9 then m.prod else if f = 10 then m.seq else if f = 12 then m.max else if f = 13 then m.time else if f = 14 then m.astart else if f = 15 then m.anext else if which = 0 then m.off else m.aoff
def Msg.put (m : Msg) (which f x : Int) : Msg := if f = 2 then { m with part := x } else if f = 3 then { m with parts := x } else if f = 4 then { m with seg := x } else if f = 5 then { m with byt := x } else if f = 6 then { m with age := x } else if f = 8 then { m with delay := x } else if f = 9 then { m with prod := x } else if f = 10 then { m with seq := x } else if f = 12 then { m with max := x } else if f = 13 then { m with time := x } else if f = 14 then { m with astart := x } else if f = 15 then { m with anext := x } else if which = 0 then { m with off := x } else { m with aoff := x }
theorem Msg.num_cell (m : Msg) (which f : Int) : m.cells[slotI which f]? = some (.int .i64 (m.num which f)) := by
  unfold slotI Msg.num
  by_cases h2 : f = 2
  · simp only [if_pos h2]; rfl
  simp only [if_neg h2]
  by_cases h3 : f = 3
  · simp only [if_pos h3]; rfl
  simp only [if_neg h3]
  by_cases h4 : f = 4
  · simp only [if_pos h4]; rfl
  simp only [if_neg h4]
  by_cases h5 : f = 5
  · simp only [if_pos h5]; rfl
  simp only [if_neg h5]
  by_cases h6 : f = 6
  · simp only [if_pos h6]; rfl
  simp only [if_neg h6]
  by_cases h8 : f = 8
  · simp only [if_pos h8]; rfl
  simp only [if_neg h8]
  by_cases h9 : f = 9
  · simp only [if_pos h9]; rfl
  simp only [if_neg h9]
  by_cases h10 : f = 10
  · simp only [if_pos h10]; rfl
  simp only [if_neg h10]
  by_cases h12 : f = 12
  · simp only [if_pos h12]; rfl
  simp only [if_neg h12]
  by_cases h13 : f = 13
  · simp only [if_pos h13]; rfl
  simp only [if_neg h13]
  by_cases h14 : f = 14
  · simp only [if_pos h14]; rfl
  simp only [if_neg h14]
  by_cases h15 : f = 15
  · simp only [if_pos h15]; rfl
  simp only [if_neg h15]
  by_cases hw : which = 0
  · simp only [if_pos hw]; rfl
  simp only [if_neg hw]; rfl
theorem Msg.put_cell (m : Msg) (which f x : Int) : m.cells.setIfInBounds (slotI which f) (.int .i64 x) = (m.put which f x).cells := by
  unfold slotI Msg.put
  by_cases h2 : f = 2
  · simp only [if_pos h2]; rfl
  simp only [if_neg h2]
  by_cases h3 : f = 3
  · simp only [if_pos h3]; rfl
  simp only [if_neg h3]
  by_cases h4 : f = 4
  · simp only [if_pos h4]; rfl
  simp only [if_neg h4]
  by_cases h5 : f = 5
  · simp only [if_pos h5]; rfl
  simp only [if_neg h5]
  by_cases h6 : f = 6
  · simp only [if_pos h6]; rfl
  simp only [if_neg h6]
  by_cases h8 : f = 8
  · simp only [if_pos h8]; rfl
  simp only [if_neg h8]
  by_cases h9 : f = 9
  · simp only [if_pos h9]; rfl
  simp only [if_neg h9]
  by_cases h10 : f = 10
  · simp only [if_pos h10]; rfl
  simp only [if_neg h10]
  by_cases h12 : f = 12
  · simp only [if_pos h12]; rfl
  simp only [if_neg h12]
  by_cases h13 : f = 13
  · simp only [if_pos h13]; rfl
  simp only [if_neg h13]
  by_cases h14 : f = 14
  · simp only [if_pos h14]; rfl
  simp only [if_neg h14]
  by_cases h15 : f = 15
  · simp only [if_pos h15]; rfl
  simp only [if_neg h15]
  by_cases hw : which = 0
  · simp only [if_pos hw]; rfl
  simp only [if_neg hw]; rfl
/-- A message at block h. -/
def MsAt (W : World) (h : Nat) (m : Msg) : Prop := W.heap[h]? = some (.cells m.cells 67 (0, 0))
theorem MsAt.cell {W : World} {h : Nat} {m : Msg} (hm : MsAt W h m) (j : Nat) : W.cell? ⟨h, j, none⟩ = m.cells[j]? := blk_cell hm j
theorem MsAt.free {W : World} {h : Nat} {m : Msg} (hm : MsAt W h m) (j : Nat) : W.frozen? ⟨h, j, none⟩ = false := blk_frozen hm j
theorem MsAt.put {W : World} {h : Nat} {m : Msg} (hm : MsAt W h m) (which f x : Int) : MsAt (W.setCell ⟨h, slotI which f, none⟩ (.int .i64 x)) h (m.put which f x) := by
  have := blk_set hm (slotI which f) (.int .i64 x)
  rw [Msg.put_cell] at this
  exact this
theorem MsAt.keep {w W : World} {g base h : Nat} {m : Msg} (hm : MsAt w h m) (hk : KeepW w W g base) (hh : h ≠ g) : MsAt W h m := hk.blk hm hh (by decide)
set_option maxHeartbeats 4000000 in
set_option maxRecDepth 100000 in
theorem message_text.calls (h : Nat) (f : Int) (w : World) : Calls Try.prog 45 #[.pointer (some ⟨h, 0, none⟩), .int .i64 f] w fun e w' => e = .returned (.pointer (some ⟨h, if f = 0 then 2 else 16, none⟩)) ∧ w' = w := by
  by_cases hf : f = 0
  · have d : (f == 0) = true := beq_iff_eq.2 hf
    rw [if_pos hf]
    clear hf
    go_enter Try.func45, Try.ntmps45
    go_wp2
    go_ret
    exact ⟨rfl, rfl⟩
  · have d : (f == 0) = false := beq_eq_false_iff_ne.2 hf
    rw [if_neg hf]
    clear hf
    go_enter Try.func45, Try.ntmps45
    go_wp2
    go_ret
    exact ⟨rfl, rfl⟩
set_option maxHeartbeats 4000000 in
set_option maxRecDepth 100000 in
theorem message_int.calls (h : Nat) (which f : Int) (w : World) : Calls Try.prog 53 #[.pointer (some ⟨h, 0, none⟩), .int .i64 which, .int .i64 f] w fun e w' => e = .returned (.pointer (some ⟨h, slotI which f, none⟩)) ∧ w' = w := by
  obtain ⟨s, hs⟩ : ∃ s, s = slotI which f := ⟨_, rfl⟩
  have HS := Aside0.mk hs
  rw [← hs]
  clear hs
  by_cases h2 : f = 2
  · have d2 : (f == 2) = true := beq_iff_eq.2 h2
    have e : s = 3 := by rw [HS.out]; unfold slotI; simp [*]
    subst e
    clear h2 HS
    go_enter Try.func53, Try.ntmps53
    go_wp2
    go_ret
    exact ⟨rfl, rfl⟩
  have d2 : (f == 2) = false := beq_eq_false_iff_ne.2 h2
  by_cases h3 : f = 3
  · have d3 : (f == 3) = true := beq_iff_eq.2 h3
    have e : s = 4 := by rw [HS.out]; unfold slotI; simp [*]
    subst e
    clear h2 h3 HS
    go_enter Try.func53, Try.ntmps53
    go_wp2
    go_ret
    exact ⟨rfl, rfl⟩
  have d3 : (f == 3) = false := beq_eq_false_iff_ne.2 h3
  by_cases h4 : f = 4
  · have d4 : (f == 4) = true := beq_iff_eq.2 h4
    have e : s = 5 := by rw [HS.out]; unfold slotI; simp [*]
    subst e
    clear h2 h3 h4 HS
    go_enter Try.func53, Try.ntmps53
    go_wp2
    go_ret
    exact ⟨rfl, rfl⟩
  have d4 : (f == 4) = false := beq_eq_false_iff_ne.2 h4
  by_cases h5 : f = 5
  · have d5 : (f == 5) = true := beq_iff_eq.2 h5
    have e : s = 6 := by rw [HS.out]; unfold slotI; simp [*]
    subst e
    clear h2 h3 h4 h5 HS
    go_enter Try.func53, Try.ntmps53
    go_wp2
    go_ret
    exact ⟨rfl, rfl⟩
  have d5 : (f == 5) = false := beq_eq_false_iff_ne.2 h5
  by_cases h6 : f = 6
  · have d6 : (f == 6) = true := beq_iff_eq.2 h6
    have e : s = 7 := by rw [HS.out]; unfold slotI; simp [*]
    subst e
    clear h2 h3 h4 h5 h6 HS
    go_enter Try.func53, Try.ntmps53
    go_wp2
    go_ret
    exact ⟨rfl, rfl⟩
  have d6 : (f == 6) = false := beq_eq_false_iff_ne.2 h6
  by_cases h8 : f = 8
  · have d8 : (f == 8) = true := beq_iff_eq.2 h8
    have e : s = 9 := by rw [HS.out]; unfold slotI; simp [*]
    subst e
    clear h2 h3 h4 h5 h6 h8 HS
    go_enter Try.func53, Try.ntmps53
    go_wp2
    go_ret
    exact ⟨rfl, rfl⟩
  have d8 : (f == 8) = false := beq_eq_false_iff_ne.2 h8
  by_cases h9 : f = 9
  · have d9 : (f == 9) = true := beq_iff_eq.2 h9
    have e : s = 10 := by rw [HS.out]; unfold slotI; simp [*]
    subst e
    clear h2 h3 h4 h5 h6 h8 h9 HS
    go_enter Try.func53, Try.ntmps53
    go_wp2
    go_ret
    exact ⟨rfl, rfl⟩
  have d9 : (f == 9) = false := beq_eq_false_iff_ne.2 h9
  by_cases h10 : f = 10
  · have d10 : (f == 10) = true := beq_iff_eq.2 h10
    have e : s = 11 := by rw [HS.out]; unfold slotI; simp [*]
    subst e
    clear h2 h3 h4 h5 h6 h8 h9 h10 HS
    go_enter Try.func53, Try.ntmps53
    go_wp2
    go_ret
    exact ⟨rfl, rfl⟩
  have d10 : (f == 10) = false := beq_eq_false_iff_ne.2 h10
  by_cases h12 : f = 12
  · have d12 : (f == 12) = true := beq_iff_eq.2 h12
    have e : s = 14 := by rw [HS.out]; unfold slotI; simp [*]
    subst e
    clear h2 h3 h4 h5 h6 h8 h9 h10 h12 HS
    go_enter Try.func53, Try.ntmps53
    go_wp2
    go_ret
    exact ⟨rfl, rfl⟩
  have d12 : (f == 12) = false := beq_eq_false_iff_ne.2 h12
  by_cases h13 : f = 13
  · have d13 : (f == 13) = true := beq_iff_eq.2 h13
    have e : s = 15 := by rw [HS.out]; unfold slotI; simp [*]
    subst e
    clear h2 h3 h4 h5 h6 h8 h9 h10 h12 h13 HS
    go_enter Try.func53, Try.ntmps53
    go_wp2
    go_ret
    exact ⟨rfl, rfl⟩
  have d13 : (f == 13) = false := beq_eq_false_iff_ne.2 h13
  by_cases h14 : f = 14
  · have d14 : (f == 14) = true := beq_iff_eq.2 h14
    have e : s = 21 := by rw [HS.out]; unfold slotI; simp [*]
    subst e
    clear h2 h3 h4 h5 h6 h8 h9 h10 h12 h13 h14 HS
    go_enter Try.func53, Try.ntmps53
    go_wp2
    go_ret
    exact ⟨rfl, rfl⟩
  have d14 : (f == 14) = false := beq_eq_false_iff_ne.2 h14
  by_cases h15 : f = 15
  · have d15 : (f == 15) = true := beq_iff_eq.2 h15
    have e : s = 22 := by rw [HS.out]; unfold slotI; simp [*]
    subst e
    clear h2 h3 h4 h5 h6 h8 h9 h10 h12 h13 h14 h15 HS
    go_enter Try.func53, Try.ntmps53
    go_wp2
    go_ret
    exact ⟨rfl, rfl⟩
  have d15 : (f == 15) = false := beq_eq_false_iff_ne.2 h15
  by_cases hw : which = 0
  · have dw : (which == 0) = true := beq_iff_eq.2 hw
    have e : s = 13 := by rw [HS.out]; unfold slotI; simp [*]
    subst e
    clear h2 h3 h4 h5 h6 h8 h9 h10 h12 h13 h14 h15 hw HS
    go_enter Try.func53, Try.ntmps53
    go_wp2
    go_ret
    exact ⟨rfl, rfl⟩
  · have dw : (which == 0) = false := beq_eq_false_iff_ne.2 hw
    have e : s = 20 := by rw [HS.out]; unfold slotI; simp [*]
    subst e
    clear h2 h3 h4 h5 h6 h8 h9 h10 h12 h13 h14 h15 hw HS
    go_enter Try.func53, Try.ntmps53
    go_wp2
    go_ret
    exact ⟨rfl, rfl⟩

end Go.Proofs.Ytncfofnikmfjbaa.PCi
