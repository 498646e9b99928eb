/- Numbers of some bytes: plain facts. A number's bytes, greatest first (beL) or as they are laid into a row (lay); what bytes come to (be). -/
import Derived.Test.YtlpbgknpgogaaaaBitsPlain
namespace Go.Proofs.Ytlpbgknpgogaaaa.Bp
open Go Go.RowKit Go.Proofs.YtlpbgknpgogaaaaW.PrintWords Go.Proofs.YtlpbgknpgogaaaaW.PrintLast Go.Proofs.YtlpbgknpgogaaaaW.PrintMore
set_option linter.unusedVariables false
set_option linter.unusedSimpArgs false

theorem u64_shl_or {v b : Int} (h0 : 0 ≤ v) (hb : 0 ≤ b ∧ b < 256) (h : v * 256 + b < 18446744073709551616) : Go.bits .or .u64 (v * 256) b = v * 256 + b := by
  obtain ⟨a, rfl⟩ := Int.eq_ofNat_of_zero_le h0
  obtain ⟨c, rfl⟩ := Int.eq_ofNat_of_zero_le hb.1
  have e : ((a : Int) * 256) = ((2 ^ 8 * a : Nat) : Int) := by omega
  rw [e] at h ⊢
  rw [u64_or_nat _ _ (by omega) (by omega), ← Nat.two_pow_add_eq_or_of_lt (show c < 2 ^ 8 from by omega) a]
  omega

/-- The j-th byte of a number, the least one first. -/
def dg (v j : Nat) : Int := ((v / 256 ^ j % 256 : Nat) : Int)
theorem dg_byte (v j : Nat) : 0 ≤ dg v j ∧ dg v j < 256 := by unfold dg; omega
theorem dg_shr (v j : Nat) (hj : j ≤ 7) : (shr .u64 (v : Int) (8 * (j : Int))) % 256 = dg v j := by
  unfold shr dg
  simp only [IntKind.bits]
  rw [show min (8 * (j : Int)).toNat 64 = 8 * j from by omega]
  have hp : (2 : Int) ^ (8 * j) = ((256 ^ j : Nat) : Int) := by rw [Int.pow_mul, Int.natCast_pow]; rfl
  rw [hp, Int.natCast_emod, Int.natCast_ediv]
  rfl

/-- What bytes come to, the greatest first. -/
def be (l : List Int) : Int := l.foldl (fun v b => v * 256 + b) 0
theorem be_from (l : List Int) : ∀ v : Int, l.foldl (fun v b => v * 256 + b) v = v * 256 ^ l.length + be l := by
  induction l with
  | nil => intro v; simp [be]
  | cons b l ih =>
    intro v
    unfold be
    rw [List.foldl_cons, List.foldl_cons, ih, ih (0 * 256 + b), List.length_cons, Int.pow_succ, Int.add_mul, Int.mul_assoc, Int.mul_comm 256, Int.zero_mul, Int.zero_add, Int.add_assoc]
theorem be_nil : be [] = 0 := rfl
theorem be_append (l m : List Int) : be (l ++ m) = be l * 256 ^ m.length + be m := by
  unfold be
  rw [List.foldl_append]
  exact be_from m _
theorem be_snoc (l : List Int) (b : Int) : be (l ++ [b]) = be l * 256 + b := by unfold be; rw [List.foldl_append]; rfl
theorem be_cons (b : Int) (l : List Int) : be (b :: l) = b * 256 ^ l.length + be l := by
  have := be_append [b] l
  simpa [be] using this
theorem be_range (l : List Int) (h : Bytes l) : 0 ≤ be l ∧ be l < 256 ^ l.length := by
  induction l with
  | nil => exact ⟨by rw [be_nil]; omega, by rw [be_nil]; simp⟩
  | cons b l ih =>
    have h1 := ih (fun x hx => h x (by simp [hx]))
    have h2 := h b (by simp)
    have hp : (0 : Int) < 256 ^ l.length := Int.pow_pos (by decide)
    rw [be_cons, List.length_cons, Int.pow_succ, Int.mul_comm _ 256]
    have l1 : 0 * 256 ^ l.length ≤ b * 256 ^ l.length := Int.mul_le_mul_of_nonneg_right (by omega) (by omega)
    have l2 : b * 256 ^ l.length ≤ 255 * 256 ^ l.length := Int.mul_le_mul_of_nonneg_right (by omega) (by omega)
    constructor <;> omega
theorem pow256_le {a b : Nat} (h : a ≤ b) : (256 : Int) ^ a ≤ 256 ^ b := by
  obtain ⟨c, rfl⟩ := Nat.exists_eq_add_of_le h
  rw [Int.pow_add]
  have h1 : (0 : Int) < 256 ^ a := Int.pow_pos (by decide)
  have h2 : (0 : Int) < 256 ^ c := Int.pow_pos (by decide)
  have : (256 : Int) ^ a * 1 ≤ 256 ^ a * 256 ^ c := Int.mul_le_mul_of_nonneg_left (by omega) (by omega)
  omega

/-- A number's bytes, the greatest first. -/
def beL (v : Nat) : Nat → List Int
  | 0 => []
  | n + 1 => dg v n :: beL v n
theorem beL_length (v n : Nat) : (beL v n).length = n := by
  induction n with
  | zero => rfl
  | succ n ih => rw [beL, List.length_cons, ih]
theorem beL_bytes (v n : Nat) : Bytes (beL v n) := by
  induction n with
  | zero => intro x hx; simp [beL] at hx
  | succ n ih =>
    intro x hx
    rcases List.mem_cons.1 hx with rfl | hx
    · exact dg_byte v n
    · exact ih x hx
theorem beL_get (v n p : Nat) (h : p < n) : (beL v n)[p]? = some (dg v (n - 1 - p)) := by
  induction n generalizing p with
  | zero => omega
  | succ n ih =>
    rw [beL]
    cases p with
    | zero => simp
    | succ p => rw [List.getElem?_cons_succ, ih p (by omega), show n - 1 - p = n + 1 - 1 - (p + 1) from by omega]
theorem be_beL (v n : Nat) : be (beL v n) = ((v % 256 ^ n : Nat) : Int) := by
  induction n with
  | zero => simp [beL, be_nil, Nat.mod_one]
  | succ n ih =>
    rw [beL, show dg v n :: beL v n = [dg v n] ++ beL v n from rfl, be_append, ih, beL_length, Nat.pow_succ, Nat.mod_mul]
    unfold dg
    have : be [((v / 256 ^ n % 256 : Nat) : Int)] = ((v / 256 ^ n % 256 : Nat) : Int) := by simp [be]
    rw [this, Int.natCast_add, Int.natCast_mul, Int.natCast_pow, Int.mul_comm, Int.add_comm]
    rfl

/-- A row with n bytes of it, from place a on, laid anew. -/
def lay (l : List Int) (a n : Nat) (d : Nat → Int) : List Int := l.take a ++ ((List.range n).map d ++ l.drop (a + n))
theorem lay_length (l : List Int) (a n : Nat) (d : Nat → Int) (h : a + n ≤ l.length) : (lay l a n d).length = l.length := by
  unfold lay
  simp
  omega
theorem lay_get (l : List Int) (a n : Nat) (d : Nat → Int) (h : a + n ≤ l.length) (p : Nat) : (lay l a n d)[p]? = if a ≤ p ∧ p < a + n then some (d (p - a)) else l[p]? := by
  unfold lay
  by_cases h1 : p < a
  · rw [List.getElem?_append_left (by simp; omega), if_neg (by omega), List.getElem?_take_of_lt h1]
  · rw [List.getElem?_append_right (by simp; omega), List.length_take, Nat.min_eq_left (by omega)]
    by_cases h2 : p < a + n
    · rw [List.getElem?_append_left (by simp; omega), if_pos (by omega), List.getElem?_map, List.getElem?_range (by omega)]
      rfl
    · rw [List.getElem?_append_right (by simp; omega), if_neg (by omega), List.getElem?_drop, List.length_map, List.length_range]
      congr 1
      omega
theorem lay_eq {l m : List Int} {a n : Nat} {d : Nat → Int} (h : a + n ≤ l.length) (hm : ∀ p, m[p]? = if a ≤ p ∧ p < a + n then some (d (p - a)) else l[p]?) : m = lay l a n d := by
  apply List.ext_getElem?
  intro p
  rw [hm p, lay_get l a n d h p]
theorem lay_bytes (l : List Int) (a n : Nat) (d : Nat → Int) (hl : Bytes l) (hd : ∀ p, 0 ≤ d p ∧ d p < 256) : Bytes (lay l a n d) := by
  intro x hx
  unfold lay at hx
  rcases List.mem_append.1 hx with hx | hx
  · exact hl x (List.mem_of_mem_take hx)
  · rcases List.mem_append.1 hx with hx | hx
    · obtain ⟨p, _, rfl⟩ := List.mem_map.1 hx
      exact hd p
    · exact hl x (List.mem_of_mem_drop hx)
/-- What is read there. -/
theorem lay_seg (l : List Int) (a n : Nat) (d : Nat → Int) (h : a + n ≤ l.length) : ((lay l a n d).drop a).take n = (List.range n).map d := by
  unfold lay
  rw [List.drop_append_of_le_length (by simp; omega), List.drop_eq_nil_of_le (by simp; omega), List.nil_append, List.take_append_of_le_length (by simp), List.take_of_length_le (by simp)]
/-- Which byte of a number stands at which place. -/
def wh (n : Nat) (big : Bool) (p : Nat) : Nat := if big = true then n - 1 - p else p
theorem range_big (v n : Nat) : (List.range n).map (fun p => dg v (wh n true p)) = beL v n := by
  apply List.ext_getElem?
  intro p
  by_cases h : p < n
  · rw [beL_get v n p h]
    simp [h, wh]
  · rw [List.getElem?_eq_none (by simp; omega), List.getElem?_eq_none (by rw [beL_length]; omega)]
theorem range_little (v n : Nat) : (List.range n).map (fun p => dg v (wh n false p)) = (beL v n).reverse := by
  apply List.ext_getElem?
  intro p
  by_cases h : p < n
  · rw [List.getElem?_reverse (by rw [beL_length]; omega), beL_length, beL_get v n _ (by omega)]
    simp [h, wh]
    congr 1
    omega
  · rw [List.getElem?_eq_none (by simp; omega), List.getElem?_eq_none (by rw [List.length_reverse, beL_length]; omega)]
/-- A number that is read: of so many bytes from place a on, the greatest first or last. -/
def get (l : List Int) (a n : Nat) (big : Bool) : Int := be (if big = true then (l.drop a).take n else ((l.drop a).take n).reverse)
theorem seg_bytes {l : List Int} (h : Bytes l) (a n : Nat) : Bytes ((l.drop a).take n) := fun x hx => h x (List.mem_of_mem_drop (List.mem_of_mem_take hx))
theorem rev_bytes {l : List Int} (h : Bytes l) : Bytes l.reverse := fun x hx => h x (List.mem_reverse.1 hx)
theorem get_range {l : List Int} (h : Bytes l) (a n : Nat) (big : Bool) : 0 ≤ get l a n big ∧ get l a n big < 256 ^ n := by
  unfold get
  have hb := seg_bytes h a n
  have hl : ((l.drop a).take n).length ≤ n := by simp; omega
  have := pow256_le hl
  split
  · have := be_range _ hb
    omega
  · have := be_range _ (rev_bytes hb)
    rw [List.length_reverse] at this
    omega
theorem get_lay (l : List Int) (a n v : Nat) (big : Bool) (h : a + n ≤ l.length) : get (lay l a n (fun p => dg v (wh n big p))) a n big = ((v % 256 ^ n : Nat) : Int) := by
  unfold get
  rw [lay_seg l a n _ h]
  cases big with
  | true => rw [if_pos rfl, range_big, be_beL]
  | false => rw [if_neg (by simp), range_little, List.reverse_reverse, be_beL]

end Go.Proofs.Ytlpbgknpgogaaaa.Bp
