/- Plain facts on whole numbers as Go tells them: digits laid over one another, shifts, groups of seven, bytes of a number. No program in sight. -/
import Derived.Laws.BitsAllLaws
import Derived.RowKit
import Derived.Test.YtlpbgknpgogaaaaWMore
namespace Go.Proofs.Ytlpbgknpgogaaaa.Bp
open Go Go.RowKit Go.Proofs.YtlpbgknpgogaaaaW.PrintWords Go.Proofs.YtlpbgknpgogaaaaW.PrintLast Go.Proofs.YtlpbgknpgogaaaaW.PrintMore
set_option linter.unusedVariables false
set_option linter.unusedSimpArgs false

/-! one byte -/
set_option maxRecDepth 20000 in
theorem nat_or128 : ∀ n, n < 256 → n ||| 128 = n % 128 + 128 := by decide
set_option maxRecDepth 20000 in
theorem nat_and127 : ∀ n, n < 256 → n &&& 127 = n % 128 := by decide
theorem or128 (x : Int) : Go.bits .or .u8 (x % 256) 128 = x % 128 + 128 := by
  rw [u8_or _ _ (by omega) (by omega) (by omega) (by omega)]
  have := nat_or128 (x % 256).toNat (by omega)
  rw [show ((128 : Int)).toNat = 128 from rfl, this]
  omega
theorem and127 {x : Int} (h : 0 ≤ x ∧ x < 256) : Go.bits .and .u8 x 127 = x % 128 := by
  rw [u8_and _ _ (by omega) (by omega) (by omega) (by omega)]
  have := nat_and127 x.toNat (by omega)
  rw [show ((127 : Int)).toNat = 127 from rfl, this]
  omega
theorem u8_and1 {x : Int} (h : 0 ≤ x ∧ x < 256) : Go.bits .and .u8 x 1 = x % 2 := by
  rw [u8_and _ _ (by omega) (by omega) (by omega) (by omega)]
  rw [show ((1 : Int)).toNat = 1 from rfl, Nat.and_one_is_mod]
  omega

/-! words of 64 digits -/
theorem u64_and127 {x : Int} (h : 0 ≤ x ∧ x < 18446744073709551616) : Go.bits .and .u64 x 127 = x % 128 := by
  rw [u64_and _ _ (by omega) (by omega) (by omega) (by omega)]
  have := Nat.and_two_pow_sub_one_eq_mod x.toNat 7
  rw [show ((127 : Int)).toNat = 2 ^ 7 - 1 from rfl, this]
  omega
theorem u64_and1 {x : Int} (h : 0 ≤ x ∧ x < 18446744073709551616) : Go.bits .and .u64 x 1 = x % 2 := by
  rw [u64_and _ _ (by omega) (by omega) (by omega) (by omega)]
  rw [show ((1 : Int)).toNat = 1 from rfl, Nat.and_one_is_mod]
  omega
theorem u64_or128 {x : Int} (h : 0 ≤ x ∧ x < 128) : Go.bits .or .u64 x 128 = x + 128 := by
  rw [u64_or _ _ (by omega) (by omega) (by omega) (by omega)]
  have := nat_or128 x.toNat (by omega)
  rw [show ((128 : Int)).toNat = 128 from rfl, this]
  omega
/-- Digits above those of a smaller number. -/
theorem u64_or_add {v x : Int} (i : Nat) (h0 : 0 ≤ v) (h1 : v < 2 ^ i) (h2 : 0 ≤ x) (h3 : v + x * 2 ^ i < 18446744073709551616) : Go.bits .or .u64 v (x * 2 ^ i) = v + x * 2 ^ i := by
  obtain ⟨a, rfl⟩ := Int.eq_ofNat_of_zero_le h0
  obtain ⟨b, rfl⟩ := Int.eq_ofNat_of_zero_le h2
  have e : ((b : Int) * 2 ^ i) = ((2 ^ i * b : Nat) : Int) := by push_cast; rw [Int.mul_comm]
  rw [e] at h3 ⊢
  have ha : a < 2 ^ i := by exact_mod_cast h1
  rw [u64_or_nat _ _ (by omega) (by omega), Nat.or_comm, ← Nat.two_pow_add_eq_or_of_lt ha b]
  push_cast
  omega
theorem i64_and7 {x : Int} (h : 0 ≤ x) (h2 : x ≤ 9223372036854775807) : Go.bits .and .i64 x 7 = x % 8 := by
  obtain ⟨a, rfl⟩ := Int.eq_ofNat_of_zero_le h
  have e7 : (7 : Int) = ((7 : Nat) : Int) := rfl
  show IntKind.i64.wrap ((BitVec.ofInt 64 (a : Int) &&& BitVec.ofInt 64 (7 : Int)).toNat : Int) = _
  rw [e7, BitVec.ofInt_natCast, BitVec.ofInt_natCast, BitVec.toNat_and, BitVec.toNat_ofNat, BitVec.toNat_ofNat, Nat.mod_eq_of_lt (by omega), Nat.mod_eq_of_lt (by omega)]
  have := Nat.and_two_pow_sub_one_eq_mod a 3
  rw [show (7 : Nat) = 2 ^ 3 - 1 from rfl, this]
  have h8 : a % 2 ^ 3 < 8 := Nat.mod_lt _ (by omega)
  rw [i64_w]
  unfold wrap64
  omega

theorem w64 {x : Int} (h : -9223372036854775808 ≤ x) (h2 : x ≤ 9223372036854775807) : wrap64 x = x := by unfold wrap64; omega
theorem u64_id {x : Int} (h : 0 ≤ x) (h2 : x < 18446744073709551616) : IntKind.u64.wrap x = x := by rw [IntKind.wrap_u64]; omega
theorem up64 (i : Nat) (h : i ≤ 4000000000000000000) : wrap64 ((i : Int) + 1) = ((i + 1 : Nat) : Int) := by unfold wrap64; omega
theorem wf8 {x : Int} (h : (Lit.int .u8 x).wf = true) : 0 ≤ x ∧ x < 256 := by
  simp only [Lit.wf, IntKind.min, IntKind.max, IntKind.signed, IntKind.bits] at h
  simp at h
  omega
theorem wf64 {x : Int} (h : (Lit.int .u64 x).wf = true) : 0 ≤ x ∧ x < 18446744073709551616 := by
  simp only [Lit.wf, IntKind.min, IntKind.max, IntKind.signed, IntKind.bits] at h
  simp at h
  omega
theorem wfi {x : Int} (h : (Lit.int .i64 x).wf = true) : -9223372036854775808 ≤ x ∧ x ≤ 9223372036854775807 := by
  simp only [Lit.wf, IntKind.min, IntKind.max, IntKind.signed, IntKind.bits] at h
  simp at h
  omega
def Bytes (l : List Int) : Prop := ∀ x ∈ l, 0 ≤ x ∧ x < 256
theorem bytes_of {l : List Int} (h : ∀ x ∈ l, (Lit.int .u8 x).wf = true) : Bytes l := fun x hx => wf8 (h x hx)
theorem rd_at {l : List Int} {i : Nat} (h : i < l.length) : rd l (i : Int) = l[i] := by
  unfold rd
  rw [Int.toNat_natCast, List.getD_eq_getElem?_getD, List.getElem?_eq_getElem h]
  rfl
theorem rd_byte {l : List Int} (h : Bytes l) (i : Int) : 0 ≤ rd l i ∧ rd l i < 256 := by
  unfold rd
  rw [List.getD_eq_getElem?_getD]
  cases e : l[i.toNat]? with
  | none => simp
  | some x => exact h x (List.mem_of_getElem? e)
theorem drop_cons {l : List Int} {i : Nat} (h : i < l.length) : l.drop i = rd l (i : Int) :: l.drop (i + 1) := by
  rw [rd_at h, List.drop_eq_getElem_cons h]

/-! groups of seven digits -/
def vr (v : Nat) : List Int := if h : v < 128 then [(v : Int)] else ((v % 128 + 128 : Nat) : Int) :: vr (v / 128)
termination_by v
decreasing_by omega
theorem vr_small {v : Nat} (h : v < 128) : vr v = [(v : Int)] := by rw [vr, dif_pos h]
theorem vr_big {v : Nat} (h : ¬ v < 128) : vr v = ((v % 128 + 128 : Nat) : Int) :: vr (v / 128) := by rw [vr, dif_neg h]

/-- What a group adds. -/
def put7 (v x : Int) (i : Nat) : Int := Go.bits .or .u64 v (shl .u64 (IntKind.u64.wrap (Go.bits .and .u8 x 127)) (wrap64 (7 * (i : Int))))
/-- Bytes read as groups: from the i-th on, v read so far. -/
def unv : List Int → Nat → Int → Int × Int
  | [], _, _ => (0, 0)
  | x :: xs, i, v => if i = 10 ∨ (i = 9 ∧ x > 1) ∨ (0 < i ∧ x = 0) then (0, 0) else if x < 128 then (put7 v x i, (i : Int) + 1) else unv xs (i + 1) (put7 v x i)

theorem put7_add {v x : Int} {i : Nat} (hi : i ≤ 9) (hx : 0 ≤ x ∧ x < 256) (h9 : i = 9 → x % 128 ≤ 1) (h0 : 0 ≤ v) (h1 : v < 128 ^ i) : put7 v x i = v + (x % 128) * 128 ^ i := by
  unfold put7
  rw [and127 hx, u64_id (by omega) (by omega), w64 (by omega) (by omega)]
  unfold shl
  have hb : min (7 * (i : Int)).toNat IntKind.u64.bits = 7 * i := by
    simp only [IntKind.bits]; omega
  rw [hb]
  have hp : (128 : Int) ^ i = 2 ^ (7 * i) := by rw [Int.pow_mul]; rfl
  rw [hp] at h1 ⊢
  have hlt : v + x % 128 * 2 ^ (7 * i) < 18446744073709551616 := by
    have hc : i = 0 ∨ i = 1 ∨ i = 2 ∨ i = 3 ∨ i = 4 ∨ i = 5 ∨ i = 6 ∨ i = 7 ∨ i = 8 ∨ i = 9 := by omega
    rcases hc with h | h | h | h | h | h | h | h | h | h <;> subst h <;> simp at h1 ⊢ <;> omega
  have hnn : (0 : Int) ≤ x % 128 * 2 ^ (7 * i) := Int.mul_nonneg (by omega) (Int.pow_nonneg (by decide))
  rw [u64_id hnn (by omega)]
  exact u64_or_add (7 * i) h0 h1 (by omega) hlt

end Go.Proofs.Ytlpbgknpgogaaaa.Bp
