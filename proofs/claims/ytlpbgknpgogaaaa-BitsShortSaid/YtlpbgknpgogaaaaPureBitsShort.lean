/- A number has no shorter groups; cut short they are none, and so with a nought behind. -/
import Derived.Test.YtlpbgknpgogaaaaPBsx2
import Derived.Test.YtlpbgknpgogaaaaBitsVar
import Derived.Test.YtlpbgknpgogaaaaBitsAwake
namespace Go.Proofs.Ytlpbgknpgogaaaa.Pure
open Go Go.RowKit Go.Proofs.Ytlpbgknpgogaaaa.PBs Go.Proofs.YtlpbgknpgogaaaaW.PrintWords Go.Proofs.YtlpbgknpgogaaaaW.PrintLast Go.Proofs.YtlpbgknpgogaaaaW.PrintMore Go.Proofs.Ytlpbgknpgogaaaa.Bp
set_option linter.unusedVariables false
set_option linter.unusedSimpArgs false

theorem round_f (x n : Int) (h : 0 < n) (hn : n ≤ 1000000000000) (hx : -9223372036854775808 ≤ x ∧ x ≤ 9223372036854775807) : ∃ j, bollardalike_Round.f x n = some j ∧ 0 ≤ j ∧ j < n := by
  unfold bollardalike_Round.f
  have h1 := Int.tmod_lt_of_pos x h
  have h2 : -n < Int.tmod x n := by
    have := Int.tmod_lt_of_pos (-x) h
    rw [Int.neg_tmod] at this
    omega
  rw [if_neg (by omega)]
  by_cases c : Int.tmod x n < 0
  · rw [if_pos c, show wrap64 (Int.tmod x n + n) = Int.tmod x n + n from by unfold wrap64; omega]
    exact ⟨_, rfl, by omega, by omega⟩
  · rw [if_neg c]
    exact ⟨_, rfl, by omega, h1⟩
/-- Groups that all go on are no number. -/
theorem unv_on : ∀ (l : List Int) (i : Nat) (u : Int), (∀ x ∈ l, 128 ≤ x) → (unv l i u).2 = 0
  | [], i, u, _ => rfl
  | x :: l, i, u, h => by
    rw [unv]
    split
    · rfl
    · rw [if_neg (by have := h x List.mem_cons_self; omega)]
      exact unv_on l (i + 1) _ (fun y hy => h y (List.mem_cons_of_mem _ hy))
/-- .. and none with a nought behind. -/
theorem unv_nought : ∀ (l : List Int) (i : Nat) (u : Int), (∀ x ∈ l, 128 ≤ x) → 0 < l.length + i → (unv (l ++ [0]) i u).2 = 0
  | [], i, u, _, h => by
    rw [List.nil_append, unv, if_pos (Or.inr (Or.inr ⟨by simpa using h, rfl⟩))]
  | x :: l, i, u, h, _ => by
    rw [List.cons_append, unv]
    split
    · rfl
    · rw [if_neg (by have := h x List.mem_cons_self; omega)]
      exact unv_nought l (i + 1) _ (fun y hy => h y (List.mem_cons_of_mem _ hy)) (by omega)
/-- A number's groups: all but the last go on; so many as it needs. -/
theorem vr_form (n : Nat) : ∀ v : Nat, v < 128 ^ (n + 1) → ∃ (il : List Int) (x : Int), vr v = il ++ [x] ∧ (∀ y ∈ il, 128 ≤ y) ∧ 0 ≤ x ∧ x < 128 ∧ v < 128 ^ (il.length + 1) ∧ (0 < il.length → 128 ^ il.length ≤ v) := by
  induction n with
  | zero =>
    intro v hv
    have hv : v < 128 := by simpa using hv
    exact ⟨[], v, vr_small hv, fun y hy => (by cases hy), by omega, by omega, by simpa using hv, fun h => (by simp at h)⟩
  | succ n ih =>
    intro v hv
    by_cases c : v < 128
    · exact ⟨[], v, vr_small c, fun y hy => (by cases hy), by omega, by omega, by simpa using c, fun h => (by simp at h)⟩
    · have hp : (128 : Nat) ^ (n + 1 + 1) = 128 ^ (n + 1) * 128 := Nat.pow_succ ..
      obtain ⟨il, x, e, h1, h2, h3, h4, h5⟩ := ih (v / 128) (by omega)
      have p1 : (128 : Nat) ^ (il.length + 1 + 1) = 128 ^ (il.length + 1) * 128 := Nat.pow_succ ..
      have p2 : (128 : Nat) ^ (il.length + 1) = 128 ^ il.length * 128 := Nat.pow_succ ..
      refine ⟨((v % 128 + 128 : Nat) : Int) :: il, x, by rw [vr_big c, e]; rfl, fun y hy => ?_, h2, h3, by rw [List.length_cons]; omega, fun _ => ?_⟩
      · rcases List.mem_cons.1 hy with rfl | hy
        · omega
        · exact h1 y hy
      · rw [List.length_cons]
        by_cases d : 0 < il.length
        · have := h5 d
          omega
        · have : il.length = 0 := by omega
          rw [this]
          omega
theorem shl_pow (m : Nat) (h : m ≤ 9) : shl .u64 1 (7 * (m : Int)) = ((128 ^ m : Nat) : Int) := by
  have : m = 0 ∨ m = 1 ∨ m = 2 ∨ m = 3 ∨ m = 4 ∨ m = 5 ∨ m = 6 ∨ m = 7 ∨ m = 8 ∨ m = 9 := by omega
  rcases this with h | h | h | h | h | h | h | h | h | h <;> subst h <;> rfl
set_option maxRecDepth 100000 in
theorem or_on {x : Int} (h : 0 ≤ x ∧ x < 128) : 128 ≤ Go.bits .or .u8 x 128 := by
  obtain ⟨X, rfl⟩ := Int.eq_ofNat_of_zero_le h.1
  have hX : X < 128 := by omega
  revert hX
  clear h
  revert X
  decide
theorem BitsShort : bollardlaw1_BitsShort.Pure := by
  intro v a hv ha
  have hv := wf64 hv
  have ha := wfi ha
  obtain ⟨V, rfl⟩ := Int.eq_ofNat_of_zero_le hv.1
  have hV : V < 18446744073709551616 := by omega
  have hp0 : (128 : Nat) ^ (9 + 1) = 1180591620717411303424 := by decide
  have hp : V < 128 ^ (9 + 1) := by omega
  obtain ⟨il, x, e, h1, h2, h3, h4, h5⟩ := vr_form 9 V hp
  have hl : (vr V).length = il.length + 1 := by rw [e, List.length_append]; rfl
  have hle : il.length ≤ 9 := by
    have := vr_len 9 V hp
    omega
  obtain ⟨j, hj, j0, j1⟩ := round_f a ((vr V).length : Int) (by omega) (by omega) ha
  have ht : (vr V).take j.toNat = il.take j.toNat := by
    rw [e, List.take_append_of_le_length (by omega)]
  have hr : rd (vr V) (((vr V).length : Int) - 1) = x := by
    rw [show ((vr V).length : Int) - 1 = ((il.length : Nat) : Int) by omega]
    unfold rd
    rw [Int.toNat_natCast, e, List.getD_eq_getElem?_getD, List.getElem?_append_right (Nat.le_refl _), Nat.sub_self]
    rfl
  have hb : bollardlaw1_BitsShort.tail (vr V) = (il ++ [Go.bits .or .u8 x 128]) ++ [0] := by
    unfold bollardlaw1_BitsShort.tail
    rw [hr, show (vr V).length - 1 = il.length by omega, e, List.take_left, List.append_assoc]
    rfl
  have hon : ∀ y ∈ il ++ [Go.bits .or .u8 x 128], 128 ≤ y := fun y hy => by
    rcases List.mem_append.1 hy with hy | hy
    · exact h1 y hy
    · rw [List.mem_singleton.1 hy]; exact or_on ⟨h2, h3⟩
  refine ⟨200, ?_⟩
  unfold bollardlaw1_BitsShort.f
  have u1 := unv_on (il.take j.toNat) 0 0 (fun y hy => h1 y (List.mem_of_mem_take hy))
  have u2 := unv_nought (il ++ [Go.bits .or .u8 x 128]) 0 0 hon (by simp)
  have l1 : (il.take j.toNat).length ≤ 9 := by rw [List.length_take]; omega
  have q1 : 1 < (vr V).length → shl .u64 1 (7 * (((vr V).length : Int) - 1)) ≤ (V : Int) := fun h => by
    rw [hl, show ((il.length + 1 : Nat) : Int) - 1 = ((il.length : Nat) : Int) by omega, shl_pow _ hle]
    have := h5 (by omega)
    omega
  have q2 : (vr V).length < 10 → (V : Int) < shl .u64 1 (7 * ((vr V).length : Int)) := fun h => by
    rw [hl, shl_pow _ (by omega)]
    omega
  rw [varint_f V hV 200 (by omega), Option.bind_some, hj, Option.bind_some, ht, unvarint_f _ (by omega) 200 (by omega), Option.bind_some, hb, unvarint_f _ (by simp; omega) 200 (by simp; omega), Option.bind_some, if_pos ⟨by omega, by omega, q1, q2, j0, by omega, u1, u2⟩, awake_f _ (by omega)]
  rfl
end Go.Proofs.Ytlpbgknpgogaaaa.Pure
