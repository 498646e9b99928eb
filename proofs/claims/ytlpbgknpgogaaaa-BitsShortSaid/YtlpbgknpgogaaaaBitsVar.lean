/- What the program's and the document's groups of seven digits come to, as printed, and what holds of them. -/
import Derived.Test.YtlpbgknpgogaaaaPBsx1
import Derived.Test.YtlpbgknpgogaaaaBitsPlain
namespace Go.Proofs.Ytlpbgknpgogaaaa.Bp
open Go Go.RowKit Go.Proofs.Ytlpbgknpgogaaaa.PBs Go.Proofs.YtlpbgknpgogaaaaW.PrintWords Go.Proofs.YtlpbgknpgogaaaaW.PrintLast Go.Proofs.YtlpbgknpgogaaaaW.PrintMore
set_option linter.unusedVariables false
set_option linter.unusedSimpArgs false

theorem varint_l0 (n : Nat) : ∀ (k v : Nat) (acc : List Int), v < 128 ^ (n + 1) → n + 1 ≤ k → acc.length + n + 1 < 140737488355328 → bits_Varint.l0 k (v : Int) acc = some (acc ++ vr v) := by
  induction n with
  | zero =>
    intro k v acc hv hk ha
    obtain ⟨K, rfl⟩ : ∃ K, k = K + 1 := ⟨k - 1, by omega⟩
    simp only [bits_Varint.l0]
    rw [if_neg (by omega), if_pos (by omega), vr_small (by omega), show ((v : Int)) % 256 = (v : Int) from by omega]
  | succ n ih =>
    intro k v acc hv hk ha
    obtain ⟨K, rfl⟩ : ∃ K, k = K + 1 := ⟨k - 1, by omega⟩
    simp only [bits_Varint.l0]
    by_cases c : v < 128
    · rw [if_neg (by omega), if_pos (by omega), vr_small c, show ((v : Int)) % 256 = (v : Int) from by omega]
    · rw [if_pos (by omega), if_pos (by omega), or128, show (v : Int) / 128 = ((v / 128 : Nat) : Int) from by omega, ih K (v / 128) _ ?_ (by omega) (by simp; omega), vr_big c]
      · rw [List.append_assoc, show ((v : Int)) % 128 + 128 = ((v % 128 + 128 : Nat) : Int) from by omega]
        rfl
      · rw [Nat.pow_succ] at hv
        omega

theorem varint_f (v : Nat) (hv : v < 18446744073709551616) (k : Nat) (hk : 10 ≤ k) : bits_Varint.f k (v : Int) = some (vr v) := by
  unfold bits_Varint.f
  rw [varint_l0 9 k v [] (by omega) (by omega) (by simp), List.nil_append]

theorem unvarint_l0 (l : List Int) (hl : l.length ≤ 4000000000000000000) (n : Nat) : ∀ (k i : Nat) (v : Int), i + n = l.length → i ≤ 10 → 2 * n + 1 ≤ k →
    bits_Unvarint.l0 k v l (l.length : Int) (i : Int) = some (unv (l.drop i) i v) := by
  induction n with
  | zero =>
    intro k i v hi h10 hk
    obtain ⟨K, rfl⟩ : ∃ K, k = K + 1 := ⟨k - 1, by omega⟩
    simp only [bits_Unvarint.l0]
    rw [if_neg (by omega), List.drop_eq_nil_of_le (by omega)]
    rfl
  | succ n ih =>
    intro k i v hi h10 hk
    obtain ⟨K, rfl⟩ : ∃ K, k = K + 1 + 1 := ⟨k - 2, by omega⟩
    simp only [bits_Unvarint.l0]
    rw [if_pos (by omega), if_pos (by omega), if_pos (by omega), drop_cons (by omega : i < l.length)]
    have j : ∀ b : Bool, (b = true ↔ (i = 10 ∨ (i = 9 ∧ rd l (i : Int) > 1) ∨ (0 < i ∧ rd l (i : Int) = 0))) → bits_Unvarint.j1 (K + 1) v (i : Int) (rd l (i : Int)) l (l.length : Int) (i : Int) b = some (unv (rd l (i : Int) :: l.drop (i + 1)) i v) := by
      intro b hb
      simp only [bits_Unvarint.j1, unv]
      by_cases c : b = true
      · rw [if_pos c, if_pos (hb.1 c)]
      · rw [if_neg c, if_neg (fun h => c (hb.2 h)), if_pos (by rw [w64 (by omega) (by omega)]; omega)]
        by_cases c2 : rd l (i : Int) < 128
        · rw [if_pos c2, if_pos c2, up64 i (by omega)]
          rfl
        · have h9 : i ≤ 9 := by
            rcases Nat.lt_or_ge i 10 with q | q
            · omega
            · exact absurd (hb.2 (Or.inl (by omega))) c
          rw [if_neg c2, if_neg c2, up64 i (by omega)]
          exact ih K (i + 1) _ (by omega) (by omega) (by omega)
    by_cases c1 : i = 10
    · rw [if_pos (by omega)]
      exact j true (by simp [c1])
    rw [if_neg (by omega)]
    by_cases c2 : i = 9
    · rw [if_pos (by omega)]
      by_cases c3 : rd l (i : Int) > 1
      · rw [if_pos c3]
        exact j true ⟨fun _ => Or.inr (Or.inl ⟨c2, c3⟩), fun _ => rfl⟩
      · rw [if_neg c3, if_pos (by omega)]
        exact j _ (by simp; omega)
    · rw [if_neg (by omega)]
      by_cases c4 : (i : Int) > 0
      · rw [if_pos c4]
        exact j _ (by simp; omega)
      · rw [if_neg c4]
        exact j false (by simp; omega)

theorem unvarint_f (l : List Int) (hl : l.length ≤ 4000000000000000000) (k : Nat) (hk : 2 * l.length + 1 ≤ k) : bits_Unvarint.f k l = some (unv l 0 0) := by
  unfold bits_Unvarint.f
  exact unvarint_l0 l hl l.length k 0 0 (by omega) (by omega) hk

theorem bytes_l0 (l m : List Int) (hl : l.length ≤ 4000000000000000000) (h : l.length = m.length) (n : Nat) : ∀ (k i : Nat), i + n = l.length → n + 1 ≤ k →
    bollardalike_Bytes.l0 k l m (i : Int) = some (decide (l.drop i = m.drop i)) := by
  induction n with
  | zero =>
    intro k i hi hk
    obtain ⟨K, rfl⟩ : ∃ K, k = K + 1 := ⟨k - 1, by omega⟩
    simp only [bollardalike_Bytes.l0]
    rw [if_neg (by omega), List.drop_eq_nil_of_le (by omega), List.drop_eq_nil_of_le (by omega)]
    simp
  | succ n ih =>
    intro k i hi hk
    obtain ⟨K, rfl⟩ : ∃ K, k = K + 1 := ⟨k - 1, by omega⟩
    simp only [bollardalike_Bytes.l0]
    rw [if_pos (by omega), if_pos (by omega), if_pos (by omega), drop_cons (by omega : i < l.length), drop_cons (by omega : i < m.length)]
    by_cases c : rd l (i : Int) = rd m (i : Int)
    · rw [if_pos c, up64 i (by omega), ih K (i + 1) (by omega) (by omega), c]
      simp
    · rw [if_neg c]
      simp [c]

theorem bytes_f (l m : List Int) (hl : l.length ≤ 4000000000000000000) (k : Nat) (hk : l.length + 1 ≤ k) : bollardalike_Bytes.f k l m = some (decide (l = m)) := by
  unfold bollardalike_Bytes.f
  by_cases c : (l.length : Int) = (m.length : Int)
  · rw [if_pos c]
    have := bytes_l0 l m hl (by omega) l.length k 0 (by omega) hk
    simpa using this
  · rw [if_neg c]
    have : l ≠ m := fun e => c (by rw [e])
    simp [this]

theorem vr_ne (v : Nat) : vr v ≠ [] := by
  by_cases h : v < 128
  · rw [vr_small h]; simp
  · rw [vr_big h]; simp

theorem vr_len (n : Nat) : ∀ v : Nat, v < 128 ^ (n + 1) → (vr v).length ≤ n + 1 := by
  induction n with
  | zero => intro v hv; rw [vr_small (by omega)]; simp
  | succ n ih =>
    intro v hv
    by_cases h : v < 128
    · rw [vr_small h]; simp
    · rw [vr_big h, List.length_cons]
      have := ih (v / 128) (by rw [Nat.pow_succ] at hv; omega)
      omega

theorem vr_bytes : ∀ v : Nat, Bytes (vr v) := by
  intro v
  induction v using Nat.strongRecOn with
  | _ v ih =>
    by_cases h : v < 128
    · rw [vr_small h]
      intro x hx
      simp at hx
      omega
    · rw [vr_big h]
      intro x hx
      rcases List.mem_cons.1 hx with rfl | hx
      · omega
      · exact ih (v / 128) (by omega) x hx

/-- What is written is read, whatever stands behind. -/
theorem unv_vr (n : Nat) : ∀ (i v : Nat) (u : Int) (rest : List Int), i + n = 10 → v < 128 ^ n → v * 128 ^ i < 18446744073709551616 → (i = 0 ∨ v ≠ 0) → 0 ≤ u → u < 128 ^ i →
    unv (vr v ++ rest) i u = (u + (v : Int) * 128 ^ i, ((i + (vr v).length : Nat) : Int)) := by
  induction n with
  | zero =>
    intro i v u rest hi hv h9 h0 hu0 hu
    omega
  | succ n ih =>
    intro i v u rest hi hv h9 h0 hu0 hu
    have h1 : i = 9 → v ≤ 1 := by
      intro e
      subst e
      simp only [Nat.reducePow] at h9
      omega
    by_cases h : v < 128
    · rw [vr_small h]
      simp only [List.cons_append, List.nil_append, unv]
      rw [if_neg (by omega), if_pos (by omega), put7_add (by omega) (by omega) (by omega) hu0 hu]
      rw [show ((v : Int)) % 128 = (v : Int) from by omega]
      simp
    · have h8 : i ≤ 8 := by omega
      rw [vr_big h]
      simp only [List.cons_append, unv]
      have hx : (0 : Int) ≤ ((v % 128 + 128 : Nat) : Int) ∧ ((v % 128 + 128 : Nat) : Int) < 256 := by omega
      rw [if_neg (by omega), if_neg (by omega), put7_add (by omega) hx (by omega) hu0 hu]
      have hm : ((v % 128 + 128 : Nat) : Int) % 128 = ((v % 128 : Nat) : Int) := by omega
      rw [hm]
      have hp : (0 : Int) < 128 ^ i := Int.pow_pos (by decide)
      have hs : (128 : Int) ^ (i + 1) = 128 ^ i * 128 := Int.pow_succ _ _
      have hb : ((v % 128 : Nat) : Int) * 128 ^ i ≤ 127 * 128 ^ i := Int.mul_le_mul_of_nonneg_right (by omega) (by omega)
      have hb0 : (0 : Int) ≤ ((v % 128 : Nat) : Int) * 128 ^ i := Int.mul_nonneg (by omega) (by omega)
      have hq : v / 128 * 128 ^ (i + 1) < 18446744073709551616 := by
        have : v / 128 * 128 ^ (i + 1) ≤ v * 128 ^ i := by
          rw [Nat.pow_succ, Nat.mul_comm (128 ^ i) 128, ← Nat.mul_assoc]
          exact Nat.mul_le_mul_right _ (Nat.div_mul_le_self v 128)
        omega
      rw [ih (i + 1) (v / 128) _ rest (by omega) (by rw [Nat.pow_succ] at hv; omega) hq (Or.inr (by omega)) (by omega) (by omega)]
      rw [List.length_cons]
      have e : ((v : Nat) : Int) = ((v % 128 : Nat) : Int) + 128 * ((v / 128 : Nat) : Int) := by omega
      have e2 : u + ((v % 128 : Nat) : Int) * 128 ^ i + ((v / 128 : Nat) : Int) * 128 ^ (i + 1) = u + (v : Int) * 128 ^ i := by
        rw [hs, e]
        simp only [Int.add_mul, Int.add_assoc]
        congr 2
        rw [Int.mul_comm (128 : Int) ((v / 128 : Nat) : Int), Int.mul_assoc, Int.mul_comm (128 : Int) (128 ^ i)]
      rw [e2, show i + 1 + (vr (v / 128)).length = i + ((vr (v / 128)).length + 1) from by omega]

theorem unv_varint (v : Nat) (hv : v < 18446744073709551616) (rest : List Int) : unv (vr v ++ rest) 0 0 = ((v : Int), ((vr v).length : Int)) := by
  have := unv_vr 10 0 v 0 rest rfl (by omega) (by omega) (Or.inl rfl) (by omega) (by omega)
  simpa using this

end Go.Proofs.Ytlpbgknpgogaaaa.Bp
