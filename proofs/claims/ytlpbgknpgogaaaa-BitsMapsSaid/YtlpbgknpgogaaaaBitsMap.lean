/- Maps of bits: plain facts (tb: a bit; setb: a row with a bit set; cn: how many are set ahead of a place) and what the program's Test, Set, First and Count come to, as printed. -/
import Derived.Test.YtlpbgknpgogaaaaPBnx1
import Derived.Test.YtlpbgknpgogaaaaPBnx4
import Derived.Test.YtlpbgknpgogaaaaPBnx2
import Derived.Test.YtlpbgknpgogaaaaPBnx5
import Derived.Test.YtlpbgknpgogaaaaBitsPutF
namespace Go.Proofs.Ytlpbgknpgogaaaa.Bp
open Go Go.RowKit Go.Proofs.Ytlpbgknpgogaaaa.PBn Go.Proofs.YtlpbgknpgogaaaaW.PrintWords Go.Proofs.YtlpbgknpgogaaaaW.PrintLast Go.Proofs.YtlpbgknpgogaaaaW.PrintMore
set_option linter.unusedVariables false
set_option linter.unusedSimpArgs false

def bitOf (x : Int) (j : Nat) : Bool := x.toNat.testBit j
def tb (l : List Int) (k : Nat) : Bool := bitOf (rd l ((k / 8 : Nat) : Int)) (k % 8)
theorem bit_num {x : Int} (h : 0 ≤ x ∧ x < 256) (j : Nat) : x / 2 ^ j % 2 = if bitOf x j = true then 1 else 0 := by
  obtain ⟨n, rfl⟩ := Int.eq_ofNat_of_zero_le h.1
  unfold bitOf
  rw [Int.toNat_natCast, Nat.testBit_eq_decide_div_mod_eq]
  have e : ((n : Int) / 2 ^ j % 2) = ((n / 2 ^ j % 2 : Nat) : Int) := by rw [Int.natCast_emod, Int.natCast_ediv, Int.natCast_pow]; rfl
  rw [e]
  rcases Nat.mod_two_eq_zero_or_one (n / 2 ^ j) with q | q <;> simp [q]
theorem shr8 {x : Int} (h : 0 ≤ x ∧ x < 256) (j : Nat) (hj : j ≤ 7) : Go.bits .and .u8 (shr .u8 x (j : Int)) 1 = if bitOf x j = true then 1 else 0 := by
  unfold shr
  simp only [IntKind.bits]
  rw [show min ((j : Int)).toNat 8 = j from by omega]
  have hp : (0 : Int) < 2 ^ j := Int.pow_pos (by decide)
  have h0 : 0 ≤ x / 2 ^ j := Int.ediv_nonneg h.1 (by omega)
  have h1 : x / 2 ^ j ≤ x := Int.ediv_le_self _ h.1
  rw [u8_and1 (by omega), bit_num h j]
theorem tb_out (l : List Int) (k : Nat) (h : l.length ≤ k / 8) : tb l k = false := by
  unfold tb bitOf rd
  rw [Int.toNat_natCast, List.getD_eq_getElem?_getD, List.getElem?_eq_none h]
  simp

theorem test_f (l : List Int) (hb : Bytes l) (k : Nat) (hk : k ≤ 9223372036854775807) : bits_Test.f l (k : Int) = some (tb l k) := by
  unfold bits_Test.f
  rw [if_pos (by omega), show (k : Int) / 8 = ((k / 8 : Nat) : Int) from by omega]
  by_cases c : ((k / 8 : Nat) : Int) < (l.length : Int)
  · rw [if_pos c, if_pos (by omega), i64_and7 (by omega) (by omega), if_pos (by omega), show (k : Int) % 8 = ((k % 8 : Nat) : Int) from by omega, shr8 (rd_byte hb _) (k % 8) (by omega)]
    unfold tb
    cases bitOf (rd l ((k / 8 : Nat) : Int)) (k % 8) <;> simp
  · rw [if_neg c, tb_out l k (by omega)]
theorem test_neg (l : List Int) (k : Int) (h : k < 0) : bits_Test.f l k = some false := by
  unfold bits_Test.f
  rw [if_neg (by omega)]

/-! one bit of a byte set -/
def setByte (x : Int) (m : Nat) (on : Bool) : Int := if on = true then Go.bits .or .u8 x (shl .u8 1 (m : Int)) else Go.bits .andNot .u8 x (shl .u8 1 (m : Int))
theorem two_le (m : Nat) (h : m ≤ 7) : ∃ p : Nat, p = 2 ^ m ∧ 1 ≤ p ∧ p ≤ 128 := ⟨2 ^ m, rfl, Nat.two_pow_pos m, Nat.pow_le_pow_right (by omega) h⟩
theorem shl8 (m p : Nat) (h : m ≤ 7) (hp : p = 2 ^ m) (hl : p ≤ 128) : shl .u8 1 (m : Int) = (p : Int) := by
  unfold shl
  simp only [IntKind.bits]
  rw [show min ((m : Int)).toNat 8 = m from by omega, Int.one_mul, IntKind.wrap_u8']
  have e : ((2 : Int)) ^ m = (p : Int) := by rw [hp, Int.natCast_pow]; rfl
  rw [e]
  omega
set_option maxRecDepth 20000 in
theorem not_bits : ∀ m, m < 8 → ∀ j, j < 8 → (255 - 2 ^ m).testBit j = !decide (j = m) := by decide
theorem setByte_range {x : Int} (h : 0 ≤ x ∧ x < 256) (m : Nat) (hm : m ≤ 7) (on : Bool) : 0 ≤ setByte x m on ∧ setByte x m on < 256 := by
  unfold setByte
  obtain ⟨p, hp, h1, h2⟩ := two_le m hm
  rw [shl8 m p hm hp h2]
  split
  · rw [u8_or x _ h.1 h.2 (by omega) (by omega), Int.toNat_natCast]
    have := Nat.or_lt_two_pow (show x.toNat < 2 ^ 8 from by omega) (show p < 2 ^ 8 from by omega)
    omega
  · rw [u8_andNot x _ h.1 h.2 (by omega) (by omega), Int.toNat_natCast]
    have := Nat.and_lt_two_pow x.toNat (show 255 - p < 2 ^ 8 from by omega)
    omega
theorem setByte_bit {x : Int} (h : 0 ≤ x ∧ x < 256) (m j : Nat) (hm : m ≤ 7) (hj : j ≤ 7) (on : Bool) : bitOf (setByte x m on) j = if j = m then on else bitOf x j := by
  unfold setByte bitOf
  obtain ⟨p, hp, h1, h2⟩ := two_le m hm
  rw [shl8 m p hm hp h2]
  cases on with
  | true =>
    rw [if_pos rfl, u8_or x _ h.1 h.2 (by omega) (by omega), Int.toNat_natCast, Int.toNat_natCast, hp, Nat.testBit_or, Nat.testBit_two_pow]
    by_cases e : j = m
    · subst e; simp
    · rw [if_neg e, decide_eq_false (by omega), Bool.or_false]
  | false =>
    rw [if_neg (by simp), u8_andNot x _ h.1 h.2 (by omega) (by omega), Int.toNat_natCast, Int.toNat_natCast, hp, Nat.testBit_and, not_bits m (by omega) j (by omega)]
    by_cases e : j = m
    · subst e; simp
    · rw [if_neg e, decide_eq_false e]; simp

/-- A row with a bit set. -/
def setb (l : List Int) (k : Nat) (on : Bool) : List Int := l.set (k / 8) (setByte (rd l ((k / 8 : Nat) : Int)) (k % 8) on)
theorem setb_length (l : List Int) (k : Nat) (on : Bool) : (setb l k on).length = l.length := by unfold setb; simp
theorem setb_bytes {l : List Int} (hb : Bytes l) (k : Nat) (on : Bool) : Bytes (setb l k on) := by
  intro x hx
  unfold setb at hx
  rcases List.mem_or_eq_of_mem_set hx with h | h
  · exact hb x h
  · rw [h]; exact setByte_range (rd_byte hb _) _ (by omega) on
theorem setb_out (l : List Int) (k : Nat) (on : Bool) (h : l.length ≤ k / 8) : setb l k on = l := by
  unfold setb
  exact List.set_eq_of_length_le h
theorem tb_setb {l : List Int} (hb : Bytes l) (k : Nat) (on : Bool) (h : k / 8 < l.length) (j : Nat) : tb (setb l k on) j = if j = k then on else tb l j := by
  unfold tb setb
  by_cases e : k / 8 = j / 8
  · have : rd (l.set (k / 8) (setByte (rd l ((k / 8 : Nat) : Int)) (k % 8) on)) ((j / 8 : Nat) : Int) = setByte (rd l ((k / 8 : Nat) : Int)) (k % 8) on := by
      rw [rd_at (by simp; omega)]
      simp [← e]
    rw [this, setByte_bit (rd_byte hb _) _ _ (by omega) (by omega)]
    by_cases e2 : j = k
    · rw [if_pos (by omega), if_pos e2]
    · rw [if_neg (by omega), if_neg e2, e]
  · have : rd (l.set (k / 8) (setByte (rd l ((k / 8 : Nat) : Int)) (k % 8) on)) ((j / 8 : Nat) : Int) = rd l ((j / 8 : Nat) : Int) := by
      unfold rd
      simp only [Int.toNat_natCast, List.getD_eq_getElem?_getD]
      rw [List.getElem?_set_ne e]
    rw [this, if_neg (by omega)]

theorem set_f (l : List Int) (hl : l.length ≤ 140737488351232) (a : Nat) (ha : a ≤ 9223372036854775807) (on : Bool) (k : Nat) (hk : 1 ≤ k) : bits_Set.f k l (a : Int) on = some (setb l a on) := by
  obtain ⟨K, rfl⟩ : ∃ K, k = K + 1 := ⟨k - 1, by omega⟩
  unfold bits_Set.f
  rw [clone_f l hl]
  simp only [Option.bind_some]
  rw [if_neg (by omega), show (a : Int) / 8 = ((a / 8 : Nat) : Int) from by omega]
  by_cases c : ((a / 8 : Nat) : Int) ≥ (l.length : Int)
  · rw [decide_eq_true c]
    simp only [bits_Set.j0]
    rw [if_pos (by trivial), setb_out l a on (by omega)]
  · rw [decide_eq_false c]
    simp only [bits_Set.j0]
    rw [if_neg (by simp), i64_and7 (by omega) (by omega), show (a : Int) / 8 = ((a / 8 : Nat) : Int) from by omega, show (a : Int) % 8 = ((a % 8 : Nat) : Int) from by omega]
    unfold setb setByte
    cases on with
    | true => rw [if_pos (by trivial), if_pos (by omega), if_pos (by omega), if_pos (by omega), if_pos rfl, Int.toNat_natCast]
    | false => rw [if_neg (by simp), if_pos (by omega), if_pos (by omega), if_pos (by omega), if_neg (by simp), Int.toNat_natCast]
theorem set_neg (l : List Int) (hl : l.length ≤ 140737488351232) (a : Int) (ha : a < 0) (on : Bool) (k : Nat) (hk : 1 ≤ k) : bits_Set.f k l a on = some l := by
  obtain ⟨K, rfl⟩ : ∃ K, k = K + 1 := ⟨k - 1, by omega⟩
  unfold bits_Set.f
  rw [clone_f l hl]
  simp only [Option.bind_some]
  rw [if_pos ha]
  simp only [bits_Set.j0]
  rw [if_pos (by trivial)]

/-! the first bit that is free -/
def IsFirst (l : List Int) (n r : Int) : Prop :=
  (r = -1 ∧ ∀ k : Nat, (k : Int) < n → k < 8 * l.length → tb l k = true) ∨
  ∃ k : Nat, r = (k : Int) ∧ (k : Int) < n ∧ k < 8 * l.length ∧ tb l k = false ∧ ∀ j, j < k → tb l j = true
theorem isFirst_one {l : List Int} {n r s : Int} (h : IsFirst l n r) (g : IsFirst l n s) : r = s := by
  rcases h with ⟨rfl, h⟩ | ⟨k, rfl, h1, h2, h3, h4⟩
  · rcases g with ⟨rfl, _⟩ | ⟨k, rfl, g1, g2, g3, g4⟩
    · rfl
    · rw [h k g1 g2] at g3; cases g3
  · rcases g with ⟨rfl, g⟩ | ⟨j, rfl, g1, g2, g3, g4⟩
    · rw [g k h1 h2] at h3; cases h3
    · rcases Nat.lt_trichotomy k j with q | q | q
      · rw [g4 k q] at h3; cases h3
      · rw [q]
      · rw [h4 j q] at g3; cases g3
theorem full_byte : ∀ j, j < 8 → (255 : Nat).testBit j = true := by decide

theorem first_loop (l : List Int) (hb : Bytes l) (hl : l.length ≤ 140737488351232) (n : Int) (m : Nat) : ∀ (k i : Nat), i + m = l.length → 20 * m + 1 ≤ k → (∀ j, j < 8 * i → (j : Int) < n → tb l j = true) →
    ∃ r, bits_First.l0 k l n l (l.length : Int) (i : Int) = some r ∧ IsFirst l n r := by
  induction m with
  | zero =>
    intro k i hi hk hp
    obtain ⟨K, rfl⟩ : ∃ K, k = K + 1 := ⟨k - 1, by omega⟩
    refine ⟨-1, ?_, Or.inl ⟨rfl, fun j h1 h2 => hp j (by omega) h1⟩⟩
    simp only [bits_First.l0]
    rw [if_neg (by omega)]
  | succ m ih =>
    intro k i hi hk hp
    obtain ⟨K, rfl⟩ : ∃ K, k = K + 1 := ⟨k - 1, by omega⟩
    simp only [bits_First.l0]
    rw [if_pos (by omega), if_pos (by omega), if_pos (by omega)]
    by_cases c : rd l (i : Int) = 255
    · rw [if_pos c, up64 i (by omega)]
      refine ih K (i + 1) (by omega) (by omega) (fun j h1 h2 => ?_)
      by_cases d : j < 8 * i
      · exact hp j d h2
      · unfold tb bitOf
        rw [show j / 8 = i from by omega, c]
        exact full_byte (j % 8) (by omega)
    · rw [if_neg c, w64 (by omega) (by omega)]
      -- the byte's own bits
      have inner : ∀ (d k j : Nat), j + d = 8 → 2 * d + 2 + (20 * m + 1) ≤ k → (∀ q, q < 8 * i + j → (q : Int) < n → tb l q = true) →
          ∃ r, bits_First.l1 k l n (i : Int) ((8 * i + j : Nat) : Int) l (l.length : Int) (i : Int) = some r ∧ IsFirst l n r := by
        intro d
        induction d with
        | zero =>
          intro k j hj hk2 hq
          obtain ⟨K2, rfl⟩ : ∃ K2, k = K2 + 1 + 1 := ⟨k - 2, by omega⟩
          simp only [bits_First.l1]
          rw [w64 (x := 8 * (i : Int)) (by omega) (by omega), w64 (by omega) (by omega), if_neg (by omega)]
          simp only [bits_First.j2]
          rw [if_neg (by simp), up64 i (by omega)]
          exact ih K2 (i + 1) (by omega) (by omega) (fun q h1 h2 => hq q (by omega) h2)
        | succ d ihd =>
          intro k j hj hk2 hq
          obtain ⟨K2, rfl⟩ : ∃ K2, k = K2 + 1 + 1 := ⟨k - 2, by omega⟩
          simp only [bits_First.l1]
          rw [w64 (x := 8 * (i : Int)) (by omega) (by omega), w64 (by omega) (by omega), if_pos (by omega)]
          simp only [bits_First.j2]
          by_cases cn : ((8 * i + j : Nat) : Int) < n
          · rw [if_pos (by simpa using cn), test_f l hb (8 * i + j) (by omega)]
            simp only [Option.bind_some]
            cases ct : tb l (8 * i + j) with
            | true =>
              rw [if_pos rfl, up64 (8 * i + j) (by omega)]
              refine ihd K2 (j + 1) (by omega) (by omega) (fun q h1 h2 => ?_)
              by_cases e : q = 8 * i + j
              · rw [e]; exact ct
              · exact hq q (by omega) h2
            | false =>
              rw [if_neg (by simp)]
              exact ⟨_, rfl, Or.inr ⟨8 * i + j, rfl, cn, by omega, ct, fun q h1 => hq q h1 (by omega)⟩⟩
          · rw [if_neg (by simpa using cn), up64 i (by omega)]
            refine ih K2 (i + 1) (by omega) (by omega) (fun q h1 h2 => hq q (by omega) h2)
      exact inner 8 K 0 (by omega) (by omega) (fun q h1 h2 => hp q (by omega) h2)

theorem first_f (l : List Int) (hb : Bytes l) (hl : l.length ≤ 140737488351232) (n : Int) (k : Nat) (hk : 20 * l.length + 1 ≤ k) : ∃ r, bits_First.f k l n = some r ∧ IsFirst l n r := by
  unfold bits_First.f
  exact first_loop l hb hl n l.length k 0 (by omega) hk (fun j h1 => by omega)

/-! how many are set -/
def cn (l : List Int) : Nat → Nat
  | 0 => 0
  | m + 1 => cn l m + if tb l m = true then 1 else 0
theorem cn_le (l : List Int) (m : Nat) : cn l m ≤ m := by
  induction m with
  | zero => exact Nat.le_refl _
  | succ m ih => rw [cn]; split <;> omega
theorem cn_all (l : List Int) (m : Nat) (h : ∀ j, j < m → tb l j = true) : cn l m = m := by
  induction m with
  | zero => rfl
  | succ m ih => rw [cn, ih (fun j hj => h j (by omega)), if_pos (h m (by omega))]
theorem cn_same (l l2 : List Int) (m : Nat) (h : ∀ j, j < m → tb l2 j = tb l j) : cn l2 m = cn l m := by
  induction m with
  | zero => rfl
  | succ m ih => rw [cn, cn, ih (fun j hj => h j (by omega)), h m (by omega)]
theorem cn_one (l l2 : List Int) (a m : Nat) (ha : a < m) (h : ∀ j, tb l2 j = if j = a then true else tb l j) (h0 : tb l a = false) : cn l2 m = cn l m + 1 := by
  induction m with
  | zero => omega
  | succ m ih =>
    rw [cn, cn, h m]
    by_cases e : m = a
    · subst e
      rw [cn_same l l2 m (fun j hj => by rw [h j, if_neg (by omega)]), if_pos rfl, h0]
      simp
    · rw [ih (by omega), if_neg e]
      omega
/-- Of so many bits that are asked for. -/
def upto (l : List Int) (n : Int) (m : Nat) : Nat := min n.toNat m

theorem count_loop (l : List Int) (hb : Bytes l) (hl : l.length ≤ 140737488351232) (n : Int) (m : Nat) : ∀ (k i : Nat), i + m = l.length → 20 * m + 1 ≤ k →
    bits_Count.l0 k n ((cn l (upto l n (8 * i)) : Nat) : Int) l (l.length : Int) (i : Int) = some ((cn l (upto l n (8 * l.length)) : Nat) : Int) := by
  induction m with
  | zero =>
    intro k i hi hk
    obtain ⟨K, rfl⟩ : ∃ K, k = K + 1 := ⟨k - 1, by omega⟩
    obtain rfl : i = l.length := by omega
    simp only [bits_Count.l0]
    rw [if_neg (by omega)]
  | succ m ih =>
    intro k i hi hk
    obtain ⟨K, rfl⟩ : ∃ K, k = K + 1 := ⟨k - 1, by omega⟩
    simp only [bits_Count.l0]
    rw [if_pos (by omega), if_pos (by omega), if_pos (by omega)]
    have inner : ∀ (d k j : Nat), j + d = 8 → d + 1 + (20 * m + 1) ≤ k →
        bits_Count.l1 k n ((cn l (upto l n (8 * i + j)) : Nat) : Int) (i : Int) (rd l (i : Int)) l (l.length : Int) (i : Int) (j : Int) = some ((cn l (upto l n (8 * l.length)) : Nat) : Int) := by
      intro d
      induction d with
      | zero =>
        intro k j hj hk2
        obtain ⟨K2, rfl⟩ : ∃ K2, k = K2 + 1 := ⟨k - 1, by omega⟩
        simp only [bits_Count.l1]
        rw [if_neg (by omega), up64 i (by omega), show 8 * i + j = 8 * (i + 1) from by omega]
        exact ih K2 (i + 1) (by omega) (by omega)
      | succ d ihd =>
        intro k j hj hk2
        obtain ⟨K2, rfl⟩ : ∃ K2, k = K2 + 1 := ⟨k - 1, by omega⟩
        simp only [bits_Count.l1]
        rw [if_pos (by omega), w64 (x := 8 * (i : Int)) (by omega) (by omega), w64 (x := 8 * (i : Int) + (j : Int)) (by omega) (by omega), up64 j (by omega)]
        by_cases c : 8 * (i : Int) + (j : Int) < n
        · rw [if_pos c, if_pos (by omega), shr8 (rd_byte hb _) j (by omega)]
          have hc := cn_le l (upto l n (8 * i + j))
          have hu : upto l n (8 * i + j) = 8 * i + j := by unfold upto; omega
          have hu2 : upto l n (8 * i + (j + 1)) = 8 * i + j + 1 := by unfold upto; omega
          have e : cn l (upto l n (8 * i + (j + 1))) = cn l (upto l n (8 * i + j)) + if bitOf (rd l (i : Int)) j = true then 1 else 0 := by
            rw [hu2, hu, cn]
            unfold tb
            rw [show (8 * i + j) / 8 = i from by omega, show (8 * i + j) % 8 = j from by omega]
          have := ihd K2 (j + 1) (by omega) (by omega)
          rw [e] at this
          rw [hu] at hc
          rw [← this]
          congr 1
          rw [hu]
          cases bitOf (rd l (i : Int)) j
          · simp only [Bool.false_eq_true, if_false]
            rw [w64 (x := 0) (by omega) (by omega), w64 (by omega) (by omega)]
            omega
          · simp only [if_true]
            rw [w64 (x := 1) (by omega) (by omega), w64 (by omega) (by omega)]
            omega
        · rw [if_neg c]
          have := ihd K2 (j + 1) (by omega) (by omega)
          have hu : upto l n (8 * i + (j + 1)) = upto l n (8 * i + j) := by unfold upto; omega
          rw [hu] at this
          exact this
    exact inner 8 K 0 (by omega) (by omega)

theorem count_f (l : List Int) (hb : Bytes l) (hl : l.length ≤ 140737488351232) (n : Int) (k : Nat) (hk : 20 * l.length + 1 ≤ k) : bits_Count.f k l n = some ((cn l (upto l n (8 * l.length)) : Nat) : Int) := by
  unfold bits_Count.f
  have := count_loop l hb hl n l.length k 0 (by omega) hk
  rw [show upto l n (8 * 0) = 0 from by unfold upto; omega] at this
  exact this

end Go.Proofs.Ytlpbgknpgogaaaa.Bp
