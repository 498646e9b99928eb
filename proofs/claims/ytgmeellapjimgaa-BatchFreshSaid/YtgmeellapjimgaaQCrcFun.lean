/- What the program's and the document's sums come to, as printed: the sum of CrcPlain, for any bytes. -/
import Derived.Test.YtgmeellapjimgaaQPBax5
import Derived.Test.YtgmeellapjimgaaQPBax10
import Derived.Test.YtgmeellapjimgaaQCrcPlain
namespace Go.Proofs.Ytgmeellapjimgaa.Crc
open Go Go.RowKit Go.Proofs.Ytgmeellapjimgaa.PBa Go.Proofs.YtgmeellapjimgaaW.PrintWords Go.Proofs.YtgmeellapjimgaaW.PrintLast Go.Proofs.YtgmeellapjimgaaW.PrintMore
set_option linter.unusedVariables false
set_option linter.unusedSimpArgs false

theorem up64 (i : Nat) (h : i ≤ 4000000000000000000) : wrap64 ((i : Int) + 1) = ((i + 1 : Nat) : Int) := by unfold wrap64; omega

theorem more_l1 (x9 : List Int) (x10 x11 : Int) (n : Nat) : ∀ (k : Nat) (c : BitVec 32), n ≤ 8 →
    crc_More.l1 (k + n + 1) (c.toNat : Int) x9 x10 x11 (8 - (n : Int)) = crc_More.l0 k ((steps n c).toNat : Int) x9 x10 (wrap64 (x11 + 1)) := by
  induction n with
  | zero =>
    intro k c _
    simp only [Nat.add_zero, crc_More.l1]
    rw [if_neg (by omega)]
    rfl
  | succ n ih =>
    intro k c hn
    obtain ⟨m, hm⟩ : ∃ m, m = k + n + 1 := ⟨_, rfl⟩
    rw [show k + (n + 1) + 1 = m + 1 from by omega]
    simp only [crc_More.l1]
    rw [if_pos (by omega), step_code]
    have e : wrap64 (8 - ((n + 1 : Nat) : Int) + 1) = 8 - (n : Int) := by unfold wrap64; omega
    rw [e, hm, ih k _ (by omega)]
    rfl

theorem vals_drop (l : List Int) (i : Nat) (h : i < l.length) : vals (l.drop i) = BitVec.ofInt 32 (rd l (i : Int)) :: vals (l.drop (i + 1)) := by
  rw [List.drop_eq_getElem_cons h]
  unfold vals rd
  rw [List.map_cons, Int.toNat_natCast, List.getD_eq_getElem?_getD, List.getElem?_eq_getElem h]
  rfl

theorem more_l0 (l : List Int) (hl : l.length ≤ 4000000000000000000) (n : Nat) : ∀ (k i : Nat) (c : BitVec 32), i + n = l.length →
    crc_More.l0 (k + 10 * n + 1) (c.toNat : Int) l (l.length : Int) (i : Int) = some ((~~~(run c (vals (l.drop i)))).toNat : Int) := by
  induction n with
  | zero =>
    intro k i c h
    simp only [Nat.mul_zero, Nat.add_zero, crc_More.l0]
    rw [if_neg (by omega), List.drop_eq_nil_of_le (by omega)]
    rw [not_code]
    rfl
  | succ n ih =>
    intro k i c h
    obtain ⟨m, hm⟩ : ∃ m, m = k + 10 * n + 1 + 8 + 1 := ⟨_, rfl⟩
    rw [show k + 10 * (n + 1) + 1 = m + 1 from by omega]
    simp only [crc_More.l0]
    rw [if_pos (by omega), if_pos (by omega), if_pos (by omega), emod32, xor32, hm]
    have := more_l1 l (l.length : Int) (i : Int) 8 (k + 10 * n + 1) (c ^^^ BitVec.ofInt 32 (rd l (i : Int))) (by omega)
    rw [show (8 : Int) - ((8 : Nat) : Int) = 0 from by decide] at this
    rw [this, up64 i (by omega), ih k (i + 1) _ (by omega), vals_drop l i (by omega)]
    rfl

theorem more_f (c : BitVec 32) (l : List Int) (hl : l.length ≤ 4000000000000000000) (k : Nat) (hk : 10 * l.length + 1 ≤ k) : crc_More.f k (c.toNat : Int) l = some ((more c l).toNat : Int) := by
  obtain ⟨d, rfl⟩ : ∃ d, k = d + 10 * l.length + 1 := ⟨k - (10 * l.length + 1), by omega⟩
  unfold crc_More.f
  rw [not_code]
  exact more_l0 l hl l.length d 0 (~~~c) (by omega)

theorem sum_f (l : List Int) (hl : l.length ≤ 4000000000000000000) (k : Nat) (hk : 10 * l.length + 1 ≤ k) : crc_Sum.f k l = some (crc l) := by
  unfold crc_Sum.f
  have := more_f 0#32 l hl k hk
  rw [show (((0#32 : BitVec 32).toNat : Nat) : Int) = 0 from by decide] at this
  rw [this]
  rfl

theorem rstep_l0 (n : Nat) : ∀ (k : Nat) (c : BitVec 32), n ≤ 8 → bollardref1_step.l0 (k + n + 1) (c.toNat : Int) (8 - (n : Int)) = some ((steps n c).toNat : Int) := by
  induction n with
  | zero =>
    intro k c _
    simp only [Nat.add_zero, bollardref1_step.l0]
    rw [if_neg (by omega)]
    rfl
  | succ n ih =>
    intro k c hn
    obtain ⟨m, hm⟩ : ∃ m, m = k + n + 1 := ⟨_, rfl⟩
    rw [show k + (n + 1) + 1 = m + 1 from by omega]
    simp only [bollardref1_step.l0]
    have e : wrap64 (8 - ((n + 1 : Nat) : Int) + 1) = 8 - (n : Int) := by unfold wrap64; omega
    rw [if_pos (by omega), and_one, e]
    cases hb : c.getLsbD 0 with
    | true =>
      rw [if_pos (by simp), ref_code1 c hb, hm, ih k _ (by omega)]
      rfl
    | false =>
      rw [if_neg (by simp), ref_code0 c hb, hm, ih k _ (by omega)]
      rfl

theorem rstep_f (c : BitVec 32) (x : Int) (k : Nat) (hk : 9 ≤ k) : bollardref1_step.f k (c.toNat : Int) x = some ((byteStep c (BitVec.ofInt 32 x)).toNat : Int) := by
  obtain ⟨d, rfl⟩ : ∃ d, k = d + 8 + 1 := ⟨k - 9, by omega⟩
  unfold bollardref1_step.f
  rw [emod32, xor32]
  have := rstep_l0 8 d (c ^^^ BitVec.ofInt 32 x) (by omega)
  rw [show (8 : Int) - ((8 : Nat) : Int) = 0 from by decide] at this
  exact this

theorem rmore_l0 (l : List Int) (hl : l.length ≤ 4000000000000000000) (n : Nat) : ∀ (k i : Nat) (c : BitVec 32), i + n = l.length →
    bollardref1_More.l0 (k + n + 10) (c.toNat : Int) l (i : Int) = some ((~~~(run c (vals (l.drop i)))).toNat : Int) := by
  induction n with
  | zero =>
    intro k i c h
    simp only [Nat.add_zero, bollardref1_More.l0]
    rw [if_neg (by omega), List.drop_eq_nil_of_le (by omega)]
    rw [not_code]
    rfl
  | succ n ih =>
    intro k i c h
    obtain ⟨m, hm⟩ : ∃ m, m = k + n + 10 := ⟨_, rfl⟩
    rw [show k + (n + 1) + 10 = m + 1 from by omega]
    simp only [bollardref1_More.l0]
    rw [if_pos (by omega), if_pos (by omega), rstep_f c _ m (by omega)]
    simp only [Option.bind_some]
    rw [up64 i (by omega), hm, ih k (i + 1) _ (by omega), vals_drop l i (by omega)]
    rfl

theorem rmore_f (c : BitVec 32) (l : List Int) (hl : l.length ≤ 4000000000000000000) (k : Nat) (hk : l.length + 10 ≤ k) : bollardref1_More.f k (c.toNat : Int) l = some ((more c l).toNat : Int) := by
  obtain ⟨d, rfl⟩ : ∃ d, k = d + l.length + 10 := ⟨k - (l.length + 10), by omega⟩
  unfold bollardref1_More.f
  rw [not_code]
  exact rmore_l0 l hl l.length d 0 (~~~c) (by omega)

theorem rsum_f (l : List Int) (hl : l.length ≤ 4000000000000000000) (k : Nat) (hk : l.length + 10 ≤ k) : bollardref1_Sum.f k l = some (crc l) := by
  unfold bollardref1_Sum.f
  have := rmore_f 0#32 l hl k hk
  rw [show (((0#32 : BitVec 32).toNat : Nat) : Int) = 0 from by decide] at this
  rw [this]
  rfl

end Go.Proofs.Ytgmeellapjimgaa.Crc
