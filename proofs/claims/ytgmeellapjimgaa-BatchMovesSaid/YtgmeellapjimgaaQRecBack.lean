/- What the program's Get and Put come to, as printed. -/
import Derived.Test.YtgmeellapjimgaaQPBmx1
import Derived.Test.YtgmeellapjimgaaQBitsPut
import Derived.Laws.Entries
import Derived.RowKit
import Derived.Test.YtgmeellapjimgaaQPBmx3
import Derived.Test.YtgmeellapjimgaaQPBmx11
import Derived.Test.YtgmeellapjimgaaQPBmx2
import Derived.Test.YtgmeellapjimgaaQPBmx8
import Derived.Test.YtgmeellapjimgaaQPBmx9
import Derived.Test.YtgmeellapjimgaaQPBmx4
import Derived.Test.YtgmeellapjimgaaQPBmx6
namespace Go.Proofs.Ytgmeellapjimgaa.Bp
open Go Go.RowKit Go.Proofs.Ytgmeellapjimgaa.PBm Go.Proofs.YtgmeellapjimgaaW.PrintWords Go.Proofs.YtgmeellapjimgaaW.PrintLast Go.Proofs.YtgmeellapjimgaaW.PrintMore
set_option linter.unusedVariables false
set_option linter.unusedSimpArgs false

theorem may_f (l : List Int) (a n : Int) (hl : l.length ≤ 4000000000000000000) : bits_may.f l a n = some (decide (1 ≤ n ∧ n ≤ 8 ∧ 0 ≤ a ∧ a ≤ (l.length : Int) - n)) := by
  unfold bits_may.f
  by_cases c1 : n ≥ 1
  · rw [if_pos c1]
    by_cases c2 : n ≤ 8
    · rw [if_pos c2]
      by_cases c3 : a ≥ 0
      · rw [if_pos c3, w64 (by omega) (by omega)]
        congr 1
        rw [Bool.eq_iff_iff]
        simp
        omega
      · rw [if_neg c3]
        simp
        omega
    · rw [if_neg c2]
      simp
      omega
  · rw [if_neg c1]
    simp
    omega

theorem take_step {l : List Int} {i : Nat} {x : Int} (h : l[i]? = some x) : l.take (i + 1) = l.take i ++ [x] := by
  rw [List.take_add_one, h]
  rfl

theorem clone_f (l : List Int) (hl : l.length ≤ 140737488351232) : slices_Clone_byte_byte.f l = some l := by
  unfold slices_Clone_byte_byte.f
  simp only [Option.bind_some, List.nil_append, List.length_nil, Nat.zero_add]
  rw [if_pos (by omega)]

theorem put_l0 (l : List Int) (hl : l.length ≤ 140737488351232) (a n v : Nat) (big : Bool) (h : a + n ≤ l.length) (h8 : n ≤ 8) (m : Nat) : ∀ (k i : Nat) (c : List Int), i + m = n → m + 1 ≤ k →
    (∀ p, c[p]? = if (if big = true then a + n ≤ p + i else a ≤ p) ∧ (if big = true then p < a + n else p < a + i) then some (dg v (wh n big (p - a))) else l[p]?) → c.length = l.length →
    bits_Put.l0 k (a : Int) (n : Int) big (v : Int) c (n : Int) (i : Int) = some (lay l a n (fun p => dg v (wh n big p)), true) := by
  induction m with
  | zero =>
    intro k i c hi hk hc hcl
    obtain ⟨K, rfl⟩ : ∃ K, k = K + 1 := ⟨k - 1, by omega⟩
    simp only [bits_Put.l0]
    rw [if_neg (by omega)]
    congr 2
    refine lay_eq h (fun p => ?_)
    rw [hc p]
    have e : ((if big = true then a + n ≤ p + i else a ≤ p) ∧ (if big = true then p < a + n else p < a + i)) ↔ (a ≤ p ∧ p < a + n) := by
      cases big with
      | true => simp only [if_true]; omega
      | false => simp only [Bool.false_eq_true, if_false]; omega
    simp only [e]
  | succ m ih =>
    intro k i c hi hk hc hcl
    obtain ⟨K, rfl⟩ : ∃ K, k = K + 1 := ⟨k - 1, by omega⟩
    simp only [bits_Put.l0]
    rw [if_pos (by omega), w64 (x := 8 * (i : Int)) (by omega) (by omega), dg_shr v i (by omega), up64 i (by omega)]
    have go : ∀ q : Nat, q = a + (if big = true then n - 1 - i else i) → ∀ p, (c.set q (dg v i))[p]? = if (if big = true then a + n ≤ p + (i + 1) else a ≤ p) ∧ (if big = true then p < a + n else p < a + (i + 1)) then some (dg v (wh n big (p - a))) else l[p]? := by
      intro q hq p
      rw [List.getElem?_set]
      by_cases e : q = p
      · subst e
        rw [if_pos rfl, if_pos (by rw [hcl]; cases big <;> simp at hq <;> omega)]
        cases big with
        | true =>
          simp only [if_true] at hq ⊢
          rw [if_pos (by omega)]
          unfold wh
          rw [if_pos rfl, show n - 1 - (q - a) = i from by omega]
        | false =>
          simp only [Bool.false_eq_true, if_false] at hq ⊢
          rw [if_pos (by omega)]
          unfold wh
          rw [if_neg (by simp), show q - a = i from by omega]
      · rw [if_neg e, hc p]
        cases big with
        | true =>
          simp only [if_true] at hq ⊢
          by_cases d : a + n ≤ p + i ∧ p < a + n
          · rw [if_pos d, if_pos (by omega)]
          · rw [if_neg d, if_neg (by omega)]
        | false =>
          simp only [Bool.false_eq_true, if_false] at hq ⊢
          by_cases d : a ≤ p ∧ p < a + i
          · rw [if_pos d, if_pos (by omega)]
          · rw [if_neg d, if_neg (by omega)]
    cases big with
    | true =>
      rw [if_pos (by trivial), if_pos (by omega), w64 (x := (n : Int) - 1) (by omega) (by omega), w64 (x := (n : Int) - 1 - (i : Int)) (by omega) (by omega), w64 (by omega) (by omega), if_pos (by omega), if_pos (by omega)]
      refine ih K (i + 1) _ (by omega) (by omega) (go _ ?_) (by rw [List.length_set]; exact hcl)
      rw [if_pos rfl]; omega
    | false =>
      rw [if_neg (by simp), if_pos (by omega), w64 (by omega) (by omega), if_pos (by omega), if_pos (by omega)]
      refine ih K (i + 1) _ (by omega) (by omega) (go _ ?_) (by rw [List.length_set]; exact hcl)
      rw [if_neg (by simp)]; omega

theorem put_f (l : List Int) (hl : l.length ≤ 140737488351232) (a n v : Nat) (big : Bool) (h1 : 1 ≤ n) (h8 : n ≤ 8) (h : a + n ≤ l.length) (k : Nat) (hk : 9 ≤ k) : bits_Put.f k l (a : Int) (n : Int) big (v : Int) = some (lay l a n (fun p => dg v (wh n big p)), true) := by
  unfold bits_Put.f
  rw [may_f l _ _ (by omega), decide_eq_true (by omega), clone_f l hl]
  simp only [Option.bind_some]
  rw [if_pos (by trivial)]
  refine put_l0 l hl a n v big h h8 n k 0 l (by omega) (by omega) (fun p => ?_) rfl
  rw [if_neg]
  cases big with
  | true => simp only [if_true]; omega
  | false => simp only [Bool.false_eq_true, if_false]; omega
theorem put_none (l : List Int) (hl : l.length ≤ 4000000000000000000) (a n v : Int) (big : Bool) (h : ¬ (1 ≤ n ∧ n ≤ 8 ∧ 0 ≤ a ∧ a ≤ (l.length : Int) - n)) (k : Nat) : bits_Put.f k l a n big v = some ([], false) := by
  unfold bits_Put.f
  rw [may_f l _ _ hl, decide_eq_false h]
  rfl

end Go.Proofs.Ytgmeellapjimgaa.Bp

/- Plain facts on CRC-32C over words of 32 digits, with no program in sight: the step is linear and loses nothing. Used by the statements on crc, layout and batch. -/
namespace Go.Proofs.Ytgmeellapjimgaa.Crc
open Go
set_option linter.unusedVariables false
set_option linter.unusedSimpArgs false

def P32 : BitVec 32 := 0x82f63b78#32
def bitStep (c : BitVec 32) : BitVec 32 := (c >>> 1) ^^^ (if c.getLsbD 0 then P32 else 0#32)
def steps : Nat → BitVec 32 → BitVec 32
  | 0, c => c
  | n + 1, c => steps n (bitStep c)
def byteStep (c x : BitVec 32) : BitVec 32 := steps 8 (c ^^^ x)
def run (c : BitVec 32) (l : List (BitVec 32)) : BitVec 32 := l.foldl byteStep c

theorem xor_swap (a b p q : BitVec 32) : (a ^^^ b) ^^^ (p ^^^ q) = (a ^^^ p) ^^^ (b ^^^ q) := by
  rw [BitVec.xor_assoc, BitVec.xor_assoc, ← BitVec.xor_assoc b p q, BitVec.xor_comm b p, BitVec.xor_assoc]

theorem bitStep_xor (a b : BitVec 32) : bitStep (a ^^^ b) = bitStep a ^^^ bitStep b := by
  unfold bitStep
  rw [xor_swap, BitVec.getLsbD_xor, BitVec.ushiftRight_xor_distrib]
  cases a.getLsbD 0 <;> cases b.getLsbD 0 <;> simp

theorem steps_xor (n : Nat) : ∀ a b : BitVec 32, steps n (a ^^^ b) = steps n a ^^^ steps n b := by
  induction n with
  | zero => intro a b; rfl
  | succ n ih => intro a b; simp only [steps, bitStep_xor, ih]

theorem byteStep_xor (a b x y : BitVec 32) : byteStep (a ^^^ b) (x ^^^ y) = byteStep a x ^^^ byteStep b y := by
  unfold byteStep
  rw [xor_swap, steps_xor]

theorem run_append (c : BitVec 32) (l m : List (BitVec 32)) : run c (l ++ m) = run (run c l) m := by simp [run]
theorem run_cons (c x : BitVec 32) (l : List (BitVec 32)) : run c (x :: l) = run (byteStep c x) l := rfl
theorem run_nil (c : BitVec 32) : run c [] = c := rfl

theorem run_xor : ∀ (l m : List (BitVec 32)) (a b : BitVec 32), l.length = m.length → run (a ^^^ b) (List.zipWith (· ^^^ ·) l m) = run a l ^^^ run b m := by
  intro l
  induction l with
  | nil => intro m a b h; cases m with
    | nil => rfl
    | cons y m => simp at h
  | cons x l ih => intro m a b h; cases m with
    | nil => simp at h
    | cons y m =>
      rw [List.zipWith_cons_cons, run_cons, run_cons, run_cons, byteStep_xor]
      exact ih m _ _ (by simpa using h)

theorem bitStep_zero : bitStep 0#32 = 0#32 := by decide
theorem steps_zero (n : Nat) : steps n 0#32 = 0#32 := by
  induction n with
  | zero => rfl
  | succ n ih => rw [steps, bitStep_zero, ih]

theorem bitStep_inj {c : BitVec 32} (h : bitStep c = 0#32) : c = 0#32 := by
  unfold bitStep at h
  have hb : c.getLsbD 0 = false := by
    cases hc : c.getLsbD 0 with
    | false => rfl
    | true =>
      rw [hc, if_pos rfl] at h
      have h31 := congrArg (fun v => BitVec.getLsbD v 31) h
      simp only [BitVec.getLsbD_xor, BitVec.getLsbD_ushiftRight] at h31
      rw [BitVec.getLsbD_of_ge c (1 + 31) (by omega)] at h31
      revert h31
      decide
  rw [hb] at h
  simp only [Bool.false_eq_true, if_false, BitVec.xor_zero] at h
  apply BitVec.eq_of_getLsbD_eq
  intro i hi
  cases i with
  | zero => rw [hb]; rfl
  | succ i =>
    have := congrArg (fun v => BitVec.getLsbD v i) h
    simp only [BitVec.getLsbD_ushiftRight, BitVec.getLsbD_zero] at this
    rw [BitVec.getLsbD_zero, Nat.add_comm]
    exact this

theorem steps_inj (n : Nat) : ∀ {c : BitVec 32}, steps n c = 0#32 → c = 0#32 := by
  induction n with
  | zero => intro c h; exact h
  | succ n ih => intro c h; exact bitStep_inj (ih h)

/-- Noughts behind: nothing is lost. -/
theorem run_zeros_inj (n : Nat) : ∀ {c : BitVec 32}, run c (List.replicate n 0#32) = 0#32 → c = 0#32 := by
  induction n with
  | zero => intro c h; exact h
  | succ n ih =>
    intro c h
    rw [List.replicate_succ, run_cons] at h
    have h2 := steps_inj 8 (ih h)
    simpa using h2

theorem run_zeros_zero (n : Nat) : run 0#32 (List.replicate n 0#32) = 0#32 := by
  induction n with
  | zero => rfl
  | succ n ih =>
    rw [List.replicate_succ, run_cons]
    have : byteStep 0#32 0#32 = 0#32 := by unfold byteStep; rw [BitVec.xor_zero, steps_zero]
    rw [this, ih]

theorem steps_shift (n : Nat) : ∀ y : BitVec 32, (∀ j, 32 - n ≤ j → y.getLsbD j = false) → n ≤ 32 → steps n (y <<< n) = y := by
  induction n with
  | zero => intro y _ _; simp [steps]
  | succ n ih =>
    intro y hy hn
    have hb : bitStep (y <<< (n + 1)) = y <<< n := by
      unfold bitStep
      have h0 : (y <<< (n + 1)).getLsbD 0 = false := by simp [BitVec.getLsbD_shiftLeft]
      rw [h0]
      simp only [Bool.false_eq_true, if_false, BitVec.xor_zero]
      apply BitVec.eq_of_getLsbD_eq
      intro i hi
      simp only [BitVec.getLsbD_ushiftRight, BitVec.getLsbD_shiftLeft]
      by_cases h31 : i = 31
      · subst h31
        have := hy (31 - n) (by omega)
        rw [this]
        simp
      · have e1 : 1 + i - (n + 1) = i - n := by omega
        have e2 : decide (1 + i < 32) = true := by simp; omega
        have e3 : decide (i < 32) = true := by simp; omega
        have e4 : decide (1 + i < n + 1) = decide (i < n) := by
          rw [Bool.eq_iff_iff]; simp; omega
        rw [e1, e2, e3, e4]
    rw [steps, hb]
    exact ih y (fun j hj => hy j (by omega)) (by omega)

/-- Up to four bytes as one word, the first one lowest. -/
def word : List (BitVec 32) → BitVec 32
  | [] => 0#32
  | d :: ds => d ^^^ (word ds <<< 8)

def isByte (d : BitVec 32) : Prop := ∀ j, 8 ≤ j → d.getLsbD j = false

theorem word_high : ∀ (l : List (BitVec 32)), (∀ d ∈ l, isByte d) → ∀ j, 8 * l.length ≤ j → (word l).getLsbD j = false := by
  intro l
  induction l with
  | nil => intro _ j _; simp [word]
  | cons d ds ih =>
    intro h j hj
    rw [List.length_cons] at hj
    simp only [word, BitVec.getLsbD_xor, BitVec.getLsbD_shiftLeft]
    rw [h d (by simp) j (by omega), ih (fun x hx => h x (by simp [hx])) (j - 8) (by omega)]
    simp

theorem run_word : ∀ (l : List (BitVec 32)) (c : BitVec 32), (∀ d ∈ l, isByte d) → l.length ≤ 4 → run c l = steps (8 * l.length) (c ^^^ word l) := by
  intro l
  induction l with
  | nil => intro c _ _; simp [run, steps, word]
  | cons d ds ih =>
    intro c h hl
    rw [List.length_cons] at hl
    rw [run_cons, ih _ (fun x hx => h x (by simp [hx])) (by omega)]
    have e : byteStep c d ^^^ word ds = steps 8 (c ^^^ word (d :: ds)) := by
      have hs : steps 8 (word ds <<< 8) = word ds := steps_shift 8 (word ds) (fun j hj => word_high ds (fun x hx => h x (by simp [hx])) j (by omega)) (by omega)
      simp only [word]
      rw [← BitVec.xor_assoc, steps_xor, hs]
      rfl
    rw [e, List.length_cons]
    have add : ∀ n m x, steps (n + m) x = steps n (steps m x) := by
      intro n m
      induction m with
      | zero => intro x; rfl
      | succ m ihm => intro x; rw [← Nat.add_assoc, steps, ihm]; rfl
    rw [Nat.mul_add, Nat.mul_one, add]

theorem word_zero : ∀ (l : List (BitVec 32)), (∀ d ∈ l, isByte d) → l.length ≤ 4 → word l = 0#32 → ∀ d ∈ l, d = 0#32 := by
  intro l
  induction l with
  | nil => intro _ _ _ d hd; simp at hd
  | cons d ds ih =>
    intro h hl hz x hx
    rw [List.length_cons] at hl
    simp only [word] at hz
    have hd : d = 0#32 := by
      apply BitVec.eq_of_getLsbD_eq
      intro i hi
      rw [BitVec.getLsbD_zero]
      by_cases h8 : 8 ≤ i
      · exact h d (by simp) i h8
      · have := congrArg (fun v => BitVec.getLsbD v i) hz
        simp only [BitVec.getLsbD_xor, BitVec.getLsbD_shiftLeft, BitVec.getLsbD_zero] at this
        have e : decide (i < 8) = true := by simp; omega
        rw [e] at this
        simpa using this
    have hw : word ds = 0#32 := by
      apply BitVec.eq_of_getLsbD_eq
      intro i hi
      rw [BitVec.getLsbD_zero]
      by_cases h24 : 24 ≤ i
      · exact word_high ds (fun x hx => h x (by simp [hx])) i (by omega)
      · have := congrArg (fun v => BitVec.getLsbD v (i + 8)) hz
        simp only [BitVec.getLsbD_xor, BitVec.getLsbD_shiftLeft, BitVec.getLsbD_zero] at this
        rw [hd] at this
        have e : decide (i + 8 < 32) = true := by simp; omega
        have e2 : decide (i + 8 < 8) = false := by simp
        rw [e, e2] at this
        simpa using this
    rcases List.mem_cons.1 hx with rfl | hx
    · exact hd
    · exact ih (fun x hx => h x (by simp [hx])) (by omega) hw x hx

/-- Four neighbouring bytes at most, of which one is changed, change the register. -/
theorem run_change {l : List (BitVec 32)} {n : Nat} (h : ∀ d ∈ l, isByte d) (hl : l.length ≤ 4) (hz : run 0#32 (l ++ List.replicate n 0#32) = 0#32) : ∀ d ∈ l, d = 0#32 := by
  rw [run_append, run_word l _ h hl] at hz
  have h2 := steps_inj _ (run_zeros_inj n hz)
  simp only [BitVec.zero_xor] at h2
  exact word_zero l h hl h2

/-! numbers -/
theorem ofInt_toNat (c : BitVec 32) : BitVec.ofInt 32 (c.toNat : Int) = c := by
  rw [BitVec.ofInt_natCast, BitVec.ofNat_toNat, BitVec.setWidth_eq]
theorem toNat_lt (c : BitVec 32) : (c.toNat : Int) < 4294967296 := by have := c.isLt; omega
theorem wrap_u32 (n : Nat) (h : n < 4294967296) : IntKind.u32.wrap (n : Int) = n := by
  simp only [IntKind.wrap, IntKind.bits, IntKind.signed]
  simp
  omega
theorem xor32 (a b : BitVec 32) : Go.bits .xor .u32 (a.toNat : Int) (b.toNat : Int) = ((a ^^^ b).toNat : Int) := by
  unfold Go.bits
  simp only [IntKind.bits]
  rw [ofInt_toNat, ofInt_toNat]
  exact wrap_u32 _ (a ^^^ b).isLt
theorem and32 (a b : BitVec 32) : Go.bits .and .u32 (a.toNat : Int) (b.toNat : Int) = ((a &&& b).toNat : Int) := by
  unfold Go.bits
  simp only [IntKind.bits]
  rw [ofInt_toNat, ofInt_toNat]
  exact wrap_u32 _ (a &&& b).isLt
theorem emod32 (x : Int) : x % 4294967296 = ((BitVec.ofInt 32 x).toNat : Int) := by
  rw [BitVec.toNat_ofInt]
  simp
  omega
theorem half32 (c : BitVec 32) : (c.toNat : Int) / (2 : Int) = ((c >>> 1).toNat : Int) := by
  rw [BitVec.toNat_ushiftRight, Nat.shiftRight_eq_div_pow]
  simp
theorem and_one (c : BitVec 32) : Go.bits .and .u32 (c.toNat : Int) 1 = if c.getLsbD 0 then 1 else 0 := by
  have e : (1 : Int) = ((1#32 : BitVec 32).toNat : Int) := by decide
  conv => lhs; rw [e]
  rw [and32, BitVec.toNat_and]
  have : (1#32 : BitVec 32).toNat = 1 := by decide
  rw [this, Nat.and_one_is_mod, BitVec.getLsbD, Nat.testBit_zero]
  rcases Nat.mod_two_eq_zero_or_one c.toNat with h | h <;> simp [h]
theorem step_code (c : BitVec 32) : Go.bits .xor .u32 ((c.toNat : Int) / 2) (Go.bits .and .u32 2197175160 ((-(Go.bits .and .u32 (c.toNat : Int) 1)) % 4294967296)) = ((bitStep c).toNat : Int) := by
  have e : ∀ b : BitVec 32, Go.bits .and .u32 2197175160 (b.toNat : Int) = ((P32 &&& b).toNat : Int) := fun b => and32 P32 b
  rw [and_one, half32]
  unfold bitStep
  cases c.getLsbD 0 with
  | true =>
    have h1 : (-(if true = true then (1 : Int) else 0)) % 4294967296 = ((BitVec.allOnes 32).toNat : Int) := by decide
    rw [h1, e, xor32, BitVec.and_allOnes]
    simp
  | false =>
    have h1 : (-(if false = true then (1 : Int) else 0)) % 4294967296 = ((0#32).toNat : Int) := by decide
    rw [h1, e, xor32, BitVec.and_zero]
    simp
theorem ref_code1 (c : BitVec 32) (h : c.getLsbD 0 = true) : Go.bits .xor .u32 ((c.toNat : Int) / 2) 2197175160 = ((bitStep c).toNat : Int) := by
  have e : ∀ b : BitVec 32, Go.bits .xor .u32 (b.toNat : Int) 2197175160 = ((b ^^^ P32).toNat : Int) := fun b => xor32 b P32
  rw [half32, e]
  unfold bitStep
  rw [h, if_pos rfl]
theorem ref_code0 (c : BitVec 32) (h : c.getLsbD 0 = false) : (c.toNat : Int) / 2 = ((bitStep c).toNat : Int) := by
  rw [half32]
  unfold bitStep
  rw [h]
  simp
theorem not_code (c : BitVec 32) : Go.bits .xor .u32 4294967295 (c.toNat : Int) = ((~~~c).toNat : Int) := by
  have e : (4294967295 : Int) = ((BitVec.allOnes 32).toNat : Int) := by decide
  rw [e, xor32, BitVec.allOnes_xor]

/-- Bytes as words. -/
def vals (l : List Int) : List (BitVec 32) := l.map (BitVec.ofInt 32)
theorem vals_append (l m : List Int) : vals (l ++ m) = vals l ++ vals m := by simp [vals]
theorem vals_length (l : List Int) : (vals l).length = l.length := by simp [vals]
/-- What the program's and the document's More come to. -/
def more (c : BitVec 32) (l : List Int) : BitVec 32 := ~~~(run (~~~c) (vals l))
theorem more_append (c : BitVec 32) (l m : List Int) : more (more c l) m = more c (l ++ m) := by
  unfold more
  rw [BitVec.not_not, vals_append, run_append]
theorem more_nil (c : BitVec 32) : more c [] = c := by
  unfold more
  simp [vals, run_nil]
def crc (l : List Int) : Int := ((more 0#32 l).toNat : Int)

end Go.Proofs.Ytgmeellapjimgaa.Crc

/- What the program's and the document's sums come to, as printed: the sum of CrcPlain, for any bytes. -/
namespace Go.Proofs.Ytgmeellapjimgaa.Crc
open Go Go.RowKit Go.Proofs.Ytgmeellapjimgaa.PBm Go.Proofs.YtgmeellapjimgaaW.PrintWords Go.Proofs.YtgmeellapjimgaaW.PrintLast Go.Proofs.YtgmeellapjimgaaW.PrintMore
set_option linter.unusedVariables false
set_option linter.unusedSimpArgs false

theorem up64 (i : Nat) (h : i ≤ 4000000000000000000) : wrap64 ((i : Int) + 1) = ((i + 1 : Nat) : Int) := by unfold wrap64; omega

theorem more_l1 (x9 : List Int) (x10 x11 : Int) (n : Nat) : ∀ (k : Nat) (c : BitVec 32), n ≤ 8 →
    crc_More.l1 (k + n + 1) (c.toNat : Int) x9 x10 x11 (8 - (n : Int)) = crc_More.l0 k ((steps n c).toNat : Int) x9 x10 (wrap64 (x11 + 1)) := by
  induction n with
  | zero =>
    intro k c _
    simp only [Nat.add_zero, crc_More.l1]
    rw [if_neg (by omega)]
    rfl
  | succ n ih =>
    intro k c hn
    obtain ⟨m, hm⟩ : ∃ m, m = k + n + 1 := ⟨_, rfl⟩
    rw [show k + (n + 1) + 1 = m + 1 from by omega]
    simp only [crc_More.l1]
    rw [if_pos (by omega), step_code]
    have e : wrap64 (8 - ((n + 1 : Nat) : Int) + 1) = 8 - (n : Int) := by unfold wrap64; omega
    rw [e, hm, ih k _ (by omega)]
    rfl

theorem vals_drop (l : List Int) (i : Nat) (h : i < l.length) : vals (l.drop i) = BitVec.ofInt 32 (rd l (i : Int)) :: vals (l.drop (i + 1)) := by
  rw [List.drop_eq_getElem_cons h]
  unfold vals rd
  rw [List.map_cons, Int.toNat_natCast, List.getD_eq_getElem?_getD, List.getElem?_eq_getElem h]
  rfl

theorem more_l0 (l : List Int) (hl : l.length ≤ 4000000000000000000) (n : Nat) : ∀ (k i : Nat) (c : BitVec 32), i + n = l.length →
    crc_More.l0 (k + 10 * n + 1) (c.toNat : Int) l (l.length : Int) (i : Int) = some ((~~~(run c (vals (l.drop i)))).toNat : Int) := by
  induction n with
  | zero =>
    intro k i c h
    simp only [Nat.mul_zero, Nat.add_zero, crc_More.l0]
    rw [if_neg (by omega), List.drop_eq_nil_of_le (by omega)]
    rw [not_code]
    rfl
  | succ n ih =>
    intro k i c h
    obtain ⟨m, hm⟩ : ∃ m, m = k + 10 * n + 1 + 8 + 1 := ⟨_, rfl⟩
    rw [show k + 10 * (n + 1) + 1 = m + 1 from by omega]
    simp only [crc_More.l0]
    rw [if_pos (by omega), if_pos (by omega), if_pos (by omega), emod32, xor32, hm]
    have := more_l1 l (l.length : Int) (i : Int) 8 (k + 10 * n + 1) (c ^^^ BitVec.ofInt 32 (rd l (i : Int))) (by omega)
    rw [show (8 : Int) - ((8 : Nat) : Int) = 0 from by decide] at this
    rw [this, up64 i (by omega), ih k (i + 1) _ (by omega), vals_drop l i (by omega)]
    rfl

theorem more_f (c : BitVec 32) (l : List Int) (hl : l.length ≤ 4000000000000000000) (k : Nat) (hk : 10 * l.length + 1 ≤ k) : crc_More.f k (c.toNat : Int) l = some ((more c l).toNat : Int) := by
  obtain ⟨d, rfl⟩ : ∃ d, k = d + 10 * l.length + 1 := ⟨k - (10 * l.length + 1), by omega⟩
  unfold crc_More.f
  rw [not_code]
  exact more_l0 l hl l.length d 0 (~~~c) (by omega)

theorem sum_f (l : List Int) (hl : l.length ≤ 4000000000000000000) (k : Nat) (hk : 10 * l.length + 1 ≤ k) : crc_Sum.f k l = some (crc l) := by
  unfold crc_Sum.f
  have := more_f 0#32 l hl k hk
  rw [show (((0#32 : BitVec 32).toNat : Nat) : Int) = 0 from by decide] at this
  rw [this]
  rfl

theorem rstep_l0 (n : Nat) : ∀ (k : Nat) (c : BitVec 32), n ≤ 8 → bollardref1_step.l0 (k + n + 1) (c.toNat : Int) (8 - (n : Int)) = some ((steps n c).toNat : Int) := by
  induction n with
  | zero =>
    intro k c _
    simp only [Nat.add_zero, bollardref1_step.l0]
    rw [if_neg (by omega)]
    rfl
  | succ n ih =>
    intro k c hn
    obtain ⟨m, hm⟩ : ∃ m, m = k + n + 1 := ⟨_, rfl⟩
    rw [show k + (n + 1) + 1 = m + 1 from by omega]
    simp only [bollardref1_step.l0]
    have e : wrap64 (8 - ((n + 1 : Nat) : Int) + 1) = 8 - (n : Int) := by unfold wrap64; omega
    rw [if_pos (by omega), and_one, e]
    cases hb : c.getLsbD 0 with
    | true =>
      rw [if_pos (by simp), ref_code1 c hb, hm, ih k _ (by omega)]
      rfl
    | false =>
      rw [if_neg (by simp), ref_code0 c hb, hm, ih k _ (by omega)]
      rfl

theorem rstep_f (c : BitVec 32) (x : Int) (k : Nat) (hk : 9 ≤ k) : bollardref1_step.f k (c.toNat : Int) x = some ((byteStep c (BitVec.ofInt 32 x)).toNat : Int) := by
  obtain ⟨d, rfl⟩ : ∃ d, k = d + 8 + 1 := ⟨k - 9, by omega⟩
  unfold bollardref1_step.f
  rw [emod32, xor32]
  have := rstep_l0 8 d (c ^^^ BitVec.ofInt 32 x) (by omega)
  rw [show (8 : Int) - ((8 : Nat) : Int) = 0 from by decide] at this
  exact this

theorem rmore_l0 (l : List Int) (hl : l.length ≤ 4000000000000000000) (n : Nat) : ∀ (k i : Nat) (c : BitVec 32), i + n = l.length →
    bollardref1_More.l0 (k + n + 10) (c.toNat : Int) l (i : Int) = some ((~~~(run c (vals (l.drop i)))).toNat : Int) := by
  induction n with
  | zero =>
    intro k i c h
    simp only [Nat.add_zero, bollardref1_More.l0]
    rw [if_neg (by omega), List.drop_eq_nil_of_le (by omega)]
    rw [not_code]
    rfl
  | succ n ih =>
    intro k i c h
    obtain ⟨m, hm⟩ : ∃ m, m = k + n + 10 := ⟨_, rfl⟩
    rw [show k + (n + 1) + 10 = m + 1 from by omega]
    simp only [bollardref1_More.l0]
    rw [if_pos (by omega), if_pos (by omega), rstep_f c _ m (by omega)]
    simp only [Option.bind_some]
    rw [up64 i (by omega), hm, ih k (i + 1) _ (by omega), vals_drop l i (by omega)]
    rfl

theorem rmore_f (c : BitVec 32) (l : List Int) (hl : l.length ≤ 4000000000000000000) (k : Nat) (hk : l.length + 10 ≤ k) : bollardref1_More.f k (c.toNat : Int) l = some ((more c l).toNat : Int) := by
  obtain ⟨d, rfl⟩ : ∃ d, k = d + l.length + 10 := ⟨k - (l.length + 10), by omega⟩
  unfold bollardref1_More.f
  rw [not_code]
  exact rmore_l0 l hl l.length d 0 (~~~c) (by omega)

theorem rsum_f (l : List Int) (hl : l.length ≤ 4000000000000000000) (k : Nat) (hk : l.length + 10 ≤ k) : bollardref1_Sum.f k l = some (crc l) := by
  unfold bollardref1_Sum.f
  have := rmore_f 0#32 l hl k hk
  rw [show (((0#32 : BitVec 32).toNat : Nat) : Int) = 0 from by decide] at this
  rw [this]
  rfl

end Go.Proofs.Ytgmeellapjimgaa.Crc

/- The program's groups of seven digits, as printed, and what holds of them. -/
namespace Go.Proofs.Ytgmeellapjimgaa.Bp
open Go Go.RowKit Go.Proofs.Ytgmeellapjimgaa.PBm Go.Proofs.YtgmeellapjimgaaW.PrintWords Go.Proofs.YtgmeellapjimgaaW.PrintLast Go.Proofs.YtgmeellapjimgaaW.PrintMore
set_option linter.unusedVariables false
set_option linter.unusedSimpArgs false

theorem varint_l0 (n : Nat) : ∀ (k v : Nat) (acc : List Int), v < 128 ^ (n + 1) → n + 1 ≤ k → acc.length + n + 1 < 140737488355328 → bits_Varint.l0 k (v : Int) acc = some (acc ++ vr v) := by
  induction n with
  | zero =>
    intro k v acc hv hk ha
    obtain ⟨K, rfl⟩ : ∃ K, k = K + 1 := ⟨k - 1, by omega⟩
    simp only [bits_Varint.l0]
    rw [if_neg (by omega), if_pos (by omega), vr_small (by omega), show ((v : Int)) % 256 = (v : Int) from by omega]
  | succ n ih =>
    intro k v acc hv hk ha
    obtain ⟨K, rfl⟩ : ∃ K, k = K + 1 := ⟨k - 1, by omega⟩
    simp only [bits_Varint.l0]
    by_cases c : v < 128
    · rw [if_neg (by omega), if_pos (by omega), vr_small c, show ((v : Int)) % 256 = (v : Int) from by omega]
    · rw [if_pos (by omega), if_pos (by omega), or128, show (v : Int) / 128 = ((v / 128 : Nat) : Int) from by omega, ih K (v / 128) _ ?_ (by omega) (by simp; omega), vr_big c]
      · rw [List.append_assoc, show ((v : Int)) % 128 + 128 = ((v % 128 + 128 : Nat) : Int) from by omega]
        rfl
      · rw [Nat.pow_succ] at hv
        omega

theorem varint_f (v : Nat) (hv : v < 18446744073709551616) (k : Nat) (hk : 10 ≤ k) : bits_Varint.f k (v : Int) = some (vr v) := by
  unfold bits_Varint.f
  rw [varint_l0 9 k v [] (by omega) (by omega) (by simp), List.nil_append]

theorem vr_ne (v : Nat) : vr v ≠ [] := by
  by_cases h : v < 128
  · rw [vr_small h]; simp
  · rw [vr_big h]; simp

theorem vr_len (n : Nat) : ∀ v : Nat, v < 128 ^ (n + 1) → (vr v).length ≤ n + 1 := by
  induction n with
  | zero => intro v hv; rw [vr_small (by omega)]; simp
  | succ n ih =>
    intro v hv
    by_cases h : v < 128
    · rw [vr_small h]; simp
    · rw [vr_big h, List.length_cons]
      have := ih (v / 128) (by rw [Nat.pow_succ] at hv; omega)
      omega

theorem vr_bytes : ∀ v : Nat, Bytes (vr v) := by
  intro v
  induction v using Nat.strongRecOn with
  | _ v ih =>
    by_cases h : v < 128
    · rw [vr_small h]
      intro x hx
      simp at hx
      omega
    · rw [vr_big h]
      intro x hx
      rcases List.mem_cons.1 hx with rfl | hx
      · omega
      · exact ih (v / 128) (by omega) x hx


end Go.Proofs.Ytgmeellapjimgaa.Bp

/- Numbers of either sign as numbers without one, as printed. -/
namespace Go.Proofs.Ytgmeellapjimgaa.Bp
open Go Go.RowKit Go.Proofs.Ytgmeellapjimgaa.PBm Go.Proofs.YtgmeellapjimgaaW.PrintWords Go.Proofs.YtgmeellapjimgaaW.PrintLast Go.Proofs.YtgmeellapjimgaaW.PrintMore
set_option linter.unusedVariables false
set_option linter.unusedSimpArgs false

theorem xor_ones {x : Int} (h : 0 ≤ x ∧ x < 18446744073709551616) : Go.bits .xor .u64 x 18446744073709551615 = 18446744073709551615 - x := by
  obtain ⟨a, rfl⟩ := Int.eq_ofNat_of_zero_le h.1
  have e : (18446744073709551615 : Int) = ((18446744073709551615 : Nat) : Int) := rfl
  rw [e, u64_xor_nat a 18446744073709551615 (by omega) (by omega)]
  have q : (BitVec.ofNat 64 a ^^^ BitVec.allOnes 64).toNat = (~~~(BitVec.ofNat 64 a)).toNat := by rw [BitVec.xor_allOnes]
  rw [BitVec.toNat_xor, BitVec.toNat_not, BitVec.toNat_ofNat, BitVec.toNat_allOnes, Nat.mod_eq_of_lt (by omega)] at q
  rw [show (18446744073709551615 : Nat) = 2 ^ 64 - 1 from rfl, q]
  omega
theorem xor_nought {x : Int} (h : 0 ≤ x ∧ x < 18446744073709551616) : Go.bits .xor .u64 x 0 = x := by
  obtain ⟨a, rfl⟩ := Int.eq_ofNat_of_zero_le h.1
  have e : (0 : Int) = ((0 : Nat) : Int) := rfl
  rw [e, u64_xor_nat a 0 (by omega) (by omega), Nat.xor_zero]

def zig (n : Int) : Int := if 0 ≤ n then 2 * n else -2 * n - 1
theorem zig_range {n : Int} (h : -9223372036854775808 ≤ n ∧ n ≤ 9223372036854775807) : 0 ≤ zig n ∧ zig n < 18446744073709551616 := by unfold zig; split <;> omega
theorem zig_f {n : Int} (h : -9223372036854775808 ≤ n ∧ n ≤ 9223372036854775807) : bits_Zig.f n = some (zig n) := by
  unfold bits_Zig.f zig
  simp only [IntKind.wrap_u64]
  by_cases c : 0 ≤ n
  · rw [if_pos c, show n / 9223372036854775808 = 0 from by omega, show n % 18446744073709551616 * 2 % 18446744073709551616 = 2 * n from by omega, show (0 : Int) % 18446744073709551616 = 0 from rfl, xor_nought (by omega)]
  · rw [if_neg c, show n / 9223372036854775808 = -1 from by omega, show n % 18446744073709551616 * 2 % 18446744073709551616 = 2 * n + 18446744073709551616 from by omega, show (-1 : Int) % 18446744073709551616 = 18446744073709551615 from rfl, xor_ones (by omega)]
    congr 1
    omega


end Go.Proofs.Ytgmeellapjimgaa.Bp

/- What the program's Check and Encode of a record come to, as printed. -/
namespace Go.Proofs.Ytgmeellapjimgaa.Bp
open Go Go.RowKit Go.Proofs.Ytgmeellapjimgaa.PBm Go.Proofs.YtgmeellapjimgaaW.PrintWords Go.Proofs.YtgmeellapjimgaaW.PrintLast Go.Proofs.YtgmeellapjimgaaW.PrintMore
set_option linter.unusedVariables false
set_option linter.unusedSimpArgs false

/-- May a record be? 0: it may. -/
def odd (hk : Bool) (key : ByteArray) (hv : Bool) (val : ByteArray) (t o : Int) : Prop := (hk = false ∧ key.toList ≠ []) ∨ (hv = false ∧ val.toList ≠ []) ∨ t < 0 ∨ t > 1125899906842624 ∨ o < 0 ∨ o ≥ 100
instance (hk : Bool) (key : ByteArray) (hv : Bool) (val : ByteArray) (t o : Int) : Decidable (odd hk key hv val t o) := by unfold odd; infer_instance
def chk (hk : Bool) (key : ByteArray) (hv : Bool) (val : ByteArray) (t o : Int) : Int := if odd hk key hv val t o then 1 else if key.size > 2000 ∨ val.size > 2000 then 2 else 0

theorem check_f (k : Nat) (hk : Bool) (key : ByteArray) (hv : Bool) (val : ByteArray) (t o : Int) (h : 3 ≤ k) : record_Check.f k hk key hv val t o = some (chk hk key hv val t o) := by
  unfold record_Check.f chk rchk
  congr 1
  by_cases c : odd hk key hv val t o
  · rw [if_pos c, if_pos (by unfold odd at c; simp only [Bool.or_eq_true, Bool.and_eq_true, Bool.not_eq_true', List.isEmpty_eq_false_iff, decide_eq_true_eq]; exact c)]
  · rw [if_neg c, if_neg (by unfold odd at c; simp only [Bool.or_eq_true, Bool.and_eq_true, Bool.not_eq_true', List.isEmpty_eq_false_iff, decide_eq_true_eq]; exact c)]
    by_cases d : key.size > 2000 ∨ val.size > 2000
    · rw [if_pos d, if_pos (by omega)]
    · rw [if_neg d, if_neg (by omega)]

/-- A text with its length ahead. -/
def txt (s : ByteArray) : List Int := vr s.size ++ bytesOf s
theorem bytesOf_len (s : ByteArray) : (bytesOf s).length = s.size := by unfold bytesOf; simp
theorem text_f (s : ByteArray) (hs : s.size ≤ 140737488351232) (k : Nat) (hk : 10 ≤ k) : record_text.f k s = some (txt s) := by
  unfold record_text.f
  have hv := vr_len 9 s.size (by omega)
  rw [u64_id (by omega) (by omega), varint_f s.size (by omega) k hk, Option.bind_some, if_pos (by omega)]
  rfl
/-- Pieces, one behind the other. -/
theorem rd_L1_at {l : List (List Int)} {i : Nat} (h : i < l.length) : rd_L1 l (i : Int) = l[i] := by
  unfold rd_L1
  rw [Int.toNat_natCast, List.getD_eq_getElem?_getD, List.getElem?_eq_getElem h]
  rfl
theorem join_l0 (l : List (List Int)) (hl : l.length ≤ 1000) (n : Nat) : ∀ (k i : Nat) (acc : List Int), i + n = l.length → n + 1 ≤ k → acc.length + (l.drop i).flatten.length < 140737488355328 →
    record_join.l0 k acc l (l.length : Int) (i : Int) = some (acc ++ (l.drop i).flatten) := by
  induction n with
  | zero =>
    intro k i acc hi hk ha
    obtain ⟨K, rfl⟩ : ∃ K, k = K + 1 := ⟨k - 1, by omega⟩
    simp only [record_join.l0]
    rw [if_neg (by omega), List.drop_eq_nil_of_le (by omega)]
    simp
  | succ n ih =>
    intro k i acc hi hk ha
    obtain ⟨K, rfl⟩ : ∃ K, k = K + 1 := ⟨k - 1, by omega⟩
    simp only [record_join.l0]
    have hd : l.drop i = l[i] :: l.drop (i + 1) := List.drop_eq_getElem_cons (by omega)
    rw [hd, List.flatten_cons, List.length_append] at ha
    rw [if_pos (by omega), if_pos (by omega), if_pos (by omega), rd_L1_at (by omega), if_pos (by omega), up64 i (by omega), ih K (i + 1) _ (by omega) (by omega) (by rw [List.length_append]; omega), hd, List.flatten_cons, List.append_assoc]
theorem join_f (l : List (List Int)) (hl : l.length ≤ 1000) (k : Nat) (hk : l.length + 1 ≤ k) (ha : l.flatten.length < 140737488355328) : record_join.f k l = some l.flatten := by
  unfold record_join.f
  have := join_l0 l hl l.length k 0 [] (by omega) hk (by simpa using ha)
  simpa using this

def flags (hk hv : Bool) : Int := (if hk = true then 1 else 0) + (if hv = true then 2 else 0)
/-- A record's bytes. -/
def enc (hk : Bool) (key : ByteArray) (hv : Bool) (val : ByteArray) (t o first : Int) : List Int :=
  flags hk hv :: (vr o.toNat ++ (vr (zig (t - first)).toNat ++ ((if hk = true then txt key else []) ++ (if hv = true then txt val else []))))
theorem or01 : Go.bits .or .u8 0 1 = 1 := by decide
theorem or02 : Go.bits .or .u8 0 2 = 2 := by decide
theorem or12 : Go.bits .or .u8 1 2 = 3 := by decide

theorem txt_len (b : Bool) (s : ByteArray) (hs : s.size ≤ 140737488351232) : (if b = true then txt s else []).length ≤ 20 + s.size := by
  have := vr_len 9 s.size (by omega)
  split
  · unfold txt
    rw [List.length_append, bytesOf_len]; omega
  · simp
theorem enc_len (hk : Bool) (key : ByteArray) (hv : Bool) (val : ByteArray) (t o first : Int) (ho : o < 1000) (ht : -9223372036854775808 ≤ t - first ∧ t - first ≤ 9223372036854775807) (h1 : key.size ≤ 140737488351232) (h2 : val.size ≤ 140737488351232) :
    (enc hk key hv val t o first).length ≤ 80 + key.size + val.size := by
  have v1 := vr_len 9 o.toNat (by omega)
  have hz := zig_range ht
  have v2 := vr_len 9 (zig (t - first)).toNat (by omega)
  have a := txt_len hk key h1
  have b := txt_len hv val h2
  unfold enc
  simp only [List.length_cons, List.length_append]
  omega

theorem encode_j3 (l : List (List Int)) (hk : Bool) (key : ByteArray) (hv : Bool) (val : ByteArray) (t o : Int) (k : Nat) (h : 20 ≤ k) (hl : l.length ≤ 10) (hf : l.flatten.length ≤ 1000000) (hs : val.size ≤ 1000000) :
    record_Encode.j3 k l hk key hv val t o = some (l.flatten ++ (if hv = true then txt val else []), 0) := by
  obtain ⟨K, rfl⟩ : ∃ K, k = K + 1 := ⟨k - 1, by omega⟩
  simp only [record_Encode.j3]
  have b := txt_len true val (by omega)
  rw [if_pos rfl] at b
  by_cases c : hv = true
  · rw [if_pos c, if_pos c, text_f val (by omega) K (by omega), Option.bind_some, if_pos (by omega), join_f _ (by simp; omega) K (by simp; omega) (by simp only [List.flatten_append, List.length_append, List.flatten_cons, List.flatten_nil, List.append_nil]; omega), Option.bind_some]
    simp
  · rw [if_neg c, if_neg c, join_f _ (by omega) K (by omega) (by omega), Option.bind_some, List.append_nil]

theorem encode_j2 (x first : Int) (hk : Bool) (key : ByteArray) (hv : Bool) (val : ByteArray) (t o : Int) (k : Nat) (h : 30 ≤ k) (ho : 0 ≤ o ∧ o < 1000) (ht : -9223372036854775808 ≤ t - first ∧ t - first ≤ 9223372036854775807) (h1 : key.size ≤ 100000) (h2 : val.size ≤ 100000) :
    record_Encode.j2 k first x hk key hv val t o = some (x :: (vr o.toNat ++ (vr (zig (t - first)).toNat ++ ((if hk = true then txt key else []) ++ (if hv = true then txt val else [])))), 0) := by
  obtain ⟨K, rfl⟩ : ∃ K, k = K + 1 := ⟨k - 1, by omega⟩
  simp only [record_Encode.j2]
  have hz := zig_range ht
  have v1 := vr_len 9 o.toNat (by omega)
  have v2 := vr_len 9 (zig (t - first)).toNat (by omega)
  have a := txt_len true key (by omega)
  rw [if_pos rfl] at a
  have e1 : bits_Varint.f K (IntKind.u64.wrap o) = some (vr o.toNat) := by
    rw [u64_id (by omega) (by omega)]
    have := varint_f o.toNat (by omega) K (by omega)
    rw [Int.toNat_of_nonneg ho.1] at this
    exact this
  have e2 : bits_Varint.f K (zig (t - first)) = some (vr (zig (t - first)).toNat) := by
    have := varint_f (zig (t - first)).toNat (by omega) K (by omega)
    rw [Int.toNat_of_nonneg hz.1] at this
    exact this
  rw [e1, Option.bind_some, w64 (x := t - first) ht.1 ht.2, zig_f ht, Option.bind_some, e2, Option.bind_some, Option.bind_some]
  by_cases c : hk = true
  · rw [if_pos c, if_pos c, text_f key (by omega) K (by omega), Option.bind_some, if_pos (by simp), encode_j3 _ hk key hv val t o K (by omega) (by simp) (by simp; omega) (by omega)]
    simp
  · rw [if_neg c, if_neg c, encode_j3 _ hk key hv val t o K (by omega) (by simp) (by simp; omega) (by omega)]
    simp

theorem encode_f (hk : Bool) (key : ByteArray) (hv : Bool) (val : ByteArray) (t o first : Int) (k : Nat) (h : 40 ≤ k) (h0 : chk hk key hv val t o = 0) (hf : 0 ≤ first ∧ first ≤ 1125899906842624) :
    record_Encode.f k hk key hv val t o first = some (enc hk key hv val t o first, 0) := by
  obtain ⟨K, rfl⟩ : ∃ K, k = K + 1 + 1 := ⟨k - 2, by omega⟩
  have hc : ¬ odd hk key hv val t o ∧ ¬ (key.size > 2000 ∨ val.size > 2000) := by
    unfold chk at h0
    by_cases q : odd hk key hv val t o
    · rw [if_pos q] at h0; omega
    · rw [if_neg q] at h0
      refine ⟨q, fun r => ?_⟩
      rw [if_pos r] at h0; omega
  obtain ⟨ho, hs⟩ := hc
  unfold odd at ho
  have hh : 0 ≤ t ∧ t ≤ 1125899906842624 ∧ 0 ≤ o ∧ o < 100 := by omega
  unfold record_Encode.f
  rw [check_f _ hk key hv val t o (by omega), h0, Option.bind_some, if_pos rfl, if_neg (by omega), decide_eq_false (by omega)]
  simp only [record_Encode.j0]
  rw [if_neg (by simp)]
  have j := fun x => encode_j2 x first hk key hv val t o K (by omega) (by omega) (by omega) (by omega) (by omega)
  have g : ∀ x, record_Encode.j1 (K + 1) first x hk key hv val t o = some ((if hv = true then Go.bits .or .u8 x 2 else x) :: (vr o.toNat ++ (vr (zig (t - first)).toNat ++ ((if hk = true then txt key else []) ++ (if hv = true then txt val else [])))), 0) := by
    intro x
    simp only [record_Encode.j1]
    by_cases c : hv = true
    · rw [if_pos c, j]
      simp only [c, if_true]
    · rw [if_neg c, j]
      simp [c]
  rw [g, g, or01]
  unfold enc flags
  cases hk <;> cases hv <;> simp [or02, or12]

theorem encode_odd (hk : Bool) (key : ByteArray) (hv : Bool) (val : ByteArray) (t o first : Int) (k : Nat) (h : 40 ≤ k) (h0 : chk hk key hv val t o ≠ 0) :
    record_Encode.f k hk key hv val t o first = some ([], chk hk key hv val t o) := by
  unfold record_Encode.f
  rw [check_f _ hk key hv val t o (by omega), Option.bind_some, if_neg h0]
theorem encode_first (hk : Bool) (key : ByteArray) (hv : Bool) (val : ByteArray) (t o first : Int) (k : Nat) (h : 40 ≤ k) (h0 : chk hk key hv val t o = 0) (hf : ¬ (0 ≤ first ∧ first ≤ 1125899906842624)) :
    record_Encode.f k hk key hv val t o first = some ([], 1) := by
  obtain ⟨K, rfl⟩ : ∃ K, k = K + 1 := ⟨k - 1, by omega⟩
  unfold record_Encode.f
  rw [check_f _ hk key hv val t o (by omega), h0, Option.bind_some, if_pos rfl]
  have e : record_Encode.j0 (K + 1) first true hk key hv val t o = some ([], 1) := by
    simp only [record_Encode.j0]
    rw [if_pos (by trivial)]
  by_cases c : first < 0
  · rw [if_pos c]; exact e
  · rw [if_neg c, decide_eq_true (by omega)]; exact e

end Go.Proofs.Ytgmeellapjimgaa.Bp

/- What the program's Encode of a record comes to, whatever the record. -/
namespace Go.Proofs.Ytgmeellapjimgaa.Bp
open Go Go.RowKit Go.Proofs.Ytgmeellapjimgaa.PBm Go.Proofs.YtgmeellapjimgaaW.PrintWords Go.Proofs.YtgmeellapjimgaaW.PrintLast Go.Proofs.YtgmeellapjimgaaW.PrintMore
set_option linter.unusedVariables false
set_option linter.unusedSimpArgs false

/-- What a record comes to, as bytes and an error. -/
def encR (hk : Bool) (key : ByteArray) (hv : Bool) (val : ByteArray) (t o first : Int) : List Int × Int :=
  if chk hk key hv val t o = 0 then (if 0 ≤ first ∧ first ≤ 1125899906842624 then (enc hk key hv val t o first, 0) else ([], 1)) else ([], chk hk key hv val t o)

theorem chk_ok {hk : Bool} {key : ByteArray} {hv : Bool} {val : ByteArray} {t o : Int} (h0 : chk hk key hv val t o = 0) :
    (hk = false → key.toList = []) ∧ (hv = false → val.toList = []) ∧ 0 ≤ t ∧ t ≤ 1125899906842624 ∧ 0 ≤ o ∧ o < 100 ∧ key.size ≤ 2000 ∧ val.size ≤ 2000 := by
  unfold chk at h0
  by_cases q : odd hk key hv val t o
  · rw [if_pos q] at h0; omega
  · rw [if_neg q] at h0
    have hs : ¬ (key.size > 2000 ∨ val.size > 2000) := fun r => by rw [if_pos r] at h0; omega
    unfold odd at q
    refine ⟨fun a => ?_, fun a => ?_, by omega, by omega, by omega, by omega, by omega, by omega⟩
    · exact Classical.byContradiction fun b => q (Or.inl ⟨a, b⟩)
    · exact Classical.byContradiction fun b => q (Or.inr (Or.inl ⟨a, b⟩))

theorem encode_R (hk : Bool) (key : ByteArray) (hv : Bool) (val : ByteArray) (t o first : Int) (k : Nat) (h : 40 ≤ k) : record_Encode.f k hk key hv val t o first = some (encR hk key hv val t o first) := by
  unfold encR
  by_cases c : chk hk key hv val t o = 0
  · rw [if_pos c]
    by_cases d : 0 ≤ first ∧ first ≤ 1125899906842624
    · rw [if_pos d, encode_f hk key hv val t o first k h c d]
    · rw [if_neg d, encode_first hk key hv val t o first k h c d]
  · rw [if_neg c, encode_odd hk key hv val t o first k h c]

end Go.Proofs.Ytgmeellapjimgaa.Bp

/- The document's groups of seven digits, as printed, are the same. -/
namespace Go.Proofs.Ytgmeellapjimgaa.Bp
open Go Go.RowKit Go.Proofs.Ytgmeellapjimgaa.PBm Go.Proofs.YtgmeellapjimgaaW.PrintWords Go.Proofs.YtgmeellapjimgaaW.PrintLast Go.Proofs.YtgmeellapjimgaaW.PrintMore
set_option linter.unusedVariables false
set_option linter.unusedSimpArgs false

theorem rvarint_l0 (n : Nat) : ∀ (k v : Nat) (acc : List Int), v < 18446744073709551616 → v < 128 ^ (n + 1) → n + 1 ≤ k → acc.length + n + 1 < 140737488355328 → bollardref1_Varint.l0 k (v : Int) acc = some (acc ++ vr v) := by
  induction n with
  | zero =>
    intro k v acc h64 hv hk ha
    obtain ⟨K, rfl⟩ : ∃ K, k = K + 1 := ⟨k - 1, by omega⟩
    simp only [bollardref1_Varint.l0]
    rw [if_neg (by omega), if_pos (by omega), vr_small (by omega), show ((v : Int)) % 256 = (v : Int) from by omega]
  | succ n ih =>
    intro k v acc h64 hv hk ha
    obtain ⟨K, rfl⟩ : ∃ K, k = K + 1 := ⟨k - 1, by omega⟩
    simp only [bollardref1_Varint.l0]
    by_cases c : v < 128
    · rw [if_neg (by omega), if_pos (by omega), vr_small c, show ((v : Int)) % 256 = (v : Int) from by omega]
    · rw [if_pos (by omega), if_pos (by omega), u64_and127 (by omega), u64_or128 (by omega), show (v : Int) / 128 = ((v / 128 : Nat) : Int) from by omega, ih K (v / 128) _ (by omega) ?_ (by omega) (by simp; omega), vr_big c]
      · rw [List.append_assoc, show (((v : Int)) % 128 + 128) % 256 = ((v % 128 + 128 : Nat) : Int) from by omega]
        rfl
      · rw [Nat.pow_succ] at hv
        omega

theorem rvarint_f (v : Nat) (hv : v < 18446744073709551616) (k : Nat) (hk : 10 ≤ k) : bollardref1_Varint.f k (v : Int) = some (vr v) := by
  unfold bollardref1_Varint.f
  rw [rvarint_l0 9 k v [] hv (by omega) (by omega) (by simp), List.nil_append]


end Go.Proofs.Ytgmeellapjimgaa.Bp

/- The document's Check and Encode of a record, as printed, come to the same. -/
namespace Go.Proofs.Ytgmeellapjimgaa.Bp
open Go Go.RowKit Go.Proofs.Ytgmeellapjimgaa.PBm Go.Proofs.YtgmeellapjimgaaW.PrintWords Go.Proofs.YtgmeellapjimgaaW.PrintLast Go.Proofs.YtgmeellapjimgaaW.PrintMore
set_option linter.unusedVariables false
set_option linter.unusedSimpArgs false

theorem rcheckC (hk : Bool) (key : ByteArray) (hv : Bool) (val : ByteArray) (t o : Int) : chkC hk key hv val t o = chk hk key hv val t o := by
  unfold chkC chk oddB
  by_cases c : odd hk key hv val t o
  · rw [if_pos c, if_pos (by unfold odd at c; simp only [Bool.or_eq_true, Bool.and_eq_true, Bool.not_eq_true', List.isEmpty_eq_false_iff, decide_eq_true_eq, show (99 < o) = (o ≥ 100) from propext (by omega)]; exact c)]
  · rw [if_neg c, if_neg (by unfold odd at c; simp only [Bool.or_eq_true, Bool.and_eq_true, Bool.not_eq_true', List.isEmpty_eq_false_iff, decide_eq_true_eq, show (99 < o) = (o ≥ 100) from propext (by omega)]; exact c)]
    by_cases d : key.size > 2000 ∨ val.size > 2000
    · rw [if_pos d, if_pos (by omega)]
    · rw [if_neg d, if_neg (by omega)]
theorem rcheck_f (hk : Bool) (key : ByteArray) (hv : Bool) (val : ByteArray) (t o : Int) : bollardref12_Check.f hk key hv val t o = some (chk hk key hv val t o) := congrArg some (rcheckC hk key hv val t o)

theorem encTx_f (k : Nat) (is : Bool) (s : ByteArray) (hs : s.size ≤ 100000) (hk : 20 ≤ k) : encTx k is s = some (if is = true then txt s else []) := by
  unfold encTx
  by_cases c : is = true
  · have v := vr_len 9 s.size (by omega)
    rw [if_pos c, if_pos c, rvarint_f s.size (by omega) k (by omega), Option.bind_some, if_pos (by omega)]
    rfl
  · rw [if_neg c, if_neg c]

theorem rencode_R (hk : Bool) (key : ByteArray) (hv : Bool) (val : ByteArray) (t o first : Int) (k : Nat) (h : 40 ≤ k) : bollardref12_Encode.f k hk key hv val t o first = some (encR hk key hv val t o first) := by
  unfold encR bollardref12_Encode.f
  rw [rcheck_f, Option.bind_some]
  by_cases c : chk hk key hv val t o = 0
  · rw [if_pos c, if_pos c]
    have hc := chk_ok c
    by_cases d : 0 ≤ first ∧ first ≤ 1125899906842624
    · have hz := zig_range (show -9223372036854775808 ≤ t - first ∧ t - first ≤ 9223372036854775807 by omega)
      have v1 := vr_len 9 o.toNat (by omega)
      have v2 := vr_len 9 (zig (t - first)).toNat (by omega)
      have e1 : bollardref1_Varint.f k o = some (vr o.toNat) := by
        have := rvarint_f o.toNat (by omega) k (by omega)
        rwa [Int.toNat_of_nonneg (by omega)] at this
      have e2 : bollardref1_Varint.f k (zig (t - first)) = some (vr (zig (t - first)).toNat) := by
        have := rvarint_f (zig (t - first)).toNat (by omega) k (by omega)
        rwa [Int.toNat_of_nonneg hz.1] at this
      have ez : bollardref1_Zig.f (t - first) = some (zig (t - first)) := zig_f (by omega)
      rw [if_pos d, if_neg (by omega), if_neg (by omega), if_pos (by omega), e1, Option.bind_some, w64 (x := t - first) (by omega) (by omega), ez, Option.bind_some, e2, Option.bind_some, if_pos (by omega), encTx_f k _ _ (by omega) (by omega), Option.bind_some, encTx_f k _ _ (by omega) (by omega), Option.bind_some]
      unfold enc flags flC
      cases hk <;> cases hv <;> simp
    · rw [if_neg d]
      by_cases q : first < 0
      · rw [if_pos q]
      · rw [if_neg q, if_pos (by omega)]
  · rw [if_neg c, if_neg c]

end Go.Proofs.Ytgmeellapjimgaa.Bp

/- A batch's bytes: what the program's laid and Encode come to, and the document's. -/
namespace Go.Proofs.Ytgmeellapjimgaa.Bp
open Go Go.RowKit Go.Proofs.Ytgmeellapjimgaa.PBm Go.Proofs.YtgmeellapjimgaaW.PrintWords Go.Proofs.YtgmeellapjimgaaW.PrintLast Go.Proofs.YtgmeellapjimgaaW.PrintMore
set_option linter.unusedVariables false
set_option linter.unusedSimpArgs false

/-- A number as it is laid. -/
def U (v : Int) : Nat := (IntKind.u64.wrap v).toNat
theorem U_eq (v : Int) : IntKind.u64.wrap v = ((U v : Nat) : Int) := by unfold U; rw [IntKind.wrap_u64]; omega
theorem take_all {α : Type} (A B : List α) (n : Nat) (h : A.length = n) : (A ++ B).take n = A := by rw [← h]; exact List.take_left
theorem drop_all {α : Type} (A B : List α) (n : Nat) (h : A.length = n) : (A ++ B).drop n = B := by rw [← h]; exact List.drop_left
theorem bput_f (l : List Int) (hl : l.length ≤ 140737488351232) (a n : Nat) (v : Int) (h1 : 1 ≤ n) (h8 : n ≤ 8) (h : a + n ≤ l.length) (k : Nat) (hk : 9 ≤ k) :
    batch_put.f k l (a : Int) (n : Int) v = some (l.take a ++ (beL (U v) n ++ l.drop (a + n))) := by
  unfold batch_put.f
  rw [U_eq, put_f l hl a n (U v) true h1 h8 h k hk, Option.bind_some]
  unfold lay
  rw [range_big]
theorem bput_at (A C B : List Int) (a n : Int) (m : Nat) (v : Int) (hA : a = (A.length : Int)) (hn : n = (m : Int)) (hC : C.length = m) (hl : (A ++ (C ++ B)).length ≤ 140737488351232) (h1 : 1 ≤ m) (h8 : m ≤ 8) (k : Nat) (hk : 9 ≤ k) :
    batch_put.f k (A ++ (C ++ B)) a n v = some (A ++ (beL (U v) m ++ B)) := by
  subst hA
  subst hn
  rw [bput_f _ hl A.length m v h1 h8 (by simp only [List.length_append]; omega) k hk, take_all A _ _ rfl, ← List.drop_drop, drop_all A _ _ rfl, drop_all C _ m hC]
/-- The document's Lay. -/
theorem lay_l0 (v : Nat) (n : Nat) (hn : n ≤ 8) : ∀ (k : Nat) (x : List Int), x.length + n ≤ 1000000000 → n + 1 ≤ k → bollardref1_Lay.l0 k x (v : Int) ((n : Int) - 1) = some (x ++ beL v n) := by
  induction n with
  | zero =>
    intro k x hx hk
    obtain ⟨K, rfl⟩ : ∃ K, k = K + 1 := ⟨k - 1, by omega⟩
    simp only [bollardref1_Lay.l0]
    rw [if_neg (by omega)]
    simp [beL]
  | succ n ih =>
    intro k x hx hk
    obtain ⟨K, rfl⟩ : ∃ K, k = K + 1 := ⟨k - 1, by omega⟩
    simp only [bollardref1_Lay.l0]
    have e8 : wrap64 (8 * (((n + 1 : Nat) : Int) - 1)) = 8 * (n : Int) := by unfold wrap64; omega
    have e9 : wrap64 ((((n + 1 : Nat) : Int) - 1) - 1) = (n : Int) - 1 := by unfold wrap64; omega
    rw [if_pos (by omega), e8, if_pos (by omega), if_pos (by omega), e9, dg_shr v n (by omega), ih (by omega) K _ (by simp only [List.length_append, List.length_cons, List.length_nil]; omega) (by omega), List.append_assoc]
    rfl
theorem lay_f (x : List Int) (n : Int) (m : Nat) (hn : n = (m : Int)) (h1 : 1 ≤ m) (h8 : m ≤ 8) (v : Int) (hx : x.length ≤ 100000000) (k : Nat) (hk : 9 ≤ k) : bollardref1_Lay.f k x n (IntKind.u64.wrap v) = some (x ++ beL (U v) m) := by
  subst hn
  unfold bollardref1_Lay.f
  rw [U_eq, show wrap64 ((m : Int) - 1) = (m : Int) - 1 from by unfold wrap64; omega, lay_l0 (U v) m h8 k x (by omega) (by omega)]
def Z (n : Nat) : List Int := List.replicate n 0
theorem Z_len (n : Nat) : (Z n).length = n := List.length_replicate
/-- The head behind the Sum. -/
def bodyH (s p q n first : Int) : List Int := beL (U p) 8 ++ (beL (U q) 8 ++ (beL (U s) 4 ++ (beL (U n) 4 ++ beL (U first) 8)))
theorem bodyH_len (s p q n first : Int) : (bodyH s p q n first).length = 32 := by unfold bodyH; simp only [List.length_append, beL_length]
theorem head_f (b s p q n first : Int) (k : Nat) (hk : 9 ≤ k) : headL k b s p q n first = some (beL (U b) 8 ++ (Z 8 ++ bodyH s p q n first)) := by
  unfold headL
  have e0 : List.replicate 48 (0 : Int) = [] ++ (Z 8 ++ (Z 8 ++ (Z 8 ++ (Z 8 ++ (Z 4 ++ (Z 4 ++ Z 8)))))) := rfl
  rw [e0, bput_at [] (Z 8) (Z 8 ++ (Z 8 ++ (Z 8 ++ (Z 4 ++ (Z 4 ++ Z 8))))) 0 8 8 b rfl rfl rfl (by simp [Z_len]) (by omega) (by omega) k hk, Option.bind_some]
  rw [show ([] : List Int) ++ (beL (U b) 8 ++ (Z 8 ++ (Z 8 ++ (Z 8 ++ (Z 4 ++ (Z 4 ++ Z 8)))))) = (beL (U b) 8 ++ Z 8) ++ (Z 8 ++ (Z 8 ++ (Z 4 ++ (Z 4 ++ Z 8)))) from by simp,
    bput_at (beL (U b) 8 ++ Z 8) (Z 8) (Z 8 ++ (Z 4 ++ (Z 4 ++ Z 8))) 16 8 8 p (by simp [Z_len, beL_length]) rfl rfl (by simp [Z_len, beL_length]) (by omega) (by omega) k hk, Option.bind_some]
  rw [show (beL (U b) 8 ++ Z 8) ++ (beL (U p) 8 ++ (Z 8 ++ (Z 4 ++ (Z 4 ++ Z 8)))) = (beL (U b) 8 ++ Z 8 ++ beL (U p) 8) ++ (Z 8 ++ (Z 4 ++ (Z 4 ++ Z 8))) from by simp,
    bput_at (beL (U b) 8 ++ Z 8 ++ beL (U p) 8) (Z 8) (Z 4 ++ (Z 4 ++ Z 8)) 24 8 8 q (by simp [Z_len, beL_length]) rfl rfl (by simp [Z_len, beL_length]) (by omega) (by omega) k hk, Option.bind_some]
  rw [show (beL (U b) 8 ++ Z 8 ++ beL (U p) 8) ++ (beL (U q) 8 ++ (Z 4 ++ (Z 4 ++ Z 8))) = (beL (U b) 8 ++ Z 8 ++ beL (U p) 8 ++ beL (U q) 8) ++ (Z 4 ++ (Z 4 ++ Z 8)) from by simp,
    bput_at (beL (U b) 8 ++ Z 8 ++ beL (U p) 8 ++ beL (U q) 8) (Z 4) (Z 4 ++ Z 8) 32 4 4 s (by simp [Z_len, beL_length]) rfl rfl (by simp [Z_len, beL_length]) (by omega) (by omega) k hk, Option.bind_some]
  rw [show (beL (U b) 8 ++ Z 8 ++ beL (U p) 8 ++ beL (U q) 8) ++ (beL (U s) 4 ++ (Z 4 ++ Z 8)) = (beL (U b) 8 ++ Z 8 ++ beL (U p) 8 ++ beL (U q) 8 ++ beL (U s) 4) ++ (Z 4 ++ Z 8) from by simp,
    bput_at (beL (U b) 8 ++ Z 8 ++ beL (U p) 8 ++ beL (U q) 8 ++ beL (U s) 4) (Z 4) (Z 8) 36 4 4 n (by simp [Z_len, beL_length]) rfl rfl (by simp [Z_len, beL_length]) (by omega) (by omega) k hk, Option.bind_some]
  rw [show (beL (U b) 8 ++ Z 8 ++ beL (U p) 8 ++ beL (U q) 8 ++ beL (U s) 4) ++ (beL (U n) 4 ++ Z 8) = (beL (U b) 8 ++ Z 8 ++ beL (U p) 8 ++ beL (U q) 8 ++ beL (U s) 4 ++ beL (U n) 4) ++ (Z 8 ++ []) from by simp,
    bput_at (beL (U b) 8 ++ Z 8 ++ beL (U p) 8 ++ beL (U q) 8 ++ beL (U s) 4 ++ beL (U n) 4) (Z 8) [] 40 8 8 first (by simp [Z_len, beL_length]) rfl rfl (by simp [Z_len, beL_length]) (by omega) (by omega) k hk]
  unfold bodyH
  simp

/-- A record's error. -/
def chkS (x : S45) : Int := chk x.f0 x.f1 x.f2 x.f3 x.f4 x.f5
/-- A record's bytes. -/
def encS (first : Int) (x : S45) : List Int := enc x.f0 x.f1 x.f2 x.f3 x.f4 x.f5 first
/-- The first record's error, or none. -/
def ferr : List S45 → Int
  | [] => 0
  | x :: l => if chkS x = 0 then ferr l else chkS x
theorem chkL_f (k : Nat) (hk : 3 ≤ k) : ∀ l, chkL k l = some (ferr l)
  | [] => rfl
  | x :: l => by
    rw [chkL, check_f k _ _ _ _ _ _ hk, Option.bind_some]
    show (if chkS x = 0 then chkL k l else some (chkS x)) = _
    rw [chkL_f k hk l, ferr]
    split <;> rfl
theorem ferr_all : ∀ {l : List S45}, ferr l = 0 → ∀ x ∈ l, chkS x = 0
  | [], _, x, hx => by cases hx
  | y :: l, h, x, hx => by
    rw [ferr] at h
    by_cases c : chkS y = 0
    · rw [if_pos c] at h
      rcases List.mem_cons.1 hx with rfl | hx
      · exact c
      · exact ferr_all h x hx
    · rw [if_neg c] at h; exact absurd h c
def flat (first : Int) (l : List S45) : List Int := (l.map (encS first)).flatten
theorem encS_len {x : S45} {first : Int} (h : chkS x = 0) (hf : 0 ≤ first ∧ first ≤ 1125899906842624) : (encS first x).length ≤ 5000 := by
  have hc := chk_ok h
  have := enc_len x.f0 x.f1 x.f2 x.f3 x.f4 x.f5 first (by omega) (by omega) (by omega) (by omega)
  unfold encS
  omega
theorem flat_len (first : Int) (hf : 0 ≤ first ∧ first ≤ 1125899906842624) : ∀ l : List S45, (∀ x ∈ l, chkS x = 0) → (flat first l).length ≤ 5000 * l.length
  | [], _ => by simp [flat]
  | x :: l, h => by
    have := flat_len first hf l (fun y hy => h y (List.mem_cons_of_mem _ hy))
    have h2 := encS_len (h x List.mem_cons_self) hf
    unfold flat at this ⊢
    rw [List.map_cons, List.flatten_cons, List.length_append, List.length_cons]
    omega
theorem encL_f (k : Nat) (hk : 40 ≤ k) (first : Int) (hf : 0 ≤ first ∧ first ≤ 1125899906842624) : ∀ (l : List S45) (acc : List Int), (∀ x ∈ l, chkS x = 0) → acc.length + 5000 * l.length ≤ 1000000000 → encL k first l acc = some (acc ++ flat first l, 0)
  | [], acc, _, _ => by simp [encL, flat]
  | x :: l, acc, h, hl => by
    have hx := h x List.mem_cons_self
    have h2 := encS_len hx hf
    simp only [List.length_cons] at hl
    rw [encL, encode_R _ _ _ _ _ _ _ k hk, Option.bind_some]
    unfold encR
    rw [if_pos (show chk x.f0 x.f1 x.f2 x.f3 x.f4 x.f5 = 0 from hx), if_pos hf]
    dsimp only
    unfold encS at h2
    rw [if_pos rfl, if_pos (by omega)]
    refine (encL_f k hk first hf l _ (fun y hy => h y (List.mem_cons_of_mem _ hy)) (by rw [List.length_append]; omega)).trans ?_
    rw [List.append_assoc]
    rfl
/-- What stands behind a batch's Sum. -/
def bodyB (s p q : Int) (l : List S45) : List Int := bodyH s p q (l.length : Int) (rd_T45 l 0).f4 ++ flat (rd_T45 l 0).f4 l
/-- A batch's bytes. -/
def bytesB (b s p q : Int) (l : List S45) : List Int := beL (U b) 8 ++ (beL (U (((bodyB s p q l).length : Int) + 4)) 4 ++ (beL (U (Crc.crc (bodyB s p q l))) 4 ++ bodyB s p q l))
theorem crc_rng (l : List Int) : 0 ≤ Crc.crc l ∧ Crc.crc l < 4294967296 := by
  unfold Crc.crc
  have := Crc.toNat_lt (Crc.more 0#32 l)
  omega
theorem tail_f (b s p q : Int) (l : List S45) (hb : (bodyB s p q l).length ≤ 10000000) (k : Nat) (hk : 10 * (bodyB s p q l).length + 100 ≤ k) :
    tailL k (beL (U b) 8 ++ (Z 8 ++ bodyB s p q l)) = some (bytesB b s p q l, 0) := by
  obtain ⟨B, hB⟩ : ∃ B, B = bodyB s p q l := ⟨_, rfl⟩
  rw [← hB] at hb hk ⊢
  have hl : (beL (U b) 8 ++ (Z 8 ++ B)).length = 16 + B.length := by simp only [List.length_append, beL_length, Z_len]; omega
  have hc := crc_rng B
  unfold tailL
  rw [if_neg (by rw [hl]; omega), hl, show ((16 + B.length : Nat) : Int) - 12 = (B.length : Int) + 4 by omega]
  rw [show beL (U b) 8 ++ (Z 8 ++ B) = beL (U b) 8 ++ (Z 4 ++ (Z 4 ++ B)) from by rw [← List.append_assoc (Z 4)]; rfl,
    bput_at (beL (U b) 8) (Z 4) (Z 4 ++ B) 8 4 4 _ (by simp [beL_length]) rfl rfl (by simp only [List.length_append, beL_length, Z_len]; omega) (by omega) (by omega) k (by omega), Option.bind_some]
  have hd : (beL (U b) 8 ++ (beL (U ((B.length : Int) + 4)) 4 ++ (Z 4 ++ B))).drop 16 = B := by
    rw [show beL (U b) 8 ++ (beL (U ((B.length : Int) + 4)) 4 ++ (Z 4 ++ B)) = (beL (U b) 8 ++ beL (U ((B.length : Int) + 4)) 4 ++ Z 4) ++ B from by simp]
    exact drop_all _ _ _ (by simp [beL_length, Z_len])
  rw [if_pos (by simp only [List.length_append, beL_length, Z_len]; omega), hd, Crc.sum_f B (by omega) k (by omega), Option.bind_some, if_pos hc]
  rw [show beL (U b) 8 ++ (beL (U ((B.length : Int) + 4)) 4 ++ (Z 4 ++ B)) = (beL (U b) 8 ++ beL (U ((B.length : Int) + 4)) 4) ++ (Z 4 ++ B) from by simp,
    bput_at (beL (U b) 8 ++ beL (U ((B.length : Int) + 4)) 4) (Z 4) B 12 4 4 _ (by simp [beL_length]) rfl rfl (by simp only [List.length_append, beL_length, Z_len]; omega) (by omega) (by omega) k (by omega), Option.bind_some]
  unfold bytesB
  rw [← hB]
  simp
theorem bytesB_len (b s p q : Int) (l : List S45) : (bytesB b s p q l).length = 16 + (bodyB s p q l).length := by unfold bytesB; simp only [List.length_append, beL_length]; omega
theorem bodyB_len (s p q : Int) (l : List S45) : (bodyB s p q l).length = 32 + (flat (rd_T45 l 0).f4 l).length := by unfold bodyB; rw [List.length_append, bodyH_len]
theorem first_ok {l : List S45} (h0 : 0 < l.length) (h : ∀ x ∈ l, chkS x = 0) : 0 ≤ (rd_T45 l 0).f4 ∧ (rd_T45 l 0).f4 ≤ 1125899906842624 := by
  have hm : rd_T45 l 0 ∈ l := by
    unfold rd_T45
    rw [List.getD_eq_getElem?_getD, List.getElem?_eq_getElem (show (0 : Int).toNat < l.length from h0)]
    exact List.getElem_mem _
  have := chk_ok (h _ hm)
  omega
/-- Offsets that rise, from 0 on, are fewer than the span. -/
theorem off_count {b s p q : Int} {l : List S45} (ho : offsOk b s p q l) (hall : ∀ x ∈ l, chkS x = 0) : l.length ≤ 100 := by
  have h0 : 0 < l.length := Nat.pos_of_ne_zero ho.2.2.2.2.2.2.1
  have hoff := ho.2.2.2.2.2.2.2
  have up : ∀ i, i < l.length → (i : Int) ≤ (rd_T45 l (i : Int)).f5 := by
    intro i
    induction i with
    | zero =>
      intro hi
      have hm : rd_T45 l ((0 : Nat) : Int) ∈ l := by
        unfold rd_T45
        rw [List.getD_eq_getElem?_getD, List.getElem?_eq_getElem (show ((0 : Nat) : Int).toNat < l.length from hi)]
        exact List.getElem_mem _
      have := chk_ok (hall _ hm)
      omega
    | succ i ih =>
      intro hi
      have h1 := ih (by omega)
      have h2 := (hoff (i + 1) hi).2 (by omega)
      rw [show ((i + 1 : Nat) : Int) - 1 = (i : Int) by omega] at h2
      omega
  have h1 := up (l.length - 1) (by omega)
  have h2 := (hoff (l.length - 1) (by omega)).1
  have h3 := ho.2.2.2.1
  omega
/-- What a batch comes to, as bytes and an error. -/
def laidR (b s p q : Int) (l : List S45) : List Int × Int := if ¬ offsOk b s p q l then ([], 1) else if ferr l = 0 then (bytesB b s p q l, 0) else ([], ferr l)
theorem laid_f (b s p q : Int) (l : List S45) (hl : l.length ≤ 3000) (k : Nat) (hk : 20000000 ≤ k) : batch_laid.f k b s p q l = some (laidR b s p q l) := by
  unfold batch_laid.f laidR
  by_cases ho : offsOk b s p q l
  case neg => rw [if_pos ho, if_pos ho]
  rw [if_neg (not_not_intro ho), if_neg (not_not_intro ho), head_f _ _ _ _ _ _ k (by omega), Option.bind_some, chkL_f k (by omega), Option.bind_some]
  by_cases hf : ferr l = 0
  · have hall := ferr_all hf
    have hl := off_count ho hall
    have h0 : 0 < l.length := Nat.pos_of_ne_zero ho.2.2.2.2.2.2.1
    have hfo := first_ok h0 hall
    have hfl := flat_len _ hfo l hall
    have hbl := bodyB_len s p q l
    rw [if_pos hf, if_pos hf, encL_f k (by omega) _ hfo l _ hall (by simp only [List.length_append, beL_length, Z_len, bodyH_len]; omega), Option.bind_some]
    dsimp only
    rw [if_pos rfl, List.append_assoc, List.append_assoc]
    exact tail_f b s p q l (by omega) k (by omega)
  · rw [if_neg hf, if_neg hf]
end Go.Proofs.Ytgmeellapjimgaa.Bp

/- Strings of bytes: two rows of bytes are the same where their strings are. -/
namespace Go.Proofs.Ytgmeellapjimgaa.Bp
open Go Go.RowKit Go.Proofs.YtgmeellapjimgaaW.PrintWords Go.Proofs.YtgmeellapjimgaaW.PrintLast Go.Proofs.YtgmeellapjimgaaW.PrintMore
set_option linter.unusedVariables false
set_option linter.unusedSimpArgs false

theorem toList_loop_ (bs : ByteArray) : ∀ (n i : Nat) (r : List UInt8), bs.size - i = n → ByteArray.toList.loop bs i r = r.reverse ++ bs.data.toList.drop i
  | 0, i, r, h => by
    rw [ByteArray.toList.loop, if_neg (by omega)]
    have : bs.data.toList.drop i = [] := List.drop_eq_nil_of_le (by rw [Array.length_toList]; show bs.size ≤ i; omega)
    rw [this, List.append_nil]
  | n + 1, i, r, h => by
    have hi : i < bs.data.size := by show i < bs.size; omega
    have e : bs.data.toList.drop i = bs.data[i] :: bs.data.toList.drop (i + 1) := List.drop_eq_getElem_cons (by rw [Array.length_toList]; exact hi)
    rw [ByteArray.toList.loop, if_pos (by omega), toList_loop_ bs n (i + 1) _ (by omega), List.reverse_cons, List.append_assoc, e]
    have e2 : bs.get! i = bs.data[i] := by unfold ByteArray.get!; exact getElem!_pos bs.data i hi
    rw [e2]
    rfl
theorem toList_data_ (bs : ByteArray) : bs.toList = bs.data.toList := by
  have := toList_loop_ bs _ 0 [] rfl
  simpa [ByteArray.toList] using this
theorem strs_eq {l m : List Int} (hl : Bytes l) (hm : Bytes m) : (strOfNums l).toList = (strOfNums m).toList ↔ l = m := by
  constructor
  · intro h
    rw [toList_data_, toList_data_, strOfNums_data, strOfNums_data] at h
    have h2 := congrArg (List.map fun b : UInt8 => (b.toNat : Int)) h
    rw [List.map_map, List.map_map] at h2
    have e : ∀ {x : List Int}, Bytes x → x.map ((fun b : UInt8 => (b.toNat : Int)) ∘ fun n : Int => UInt8.ofNat n.toNat) = x := by
      intro x hx
      conv => rhs; rw [← List.map_id x]
      refine List.map_congr_left fun b hb => ?_
      have := hx b hb
      simp only [Function.comp, id, UInt8.toNat_ofNat']
      omega
    rwa [e hl, e hm] at h2
  · rintro rfl
    rfl
theorem strs_beq {l m : List Int} (hl : Bytes l) (hm : Bytes m) : ((strOfNums l).toList == (strOfNums m).toList) = decide (l = m) := by
  by_cases c : l = m
  · rw [decide_eq_true c, beq_iff_eq]; exact (strs_eq hl hm).2 c
  · rw [decide_eq_false c, beq_eq_false_iff_ne]; exact fun h => c ((strs_eq hl hm).1 h)

end Go.Proofs.Ytgmeellapjimgaa.Bp

/- What the document's batch comes to. -/
namespace Go.Proofs.Ytgmeellapjimgaa.Bp
open Go Go.RowKit Go.Proofs.Ytgmeellapjimgaa.PBm Go.Proofs.YtgmeellapjimgaaW.PrintWords Go.Proofs.YtgmeellapjimgaaW.PrintLast Go.Proofs.YtgmeellapjimgaaW.PrintMore
set_option linter.unusedVariables false
set_option linter.unusedSimpArgs false

theorem rd_drop {l : List S45} {i : Nat} (h : i < l.length) : l.drop i = rd_T45 l (i : Int) :: l.drop (i + 1) := by
  rw [List.drop_eq_getElem_cons h]
  congr 1
  unfold rd_T45
  rw [Int.toNat_natCast, List.getD_eq_getElem?_getD, List.getElem?_eq_getElem h]
  rfl
theorem rd_mem {l : List S45} {i : Nat} (h : i < l.length) : rd_T45 l (i : Int) ∈ l := by
  unfold rd_T45
  rw [Int.toNat_natCast, List.getD_eq_getElem?_getD, List.getElem?_eq_getElem h]
  exact List.getElem_mem h
theorem flat_cons (first : Int) (x : S45) (l : List S45) : flat first (x :: l) = encS first x ++ flat first l := by unfold flat; rw [List.map_cons, List.flatten_cons]
theorem body_l0 (b s p q : Int) (l : List S45) (hl : l.length ≤ 3000) (hall : ∀ x ∈ l, chkS x = 0) (h0 : 0 < l.length) (n : Nat) : ∀ (k i : Nat) (x : List Int), i + n = l.length → n + 41 ≤ k → x.length + 5000 * n ≤ 100000000 →
    bollardref12_body.l0 k x (i : Int) b s p q l = some (x ++ flat (rd_T45 l 0).f4 (l.drop i)) := by
  have hf := first_ok h0 hall
  induction n with
  | zero =>
    intro k i x hi hk hx
    obtain ⟨K, rfl⟩ : ∃ K, k = K + 1 := ⟨k - 1, by omega⟩
    simp only [bollardref12_body.l0]
    rw [if_neg (by omega), List.drop_eq_nil_of_le (by omega)]
    simp [flat]
  | succ n ih =>
    intro k i x hi hk hx
    obtain ⟨K, rfl⟩ : ∃ K, k = K + 1 := ⟨k - 1, by omega⟩
    simp only [bollardref12_body.l0]
    have hlt : i < l.length := by omega
    have hx0 := hall _ (rd_mem hlt)
    have hel := encS_len hx0 hf
    rw [if_pos (by omega), if_pos (by omega), if_pos (by omega), rencode_R _ _ _ _ _ _ _ K (by omega), Option.bind_some]
    unfold encR
    rw [if_pos (show chk _ _ _ _ _ _ = 0 from hx0), if_pos hf]
    dsimp only
    have e : wrap64 ((i : Int) + 1) = ((i + 1 : Nat) : Int) := by unfold wrap64; omega
    unfold encS at hel
    rw [if_pos (by omega), e]
    refine (ih K (i + 1) _ (by omega) (by omega) (by rw [List.length_append]; omega)).trans ?_
    rw [rd_drop hlt, flat_cons, List.append_assoc]
    rfl
theorem body_f (b s p q : Int) (l : List S45) (hl : l.length ≤ 3000) (hall : ∀ x ∈ l, chkS x = 0) (h0 : 0 < l.length) (k : Nat) (hk : 4000 ≤ k) : bollardref12_body.f k b s p q l = some (bodyB s p q l) := by
  unfold bollardref12_body.f
  rw [lay_f [] 8 8 rfl (by omega) (by omega) p (by simp) k (by omega), Option.bind_some, lay_f _ 8 8 rfl (by omega) (by omega) q (by simp [beL_length]) k (by omega), Option.bind_some, lay_f _ 4 4 rfl (by omega) (by omega) s (by simp [beL_length]) k (by omega), Option.bind_some,
    lay_f _ 4 4 rfl (by omega) (by omega) _ (by simp [beL_length]) k (by omega), Option.bind_some, if_pos (by omega), lay_f _ 8 8 rfl (by omega) (by omega) _ (by simp [beL_length]) k (by omega), Option.bind_some]
  have := body_l0 b s p q l hl hall h0 l.length k 0 ((((([] ++ beL (U p) 8) ++ beL (U q) 8) ++ beL (U s) 4) ++ beL (U (l.length : Int)) 4) ++ beL (U (rd_T45 l 0).f4) 8) (by omega) (by omega) (by simp [beL_length]; omega)
  refine this.trans ?_
  unfold bodyB bodyH
  simp
theorem enc_ge {x : S45} (first : Int) (h : chkS x = 0) : x.f1.size + x.f3.size ≤ (encS first x).length := by
  have hc := chk_ok h
  have hz : ∀ b : ByteArray, b.toList = [] → b.size = 0 := fun b hb => by
    rw [toList_data_] at hb
    have := congrArg List.length hb
    simpa using this
  have hk : x.f1.size ≤ (if x.f0 = true then txt x.f1 else []).length := by
    cases h0 : x.f0
    · rw [hz _ (hc.1 h0)]; omega
    · simp [txt, bytesOf_len]
  have hv : x.f3.size ≤ (if x.f2 = true then txt x.f3 else []).length := by
    cases h0 : x.f2
    · rw [hz _ (hc.2.1 h0)]; omega
    · simp [txt, bytesOf_len]
  unfold encS enc
  simp only [List.length_cons, List.length_append]
  omega
/-- What the document's check says of records that follow one another rightly. -/
def big (s p q : Int) (l : List S45) : Int := if 16 + (bodyB s p q l).length > 6000 then 2 else 0
theorem cb_sum (first : Int) : ∀ (l : List S45) (n : Int), 0 ≤ n → n + 4000 * (l.length : Int) ≤ 100000000 → (cbSum n l).1 = ferr l ∧ (ferr l = 0 → 0 ≤ (cbSum n l).2 ∧ (cbSum n l).2 ≤ n + ((flat first l).length : Int))
  | [], n, h0, h1 => ⟨rfl, fun _ => ⟨h0, by show n ≤ _; simp [flat]⟩⟩
  | x :: l, n, h0, h1 => by
    have e : chkR x = chkS x := rcheckC _ _ _ _ _ _
    rw [List.length_cons] at h1
    rw [cbSum, ferr, e]
    by_cases c : chkS x = 0
    · have hc := chk_ok c
      have he := enc_ge first c
      rw [if_pos c, if_pos c, show IntKind.i64.wrap (IntKind.i64.wrap (n + (x.f1.size : Int)) + (x.f3.size : Int)) = n + (x.f1.size : Int) + (x.f3.size : Int) from by rw [i64_w, i64_w]; unfold wrap64; omega, flat_cons, List.length_append]
      have ih := cb_sum first l (n + (x.f1.size : Int) + (x.f3.size : Int)) (by omega) (by omega)
      exact ⟨ih.1, fun h => by have := ih.2 h; omega⟩
    · rw [if_neg c, if_neg c]
      exact ⟨rfl, fun h => absurd h c⟩
/-- The offsets rise, from one on. -/
def okFrom (s : Int) : Int → List S45 → Prop
  | _, [] => True
  | last, x :: l => ¬ x.f5 ≤ last ∧ ¬ x.f5 ≥ s ∧ okFrom s x.f5 l
theorem cb_off (s : Int) : ∀ (l : List S45) (last : Int), cbOff s last l = true ↔ okFrom s last l
  | [], _ => ⟨fun _ => trivial, fun _ => rfl⟩
  | x :: l, last => by
    rw [cbOff, okFrom]
    by_cases c : x.f5 ≤ last
    · rw [if_pos c]; exact ⟨fun h => (by cases h), fun h => absurd c h.1⟩
    rw [if_neg c]
    by_cases d : s ≤ x.f5
    · rw [if_pos d]; exact ⟨fun h => (by cases h), fun h => absurd d h.2.1⟩
    rw [if_neg d, cb_off s l x.f5]
    exact ⟨fun h => ⟨c, d, h⟩, fun h => h.2.2⟩
theorem ok_at (s : Int) : ∀ (l : List S45) (last : Int), okFrom s last l ↔ ∀ i, i < l.length → (rd_T45 l (i : Int)).f5 < s ∧ (if i = 0 then last else (rd_T45 l ((i : Int) - 1)).f5) < (rd_T45 l (i : Int)).f5
  | [], _ => ⟨fun _ i h => by simp at h, fun _ => trivial⟩
  | x :: l, last => by
    have ih := ok_at s l x.f5
    have r0 : rd_T45 (x :: l) ((0 : Nat) : Int) = x := rfl
    have rs : ∀ j : Nat, rd_T45 (x :: l) ((j + 1 : Nat) : Int) = rd_T45 l (j : Int) := fun j => by unfold rd_T45; rw [Int.toNat_natCast, Int.toNat_natCast]; rfl
    constructor
    · rintro ⟨h1, h2, h3⟩ i hi
      cases i with
      | zero => rw [r0, if_pos rfl]; omega
      | succ j =>
        have := (ih.1 h3) j (by simpa using hi)
        rw [rs, if_neg (by omega), show ((j + 1 : Nat) : Int) - 1 = (j : Int) by omega]
        refine ⟨this.1, ?_⟩
        cases j with
        | zero => rw [r0]; simpa using this.2
        | succ j => rw [rs]; have h4 := this.2; rw [if_neg (by omega), show ((j + 1 : Nat) : Int) - 1 = (j : Int) by omega] at h4; exact h4
    · intro h
      have h1 := h 0 (by simp)
      rw [r0, if_pos rfl] at h1
      refine ⟨by omega, by omega, ih.2 (fun j hj => ?_)⟩
      have := h (j + 1) (by simpa using hj)
      rw [rs, if_neg (by omega), show ((j + 1 : Nat) : Int) - 1 = (j : Int) by omega] at this
      refine ⟨this.1, ?_⟩
      cases j with
      | zero => rw [r0] at this; simpa using this.2
      | succ j => rw [rs] at this; rw [if_neg (by omega), show ((j + 1 : Nat) : Int) - 1 = (j : Int) by omega]; exact this.2
/-- A batch's error. -/
def chkB (b s p q : Int) (l : List S45) : Int := if ¬ offsOk b s p q l then 1 else if ferr l = 0 then big s p q l else ferr l
theorem odd_off {x : S45} (h : x.f5 < 0) : chkS x = 1 := by
  unfold chkS chk
  rw [if_pos (by unfold odd; omega)]
theorem checkB_f (b s p q : Int) (l : List S45) (hl : l.length ≤ 3000) (k : Nat) (hk : 30000 ≤ k) : bollardref12_CheckBatch.f k b s p q l = some (chkB b s p q l) := by
  unfold bollardref12_CheckBatch.f chkB
  by_cases c : b < 0 ∨ 1125899906842624 < b ∨ s < 1 ∨ 100 < s ∨ p < 0 ∨ q < 0 ∨ l.length = 0
  · rw [if_pos (by unfold cbEarly; simp only [Bool.or_eq_true, decide_eq_true_eq]; exact c), if_pos (fun h => by have h1 := h.1; have h2 := h.2.1; have h3 := h.2.2.1; have h4 := h.2.2.2.1; have h5 := h.2.2.2.2.1; have h6 := h.2.2.2.2.2.1; have h7 := h.2.2.2.2.2.2.1; omega)]
  rw [if_neg (by unfold cbEarly; simp only [Bool.or_eq_true, decide_eq_true_eq]; exact c)]
  have h0 : 0 < l.length := by omega
  have hat := ok_at s l (-1)
  have hs := cb_sum (rd_T45 l 0).f4 l 0 (by omega) (by omega)
  by_cases ho : okFrom s (-1) l
  · have hoff : offsOk b s p q l := ⟨by omega, by omega, by omega, by omega, by omega, by omega, by omega, fun i hi => ⟨((hat.1 ho) i hi).1, fun hp => by have := ((hat.1 ho) i hi).2; rw [if_neg (by omega)] at this; exact this⟩⟩
    rw [if_pos ((cb_off s l (-1)).2 ho), if_neg (not_not_intro hoff), hs.1]
    by_cases cf : ferr l = 0
    · rw [if_pos cf, if_pos cf]
      have hall := ferr_all cf
      have hbl := bodyB_len s p q l
      have hfl := flat_len _ (first_ok h0 hall) l hall
      have h2 := hs.2 cf
      unfold big
      by_cases d : 6000 < (cbSum 0 l).2
      · rw [if_pos d, if_pos (by omega)]
      · rw [if_neg d, body_f b s p q l hl hall h0 k (by omega), Option.bind_some, if_pos (by omega)]
        by_cases e : 6000 < ((bodyB s p q l).length : Int) + 16
        · rw [if_pos e, if_pos (by omega)]
        · rw [if_neg e, if_neg (by omega)]
    · rw [if_neg cf, if_neg cf]
  · rw [if_neg (fun h => ho ((cb_off s l (-1)).1 h))]
    by_cases hoff : offsOk b s p q l
    · rw [if_neg (not_not_intro hoff)]
      have hneg : (rd_T45 l 0).f5 < 0 := by
        refine Classical.byContradiction fun hn => ho (hat.2 (fun i hi => ⟨(hoff.2.2.2.2.2.2.2 i hi).1, ?_⟩))
        by_cases hi0 : i = 0
        · subst hi0
          rw [if_pos rfl, show ((0 : Nat) : Int) = 0 from rfl]
          omega
        · rw [if_neg hi0]
          exact (hoff.2.2.2.2.2.2.2 i hi).2 (by omega)
      have hf : ferr l = 1 := by
        rcases l with _ | ⟨x, l⟩
        · simp at h0
        · rw [ferr, odd_off (show x.f5 < 0 from hneg), if_neg (by omega)]
      rw [hf, if_neg (by omega)]
    · rw [if_pos hoff]
theorem laid_len {b s p q : Int} {l : List S45} : (bytesB b s p q l).length > 6000 ↔ 16 + (bodyB s p q l).length > 6000 := by rw [bytesB_len]
/-- What a batch comes to. -/
def encB (b s p q : Int) (l : List S45) : List Int × Int := if chkB b s p q l = 0 then (bytesB b s p q l, 0) else ([], chkB b s p q l)
theorem ferr_pos : ∀ l : List S45, 0 ≤ ferr l
  | [] => Int.le_refl _
  | x :: l => by
    rw [ferr]
    split
    · exact ferr_pos l
    · unfold chkS chk
      split
      · omega
      · split <;> omega
theorem encode_f2 (b s p q : Int) (l : List S45) (hl : l.length ≤ 3000) (k : Nat) (hk : 20000000 ≤ k) : batch_Encode.f k b s p q l = some (encB b s p q l) := by
  unfold batch_Encode.f
  rw [laid_f b s p q l hl k hk, Option.bind_some]
  unfold laidR encB chkB
  by_cases ho : offsOk b s p q l
  · rw [if_neg (not_not_intro ho), if_neg (not_not_intro ho)]
    by_cases hf : ferr l = 0
    · rw [if_pos hf, if_pos hf]
      dsimp only
      rw [if_pos rfl]
      unfold big
      by_cases hb : 16 + (bodyB s p q l).length > 6000
      · rw [if_pos (by rw [bytesB_len]; omega), if_pos hb, if_neg (by omega)]
      · rw [if_neg (by rw [bytesB_len]; omega), if_neg hb, if_pos rfl]
    · rw [if_neg hf, if_neg hf]
      dsimp only
      rw [if_neg hf, if_neg hf]
  · rw [if_pos ho, if_pos ho]
    dsimp only
    rw [if_neg (by omega), if_neg (by omega)]
theorem rencodeB_f (b s p q : Int) (l : List S45) (hl : l.length ≤ 3000) (k : Nat) (hk : 20000000 ≤ k) : bollardref12_EncodeBatch.f k b s p q l = some (encB b s p q l) := by
  unfold bollardref12_EncodeBatch.f encB
  rw [checkB_f b s p q l hl k (by omega), Option.bind_some]
  by_cases hc : chkB b s p q l = 0
  · have hoff : offsOk b s p q l := Classical.byContradiction fun hn => by unfold chkB at hc; rw [if_pos hn] at hc; omega
    have hfe : ferr l = 0 := Classical.byContradiction fun hn => by unfold chkB at hc; rw [if_neg (not_not_intro hoff), if_neg hn] at hc; exact hn hc
    have hall := ferr_all hfe
    have hl := off_count hoff hall
    have h0 : 0 < l.length := Nat.pos_of_ne_zero hoff.2.2.2.2.2.2.1
    have hfl := flat_len _ (first_ok h0 hall) l hall
    have hbl := bodyB_len s p q l
    rw [if_pos hc, if_pos hc, body_f b s p q l (by omega) hall h0 k (by omega), Option.bind_some, lay_f [] 8 8 rfl (by omega) (by omega) b (by simp) k (by omega), Option.bind_some, show wrap64 (((bodyB s p q l).length : Int) + 4) = ((bodyB s p q l).length : Int) + 4 from by unfold wrap64; omega,
      lay_f _ 4 4 rfl (by omega) (by omega) _ (by simp [beL_length]) k (by omega), Option.bind_some, Crc.rsum_f _ (by omega) k (by omega), Option.bind_some, lay_f _ 4 4 rfl (by omega) (by omega) _ (by simp [beL_length]) k (by omega), Option.bind_some,
      if_pos (by simp [beL_length]; omega)]
    unfold bytesB
    simp
  · rw [if_neg hc, if_neg hc]
end Go.Proofs.Ytgmeellapjimgaa.Bp

/- What chapter 13's awake comes to. -/
namespace Go.Proofs.Ytgmeellapjimgaa.Bp
open Go Go.RowKit Go.Proofs.Ytgmeellapjimgaa.PBm Go.Proofs.YtgmeellapjimgaaW.PrintWords Go.Proofs.YtgmeellapjimgaaW.PrintLast Go.Proofs.YtgmeellapjimgaaW.PrintMore
set_option linter.unusedVariables false
set_option linter.unusedSimpArgs false

theorem bcheck_f (b s p q : Int) (l : List S45) (hl : l.length ≤ 3000) (k : Nat) (hk : 20000000 ≤ k) : batch_Check.f k b s p q l = some (chkB b s p q l) := by
  unfold batch_Check.f
  rw [encode_f2 b s p q l hl k hk, Option.bind_some]
  unfold encB
  split
  · rename_i h; rw [h]
  · rfl
def recA : S45 := ⟨false, (⟨#[]⟩ : ByteArray), true, (⟨#[97]⟩ : ByteArray), 0, 0⟩
theorem recA_ok : chkS recA = 0 := by
  unfold chkS chk recA
  rw [if_neg, if_neg]
  · decide
  · unfold odd
    rintro (⟨_, h⟩ | ⟨h, _⟩ | h | h | h | h)
    · exact h (by decide +kernel)
    · cases h
    · exact absurd h (by decide)
    · exact absurd h (by decide)
    · exact absurd h (by decide)
    · exact absurd h (by decide)
theorem flatA_len : (flat 0 [recA]).length = 5 := by
  unfold flat encS enc recA
  simp only [List.map_cons, List.map_nil, List.flatten_cons, List.flatten_nil, List.append_nil, List.length_cons, List.length_append, if_true, show (false = true) = False from by simp, if_false, List.length_nil, txt, bytesOf_len]
  rw [vr_small (by decide), vr_small (by decide), vr_small (by decide)]
  decide +kernel
theorem offA : offsOk 7 1 0 0 [recA] := by
  refine ⟨by omega, by omega, by omega, by omega, by omega, by omega, by simp, fun i hi => ?_⟩
  have : i = 0 := by simpa using hi
  subst this
  exact ⟨by decide, fun h => absurd h (by omega)⟩
theorem awakeB : chkB 7 1 0 0 [recA] = 0 ∧ (bytesB 7 1 0 0 [recA]).length = 53 := by
  have hl : (bodyB 1 0 0 [recA]).length = 37 := by rw [bodyB_len, show (rd_T45 [recA] 0).f4 = 0 from rfl, flatA_len]
  refine ⟨?_, by rw [bytesB_len, hl]⟩
  unfold chkB big
  rw [if_neg (not_not_intro offA), if_pos (by rw [ferr, recA_ok, if_pos rfl]; rfl), if_neg (by rw [hl]; omega)]
theorem awake_f (k : Nat) (hk : 20000010 ≤ k) : bollardlaw13_awake.f k = some true := by
  obtain ⟨K, rfl⟩ : ∃ K, k = K + 1 + 1 := ⟨k - 2, by omega⟩
  have hF : batch_Fresh.f (K + 1 + 1) 7 0 0 [recA] = some (7, 1, 0, 0, [recA], 0) := by
    unfold batch_Fresh.f api_Record.f
    rw [Option.bind_some, if_pos (by simp), Option.bind_some]
    show batch_Fresh.l0 (K + 1 + 1) 7 0 0 [recA] 1 0 = _
    rw [batch_Fresh.l0, if_pos (by omega), if_pos (by omega), if_pos (by simp), show wrap64 ((0 : Int) + 1) = 1 from by unfold wrap64; omega]
    show batch_Fresh.l0 (K + 1) 7 0 0 [recA] 1 1 = _
    rw [batch_Fresh.l0, if_neg (by omega), show mx (([recA].length : Nat) : Int) 1 = 1 from rfl, bcheck_f 7 1 0 0 [recA] (by simp) K (by omega), Option.bind_some, awakeB.1, if_pos rfl]
  unfold bollardlaw13_awake.f
  rw [show batch_Fresh.f (K + 1 + 1) 7 0 0 [(⟨false, (⟨#[]⟩ : ByteArray), true, (⟨#[97]⟩ : ByteArray), 0, 0⟩ : S45)] = some (7, 1, 0, 0, [recA], 0) from hF, Option.bind_some]
  dsimp only
  rw [encode_f2 7 1 0 0 [recA] (by simp) _ (by omega), Option.bind_some]
  unfold encB
  rw [if_pos awakeB.1]
  dsimp only
  rw [if_pos rfl, if_pos rfl, if_pos (by rw [awakeB.2]; rfl)]
  rfl
end Go.Proofs.Ytgmeellapjimgaa.Bp

/- Numbers read from bytes: what bits.Get comes to. -/
namespace Go.Proofs.Ytgmeellapjimgaa.Bp
open Go Go.RowKit Go.Proofs.Ytgmeellapjimgaa.PBm Go.Proofs.YtgmeellapjimgaaW.PrintWords Go.Proofs.YtgmeellapjimgaaW.PrintLast Go.Proofs.YtgmeellapjimgaaW.PrintMore
set_option linter.unusedVariables false
set_option linter.unusedSimpArgs false

/-- The bytes in the order in which they are read. -/
def inOrder (l : List Int) (a n : Nat) (big : Bool) : List Int := if big = true then (l.drop a).take n else ((l.drop a).take n).reverse
theorem inOrder_length (l : List Int) (a n : Nat) (big : Bool) (h : a + n ≤ l.length) : (inOrder l a n big).length = n := by
  unfold inOrder; split <;> simp <;> omega
theorem inOrder_bytes {l : List Int} (hb : Bytes l) (a n : Nat) (big : Bool) : Bytes (inOrder l a n big) := by
  unfold inOrder
  split
  · exact seg_bytes hb a n
  · exact rev_bytes (seg_bytes hb a n)
theorem inOrder_get (l : List Int) (a n : Nat) (big : Bool) (h : a + n ≤ l.length) (i : Nat) (hi : i < n) : (inOrder l a n big)[i]? = some (rd l ((a + (if big = true then i else n - 1 - i) : Nat) : Int)) := by
  unfold inOrder
  cases big with
  | true =>
    rw [if_pos rfl, if_pos rfl, List.getElem?_take_of_lt hi, List.getElem?_drop, rd_at (by omega), List.getElem?_eq_getElem (by omega)]
  | false =>
    rw [if_neg (by simp), if_neg (by simp), List.getElem?_reverse (by simp; omega)]
    have : ((l.drop a).take n).length = n := by simp; omega
    rw [this, List.getElem?_take_of_lt (by omega), List.getElem?_drop, rd_at (by omega), List.getElem?_eq_getElem (by omega)]
theorem get_l0 (l : List Int) (hb : Bytes l) (hl : l.length ≤ 4000000000000000000) (a n : Nat) (big : Bool) (h : a + n ≤ l.length) (h8 : n ≤ 8) (m : Nat) : ∀ (k i : Nat), i + m = n → m + 1 ≤ k →
    bits_Get.l0 k l (a : Int) (n : Int) big (be ((inOrder l a n big).take i)) (n : Int) (i : Int) = some (get l a n big, true) := by
  induction m with
  | zero =>
    intro k i hi hk
    obtain ⟨K, rfl⟩ : ∃ K, k = K + 1 := ⟨k - 1, by omega⟩
    simp only [bits_Get.l0]
    rw [if_neg (by omega), List.take_of_length_le (by rw [inOrder_length l a n big h]; omega)]
    rfl
  | succ m ih =>
    intro k i hi hk
    obtain ⟨K, rfl⟩ : ∃ K, k = K + 1 := ⟨k - 1, by omega⟩
    simp only [bits_Get.l0]
    have g := inOrder_get l a n big h i (by omega)
    have hr := be_range ((inOrder l a n big).take i) (fun x hx => inOrder_bytes hb a n big x (List.mem_of_mem_take hx))
    have hlt : ((inOrder l a n big).take i).length ≤ 7 := by rw [List.length_take, inOrder_length l a n big h]; omega
    have hp := pow256_le hlt
    have hp7 : (256 : Int) ^ 7 = 72057594037927936 := by decide
    have step : ∀ x, x = rd l ((a + (if big = true then i else n - 1 - i) : Nat) : Int) → Go.bits .or .u64 (IntKind.u64.wrap (be ((inOrder l a n big).take i) * 256)) (IntKind.u64.wrap x) = be ((inOrder l a n big).take (i + 1)) := by
      intro x hx
      have hxb := rd_byte hb ((a + (if big = true then i else n - 1 - i) : Nat) : Int)
      rw [← hx] at hxb
      rw [u64_id (by omega) (by omega), u64_id (by omega) (by omega), u64_shl_or (by omega) hxb (by omega), take_step g, be_snoc, hx]
    rw [if_pos (by omega)]
    cases big with
    | true =>
      rw [if_pos (by trivial), w64 (by omega) (by omega), if_pos (by omega), if_pos (by omega), step _ (by simp), up64 i (by omega)]
      exact ih K (i + 1) (by omega) (by omega)
    | false =>
      rw [if_neg (by simp), w64 (x := (n : Int) - 1) (by omega) (by omega), w64 (x := (n : Int) - 1 - (i : Int)) (by omega) (by omega), w64 (by omega) (by omega), if_pos (by omega), if_pos (by omega), step _ (by rw [if_neg (by simp)]; congr 1; omega), up64 i (by omega)]
      exact ih K (i + 1) (by omega) (by omega)

theorem get_f (l : List Int) (hb : Bytes l) (hl : l.length ≤ 4000000000000000000) (a n : Nat) (big : Bool) (h1 : 1 ≤ n) (h8 : n ≤ 8) (h : a + n ≤ l.length) (k : Nat) (hk : 9 ≤ k) : bits_Get.f k l (a : Int) (n : Int) big = some (get l a n big, true) := by
  unfold bits_Get.f
  rw [may_f l _ _ hl, decide_eq_true (by omega)]
  simp only [Option.bind_some]
  rw [if_pos (by trivial)]
  exact get_l0 l hb hl a n big h h8 n k 0 (by omega) (by omega)
theorem get_none (l : List Int) (hl : l.length ≤ 4000000000000000000) (a n : Int) (big : Bool) (h : ¬ (1 ≤ n ∧ n ≤ 8 ∧ 0 ≤ a ∧ a ≤ (l.length : Int) - n)) (k : Nat) : bits_Get.f k l a n big = some (0, false) := by
  unfold bits_Get.f
  rw [may_f l _ _ hl, decide_eq_false h]
  rfl
end Go.Proofs.Ytgmeellapjimgaa.Bp

/- Bytes that the program reads as groups, as printed; what is written is read. -/
namespace Go.Proofs.Ytgmeellapjimgaa.Bp
open Go Go.RowKit Go.Proofs.Ytgmeellapjimgaa.PBm Go.Proofs.YtgmeellapjimgaaW.PrintWords Go.Proofs.YtgmeellapjimgaaW.PrintLast Go.Proofs.YtgmeellapjimgaaW.PrintMore
set_option linter.unusedVariables false
set_option linter.unusedSimpArgs false

theorem unvarint_l0 (l : List Int) (hl : l.length ≤ 4000000000000000000) (n : Nat) : ∀ (k i : Nat) (v : Int), i + n = l.length → i ≤ 10 → 2 * n + 1 ≤ k →
    bits_Unvarint.l0 k v l (l.length : Int) (i : Int) = some (unv (l.drop i) i v) := by
  induction n with
  | zero =>
    intro k i v hi h10 hk
    obtain ⟨K, rfl⟩ : ∃ K, k = K + 1 := ⟨k - 1, by omega⟩
    simp only [bits_Unvarint.l0]
    rw [if_neg (by omega), List.drop_eq_nil_of_le (by omega)]
    rfl
  | succ n ih =>
    intro k i v hi h10 hk
    obtain ⟨K, rfl⟩ : ∃ K, k = K + 1 + 1 := ⟨k - 2, by omega⟩
    simp only [bits_Unvarint.l0]
    rw [if_pos (by omega), if_pos (by omega), if_pos (by omega), drop_cons (by omega : i < l.length)]
    have j : ∀ b : Bool, (b = true ↔ (i = 10 ∨ (i = 9 ∧ rd l (i : Int) > 1) ∨ (0 < i ∧ rd l (i : Int) = 0))) → bits_Unvarint.j1 (K + 1) v (i : Int) (rd l (i : Int)) l (l.length : Int) (i : Int) b = some (unv (rd l (i : Int) :: l.drop (i + 1)) i v) := by
      intro b hb
      simp only [bits_Unvarint.j1, unv]
      by_cases c : b = true
      · rw [if_pos c, if_pos (hb.1 c)]
      · rw [if_neg c, if_neg (fun h => c (hb.2 h)), if_pos (by rw [w64 (by omega) (by omega)]; omega)]
        by_cases c2 : rd l (i : Int) < 128
        · rw [if_pos c2, if_pos c2, up64 i (by omega)]
          rfl
        · have h9 : i ≤ 9 := by
            rcases Nat.lt_or_ge i 10 with q | q
            · omega
            · exact absurd (hb.2 (Or.inl (by omega))) c
          rw [if_neg c2, if_neg c2, up64 i (by omega)]
          exact ih K (i + 1) _ (by omega) (by omega) (by omega)
    by_cases c1 : i = 10
    · rw [if_pos (by omega)]
      exact j true (by simp [c1])
    rw [if_neg (by omega)]
    by_cases c2 : i = 9
    · rw [if_pos (by omega)]
      by_cases c3 : rd l (i : Int) > 1
      · rw [if_pos c3]
        exact j true ⟨fun _ => Or.inr (Or.inl ⟨c2, c3⟩), fun _ => rfl⟩
      · rw [if_neg c3, if_pos (by omega)]
        exact j _ (by simp; omega)
    · rw [if_neg (by omega)]
      by_cases c4 : (i : Int) > 0
      · rw [if_pos c4]
        exact j _ (by simp; omega)
      · rw [if_neg c4]
        exact j false (by simp; omega)

theorem unvarint_f (l : List Int) (hl : l.length ≤ 4000000000000000000) (k : Nat) (hk : 2 * l.length + 1 ≤ k) : bits_Unvarint.f k l = some (unv l 0 0) := by
  unfold bits_Unvarint.f
  exact unvarint_l0 l hl l.length k 0 0 (by omega) (by omega) hk

/-- What is written is read, whatever stands behind. -/
theorem unv_vr (n : Nat) : ∀ (i v : Nat) (u : Int) (rest : List Int), i + n = 10 → v < 128 ^ n → v * 128 ^ i < 18446744073709551616 → (i = 0 ∨ v ≠ 0) → 0 ≤ u → u < 128 ^ i →
    unv (vr v ++ rest) i u = (u + (v : Int) * 128 ^ i, ((i + (vr v).length : Nat) : Int)) := by
  induction n with
  | zero =>
    intro i v u rest hi hv h9 h0 hu0 hu
    omega
  | succ n ih =>
    intro i v u rest hi hv h9 h0 hu0 hu
    have h1 : i = 9 → v ≤ 1 := by
      intro e
      subst e
      simp only [Nat.reducePow] at h9
      omega
    by_cases h : v < 128
    · rw [vr_small h]
      simp only [List.cons_append, List.nil_append, unv]
      rw [if_neg (by omega), if_pos (by omega), put7_add (by omega) (by omega) (by omega) hu0 hu]
      rw [show ((v : Int)) % 128 = (v : Int) from by omega]
      simp
    · have h8 : i ≤ 8 := by omega
      rw [vr_big h]
      simp only [List.cons_append, unv]
      have hx : (0 : Int) ≤ ((v % 128 + 128 : Nat) : Int) ∧ ((v % 128 + 128 : Nat) : Int) < 256 := by omega
      rw [if_neg (by omega), if_neg (by omega), put7_add (by omega) hx (by omega) hu0 hu]
      have hm : ((v % 128 + 128 : Nat) : Int) % 128 = ((v % 128 : Nat) : Int) := by omega
      rw [hm]
      have hp : (0 : Int) < 128 ^ i := Int.pow_pos (by decide)
      have hs : (128 : Int) ^ (i + 1) = 128 ^ i * 128 := Int.pow_succ _ _
      have hb : ((v % 128 : Nat) : Int) * 128 ^ i ≤ 127 * 128 ^ i := Int.mul_le_mul_of_nonneg_right (by omega) (by omega)
      have hb0 : (0 : Int) ≤ ((v % 128 : Nat) : Int) * 128 ^ i := Int.mul_nonneg (by omega) (by omega)
      have hq : v / 128 * 128 ^ (i + 1) < 18446744073709551616 := by
        have : v / 128 * 128 ^ (i + 1) ≤ v * 128 ^ i := by
          rw [Nat.pow_succ, Nat.mul_comm (128 ^ i) 128, ← Nat.mul_assoc]
          exact Nat.mul_le_mul_right _ (Nat.div_mul_le_self v 128)
        omega
      rw [ih (i + 1) (v / 128) _ rest (by omega) (by rw [Nat.pow_succ] at hv; omega) hq (Or.inr (by omega)) (by omega) (by omega)]
      rw [List.length_cons]
      have e : ((v : Nat) : Int) = ((v % 128 : Nat) : Int) + 128 * ((v / 128 : Nat) : Int) := by omega
      have e2 : u + ((v % 128 : Nat) : Int) * 128 ^ i + ((v / 128 : Nat) : Int) * 128 ^ (i + 1) = u + (v : Int) * 128 ^ i := by
        rw [hs, e]
        simp only [Int.add_mul, Int.add_assoc]
        congr 2
        rw [Int.mul_comm (128 : Int) ((v / 128 : Nat) : Int), Int.mul_assoc, Int.mul_comm (128 : Int) (128 ^ i)]
      rw [e2, show i + 1 + (vr (v / 128)).length = i + ((vr (v / 128)).length + 1) from by omega]

theorem unv_varint (v : Nat) (hv : v < 18446744073709551616) (rest : List Int) : unv (vr v ++ rest) 0 0 = ((v : Int), ((vr v).length : Int)) := by
  have := unv_vr 10 0 v 0 rest rfl (by omega) (by omega) (Or.inl rfl) (by omega) (by omega)
  simpa using this

end Go.Proofs.Ytgmeellapjimgaa.Bp

/- Numbers with their sign again, as printed. -/
namespace Go.Proofs.Ytgmeellapjimgaa.Bp
open Go Go.RowKit Go.Proofs.Ytgmeellapjimgaa.PBm Go.Proofs.YtgmeellapjimgaaW.PrintWords Go.Proofs.YtgmeellapjimgaaW.PrintLast Go.Proofs.YtgmeellapjimgaaW.PrintMore
set_option linter.unusedVariables false
set_option linter.unusedSimpArgs false

theorem ixor_nought {x : Int} (h : 0 ≤ x ∧ x < 9223372036854775808) : Go.bits .xor .i64 x 0 = x := by
  obtain ⟨a, rfl⟩ := Int.eq_ofNat_of_zero_le h.1
  show IntKind.i64.wrap ((BitVec.ofInt 64 (a : Int) ^^^ BitVec.ofInt 64 (0 : Int)).toNat : Int) = _
  have e : BitVec.ofInt 64 (0 : Int) = 0#64 := rfl
  rw [e, BitVec.xor_zero, BitVec.ofInt_natCast, BitVec.toNat_ofNat, Nat.mod_eq_of_lt (by omega), i64_w]
  unfold wrap64
  omega
theorem ixor_ones {x : Int} (h : 0 ≤ x ∧ x < 9223372036854775808) : Go.bits .xor .i64 x (-1) = -1 - x := by
  obtain ⟨a, rfl⟩ := Int.eq_ofNat_of_zero_le h.1
  show IntKind.i64.wrap ((BitVec.ofInt 64 (a : Int) ^^^ BitVec.ofInt 64 (-1 : Int)).toNat : Int) = _
  have e : BitVec.ofInt 64 (-1 : Int) = BitVec.allOnes 64 := by decide
  rw [e, BitVec.xor_allOnes, BitVec.ofInt_natCast, BitVec.toNat_not, BitVec.toNat_ofNat, Nat.mod_eq_of_lt (by omega), i64_w]
  unfold wrap64
  omega
def zag (u : Int) : Int := if u % 2 = 0 then u / 2 else -1 - u / 2
theorem zag_f {u : Int} (h : 0 ≤ u ∧ u < 18446744073709551616) : bits_Zag.f u = some (zag u) := by
  unfold bits_Zag.f zag
  rw [u64_and1 h, w64 (by omega) (by omega)]
  by_cases c : u % 2 = 0
  · rw [if_pos c, c, show wrap64 (-(wrap64 0)) = 0 from by unfold wrap64; omega, ixor_nought (by omega)]
  · rw [if_neg c, show u % 2 = 1 from by omega, show wrap64 (-(wrap64 1)) = -1 from by unfold wrap64; omega, ixor_ones (by omega)]
theorem zag_zig (n : Int) : zag (zig n) = n := by
  unfold zag zig
  split <;> split <;> omega
theorem zag_range {u : Int} (h : 0 ≤ u ∧ u < 18446744073709551616) : -9223372036854775808 ≤ zag u ∧ zag u ≤ 9223372036854775807 := by unfold zag; split <;> omega
theorem zig_zag {u : Int} (h : 0 ≤ u) : zig (zag u) = u := by
  unfold zag zig
  split <;> split <;> omega

end Go.Proofs.Ytgmeellapjimgaa.Bp

/- What is read as groups: its range; more bytes behind it do not matter. -/
namespace Go.Proofs.Ytgmeellapjimgaa.Bp
open Go Go.RowKit Go.Proofs.YtgmeellapjimgaaW.PrintWords Go.Proofs.YtgmeellapjimgaaW.PrintLast Go.Proofs.YtgmeellapjimgaaW.PrintMore
set_option linter.unusedVariables false
set_option linter.unusedSimpArgs false

theorem Bytes.drop {l : List Int} (h : Bytes l) (n : Nat) : Bytes (l.drop n) := fun x hx => h x (List.mem_of_mem_drop hx)
theorem Bytes.take {l : List Int} (h : Bytes l) (n : Nat) : Bytes (l.take n) := fun x hx => h x (List.mem_of_mem_take hx)
theorem Bytes.append {l m : List Int} (h : Bytes l) (g : Bytes m) : Bytes (l ++ m) := fun x hx => by
  rcases List.mem_append.1 hx with q | q
  · exact h x q
  · exact g x q

theorem pow128 (i : Nat) (hi : i ≤ 8) : (128 : Int) ^ (i + 1) ≤ 9223372036854775808 := by
  have hc : i = 0 ∨ i = 1 ∨ i = 2 ∨ i = 3 ∨ i = 4 ∨ i = 5 ∨ i = 6 ∨ i = 7 ∨ i = 8 := by omega
  rcases hc with h | h | h | h | h | h | h | h | h <;> subst h <;> decide

theorem unv_range : ∀ (l : List Int) (i : Nat) (v : Int), Bytes l → i ≤ 10 → 0 ≤ v → v < 128 ^ i → 0 ≤ (unv l i v).1 ∧ (unv l i v).1 < 18446744073709551616 ∧ 0 ≤ (unv l i v).2 ∧ (unv l i v).2 ≤ (i : Int) + l.length ∧ ((unv l i v).2 = 0 ∨ (i : Int) < (unv l i v).2)
  | [], i, v, _, _, _, _ => by
    have e : unv [] i v = (0, 0) := rfl
    rw [e]
    refine ⟨Int.le_refl _, by decide, Int.le_refl _, ?_, Or.inl rfl⟩
    show (0 : Int) ≤ _
    omega
  | x :: xs, i, v, hb, hi, h0, h1 => by
    simp only [unv]
    have hx := hb x (by simp)
    by_cases c : i = 10 ∨ (i = 9 ∧ x > 1) ∨ (0 < i ∧ x = 0)
    · rw [if_pos c]
      refine ⟨Int.le_refl _, by decide, Int.le_refl _, ?_, Or.inl rfl⟩
      show (0 : Int) ≤ _
      omega
    · rw [if_neg c]
      have h9 : i = 9 → x % 128 ≤ 1 := by omega
      have hp := put7_add (v := v) (x := x) (i := i) (by omega) hx h9 h0 h1
      have hpos : (0 : Int) < 128 ^ i := Int.pow_pos (by decide)
      have hs : (128 : Int) ^ (i + 1) = 128 ^ i * 128 := Int.pow_succ _ _
      have hm : (x % 128) * 128 ^ i ≤ 127 * 128 ^ i := Int.mul_le_mul_of_nonneg_right (by omega) (by omega)
      have hm0 : 0 ≤ (x % 128) * 128 ^ i := Int.mul_nonneg (by omega) (by omega)
      have hlt : put7 v x i < 18446744073709551616 := by
        rw [hp]
        rcases Nat.lt_or_ge i 9 with q | q
        · have := pow128 i (by omega)
          omega
        · obtain rfl : i = 9 := by omega
          have e : (128 : Int) ^ 9 = 9223372036854775808 := by decide
          have h9' := h9 rfl
          have : (x % 128) * 128 ^ 9 ≤ 1 * 128 ^ 9 := Int.mul_le_mul_of_nonneg_right (by omega) (by omega)
          omega
      by_cases d : x < 128
      · rw [if_pos d]
        simp only [List.length_cons]
        refine ⟨by omega, hlt, by omega, by omega, Or.inr (by omega)⟩
      · rw [if_neg d]
        have i8 : i ≤ 9 := by omega
        have ih := unv_range xs (i + 1) (put7 v x i) (fun y hy => hb y (by simp [hy])) (by omega) (by omega) (by rw [hp, hs]; omega)
        simp only [List.length_cons]
        omega

theorem unv_app (rest : List Int) : ∀ (l : List Int) (i : Nat) (v : Int), (unv l i v).2 ≠ 0 → unv (l ++ rest) i v = unv l i v
  | [], i, v, h => by simp [unv] at h
  | x :: xs, i, v, h => by
    simp only [List.cons_append, unv] at h ⊢
    by_cases c : i = 10 ∨ (i = 9 ∧ x > 1) ∨ (0 < i ∧ x = 0)
    · rw [if_pos c] at h
      exact absurd rfl h
    · rw [if_neg c] at h ⊢
      rw [if_neg c]
      by_cases d : x < 128
      · rw [if_pos d, if_pos d]
      · rw [if_neg d] at h ⊢
        rw [if_neg d]
        exact unv_app rest xs (i + 1) _ h

theorem unv0_range {l : List Int} (hb : Bytes l) : 0 ≤ (unv l 0 0).1 ∧ (unv l 0 0).1 < 18446744073709551616 ∧ 0 ≤ (unv l 0 0).2 ∧ (unv l 0 0).2 ≤ (l.length : Int) := by
  have := unv_range l 0 0 hb (by omega) (by omega) (by decide)
  omega

end Go.Proofs.Ytgmeellapjimgaa.Bp

/- What the program's Decode of a record comes to: a plain function on bytes. -/
namespace Go.Proofs.Ytgmeellapjimgaa.Bp
open Go Go.RowKit Go.Proofs.Ytgmeellapjimgaa.PBm Go.Proofs.YtgmeellapjimgaaW.PrintWords Go.Proofs.YtgmeellapjimgaaW.PrintLast Go.Proofs.YtgmeellapjimgaaW.PrintMore
set_option linter.unusedVariables false
set_option linter.unusedSimpArgs false

/-- A text with its length ahead, from place p on, if there is to be one: the text, and the place behind it. -/
def txR (l : List Int) (p : Int) (is : Bool) : Option (ByteArray × Int) :=
  if is = true then
    if (unv (l.drop p.toNat) 0 0).2 = 0 then none
    else if (l.length : Int) - (p + (unv (l.drop p.toNat) 0 0).2) < (unv (l.drop p.toNat) 0 0).1 then none
    else some (strOfNums ((l.take (p + (unv (l.drop p.toNat) 0 0).2 + (unv (l.drop p.toNat) 0 0).1).toNat).drop (p + (unv (l.drop p.toNat) 0 0).2).toNat), p + (unv (l.drop p.toNat) 0 0).2 + (unv (l.drop p.toNat) 0 0).1)
  else some (⟨#[]⟩, p)
/-- The record that bytes begin with, by a first time: its fields, and how many bytes it takes. -/
def decS (l : List Int) (first : Int) : Option (Bool × ByteArray × Bool × ByteArray × Int × Int × Int) :=
  if l.length = 0 ∨ 3 < rd l 0 ∨ first < 0 ∨ 1125899906842624 < first then none
  else if (unv (l.drop 1) 0 0).2 = 0 ∨ 100 ≤ (unv (l.drop 1) 0 0).1 then none
  else if (unv (l.drop (1 + (unv (l.drop 1) 0 0).2).toNat) 0 0).2 = 0 ∨ zag (unv (l.drop (1 + (unv (l.drop 1) 0 0).2).toNat) 0 0).1 < -first ∨ 1125899906842624 - first < zag (unv (l.drop (1 + (unv (l.drop 1) 0 0).2).toNat) 0 0).1 then none
  else (txR l (1 + (unv (l.drop 1) 0 0).2 + (unv (l.drop (1 + (unv (l.drop 1) 0 0).2).toNat) 0 0).2) (decide (rd l 0 % 2 = 1))).bind fun x => (txR l x.2 (decide (2 ≤ rd l 0))).bind fun y =>
    if 2000 < x.1.size ∨ 2000 < y.1.size then none
    else some (decide (rd l 0 % 2 = 1), x.1, decide (2 ≤ rd l 0), y.1, first + zag (unv (l.drop (1 + (unv (l.drop 1) 0 0).2).toNat) 0 0).1, (unv (l.drop 1) 0 0).1, y.2)
def outR : Option (Bool × ByteArray × Bool × ByteArray × Int × Int × Int) → Bool × ByteArray × Bool × ByteArray × Int × Int × Int × Int
  | none => (false, ⟨#[]⟩, false, ⟨#[]⟩, 0, 0, 0, 10)
  | some (hk, key, hv, val, t, o, n) => (hk, key, hv, val, t, o, n, 0)

theorem txR_range {l : List Int} (hb : Bytes l) {p : Int} {is : Bool} {s : ByteArray} {q : Int} (h0 : 0 ≤ p) (h1 : p ≤ (l.length : Int)) (h : txR l p is = some (s, q)) : p ≤ q ∧ q ≤ (l.length : Int) ∧ (s.size : Int) ≤ q - p := by
  have hr := unv0_range (hb.drop p.toNat)
  rw [List.length_drop] at hr
  unfold txR at h
  by_cases c : is = true
  · rw [if_pos c] at h
    by_cases d : (unv (l.drop p.toNat) 0 0).2 = 0
    · rw [if_pos d] at h; cases h
    rw [if_neg d] at h
    by_cases e : (l.length : Int) - (p + (unv (l.drop p.toNat) 0 0).2) < (unv (l.drop p.toNat) 0 0).1
    · rw [if_pos e] at h; cases h
    rw [if_neg e] at h
    obtain ⟨rfl, rfl⟩ := Prod.mk.inj (Option.some.inj h)
    rw [strOfNums_size, List.length_drop, List.length_take]
    omega
  · rw [if_neg c] at h
    obtain ⟨rfl, rfl⟩ := Prod.mk.inj (Option.some.inj h)
    refine ⟨Int.le_refl _, h1, ?_⟩
    show ((0 : Nat) : Int) ≤ _
    omega

theorem rdNum_f {l : List Int} (hb : Bytes l) (hl : l.length ≤ 1000000000000000) {p : Int} (h0 : 0 ≤ p) (h1 : p ≤ (l.length : Int)) (k : Nat) (hk : 2 * l.length + 1 ≤ k) : rdNum k l p = some (unv (l.drop p.toNat) 0 0) := by
  have hr := unv0_range (hb.drop p.toNat)
  have hd : (l.drop p.toNat).length = l.length - p.toNat := List.length_drop
  rw [hd] at hr
  unfold rdNum
  rw [unvarint_f _ (by omega) k (by omega), Option.bind_some, if_pos (by omega)]

/-- A text as the reader tells it. -/
theorem rdText_f {l : List Int} (hb : Bytes l) (hl : l.length ≤ 1000000000000000) {p : Int} (h0 : 0 ≤ p) (h1 : p ≤ (l.length : Int)) (is : Bool) (k : Nat) (hk : 2 * l.length + 1 ≤ k) :
    (∃ q, rdText k l p is false = some (⟨#[]⟩, q, true) ∧ txR l p is = none) ∨ (∃ s q, rdText k l p is false = some (s, q, false) ∧ txR l p is = some (s, q)) := by
  unfold rdText txR
  by_cases c : is = true
  · rw [if_neg (by simp [c]), if_pos c, rdNum_f hb hl h0 h1 k hk, Option.bind_some]
    by_cases d : (unv (l.drop p.toNat) 0 0).2 = 0
    · rw [if_pos d, if_pos d]
      exact .inl ⟨_, rfl, rfl⟩
    rw [if_neg d, if_neg d]
    by_cases e : (l.length : Int) - (p + (unv (l.drop p.toNat) 0 0).2) < (unv (l.drop p.toNat) 0 0).1
    · rw [if_pos e, if_pos e]
      exact .inl ⟨_, rfl, rfl⟩
    · rw [if_neg e, if_neg e]
      exact .inr ⟨_, _, rfl, rfl⟩
  · have hi : is = false := by simpa using c
    rw [if_pos (by simp [hi]), if_neg c]
    exact .inr ⟨_, _, rfl, rfl⟩

theorem flag1 {x : Int} (h : 0 ≤ x ∧ x ≤ 3) : decide (0 < Go.bits BinOp.and IntKind.u8 x 1) = decide (x % 2 = 1) := by
  have : x = 0 ∨ x = 1 ∨ x = 2 ∨ x = 3 := by omega
  rcases this with e | e | e | e <;> subst e <;> decide
theorem flag2 {x : Int} (h : 0 ≤ x ∧ x ≤ 3) : decide (0 < Go.bits BinOp.and IntKind.u8 x 2) = decide (2 ≤ x) := by
  have : x = 0 ∨ x = 1 ∨ x = 2 ∨ x = 3 := by omega
  rcases this with e | e | e | e <;> subst e <;> decide

theorem txR_none {l : List Int} {p : Int} {is : Bool} {s : ByteArray} {q : Int} (h : txR l p is = some (s, q)) : is = false → s.toList = [] := by
  intro e
  unfold txR at h
  rw [if_neg (by simp [e])] at h
  obtain ⟨rfl, _⟩ := Prod.mk.inj (Option.some.inj h)
  decide +kernel

theorem chk_sizes {hk : Bool} {key : ByteArray} {hv : Bool} {val : ByteArray} {t o : Int} (h1 : hk = false → key.toList = []) (h2 : hv = false → val.toList = []) (h3 : 0 ≤ t) (h4 : t ≤ 1125899906842624) (h5 : 0 ≤ o) (h6 : o < 100) :
    chk hk key hv val t o = if 2000 < key.size ∨ 2000 < val.size then 2 else 0 := by
  have : ¬ odd hk key hv val t o := by
    unfold odd
    rintro (⟨a, b⟩ | ⟨a, b⟩ | h)
    · exact b (h1 a)
    · exact b (h2 a)
    · omega
  unfold chk
  rw [if_neg this]

theorem decode_f {l : List Int} (hb : Bytes l) (hl : l.length ≤ 1000000000000000) (first : Int) (k : Nat) (hk : 2 * l.length + 10 ≤ k) : record_Decode.f k l first = some (outR (decS l first)) := by
  have hbad : record_Decode.bad = some (outR none) := rfl
  unfold record_Decode.f
  rw [if_neg (not_not_intro hl)]
  unfold decS
  by_cases c0 : l.length = 0
  · rw [if_pos c0, if_pos (Or.inl c0), hbad]
  rw [if_neg c0]
  by_cases c1 : 3 < rd l 0
  · rw [if_pos c1, if_pos (Or.inr (Or.inl c1)), hbad]
  rw [if_neg c1]
  by_cases c2 : first < 0
  · rw [if_pos c2, if_pos (Or.inr (Or.inr (Or.inl c2))), hbad]
  rw [if_neg c2]
  by_cases c3 : 1125899906842624 < first
  · rw [if_pos c3, if_pos (Or.inr (Or.inr (Or.inr c3))), hbad]
  rw [if_neg c3, if_neg (by omega), rdNum_f hb hl (by omega) (by omega) k (by omega), Option.bind_some]
  have r0 := rd_byte hb 0
  have ra := unv0_range (hb.drop ((1 : Int).toNat))
  have hd : (l.drop ((1 : Int).toNat)).length = l.length - 1 := List.length_drop
  rw [hd] at ra
  rw [show ((1 : Int)).toNat = 1 from rfl] at ra ⊢
  generalize unv (l.drop 1) 0 0 = a at ra ⊢
  by_cases c4 : a.2 = 0
  · rw [if_pos c4, if_pos (Or.inl c4), hbad]
  rw [if_neg c4, rdNum_f hb hl (by omega) (by omega) k (by omega), Option.bind_some]
  have rb := unv0_range (hb.drop ((1 + a.2).toNat))
  have hd2 : (l.drop ((1 + a.2).toNat)).length = l.length - (1 + a.2).toNat := List.length_drop
  rw [hd2] at rb
  generalize unv (l.drop (1 + a.2).toNat) 0 0 = b at rb ⊢
  rw [zag_f (by omega), Option.bind_some]
  by_cases c5 : b.2 = 0
  · rw [if_pos c5]
    by_cases c6 : 100 ≤ a.1
    · rw [if_pos (Or.inr c6), hbad]
    · rw [if_neg (show ¬ (a.2 = 0 ∨ 100 ≤ a.1) by omega), if_pos (Or.inl c5), hbad]
  rw [if_neg c5]
  by_cases c6 : 100 ≤ a.1
  · rw [if_pos c6, if_pos (Or.inr c6), hbad]
  rw [if_neg c6, if_neg (show ¬ (a.2 = 0 ∨ 100 ≤ a.1) by omega)]
  by_cases c7 : zag b.1 < -first
  · rw [if_pos c7, if_pos (Or.inr (Or.inl c7)), hbad]
  rw [if_neg c7]
  by_cases c8 : 1125899906842624 - first < zag b.1
  · rw [if_pos c8, if_pos (Or.inr (Or.inr c8)), hbad]
  rw [if_neg c8, if_neg (show ¬ (b.2 = 0 ∨ zag b.1 < -first ∨ 1125899906842624 - first < zag b.1) by omega), flag1 (by omega), flag2 (by omega)]
  generalize hK : decide (rd l 0 % 2 = 1) = hk
  generalize hV : decide (2 ≤ rd l 0) = hv
  rcases rdText_f hb hl (p := 1 + a.2 + b.2) (by omega) (by omega) hk k (by omega) with ⟨q, e1, e2⟩ | ⟨s, q, e1, e2⟩
  · rw [e1, e2, Option.bind_some]
    have : rdText k l q hv true = some (⟨#[]⟩, q, true) := by unfold rdText; rw [if_pos (by simp)]
    rw [this, Option.bind_some, if_pos rfl, hbad]
    rfl
  · rw [e1, e2, Option.bind_some, Option.bind_some]
    have rq := txR_range hb (by omega) (by omega) e2
    rcases rdText_f hb hl (p := q) (by omega) (by omega) hv k (by omega) with ⟨q2, f1, f2⟩ | ⟨s2, q2, f1, f2⟩
    · rw [f1, f2, Option.bind_some, if_pos rfl, hbad]
      rfl
    · rw [f1, f2, Option.bind_some, Option.bind_some, if_neg (by simp), check_f k _ _ _ _ _ _ (by omega), Option.bind_some, chk_sizes (txR_none e2) (txR_none f2) (by omega) (by omega) (by omega) (by omega)]
      by_cases c9 : 2000 < s.size ∨ 2000 < s2.size
      · rw [if_pos c9, if_pos c9, if_neg (by decide), hbad]
      · rw [if_neg c9, if_neg c9, if_pos rfl]
        rfl

end Go.Proofs.Ytgmeellapjimgaa.Bp

/- What is written is read, whatever stands behind; a record that is cut off is none; by another first time its time is moved. -/
namespace Go.Proofs.Ytgmeellapjimgaa.Bp
open Go Go.RowKit Go.Proofs.Ytgmeellapjimgaa.PBm Go.Proofs.YtgmeellapjimgaaW.PrintWords Go.Proofs.YtgmeellapjimgaaW.PrintLast Go.Proofs.YtgmeellapjimgaaW.PrintMore
set_option linter.unusedVariables false
set_option linter.unusedSimpArgs false

theorem strOfNums_bytesOf (s : ByteArray) : strOfNums (bytesOf s) = s := by
  cases s with
  | mk d =>
    unfold strOfNums bytesOf
    congr 1
    simp only [List.map_map]
    have : (d.toList.map ((fun n : Int => UInt8.ofNat n.toNat) ∘ fun b : UInt8 => (b.toNat : Int))) = d.toList := by
      conv => rhs; rw [← List.map_id d.toList]
      refine List.map_congr_left fun b _ => ?_
      simp
    rw [this]
theorem bytesOf_bytes (s : ByteArray) : Bytes (bytesOf s) := by
  intro x hx
  unfold bytesOf at hx
  obtain ⟨b, _, rfl⟩ := List.mem_map.1 hx
  have := b.toNat_lt
  omega
theorem toList_loop (bs : ByteArray) : ∀ (n i : Nat) (r : List UInt8), bs.size - i = n → ByteArray.toList.loop bs i r = r.reverse ++ bs.data.toList.drop i
  | 0, i, r, h => by
    rw [ByteArray.toList.loop, if_neg (by omega)]
    have : bs.data.toList.drop i = [] := List.drop_eq_nil_of_le (by rw [Array.length_toList]; show bs.size ≤ i; omega)
    rw [this, List.append_nil]
  | n + 1, i, r, h => by
    have hi : i < bs.data.size := by show i < bs.size; omega
    have e : bs.data.toList.drop i = bs.data[i] :: bs.data.toList.drop (i + 1) := List.drop_eq_getElem_cons (by rw [Array.length_toList]; exact hi)
    rw [ByteArray.toList.loop, if_pos (by omega), toList_loop bs n (i + 1) _ (by omega), List.reverse_cons, List.append_assoc, e]
    have e2 : bs.get! i = bs.data[i] := by unfold ByteArray.get!; exact getElem!_pos bs.data i hi
    rw [e2]
    rfl
theorem toList_data (bs : ByteArray) : bs.toList = bs.data.toList := by
  have := toList_loop bs _ 0 [] rfl
  simpa [ByteArray.toList] using this
theorem toList_nil {s : ByteArray} (h : s.toList = []) : s = ⟨#[]⟩ := by
  rw [toList_data] at h
  cases s with
  | mk d =>
    cases d with
    | mk l =>
      have : l = [] := h
      rw [this]
theorem toList_inj {a b : ByteArray} (h : a.toList = b.toList) : a = b := by
  rw [toList_data, toList_data] at h
  cases a with
  | mk x =>
    cases b with
    | mk y =>
      cases x with
      | mk x =>
        cases y with
        | mk y =>
          have : x = y := h
          rw [this]

/-- Drops at the end of a known beginning. -/
theorem drop_at {a b : List Int} {n : Nat} (h : n = a.length) : (a ++ b).drop n = b := by rw [h, List.drop_left]

theorem txR_there (pre rest : List Int) (s : ByteArray) (hs : s.size ≤ 1000000) (p : Int) (hp : p = (pre.length : Int)) : txR (pre ++ (txt s ++ rest)) p true = some (s, p + (txt s).length) := by
  subst hp
  have hv := unv_varint s.size (by omega) (bytesOf s ++ rest)
  have e : (pre ++ (txt s ++ rest)).drop ((pre.length : Int)).toNat = vr s.size ++ (bytesOf s ++ rest) := by
    rw [Int.toNat_natCast, List.drop_left]
    unfold txt
    rw [List.append_assoc]
  have hne : (vr s.size).length ≠ 0 := fun h => vr_ne s.size (List.eq_nil_of_length_eq_zero h)
  have hlt : (txt s).length = (vr s.size).length + s.size := by unfold txt; rw [List.length_append, bytesOf_len]
  unfold txR
  rw [e, hv, if_pos rfl]
  simp only
  rw [if_neg (by omega), if_neg (by simp only [List.length_append]; omega)]
  have e2 : (((pre ++ (txt s ++ rest)).take ((pre.length : Int) + ((vr s.size).length : Int) + (s.size : Int)).toNat).drop ((pre.length : Int) + ((vr s.size).length : Int)).toNat) = bytesOf s := by
    have h1 : ((pre.length : Int) + ((vr s.size).length : Int) + (s.size : Int)).toNat = (pre ++ txt s).length := by rw [List.length_append]; omega
    have h2 : ((pre.length : Int) + ((vr s.size).length : Int)).toNat = (pre ++ vr s.size).length := by rw [List.length_append]; omega
    rw [← List.append_assoc, h1, List.take_left, h2]
    unfold txt
    rw [← List.append_assoc, List.drop_left]
  rw [e2, strOfNums_bytesOf]
  congr 2
  omega
theorem txR_off (l : List Int) (p : Int) : txR l p false = some (⟨#[]⟩, p) := by unfold txR; rw [if_neg (by simp)]

theorem flags_range (hk hv : Bool) : 0 ≤ flags hk hv ∧ flags hk hv ≤ 3 := by cases hk <;> cases hv <;> decide
theorem flags_1 (hk hv : Bool) : decide (flags hk hv % 2 = 1) = hk := by cases hk <;> cases hv <;> decide
theorem flags_2 (hk hv : Bool) : decide (2 ≤ flags hk hv) = hv := by cases hk <;> cases hv <;> decide
theorem rd_cons0 (x : Int) (xs : List Int) : rd (x :: xs) 0 = x := rfl

/-- By any first time. -/
theorem dec_enc {hk : Bool} {key : ByteArray} {hv : Bool} {val : ByteArray} {t o first : Int} (h0 : chk hk key hv val t o = 0) (hf : 0 ≤ first ∧ first ≤ 1125899906842624) (other : Int) (hg : 0 ≤ other ∧ other ≤ 1125899906842624) (rest : List Int) :
    decS (enc hk key hv val t o first ++ rest) other = if t - first + other < 0 ∨ 1125899906842624 < t - first + other then none else some (hk, key, hv, val, t - first + other, o, ((enc hk key hv val t o first).length : Int)) := by
  have hc := chk_ok h0
  obtain ⟨c1, c2, c3, c4, c5, c6, c7, c8⟩ := hc
  have hz := zig_range (n := t - first) (by omega)
  have u1 := unv_varint o.toNat (by omega)
  have u2 := unv_varint (zig (t - first)).toNat (by omega)
  have n1 : (vr o.toNat).length ≠ 0 := fun h => vr_ne o.toNat (List.eq_nil_of_length_eq_zero h)
  have n2 : (vr (zig (t - first)).toNat).length ≠ 0 := fun h => vr_ne _ (List.eq_nil_of_length_eq_zero h)
  have l1 := vr_len 9 o.toNat (by omega)
  have l2 := vr_len 9 (zig (t - first)).toNat (by omega)
  have fr := flags_range hk hv
  generalize hA : vr o.toNat = A at u1 n1 l1
  generalize hB : vr (zig (t - first)).toNat = B at u2 n2 l2
  -- the bytes
  have hl : enc hk key hv val t o first ++ rest = flags hk hv :: (A ++ (B ++ ((if hk = true then txt key else []) ++ ((if hv = true then txt val else []) ++ rest)))) := by
    unfold enc
    rw [hA, hB]
    simp
  have hlen : (enc hk key hv val t o first).length = 1 + A.length + B.length + (if hk = true then txt key else []).length + (if hv = true then txt val else []).length := by
    unfold enc
    rw [hA, hB]
    simp only [List.length_cons, List.length_append]
    omega
  rw [hl, hlen]
  generalize hT : (if hk = true then txt key else []) = T
  generalize hU : (if hv = true then txt val else []) = U
  generalize hL : flags hk hv :: (A ++ (B ++ (T ++ (U ++ rest)))) = L
  have e0 : rd L 0 = flags hk hv := by rw [← hL]; rfl
  have d1 : L.drop 1 = A ++ (B ++ (T ++ (U ++ rest))) := by rw [← hL]; rfl
  have d2 : L.drop (1 + (A.length : Int)).toNat = B ++ (T ++ (U ++ rest)) := by
    rw [← hL, show (1 + (A.length : Int)).toNat = A.length + 1 from by omega, List.drop_succ_cons, List.drop_left]
  have hL0 : L.length ≠ 0 := by rw [← hL]; simp
  unfold decS
  rw [e0, if_neg (by omega), d1, u1]
  simp only
  rw [if_neg (by omega), d2, u2]
  simp only
  have ez : zag ((zig (t - first)).toNat : Int) = t - first := by rw [Int.toNat_of_nonneg hz.1, zag_zig]
  rw [ez]
  by_cases q : t - first + other < 0 ∨ 1125899906842624 < t - first + other
  · rw [if_pos q, if_pos (by omega)]
  · rw [if_neg q, if_neg (by omega), flags_1, flags_2]
    have x1 : txR L (1 + (A.length : Int) + (B.length : Int)) hk = some (key, 1 + (A.length : Int) + (B.length : Int) + (T.length : Int)) := by
      cases hk with
      | false =>
        rw [if_neg (by simp)] at hT
        rw [txR_off, ← hT, toList_nil (c1 rfl)]
        simp
      | true =>
        rw [if_pos rfl] at hT
        have := txR_there (flags true hv :: (A ++ B)) (U ++ rest) key (by omega) (1 + (A.length : Int) + (B.length : Int)) (by simp only [List.length_cons, List.length_append]; omega)
        rw [← hL, ← hT]
        simpa using this
    have x2 : txR L (1 + (A.length : Int) + (B.length : Int) + (T.length : Int)) hv = some (val, 1 + (A.length : Int) + (B.length : Int) + (T.length : Int) + (U.length : Int)) := by
      cases hv with
      | false =>
        rw [if_neg (by simp)] at hU
        rw [txR_off, ← hU, toList_nil (c2 rfl)]
        simp
      | true =>
        rw [if_pos rfl] at hU
        have := txR_there (flags hk true :: (A ++ (B ++ T))) rest val (by omega) (1 + (A.length : Int) + (B.length : Int) + (T.length : Int)) (by simp only [List.length_cons, List.length_append]; omega)
        rw [← hL, ← hU]
        simpa using this
    rw [x1, Option.bind_some, x2, Option.bind_some, if_neg (by simp only; omega), Int.toNat_of_nonneg c5]
    congr 6
    omega

/-- More bytes behind a record do not matter. -/
theorem txR_app {l : List Int} (hb : Bytes l) (rest : List Int) {p : Int} (h0 : 0 ≤ p) (h1 : p ≤ (l.length : Int)) {is : Bool} {s : ByteArray} {q : Int} (h : txR l p is = some (s, q)) : txR (l ++ rest) p is = some (s, q) := by
  have hr := txR_range hb h0 h1 h
  have hu := unv0_range (hb.drop p.toNat)
  unfold txR at h ⊢
  by_cases c : is = true
  · rw [if_pos c] at h ⊢
    rw [List.drop_append_of_le_length (by omega)]
    by_cases d : (unv (l.drop p.toNat) 0 0).2 = 0
    · rw [if_pos d] at h; cases h
    rw [unv_app rest _ 0 0 d]
    rw [if_neg d] at h ⊢
    by_cases e : (l.length : Int) - (p + (unv (l.drop p.toNat) 0 0).2) < (unv (l.drop p.toNat) 0 0).1
    · rw [if_pos e] at h; cases h
    rw [if_neg e] at h
    rw [if_neg (by rw [List.length_append]; omega), List.take_append_of_le_length (by omega)]
    exact h
  · rw [if_neg c] at h ⊢
    exact h
theorem decS_range {l : List Int} (hb : Bytes l) {first : Int} {hk : Bool} {key : ByteArray} {hv : Bool} {val : ByteArray} {t o n : Int} (h : decS l first = some (hk, key, hv, val, t, o, n)) : 3 ≤ n ∧ n ≤ (l.length : Int) := by
  unfold decS at h
  split at h
  · cases h
  rename_i c0
  split at h
  · cases h
  rename_i c1
  split at h
  · cases h
  rename_i c2
  have ra := unv0_range (hb.drop 1)
  rw [List.length_drop] at ra
  have rb := unv0_range (hb.drop ((1 + (unv (l.drop 1) 0 0).2).toNat))
  rw [List.length_drop] at rb
  obtain ⟨⟨x, p⟩, e1, h⟩ := Option.bind_eq_some_iff.mp h
  obtain ⟨⟨y, q⟩, e2, h⟩ := Option.bind_eq_some_iff.mp h
  have r1 := txR_range hb (by omega) (by omega) e1
  have r2 := txR_range hb (by omega) (by omega) e2
  split at h
  · cases h
  simp only [Option.some.injEq, Prod.mk.injEq] at h
  omega
theorem decS_app {l : List Int} (hb : Bytes l) (rest : List Int) {first : Int} {r : Bool × ByteArray × Bool × ByteArray × Int × Int × Int} (h : decS l first = some r) : decS (l ++ rest) first = some r := by
  unfold decS at h ⊢
  by_cases c0 : l.length = 0 ∨ 3 < rd l 0 ∨ first < 0 ∨ 1125899906842624 < first
  · rw [if_pos c0] at h; cases h
  rw [if_neg c0] at h
  have er : rd (l ++ rest) 0 = rd l 0 := by
    cases l with
    | nil => simp at c0
    | cons x xs => rfl
  have ra := unv0_range (hb.drop 1)
  rw [List.length_drop] at ra
  rw [er, if_neg (by rw [List.length_append]; omega), List.drop_append_of_le_length (by omega)]
  by_cases c1 : (unv (l.drop 1) 0 0).2 = 0 ∨ 100 ≤ (unv (l.drop 1) 0 0).1
  · rw [if_pos c1] at h; cases h
  rw [if_neg c1] at h
  have rb := unv0_range (hb.drop ((1 + (unv (l.drop 1) 0 0).2).toNat))
  rw [List.length_drop] at rb
  rw [unv_app rest _ 0 0 (by omega), if_neg c1, List.drop_append_of_le_length (by omega)]
  split at h
  · cases h
  rename_i c2
  rw [unv_app rest _ 0 0 (by omega), if_neg c2]
  obtain ⟨⟨x, p⟩, e1, h⟩ := Option.bind_eq_some_iff.mp h
  obtain ⟨⟨y, q⟩, e2, h⟩ := Option.bind_eq_some_iff.mp h
  have r1 := txR_range hb (by omega) (by omega) e1
  rw [txR_app hb rest (by omega) (by omega) e1, Option.bind_some, txR_app hb rest (by omega) (by omega) e2, Option.bind_some]
  exact h
/-- A record that is cut off is none. -/
theorem dec_cut {hk : Bool} {key : ByteArray} {hv : Bool} {val : ByteArray} {t o first : Int} (h0 : chk hk key hv val t o = 0) (hf : 0 ≤ first ∧ first ≤ 1125899906842624) (j : Nat) (hj : j < (enc hk key hv val t o first).length) (hb : Bytes (enc hk key hv val t o first)) :
    decS ((enc hk key hv val t o first).take j) first = none := by
  cases e : decS ((enc hk key hv val t o first).take j) first with
  | none => rfl
  | some r =>
    exfalso
    have e2 := decS_app (hb.take j) ((enc hk key hv val t o first).drop j) e
    rw [List.take_append_drop] at e2
    have e3 := dec_enc h0 hf first hf []
    rw [List.append_nil, e2] at e3
    have hc := chk_ok h0
    rw [if_neg (by omega)] at e3
    obtain ⟨hk', key', hv', val', t', o', n'⟩ := r
    have hr := decS_range (hb.take j) e
    rw [List.length_take] at hr
    simp only [Option.some.injEq, Prod.mk.injEq] at e3
    omega
theorem txt_bytes (s : ByteArray) : Bytes (txt s) := (vr_bytes _).append (bytesOf_bytes s)
theorem enc_bytes (hk : Bool) (key : ByteArray) (hv : Bool) (val : ByteArray) (t o first : Int) : Bytes (enc hk key hv val t o first) := by
  have h1 : Bytes (if hk = true then txt key else []) := by split; exact txt_bytes _; intro x hx; simp at hx
  have h2 : Bytes (if hv = true then txt val else []) := by split; exact txt_bytes _; intro x hx; simp at hx
  have := flags_range hk hv
  intro x hx
  rcases List.mem_cons.1 hx with rfl | hx
  · omega
  · exact ((vr_bytes _).append ((vr_bytes _).append (h1.append h2))) x hx

end Go.Proofs.Ytgmeellapjimgaa.Bp
