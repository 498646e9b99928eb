/- Plain facts on CRC-32C over words of 32 digits, with no program in sight: the step is linear and loses nothing. Used by the statements on crc, layout and batch. -/
import Derived.Laws.Entries
import Derived.RowKit
namespace Go.Proofs.Ytgmeellapjimgaa.Crc
open Go
set_option linter.unusedVariables false
set_option linter.unusedSimpArgs false

def P32 : BitVec 32 := 0x82f63b78#32
def bitStep (c : BitVec 32) : BitVec 32 := (c >>> 1) ^^^ (if c.getLsbD 0 then P32 else 0#32)
def steps : Nat → BitVec 32 → BitVec 32
  | 0, c => c
  | n + 1, c => steps n (bitStep c)
def byteStep (c x : BitVec 32) : BitVec 32 := steps 8 (c ^^^ x)
def run (c : BitVec 32) (l : List (BitVec 32)) : BitVec 32 := l.foldl byteStep c

theorem xor_swap (a b p q : BitVec 32) : (a ^^^ b) ^^^ (p ^^^ q) = (a ^^^ p) ^^^ (b ^^^ q) := by
  rw [BitVec.xor_assoc, BitVec.xor_assoc, ← BitVec.xor_assoc b p q, BitVec.xor_comm b p, BitVec.xor_assoc]

theorem bitStep_xor (a b : BitVec 32) : bitStep (a ^^^ b) = bitStep a ^^^ bitStep b := by
  unfold bitStep
  rw [xor_swap, BitVec.getLsbD_xor, BitVec.ushiftRight_xor_distrib]
  cases a.getLsbD 0 <;> cases b.getLsbD 0 <;> simp

theorem steps_xor (n : Nat) : ∀ a b : BitVec 32, steps n (a ^^^ b) = steps n a ^^^ steps n b := by
  induction n with
  | zero => intro a b; rfl
  | succ n ih => intro a b; simp only [steps, bitStep_xor, ih]

theorem byteStep_xor (a b x y : BitVec 32) : byteStep (a ^^^ b) (x ^^^ y) = byteStep a x ^^^ byteStep b y := by
  unfold byteStep
  rw [xor_swap, steps_xor]

theorem run_append (c : BitVec 32) (l m : List (BitVec 32)) : run c (l ++ m) = run (run c l) m := by simp [run]
theorem run_cons (c x : BitVec 32) (l : List (BitVec 32)) : run c (x :: l) = run (byteStep c x) l := rfl
theorem run_nil (c : BitVec 32) : run c [] = c := rfl

theorem run_xor : ∀ (l m : List (BitVec 32)) (a b : BitVec 32), l.length = m.length → run (a ^^^ b) (List.zipWith (· ^^^ ·) l m) = run a l ^^^ run b m := by
  intro l
  induction l with
  | nil => intro m a b h; cases m with
    | nil => rfl
    | cons y m => simp at h
  | cons x l ih => intro m a b h; cases m with
    | nil => simp at h
    | cons y m =>
      rw [List.zipWith_cons_cons, run_cons, run_cons, run_cons, byteStep_xor]
      exact ih m _ _ (by simpa using h)

theorem bitStep_zero : bitStep 0#32 = 0#32 := by decide
theorem steps_zero (n : Nat) : steps n 0#32 = 0#32 := by
  induction n with
  | zero => rfl
  | succ n ih => rw [steps, bitStep_zero, ih]

theorem bitStep_inj {c : BitVec 32} (h : bitStep c = 0#32) : c = 0#32 := by
  unfold bitStep at h
  have hb : c.getLsbD 0 = false := by
    cases hc : c.getLsbD 0 with
    | false => rfl
    | true =>
      rw [hc, if_pos rfl] at h
      have h31 := congrArg (fun v => BitVec.getLsbD v 31) h
      simp only [BitVec.getLsbD_xor, BitVec.getLsbD_ushiftRight] at h31
      rw [BitVec.getLsbD_of_ge c (1 + 31) (by omega)] at h31
      revert h31
      decide
  rw [hb] at h
  simp only [Bool.false_eq_true, if_false, BitVec.xor_zero] at h
  apply BitVec.eq_of_getLsbD_eq
  intro i hi
  cases i with
  | zero => rw [hb]; rfl
  | succ i =>
    have := congrArg (fun v => BitVec.getLsbD v i) h
    simp only [BitVec.getLsbD_ushiftRight, BitVec.getLsbD_zero] at this
    rw [BitVec.getLsbD_zero, Nat.add_comm]
    exact this

theorem steps_inj (n : Nat) : ∀ {c : BitVec 32}, steps n c = 0#32 → c = 0#32 := by
  induction n with
  | zero => intro c h; exact h
  | succ n ih => intro c h; exact bitStep_inj (ih h)

/-- Noughts behind: nothing is lost. -/
theorem run_zeros_inj (n : Nat) : ∀ {c : BitVec 32}, run c (List.replicate n 0#32) = 0#32 → c = 0#32 := by
  induction n with
  | zero => intro c h; exact h
  | succ n ih =>
    intro c h
    rw [List.replicate_succ, run_cons] at h
    have h2 := steps_inj 8 (ih h)
    simpa using h2

theorem run_zeros_zero (n : Nat) : run 0#32 (List.replicate n 0#32) = 0#32 := by
  induction n with
  | zero => rfl
  | succ n ih =>
    rw [List.replicate_succ, run_cons]
    have : byteStep 0#32 0#32 = 0#32 := by unfold byteStep; rw [BitVec.xor_zero, steps_zero]
    rw [this, ih]

theorem steps_shift (n : Nat) : ∀ y : BitVec 32, (∀ j, 32 - n ≤ j → y.getLsbD j = false) → n ≤ 32 → steps n (y <<< n) = y := by
  induction n with
  | zero => intro y _ _; simp [steps]
  | succ n ih =>
    intro y hy hn
    have hb : bitStep (y <<< (n + 1)) = y <<< n := by
      unfold bitStep
      have h0 : (y <<< (n + 1)).getLsbD 0 = false := by simp [BitVec.getLsbD_shiftLeft]
      rw [h0]
      simp only [Bool.false_eq_true, if_false, BitVec.xor_zero]
      apply BitVec.eq_of_getLsbD_eq
      intro i hi
      simp only [BitVec.getLsbD_ushiftRight, BitVec.getLsbD_shiftLeft]
      by_cases h31 : i = 31
      · subst h31
        have := hy (31 - n) (by omega)
        rw [this]
        simp
      · have e1 : 1 + i - (n + 1) = i - n := by omega
        have e2 : decide (1 + i < 32) = true := by simp; omega
        have e3 : decide (i < 32) = true := by simp; omega
        have e4 : decide (1 + i < n + 1) = decide (i < n) := by
          rw [Bool.eq_iff_iff]; simp; omega
        rw [e1, e2, e3, e4]
    rw [steps, hb]
    exact ih y (fun j hj => hy j (by omega)) (by omega)

/-- Up to four bytes as one word, the first one lowest. -/
def word : List (BitVec 32) → BitVec 32
  | [] => 0#32
  | d :: ds => d ^^^ (word ds <<< 8)

def isByte (d : BitVec 32) : Prop := ∀ j, 8 ≤ j → d.getLsbD j = false

theorem word_high : ∀ (l : List (BitVec 32)), (∀ d ∈ l, isByte d) → ∀ j, 8 * l.length ≤ j → (word l).getLsbD j = false := by
  intro l
  induction l with
  | nil => intro _ j _; simp [word]
  | cons d ds ih =>
    intro h j hj
    rw [List.length_cons] at hj
    simp only [word, BitVec.getLsbD_xor, BitVec.getLsbD_shiftLeft]
    rw [h d (by simp) j (by omega), ih (fun x hx => h x (by simp [hx])) (j - 8) (by omega)]
    simp

theorem run_word : ∀ (l : List (BitVec 32)) (c : BitVec 32), (∀ d ∈ l, isByte d) → l.length ≤ 4 → run c l = steps (8 * l.length) (c ^^^ word l) := by
  intro l
  induction l with
  | nil => intro c _ _; simp [run, steps, word]
  | cons d ds ih =>
    intro c h hl
    rw [List.length_cons] at hl
    rw [run_cons, ih _ (fun x hx => h x (by simp [hx])) (by omega)]
    have e : byteStep c d ^^^ word ds = steps 8 (c ^^^ word (d :: ds)) := by
      have hs : steps 8 (word ds <<< 8) = word ds := steps_shift 8 (word ds) (fun j hj => word_high ds (fun x hx => h x (by simp [hx])) j (by omega)) (by omega)
      simp only [word]
      rw [← BitVec.xor_assoc, steps_xor, hs]
      rfl
    rw [e, List.length_cons]
    have add : ∀ n m x, steps (n + m) x = steps n (steps m x) := by
      intro n m
      induction m with
      | zero => intro x; rfl
      | succ m ihm => intro x; rw [← Nat.add_assoc, steps, ihm]; rfl
    rw [Nat.mul_add, Nat.mul_one, add]

theorem word_zero : ∀ (l : List (BitVec 32)), (∀ d ∈ l, isByte d) → l.length ≤ 4 → word l = 0#32 → ∀ d ∈ l, d = 0#32 := by
  intro l
  induction l with
  | nil => intro _ _ _ d hd; simp at hd
  | cons d ds ih =>
    intro h hl hz x hx
    rw [List.length_cons] at hl
    simp only [word] at hz
    have hd : d = 0#32 := by
      apply BitVec.eq_of_getLsbD_eq
      intro i hi
      rw [BitVec.getLsbD_zero]
      by_cases h8 : 8 ≤ i
      · exact h d (by simp) i h8
      · have := congrArg (fun v => BitVec.getLsbD v i) hz
        simp only [BitVec.getLsbD_xor, BitVec.getLsbD_shiftLeft, BitVec.getLsbD_zero] at this
        have e : decide (i < 8) = true := by simp; omega
        rw [e] at this
        simpa using this
    have hw : word ds = 0#32 := by
      apply BitVec.eq_of_getLsbD_eq
      intro i hi
      rw [BitVec.getLsbD_zero]
      by_cases h24 : 24 ≤ i
      · exact word_high ds (fun x hx => h x (by simp [hx])) i (by omega)
      · have := congrArg (fun v => BitVec.getLsbD v (i + 8)) hz
        simp only [BitVec.getLsbD_xor, BitVec.getLsbD_shiftLeft, BitVec.getLsbD_zero] at this
        rw [hd] at this
        have e : decide (i + 8 < 32) = true := by simp; omega
        have e2 : decide (i + 8 < 8) = false := by simp
        rw [e, e2] at this
        simpa using this
    rcases List.mem_cons.1 hx with rfl | hx
    · exact hd
    · exact ih (fun x hx => h x (by simp [hx])) (by omega) hw x hx

/-- Four neighbouring bytes at most, of which one is changed, change the register. -/
theorem run_change {l : List (BitVec 32)} {n : Nat} (h : ∀ d ∈ l, isByte d) (hl : l.length ≤ 4) (hz : run 0#32 (l ++ List.replicate n 0#32) = 0#32) : ∀ d ∈ l, d = 0#32 := by
  rw [run_append, run_word l _ h hl] at hz
  have h2 := steps_inj _ (run_zeros_inj n hz)
  simp only [BitVec.zero_xor] at h2
  exact word_zero l h hl h2

/-! numbers -/
theorem ofInt_toNat (c : BitVec 32) : BitVec.ofInt 32 (c.toNat : Int) = c := by
  rw [BitVec.ofInt_natCast, BitVec.ofNat_toNat, BitVec.setWidth_eq]
theorem toNat_lt (c : BitVec 32) : (c.toNat : Int) < 4294967296 := by have := c.isLt; omega
theorem wrap_u32 (n : Nat) (h : n < 4294967296) : IntKind.u32.wrap (n : Int) = n := by
  simp only [IntKind.wrap, IntKind.bits, IntKind.signed]
  simp
  omega
theorem xor32 (a b : BitVec 32) : Go.bits .xor .u32 (a.toNat : Int) (b.toNat : Int) = ((a ^^^ b).toNat : Int) := by
  unfold Go.bits
  simp only [IntKind.bits]
  rw [ofInt_toNat, ofInt_toNat]
  exact wrap_u32 _ (a ^^^ b).isLt
theorem and32 (a b : BitVec 32) : Go.bits .and .u32 (a.toNat : Int) (b.toNat : Int) = ((a &&& b).toNat : Int) := by
  unfold Go.bits
  simp only [IntKind.bits]
  rw [ofInt_toNat, ofInt_toNat]
  exact wrap_u32 _ (a &&& b).isLt
theorem emod32 (x : Int) : x % 4294967296 = ((BitVec.ofInt 32 x).toNat : Int) := by
  rw [BitVec.toNat_ofInt]
  simp
  omega
theorem half32 (c : BitVec 32) : (c.toNat : Int) / (2 : Int) = ((c >>> 1).toNat : Int) := by
  rw [BitVec.toNat_ushiftRight, Nat.shiftRight_eq_div_pow]
  simp
theorem and_one (c : BitVec 32) : Go.bits .and .u32 (c.toNat : Int) 1 = if c.getLsbD 0 then 1 else 0 := by
  have e : (1 : Int) = ((1#32 : BitVec 32).toNat : Int) := by decide
  conv => lhs; rw [e]
  rw [and32, BitVec.toNat_and]
  have : (1#32 : BitVec 32).toNat = 1 := by decide
  rw [this, Nat.and_one_is_mod, BitVec.getLsbD, Nat.testBit_zero]
  rcases Nat.mod_two_eq_zero_or_one c.toNat with h | h <;> simp [h]
theorem step_code (c : BitVec 32) : Go.bits .xor .u32 ((c.toNat : Int) / 2) (Go.bits .and .u32 2197175160 ((-(Go.bits .and .u32 (c.toNat : Int) 1)) % 4294967296)) = ((bitStep c).toNat : Int) := by
  have e : ∀ b : BitVec 32, Go.bits .and .u32 2197175160 (b.toNat : Int) = ((P32 &&& b).toNat : Int) := fun b => and32 P32 b
  rw [and_one, half32]
  unfold bitStep
  cases c.getLsbD 0 with
  | true =>
    have h1 : (-(if true = true then (1 : Int) else 0)) % 4294967296 = ((BitVec.allOnes 32).toNat : Int) := by decide
    rw [h1, e, xor32, BitVec.and_allOnes]
    simp
  | false =>
    have h1 : (-(if false = true then (1 : Int) else 0)) % 4294967296 = ((0#32).toNat : Int) := by decide
    rw [h1, e, xor32, BitVec.and_zero]
    simp
theorem ref_code1 (c : BitVec 32) (h : c.getLsbD 0 = true) : Go.bits .xor .u32 ((c.toNat : Int) / 2) 2197175160 = ((bitStep c).toNat : Int) := by
  have e : ∀ b : BitVec 32, Go.bits .xor .u32 (b.toNat : Int) 2197175160 = ((b ^^^ P32).toNat : Int) := fun b => xor32 b P32
  rw [half32, e]
  unfold bitStep
  rw [h, if_pos rfl]
theorem ref_code0 (c : BitVec 32) (h : c.getLsbD 0 = false) : (c.toNat : Int) / 2 = ((bitStep c).toNat : Int) := by
  rw [half32]
  unfold bitStep
  rw [h]
  simp
theorem not_code (c : BitVec 32) : Go.bits .xor .u32 4294967295 (c.toNat : Int) = ((~~~c).toNat : Int) := by
  have e : (4294967295 : Int) = ((BitVec.allOnes 32).toNat : Int) := by decide
  rw [e, xor32, BitVec.allOnes_xor]

/-- Bytes as words. -/
def vals (l : List Int) : List (BitVec 32) := l.map (BitVec.ofInt 32)
theorem vals_append (l m : List Int) : vals (l ++ m) = vals l ++ vals m := by simp [vals]
theorem vals_length (l : List Int) : (vals l).length = l.length := by simp [vals]
/-- What the program's and the document's More come to. -/
def more (c : BitVec 32) (l : List Int) : BitVec 32 := ~~~(run (~~~c) (vals l))
theorem more_append (c : BitVec 32) (l m : List Int) : more (more c l) m = more c (l ++ m) := by
  unfold more
  rw [BitVec.not_not, vals_append, run_append]
theorem more_nil (c : BitVec 32) : more c [] = c := by
  unfold more
  simp [vals, run_nil]
def crc (l : List Int) : Int := ((more 0#32 l).toNat : Int)

end Go.Proofs.Ytgmeellapjimgaa.Crc
