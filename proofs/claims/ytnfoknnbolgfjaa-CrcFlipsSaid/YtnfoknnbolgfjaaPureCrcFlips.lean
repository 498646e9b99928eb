/- A change within four neighbouring bytes changes the sum, and no change does not: of any bytes, any place and any change. No condition. -/
import Derived.Test.YtnfoknnbolgfjaaPCrcx2
import Derived.Test.YtnfoknnbolgfjaaCrcLaws
namespace Go.Proofs.Ytnfoknnbolgfjaa.Pure
open Go Go.RowKit Go.Proofs.Ytnfoknnbolgfjaa.PCrc Go.Proofs.YtnfoknnbolgfjaaW.PrintWords Go.Proofs.YtnfoknnbolgfjaaW.PrintLast Go.Proofs.YtnfoknnbolgfjaaW.PrintMore Go.Proofs.Ytnfoknnbolgfjaa.Crc
set_option linter.unusedVariables false
set_option linter.unusedSimpArgs false

/-- The j-th byte of the change. -/
def turn (x : Int) (j : Nat) : Int := (shr .u32 x (wrap64 (8 * (j : Int)))) % 256
theorem turn_range (x : Int) (j : Nat) : 0 ≤ turn x j ∧ turn x j < 256 := by unfold turn; omega
/-- The bytes, i of them changed from place a on. -/
def flip (l : List Int) (a : Nat) (x : Int) : Nat → List Int
  | 0 => l
  | i + 1 => (flip l a x i).set (a + i) (Go.bits .xor .u8 (rd (flip l a x i) ((a + i : Nat) : Int)) (turn x i))
def any (x : Int) : Nat → Bool
  | 0 => false
  | i + 1 => if any x i = true then true else (turn x i != 0)

theorem flip_length (l : List Int) (a : Nat) (x : Int) (i : Nat) : (flip l a x i).length = l.length := by
  induction i with
  | zero => rfl
  | succ i ih => simp only [flip, List.length_set, ih]

theorem flip_get (l : List Int) (a : Nat) (x : Int) (i : Nat) : a + i ≤ l.length → ∀ p (hp : p < l.length), (flip l a x i)[p]? = some (if a ≤ p ∧ p < a + i then Go.bits .xor .u8 l[p] (turn x (p - a)) else l[p]) := by
  induction i with
  | zero =>
    intro _ p hp
    rw [if_neg (by omega)]
    exact List.getElem?_eq_getElem hp
  | succ i ih =>
    intro hi p hp
    simp only [flip]
    by_cases e : p = a + i
    · subst e
      rw [List.getElem?_set_self (by rw [flip_length]; omega), if_pos (by omega)]
      have h0 := ih (by omega) (a + i) hp
      rw [if_neg (by omega)] at h0
      unfold rd
      rw [Int.toNat_natCast, List.getD_eq_getElem?_getD, h0]
      simp
    · rw [List.getElem?_set_ne (by omega), ih (by omega) p hp]
      by_cases c : a ≤ p ∧ p < a + i
      · rw [if_pos c, if_pos (by omega)]
      · rw [if_neg c, if_neg (by omega)]

def turns (x : Int) (m : Nat) : List (BitVec 32) := (List.range m).map (fun j => BitVec.ofInt 32 (turn x j))

theorem diff_vals (l : List Int) (b : ∀ y ∈ l, 0 ≤ y ∧ y < 256) (a : Nat) (x : Int) (m : Nat) (h : a + m ≤ l.length) :
    List.zipWith (· ^^^ ·) (vals (flip l a x m)) (vals l) = List.replicate a 0#32 ++ (turns x m ++ List.replicate (l.length - a - m) 0#32) := by
  apply List.ext_getElem
  · simp [vals, turns, flip_length]; omega
  · intro p hp _
    have hpl : p < l.length := by simpa [vals, flip_length] using hp
    simp only [vals, List.getElem_zipWith, List.getElem_map]
    have g := flip_get l a x m h p hpl
    rw [List.getElem?_eq_getElem (by rw [flip_length]; exact hpl)] at g
    rw [Option.some.inj g]
    have q := b _ (List.getElem_mem hpl)
    by_cases c1 : p < a
    · rw [if_neg (by omega), List.getElem_append_left (by simpa using c1)]
      simp
    · rw [List.getElem_append_right (by simpa using c1)]
      simp only [List.length_replicate]
      by_cases c2 : p < a + m
      · rw [if_pos (by omega), List.getElem_append_left (by simp [turns]; omega), ofInt_xor8 q (turn_range x _)]
        simp only [turns, List.getElem_map, List.getElem_range]
        rw [BitVec.xor_comm, ← BitVec.xor_assoc, BitVec.xor_self, BitVec.zero_xor]
      · rw [if_neg (by omega), List.getElem_append_right (by simp [turns]; omega)]
        simp

theorem byte_isByte (y : Int) (h : 0 ≤ y ∧ y < 256) : isByte (BitVec.ofInt 32 y) := by
  obtain ⟨n, rfl⟩ : ∃ n : Nat, y = (n : Int) := ⟨y.toNat, by omega⟩
  intro j hj
  rw [BitVec.ofInt_natCast, BitVec.getLsbD_ofNat]
  have : n.testBit j = false := Nat.testBit_lt_two_pow (Nat.lt_of_lt_of_le (by omega : n < 2 ^ 8) (Nat.pow_le_pow_right (by omega) hj))
  rw [this, Bool.and_false]

theorem any_false (x : Int) (m : Nat) : any x m = false ↔ ∀ j, j < m → turn x j = 0 := by
  induction m with
  | zero => simp [any]
  | succ m ih =>
    simp only [any]
    cases h : any x m with
    | true =>
      rw [if_pos rfl]
      simp only [Bool.true_eq_false, false_iff]
      intro hh
      have := ih.2 (fun j hj => hh j (by omega))
      rw [h] at this
      exact absurd this (by simp)
    | false =>
      rw [if_neg (by simp)]
      have h2 := ih.1 h
      constructor
      · intro hz j hj
        by_cases e : j = m
        · subst e; simpa using hz
        · exact h2 j (by omega)
      · intro hh
        simpa using hh m (by omega)

theorem flip_sum (l : List Int) (b : ∀ y ∈ l, 0 ≤ y ∧ y < 256) (a : Nat) (x : Int) (m : Nat) (hm : m ≤ 4) (h : a + m ≤ l.length) :
    (crc (flip l a x m) != crc l) = any x m := by
  have hd := diff_vals l b a x m h
  have key : run 0#32 (List.zipWith (· ^^^ ·) (vals (flip l a x m)) (vals l)) = run (~~~0#32) (vals (flip l a x m)) ^^^ run (~~~0#32) (vals l) := by
    rw [← run_xor _ _ _ _ (by simp [vals, flip_length]), BitVec.xor_self]
  rw [hd, run_append, run_zeros_zero] at key
  have hcc : crc (flip l a x m) = crc l ↔ run 0#32 (turns x m ++ List.replicate (l.length - a - m) 0#32) = 0#32 := by
    rw [key]
    unfold crc more
    constructor
    · intro e
      have e2 : (~~~(run (~~~0#32) (vals (flip l a x m)))) = ~~~(run (~~~0#32) (vals l)) := BitVec.eq_of_toNat_eq (by omega)
      have e3 := congrArg (fun v => ~~~v) e2
      simp only [BitVec.not_not] at e3
      rw [e3, BitVec.xor_self]
    · intro e
      rw [BitVec.xor_eq_zero_iff] at e
      rw [e]
  cases hx : any x m with
  | true =>
    rw [bne_iff_ne]
    intro e
    have hz := hcc.1 e
    have all := run_change (l := turns x m) (fun d hdm => by
      obtain ⟨j, _, rfl⟩ := List.mem_map.1 hdm
      exact byte_isByte _ (turn_range x j)) (by simp [turns]; omega) hz
    have : any x m = false := (any_false x m).2 (fun j hj => by
      have q := all (BitVec.ofInt 32 (turn x j)) (List.mem_map.2 ⟨j, List.mem_range.2 hj, rfl⟩)
      have r := turn_range x j
      have t := congrArg BitVec.toNat q
      rw [BitVec.toNat_ofInt] at t
      simp at t
      omega)
    rw [hx] at this
    exact absurd this (by simp)
  | false =>
    rw [bne_eq_false_iff_eq]
    apply hcc.2
    have hz := (any_false x m).1 hx
    have : turns x m = List.replicate m 0#32 := by
      apply List.ext_getElem
      · simp [turns]
      · intro p hp _
        have hpm : p < m := by simpa [turns] using hp
        simp [turns, hz p hpm]
    rw [this, List.replicate_append_replicate, run_zeros_zero]

theorem flips_end (l : List Int) (hl : l.length ≤ 3000) (b : ∀ y ∈ l, 0 ≤ y ∧ y < 256) (a : Nat) (x : Int) (m : Nat) (hm : m ≤ 4) (h : a + m ≤ l.length) (k : Nat) (hk : 10 * l.length + 300 ≤ k) :
    ((crc_Sum.f k (flip l a x m)).bind fun t => ((crc_Sum.f k l).bind fun u => (if ((t != u) == any x m) = true then ((bollardlaw2_awake.f k).bind fun v => (some v)) else (some false)))) = some true := by
  rw [sum_f _ (by rw [flip_length]; omega) k (by rw [flip_length]; omega)]
  simp only [Option.bind_some]
  rw [sum_f _ (by omega) k (by omega)]
  simp only [Option.bind_some]
  rw [flip_sum l b a x m hm h, if_pos (by simp), awake_f k (by omega)]
  rfl

theorem flips_l0 (l : List Int) (hl : l.length ≤ 3000) (b : ∀ y ∈ l, 0 ≤ y ∧ y < 256) (a : Nat) (ha : a < l.length) (x : Int) (d : Nat) : ∀ (k m : Nat), m + d = 4 → a + m ≤ l.length → d + 10 * l.length + 400 ≤ k →
    bollardlaw2_CrcFlips.l0 k l (a : Int) x (flip l a x m) (any x m) (m : Int) = some true := by
  induction d with
  | zero =>
    intro k m hm h hk
    obtain ⟨K, rfl⟩ : ∃ K, k = K + 1 := ⟨k - 1, by omega⟩
    simp only [bollardlaw2_CrcFlips.l0]
    rw [if_neg (by omega)]
    exact flips_end l hl b a x m (by omega) h K (by omega)
  | succ d ih =>
    intro k m hm h hk
    obtain ⟨K, rfl⟩ : ∃ K, k = K + 1 := ⟨k - 1, by omega⟩
    simp only [bollardlaw2_CrcFlips.l0]
    rw [if_pos (by omega), flip_length]
    have w : wrap64 ((a : Int) + (m : Int)) = ((a + m : Nat) : Int) := by unfold wrap64; omega
    rw [w]
    by_cases c : ((a + m : Nat) : Int) < (l.length : Int)
    · rw [if_pos c, if_pos (by unfold wrap64; omega), if_pos (by omega)]
      simp only [Option.bind_some, Int.toNat_natCast]
      have f1 : (flip l a x m).set (a + m) (Go.bits .xor .u8 (rd (flip l a x m) ((a + m : Nat) : Int)) ((shr .u32 x (wrap64 (8 * (m : Int)))) % 256)) = flip l a x (m + 1) := rfl
      rw [f1, up64 m (by omega)]
      have n := ih K (m + 1) (by omega) (by omega) (by omega)
      simp only [any] at n
      by_cases c2 : any x m = true
      · rw [if_pos c2]
        rw [if_pos c2] at n
        exact n
      · rw [if_neg c2]
        rw [if_neg c2] at n
        exact n
    · rw [if_neg c]
      exact flips_end l hl b a x m (by omega) h K (by omega)

theorem flips_j1 (l : List Int) (hl : l.length ≤ 3000) (b : ∀ y ∈ l, 0 ≤ y ∧ y < 256) (a : Nat) (ha : a < l.length) (x : Int) (k : Nat) (hk : 10 * l.length + 500 ≤ k) : bollardlaw2_CrcFlips.j1 k l (a : Int) x = some true := by
  obtain ⟨K, rfl⟩ : ∃ K, k = K + 1 := ⟨k - 1, by omega⟩
  simp only [bollardlaw2_CrcFlips.j1, List.nil_append, List.length_nil, Nat.zero_add]
  rw [if_pos (by omega)]
  exact flips_l0 l hl b a ha x 4 K 0 rfl (by omega) (by omega)

theorem CrcFlips : bollardlaw2_CrcFlips.Pure := by
  intro l0 a1 a2 _ h0 w0 wa _
  have b0 := bytes_of w0
  refine ⟨20 * l0.length + 1000, ?_⟩
  obtain ⟨K, hK⟩ : ∃ K, K = 20 * l0.length + 999 := ⟨_, rfl⟩
  rw [show 20 * l0.length + 1000 = K + 1 from by omega]
  unfold bollardlaw2_CrcFlips.f
  have e1 : bollardlaw2_CrcFlips.j0 (K + 1) l0 a1 a2 true = some true := by
    simp only [bollardlaw2_CrcFlips.j0]
    rw [if_pos (by trivial), awake_f K (by omega)]
    rfl
  by_cases c : (l0.length : Int) > 3000
  · rw [if_pos c]
    exact e1
  rw [if_neg c]
  by_cases c2 : (l0.length : Int) = 0
  · rw [if_pos c2]
    exact e1
  rw [if_neg c2]
  cases hb : (a2 == 0) with
  | true => exact e1
  | false =>
    simp only [bollardlaw2_CrcFlips.j0]
    rw [if_neg (by simp), if_neg c2]
    have hlt := Int.tmod_lt_of_pos a1 (by omega : (0 : Int) < (l0.length : Int))
    have hgt : -(l0.length : Int) < Int.tmod a1 (l0.length : Int) := Int.lt_tmod_of_pos a1 (by omega)
    by_cases c3 : Int.tmod a1 (l0.length : Int) < 0
    · rw [if_pos c3]
      obtain ⟨n, hn⟩ : ∃ n : Nat, wrap64 (-(Int.tmod a1 (l0.length : Int))) = (n : Int) := ⟨(-(Int.tmod a1 (l0.length : Int))).toNat, by unfold wrap64; omega⟩
      rw [hn]
      exact flips_j1 l0 (by omega) b0 n (by unfold wrap64 at hn; omega) a2 K (by omega)
    · rw [if_neg c3]
      obtain ⟨n, hn⟩ : ∃ n : Nat, Int.tmod a1 (l0.length : Int) = (n : Int) := ⟨(Int.tmod a1 (l0.length : Int)).toNat, by omega⟩
      rw [hn]
      exact flips_j1 l0 (by omega) b0 n (by omega) a2 K (by omega)

end Go.Proofs.Ytnfoknnbolgfjaa.Pure
