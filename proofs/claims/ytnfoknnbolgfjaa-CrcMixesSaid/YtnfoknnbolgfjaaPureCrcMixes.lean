/- The sum of three rows of bytes laid over one another, bit by bit, is that of their sums: of any three rows. No condition. -/
import Derived.Test.YtnfoknnbolgfjaaPCrcx3
import Derived.Test.YtnfoknnbolgfjaaCrcLaws
import Derived.Laws.BitsAllLaws
namespace Go.Proofs.Ytnfoknnbolgfjaa.Pure
open Go Go.RowKit Go.Proofs.Ytnfoknnbolgfjaa.PCrc Go.Proofs.YtnfoknnbolgfjaaW.PrintWords Go.Proofs.YtnfoknnbolgfjaaW.PrintLast Go.Proofs.YtnfoknnbolgfjaaW.PrintMore Go.Proofs.Ytnfoknnbolgfjaa.Crc
set_option linter.unusedVariables false
set_option linter.unusedSimpArgs false

def mixed (l0 l1 l2 : List Int) (j : Nat) : Int := Go.bits .xor .u8 (Go.bits .xor .u8 (rd l0 j) (rd l1 j)) (rd l2 j)

theorem run3 (A B C : List (BitVec 32)) (h1 : A.length = B.length) (h2 : A.length = C.length) :
    ~~~(run (~~~0#32) (List.zipWith (· ^^^ ·) (List.zipWith (· ^^^ ·) A B) C)) = ~~~(run (~~~0#32) A) ^^^ ~~~(run (~~~0#32) B) ^^^ ~~~(run (~~~0#32) C) := by
  have e : (~~~0#32 : BitVec 32) = (~~~0#32 ^^^ ~~~0#32) ^^^ ~~~0#32 := by decide
  have hz : (List.zipWith (· ^^^ ·) A B).length = C.length := by rw [List.length_zipWith]; omega
  conv => lhs; rw [e, run_xor _ _ _ _ hz, run_xor _ _ _ _ h1]
  have n3 : ∀ x y z : BitVec 32, ~~~(x ^^^ y ^^^ z) = ~~~x ^^^ ~~~y ^^^ ~~~z := by
    intro x y z
    apply BitVec.eq_of_getLsbD_eq
    intro i hi
    simp only [BitVec.getLsbD_not, BitVec.getLsbD_xor]
    rw [show decide (i < 32) = true from by simp; omega]
    cases x.getLsbD i <;> cases y.getLsbD i <;> cases z.getLsbD i <;> rfl
  exact n3 _ _ _

theorem mixes_end (l0 l1 l2 d : List Int) (n : Nat) (hn : n ≤ 3000) (b0 : ∀ x ∈ l0, 0 ≤ x ∧ x < 256) (b1 : ∀ x ∈ l1, 0 ≤ x ∧ x < 256) (b2 : ∀ x ∈ l2, 0 ≤ x ∧ x < 256)
    (n0 : n ≤ l0.length) (n1 : n ≤ l1.length) (n2 : n ≤ l2.length) (hd : d.length = n) (hv : ∀ j, j < n → d[j]? = some (mixed l0 l1 l2 j)) :
    crc d = Go.bits .xor .u32 (Go.bits .xor .u32 (crc (l0.take n)) (crc (l1.take n))) (crc (l2.take n)) := by
  unfold crc
  rw [xor32, xor32]
  congr 2
  unfold more
  rw [← run3 _ _ _ (by simp [vals]; omega) (by simp [vals]; omega)]
  congr 2
  apply List.ext_getElem
  · simp [vals]; omega
  · intro j hj hj2
    have hjn : j < n := by simpa [vals, hd] using hj
    simp only [vals, List.getElem_zipWith, List.getElem_map, List.getElem_take]
    have := hv j hjn
    rw [List.getElem?_eq_getElem (by omega)] at this
    rw [Option.some.inj this]
    unfold mixed rd
    simp only [Int.toNat_natCast, List.getD_eq_getElem?_getD]
    rw [List.getElem?_eq_getElem (by omega : j < l0.length), List.getElem?_eq_getElem (by omega : j < l1.length), List.getElem?_eq_getElem (by omega : j < l2.length)]
    simp only [Option.getD_some]
    have q0 := b0 _ (List.getElem_mem (by omega : j < l0.length))
    have q1 := b1 _ (List.getElem_mem (by omega : j < l1.length))
    have q2 := b2 _ (List.getElem_mem (by omega : j < l2.length))
    rw [ofInt_xor8 (xor8_range q0 q1) q2, ofInt_xor8 q0 q1]

theorem mixes_l0 (l0 l1 l2 : List Int) (n : Nat) (hn : n ≤ 3000) (b0 : ∀ x ∈ l0, 0 ≤ x ∧ x < 256) (b1 : ∀ x ∈ l1, 0 ≤ x ∧ x < 256) (b2 : ∀ x ∈ l2, 0 ≤ x ∧ x < 256)
    (n0 : n ≤ l0.length) (n1 : n ≤ l1.length) (n2 : n ≤ l2.length) (m : Nat) : ∀ (k i : Nat) (d : List Int), i + m = n → d.length = n → (∀ j, j < i → d[j]? = some (mixed l0 l1 l2 j)) → m + 10 * n + 300 ≤ k →
    bollardlaw2_CrcMixes.l0 k l0 l1 l2 (n : Int) d (i : Int) = some true := by
  induction m with
  | zero =>
    intro k i d hi hd hv hk
    obtain rfl : i = n := by omega
    obtain ⟨K, rfl⟩ : ∃ K, k = K + 1 := ⟨k - 1, by omega⟩
    simp only [bollardlaw2_CrcMixes.l0]
    rw [if_neg (by omega), sum_f d (by omega) K (by omega)]
    simp only [Option.bind_some, Int.toNat_natCast]
    rw [if_pos (by omega), if_pos (by omega), sum_f _ (by rw [List.length_take]; omega) K (by rw [List.length_take]; omega)]
    simp only [Option.bind_some]
    rw [if_pos (by omega), sum_f _ (by rw [List.length_take]; omega) K (by rw [List.length_take]; omega)]
    simp only [Option.bind_some]
    rw [if_pos (by omega), sum_f _ (by rw [List.length_take]; omega) K (by rw [List.length_take]; omega)]
    simp only [Option.bind_some]
    rw [if_pos (mixes_end l0 l1 l2 d i hn b0 b1 b2 n0 n1 n2 hd hv), awake_f K (by omega)]
    rfl
  | succ m ih =>
    intro k i d hi hd hv hk
    obtain ⟨K, rfl⟩ : ∃ K, k = K + 1 := ⟨k - 1, by omega⟩
    simp only [bollardlaw2_CrcMixes.l0]
    rw [if_pos (by omega), if_pos (by omega), if_pos (by omega), if_pos (by omega), if_pos (by omega), if_pos (by omega), up64 i (by omega)]
    refine ih K (i + 1) _ (by omega) (by rw [List.length_set]; omega) ?_ (by omega)
    intro j hj
    rw [Int.toNat_natCast]
    by_cases e : j = i
    · subst e
      rw [List.getElem?_set_self (by omega)]
      rfl
    · rw [List.getElem?_set_ne (by omega)]
      exact hv j (by omega)

theorem CrcMixes : bollardlaw2_CrcMixes.Pure := by
  intro l0 l1 l2 _ _ w0 _ _ w1 _ _ w2
  have b0 := bytes_of w0
  have b1 := bytes_of w1
  have b2 := bytes_of w2
  obtain ⟨n, hn⟩ : ∃ n : Nat, n = min l0.length (min l1.length l2.length) := ⟨_, rfl⟩
  have hm : mn (l0.length : Int) (mn (l1.length : Int) (l2.length : Int)) = (n : Int) := by
    unfold mn; split <;> split at * <;> omega
  refine ⟨40 * n + 1000, ?_⟩
  unfold bollardlaw2_CrcMixes.f
  rw [hm]
  by_cases c : (n : Int) > 3000
  · rw [if_pos c, awake_f _ (by omega)]
    rfl
  rw [if_neg c, if_pos (by omega), if_pos (by omega)]
  exact mixes_l0 l0 l1 l2 n (by omega) b0 b1 b2 (by omega) (by omega) (by omega) n _ 0 _ (by omega) (by simp) (fun j hj => by omega) (by omega)

end Go.Proofs.Ytnfoknnbolgfjaa.Pure
