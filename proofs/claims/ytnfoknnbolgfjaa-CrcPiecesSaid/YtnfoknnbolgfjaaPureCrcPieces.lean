/- However bytes are cut into pieces of one size, going on from piece to piece comes to the sum of all: of any bytes and any size. No condition. -/
import Derived.Test.YtnfoknnbolgfjaaPCrcx2
import Derived.Test.YtnfoknnbolgfjaaCrcLaws
namespace Go.Proofs.Ytnfoknnbolgfjaa.Pure
open Go Go.RowKit Go.Proofs.Ytnfoknnbolgfjaa.PCrc Go.Proofs.YtnfoknnbolgfjaaW.PrintWords Go.Proofs.YtnfoknnbolgfjaaW.PrintLast Go.Proofs.Ytnfoknnbolgfjaa.Crc
set_option linter.unusedVariables false
set_option linter.unusedSimpArgs false

theorem take_more (l : List Int) (i j : Nat) (h : i ≤ j) : l.take i ++ (l.take j).drop i = l.take j := by
  have := List.take_append_drop i (l.take j)
  rw [List.take_take, Nat.min_eq_left h] at this
  exact this

theorem pieces_end (l : List Int) (hl : l.length ≤ 3000) (a : Int) (k : Nat) (hk : 10 * l.length + 300 ≤ k) :
    bollardlaw2_CrcPieces.l0 k l a (crc (l.take l.length)) (l.length : Int) = some true := by
  obtain ⟨m, rfl⟩ : ∃ m, k = m + 1 := ⟨k - 1, by omega⟩
  simp only [bollardlaw2_CrcPieces.l0]
  rw [if_neg (by omega), sum_f l (by omega) m (by omega)]
  simp only [Option.bind_some]
  rw [List.take_of_length_le (Nat.le_refl _), if_pos rfl, awake_f m (by omega)]
  rfl

theorem pieces_l0 (l : List Int) (hl : l.length ≤ 3000) (a : Int) (ha : 1 ≤ a) (d : Nat) : ∀ (k i : Nat), i ≤ l.length → l.length - i ≤ d → d + 10 * l.length + 300 ≤ k →
    bollardlaw2_CrcPieces.l0 k l a (crc (l.take i)) (i : Int) = some true := by
  induction d with
  | zero =>
    intro k i hi hd hk
    obtain rfl : i = l.length := by omega
    exact pieces_end l hl a k (by omega)
  | succ d ih =>
    intro k i hi hd hk
    by_cases hi2 : i = l.length
    · subst hi2
      exact pieces_end l hl a k (by omega)
    obtain ⟨m, rfl⟩ : ∃ m, k = m + 1 := ⟨k - 1, by omega⟩
    simp only [bollardlaw2_CrcPieces.l0]
    have w0 : wrap64 ((l.length : Int) - (i : Int)) = (l.length : Int) - (i : Int) := by unfold wrap64; omega
    rw [if_pos (by omega), w0]
    have go : ∀ n : Nat, 1 ≤ n → i + n ≤ l.length → ∀ e : Int, e = ((i + n : Nat) : Int) →
        (if 0 ≤ (i : Int) then (if (i : Int) ≤ e then (if e ≤ (l.length : Int) then ((crc_More.f m (crc (l.take i)) ((l.take (e : Int).toNat).drop ((i : Int)).toNat)).bind fun t => (bollardlaw2_CrcPieces.l0 m l a t e)) else (none)) else (none)) else (none)) = some true := by
      intro n hn hin e he
      subst he
      rw [if_pos (by omega), if_pos (by omega), if_pos (by omega)]
      have q := more_f (more 0#32 (l.take i)) ((l.take (i + n)).drop i) (by rw [List.length_drop, List.length_take]; omega) m (by rw [List.length_drop, List.length_take]; omega)
      have ec : crc (l.take i) = ((more 0#32 (l.take i)).toNat : Int) := rfl
      rw [Int.toNat_natCast, Int.toNat_natCast, ec, q]
      simp only [Option.bind_some]
      rw [more_append, take_more l i (i + n) (by omega)]
      exact ih m (i + n) hin (by omega) (by omega)
    by_cases hs : (l.length : Int) - (i : Int) > a
    · rw [if_pos hs]
      obtain ⟨n, rfl⟩ : ∃ n : Nat, a = (n : Int) := ⟨a.toNat, by omega⟩
      exact go n (by omega) (by omega) _ (by unfold wrap64; omega)
    · rw [if_neg hs]
      exact go (l.length - i) (by omega) (by omega) _ (by unfold wrap64; omega)

theorem CrcPieces : bollardlaw2_CrcPieces.Pure := by
  intro l0 a1 _ h0 _ _
  refine ⟨20 * l0.length + 1000, ?_⟩
  obtain ⟨K, hK⟩ : ∃ K, K = 20 * l0.length + 999 := ⟨_, rfl⟩
  rw [show 20 * l0.length + 1000 = K + 1 from by omega]
  unfold bollardlaw2_CrcPieces.f
  have e1 : bollardlaw2_CrcPieces.j0 (K + 1) l0 a1 true = some true := by
    simp only [bollardlaw2_CrcPieces.j0]
    rw [if_pos (by trivial), awake_f K (by omega)]
    rfl
  by_cases c : (l0.length : Int) > 3000
  · rw [if_pos c]
    exact e1
  rw [if_neg c]
  by_cases c2 : a1 < 1
  · rw [decide_eq_true c2]
    exact e1
  rw [decide_eq_false c2]
  simp only [bollardlaw2_CrcPieces.j0]
  rw [if_neg (by simp), sum_f [] (by simp) K (by simp; omega)]
  simp only [Option.bind_some]
  exact pieces_l0 l0 (by omega) a1 (by omega) l0.length K 0 (by omega) (by omega) (by omega)

end Go.Proofs.Ytnfoknnbolgfjaa.Pure
