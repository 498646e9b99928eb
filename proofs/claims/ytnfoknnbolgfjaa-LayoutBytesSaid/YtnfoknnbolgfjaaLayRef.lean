/- The document's plan, as printed, is the program's closed form. -/
import Derived.Test.YtnfoknnbolgfjaaPLbx3
import Derived.Test.YtnfoknnbolgfjaaLayMake
namespace Go.Proofs.Ytnfoknnbolgfjaa.Lay
open Go Go.RowKit Go.Proofs.Ytnfoknnbolgfjaa.PLb Go.Proofs.YtnfoknnbolgfjaaW.PrintWords Go.Proofs.YtnfoknnbolgfjaaW.PrintLast Go.Proofs.YtnfoknnbolgfjaaW.PrintMore
set_option linter.unusedVariables false
set_option linter.unusedSimpArgs false

theorem rmake_l0 (n i : Int) (h : Fits n i) (d : Nat) : ∀ (k : Nat) (b : Int), 1 ≤ b → b + d = mkBlocks (mkRest n i) → d + 1 ≤ k →
    bollardref6_Make.l0 k n ((i + 7) / 8) b n i 246 (246 + (i + 4095) / 4096) 0 0 0 = layout_Make.f n i := by
  unfold Fits at h
  have hb1 := mkBlocks_ge (mkRest n i)
  have hb2 := mkBlocks_le (mkRest n i) (by unfold mkRest; omega)
  have hr : mkRest n i = n - 246 - (i + 4095) / 4096 - (i + 7) / 8 := rfl
  induction d with
  | zero =>
    intro k b h1 hb hk
    obtain ⟨K, rfl⟩ : ∃ K, k = K + 1 := ⟨k - 1, by omega⟩
    simp only [bollardref6_Make.l0]
    have no := mkBlocks_no (r := mkRest n i)
    have hbb : b = mkBlocks (mkRest n i) := by omega
    rw [w64 (x := 4096 * b) (by omega) (by omega), w64 (x := n - (246 + (i + 4095) / 4096)) (by omega) (by omega), w64 (x := n - (246 + (i + 4095) / 4096) - b) (by omega) (by omega), w64 (x := n - (246 + (i + 4095) / 4096) - b - (i + 7) / 8) (by omega) (by omega),
      w64 (x := 246 + (i + 4095) / 4096 + b) (by omega) (by omega), w64 (x := 246 + (i + 4095) / 4096 + b + (i + 7) / 8) (by omega) (by omega), w64 (x := n - (246 + (i + 4095) / 4096 + b + (i + 7) / 8)) (by omega) (by omega)]
    rw [← hbb] at no
    rw [if_neg (by omega)]
    have e : n - (246 + (i + 4095) / 4096 + b + (i + 7) / 8) = room n i := by unfold room; omega
    rw [e]
    by_cases c : room n i < 1
    · rw [if_pos c, make_full h c]
    · rw [if_neg c, make_good h (by omega), hbb]
  | succ d ih =>
    intro k b h1 hb hk
    obtain ⟨K, rfl⟩ : ∃ K, k = K + 1 := ⟨k - 1, by omega⟩
    simp only [bollardref6_Make.l0]
    have yes := mkBlocks_yes (r := mkRest n i) h1 (by omega)
    rw [w64 (x := 4096 * b) (by omega) (by omega), w64 (x := n - (246 + (i + 4095) / 4096)) (by omega) (by omega), w64 (x := n - (246 + (i + 4095) / 4096) - b) (by omega) (by omega), w64 (x := n - (246 + (i + 4095) / 4096) - b - (i + 7) / 8) (by omega) (by omega), w64 (x := b + 1) (by omega) (by omega)]
    rw [if_pos (by omega)]
    exact ih K (b + 1) (by omega) (by omega) (by omega)

theorem rmake_f (n i : Int) (k : Nat) (hk : 40 ≤ k) : bollardref6_Make.f k n i = layout_Make.f n i := by
  obtain ⟨K, rfl⟩ : ∃ K, k = K + 1 := ⟨k - 1, by omega⟩
  have bad : ¬ Fits n i → bollardref6_Make.j0 (K + 1) n i true = layout_Make.f n i := by
    intro h
    simp only [bollardref6_Make.j0]
    rw [if_pos (by trivial), make_bad h]
  unfold bollardref6_Make.f
  by_cases c1 : n < 1
  · rw [if_pos c1]; exact bad (by unfold Fits; omega)
  rw [if_neg c1]
  by_cases c2 : n > 65536
  · rw [if_pos c2]; exact bad (by unfold Fits; omega)
  rw [if_neg c2]
  by_cases c3 : i < 1
  · rw [if_pos c3]; exact bad (by unfold Fits; omega)
  rw [if_neg c3]
  by_cases c4 : i > 4096
  · rw [decide_eq_true c4]; exact bad (by unfold Fits; omega)
  rw [decide_eq_false c4]
  simp only [bollardref6_Make.j0]
  rw [if_neg (by simp)]
  have e1 : wrap64 (Int.tdiv (wrap64 (i + 7)) 8) = (i + 7) / 8 := by
    rw [w64 (x := i + 7) (by omega) (by omega), Int.tdiv_eq_ediv_of_nonneg (by omega), w64 (by omega) (by omega)]
  have e2 : wrap64 (246 + wrap64 (Int.tdiv (wrap64 (i + 4095)) 4096)) = 246 + (i + 4095) / 4096 := by
    rw [w64 (x := i + 4095) (by omega) (by omega), Int.tdiv_eq_ediv_of_nonneg (by omega), w64 (x := (i + 4095) / 4096) (by omega) (by omega), w64 (by omega) (by omega)]
  rw [e1, e2]
  have hb1 := mkBlocks_ge (mkRest n i)
  have hb2 := mkBlocks_le (mkRest n i) (by unfold mkRest; omega)
  exact rmake_l0 n i (by unfold Fits; omega) (mkBlocks (mkRest n i) - 1).toNat K 1 (by omega) (by omega) (by omega)

end Go.Proofs.Ytnfoknnbolgfjaa.Lay
