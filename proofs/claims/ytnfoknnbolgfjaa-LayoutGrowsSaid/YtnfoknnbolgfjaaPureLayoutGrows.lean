/- A greater device has no fewer data blocks, and more inodes leave no more: of any numbers. No condition. -/
import Derived.Test.YtnfoknnbolgfjaaPLayx3
import Derived.Test.YtnfoknnbolgfjaaLayMake
namespace Go.Proofs.Ytnfoknnbolgfjaa.Pure
open Go Go.RowKit Go.Proofs.Ytnfoknnbolgfjaa.PLay Go.Proofs.YtnfoknnbolgfjaaW.PrintWords Go.Proofs.YtnfoknnbolgfjaaW.PrintLast Go.Proofs.YtnfoknnbolgfjaaW.PrintMore Go.Proofs.Ytnfoknnbolgfjaa.Lay
set_option linter.unusedVariables false
set_option linter.unusedSimpArgs false

/-- What matters of a plan: its data blocks, and why there is none. -/
theorem make_cases (n i : Int) : ∃ a b c d e f r o, layout_Make.f n i = some (a, b, c, d, e, f, r, o) ∧ ((o = 0 ∧ Fits n i ∧ 1 ≤ room n i ∧ r = room n i) ∨ (o ≠ 0 ∧ (¬ Fits n i ∨ room n i < 1))) := by
  rcases Classical.em (Fits n i) with h | h
  · rcases Int.lt_or_le (room n i) 1 with g | g
    · exact ⟨_, _, _, _, _, _, _, _, make_full h g, Or.inr ⟨by omega, Or.inr g⟩⟩
    · exact ⟨_, _, _, _, _, _, _, _, make_good h g, Or.inl ⟨rfl, h, g, rfl⟩⟩
  · exact ⟨_, _, _, _, _, _, _, _, make_bad h, Or.inr ⟨by omega, Or.inl h⟩⟩

theorem LayoutGrows : bollardlaw6_LayoutGrows.Pure := by
  intro n i more hn hi hm
  refine ⟨1, ?_⟩
  have et : bollardlaw6_LayoutGrows.j0 1 n i more true = some true := by
    simp only [bollardlaw6_LayoutGrows.j0]
    rw [if_pos (by trivial), awake_f]
    rfl
  unfold bollardlaw6_LayoutGrows.f
  by_cases c1 : more < 0
  · rw [if_pos c1]; exact et
  rw [if_neg c1]
  by_cases c2 : more > 70000
  · rw [if_pos c2]; exact et
  rw [if_neg c2]
  by_cases c3 : n < 0
  · rw [if_pos c3]; exact et
  rw [if_neg c3]
  by_cases c4 : n > 70000
  · rw [if_pos c4]; exact et
  rw [if_neg c4]
  by_cases c5 : i < 1
  · rw [if_pos c5]; exact et
  rw [if_neg c5]
  by_cases c6 : i > 5000
  · rw [decide_eq_true c6]; exact et
  rw [decide_eq_false c6]
  have hm0 : Int.tmod more 200 = more % 200 := Int.tmod_eq_emod_of_nonneg (by omega)
  simp only [bollardlaw6_LayoutGrows.j0]
  rw [if_neg (by simp), hm0, w64 (x := n + more) (by omega) (by omega), w64 (x := i + more % 200) (by omega) (by omega), awake_f]
  have m1 := room_mono (rest_n (n := n) (i := i) (more := more) (by omega))
  have m2 := room_mono (rest_i (n := n) (i := i) (more := more % 200) (by omega))
  obtain ⟨a1, a2, a3, a4, a5, a6, p, po, hp, cp⟩ := make_cases n i
  obtain ⟨b1, b2, b3, b4, b5, b6, q, qo, hq, cq⟩ := make_cases (n + more) i
  obtain ⟨d1, d2, d3, d4, d5, d6, r, ro, hr, cr⟩ := make_cases n (i + more % 200)
  rw [hp, hq, hr]
  simp only [Option.bind_some]
  rcases cp with ⟨e1, e2, e3, e4⟩ | ⟨e1, e2⟩
  · rw [if_pos e1]
    rcases cq with ⟨f1, f2, f3, f4⟩ | ⟨f1, f2⟩
    · rw [if_pos f1, if_neg (by omega)]
      rcases cr with ⟨g1, g2, g3, g4⟩ | ⟨g1, g2⟩
      · rw [if_pos g1, if_neg (by omega)]
      · rw [if_neg g1]
    · rw [if_neg f1]
      have big : n + more > 65536 := by
        unfold Fits at e2 f2
        omega
      rcases cr with ⟨g1, g2, g3, g4⟩ | ⟨g1, g2⟩
      · rw [if_pos g1, if_neg (by omega), if_pos big]
      · rw [if_neg g1, if_pos big]
  · rw [if_neg e1]

end Go.Proofs.Ytnfoknnbolgfjaa.Pure
