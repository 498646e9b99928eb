import Derived.Test.YtdlkofmcioalfaaChA
import Derived.Test.YtdlkofmcioalfaaPCkx2
import Derived.Outline
import Derived.StillTailTactics
import Derived.RegionTactic
import Derived.BigRegion
import Derived.Lib.BufferWrite
namespace Go.Proofs.Ytdlkofmcioalfaa.PCk
open Go.RowKit Go.Proofs.YtdlkofmcioalfaaW.PrintWords Go.Proofs.YtdlkofmcioalfaaW.PrintLast Go.Proofs.YtdlkofmcioalfaaW.PrintMore
attribute [local go_sem] max2_int min2_int max_two min_two max_three min_three max_four min_four
set_option linter.unusedVariables false
set_option linter.unusedSimpArgs false

/-! ### small, plain: it answers -/
theorem le_up {α : Type} {f : Nat → Option α} (hm : ∀ k, LeO (f k) (f (k + 1))) {k : Nat} {r : α} (h : f k = some r) : ∀ n, f (k + n) = some r
  | 0 => h
  | n + 1 => hm _ _ (le_up hm h n)
theorem wr1 {i n : Nat} (h : i + (n + 1) ≤ 140737488355328) : wrap64 ((i : Int) + 1) = ((i + 1 : Nat) : Int) := by unfold wrap64; omega
theorem sml_rec (l : List SR) (hl : l.length ≤ 140737488355328) : ∃ k r, bollardalike_Small.f k l = some r := by
  have key : ∀ n i : Nat, i + n = l.length → ∀ x : Int, ∃ k r, bollardalike_Small.l0 k l x (i : Int) = some r := by
    intro n
    induction n with
    | zero =>
      intro i hi x
      refine ⟨1, ?_⟩
      rw [bollardalike_Small.l0, if_neg (by omega)]
      split <;> exact ⟨_, rfl⟩
    | succ n ih =>
      intro i hi x
      by_cases hx : x ≤ 20000
      · obtain ⟨k, r, h⟩ := ih (i + 1) (by omega) (wrap64 ((wrap64 (x + (((rd_T48 l (i : Int)).f1).size : Int))) + (((rd_T48 l (i : Int)).f3).size : Int)))
        refine ⟨k + 1, r, ?_⟩
        rw [bollardalike_Small.l0, if_pos (by omega), if_pos hx, if_pos (by omega), wr1 (n := n) (by omega)]
        exact h
      · refine ⟨1, false, ?_⟩
        rw [bollardalike_Small.l0, if_pos (by omega), if_neg hx]
  exact key l.length 0 (by omega) _
section
variable (x0 : List S35)
/-- Behind this step the loop over all steps answers. -/
def Nxt (x4 : Int) : Prop := ∀ x3 : Int, ∃ k r, bollardlaw24_small.l0 k x0 x3 (wrap64 (x4 + 1)) = some r
theorem sml_l2 (x4 x3 x6 : Int) (y0 : ByteArray) (y1 y2 y3 y4 : Int) (y5 : List SB) (z0 z1 z2 z3 : Int) (z4 : List SR) (hz : z4.length ≤ 140737488355328) (hn : ∃ k r, bollardlaw24_small.l1 k x0 x3 x4 (wrap64 (x6 + 1)) y0 y1 y2 y3 y4 y5 = some r) :
    ∀ n j : Nat, j + n = z4.length → ∃ k r, bollardlaw24_small.l2 k x0 x3 x4 x6 (j : Int) y0 y1 y2 y3 y4 y5 z0 z1 z2 z3 z4 = some r
  | 0, j, hj => by
    obtain ⟨k, r, h⟩ := hn
    refine ⟨k + 1, r, ?_⟩
    rw [bollardlaw24_small.l2, if_neg (by omega)]
    exact h
  | n + 1, j, hj => by
    obtain ⟨k, r, h⟩ := sml_l2 x4 x3 x6 y0 y1 y2 y3 y4 y5 z0 z1 z2 z3 z4 hz hn n (j + 1) (by omega)
    by_cases h1 : ((rd_T48 z4 (j : Int)).f5) < 0
    · exact ⟨1, false, by rw [bollardlaw24_small.l2, if_pos (by omega), if_pos (by omega), if_pos h1]⟩
    by_cases h2 : ((rd_T48 z4 (j : Int)).f5) ≥ z1
    · exact ⟨1, false, by rw [bollardlaw24_small.l2, if_pos (by omega), if_pos (by omega), if_neg h1, if_pos h2]⟩
    exact ⟨k + 1, r, by rw [bollardlaw24_small.l2, if_pos (by omega), if_pos (by omega), if_neg h1, if_neg h2, wr1 (n := n) (by omega)]; exact h⟩
theorem sml_end (x3 x4 x6 : Int) (y0 : ByteArray) (y1 y2 y3 y4 : Int) (y5 : List SB) (hn : Nxt x0 x4) : ∃ k r, bollardlaw24_small.j2 k x0 x3 x4 x6 false y0 y1 y2 y3 y4 y5 = some r := by
  obtain ⟨k, r, h⟩ := hn x3
  by_cases h1 : y2 < 0
  · exact ⟨1, false, by rw [bollardlaw24_small.j2, if_neg (by decide), if_pos h1]⟩
  by_cases h2 : y2 > 1152921504606846976
  · exact ⟨1, false, by rw [bollardlaw24_small.j2, if_neg (by decide), if_neg h1, if_pos h2]⟩
  by_cases h3 : y3 < 0
  · exact ⟨1, false, by rw [bollardlaw24_small.j2, if_neg (by decide), if_neg h1, if_neg h2, if_pos h3]⟩
  by_cases h4 : y3 > 1152921504606846976
  · exact ⟨1, false, by rw [bollardlaw24_small.j2, if_neg (by decide), if_neg h1, if_neg h2, if_neg h3, if_pos h4]⟩
  by_cases h5 : y4 < 0
  · exact ⟨1, false, by rw [bollardlaw24_small.j2, if_neg (by decide), if_neg h1, if_neg h2, if_neg h3, if_neg h4, if_pos h5]⟩
  by_cases h6 : y4 > 1152921504606846976
  · exact ⟨1, false, by rw [bollardlaw24_small.j2, if_neg (by decide), if_neg h1, if_neg h2, if_neg h3, if_neg h4, if_neg h5, if_pos h6]⟩
  exact ⟨k + 1, r, by rw [bollardlaw24_small.j2, if_neg (by decide), if_neg h1, if_neg h2, if_neg h3, if_neg h4, if_neg h5, if_neg h6]; exact h⟩
theorem sml_l1 (x4 : Int) (y0 : ByteArray) (y1 y2 y3 y4 : Int) (y5 : List SB) (hy : y5.length ≤ 140737488355328) (hr : ∀ b ∈ y5, b.f4.length ≤ 140737488355328) (hn : Nxt x0 x4) :
    ∀ n j : Nat, j + n = y5.length → ∀ x3 : Int, ∃ k r, bollardlaw24_small.l1 k x0 x3 x4 (j : Int) y0 y1 y2 y3 y4 y5 = some r
  | 0, j, hj, x3 => by
    obtain ⟨k, r, h⟩ := sml_end x0 x3 x4 (j : Int) y0 y1 y2 y3 y4 y5 hn
    exact ⟨k + 1, r, by rw [bollardlaw24_small.l1, if_neg (by omega)]; exact h⟩
  | n + 1, j, hj, x3 => by
    by_cases hx : x3 ≤ 400
    case neg =>
      obtain ⟨k, r, h⟩ := sml_end x0 x3 x4 (j : Int) y0 y1 y2 y3 y4 y5 hn
      exact ⟨k + 1, r, by rw [bollardlaw24_small.l1, if_pos (by omega), decide_eq_false hx]; exact h⟩
    have hm := hr _ (get_mem (l := y5) (i := (j : Int)) z61 (by omega) (by omega))
    obtain ⟨b, hb⟩ : ∃ b, b = rd_T61 y5 (j : Int) := ⟨_, rfl⟩
    have hbl : b.f4.length ≤ 140737488355328 := by rw [hb]; exact hm
    have hnx : ∀ x3', ∃ k r, bollardlaw24_small.l1 k x0 x3' x4 (wrap64 ((j : Int) + 1)) y0 y1 y2 y3 y4 y5 = some r := fun x3' => by
      rw [wr1 (n := n) (by omega)]
      exact sml_l1 x4 y0 y1 y2 y3 y4 y5 hy hr hn n (j + 1) (by omega) x3'
    obtain ⟨k2, r2, h2⟩ := sml_l2 x0 x4 (wrap64 (x3 + (b.f4.length : Int))) (j : Int) y0 y1 y2 y3 y4 y5 b.f0 b.f1 b.f2 b.f3 b.f4 hbl (hnx _) b.f4.length 0 (by omega)
    obtain ⟨k1, t, h1⟩ := sml_rec b.f4 hbl
    have hj2 : ∀ q : Bool, (q = true → ∃ k r, bollardlaw24_small.j3 k x0 (wrap64 (x3 + (b.f4.length : Int))) x4 (j : Int) true y0 y1 y2 y3 y4 y5 b.f0 b.f1 b.f2 b.f3 b.f4 = some r) := fun q _ => ⟨1, false, by rw [bollardlaw24_small.j3, if_pos rfl]⟩
    by_cases c1 : b.f0 < 0
    · exact ⟨3, false, by rw [bollardlaw24_small.l1, if_pos (by omega), decide_eq_true hx, bollardlaw24_small.j2, if_pos rfl, if_pos (by omega), if_pos (by omega), ← hb, if_pos c1, bollardlaw24_small.j3, if_pos rfl]⟩
    by_cases c2 : b.f0 > 1125899906842624
    · exact ⟨3, false, by rw [bollardlaw24_small.l1, if_pos (by omega), decide_eq_true hx, bollardlaw24_small.j2, if_pos rfl, if_pos (by omega), if_pos (by omega), ← hb, if_neg c1, if_pos c2, bollardlaw24_small.j3, if_pos rfl]⟩
    by_cases c3 : b.f1 < 1
    · exact ⟨3, false, by rw [bollardlaw24_small.l1, if_pos (by omega), decide_eq_true hx, bollardlaw24_small.j2, if_pos rfl, if_pos (by omega), if_pos (by omega), ← hb, if_neg c1, if_neg c2, if_pos c3, bollardlaw24_small.j3, if_pos rfl]⟩
    by_cases c4 : b.f1 > 100
    · exact ⟨3, false, by rw [bollardlaw24_small.l1, if_pos (by omega), decide_eq_true hx, bollardlaw24_small.j2, if_pos rfl, if_pos (by omega), if_pos (by omega), ← hb, if_neg c1, if_neg c2, if_neg c3, if_pos c4, bollardlaw24_small.j3, if_pos rfl]⟩
    have e1 := le_up (f := fun k => bollardalike_Small.f k b.f4) (bollardalike_Small.mono b.f4) h1 (k2 + 1)
    have e2 := le_up (f := fun k => bollardlaw24_small.l2 k x0 (wrap64 (x3 + (b.f4.length : Int))) x4 (j : Int) 0 y0 y1 y2 y3 y4 y5 b.f0 b.f1 b.f2 b.f3 b.f4) (fun k => (bollardlaw24_small.mono_l k).2.2.2.2 _ _ _ _ _ _ _ _ _ _ _ _ _ _ _ _) h2 k1
    cases t with
    | false => exact ⟨k1 + (k2 + 1) + 2, false, by rw [bollardlaw24_small.l1, if_pos (by omega), decide_eq_true hx, bollardlaw24_small.j2, if_pos rfl, if_pos (by omega), if_pos (by omega), ← hb, if_neg c1, if_neg c2, if_neg c3, if_neg c4, e1, Option.bind_some, show k1 + (k2 + 1) = (k2 + k1) + 1 from by omega, bollardlaw24_small.j3, if_pos (show (!false) = true from rfl)]⟩
    | true => exact ⟨k1 + (k2 + 1) + 2, r2, by rw [bollardlaw24_small.l1, if_pos (by omega), decide_eq_true hx, bollardlaw24_small.j2, if_pos rfl, if_pos (by omega), if_pos (by omega), ← hb, if_neg c1, if_neg c2, if_neg c3, if_neg c4, e1, Option.bind_some, show k1 + (k2 + 1) = (k2 + k1) + 1 from by omega, bollardlaw24_small.j3, if_neg (show ¬ (!true) = true from by decide)]; exact e2⟩
theorem sml_l0 (h0 : x0.length ≤ 140737488355328) (hs : ∀ s ∈ x0, s.f5.length ≤ 140737488355328 ∧ ∀ b ∈ s.f5, b.f4.length ≤ 140737488355328) : ∀ n i : Nat, i + n = x0.length → ∀ x3 : Int, ∃ k r, bollardlaw24_small.l0 k x0 x3 (i : Int) = some r
  | 0, i, hi, x3 => ⟨1, _, by rw [bollardlaw24_small.l0, if_neg (by omega)]⟩
  | n + 1, i, hi, x3 => by
    have hm := hs _ (get_mem (l := x0) (i := (i : Int)) z35 (by omega) (by omega))
    have hn : Nxt x0 (i : Int) := fun x => by
      rw [wr1 (n := n) (by omega)]
      exact sml_l0 h0 hs n (i + 1) (by omega) x
    obtain ⟨k, r, h⟩ := sml_l1 x0 (i : Int) (rd_T35 x0 (i : Int)).f0 (rd_T35 x0 (i : Int)).f1 (rd_T35 x0 (i : Int)).f2 (rd_T35 x0 (i : Int)).f3 (rd_T35 x0 (i : Int)).f4 (rd_T35 x0 (i : Int)).f5 hm.1 hm.2 hn (rd_T35 x0 (i : Int)).f5.length 0 (by omega) (wrap64 ((wrap64 ((wrap64 (x3 + (((rd_T35 x0 (i : Int)).f5).length : Int))) + (wrap64 ((((rd_T35 x0 (i : Int)).f0).size : Int) / 8)))) + 1))
    exact ⟨k + 1, r, by rw [bollardlaw24_small.l0, if_pos (by omega), if_pos (by omega)]; exact h⟩
end
theorem small_some (l : List S35) (h0 : l.length ≤ 140737488355328) (hs : ∀ s ∈ l, s.f5.length ≤ 140737488355328 ∧ ∀ b ∈ s.f5, b.f4.length ≤ 140737488355328) : ∃ k r, bollardlaw24_small.f k l = some r := sml_l0 l h0 hs l.length 0 (by omega) 0

end Go.Proofs.Ytdlkofmcioalfaa.PCk
