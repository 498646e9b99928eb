import Derived.Test.YtdlkofmcioalfaaQPCkx5
import Derived.Test.YtdlkofmcioalfaaQPCkx2
import Derived.Outline
import Derived.StillTailTactics
import Derived.RegionTactic
import Derived.BigRegion
import Derived.Lib.BufferWrite
import Derived.Test.YtdlkofmcioalfaaQPCkx1
import Derived.Test.YtdlkofmcioalfaaQChRQ
import Derived.Test.YtdlkofmcioalfaaQPCkx3
namespace Go.Proofs.Ytdlkofmcioalfaa.PCk
open Go.RowKit Go.Proofs.YtdlkofmcioalfaaW.PrintWords Go.Proofs.YtdlkofmcioalfaaW.PrintLast Go.Proofs.YtdlkofmcioalfaaW.PrintMore
attribute [local go_sem] max2_int min2_int max_two min_two max_three min_three max_four min_four
set_option linter.unusedVariables false
set_option linter.unusedSimpArgs false

/-! ### small, plain: it answers -/
theorem le_up {α : Type} {f : Nat → Option α} (hm : ∀ k, LeO (f k) (f (k + 1))) {k : Nat} {r : α} (h : f k = some r) : ∀ n, f (k + n) = some r
  | 0 => h
  | n + 1 => hm _ _ (le_up hm h n)
theorem wr1 {i n : Nat} (h : i + (n + 1) ≤ 140737488355328) : wrap64 ((i : Int) + 1) = ((i + 1 : Nat) : Int) := by unfold wrap64; omega
theorem sml_rec (l : List SR) (hl : l.length ≤ 140737488355328) : ∃ k r, bollardalike_Small.f k l = some r := by
  have key : ∀ n i : Nat, i + n = l.length → ∀ x : Int, ∃ k r, bollardalike_Small.l0 k l x (i : Int) = some r := by
    intro n
    induction n with
    | zero =>
      intro i hi x
      refine ⟨1, ?_⟩
      rw [bollardalike_Small.l0, if_neg (by omega)]
      split <;> exact ⟨_, rfl⟩
    | succ n ih =>
      intro i hi x
      by_cases hx : x ≤ 20000
      · obtain ⟨k, r, h⟩ := ih (i + 1) (by omega) (wrap64 ((wrap64 (x + (((rd_T48 l (i : Int)).f1).size : Int))) + (((rd_T48 l (i : Int)).f3).size : Int)))
        refine ⟨k + 1, r, ?_⟩
        rw [bollardalike_Small.l0, if_pos (by omega), if_pos hx, if_pos (by omega), wr1 (n := n) (by omega)]
        exact h
      · refine ⟨1, false, ?_⟩
        rw [bollardalike_Small.l0, if_pos (by omega), if_neg hx]
  exact key l.length 0 (by omega) _
section
variable (x0 : List S35)
/-- Behind this step the loop over all steps answers. -/
def Nxt (x4 : Int) : Prop := ∀ x3 : Int, ∃ k r, bollardlaw24_small.l0 k x0 x3 (wrap64 (x4 + 1)) = some r
theorem sml_l2 (x4 x3 x6 : Int) (y0 : ByteArray) (y1 y2 y3 y4 : Int) (y5 : List SB) (z0 z1 z2 z3 : Int) (z4 : List SR) (hz : z4.length ≤ 140737488355328) (hn : ∃ k r, bollardlaw24_small.l1 k x0 x3 x4 (wrap64 (x6 + 1)) y0 y1 y2 y3 y4 y5 = some r) :
    ∀ n j : Nat, j + n = z4.length → ∃ k r, bollardlaw24_small.l2 k x0 x3 x4 x6 (j : Int) y0 y1 y2 y3 y4 y5 z0 z1 z2 z3 z4 = some r
  | 0, j, hj => by
    obtain ⟨k, r, h⟩ := hn
    refine ⟨k + 1, r, ?_⟩
    rw [bollardlaw24_small.l2, if_neg (by omega)]
    exact h
  | n + 1, j, hj => by
    obtain ⟨k, r, h⟩ := sml_l2 x4 x3 x6 y0 y1 y2 y3 y4 y5 z0 z1 z2 z3 z4 hz hn n (j + 1) (by omega)
    by_cases h1 : ((rd_T48 z4 (j : Int)).f5) < 0
    · exact ⟨1, false, by rw [bollardlaw24_small.l2, if_pos (by omega), if_pos (by omega), if_pos h1]⟩
    by_cases h2 : ((rd_T48 z4 (j : Int)).f5) ≥ z1
    · exact ⟨1, false, by rw [bollardlaw24_small.l2, if_pos (by omega), if_pos (by omega), if_neg h1, if_pos h2]⟩
    exact ⟨k + 1, r, by rw [bollardlaw24_small.l2, if_pos (by omega), if_pos (by omega), if_neg h1, if_neg h2, wr1 (n := n) (by omega)]; exact h⟩
theorem sml_end (x3 x4 x6 : Int) (y0 : ByteArray) (y1 y2 y3 y4 : Int) (y5 : List SB) (hn : Nxt x0 x4) : ∃ k r, bollardlaw24_small.j2 k x0 x3 x4 x6 false y0 y1 y2 y3 y4 y5 = some r := by
  obtain ⟨k, r, h⟩ := hn x3
  by_cases h1 : y2 < 0
  · exact ⟨1, false, by rw [bollardlaw24_small.j2, if_neg (by decide), if_pos h1]⟩
  by_cases h2 : y2 > 1152921504606846976
  · exact ⟨1, false, by rw [bollardlaw24_small.j2, if_neg (by decide), if_neg h1, if_pos h2]⟩
  by_cases h3 : y3 < 0
  · exact ⟨1, false, by rw [bollardlaw24_small.j2, if_neg (by decide), if_neg h1, if_neg h2, if_pos h3]⟩
  by_cases h4 : y3 > 1152921504606846976
  · exact ⟨1, false, by rw [bollardlaw24_small.j2, if_neg (by decide), if_neg h1, if_neg h2, if_neg h3, if_pos h4]⟩
  by_cases h5 : y4 < 0
  · exact ⟨1, false, by rw [bollardlaw24_small.j2, if_neg (by decide), if_neg h1, if_neg h2, if_neg h3, if_neg h4, if_pos h5]⟩
  by_cases h6 : y4 > 1152921504606846976
  · exact ⟨1, false, by rw [bollardlaw24_small.j2, if_neg (by decide), if_neg h1, if_neg h2, if_neg h3, if_neg h4, if_neg h5, if_pos h6]⟩
  exact ⟨k + 1, r, by rw [bollardlaw24_small.j2, if_neg (by decide), if_neg h1, if_neg h2, if_neg h3, if_neg h4, if_neg h5, if_neg h6]; exact h⟩
theorem sml_l1 (x4 : Int) (y0 : ByteArray) (y1 y2 y3 y4 : Int) (y5 : List SB) (hy : y5.length ≤ 140737488355328) (hr : ∀ b ∈ y5, b.f4.length ≤ 140737488355328) (hn : Nxt x0 x4) :
    ∀ n j : Nat, j + n = y5.length → ∀ x3 : Int, ∃ k r, bollardlaw24_small.l1 k x0 x3 x4 (j : Int) y0 y1 y2 y3 y4 y5 = some r
  | 0, j, hj, x3 => by
    obtain ⟨k, r, h⟩ := sml_end x0 x3 x4 (j : Int) y0 y1 y2 y3 y4 y5 hn
    exact ⟨k + 1, r, by rw [bollardlaw24_small.l1, if_neg (by omega)]; exact h⟩
  | n + 1, j, hj, x3 => by
    by_cases hx : x3 ≤ 400
    case neg =>
      obtain ⟨k, r, h⟩ := sml_end x0 x3 x4 (j : Int) y0 y1 y2 y3 y4 y5 hn
      exact ⟨k + 1, r, by rw [bollardlaw24_small.l1, if_pos (by omega), decide_eq_false hx]; exact h⟩
    have hm := hr _ (get_mem (l := y5) (i := (j : Int)) z61 (by omega) (by omega))
    obtain ⟨b, hb⟩ : ∃ b, b = rd_T61 y5 (j : Int) := ⟨_, rfl⟩
    have hbl : b.f4.length ≤ 140737488355328 := by rw [hb]; exact hm
    have hnx : ∀ x3', ∃ k r, bollardlaw24_small.l1 k x0 x3' x4 (wrap64 ((j : Int) + 1)) y0 y1 y2 y3 y4 y5 = some r := fun x3' => by
      rw [wr1 (n := n) (by omega)]
      exact sml_l1 x4 y0 y1 y2 y3 y4 y5 hy hr hn n (j + 1) (by omega) x3'
    obtain ⟨k2, r2, h2⟩ := sml_l2 x0 x4 (wrap64 (x3 + (b.f4.length : Int))) (j : Int) y0 y1 y2 y3 y4 y5 b.f0 b.f1 b.f2 b.f3 b.f4 hbl (hnx _) b.f4.length 0 (by omega)
    obtain ⟨k1, t, h1⟩ := sml_rec b.f4 hbl
    have hj2 : ∀ q : Bool, (q = true → ∃ k r, bollardlaw24_small.j3 k x0 (wrap64 (x3 + (b.f4.length : Int))) x4 (j : Int) true y0 y1 y2 y3 y4 y5 b.f0 b.f1 b.f2 b.f3 b.f4 = some r) := fun q _ => ⟨1, false, by rw [bollardlaw24_small.j3, if_pos rfl]⟩
    by_cases c1 : b.f0 < 0
    · exact ⟨3, false, by rw [bollardlaw24_small.l1, if_pos (by omega), decide_eq_true hx, bollardlaw24_small.j2, if_pos rfl, if_pos (by omega), if_pos (by omega), ← hb, if_pos c1, bollardlaw24_small.j3, if_pos rfl]⟩
    by_cases c2 : b.f0 > 1125899906842624
    · exact ⟨3, false, by rw [bollardlaw24_small.l1, if_pos (by omega), decide_eq_true hx, bollardlaw24_small.j2, if_pos rfl, if_pos (by omega), if_pos (by omega), ← hb, if_neg c1, if_pos c2, bollardlaw24_small.j3, if_pos rfl]⟩
    by_cases c3 : b.f1 < 1
    · exact ⟨3, false, by rw [bollardlaw24_small.l1, if_pos (by omega), decide_eq_true hx, bollardlaw24_small.j2, if_pos rfl, if_pos (by omega), if_pos (by omega), ← hb, if_neg c1, if_neg c2, if_pos c3, bollardlaw24_small.j3, if_pos rfl]⟩
    by_cases c4 : b.f1 > 100
    · exact ⟨3, false, by rw [bollardlaw24_small.l1, if_pos (by omega), decide_eq_true hx, bollardlaw24_small.j2, if_pos rfl, if_pos (by omega), if_pos (by omega), ← hb, if_neg c1, if_neg c2, if_neg c3, if_pos c4, bollardlaw24_small.j3, if_pos rfl]⟩
    have e1 := le_up (f := fun k => bollardalike_Small.f k b.f4) (bollardalike_Small.mono b.f4) h1 (k2 + 1)
    have e2 := le_up (f := fun k => bollardlaw24_small.l2 k x0 (wrap64 (x3 + (b.f4.length : Int))) x4 (j : Int) 0 y0 y1 y2 y3 y4 y5 b.f0 b.f1 b.f2 b.f3 b.f4) (fun k => (bollardlaw24_small.mono_l k).2.2.2.2 _ _ _ _ _ _ _ _ _ _ _ _ _ _ _ _) h2 k1
    cases t with
    | false => exact ⟨k1 + (k2 + 1) + 2, false, by rw [bollardlaw24_small.l1, if_pos (by omega), decide_eq_true hx, bollardlaw24_small.j2, if_pos rfl, if_pos (by omega), if_pos (by omega), ← hb, if_neg c1, if_neg c2, if_neg c3, if_neg c4, e1, Option.bind_some, show k1 + (k2 + 1) = (k2 + k1) + 1 from by omega, bollardlaw24_small.j3, if_pos (show (!false) = true from rfl)]⟩
    | true => exact ⟨k1 + (k2 + 1) + 2, r2, by rw [bollardlaw24_small.l1, if_pos (by omega), decide_eq_true hx, bollardlaw24_small.j2, if_pos rfl, if_pos (by omega), if_pos (by omega), ← hb, if_neg c1, if_neg c2, if_neg c3, if_neg c4, e1, Option.bind_some, show k1 + (k2 + 1) = (k2 + k1) + 1 from by omega, bollardlaw24_small.j3, if_neg (show ¬ (!true) = true from by decide)]; exact e2⟩
theorem sml_l0 (h0 : x0.length ≤ 140737488355328) (hs : ∀ s ∈ x0, s.f5.length ≤ 140737488355328 ∧ ∀ b ∈ s.f5, b.f4.length ≤ 140737488355328) : ∀ n i : Nat, i + n = x0.length → ∀ x3 : Int, ∃ k r, bollardlaw24_small.l0 k x0 x3 (i : Int) = some r
  | 0, i, hi, x3 => ⟨1, _, by rw [bollardlaw24_small.l0, if_neg (by omega)]⟩
  | n + 1, i, hi, x3 => by
    have hm := hs _ (get_mem (l := x0) (i := (i : Int)) z35 (by omega) (by omega))
    have hn : Nxt x0 (i : Int) := fun x => by
      rw [wr1 (n := n) (by omega)]
      exact sml_l0 h0 hs n (i + 1) (by omega) x
    obtain ⟨k, r, h⟩ := sml_l1 x0 (i : Int) (rd_T35 x0 (i : Int)).f0 (rd_T35 x0 (i : Int)).f1 (rd_T35 x0 (i : Int)).f2 (rd_T35 x0 (i : Int)).f3 (rd_T35 x0 (i : Int)).f4 (rd_T35 x0 (i : Int)).f5 hm.1 hm.2 hn (rd_T35 x0 (i : Int)).f5.length 0 (by omega) (wrap64 ((wrap64 ((wrap64 (x3 + (((rd_T35 x0 (i : Int)).f5).length : Int))) + (wrap64 ((((rd_T35 x0 (i : Int)).f0).size : Int) / 8)))) + 1))
    exact ⟨k + 1, r, by rw [bollardlaw24_small.l0, if_pos (by omega), if_pos (by omega)]; exact h⟩
end
theorem small_some (l : List S35) (h0 : l.length ≤ 140737488355328) (hs : ∀ s ∈ l, s.f5.length ≤ 140737488355328 ∧ ∀ b ∈ s.f5, b.f4.length ≤ 140737488355328) : ∃ k r, bollardlaw24_small.f k l = some r := sml_l0 l h0 hs l.length 0 (by omega) 0

end Go.Proofs.Ytdlkofmcioalfaa.PCk

namespace Go.Proofs.Ytdlkofmcioalfaa.PCk
open Go.RowKit Go.Proofs.YtdlkofmcioalfaaW.PrintWords Go.Proofs.YtdlkofmcioalfaaW.PrintLast Go.Proofs.YtdlkofmcioalfaaW.PrintMore
attribute [local go_sem] max2_int min2_int max_two min_two max_three min_three max_four min_four
set_option linter.unusedVariables false
set_option linter.unusedSimpArgs false

/-! ### small, plain: what it says when it is true -/
theorem wrap_sm {x : Int} (h : 0 ≤ x ∧ x ≤ 2000000000) : wrap64 x = x := by unfold wrap64; omega
def GB (b : SB) : Prop := 0 ≤ b.f0 ∧ b.f0 ≤ 1125899906842624 ∧ 1 ≤ b.f1 ∧ b.f1 ≤ 100 ∧ ∀ r ∈ b.f4, 0 ≤ r.f5 ∧ r.f5 < b.f1
def GE (a b c : Int) : Prop := (0 ≤ a ∧ a ≤ 1152921504606846976) ∧ (0 ≤ b ∧ b ≤ 1152921504606846976) ∧ (0 ≤ c ∧ c ≤ 1152921504606846976)
def GSt (s : S35) : Prop := (∀ b ∈ s.f5, GB b) ∧ GE s.f2 s.f3 s.f4
def tot1 (s : S35) : Nat := s.f5.length + s.f0.size / 8 + 1 + recs s.f5
def tot (l : List (S35)) : Nat := (l.map tot1).sum
theorem tot_cons (s : S35) (l : List (S35)) : tot (s :: l) = tot1 s + tot l := by simp [tot]
section
variable (x0 : List (S35))
def TA (k : Nat) : Prop := ∀ (n i : Nat), bollardlaw24_small.l0 k x0 n i = some true → n + tot (x0.drop i) ≤ 1000000000 → i ≤ x0.length → x0.length ≤ 1000000000 → (∀ s ∈ x0.drop i, GSt s) ∧ n + tot (x0.drop i) ≤ 400
def Out (n i : Nat) (y2 y3 y4 : Int) (l : List SB) : Prop := (∀ b ∈ l, GB b) ∧ GE y2 y3 y4 ∧ (∀ s ∈ x0.drop (i + 1), GSt s) ∧ n + recs l + tot (x0.drop (i + 1)) ≤ 400
theorem ends_true {k n i : Nat} (ih : TA x0 k) (x6 : Int) (y0 : ByteArray) (y1 y2 y3 y4 : Int) (y5 : List SB) (h : bollardlaw24_small.j2 (k + 1) x0 n i x6 false y0 y1 y2 y3 y4 y5 = some true) (hn : n + tot (x0.drop (i + 1)) ≤ 1000000000) (hi : i < x0.length) (hx : x0.length ≤ 1000000000) : Out x0 n i y2 y3 y4 [] := by
  rw [bollardlaw24_small.j2, if_neg (by decide)] at h
  by_cases h1 : y2 < 0
  · rw [if_pos h1] at h; cases h
  by_cases h2 : y2 > 1152921504606846976
  · rw [if_neg h1, if_pos h2] at h; cases h
  by_cases h3 : y3 < 0
  · rw [if_neg h1, if_neg h2, if_pos h3] at h; cases h
  by_cases h4 : y3 > 1152921504606846976
  · rw [if_neg h1, if_neg h2, if_neg h3, if_pos h4] at h; cases h
  by_cases h5 : y4 < 0
  · rw [if_neg h1, if_neg h2, if_neg h3, if_neg h4, if_pos h5] at h; cases h
  by_cases h6 : y4 > 1152921504606846976
  · rw [if_neg h1, if_neg h2, if_neg h3, if_neg h4, if_neg h5, if_pos h6] at h; cases h
  rw [if_neg h1, if_neg h2, if_neg h3, if_neg h4, if_neg h5, if_neg h6, show wrap64 ((i : Int) + 1) = ((i + 1 : Nat) : Int) from by unfold wrap64; omega] at h
  have h7 := ih n (i + 1) h hn (by omega) hx
  exact ⟨by simp, ⟨⟨by omega, by omega⟩, ⟨by omega, by omega⟩, by omega, by omega⟩, h7.1, by have := h7.2; simpa [recs] using this⟩
def TB (k : Nat) : Prop := ∀ (n i j : Nat) (y0 : ByteArray) (y1 y2 y3 y4 : Int) (y5 : List SB), bollardlaw24_small.l1 k x0 n i j y0 y1 y2 y3 y4 y5 = some true → n + recs (y5.drop j) + tot (x0.drop (i + 1)) ≤ 1000000000 → j ≤ y5.length → y5.length ≤ 1000000000 → i < x0.length → x0.length ≤ 1000000000 → Out x0 n i y2 y3 y4 (y5.drop j)
def TC (k : Nat) : Prop := ∀ (n i j m : Nat) (y0 : ByteArray) (y1 y2 y3 y4 : Int) (y5 : List SB) (z0 z1 z2 z3 : Int) (z4 : List SR), bollardlaw24_small.l2 k x0 n i j m y0 y1 y2 y3 y4 y5 z0 z1 z2 z3 z4 = some true → n + recs (y5.drop (j + 1)) + tot (x0.drop (i + 1)) ≤ 1000000000 → m ≤ z4.length → z4.length ≤ 1000000000 → j < y5.length → y5.length ≤ 1000000000 → i < x0.length → x0.length ≤ 1000000000 → (∀ r ∈ z4.drop m, 0 ≤ r.f5 ∧ r.f5 < z1) ∧ Out x0 n i y2 y3 y4 (y5.drop (j + 1))
theorem step_c {k : Nat} (hB : TB x0 k) (hC : TC x0 k) : TC x0 (k + 1) := by
  intro n i j m y0 y1 y2 y3 y4 y5 z0 z1 z2 z3 z4 h hn hm hz hj hy hi hx
  rw [bollardlaw24_small.l2] at h
  by_cases c1 : (m : Int) < (z4.length : Int)
  · rw [if_pos c1, if_pos (by omega)] at h
    have hd : z4.drop m = rd_T48 z4 (m : Int) :: z4.drop (m + 1) := by
      have hd2 := drop_get (l := z4) (i := (m : Int)) z48 (by omega) (by omega)
      rw [show ((m : Int)).toNat = m from by omega, show ((m : Int) + 1).toNat = m + 1 from by omega] at hd2
      exact hd2
    by_cases c2 : (rd_T48 z4 (m : Int)).f5 < 0
    · rw [if_pos c2] at h; cases h
    by_cases c3 : (rd_T48 z4 (m : Int)).f5 ≥ z1
    · rw [if_neg c2, if_pos c3] at h; cases h
    rw [if_neg c2, if_neg c3, show wrap64 ((m : Int) + 1) = ((m + 1 : Nat) : Int) from by unfold wrap64; omega] at h
    have h1 := hC n i j (m + 1) y0 y1 y2 y3 y4 y5 z0 z1 z2 z3 z4 h hn (by omega) hz hj hy hi hx
    refine ⟨?_, h1.2⟩
    rw [hd]
    intro r hr
    rcases List.mem_cons.1 hr with rfl | hr
    · exact ⟨by omega, by omega⟩
    · exact h1.1 r hr
  · rw [if_neg c1, show wrap64 ((j : Int) + 1) = ((j + 1 : Nat) : Int) from by unfold wrap64; omega] at h
    refine ⟨?_, hB n i (j + 1) y0 y1 y2 y3 y4 y5 h hn (by omega) hy hi hx⟩
    rw [List.drop_of_length_le (by omega)]
    simp
theorem step_a {k : Nat} (hB : TB x0 k) : TA x0 (k + 1) := by
  intro n i h hn hi hx
  rw [bollardlaw24_small.l0] at h
  by_cases c1 : (i : Int) < (x0.length : Int)
  · rw [if_pos c1, if_pos (by omega)] at h
    have hd : x0.drop i = rd_T35 x0 (i : Int) :: x0.drop (i + 1) := by
      have hd2 := drop_get (l := x0) (i := (i : Int)) z35 (by omega) (by omega)
      rw [show ((i : Int)).toNat = i from by omega, show ((i : Int) + 1).toNat = i + 1 from by omega] at hd2
      exact hd2
    rw [hd, tot_cons] at hn ⊢
    generalize rd_T35 x0 (i : Int) = s at h hn ⊢
    unfold tot1 at hn ⊢
    have e2 : (s.f0.size : Int) / 8 = ((s.f0.size / 8 : Nat) : Int) := by simp
    rw [e2] at h
    generalize s.f0.size / 8 = q at h hn ⊢
    have ew : wrap64 ((wrap64 ((wrap64 ((n : Int) + (s.f5.length : Int))) + (wrap64 (q : Int)))) + 1) = ((n + s.f5.length + q + 1 : Nat) : Int) := by
      rw [wrap_sm (x := (q : Int)) (by omega), wrap_sm (x := (n : Int) + (s.f5.length : Int)) (by omega), wrap_sm (x := (n : Int) + (s.f5.length : Int) + (q : Int)) (by omega), wrap_sm (by omega)]
      push_cast
      rfl
    rw [ew] at h
    have h1 := hB (n + s.f5.length + q + 1) i 0 _ _ _ _ _ _ h (by rw [List.drop_zero]; omega) (by omega) (by omega) (by omega) hx
    rw [List.drop_zero] at h1
    obtain ⟨g1, g2, g3, g4⟩ := h1
    refine ⟨fun t ht => ?_, by omega⟩
    rcases List.mem_cons.1 ht with rfl | ht
    · exact ⟨g1, g2⟩
    · exact g3 t ht
  · rw [if_neg c1] at h
    have h1 := of_decide_eq_true (Option.some.inj h)
    rw [List.drop_of_length_le (by omega)]
    exact ⟨by simp, by simp only [tot, List.map_nil, List.sum_nil]; omega⟩
theorem step_b {k : Nat} (hA : TA x0 k) (hA1 : TA x0 (k + 1)) (hC : TC x0 k) (hA2 : TA x0 (k - 1)) (hC2 : TC x0 (k - 1)) (hC3 : TC x0 (k - 2)) : TB x0 (k + 1) := by
  intro n i j y0 y1 y2 y3 y4 y5 h hn hj hy hi hx
  rw [bollardlaw24_small.l1] at h
  cases k with
  | zero => exfalso; split at h <;> (rw [bollardlaw24_small.j2] at h; cases h)
  | succ k =>
    rw [Nat.add_sub_cancel] at hA2 hC2
    by_cases c1 : (j : Int) < (y5.length : Int)
    · rw [if_pos c1] at h
      have hd : y5.drop j = rd_T61 y5 (j : Int) :: y5.drop (j + 1) := by
        have hd2 := drop_get (l := y5) (i := (j : Int)) z61 (by omega) (by omega)
        rw [show ((j : Int)).toNat = j from by omega, show ((j : Int) + 1).toNat = j + 1 from by omega] at hd2
        exact hd2
      by_cases c2 : (n : Int) ≤ 400
      · rw [decide_eq_true c2, bollardlaw24_small.j2, if_pos rfl, if_pos (by omega), if_pos c1] at h
        rw [hd, recs_cons] at hn
        rw [hd]
        generalize rd_T61 y5 (j : Int) = b at h hn ⊢
        rw [wrap_sm (x := (n : Int) + (b.f4.length : Int)) (by omega), show (n : Int) + (b.f4.length : Int) = ((n + b.f4.length : Nat) : Int) from by push_cast; rfl] at h
        have bad : ∀ k, bollardlaw24_small.j3 k x0 ((n + b.f4.length : Nat) : Int) i j true y0 y1 y2 y3 y4 y5 b.f0 b.f1 b.f2 b.f3 b.f4 ≠ some true := by
          intro k e
          cases k with
          | zero => rw [bollardlaw24_small.j3] at e; cases e
          | succ k => rw [bollardlaw24_small.j3, if_pos rfl] at e; cases e
        by_cases g1 : b.f0 < 0
        · rw [if_pos g1] at h; exact absurd h (bad _)
        by_cases g2 : b.f0 > 1125899906842624
        · rw [if_neg g1, if_pos g2] at h; exact absurd h (bad _)
        by_cases g3 : b.f1 < 1
        · rw [if_neg g1, if_neg g2, if_pos g3] at h; exact absurd h (bad _)
        by_cases g4 : b.f1 > 100
        · rw [if_neg g1, if_neg g2, if_neg g3, if_pos g4] at h; exact absurd h (bad _)
        rw [if_neg g1, if_neg g2, if_neg g3, if_neg g4] at h
        obtain ⟨sm, _, h⟩ := Option.bind_eq_some_iff.1 h
        cases sm with
        | false => exact absurd h (bad _)
        | true =>
          cases k with
          | zero => rw [bollardlaw24_small.j3] at h; cases h
          | succ k =>
            rw [bollardlaw24_small.j3, if_neg (by decide)] at h
            have h1 := hC3 (n + b.f4.length) i j 0 y0 y1 y2 y3 y4 y5 b.f0 b.f1 b.f2 b.f3 b.f4 h (by omega) (by omega) (by omega) (by omega) hy hi hx
            rw [List.drop_zero] at h1
            obtain ⟨r1, r2, r3, r4, r5⟩ := h1
            refine ⟨fun x hx' => ?_, r3, r4, by rw [recs_cons]; omega⟩
            rcases List.mem_cons.1 hx' with rfl | hx'
            · exact ⟨by omega, by omega, by omega, by omega, r1⟩
            · exact r2 x hx'
      · rw [decide_eq_false c2] at h
        have h1 := ends_true x0 hA2 (j : Int) y0 y1 y2 y3 y4 y5 h (by omega) hi hx
        have := h1.2.2.2
        omega
    · rw [if_neg c1] at h
      rw [List.drop_of_length_le (show y5.length ≤ j from by omega)] at hn ⊢
      exact ends_true x0 hA2 (j : Int) y0 y1 y2 y3 y4 y5 h (by omega) hi hx
theorem sm_all (k : Nat) : TA x0 k ∧ TB x0 k ∧ TC x0 k := by
  induction k using Nat.strongRecOn with
  | _ k ih =>
    cases k with
    | zero =>
      refine ⟨fun n i h => ?_, fun n i j y0 y1 y2 y3 y4 y5 h => ?_, fun n i j m y0 y1 y2 y3 y4 y5 z0 z1 z2 z3 z4 h => ?_⟩
      · rw [bollardlaw24_small.l0] at h; cases h
      · rw [bollardlaw24_small.l1] at h; cases h
      · rw [bollardlaw24_small.l2] at h; cases h
    | succ k =>
      have h1 := ih k (by omega)
      have ha : TA x0 (k + 1) := step_a x0 h1.2.1
      exact ⟨ha, step_b x0 h1.1 ha h1.2.2 (ih (k - 1) (by omega)).1 (ih (k - 1) (by omega)).2.2 (ih (k - 2) (by omega)).2.2, step_c x0 h1.2.1 h1.2.2⟩
/-- small is true: all stands in its bounds, and there are few. -/
theorem small_true {k : Nat} (h : bollardlaw24_small.f k x0 = some true) (ht : tot x0 ≤ 1000000000) (hx : x0.length ≤ 1000000000) : (∀ s ∈ x0, GSt s) ∧ tot x0 ≤ 400 := by
  have h1 := (sm_all x0 k).1 0 0 h (by rw [List.drop_zero]; omega) (by omega) hx
  rw [List.drop_zero] at h1
  exact ⟨h1.1, by omega⟩
end

end Go.Proofs.Ytdlkofmcioalfaa.PCk

namespace Go.Proofs.Ytdlkofmcioalfaa.PCk
open Go.RowKit Go.Proofs.YtdlkofmcioalfaaW.PrintWords Go.Proofs.YtdlkofmcioalfaaW.PrintLast Go.Proofs.YtdlkofmcioalfaaW.PrintMore
attribute [local go_sem] max2_int min2_int max_two min_two max_three min_three max_four min_four
set_option linter.unusedVariables false
set_option linter.unusedSimpArgs false

/-! ### both side by side: each stands where the other writes -/
theorem MapV.keep {P : Program} {kt : TypeId} {w w1 : World} {b base m : Nat} {F : Value → Option Value} {cs : Array Value} (h : MapV P kt w b F) (hk : Keep base m w w1) (hm : w.heap[m]? = some (.cells cs 32 (0, 0))) : MapV P kt w1 b F := by
  have h0 := h
  obtain ⟨es, c, h1, h2⟩ := h
  refine h0.move ((hk.keep b _ h1 (fun e => ?_) (fun hr => ?_)).trans h1.symm)
  · subst e; rw [hm] at h1; cases h1
  · obtain ⟨_, cells, t, e, _⟩ := hr; cases e
theorem MapO.keep {P : Program} {kt : TypeId} {w w1 : World} {o : Option Nat} {base m : Nat} {F : Value → Option Value} {cs : Array Value} (h : MapO P kt w o F) (hk : Keep base m w w1) (hm : w.heap[m]? = some (.cells cs 32 (0, 0))) : MapO P kt w1 o F := by
  cases o with
  | none => exact h
  | some b => exact MapV.keep h hk hm
/-- The program's Log stands behind the document's Saw. -/
theorem LogP.keep {w w1 : World} {g base m : Nat} {E R S : Value → Option Value} {cs : Array Value} (h : LogP w g E R S) (hk : Keep base m w w1) (hm : w.heap[m]? = some (.cells cs 32 (0, 0))) : LogP w1 g E R S := by
  obtain ⟨oE, oR, oS, h1, h2, h3, h4, h5⟩ := h
  refine ⟨oE, oR, oS, hk.keep g _ h1 (fun e => ?_) (fun hr => ?_), h2.keep hk hm, h3.keep hk hm, h4.keep hk hm, h5⟩
  · subst e; rw [hm] at h1; injection h1 with h1; injection h1 with _ h1 _; exact absurd h1 (by decide)
  · obtain ⟨_, cells, t, e, ht⟩ := hr
    injection e with _ e _
    subst e
    rcases ht with ht | ht | ht <;> exact absurd ht (by decide)
theorem ORow.log {α : Type} {enc : α → List Value} {w w1 : World} {base e sz g : Nat} {v : Value} {xs : List α} {cs : Array Value} (h : ORow enc w base e sz v xs) (hg : w.heap[g]? = some (.cells cs 59 (0, 0))) (hne : e ≠ 59) (hgr : w.grownBy w1 (some g)) : ORow enc w1 base e sz v xs :=
  h.move fun k hk => hgr.block k (own_lt h k hk) fun e2 => by
    obtain ⟨_, c1, h3⟩ := h.typed k hk
    cases Option.some.inj e2
    rw [hg] at h3
    injection h3 with h3
    injection h3 with _ h5 _
    exact hne h5.symm
/-- The document's Check stands behind the program's Saw. -/
theorem ChkP.log {w w1 : World} {g base m : Nat} {F : List Fct} {T : List Snt} {P : List Spn} {cs : Array Value} (h : ChkP base w m F T P) (hg : w.heap[g]? = some (.cells cs 59 (0, 0))) (hgr : w.grownBy w1 (some g)) : ChkP base w1 m F T P := by
  obtain ⟨vF, vS, vP, h1, h2, h3, h4⟩ := h
  refine ⟨vF, vS, vP, (hgr.block m (blk_lt h1) fun e => ?_).trans h1, h2.log hg (by decide) hgr, h3.log hg (by decide) hgr, h4.log hg (by decide) hgr⟩
  cases Option.some.inj e
  rw [hg] at h1
  injection h1 with h1
  injection h1 with _ h1 _
  exact absurd h1 (by decide)
/-- What the premises of both need of a step. -/
theorem GB.bnd {b : SB} (h : GB b) : Bnd b := ⟨h.1, by have := h.2.1; omega, h.2.2.1, by have := h.2.2.2.1; omega, fun r hr => ⟨(h.2.2.2.2 r hr).1, by have := (h.2.2.2.2 r hr).2; have := h.2.2.2.1; omega⟩⟩
theorem fStep_grow {F F' : List Fct} {f : Fct} (h : fStep F f = some F') : F.length ≤ F'.length ∧ F'.length ≤ F.length + 1 := by
  unfold fStep at h
  split at h
  · cases h
  · split at h <;> cases h <;> simp
theorem refR_len (t : ByteArray) (p base : Int) : ∀ (l : List SR) (F F' : List Fct), refR t p base l F = some F' → F'.length ≤ F.length + l.length
  | [], F, F', h => by cases h; simp
  | r :: l, F, F', h => by
    rw [refR] at h
    obtain ⟨F1, h1, h2⟩ := Option.bind_eq_some_iff.1 h
    have := refR_len t p base l F1 F' h2
    have := (fStep_grow h1).2
    rw [List.length_cons]
    omega
theorem refB_len (t : ByteArray) (p : Int) : ∀ (l : List SB) (F F' : List Fct), refB t p l F = some F' → F'.length ≤ F.length + recs l
  | [], F, F', h => by cases h; simp
  | b :: l, F, F', h => by
    rw [refB] at h
    obtain ⟨F1, h1, h2⟩ := Option.bind_eq_some_iff.1 h
    have := refB_len t p l F1 F' h2
    have := refR_len t p b.f0 b.f4 F F1 h1
    rw [recs_cons]
    omega
theorem refS_len (t : ByteArray) (p : Int) : ∀ (l : List SB) (T T' : List Snt), refS t p l T = some T' → T'.length ≤ T.length + l.length
  | [], T, T', h => by cases h; simp
  | b :: l, T, T', h => by
    rw [refS] at h
    split at h
    · have := refS_len t p l T T' h
      rw [List.length_cons]
      omega
    · obtain ⟨T1, h1, h2⟩ := Option.bind_eq_some_iff.1 h
      have := refS_len t p l T1 T' h2
      have h3 : T1.length ≤ T.length + 1 := by
        unfold sStep at h1
        split at h1
        · cases h1
        · split at h1 <;> cases h1 <;> simp
      rw [List.length_cons]
      omega
theorem refF_len (t : ByteArray) (p st nx fr : Int) (l : List SB) (F : List Fct) (T : List Snt) (P : List Spn) : (refF t p st nx fr l F T P).2.1.length ≤ F.length + recs l ∧ (refF t p st nx fr l F T P).2.2.1.length ≤ T.length + l.length ∧ (refF t p st nx fr l F T P).2.2.2.length ≤ P.length + 1 := by
  unfold refF
  split
  · exact ⟨by simp, by simp, by simp⟩
  split
  · exact ⟨by simp, by simp, by simp⟩
  cases h1 : refB t p l F with
  | none => exact ⟨by simp, by simp, by simp⟩
  | some F' =>
    dsimp only
    cases h2 : refS t p l T with
    | none => exact ⟨by simp, by simp, by simp⟩
    | some T' => exact ⟨refB_len t p l F F' h1, refS_len t p l T T' h2, by dsimp only; split <;> simp⟩

end Go.Proofs.Ytdlkofmcioalfaa.PCk

namespace Go.Proofs.Ytdlkofmcioalfaa.PCk
open Go.RowKit Go.Proofs.YtdlkofmcioalfaaW.PrintWords Go.Proofs.YtdlkofmcioalfaaW.PrintLast Go.Proofs.YtdlkofmcioalfaaW.PrintMore
attribute [local go_sem] max2_int min2_int max_two min_two max_three min_three max_four min_four
set_option linter.unusedVariables false
set_option linter.unusedSimpArgs false

/-! ### CheckAlone, plain: two Logs that saw the same under other names -/
def nX (t : ByteArray) : ByteArray := t ++ ⟨#[120]⟩
theorem nX_inj {a b : ByteArray} (h : nX a = nX b) : a = b := by
  have h1 := congrArg (fun x : ByteArray => x.data.toList) h
  unfold nX at h1
  simp only [ByteArray.data_append, Array.toList_append, List.append_cancel_right_eq] at h1
  exact ByteArray.ext (Array.toList_inj.1 h1)
theorem nX_other (a : ByteArray) : nX a ≠ ⟨#[111, 116, 104, 101, 114]⟩ := fun h => by
  have h1 := congrArg (fun x : ByteArray => x.data.toList.getLast?) h
  unfold nX at h1
  simp [ByteArray.data_append] at h1
def RelE (F G : Value → Option Value) : Prop := ∀ t p, G (partV (nX t) p) = F (partV t p)
def RelR (F G : Value → Option Value) : Prop := ∀ t p o, G (placeV (nX t) p o) = F (placeV t p o)
def RelS (F G : Value → Option Value) : Prop := ∀ t p q s, G (sentV (nX t) p q s) = F (sentV t p q s)
theorem part_eq {a b : ByteArray} {p q : Int} : partV a p = partV b q ↔ a = b ∧ p = q := by
  unfold partV
  simp
theorem sent_eq {a b : ByteArray} {p q x y u v : Int} : sentV a p x y = sentV b q u v ↔ a = b ∧ p = q ∧ x = u ∧ y = v := by
  unfold sentV
  simp
theorem place_eq {a b : ByteArray} {p q x y : Int} : placeV a p x = placeV b q y ↔ a = b ∧ p = q ∧ x = y := by
  unfold placeV
  simp only [Value.agg.injEq, Array.mk.injEq, List.cons.injEq, Value.string.injEq, Value.int.injEq, true_and, and_true]
  constructor
  · rintro ⟨h1, h2, h3, h4⟩
    exact ⟨h1, h2, by omega⟩
  · rintro ⟨h1, h2, h3⟩
    exact ⟨h1, h2, by rw [h3], by rw [h3]⟩
theorem RelE.upd {F G : Value → Option Value} (h : RelE F G) (t : ByteArray) (p : Int) (v : Value) : RelE (upd F (partV t p) v) (upd G (partV (nX t) p) v) := fun t2 p2 => by
  by_cases e : partV t2 p2 = partV t p
  · rw [e, upd_same, show partV (nX t2) p2 = partV (nX t) p from by rw [part_eq] at e ⊢; exact ⟨by rw [e.1], e.2⟩, upd_same]
  · rw [upd_other F v e, upd_other G v (fun e2 => e (by rw [part_eq] at e2 ⊢; exact ⟨nX_inj e2.1, e2.2⟩))]
    exact h t2 p2
theorem relE_other {F G : Value → Option Value} (h : RelE F G) (p : Int) (v : Value) : RelE F (upd G (partV ⟨#[111, 116, 104, 101, 114]⟩ p) v) := fun t2 p2 => by
  rw [upd_other G v (fun e2 => nX_other t2 (part_eq.1 e2).1)]
  exact h t2 p2
theorem RelR.upd {F G : Value → Option Value} (h : RelR F G) (t : ByteArray) (p o : Int) (v : Value) : RelR (upd F (placeV t p o) v) (upd G (placeV (nX t) p o) v) := fun t2 p2 o2 => by
  by_cases e : placeV t2 p2 o2 = placeV t p o
  · rw [e, upd_same, show placeV (nX t2) p2 o2 = placeV (nX t) p o from by rw [place_eq] at e ⊢; exact ⟨by rw [e.1], e.2⟩, upd_same]
  · rw [upd_other F v e, upd_other G v (fun e2 => e (by rw [place_eq] at e2 ⊢; exact ⟨nX_inj e2.1, e2.2⟩))]
    exact h t2 p2 o2
theorem RelS.upd {F G : Value → Option Value} (h : RelS F G) (t : ByteArray) (p q s : Int) (v : Value) : RelS (upd F (sentV t p q s) v) (upd G (sentV (nX t) p q s) v) := fun t2 p2 q2 s2 => by
  by_cases e : sentV t2 p2 q2 s2 = sentV t p q s
  · rw [e, upd_same, show sentV (nX t2) p2 q2 s2 = sentV (nX t) p q s from by rw [sent_eq] at e ⊢; exact ⟨by rw [e.1], e.2⟩, upd_same]
  · rw [upd_other F v e, upd_other G v (fun e2 => e (by rw [sent_eq] at e2 ⊢; exact ⟨nX_inj e2.1, e2.2⟩))]
    exact h t2 p2 q2 s2
/-- Both none, or both some, and alike. -/
def RelO (R : (Value → Option Value) → (Value → Option Value) → Prop) (a b : Option (Value → Option Value)) : Prop := (a = none ∧ b = none) ∨ ∃ F G, a = some F ∧ b = some G ∧ R F G
theorem rel_chgR (t : ByteArray) (p base : Int) : ∀ (l : List SR) {F G : Value → Option Value}, RelR F G → RelO RelR (chgR t p base l F) (chgR (nX t) p base l G)
  | [], F, G, h => .inr ⟨F, G, rfl, rfl, h⟩
  | r :: l, F, G, h => by
    have hk := h t p (base + r.f5)
    by_cases c : F (placeV t p (base + r.f5)) = none ∨ F (placeV t p (base + r.f5)) = some (recV r)
    · rw [chgR_ok c, chgR_ok (by rw [hk]; exact c)]
      exact rel_chgR t p base l (h.upd t p _ _)
    · rw [chgR_no c, chgR_no (by rw [hk]; exact c)]
      exact .inl ⟨rfl, rfl⟩
theorem rel_chgB (t : ByteArray) (p : Int) : ∀ (l : List SB) {F G : Value → Option Value}, RelR F G → RelO RelR (chgB t p l F) (chgB (nX t) p l G)
  | [], F, G, h => .inr ⟨F, G, rfl, rfl, h⟩
  | b :: l, F, G, h => by
    simp only [chgB]
    rcases rel_chgR t p b.f0 b.f4 h with ⟨h1, h2⟩ | ⟨F2, G2, h1, h2, h3⟩
    · rw [h1, h2]; exact .inl ⟨rfl, rfl⟩
    · rw [h1, h2]; exact rel_chgB t p l h3
theorem rel_agnB (t : ByteArray) (p : Int) : ∀ (l : List SB) {F G : Value → Option Value}, RelS F G → RelO RelS (agnB t p l F) (agnB (nX t) p l G)
  | [], F, G, h => .inr ⟨F, G, rfl, rfl, h⟩
  | b :: l, F, G, h => by
    have hk := h t p b.f2 b.f3
    by_cases c : F (sentV t p b.f2 b.f3) ≠ none ∧ F (sentV t p b.f2 b.f3) ≠ some (.int .i64 b.f0) ∧ 0 < b.f2
    · rw [agnB_no c, agnB_no (by rw [hk]; exact c)]
      exact .inl ⟨rfl, rfl⟩
    · rw [agnB_ok c, agnB_ok (by rw [hk]; exact c)]
      exact rel_agnB t p l (h.upd t p _ _ _)
theorem rel_saw1 {t : ByteArray} {p st nx : Int} {E E' : Value → Option Value} (h : RelE E E') : saw1 (nX t) p st nx E' = saw1 t p st nx E := by
  unfold saw1
  rw [h t p]
def Rel3 (a b : (Value → Option Value) × (Value → Option Value) × (Value → Option Value)) : Prop := RelE a.1 b.1 ∧ RelR a.2.1 b.2.1 ∧ RelS a.2.2 b.2.2
theorem rel_saw (t : ByteArray) (p st nx fr : Int) (l : List SB) {E R S E' R' S' : Value → Option Value} (hE : RelE E E') (hR : RelR R R') (hS : RelS S S') :
    (sawF (nX t) p st nx fr l E' R' S').1 = (sawF t p st nx fr l E R S).1 ∧ Rel3 (sawF t p st nx fr l E R S).2 (sawF (nX t) p st nx fr l E' R' S').2 := by
  unfold sawF
  rw [rel_saw1 hE]
  split
  · exact ⟨rfl, hE, hR, hS⟩
  split
  · exact ⟨rfl, hE, hR, hS⟩
  rcases rel_chgB t p l hR with ⟨h1, h2⟩ | ⟨F2, G2, h1, h2, h3⟩
  · rw [h1, h2]; exact ⟨rfl, hE, hR, hS⟩
  rw [h1, h2]
  dsimp only
  rcases rel_agnB t p l hS with ⟨k1, k2⟩ | ⟨F3, G3, k1, k2, k3⟩
  · rw [k1, k2]; exact ⟨rfl, hE, hR, hS⟩
  rw [k1, k2]
  exact ⟨rfl, hE.upd t p _, h3, k3⟩
theorem rel_oth (p st nx fr : Int) {E E' R' S' : Value → Option Value} (hE : RelE E E') : RelE E (sawF ⟨#[111, 116, 104, 101, 114]⟩ p st nx fr [] E' R' S').2.1 ∧ (sawF ⟨#[111, 116, 104, 101, 114]⟩ p st nx fr [] E' R' S').2.2.1 = R' ∧ (sawF ⟨#[111, 116, 104, 101, 114]⟩ p st nx fr [] E' R' S').2.2.2 = S' := by
  unfold sawF
  split
  · exact ⟨hE, rfl, rfl⟩
  split
  · exact ⟨hE, rfl, rfl⟩
  exact ⟨relE_other hE p _, rfl, rfl⟩
theorem rel_N : RelE N0 N0 ∧ RelR N0 N0 ∧ RelS N0 N0 := ⟨fun _ _ => rfl, fun _ _ _ => rfl, fun _ _ _ _ => rfl⟩

end Go.Proofs.Ytdlkofmcioalfaa.PCk

namespace Go.Proofs.Ytdlkofmcioalfaa.PCk
open Go.RowKit Go.Proofs.YtdlkofmcioalfaaW.PrintWords Go.Proofs.YtdlkofmcioalfaaW.PrintLast Go.Proofs.YtdlkofmcioalfaaW.PrintMore
attribute [local go_sem] max2_int min2_int max_two min_two max_three min_three max_four min_four
set_option linter.unusedVariables false
set_option linter.unusedSimpArgs false

/-! ### CheckAlone -/
theorem LogP.cells {w : World} {g : Nat} {E R S : Value → Option Value} (h : LogP w g E R S) : ∃ cs, w.heap[g]? = some (.cells cs 59 (0, 0)) := by
  obtain ⟨oE, oR, oS, h1, _⟩ := h
  exact ⟨_, h1⟩
theorem MapO.ne {P : Program} {kt : TypeId} {w : World} {o : Option Nat} {F : Value → Option Value} (h : MapO P kt w o F) {g : Nat} {cs : Array Value} {t : TypeId} (hg : w.heap[g]? = some (.cells cs t (0, 0))) : ∀ b, o = some b → b ≠ g := fun b e q => by
  subst e
  subst q
  obtain ⟨es, c, h1, _⟩ := h
  rw [h1] at hg
  cases hg
/-- Another Log is written: this one stands. -/
theorem LogP.other {w w1 : World} {g g2 : Nat} {E R S : Value → Option Value} (h : LogP w g E R S) {cs : Array Value} {t : TypeId} (h2 : w.heap[g2]? = some (.cells cs t (0, 0))) (hne : g ≠ g2) (hg : w.grownBy w1 (some g2)) : LogP w1 g E R S := by
  obtain ⟨oE, oR, oS, h1, m1, m2, m3, h5⟩ := h
  have key : ∀ b, b < w.heap.size → b ≠ g2 → w1.heap[b]? = w.heap[b]? := fun b hb hn => hg.block b hb (fun e => hn (Option.some.inj e))
  exact ⟨oE, oR, oS, (key g (blk_lt h1) hne).trans h1, m1.move (fun b e => key b (m1.lt b e) (m1.ne h2 b e)), m2.move (fun b e => key b (m2.lt b e) (m2.ne h2 b e)), m3.move (fun b e => key b (m3.lt b e) (m3.ne h2 b e)), h5⟩
/-- What the row of steps knows. -/
def StOk (s : S35) : Prop := s.f0.size ≤ 140737488351232 ∧ (Lit.int .i64 s.f1).wf = true ∧ (Lit.int .i64 s.f2).wf = true ∧ (Lit.int .i64 s.f3).wf = true ∧ (Lit.int .i64 s.f4).wf = true ∧ s.f5.length ≤ 140737488355328 ∧ ∀ b ∈ s.f5, (Lit.int .i64 b.f0).wf = true ∧ (Lit.int .i64 b.f1).wf = true ∧ (Lit.int .i64 b.f2).wf = true ∧ (Lit.int .i64 b.f3).wf = true ∧ b.f4.length ≤ 140737488355328 ∧ ∀ r ∈ b.f4, (Lit.int .i64 r.f5).wf = true
theorem StOk.arg {s : S35} (h : StOk s) (t : ByteArray) (ht : t.size ≤ maxLen) : SawArg t s.f1 s.f2 s.f3 s.f4 s.f5 := ⟨ht, h.2.1, h.2.2.1, h.2.2.2.1, h.2.2.2.2.1, h.2.2.2.2.2.1, h.2.2.2.2.2.2⟩
theorem StOk.none {s : S35} (h : StOk s) (t : ByteArray) (ht : t.size ≤ maxLen) : SawArg t s.f1 s.f2 s.f3 s.f4 [] := ⟨ht, h.2.1, h.2.2.1, h.2.2.2.1, h.2.2.2.2.1, by decide, fun _ h => by cases h⟩
theorem StOk.small {s : S35} (h : StOk s) : s.f5.length ≤ 140737488355328 ∧ ∀ b ∈ s.f5, b.f4.length ≤ 140737488355328 := ⟨h.2.2.2.2.2.1, fun b hb => (h.2.2.2.2.2.2 b hb).2.2.2.2.1⟩
theorem nX_size {t : ByteArray} (h : t.size ≤ 140737488351232) : (nX t).size ≤ maxLen := by
  unfold nX
  rw [ByteArray.size_append]
  exact Nat.le_trans (Nat.add_le_add_right h 1) (by decide)
theorem St_ok {l : List S35} (h : l.length * 72 ≤ 140737488351232 ∧ ∀ y0 ∈ l, (y0.f0.size ≤ 140737488351232 ∧ ((Lit.int .i64 y0.f1).wf = true ∧ ((Lit.int .i64 y0.f2).wf = true ∧ ((Lit.int .i64 y0.f3).wf = true ∧ ((Lit.int .i64 y0.f4).wf = true ∧ (y0.f5.length * 56 ≤ 140737488351232 ∧ ∀ y1 ∈ y0.f5, ((Lit.int .i64 y1.f0).wf = true ∧ ((Lit.int .i64 y1.f1).wf = true ∧ ((Lit.int .i64 y1.f2).wf = true ∧ ((Lit.int .i64 y1.f3).wf = true ∧ (y1.f4.length * 64 ≤ 140737488351232 ∧ ∀ y2 ∈ y1.f4, (True ∧ (y2.f1.size ≤ 140737488351232 ∧ (True ∧ (y2.f3.size ≤ 140737488351232 ∧ ((Lit.int .i64 y2.f4).wf = true ∧ (Lit.int .i64 y2.f5).wf = true))))))))))))))))) : l.length ≤ 140737488355328 ∧ ∀ s ∈ l, StOk s := by
  refine ⟨by omega, fun s hs => ?_⟩
  obtain ⟨h1, h2, h3, h4, h5, h6, h7⟩ := h.2 s hs
  refine ⟨h1, h2, h3, h4, h5, by omega, fun b hb => ?_⟩
  obtain ⟨b1, b2, b3, b4, b5, b6⟩ := h7 b hb
  exact ⟨b1, b2, b3, b4, by omega, fun r hr => (b6 r hr).2.2.2.2.2⟩
set_option maxHeartbeats 4000000 in
set_option maxRecDepth 100000 in
theorem bollardlaw24_CheckAlone.calls (k : Nat) (A0 : Option Addr) (c0 : Nat) (l0 : List S35) (r : Bool) (w : World) (hr0 : Kd.C k35 w A0 l0.length l0) (hc0 : l0.length ≤ c0) (h : bollardlaw24_CheckAlone.f k l0 = some r) :
    Calls Try.prog 5 #[.slice A0 l0.length c0] w fun e w' => e = .returned (.bool r) ∧ Below w.heap.size w w' := by
  unfold bollardlaw24_CheckAlone.f at h
  split at h
  case isFalse => cases h
  rename_i hcond
  obtain rfl := Option.some.inj h
  clear h
  obtain ⟨hlen, hok⟩ := St_ok hcond
  obtain ⟨ks, r1, hsm⟩ := small_some l0 hlen (fun s hs => (hok s hs).small)
  have HL := Aside0.mk hlen
  have HOK := Aside0.mk hok
  have HSM := Aside0.mk hsm
  have HR := Aside0.mk hr0
  have HC := Aside0.mk hc0
  clear hcond hlen hok hsm hr0 hc0
  go_enter Try.func5, Try.ntmps5
  go_wp2_with fail
  refine (bollardlaw24_small.calls ks A0 c0 l0 r1 _ HR.out HC.out HSM.out).mono ?_
  rintro e w1 ⟨rfl, hb⟩
  have B := Aside0.mk (show Below w.heap.size w w1 from by first | exact hb | exact hb.below)
  clear hb
  cases r1 with
  | false =>
    go_wp2_with fail
    refine (bollardlaw24_awake.calls _).mono ?_
    rintro e w2 ⟨rfl, hb⟩
    have B2 := Aside0.mk (below_step B.out hb)
    clear hb
    go_wp2_with fail
    go_ret
    exact ⟨rfl, B2.out⟩
  | true =>
    go_wp2_with fail
    refine (check_New.calls _).mono ?_
    rintro e w2 ⟨ga, rfl, hga, hLa, hb⟩
    have GA := Aside0.mk (show w.heap.size ≤ ga from Nat.le_trans B.out.size hga)
    have B2 := Aside0.mk (below_step B.out hb)
    have LA := Aside0.mk hLa
    clear hga hLa hb B
    go_wp2_with fail
    have LA2 := Aside0.mk (LA.out.below (bel1 w2 (.cells #[.map none, .map none, .map none] 59)))
    have LB := Aside0.mk (show LogP (w2.alloc (.cells #[.map none, .map none, .map none] 59)) w2.heap.size N0 N0 N0 from ⟨none, none, none, heap_alloc_new w2 _, fun _ => rfl, fun _ => rfl, fun _ => rfl, ShE.none, ShR.none, ShS.none⟩)
    have B3 := Aside0.mk (below_step B2.out (bel1 w2 (.cells #[.map none, .map none, .map none] 59)))
    have GB := Aside0.mk (show w.heap.size ≤ w2.heap.size ∧ w2.heap.size ≠ ga from ⟨B2.out.size, by obtain ⟨_, h_⟩ := LA.out.cells; have := blk_lt h_; omega⟩)
    clear LA B2
    generalize w2.alloc (.cells #[.map none, .map none, .map none] 59) = w3 at LA2 LB B3 ⊢
    obtain ⟨gb, hgb⟩ : ∃ gb, gb = w2.heap.size := ⟨_, rfl⟩
    rw [← hgb] at LB GB ⊢
    clear hgb
    go_loopg [5] (l0.length + 1) (fun kq v5 wr => ∃ (i : Int) (Ea Ra Sa Eb Rb Sb : Value → Option Value), v5 = .int .i64 i ∧ Aside0 (kq + i.toNat = l0.length + 1 ∧ 0 ≤ i ∧ i ≤ (l0.length : Int)) ∧ Aside0 (LogP wr ga Ea Ra Sa ∧ LogP wr gb Eb Rb Sb ∧ RelE Ea Eb ∧ RelR Ra Rb ∧ RelS Sa Sb ∧ Below w.heap.size w wr))
    case atStart => exact ⟨0, _, _, _, _, _, _, rfl, ⟨by simp, by omega, by omega⟩, ⟨LA2.out, LB.out, rel_N.1, rel_N.2.1, rel_N.2.2, B3.out⟩⟩
    case round =>
      obtain ⟨i, Ea, Ra, Sa, Eb, Rb, Sb, rfl, HI, HS⟩ := hrel
      clear LA2 LB B3
      by_cases hi : i < (l0.length : Int)
      case neg =>
        have d1 : decide (i < (l0.length : Int)) = false := decide_eq_false hi
        clear hi
        go_wp2_with fail
        refine (check_nil.calls _ _ _ _ _ _ _).mono ?_
        rintro e w4 ⟨rfl, hb⟩
        have B4 := Aside0.mk (below_step HS.out.2.2.2.2.2 hb)
        clear hb
        go_wp2_with fail
        refine (bollardlaw24_awake.calls _).mono ?_
        rintro e w5 ⟨rfl, hb⟩
        have B5 := Aside0.mk (below_step B4.out hb)
        clear hb
        go_wp2_with fail
        go_ret
        exact ⟨rfl, B5.out⟩
      case pos =>
        have d1 : decide (i < (l0.length : Int)) = true := decide_eq_true hi
        have h0 := HI.out.2.1
        obtain ⟨ad, A5, c5, ea, x0, x1, x2, x3, x4, x5, l5, g5⟩ := at_T35 HR.out i h0 hi
        replace x0 := pw_cell_below HS.out.2.2.2.2.2 x0
        replace x1 := pw_cell_below HS.out.2.2.2.2.2 x1
        replace x2 := pw_cell_below HS.out.2.2.2.2.2 x2
        replace x3 := pw_cell_below HS.out.2.2.2.2.2 x3
        replace x4 := pw_cell_below HS.out.2.2.2.2.2 x4
        replace x5 := pw_cell_below HS.out.2.2.2.2.2 x5
        have HOKi := Aside0.mk (show StOk (rd_T35 l0 i) from HOK.out _ (get_mem z35 h0 hi))
        have HC5 := Aside0.mk (And.intro g5 l5)
        have p1 := eq_true h0
        have p2 := eq_true hi
        have HI2 := Aside0.mk hi
        clear g5 l5 h0 hi
        cases ea
        go_upto_region 9 with fail
        (try simp only [Act.put, List.setIfInBounds_toArray, List.set_cons_zero, List.set_cons_succ])
        have K1 := Aside0.mk (show LogP (wr.alloc (.cells #[.string (rd_T35 l0 i).f0, .int .i64 (rd_T35 l0 i).f1, .int .i64 (rd_T35 l0 i).f2, .int .i64 (rd_T35 l0 i).f3, .int .i64 (rd_T35 l0 i).f4, .slice A5 (rd_T35 l0 i).f5.length c5] 35)) ga Ea Ra Sa ∧ LogP (wr.alloc (.cells #[.string (rd_T35 l0 i).f0, .int .i64 (rd_T35 l0 i).f1, .int .i64 (rd_T35 l0 i).f2, .int .i64 (rd_T35 l0 i).f3, .int .i64 (rd_T35 l0 i).f4, .slice A5 (rd_T35 l0 i).f5.length c5] 35)) gb Eb Rb Sb ∧ Below w.heap.size w (wr.alloc (.cells #[.string (rd_T35 l0 i).f0, .int .i64 (rd_T35 l0 i).f1, .int .i64 (rd_T35 l0 i).f2, .int .i64 (rd_T35 l0 i).f3, .int .i64 (rd_T35 l0 i).f4, .slice A5 (rd_T35 l0 i).f5.length c5] 35)) ∧ (wr.alloc (.cells #[.string (rd_T35 l0 i).f0, .int .i64 (rd_T35 l0 i).f1, .int .i64 (rd_T35 l0 i).f2, .int .i64 (rd_T35 l0 i).f3, .int .i64 (rd_T35 l0 i).f4, .slice A5 (rd_T35 l0 i).f5.length c5] 35)).heap[wr.heap.size]? = some (.cells #[.string (rd_T35 l0 i).f0, .int .i64 (rd_T35 l0 i).f1, .int .i64 (rd_T35 l0 i).f2, .int .i64 (rd_T35 l0 i).f3, .int .i64 (rd_T35 l0 i).f4, .slice A5 (rd_T35 l0 i).f5.length c5] 35 (0, 0)) from ⟨HS.out.1.below (bel1 wr _), HS.out.2.1.below (bel1 wr _), below_step HS.out.2.2.2.2.2 (bel1 wr _), heap_alloc_new wr _⟩)
        have HREL := Aside0.mk (And.intro HS.out.2.2.1 (And.intro HS.out.2.2.2.1 HS.out.2.2.2.2.1))
        have HGS := Aside0.mk (show ga ≠ wr.heap.size ∧ gb ≠ wr.heap.size from ⟨by obtain ⟨_, h_⟩ := HS.out.1.cells; have := blk_lt h_; omega, by obtain ⟨_, h_⟩ := HS.out.2.1.cells; have := blk_lt h_; omega⟩)
        clear x0 x1 x2 x3 x4 x5 HS
        generalize wr.alloc (.cells #[.string (rd_T35 l0 i).f0, .int .i64 (rd_T35 l0 i).f1, .int .i64 (rd_T35 l0 i).f2, .int .i64 (rd_T35 l0 i).f3, .int .i64 (rd_T35 l0 i).f4, .slice A5 (rd_T35 l0 i).f5.length c5] 35) = w4 at K1 ⊢
        obtain ⟨gs, hgs⟩ : ∃ gs, gs = wr.heap.size := ⟨_, rfl⟩
        rw [← hgs] at K1 HGS ⊢
        clear hgs
        have s0 := (blk_cell K1.out.2.2.2 0).trans rfl
        have s1 := (blk_cell K1.out.2.2.2 1).trans rfl
        have s2 := (blk_cell K1.out.2.2.2 2).trans rfl
        have s3 := (blk_cell K1.out.2.2.2 3).trans rfl
        have s4 := (blk_cell K1.out.2.2.2 4).trans rfl
        have s5 := (blk_cell K1.out.2.2.2 5).trans rfl
        go_wp2_with fail
        refine (check_Log_Saw.calls ga Ea Ra Sa (rd_T35 l0 i).f0 (rd_T35 l0 i).f1 (rd_T35 l0 i).f2 (rd_T35 l0 i).f3 (rd_T35 l0 i).f4 A5 c5 (rd_T35 l0 i).f5 w4 K1.out.1 (Kd.C_below HC5.out.1 K1.out.2.2.1) HC5.out.2 (HOKi.out.arg _ (Nat.le_trans HOKi.out.1 (by decide)))).mono ?_
        rintro e w5 ⟨rfl, hl5, hg5⟩
        obtain ⟨csa, hca⟩ := K1.out.1.cells
        have K2 := Aside0.mk (show LogP w5 ga _ _ _ ∧ LogP w5 gb Eb Rb Sb ∧ Below w.heap.size w w5 ∧ w5.heap[gs]? = some (.cells #[.string (rd_T35 l0 i).f0, .int .i64 (rd_T35 l0 i).f1, .int .i64 (rd_T35 l0 i).f2, .int .i64 (rd_T35 l0 i).f3, .int .i64 (rd_T35 l0 i).f4, .slice A5 (rd_T35 l0 i).f5.length c5] 35 (0, 0)) from ⟨hl5, K1.out.2.1.other hca GB.out.2 hg5, chg_old K1.out.2.2.1 GA.out hg5, (hg5.block gs (blk_lt K1.out.2.2.2) (fun e_ => HGS.out.1 (Option.some.inj e_).symm)).trans K1.out.2.2.2⟩)
        clear hl5 hg5 hca K1 s0 s1 s2 s3 s4 s5
        have hsz_ : ¬ 9223372036854775807 < (rd_T35 l0 i).f0.size + 1 := by have := HOKi.out.1; omega
        have s0 := (blk_cell K2.out.2.2.2 0).trans rfl
        have s1 := (blk_cell K2.out.2.2.2 1).trans rfl
        have s2 := (blk_cell K2.out.2.2.2 2).trans rfl
        have s3 := (blk_cell K2.out.2.2.2 3).trans rfl
        have s4 := (blk_cell K2.out.2.2.2 4).trans rfl
        have s5 := (blk_cell K2.out.2.2.2 5).trans rfl
        go_wp2_with fail
        refine (check_Log_Saw.calls gb Eb Rb Sb (nX (rd_T35 l0 i).f0) (rd_T35 l0 i).f1 (rd_T35 l0 i).f2 (rd_T35 l0 i).f3 (rd_T35 l0 i).f4 A5 c5 (rd_T35 l0 i).f5 w5 K2.out.2.1 (Kd.C_below HC5.out.1 K2.out.2.2.1) HC5.out.2 (HOKi.out.arg _ (nX_size HOKi.out.1))).mono ?_
        rintro e w6 ⟨rfl, hl6, hg6⟩
        obtain ⟨csb, hcb⟩ := K2.out.2.1.cells
        have K3 := Aside0.mk (show LogP w6 ga _ _ _ ∧ LogP w6 gb _ _ _ ∧ Below w.heap.size w w6 ∧ w6.heap[gs]? = some (.cells #[.string (rd_T35 l0 i).f0, .int .i64 (rd_T35 l0 i).f1, .int .i64 (rd_T35 l0 i).f2, .int .i64 (rd_T35 l0 i).f3, .int .i64 (rd_T35 l0 i).f4, .slice A5 (rd_T35 l0 i).f5.length c5] 35 (0, 0)) from ⟨K2.out.1.other hcb GB.out.2.symm hg6, hl6, chg_old K2.out.2.2.1 GB.out.1 hg6, (hg6.block gs (blk_lt K2.out.2.2.2) (fun e_ => HGS.out.2 (Option.some.inj e_).symm)).trans K2.out.2.2.2⟩)
        have hrs := rel_saw (rd_T35 l0 i).f0 (rd_T35 l0 i).f1 (rd_T35 l0 i).f2 (rd_T35 l0 i).f3 (rd_T35 l0 i).f4 (rd_T35 l0 i).f5 HREL.out.1 HREL.out.2.1 HREL.out.2.2
        have HX := Aside0.mk hrs.1
        have HREL2 := Aside0.mk hrs.2
        clear hl6 hg6 hcb K2 s0 s1 s2 s3 s4 s5 hsz_ hrs HREL
        have s0 := (blk_cell K3.out.2.2.2 0).trans rfl
        have s1 := (blk_cell K3.out.2.2.2 1).trans rfl
        have s2 := (blk_cell K3.out.2.2.2 2).trans rfl
        have s3 := (blk_cell K3.out.2.2.2 3).trans rfl
        have s4 := (blk_cell K3.out.2.2.2 4).trans rfl
        have s5 := (blk_cell K3.out.2.2.2 5).trans rfl
        go_wp2_with fail
        refine (check_Log_Saw.calls gb _ _ _ (⟨#[111, 116, 104, 101, 114]⟩ : ByteArray) (rd_T35 l0 i).f1 (rd_T35 l0 i).f2 (rd_T35 l0 i).f3 (rd_T35 l0 i).f4 none 0 [] w6 K3.out.2.1 (rows_nil _) (Nat.le_refl 0) (HOKi.out.none _ (by decide))).mono ?_
        rintro e w7 ⟨rfl, hl7, hg7⟩
        obtain ⟨csb, hcb⟩ := K3.out.2.1.cells
        obtain ⟨o1, o2, o3⟩ := rel_oth (rd_T35 l0 i).f1 (rd_T35 l0 i).f2 (rd_T35 l0 i).f3 (rd_T35 l0 i).f4 HREL2.out.1 (R' := (sawF (nX (rd_T35 l0 i).f0) (rd_T35 l0 i).f1 (rd_T35 l0 i).f2 (rd_T35 l0 i).f3 (rd_T35 l0 i).f4 (rd_T35 l0 i).f5 Eb Rb Sb).2.2.1) (S' := (sawF (nX (rd_T35 l0 i).f0) (rd_T35 l0 i).f1 (rd_T35 l0 i).f2 (rd_T35 l0 i).f3 (rd_T35 l0 i).f4 (rd_T35 l0 i).f5 Eb Rb Sb).2.2.2)
        rw [o2, o3] at hl7
        have K4 := Aside0.mk (show LogP w7 ga _ _ _ ∧ LogP w7 gb _ _ _ ∧ Below w.heap.size w w7 from ⟨K3.out.1.other hcb GB.out.2.symm hg7, hl7, chg_old K3.out.2.2.1 GB.out.1 hg7⟩)
        have HREL3 := Aside0.mk (And.intro o1 HREL2.out.2)
        clear hl7 hg7 hcb K3 s0 s1 s2 s3 s4 s5 o1 o2 o3 HREL2
        have e1 : IntKind.i64.wrap (i + 1) = i + 1 := (i64_w _).trans (by have := HI.out; have := HL.out; unfold wrap64; omega)
        generalize (sawF (nX (rd_T35 l0 i).f0) (rd_T35 l0 i).f1 (rd_T35 l0 i).f2 (rd_T35 l0 i).f3 (rd_T35 l0 i).f4 (rd_T35 l0 i).f5 Eb Rb Sb).1 = qb at HX ⊢
        generalize (sawF (rd_T35 l0 i).f0 (rd_T35 l0 i).f1 (rd_T35 l0 i).f2 (rd_T35 l0 i).f3 (rd_T35 l0 i).f4 (rd_T35 l0 i).f5 Ea Ra Sa).1 = qa at HX ⊢
        obtain rfl : qb = qa := HX.out
        have f1 : (qb != qb) = false := by simp
        go_wp2_with fail
        go_roundg (l0.length + 1 - (i + 1).toNat)
        case measure => have := HI.out; have := HI2.out; omega
        case rel => exact ⟨i + 1, _, _, _, _, _, _, by first | rfl | rw [e1], ⟨by have := HI.out; have := HI2.out; omega, by have := HI.out; omega, by have := HI2.out; omega⟩, ⟨K4.out.1, K4.out.2.1, HREL3.out.1, HREL3.out.2.1, HREL3.out.2.2, K4.out.2.2⟩⟩

end Go.Proofs.Ytdlkofmcioalfaa.PCk
