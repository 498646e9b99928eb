/- What is planned and written is read as the plan; with a byte turned it is refused. -/
import Derived.Test.YtnfoknnbolgfjaaLayDec
import Derived.Test.YtnfoknnbolgfjaaCrcOne
namespace Go.Proofs.Ytnfoknnbolgfjaa.Lay
open Go Go.RowKit Go.Proofs.Ytnfoknnbolgfjaa.PLb Go.Proofs.YtnfoknnbolgfjaaW.PrintWords Go.Proofs.YtnfoknnbolgfjaaW.PrintLast Go.Proofs.YtnfoknnbolgfjaaW.PrintMore
set_option linter.unusedVariables false
set_option linter.unusedSimpArgs false

theorem le4_inj {x y : Int} (hx : 0 ≤ x ∧ x < 4294967296) (hy : 0 ≤ y ∧ y < 4294967296) (h : le4 x = le4 y) : x = y := by
  simp only [le4, List.cons.injEq, and_true] at h
  omega
theorem be_le4 (x : Int) (hx : 0 ≤ x ∧ x < 4294967296) : Bp.be (le4 x).reverse = x := by
  simp only [le4, List.reverse_cons, List.reverse_nil, List.nil_append, List.cons_append, Bp.be, List.foldl_cons, List.foldl_nil]
  omega
theorem sbOf_length (n i : Int) : (sbOf n i).length = 512 := sb_length _ _ _ _ _ _ _
theorem sb_seg8 (p0 p1 p2 p3 p4 p5 p6 : Int) : ((sb p0 p1 p2 p3 p4 p5 p6).drop 8).take 4 = le4 p0 := by
  unfold sb hd7 M8 le4
  rfl
theorem sb_seg12 (p0 p1 p2 p3 p4 p5 p6 : Int) : ((sb p0 p1 p2 p3 p4 p5 p6).drop 12).take 4 = le4 p1 := by
  unfold sb hd7 M8 le4
  rfl
theorem nOf_sb {n i : Int} (h : Good n i) : nOf (sbOf n i) = n := by
  have f := h.1
  unfold Fits at f
  unfold nOf Bp.get
  rw [if_pos (by rw [sbOf_length]; decide), if_neg (by simp)]
  unfold sbOf
  rw [sb_seg8, be_le4 n (by omega)]
theorem iOf_sb {n i : Int} (h : Good n i) : iOf (sbOf n i) = i := by
  have f := h.1
  unfold Fits at f
  unfold iOf Bp.get
  rw [if_pos (by rw [sbOf_length]; decide), if_neg (by simp)]
  unfold sbOf
  rw [sb_seg12, be_le4 i (by omega)]
theorem dec_sb {n i : Int} (h : Good n i) : dec (sbOf n i) = plOf n i := by
  unfold dec
  rw [nOf_sb h, iOf_sb h, if_pos ⟨h, rfl⟩]
theorem sb_take (p0 p1 p2 p3 p4 p5 p6 : Int) : (sb p0 p1 p2 p3 p4 p5 p6).take 36 = hd7 p0 p1 p2 p3 p4 p5 p6 := by
  unfold sb
  rw [List.append_assoc]
  have := List.take_left (l₁ := hd7 p0 p1 p2 p3 p4 p5 p6) (l₂ := le4 (Crc.crc (hd7 p0 p1 p2 p3 p4 p5 p6)) ++ List.replicate 472 (0 : Int))
  rw [hd7_length] at this
  exact this
theorem sb_sum (p0 p1 p2 p3 p4 p5 p6 : Int) : ((sb p0 p1 p2 p3 p4 p5 p6).drop 36).take 4 = le4 (Crc.crc (hd7 p0 p1 p2 p3 p4 p5 p6)) := by
  unfold sb
  rw [List.append_assoc]
  have := List.drop_left (l₁ := hd7 p0 p1 p2 p3 p4 p5 p6) (l₂ := le4 (Crc.crc (hd7 p0 p1 p2 p3 p4 p5 p6)) ++ List.replicate 472 (0 : Int))
  rw [hd7_length] at this
  rw [this]
  rfl
/-- No two superblocks differ in one byte alone. -/
theorem sb_turn {n i n2 i2 : Int} (h : Good n i) (h2 : Good n2 i2) (j : Nat) (hj : j < (sbOf n i).length) (t : Int) (ht : 0 < t ∧ t < 256) : sbOf n2 i2 ≠ (sbOf n i).set j (Go.bits .xor .u8 (sbOf n i)[j] t) := by
  intro e
  have hbj := sbOf_bytes n i _ (List.getElem_mem hj)
  have hne := Crc.one_ne hbj ht
  have same : n2 = n → i2 = i → False := by
    rintro rfl rfl
    have := congrArg (fun l => l[j]?) e
    simp only [List.getElem?_set_self hj, List.getElem?_eq_getElem hj, Option.some.injEq] at this
    exact hne this.symm
  by_cases hc : j < 36
  · have e1 := congrArg (List.take 36) e
    rw [List.take_set] at e1
    have e2 := congrArg (fun l => (List.drop 36 l).take 4) e
    rw [List.drop_set_of_lt hc] at e2
    have hg : (sbOf n i)[j] = ((sbOf n i).take 36)[j]'(by rw [List.length_take]; omega) := by rw [List.getElem_take]
    simp only [hg] at e1
    unfold sbOf at e1 e2
    simp only [sb_take] at e1
    rw [sb_sum, sb_sum] at e2
    have e3 := le4_inj (crc_range _) (crc_range _) e2
    rw [e1] at e3
    exact Crc.crc_turn _ (hd7_bytes _ _ _ _ _ _ _) j (by rw [hd7_length]; exact hc) t ht e3
  · have e0 := h.1
    have e1 := h2.1
    unfold Fits at e0 e1
    have a8 := congrArg (fun l => (List.drop 8 (List.take 36 l)).take 4) e
    have a12 := congrArg (fun l => (List.drop 12 (List.take 36 l)).take 4) e
    rw [List.take_set_of_le (by omega)] at a8 a12
    unfold sbOf at a8 a12
    rw [sb_take, sb_take] at a8 a12
    have g8 : ∀ p0 p1 p2 p3 p4 p5 p6, ((hd7 p0 p1 p2 p3 p4 p5 p6).drop 8).take 4 = le4 p0 := fun _ _ _ _ _ _ _ => rfl
    have g12 : ∀ p0 p1 p2 p3 p4 p5 p6, ((hd7 p0 p1 p2 p3 p4 p5 p6).drop 12).take 4 = le4 p1 := fun _ _ _ _ _ _ _ => rfl
    rw [g8, g8] at a8
    rw [g12, g12] at a12
    exact same (le4_inj (by omega) (by omega) a8) (le4_inj (by omega) (by omega) a12)
theorem dec_turn {n i : Int} (h : Good n i) (j : Nat) (hj : j < (sbOf n i).length) (t : Int) (ht : 0 < t ∧ t < 256) : dec ((sbOf n i).set j (Go.bits .xor .u8 (sbOf n i)[j] t)) = noPl := by
  unfold dec
  rw [if_neg]
  rintro ⟨g, e⟩
  exact sb_turn h g j hj t ht e

end Go.Proofs.Ytnfoknnbolgfjaa.Lay
