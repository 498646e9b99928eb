import Derived.Test.YtdlkofmcioalfaaChA
import Derived.Outline
import Derived.StillTailTactics
import Derived.RegionTactic
import Derived.BigRegion
import Derived.Lib.BufferWrite
namespace Go.Proofs.Ytdlkofmcioalfaa.PCk
open Go.RowKit Go.Proofs.YtdlkofmcioalfaaW.PrintWords Go.Proofs.YtdlkofmcioalfaaW.PrintLast Go.Proofs.YtdlkofmcioalfaaW.PrintMore
attribute [local go_sem] max2_int min2_int max_two min_two max_three min_three max_four min_four
set_option linter.unusedVariables false
set_option linter.unusedSimpArgs false

/-! ### check.misplaced, plain -/
theorem above_f {a b v : Int} (ha : (Lit.int .i64 a).wf = true) (hb : (Lit.int .i64 b).wf = true) (hv : (Lit.int .i64 v).wf = true) : check_above.f a b v = some (decide (v < a + b)) := if_pos ⟨ha, hb, hv⟩
theorem mis_j1 (k : Nat) (x0 x1 x2 : Int) (x3 : List SB) (x9 : Int) (x11 : List SB) (x12 x13 : Int) (x18 : Bool) (y0 y1 y2 y3 : Int) (y4 : List SR) (h0 : (Lit.int .i64 y0).wf = true) (h1 : (Lit.int .i64 y1).wf = true) (hx0 : (Lit.int .i64 x0).wf = true) (hx1 : (Lit.int .i64 x1).wf = true) :
    check_misplaced.j1 (k + 1) x0 x1 x2 x3 x9 x11 x12 x13 x18 y0 y1 y2 y3 y4 = check_misplaced.j2 k x0 x1 x2 x3 x9 x11 x12 x13 (x18 || decide (x1 < y0 + y1) || !decide (x0 < y0 + y1)) y0 y1 y2 y3 y4 := by
  rw [check_misplaced.j1]
  cases x18 with
  | true => simp
  | false =>
    rw [if_neg (by decide), above_f h0 h1 hx1, Option.bind_some]
    by_cases hc : x1 < y0 + y1
    · rw [decide_eq_true hc, if_pos rfl]; simp
    · rw [decide_eq_false hc, if_neg (by decide), above_f h0 h1 hx0, Option.bind_some]; simp
theorem misL_cons (st nx fr : Int) (q : Option SB) (b : SB) (l : List SB) : misL st nx fr q (b :: l) = (misB st nx fr b || (match q with | none => false | some q => misP q b) || misL st nx fr (some b) l) := by cases q <;> rfl
theorem mis_l0 (st nx fr : Int) (l : List SB) (h1 : (Lit.int .i64 st).wf = true) (h2 : (Lit.int .i64 nx).wf = true) (h3 : (Lit.int .i64 fr).wf = true) (hl : l.length ≤ 140737488355328) (hw : ∀ b ∈ l, (Lit.int .i64 b.f0).wf = true ∧ (Lit.int .i64 b.f1).wf = true) :
    ∀ n i : Nat, i + n = l.length → check_misplaced.l0 (3 * n + 1) st nx fr l l (l.length : Int) (i : Int) = some (misL st nx fr (if i = 0 then none else some (rd_T61 l ((i : Int) - 1))) (l.drop i))
  | 0, i, hi => by
    rw [check_misplaced.l0, if_neg (by omega), List.drop_of_length_le (by omega)]
    rfl
  | n + 1, i, hi => by
    have ih := mis_l0 st nx fr l h1 h2 h3 hl hw n (i + 1) (by omega)
    have hd := drop_get (l := l) (i := (i : Int)) z61 (by omega) (by omega)
    have hm := hw _ (get_mem (l := l) (i := (i : Int)) z61 (by omega) (by omega))
    rw [show ((i : Int)).toNat = i from by omega, show ((i : Int) + 1).toNat = i + 1 from by omega] at hd
    rw [show ((i : Int)).toNat = i from by omega] at hm
    have hrd : rd_T61 l (i : Int) = l.getD i z61 := rfl
    rw [show 3 * (n + 1) + 1 = (3 * n + 3) + 1 from by omega, check_misplaced.l0, if_pos (by omega), if_pos (by omega), if_pos (by omega), hd, misL_cons, hrd]
    generalize l.getD i z61 = b at hm hd ⊢
    obtain ⟨hb0, hb1⟩ := hm
    have e1 : (if b.f0 < fr then ((check_above.f b.f0 b.f1 fr).bind fun t => check_misplaced.j1 (3 * n + 3) st nx fr l i l (l.length : Int) i (!t) b.f0 b.f1 b.f2 b.f3 b.f4) else check_misplaced.j1 (3 * n + 3) st nx fr l i l (l.length : Int) i false b.f0 b.f1 b.f2 b.f3 b.f4) =
        check_misplaced.j1 (3 * n + 3) st nx fr l i l (l.length : Int) i (decide (b.f0 < fr) && !decide (fr < b.f0 + b.f1)) b.f0 b.f1 b.f2 b.f3 b.f4 := by
      by_cases hc : b.f0 < fr
      · rw [if_pos hc, above_f hb0 hb1 h3, Option.bind_some, decide_eq_true hc]; simp
      · rw [if_neg hc, decide_eq_false hc]; simp
    refine e1.trans ?_
    rw [mis_j1 _ _ _ _ _ _ _ _ _ _ _ _ _ _ _ hb0 hb1 h1 h2, show 3 * n + 2 = (3 * n + 1) + 1 from by omega, check_misplaced.j2]
    have hB : (decide (b.f0 < fr) && !decide (fr < b.f0 + b.f1) || decide (nx < b.f0 + b.f1) || !decide (st < b.f0 + b.f1)) = misB st nx fr b := rfl
    rw [hB]
    have ew : wrap64 ((i : Int) + 1) = ((i + 1 : Nat) : Int) := by unfold wrap64; omega
    have ih2 : check_misplaced.l0 (3 * n + 1) st nx fr l l (l.length : Int) (wrap64 ((i : Int) + 1)) = some (misL st nx fr (some b) (l.drop (i + 1))) := by
      rw [ew, ih, if_neg (by omega)]
      congr 2
      rw [show (((i + 1 : Nat) : Int) - 1) = (i : Int) from by omega, hrd]
      have := congrArg List.head? hd
      have h0 : l.drop i = l.getD i z61 :: l.drop (i + 1) := by
        have hd2 := drop_get (l := l) (i := (i : Int)) z61 (by omega) (by omega)
        rw [show ((i : Int)).toNat = i from by omega, show ((i : Int) + 1).toNat = i + 1 from by omega] at hd2
        exact hd2
      rw [h0] at hd
      injection hd with hd1 _
      rw [hd1]
    by_cases hm : misB st nx fr b = true
    · rw [if_pos hm, hm]; simp
    · rw [if_neg hm, Bool.not_eq_true _ |>.mp hm]
      by_cases h0 : i = 0
      · subst h0
        rw [if_neg (by decide), ih2]
        simp
      · have ew2 : wrap64 ((i : Int) - 1) = (i : Int) - 1 := by unfold wrap64; omega
        have hq := hw _ (get_mem (l := l) (i := (i : Int) - 1) z61 (by omega) (by omega))
        have hqr : rd_T61 l ((i : Int) - 1) = l.getD ((i : Int) - 1).toNat z61 := rfl
        rw [if_pos (by omega), ew2, if_pos (by omega), if_pos (by omega), if_neg h0, hqr]
        generalize l.getD ((i : Int) - 1).toNat z61 = q at hq ⊢
        obtain ⟨hq0, hq1⟩ := hq
        by_cases hc : b.f0 ≤ q.f0
        · rw [if_pos hc]; simp [misP, hc]
        · rw [if_neg hc, above_f hq0 hq1 hb0, Option.bind_some]
          by_cases hc2 : b.f0 < q.f0 + q.f1
          · rw [decide_eq_true hc2, if_pos rfl]; simp [misP, hc2]
          · rw [decide_eq_false hc2, if_neg (by decide), ih2]; simp [misP, hc, hc2]
theorem mis_f (st nx fr : Int) (l : List SB) (h1 : (Lit.int .i64 st).wf = true) (h2 : (Lit.int .i64 nx).wf = true) (h3 : (Lit.int .i64 fr).wf = true) (hl : l.length ≤ 140737488355328) (hw : ∀ b ∈ l, (Lit.int .i64 b.f0).wf = true ∧ (Lit.int .i64 b.f1).wf = true) :
    check_misplaced.f (3 * l.length + 1) st nx fr l = some (misL st nx fr none l) := by
  have h := mis_l0 st nx fr l h1 h2 h3 hl hw l.length 0 (by omega)
  exact h

end Go.Proofs.Ytdlkofmcioalfaa.PCk
