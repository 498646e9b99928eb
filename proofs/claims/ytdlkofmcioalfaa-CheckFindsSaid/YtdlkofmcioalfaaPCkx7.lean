-- written by a program of this session (wip/tools/pr.py, over the kit's printer): not by hand
import Derived.Test.YtdlkofmcioalfaaPCkx0
namespace Go.Proofs.Ytdlkofmcioalfaa.PCk
open Go.RowKit Go.Proofs.YtdlkofmcioalfaaW.PrintWords Go.Proofs.YtdlkofmcioalfaaW.PrintLast Go.Proofs.YtdlkofmcioalfaaW.PrintMore
attribute [local go_sem] max2_int min2_int max_two min_two max_three min_three max_four min_four   -- for this text's walks alone
set_option linter.unusedVariables false
set_option linter.unusedSimpArgs false

-- NOT PRINTED: function 12 (bollardref21_Check_Saw)

/-! ### bollardlaw24_CheckSaw -/
open Classical in
noncomputable def bollardlaw24_CheckSaw.f (_ : Nat) (l0 : List (S35)) : Option Bool := if ((l0.length * 72 ≤ 140737488351232 ∧ ∀ y0 ∈ l0, (y0.f0.size ≤ 140737488351232 ∧ ((Lit.int .i64 y0.f1).wf = true ∧ ((Lit.int .i64 y0.f2).wf = true ∧ ((Lit.int .i64 y0.f3).wf = true ∧ ((Lit.int .i64 y0.f4).wf = true ∧ (y0.f5.length * 56 ≤ 140737488351232 ∧ ∀ y1 ∈ y0.f5, ((Lit.int .i64 y1.f0).wf = true ∧ ((Lit.int .i64 y1.f1).wf = true ∧ ((Lit.int .i64 y1.f2).wf = true ∧ ((Lit.int .i64 y1.f3).wf = true ∧ (y1.f4.length * 64 ≤ 140737488351232 ∧ ∀ y2 ∈ y1.f4, (True ∧ (y2.f1.size ≤ 140737488351232 ∧ (True ∧ (y2.f3.size ≤ 140737488351232 ∧ ((Lit.int .i64 y2.f4).wf = true ∧ (Lit.int .i64 y2.f5).wf = true)))))))))))))))))) then some true else none

/-- THE ONE PURE STATEMENT of bollardlaw24_CheckSaw: mine. -/
def bollardlaw24_CheckSaw.Pure : Prop := ∀ (l0 : List (S35)), (l0.length * 72 ≤ 140737488351232 ∧ ∀ y0 ∈ l0, (y0.f0.size ≤ 140737488351232 ∧ ((Lit.int .i64 y0.f1).wf = true ∧ ((Lit.int .i64 y0.f2).wf = true ∧ ((Lit.int .i64 y0.f3).wf = true ∧ ((Lit.int .i64 y0.f4).wf = true ∧ (y0.f5.length * 56 ≤ 140737488351232 ∧ ∀ y1 ∈ y0.f5, ((Lit.int .i64 y1.f0).wf = true ∧ ((Lit.int .i64 y1.f1).wf = true ∧ ((Lit.int .i64 y1.f2).wf = true ∧ ((Lit.int .i64 y1.f3).wf = true ∧ (y1.f4.length * 64 ≤ 140737488351232 ∧ ∀ y2 ∈ y1.f4, (True ∧ (y2.f1.size ≤ 140737488351232 ∧ (True ∧ (y2.f3.size ≤ 140737488351232 ∧ ((Lit.int .i64 y2.f4).wf = true ∧ (Lit.int .i64 y2.f5).wf = true))))))))))))))))) → ∃ k, bollardlaw24_CheckSaw.f k l0 = some true

/-! ### bollardlaw24_CheckAlone -/
open Classical in
noncomputable def bollardlaw24_CheckAlone.f (_ : Nat) (l0 : List (S35)) : Option Bool := if ((l0.length * 72 ≤ 140737488351232 ∧ ∀ y0 ∈ l0, (y0.f0.size ≤ 140737488351232 ∧ ((Lit.int .i64 y0.f1).wf = true ∧ ((Lit.int .i64 y0.f2).wf = true ∧ ((Lit.int .i64 y0.f3).wf = true ∧ ((Lit.int .i64 y0.f4).wf = true ∧ (y0.f5.length * 56 ≤ 140737488351232 ∧ ∀ y1 ∈ y0.f5, ((Lit.int .i64 y1.f0).wf = true ∧ ((Lit.int .i64 y1.f1).wf = true ∧ ((Lit.int .i64 y1.f2).wf = true ∧ ((Lit.int .i64 y1.f3).wf = true ∧ (y1.f4.length * 64 ≤ 140737488351232 ∧ ∀ y2 ∈ y1.f4, (True ∧ (y2.f1.size ≤ 140737488351232 ∧ (True ∧ (y2.f3.size ≤ 140737488351232 ∧ ((Lit.int .i64 y2.f4).wf = true ∧ (Lit.int .i64 y2.f5).wf = true)))))))))))))))))) then some true else none

/-- THE ONE PURE STATEMENT of bollardlaw24_CheckAlone: mine. -/
def bollardlaw24_CheckAlone.Pure : Prop := ∀ (l0 : List (S35)), (l0.length * 72 ≤ 140737488351232 ∧ ∀ y0 ∈ l0, (y0.f0.size ≤ 140737488351232 ∧ ((Lit.int .i64 y0.f1).wf = true ∧ ((Lit.int .i64 y0.f2).wf = true ∧ ((Lit.int .i64 y0.f3).wf = true ∧ ((Lit.int .i64 y0.f4).wf = true ∧ (y0.f5.length * 56 ≤ 140737488351232 ∧ ∀ y1 ∈ y0.f5, ((Lit.int .i64 y1.f0).wf = true ∧ ((Lit.int .i64 y1.f1).wf = true ∧ ((Lit.int .i64 y1.f2).wf = true ∧ ((Lit.int .i64 y1.f3).wf = true ∧ (y1.f4.length * 64 ≤ 140737488351232 ∧ ∀ y2 ∈ y1.f4, (True ∧ (y2.f1.size ≤ 140737488351232 ∧ (True ∧ (y2.f3.size ≤ 140737488351232 ∧ ((Lit.int .i64 y2.f4).wf = true ∧ (Lit.int .i64 y2.f5).wf = true))))))))))))))))) → ∃ k, bollardlaw24_CheckAlone.f k l0 = some true

/-! ### bollardalike_Round: function 14 -/
def bollardalike_Round.f (a0 : Int) (a1 : Int) : Option (Int) := if a1 = 0 then (none) else (if (Int.tmod a0 a1) < 0 then (some (wrap64 ((Int.tmod a0 a1) + a1))) else (some (Int.tmod a0 a1)))
set_option maxHeartbeats 8000000 in
set_option maxRecDepth 100000 in
theorem bollardalike_Round.calls (a0 : Int) (a1 : Int) (r : Int) (w : World) (h : bollardalike_Round.f a0 a1 = some r) :
    Calls Try.prog 14 #[.int .i64 a0, .int .i64 a1] w fun e w' => e = .returned (.int .i64 r) ∧ Drawn0 w w' := by
  have H : (if a1 = 0 then (none) else (if (Int.tmod a0 a1) < 0 then (some (wrap64 ((Int.tmod a0 a1) + a1))) else (some (Int.tmod a0 a1)))) = some r := h
  clear h
  by_cases c3 : a1 = 0
  · rw [if_pos c3] at H
    exact absurd H (by simp)
  · rw [if_neg c3] at H
    have c3b0 : (a1 == 0) = false := beq_eq_false_iff_ne.mpr c3
    have c3b1 : (a1 != 0) = true := bne_iff_ne.mpr c3
    by_cases c4 : (Int.tmod a0 a1) < 0
    · rw [if_pos c4] at H
      have c4b0 : decide ((Int.tmod a0 a1) < 0) = true := decide_eq_true c4
      clear c4
      obtain rfl := Option.some.inj H
      go_enter Try.func14, Try.ntmps14
      go_wp2
      go_ret
      exact ⟨by first | rfl | (simp; done) | (simp [*]; done) | exact congrArg Value.bool (ne_empty _) | exact congrArg Value.bool (eq_empty _), by repeat (first | exact Drawn0.refl _ | apply Drawn0.step)⟩
    · rw [if_neg c4] at H
      have c4b0 : decide ((Int.tmod a0 a1) < 0) = false := decide_eq_false c4
      clear c4
      obtain rfl := Option.some.inj H
      go_enter Try.func14, Try.ntmps14
      go_wp2
      go_ret
      exact ⟨by first | rfl | (simp; done) | (simp [*]; done) | exact congrArg Value.bool (ne_empty _) | exact congrArg Value.bool (eq_empty _), by repeat (first | exact Drawn0.refl _ | apply Drawn0.step)⟩

/-! ### bollardlaw24_CheckFinds -/
open Classical in
noncomputable def bollardlaw24_CheckFinds.f (_ : Nat) (a0 : Int) (a1 : Int) : Option Bool := if ((Lit.int .i64 a0).wf = true) ∧ ((Lit.int .i64 a1).wf = true) then some true else none

/-- THE ONE PURE STATEMENT of bollardlaw24_CheckFinds: mine. -/
def bollardlaw24_CheckFinds.Pure : Prop := ∀ (a0 : Int) (a1 : Int), (Lit.int .i64 a0).wf = true → (Lit.int .i64 a1).wf = true → ∃ k, bollardlaw24_CheckFinds.f k a0 a1 = some true

-- NOT PRINTED: function 23 (bollardlaw24_again)

/-! ### bollardlaw24_CheckAfter -/
open Classical in
noncomputable def bollardlaw24_CheckAfter.f (_ : Nat) (l0 : List (S35)) (a1_0 : ByteArray) (a1_1 : Int) (a1_2 : Int) (a1_3 : Int) (a1_4 : Int) (l1_5 : List (S61)) : Option Bool := if ((l0.length * 72 ≤ 140737488351232 ∧ ∀ y0 ∈ l0, (y0.f0.size ≤ 140737488351232 ∧ ((Lit.int .i64 y0.f1).wf = true ∧ ((Lit.int .i64 y0.f2).wf = true ∧ ((Lit.int .i64 y0.f3).wf = true ∧ ((Lit.int .i64 y0.f4).wf = true ∧ (y0.f5.length * 56 ≤ 140737488351232 ∧ ∀ y1 ∈ y0.f5, ((Lit.int .i64 y1.f0).wf = true ∧ ((Lit.int .i64 y1.f1).wf = true ∧ ((Lit.int .i64 y1.f2).wf = true ∧ ((Lit.int .i64 y1.f3).wf = true ∧ (y1.f4.length * 64 ≤ 140737488351232 ∧ ∀ y2 ∈ y1.f4, (True ∧ (y2.f1.size ≤ 140737488351232 ∧ (True ∧ (y2.f3.size ≤ 140737488351232 ∧ ((Lit.int .i64 y2.f4).wf = true ∧ (Lit.int .i64 y2.f5).wf = true)))))))))))))))))) ∧ (a1_0.size ≤ 140737488351232) ∧ ((Lit.int .i64 a1_1).wf = true) ∧ ((Lit.int .i64 a1_2).wf = true) ∧ ((Lit.int .i64 a1_3).wf = true) ∧ ((Lit.int .i64 a1_4).wf = true) ∧ ((l1_5.length * 56 ≤ 140737488351232 ∧ ∀ y0 ∈ l1_5, ((Lit.int .i64 y0.f0).wf = true ∧ ((Lit.int .i64 y0.f1).wf = true ∧ ((Lit.int .i64 y0.f2).wf = true ∧ ((Lit.int .i64 y0.f3).wf = true ∧ (y0.f4.length * 64 ≤ 140737488351232 ∧ ∀ y1 ∈ y0.f4, (True ∧ (y1.f1.size ≤ 140737488351232 ∧ (True ∧ (y1.f3.size ≤ 140737488351232 ∧ ((Lit.int .i64 y1.f4).wf = true ∧ (Lit.int .i64 y1.f5).wf = true)))))))))))) then some true else none

/-- THE ONE PURE STATEMENT of bollardlaw24_CheckAfter: mine. -/
def bollardlaw24_CheckAfter.Pure : Prop := ∀ (l0 : List (S35)) (a1_0 : ByteArray) (a1_1 : Int) (a1_2 : Int) (a1_3 : Int) (a1_4 : Int) (l1_5 : List (S61)), (l0.length * 72 ≤ 140737488351232 ∧ ∀ y0 ∈ l0, (y0.f0.size ≤ 140737488351232 ∧ ((Lit.int .i64 y0.f1).wf = true ∧ ((Lit.int .i64 y0.f2).wf = true ∧ ((Lit.int .i64 y0.f3).wf = true ∧ ((Lit.int .i64 y0.f4).wf = true ∧ (y0.f5.length * 56 ≤ 140737488351232 ∧ ∀ y1 ∈ y0.f5, ((Lit.int .i64 y1.f0).wf = true ∧ ((Lit.int .i64 y1.f1).wf = true ∧ ((Lit.int .i64 y1.f2).wf = true ∧ ((Lit.int .i64 y1.f3).wf = true ∧ (y1.f4.length * 64 ≤ 140737488351232 ∧ ∀ y2 ∈ y1.f4, (True ∧ (y2.f1.size ≤ 140737488351232 ∧ (True ∧ (y2.f3.size ≤ 140737488351232 ∧ ((Lit.int .i64 y2.f4).wf = true ∧ (Lit.int .i64 y2.f5).wf = true))))))))))))))))) → a1_0.size ≤ 140737488351232 → (Lit.int .i64 a1_1).wf = true → (Lit.int .i64 a1_2).wf = true → (Lit.int .i64 a1_3).wf = true → (Lit.int .i64 a1_4).wf = true → (l1_5.length * 56 ≤ 140737488351232 ∧ ∀ y0 ∈ l1_5, ((Lit.int .i64 y0.f0).wf = true ∧ ((Lit.int .i64 y0.f1).wf = true ∧ ((Lit.int .i64 y0.f2).wf = true ∧ ((Lit.int .i64 y0.f3).wf = true ∧ (y0.f4.length * 64 ≤ 140737488351232 ∧ ∀ y1 ∈ y0.f4, (True ∧ (y1.f1.size ≤ 140737488351232 ∧ (True ∧ (y1.f3.size ≤ 140737488351232 ∧ ((Lit.int .i64 y1.f4).wf = true ∧ (Lit.int .i64 y1.f5).wf = true))))))))))) → ∃ k, bollardlaw24_CheckAfter.f k l0 a1_0 a1_1 a1_2 a1_3 a1_4 l1_5 = some true

end Go.Proofs.Ytdlkofmcioalfaa.PCk
