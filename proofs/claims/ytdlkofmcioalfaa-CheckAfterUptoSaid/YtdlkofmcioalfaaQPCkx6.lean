-- written by a program of this session (wip/tools/pr.py, over the kit's printer): not by hand
import Derived.Test.YtdlkofmcioalfaaQPCkx3
namespace Go.Proofs.Ytdlkofmcioalfaa.PCk
open Go.RowKit Go.Proofs.YtdlkofmcioalfaaW.PrintWords Go.Proofs.YtdlkofmcioalfaaW.PrintLast Go.Proofs.YtdlkofmcioalfaaW.PrintMore
attribute [local go_sem] max2_int min2_int max_two min_two max_three min_three max_four min_four   -- for this text's walks alone
set_option linter.unusedVariables false
set_option linter.unusedSimpArgs false

/-! ### bollardref21_rows: function 31 -/
def bollardref21_rows.l0 : Nat → Int → Int → Int → List (S61) → Int → Option (Bool)
  | 0, _, _, _, _, _ => none
  | k + 1, x0, x1, x2, x3, x9 => if x9 < (x3.length : Int) then (if 0 ≤ x9 then (if ((rd_T61 x3 x9).f0) < x2 then (if (wrap64 (((rd_T61 x3 x9).f0) + ((rd_T61 x3 x9).f1))) ≤ x2 then (some false) else (if x9 > 0 then (if 0 ≤ (wrap64 (x9 - 1)) then (if (wrap64 (x9 - 1)) < (x3.length : Int) then (if ((rd_T61 x3 x9).f0) < (wrap64 (((rd_T61 x3 (wrap64 (x9 - 1))).f0) + ((rd_T61 x3 (wrap64 (x9 - 1))).f1))) then (some false) else (if ((rd_T61 x3 x9).f0) ≤ ((rd_T61 x3 (wrap64 (x9 - 1))).f0) then (some false) else (if (wrap64 (((rd_T61 x3 x9).f0) + ((rd_T61 x3 x9).f1))) > x1 then (some false) else (if (wrap64 (((rd_T61 x3 x9).f0) + ((rd_T61 x3 x9).f1))) ≤ x0 then (some false) else (bollardref21_rows.l0 k x0 x1 x2 x3 (wrap64 (x9 + 1))))))) else (none)) else (none)) else (if (wrap64 (((rd_T61 x3 x9).f0) + ((rd_T61 x3 x9).f1))) > x1 then (some false) else (if (wrap64 (((rd_T61 x3 x9).f0) + ((rd_T61 x3 x9).f1))) ≤ x0 then (some false) else (bollardref21_rows.l0 k x0 x1 x2 x3 (wrap64 (x9 + 1))))))) else (if x9 > 0 then (if 0 ≤ (wrap64 (x9 - 1)) then (if (wrap64 (x9 - 1)) < (x3.length : Int) then (if ((rd_T61 x3 x9).f0) < (wrap64 (((rd_T61 x3 (wrap64 (x9 - 1))).f0) + ((rd_T61 x3 (wrap64 (x9 - 1))).f1))) then (some false) else (if ((rd_T61 x3 x9).f0) ≤ ((rd_T61 x3 (wrap64 (x9 - 1))).f0) then (some false) else (if (wrap64 (((rd_T61 x3 x9).f0) + ((rd_T61 x3 x9).f1))) > x1 then (some false) else (if (wrap64 (((rd_T61 x3 x9).f0) + ((rd_T61 x3 x9).f1))) ≤ x0 then (some false) else (bollardref21_rows.l0 k x0 x1 x2 x3 (wrap64 (x9 + 1))))))) else (none)) else (none)) else (if (wrap64 (((rd_T61 x3 x9).f0) + ((rd_T61 x3 x9).f1))) > x1 then (some false) else (if (wrap64 (((rd_T61 x3 x9).f0) + ((rd_T61 x3 x9).f1))) ≤ x0 then (some false) else (bollardref21_rows.l0 k x0 x1 x2 x3 (wrap64 (x9 + 1))))))) else (none)) else (some true)
def bollardref21_rows.f (k : Nat) (a0 : Int) (a1 : Int) (a2 : Int) (l3 : List (S61)) : Option (Bool) := bollardref21_rows.l0 k a0 a1 a2 l3 0
set_option maxHeartbeats 8000000 in
set_option maxRecDepth 100000 in
theorem bollardref21_rows.calls (k : Nat) (a0 : Int) (a1 : Int) (a2 : Int) (A3 : Option Addr) (c3 : Nat) (l3 : List (S61)) (r : Bool) (w : World) (hr3 : Kd.C k61 w A3 l3.length l3) (hc3 : l3.length ≤ c3) (h : bollardref21_rows.f k a0 a1 a2 l3 = some r) :
    Calls Try.prog 31 #[.int .i64 a0, .int .i64 a1, .int .i64 a2, .slice A3 l3.length c3] w fun e w' => e = .returned (.bool r) ∧ Drawn0 w w' := by
  have HR3 := Aside0.mk hr3
  have HC3 := Aside0.mk hc3
  clear hr3 hc3
  have H : (bollardref21_rows.l0 k a0 a1 a2 l3 0) = some r := h
  clear h
  have H' := Aside0.mk H
  clear H
  go_enter Try.func31, Try.ntmps31
  simp only [List.append_eq, List.cons_append, List.nil_append]
  go_wp2
  repeat (go_quiet (fail); try go_wp2)
  go_loopg [9] k (fun kq v9 w' => ∃ (x9_1 : Int), v9 = .int .i64 x9_1 ∧ Aside0 (bollardref21_rows.l0 kq a0 a1 a2 l3 x9_1 = some r) ∧ Aside0 (kq ≤ k) ∧ Drawn0 w w')
  case atStart => exact ⟨(0), (by first | rfl | (simp; done) | (simp [*]; done) | exact congrArg Value.bool (ne_empty _) | exact congrArg Value.bool (eq_empty _)), H', ⟨Nat.le_refl _⟩, by repeat (first | exact Drawn0.refl _ | apply Drawn0.step)⟩
  case round =>
    clear H'
    try clear p2
    try clear c3
    obtain ⟨x9_1, rfl, HA, HK1, ⟨m1, rfl⟩⟩ := hrel
    cases gk with
    | zero => exact absurd HA.out (by first | (intro h_; exact nomatch (show (none : Option _) = some r from h_)) | simp [bollardref21_rows.l0])
    | succ k1 =>
      have H := HA.out
      clear HA
      simp only [bollardref21_rows.l0] at H
      by_cases c5 : x9_1 < (l3.length : Int)
      · rw [if_pos c5] at H
        have c5b0 : decide (x9_1 < (l3.length : Int)) = true := decide_eq_true c5
        clear c5
        by_cases c6 : 0 ≤ x9_1
        · rw [if_pos c6] at H
          have c6b0 : decide (0 ≤ x9_1) = true := decide_eq_true c6
          clear c6
          by_cases c7 : ((rd_T61 l3 x9_1).f0) < a2
          · rw [if_pos c7] at H
            have c7b0 : decide (((rd_T61 l3 x9_1).f0) < a2) = true := decide_eq_true c7
            clear c7
            by_cases c8 : (wrap64 (((rd_T61 l3 x9_1).f0) + ((rd_T61 l3 x9_1).f1))) ≤ a2
            · rw [if_pos c8] at H
              have c8b0 : decide ((wrap64 (((rd_T61 l3 x9_1).f0) + ((rd_T61 l3 x9_1).f1))) ≤ a2) = true := decide_eq_true c8
              clear c8
              obtain rfl := Option.some.inj H
              have p138 : 0 ≤ (x9_1 : Int) := of_decide_eq_true (by first | (with_reducible assumption) | assumption)
              have q138 : x9_1 < (l3.length : Int) := of_decide_eq_true (by first | (with_reducible assumption) | assumption)
              obtain ⟨ad138, A138_4, c138_4, e138, hx138_0, hx138_1, hx138_2, hx138_3, hx138_4, hl138_4, hi138_4⟩ := at_T61 HR3.out x9_1 p138 q138
              cases e138
              have HR138_4 := Aside0.mk hi138_4
              have HC138_4 := Aside0.mk hl138_4
              clear hi138_4 hl138_4
              replace p138 := eq_true p138
              replace q138 := eq_true q138
              have p139 : 0 ≤ (x9_1 : Int) := of_decide_eq_true (by first | (with_reducible assumption) | assumption)
              have q139 : x9_1 < (l3.length : Int) := of_decide_eq_true (by first | (with_reducible assumption) | assumption)
              obtain ⟨ad139, A139_4, c139_4, e139, hx139_0, hx139_1, hx139_2, hx139_3, hx139_4, hl139_4, hi139_4⟩ := at_T61 HR3.out x9_1 p139 q139
              obtain rfl : ad138 = ad139 := (by injection e139)
              have HR139_4 := Aside0.mk hi139_4
              have HC139_4 := Aside0.mk hl139_4
              clear hi139_4 hl139_4
              replace p139 := eq_true p139
              replace q139 := eq_true q139
              have ea_ := Option.some.inj (hx138_4.symm.trans hx139_4)
              injection ea_ with ea_ en_ ec_
              subst ea_
              subst ec_
              clear en_
              have p140 : 0 ≤ (x9_1 : Int) := of_decide_eq_true (by first | (with_reducible assumption) | assumption)
              have q140 : x9_1 < (l3.length : Int) := of_decide_eq_true (by first | (with_reducible assumption) | assumption)
              obtain ⟨ad140, A140_4, c140_4, e140, hx140_0, hx140_1, hx140_2, hx140_3, hx140_4, hl140_4, hi140_4⟩ := at_T61 HR3.out x9_1 p140 q140
              obtain rfl : ad138 = ad140 := (by injection e140)
              have HR140_4 := Aside0.mk hi140_4
              have HC140_4 := Aside0.mk hl140_4
              clear hi140_4 hl140_4
              replace p140 := eq_true p140
              replace q140 := eq_true q140
              have ea_ := Option.some.inj (hx138_4.symm.trans hx140_4)
              injection ea_ with ea_ en_ ec_
              subst ea_
              subst ec_
              clear en_
              go_wp2
              repeat (go_quiet (fail); try go_wp2)
              go_ret
              exact ⟨by first | rfl | (simp; done) | (simp [*]; done) | exact congrArg Value.bool (ne_empty _) | exact congrArg Value.bool (eq_empty _), by repeat (first | exact Drawn0.refl _ | apply Drawn0.step)⟩
            · rw [if_neg c8] at H
              have c8b0 : decide ((wrap64 (((rd_T61 l3 x9_1).f0) + ((rd_T61 l3 x9_1).f1))) ≤ a2) = false := decide_eq_false c8
              clear c8
              by_cases c9 : x9_1 > 0
              · rw [if_pos c9] at H
                have c9b0 : decide (0 < x9_1) = true := decide_eq_true c9
                clear c9
                obtain ⟨ji10, hji10⟩ : ∃ j_ : Int, (wrap64 (x9_1 - 1)) = j_ := ⟨_, rfl⟩
                replace H : (if 0 ≤ (ji10) then (if (ji10) < (l3.length : Int) then (if ((rd_T61 l3 x9_1).f0) < (wrap64 (((rd_T61 l3 (ji10)).f0) + ((rd_T61 l3 (ji10)).f1))) then (some false) else (if ((rd_T61 l3 x9_1).f0) ≤ ((rd_T61 l3 (ji10)).f0) then (some false) else (if (wrap64 (((rd_T61 l3 x9_1).f0) + ((rd_T61 l3 x9_1).f1))) > a1 then (some false) else (if (wrap64 (((rd_T61 l3 x9_1).f0) + ((rd_T61 l3 x9_1).f1))) ≤ a0 then (some false) else (bollardref21_rows.l0 k1 a0 a1 a2 l3 (wrap64 (x9_1 + 1))))))) else (none)) else (none)) = some r := by first | (rw [hji10] at H; exact H) | (simp only [hji10] at H ⊢; exact H)
                have hji10w : (IntKind.i64.wrap (x9_1 - 1)) = ji10 := (i64_w _).trans hji10
                by_cases c11 : 0 ≤ (ji10)
                · rw [if_pos c11] at H
                  have c11b0 : decide (0 ≤ (ji10)) = true := decide_eq_true c11
                  clear c11
                  by_cases c12 : (ji10) < (l3.length : Int)
                  · rw [if_pos c12] at H
                    have c12b0 : decide ((ji10) < (l3.length : Int)) = true := decide_eq_true c12
                    clear c12
                    by_cases c13 : ((rd_T61 l3 x9_1).f0) < (wrap64 (((rd_T61 l3 (ji10)).f0) + ((rd_T61 l3 (ji10)).f1)))
                    · rw [if_pos c13] at H
                      have c13b0 : decide (((rd_T61 l3 x9_1).f0) < (wrap64 (((rd_T61 l3 (ji10)).f0) + ((rd_T61 l3 (ji10)).f1)))) = true := decide_eq_true c13
                      clear c13
                      obtain rfl := Option.some.inj H
                      have p138 : 0 ≤ (x9_1 : Int) := of_decide_eq_true (by first | (with_reducible assumption) | assumption)
                      have q138 : x9_1 < (l3.length : Int) := of_decide_eq_true (by first | (with_reducible assumption) | assumption)
                      obtain ⟨ad138, A138_4, c138_4, e138, hx138_0, hx138_1, hx138_2, hx138_3, hx138_4, hl138_4, hi138_4⟩ := at_T61 HR3.out x9_1 p138 q138
                      cases e138
                      have HR138_4 := Aside0.mk hi138_4
                      have HC138_4 := Aside0.mk hl138_4
                      clear hi138_4 hl138_4
                      replace p138 := eq_true p138
                      replace q138 := eq_true q138
                      have p139 : 0 ≤ (x9_1 : Int) := of_decide_eq_true (by first | (with_reducible assumption) | assumption)
                      have q139 : x9_1 < (l3.length : Int) := of_decide_eq_true (by first | (with_reducible assumption) | assumption)
                      obtain ⟨ad139, A139_4, c139_4, e139, hx139_0, hx139_1, hx139_2, hx139_3, hx139_4, hl139_4, hi139_4⟩ := at_T61 HR3.out x9_1 p139 q139
                      obtain rfl : ad138 = ad139 := (by injection e139)
                      have HR139_4 := Aside0.mk hi139_4
                      have HC139_4 := Aside0.mk hl139_4
                      clear hi139_4 hl139_4
                      replace p139 := eq_true p139
                      replace q139 := eq_true q139
                      have ea_ := Option.some.inj (hx138_4.symm.trans hx139_4)
                      injection ea_ with ea_ en_ ec_
                      subst ea_
                      subst ec_
                      clear en_
                      have p140 : 0 ≤ (x9_1 : Int) := of_decide_eq_true (by first | (with_reducible assumption) | assumption)
                      have q140 : x9_1 < (l3.length : Int) := of_decide_eq_true (by first | (with_reducible assumption) | assumption)
                      obtain ⟨ad140, A140_4, c140_4, e140, hx140_0, hx140_1, hx140_2, hx140_3, hx140_4, hl140_4, hi140_4⟩ := at_T61 HR3.out x9_1 p140 q140
                      obtain rfl : ad138 = ad140 := (by injection e140)
                      have HR140_4 := Aside0.mk hi140_4
                      have HC140_4 := Aside0.mk hl140_4
                      clear hi140_4 hl140_4
                      replace p140 := eq_true p140
                      replace q140 := eq_true q140
                      have ea_ := Option.some.inj (hx138_4.symm.trans hx140_4)
                      injection ea_ with ea_ en_ ec_
                      subst ea_
                      subst ec_
                      clear en_
                      have p141 : 0 ≤ (x9_1 : Int) := of_decide_eq_true (by first | (with_reducible assumption) | assumption)
                      have q141 : x9_1 < (l3.length : Int) := of_decide_eq_true (by first | (with_reducible assumption) | assumption)
                      obtain ⟨ad141, A141_4, c141_4, e141, hx141_0, hx141_1, hx141_2, hx141_3, hx141_4, hl141_4, hi141_4⟩ := at_T61 HR3.out x9_1 p141 q141
                      obtain rfl : ad138 = ad141 := (by injection e141)
                      have HR141_4 := Aside0.mk hi141_4
                      have HC141_4 := Aside0.mk hl141_4
                      clear hi141_4 hl141_4
                      replace p141 := eq_true p141
                      replace q141 := eq_true q141
                      have ea_ := Option.some.inj (hx138_4.symm.trans hx141_4)
                      injection ea_ with ea_ en_ ec_
                      subst ea_
                      subst ec_
                      clear en_
                      have p142 : 0 ≤ ((ji10) : Int) := of_decide_eq_true (by first | (with_reducible assumption) | assumption)
                      have q142 : (ji10) < (l3.length : Int) := of_decide_eq_true (by first | (with_reducible assumption) | assumption)
                      obtain ⟨ad142, A142_4, c142_4, e142, hx142_0, hx142_1, hx142_2, hx142_3, hx142_4, hl142_4, hi142_4⟩ := at_T61 HR3.out (ji10) p142 q142
                      obtain rfl : ad138 = ad142 := (by injection e142)
                      have HR142_4 := Aside0.mk hi142_4
                      have HC142_4 := Aside0.mk hl142_4
                      clear hi142_4 hl142_4
                      replace p142 := eq_true p142
                      replace q142 := eq_true q142
                      have p143 : 0 ≤ ((ji10) : Int) := of_decide_eq_true (by first | (with_reducible assumption) | assumption)
                      have q143 : (ji10) < (l3.length : Int) := of_decide_eq_true (by first | (with_reducible assumption) | assumption)
                      obtain ⟨ad143, A143_4, c143_4, e143, hx143_0, hx143_1, hx143_2, hx143_3, hx143_4, hl143_4, hi143_4⟩ := at_T61 HR3.out (ji10) p143 q143
                      obtain rfl : ad138 = ad143 := (by injection e143)
                      have HR143_4 := Aside0.mk hi143_4
                      have HC143_4 := Aside0.mk hl143_4
                      clear hi143_4 hl143_4
                      replace p143 := eq_true p143
                      replace q143 := eq_true q143
                      have ea_ := Option.some.inj (hx142_4.symm.trans hx143_4)
                      injection ea_ with ea_ en_ ec_
                      subst ea_
                      subst ec_
                      clear en_
                      go_wp2
                      repeat (go_quiet (fail); try go_wp2)
                      go_ret
                      exact ⟨by first | rfl | (simp; done) | (simp only [← hji10] <;> (first | rfl | simp)) | (simp [*]; done), by repeat (first | exact Drawn0.refl _ | apply Drawn0.step)⟩
                    · rw [if_neg c13] at H
                      have c13b0 : decide (((rd_T61 l3 x9_1).f0) < (wrap64 (((rd_T61 l3 (ji10)).f0) + ((rd_T61 l3 (ji10)).f1)))) = false := decide_eq_false c13
                      clear c13
                      by_cases c14 : ((rd_T61 l3 x9_1).f0) ≤ ((rd_T61 l3 (ji10)).f0)
                      · rw [if_pos c14] at H
                        have c14b0 : decide (((rd_T61 l3 x9_1).f0) ≤ ((rd_T61 l3 (ji10)).f0)) = true := decide_eq_true c14
                        clear c14
                        obtain rfl := Option.some.inj H
                        have p138 : 0 ≤ (x9_1 : Int) := of_decide_eq_true (by first | (with_reducible assumption) | assumption)
                        have q138 : x9_1 < (l3.length : Int) := of_decide_eq_true (by first | (with_reducible assumption) | assumption)
                        obtain ⟨ad138, A138_4, c138_4, e138, hx138_0, hx138_1, hx138_2, hx138_3, hx138_4, hl138_4, hi138_4⟩ := at_T61 HR3.out x9_1 p138 q138
                        cases e138
                        have HR138_4 := Aside0.mk hi138_4
                        have HC138_4 := Aside0.mk hl138_4
                        clear hi138_4 hl138_4
                        replace p138 := eq_true p138
                        replace q138 := eq_true q138
                        have p139 : 0 ≤ (x9_1 : Int) := of_decide_eq_true (by first | (with_reducible assumption) | assumption)
                        have q139 : x9_1 < (l3.length : Int) := of_decide_eq_true (by first | (with_reducible assumption) | assumption)
                        obtain ⟨ad139, A139_4, c139_4, e139, hx139_0, hx139_1, hx139_2, hx139_3, hx139_4, hl139_4, hi139_4⟩ := at_T61 HR3.out x9_1 p139 q139
                        obtain rfl : ad138 = ad139 := (by injection e139)
                        have HR139_4 := Aside0.mk hi139_4
                        have HC139_4 := Aside0.mk hl139_4
                        clear hi139_4 hl139_4
                        replace p139 := eq_true p139
                        replace q139 := eq_true q139
                        have ea_ := Option.some.inj (hx138_4.symm.trans hx139_4)
                        injection ea_ with ea_ en_ ec_
                        subst ea_
                        subst ec_
                        clear en_
                        have p140 : 0 ≤ (x9_1 : Int) := of_decide_eq_true (by first | (with_reducible assumption) | assumption)
                        have q140 : x9_1 < (l3.length : Int) := of_decide_eq_true (by first | (with_reducible assumption) | assumption)
                        obtain ⟨ad140, A140_4, c140_4, e140, hx140_0, hx140_1, hx140_2, hx140_3, hx140_4, hl140_4, hi140_4⟩ := at_T61 HR3.out x9_1 p140 q140
                        obtain rfl : ad138 = ad140 := (by injection e140)
                        have HR140_4 := Aside0.mk hi140_4
                        have HC140_4 := Aside0.mk hl140_4
                        clear hi140_4 hl140_4
                        replace p140 := eq_true p140
                        replace q140 := eq_true q140
                        have ea_ := Option.some.inj (hx138_4.symm.trans hx140_4)
                        injection ea_ with ea_ en_ ec_
                        subst ea_
                        subst ec_
                        clear en_
                        have p141 : 0 ≤ (x9_1 : Int) := of_decide_eq_true (by first | (with_reducible assumption) | assumption)
                        have q141 : x9_1 < (l3.length : Int) := of_decide_eq_true (by first | (with_reducible assumption) | assumption)
                        obtain ⟨ad141, A141_4, c141_4, e141, hx141_0, hx141_1, hx141_2, hx141_3, hx141_4, hl141_4, hi141_4⟩ := at_T61 HR3.out x9_1 p141 q141
                        obtain rfl : ad138 = ad141 := (by injection e141)
                        have HR141_4 := Aside0.mk hi141_4
                        have HC141_4 := Aside0.mk hl141_4
                        clear hi141_4 hl141_4
                        replace p141 := eq_true p141
                        replace q141 := eq_true q141
                        have ea_ := Option.some.inj (hx138_4.symm.trans hx141_4)
                        injection ea_ with ea_ en_ ec_
                        subst ea_
                        subst ec_
                        clear en_
                        have p142 : 0 ≤ ((ji10) : Int) := of_decide_eq_true (by first | (with_reducible assumption) | assumption)
                        have q142 : (ji10) < (l3.length : Int) := of_decide_eq_true (by first | (with_reducible assumption) | assumption)
                        obtain ⟨ad142, A142_4, c142_4, e142, hx142_0, hx142_1, hx142_2, hx142_3, hx142_4, hl142_4, hi142_4⟩ := at_T61 HR3.out (ji10) p142 q142
                        obtain rfl : ad138 = ad142 := (by injection e142)
                        have HR142_4 := Aside0.mk hi142_4
                        have HC142_4 := Aside0.mk hl142_4
                        clear hi142_4 hl142_4
                        replace p142 := eq_true p142
                        replace q142 := eq_true q142
                        have p143 : 0 ≤ ((ji10) : Int) := of_decide_eq_true (by first | (with_reducible assumption) | assumption)
                        have q143 : (ji10) < (l3.length : Int) := of_decide_eq_true (by first | (with_reducible assumption) | assumption)
                        obtain ⟨ad143, A143_4, c143_4, e143, hx143_0, hx143_1, hx143_2, hx143_3, hx143_4, hl143_4, hi143_4⟩ := at_T61 HR3.out (ji10) p143 q143
                        obtain rfl : ad138 = ad143 := (by injection e143)
                        have HR143_4 := Aside0.mk hi143_4
                        have HC143_4 := Aside0.mk hl143_4
                        clear hi143_4 hl143_4
                        replace p143 := eq_true p143
                        replace q143 := eq_true q143
                        have ea_ := Option.some.inj (hx142_4.symm.trans hx143_4)
                        injection ea_ with ea_ en_ ec_
                        subst ea_
                        subst ec_
                        clear en_
                        have p144 : 0 ≤ (x9_1 : Int) := of_decide_eq_true (by first | (with_reducible assumption) | assumption)
                        have q144 : x9_1 < (l3.length : Int) := of_decide_eq_true (by first | (with_reducible assumption) | assumption)
                        obtain ⟨ad144, A144_4, c144_4, e144, hx144_0, hx144_1, hx144_2, hx144_3, hx144_4, hl144_4, hi144_4⟩ := at_T61 HR3.out x9_1 p144 q144
                        obtain rfl : ad138 = ad144 := (by injection e144)
                        have HR144_4 := Aside0.mk hi144_4
                        have HC144_4 := Aside0.mk hl144_4
                        clear hi144_4 hl144_4
                        replace p144 := eq_true p144
                        replace q144 := eq_true q144
                        have ea_ := Option.some.inj (hx138_4.symm.trans hx144_4)
                        injection ea_ with ea_ en_ ec_
                        subst ea_
                        subst ec_
                        clear en_
                        have p145 : 0 ≤ ((ji10) : Int) := of_decide_eq_true (by first | (with_reducible assumption) | assumption)
                        have q145 : (ji10) < (l3.length : Int) := of_decide_eq_true (by first | (with_reducible assumption) | assumption)
                        obtain ⟨ad145, A145_4, c145_4, e145, hx145_0, hx145_1, hx145_2, hx145_3, hx145_4, hl145_4, hi145_4⟩ := at_T61 HR3.out (ji10) p145 q145
                        obtain rfl : ad138 = ad145 := (by injection e145)
                        have HR145_4 := Aside0.mk hi145_4
                        have HC145_4 := Aside0.mk hl145_4
                        clear hi145_4 hl145_4
                        replace p145 := eq_true p145
                        replace q145 := eq_true q145
                        have ea_ := Option.some.inj (hx142_4.symm.trans hx145_4)
                        injection ea_ with ea_ en_ ec_
                        subst ea_
                        subst ec_
                        clear en_
                        go_wp2
                        repeat (go_quiet (fail); try go_wp2)
                        go_ret
                        exact ⟨by first | rfl | (simp; done) | (simp only [← hji10] <;> (first | rfl | simp)) | (simp [*]; done), by repeat (first | exact Drawn0.refl _ | apply Drawn0.step)⟩
                      · rw [if_neg c14] at H
                        have c14b0 : decide (((rd_T61 l3 x9_1).f0) ≤ ((rd_T61 l3 (ji10)).f0)) = false := decide_eq_false c14
                        clear c14
                        by_cases c15 : (wrap64 (((rd_T61 l3 x9_1).f0) + ((rd_T61 l3 x9_1).f1))) > a1
                        · rw [if_pos c15] at H
                          have c15b0 : decide (a1 < (wrap64 (((rd_T61 l3 x9_1).f0) + ((rd_T61 l3 x9_1).f1)))) = true := decide_eq_true c15
                          clear c15
                          obtain rfl := Option.some.inj H
                          have p138 : 0 ≤ (x9_1 : Int) := of_decide_eq_true (by first | (with_reducible assumption) | assumption)
                          have q138 : x9_1 < (l3.length : Int) := of_decide_eq_true (by first | (with_reducible assumption) | assumption)
                          obtain ⟨ad138, A138_4, c138_4, e138, hx138_0, hx138_1, hx138_2, hx138_3, hx138_4, hl138_4, hi138_4⟩ := at_T61 HR3.out x9_1 p138 q138
                          cases e138
                          have HR138_4 := Aside0.mk hi138_4
                          have HC138_4 := Aside0.mk hl138_4
                          clear hi138_4 hl138_4
                          replace p138 := eq_true p138
                          replace q138 := eq_true q138
                          have p139 : 0 ≤ (x9_1 : Int) := of_decide_eq_true (by first | (with_reducible assumption) | assumption)
                          have q139 : x9_1 < (l3.length : Int) := of_decide_eq_true (by first | (with_reducible assumption) | assumption)
                          obtain ⟨ad139, A139_4, c139_4, e139, hx139_0, hx139_1, hx139_2, hx139_3, hx139_4, hl139_4, hi139_4⟩ := at_T61 HR3.out x9_1 p139 q139
                          obtain rfl : ad138 = ad139 := (by injection e139)
                          have HR139_4 := Aside0.mk hi139_4
                          have HC139_4 := Aside0.mk hl139_4
                          clear hi139_4 hl139_4
                          replace p139 := eq_true p139
                          replace q139 := eq_true q139
                          have ea_ := Option.some.inj (hx138_4.symm.trans hx139_4)
                          injection ea_ with ea_ en_ ec_
                          subst ea_
                          subst ec_
                          clear en_
                          have p140 : 0 ≤ (x9_1 : Int) := of_decide_eq_true (by first | (with_reducible assumption) | assumption)
                          have q140 : x9_1 < (l3.length : Int) := of_decide_eq_true (by first | (with_reducible assumption) | assumption)
                          obtain ⟨ad140, A140_4, c140_4, e140, hx140_0, hx140_1, hx140_2, hx140_3, hx140_4, hl140_4, hi140_4⟩ := at_T61 HR3.out x9_1 p140 q140
                          obtain rfl : ad138 = ad140 := (by injection e140)
                          have HR140_4 := Aside0.mk hi140_4
                          have HC140_4 := Aside0.mk hl140_4
                          clear hi140_4 hl140_4
                          replace p140 := eq_true p140
                          replace q140 := eq_true q140
                          have ea_ := Option.some.inj (hx138_4.symm.trans hx140_4)
                          injection ea_ with ea_ en_ ec_
                          subst ea_
                          subst ec_
                          clear en_
                          have p141 : 0 ≤ (x9_1 : Int) := of_decide_eq_true (by first | (with_reducible assumption) | assumption)
                          have q141 : x9_1 < (l3.length : Int) := of_decide_eq_true (by first | (with_reducible assumption) | assumption)
                          obtain ⟨ad141, A141_4, c141_4, e141, hx141_0, hx141_1, hx141_2, hx141_3, hx141_4, hl141_4, hi141_4⟩ := at_T61 HR3.out x9_1 p141 q141
                          obtain rfl : ad138 = ad141 := (by injection e141)
                          have HR141_4 := Aside0.mk hi141_4
                          have HC141_4 := Aside0.mk hl141_4
                          clear hi141_4 hl141_4
                          replace p141 := eq_true p141
                          replace q141 := eq_true q141
                          have ea_ := Option.some.inj (hx138_4.symm.trans hx141_4)
                          injection ea_ with ea_ en_ ec_
                          subst ea_
                          subst ec_
                          clear en_
                          have p142 : 0 ≤ ((ji10) : Int) := of_decide_eq_true (by first | (with_reducible assumption) | assumption)
                          have q142 : (ji10) < (l3.length : Int) := of_decide_eq_true (by first | (with_reducible assumption) | assumption)
                          obtain ⟨ad142, A142_4, c142_4, e142, hx142_0, hx142_1, hx142_2, hx142_3, hx142_4, hl142_4, hi142_4⟩ := at_T61 HR3.out (ji10) p142 q142
                          obtain rfl : ad138 = ad142 := (by injection e142)
                          have HR142_4 := Aside0.mk hi142_4
                          have HC142_4 := Aside0.mk hl142_4
                          clear hi142_4 hl142_4
                          replace p142 := eq_true p142
                          replace q142 := eq_true q142
                          have p143 : 0 ≤ ((ji10) : Int) := of_decide_eq_true (by first | (with_reducible assumption) | assumption)
                          have q143 : (ji10) < (l3.length : Int) := of_decide_eq_true (by first | (with_reducible assumption) | assumption)
                          obtain ⟨ad143, A143_4, c143_4, e143, hx143_0, hx143_1, hx143_2, hx143_3, hx143_4, hl143_4, hi143_4⟩ := at_T61 HR3.out (ji10) p143 q143
                          obtain rfl : ad138 = ad143 := (by injection e143)
                          have HR143_4 := Aside0.mk hi143_4
                          have HC143_4 := Aside0.mk hl143_4
                          clear hi143_4 hl143_4
                          replace p143 := eq_true p143
                          replace q143 := eq_true q143
                          have ea_ := Option.some.inj (hx142_4.symm.trans hx143_4)
                          injection ea_ with ea_ en_ ec_
                          subst ea_
                          subst ec_
                          clear en_
                          have p144 : 0 ≤ (x9_1 : Int) := of_decide_eq_true (by first | (with_reducible assumption) | assumption)
                          have q144 : x9_1 < (l3.length : Int) := of_decide_eq_true (by first | (with_reducible assumption) | assumption)
                          obtain ⟨ad144, A144_4, c144_4, e144, hx144_0, hx144_1, hx144_2, hx144_3, hx144_4, hl144_4, hi144_4⟩ := at_T61 HR3.out x9_1 p144 q144
                          obtain rfl : ad138 = ad144 := (by injection e144)
                          have HR144_4 := Aside0.mk hi144_4
                          have HC144_4 := Aside0.mk hl144_4
                          clear hi144_4 hl144_4
                          replace p144 := eq_true p144
                          replace q144 := eq_true q144
                          have ea_ := Option.some.inj (hx138_4.symm.trans hx144_4)
                          injection ea_ with ea_ en_ ec_
                          subst ea_
                          subst ec_
                          clear en_
                          have p145 : 0 ≤ ((ji10) : Int) := of_decide_eq_true (by first | (with_reducible assumption) | assumption)
                          have q145 : (ji10) < (l3.length : Int) := of_decide_eq_true (by first | (with_reducible assumption) | assumption)
                          obtain ⟨ad145, A145_4, c145_4, e145, hx145_0, hx145_1, hx145_2, hx145_3, hx145_4, hl145_4, hi145_4⟩ := at_T61 HR3.out (ji10) p145 q145
                          obtain rfl : ad138 = ad145 := (by injection e145)
                          have HR145_4 := Aside0.mk hi145_4
                          have HC145_4 := Aside0.mk hl145_4
                          clear hi145_4 hl145_4
                          replace p145 := eq_true p145
                          replace q145 := eq_true q145
                          have ea_ := Option.some.inj (hx142_4.symm.trans hx145_4)
                          injection ea_ with ea_ en_ ec_
                          subst ea_
                          subst ec_
                          clear en_
                          go_wp2
                          repeat (go_quiet (fail); try go_wp2)
                          go_ret
                          exact ⟨by first | rfl | (simp; done) | (simp only [← hji10] <;> (first | rfl | simp)) | (simp [*]; done), by repeat (first | exact Drawn0.refl _ | apply Drawn0.step)⟩
                        · rw [if_neg c15] at H
                          have c15b0 : decide (a1 < (wrap64 (((rd_T61 l3 x9_1).f0) + ((rd_T61 l3 x9_1).f1)))) = false := decide_eq_false c15
                          clear c15
                          by_cases c16 : (wrap64 (((rd_T61 l3 x9_1).f0) + ((rd_T61 l3 x9_1).f1))) ≤ a0
                          · rw [if_pos c16] at H
                            have c16b0 : decide ((wrap64 (((rd_T61 l3 x9_1).f0) + ((rd_T61 l3 x9_1).f1))) ≤ a0) = true := decide_eq_true c16
                            clear c16
                            obtain rfl := Option.some.inj H
                            have p138 : 0 ≤ (x9_1 : Int) := of_decide_eq_true (by first | (with_reducible assumption) | assumption)
                            have q138 : x9_1 < (l3.length : Int) := of_decide_eq_true (by first | (with_reducible assumption) | assumption)
                            obtain ⟨ad138, A138_4, c138_4, e138, hx138_0, hx138_1, hx138_2, hx138_3, hx138_4, hl138_4, hi138_4⟩ := at_T61 HR3.out x9_1 p138 q138
                            cases e138
                            have HR138_4 := Aside0.mk hi138_4
                            have HC138_4 := Aside0.mk hl138_4
                            clear hi138_4 hl138_4
                            replace p138 := eq_true p138
                            replace q138 := eq_true q138
                            have p139 : 0 ≤ (x9_1 : Int) := of_decide_eq_true (by first | (with_reducible assumption) | assumption)
                            have q139 : x9_1 < (l3.length : Int) := of_decide_eq_true (by first | (with_reducible assumption) | assumption)
                            obtain ⟨ad139, A139_4, c139_4, e139, hx139_0, hx139_1, hx139_2, hx139_3, hx139_4, hl139_4, hi139_4⟩ := at_T61 HR3.out x9_1 p139 q139
                            obtain rfl : ad138 = ad139 := (by injection e139)
                            have HR139_4 := Aside0.mk hi139_4
                            have HC139_4 := Aside0.mk hl139_4
                            clear hi139_4 hl139_4
                            replace p139 := eq_true p139
                            replace q139 := eq_true q139
                            have ea_ := Option.some.inj (hx138_4.symm.trans hx139_4)
                            injection ea_ with ea_ en_ ec_
                            subst ea_
                            subst ec_
                            clear en_
                            have p140 : 0 ≤ (x9_1 : Int) := of_decide_eq_true (by first | (with_reducible assumption) | assumption)
                            have q140 : x9_1 < (l3.length : Int) := of_decide_eq_true (by first | (with_reducible assumption) | assumption)
                            obtain ⟨ad140, A140_4, c140_4, e140, hx140_0, hx140_1, hx140_2, hx140_3, hx140_4, hl140_4, hi140_4⟩ := at_T61 HR3.out x9_1 p140 q140
                            obtain rfl : ad138 = ad140 := (by injection e140)
                            have HR140_4 := Aside0.mk hi140_4
                            have HC140_4 := Aside0.mk hl140_4
                            clear hi140_4 hl140_4
                            replace p140 := eq_true p140
                            replace q140 := eq_true q140
                            have ea_ := Option.some.inj (hx138_4.symm.trans hx140_4)
                            injection ea_ with ea_ en_ ec_
                            subst ea_
                            subst ec_
                            clear en_
                            have p141 : 0 ≤ (x9_1 : Int) := of_decide_eq_true (by first | (with_reducible assumption) | assumption)
                            have q141 : x9_1 < (l3.length : Int) := of_decide_eq_true (by first | (with_reducible assumption) | assumption)
                            obtain ⟨ad141, A141_4, c141_4, e141, hx141_0, hx141_1, hx141_2, hx141_3, hx141_4, hl141_4, hi141_4⟩ := at_T61 HR3.out x9_1 p141 q141
                            obtain rfl : ad138 = ad141 := (by injection e141)
                            have HR141_4 := Aside0.mk hi141_4
                            have HC141_4 := Aside0.mk hl141_4
                            clear hi141_4 hl141_4
                            replace p141 := eq_true p141
                            replace q141 := eq_true q141
                            have ea_ := Option.some.inj (hx138_4.symm.trans hx141_4)
                            injection ea_ with ea_ en_ ec_
                            subst ea_
                            subst ec_
                            clear en_
                            have p142 : 0 ≤ ((ji10) : Int) := of_decide_eq_true (by first | (with_reducible assumption) | assumption)
                            have q142 : (ji10) < (l3.length : Int) := of_decide_eq_true (by first | (with_reducible assumption) | assumption)
                            obtain ⟨ad142, A142_4, c142_4, e142, hx142_0, hx142_1, hx142_2, hx142_3, hx142_4, hl142_4, hi142_4⟩ := at_T61 HR3.out (ji10) p142 q142
                            obtain rfl : ad138 = ad142 := (by injection e142)
                            have HR142_4 := Aside0.mk hi142_4
                            have HC142_4 := Aside0.mk hl142_4
                            clear hi142_4 hl142_4
                            replace p142 := eq_true p142
                            replace q142 := eq_true q142
                            have p143 : 0 ≤ ((ji10) : Int) := of_decide_eq_true (by first | (with_reducible assumption) | assumption)
                            have q143 : (ji10) < (l3.length : Int) := of_decide_eq_true (by first | (with_reducible assumption) | assumption)
                            obtain ⟨ad143, A143_4, c143_4, e143, hx143_0, hx143_1, hx143_2, hx143_3, hx143_4, hl143_4, hi143_4⟩ := at_T61 HR3.out (ji10) p143 q143
                            obtain rfl : ad138 = ad143 := (by injection e143)
                            have HR143_4 := Aside0.mk hi143_4
                            have HC143_4 := Aside0.mk hl143_4
                            clear hi143_4 hl143_4
                            replace p143 := eq_true p143
                            replace q143 := eq_true q143
                            have ea_ := Option.some.inj (hx142_4.symm.trans hx143_4)
                            injection ea_ with ea_ en_ ec_
                            subst ea_
                            subst ec_
                            clear en_
                            have p144 : 0 ≤ (x9_1 : Int) := of_decide_eq_true (by first | (with_reducible assumption) | assumption)
                            have q144 : x9_1 < (l3.length : Int) := of_decide_eq_true (by first | (with_reducible assumption) | assumption)
                            obtain ⟨ad144, A144_4, c144_4, e144, hx144_0, hx144_1, hx144_2, hx144_3, hx144_4, hl144_4, hi144_4⟩ := at_T61 HR3.out x9_1 p144 q144
                            obtain rfl : ad138 = ad144 := (by injection e144)
                            have HR144_4 := Aside0.mk hi144_4
                            have HC144_4 := Aside0.mk hl144_4
                            clear hi144_4 hl144_4
                            replace p144 := eq_true p144
                            replace q144 := eq_true q144
                            have ea_ := Option.some.inj (hx138_4.symm.trans hx144_4)
                            injection ea_ with ea_ en_ ec_
                            subst ea_
                            subst ec_
                            clear en_
                            have p145 : 0 ≤ ((ji10) : Int) := of_decide_eq_true (by first | (with_reducible assumption) | assumption)
                            have q145 : (ji10) < (l3.length : Int) := of_decide_eq_true (by first | (with_reducible assumption) | assumption)
                            obtain ⟨ad145, A145_4, c145_4, e145, hx145_0, hx145_1, hx145_2, hx145_3, hx145_4, hl145_4, hi145_4⟩ := at_T61 HR3.out (ji10) p145 q145
                            obtain rfl : ad138 = ad145 := (by injection e145)
                            have HR145_4 := Aside0.mk hi145_4
                            have HC145_4 := Aside0.mk hl145_4
                            clear hi145_4 hl145_4
                            replace p145 := eq_true p145
                            replace q145 := eq_true q145
                            have ea_ := Option.some.inj (hx142_4.symm.trans hx145_4)
                            injection ea_ with ea_ en_ ec_
                            subst ea_
                            subst ec_
                            clear en_
                            go_wp2
                            repeat (go_quiet (fail); try go_wp2)
                            go_ret
                            exact ⟨by first | rfl | (simp; done) | (simp only [← hji10] <;> (first | rfl | simp)) | (simp [*]; done), by repeat (first | exact Drawn0.refl _ | apply Drawn0.step)⟩
                          · rw [if_neg c16] at H
                            have c16b0 : decide ((wrap64 (((rd_T61 l3 x9_1).f0) + ((rd_T61 l3 x9_1).f1))) ≤ a0) = false := decide_eq_false c16
                            clear c16
                            have H' := Aside0.mk H
                            clear H
                            have p138 : 0 ≤ (x9_1 : Int) := of_decide_eq_true (by first | (with_reducible assumption) | assumption)
                            have q138 : x9_1 < (l3.length : Int) := of_decide_eq_true (by first | (with_reducible assumption) | assumption)
                            obtain ⟨ad138, A138_4, c138_4, e138, hx138_0, hx138_1, hx138_2, hx138_3, hx138_4, hl138_4, hi138_4⟩ := at_T61 HR3.out x9_1 p138 q138
                            cases e138
                            have HR138_4 := Aside0.mk hi138_4
                            have HC138_4 := Aside0.mk hl138_4
                            clear hi138_4 hl138_4
                            replace p138 := eq_true p138
                            replace q138 := eq_true q138
                            have p139 : 0 ≤ (x9_1 : Int) := of_decide_eq_true (by first | (with_reducible assumption) | assumption)
                            have q139 : x9_1 < (l3.length : Int) := of_decide_eq_true (by first | (with_reducible assumption) | assumption)
                            obtain ⟨ad139, A139_4, c139_4, e139, hx139_0, hx139_1, hx139_2, hx139_3, hx139_4, hl139_4, hi139_4⟩ := at_T61 HR3.out x9_1 p139 q139
                            obtain rfl : ad138 = ad139 := (by injection e139)
                            have HR139_4 := Aside0.mk hi139_4
                            have HC139_4 := Aside0.mk hl139_4
                            clear hi139_4 hl139_4
                            replace p139 := eq_true p139
                            replace q139 := eq_true q139
                            have ea_ := Option.some.inj (hx138_4.symm.trans hx139_4)
                            injection ea_ with ea_ en_ ec_
                            subst ea_
                            subst ec_
                            clear en_
                            have p140 : 0 ≤ (x9_1 : Int) := of_decide_eq_true (by first | (with_reducible assumption) | assumption)
                            have q140 : x9_1 < (l3.length : Int) := of_decide_eq_true (by first | (with_reducible assumption) | assumption)
                            obtain ⟨ad140, A140_4, c140_4, e140, hx140_0, hx140_1, hx140_2, hx140_3, hx140_4, hl140_4, hi140_4⟩ := at_T61 HR3.out x9_1 p140 q140
                            obtain rfl : ad138 = ad140 := (by injection e140)
                            have HR140_4 := Aside0.mk hi140_4
                            have HC140_4 := Aside0.mk hl140_4
                            clear hi140_4 hl140_4
                            replace p140 := eq_true p140
                            replace q140 := eq_true q140
                            have ea_ := Option.some.inj (hx138_4.symm.trans hx140_4)
                            injection ea_ with ea_ en_ ec_
                            subst ea_
                            subst ec_
                            clear en_
                            have p141 : 0 ≤ (x9_1 : Int) := of_decide_eq_true (by first | (with_reducible assumption) | assumption)
                            have q141 : x9_1 < (l3.length : Int) := of_decide_eq_true (by first | (with_reducible assumption) | assumption)
                            obtain ⟨ad141, A141_4, c141_4, e141, hx141_0, hx141_1, hx141_2, hx141_3, hx141_4, hl141_4, hi141_4⟩ := at_T61 HR3.out x9_1 p141 q141
                            obtain rfl : ad138 = ad141 := (by injection e141)
                            have HR141_4 := Aside0.mk hi141_4
                            have HC141_4 := Aside0.mk hl141_4
                            clear hi141_4 hl141_4
                            replace p141 := eq_true p141
                            replace q141 := eq_true q141
                            have ea_ := Option.some.inj (hx138_4.symm.trans hx141_4)
                            injection ea_ with ea_ en_ ec_
                            subst ea_
                            subst ec_
                            clear en_
                            have p142 : 0 ≤ ((ji10) : Int) := of_decide_eq_true (by first | (with_reducible assumption) | assumption)
                            have q142 : (ji10) < (l3.length : Int) := of_decide_eq_true (by first | (with_reducible assumption) | assumption)
                            obtain ⟨ad142, A142_4, c142_4, e142, hx142_0, hx142_1, hx142_2, hx142_3, hx142_4, hl142_4, hi142_4⟩ := at_T61 HR3.out (ji10) p142 q142
                            obtain rfl : ad138 = ad142 := (by injection e142)
                            have HR142_4 := Aside0.mk hi142_4
                            have HC142_4 := Aside0.mk hl142_4
                            clear hi142_4 hl142_4
                            replace p142 := eq_true p142
                            replace q142 := eq_true q142
                            have p143 : 0 ≤ ((ji10) : Int) := of_decide_eq_true (by first | (with_reducible assumption) | assumption)
                            have q143 : (ji10) < (l3.length : Int) := of_decide_eq_true (by first | (with_reducible assumption) | assumption)
                            obtain ⟨ad143, A143_4, c143_4, e143, hx143_0, hx143_1, hx143_2, hx143_3, hx143_4, hl143_4, hi143_4⟩ := at_T61 HR3.out (ji10) p143 q143
                            obtain rfl : ad138 = ad143 := (by injection e143)
                            have HR143_4 := Aside0.mk hi143_4
                            have HC143_4 := Aside0.mk hl143_4
                            clear hi143_4 hl143_4
                            replace p143 := eq_true p143
                            replace q143 := eq_true q143
                            have ea_ := Option.some.inj (hx142_4.symm.trans hx143_4)
                            injection ea_ with ea_ en_ ec_
                            subst ea_
                            subst ec_
                            clear en_
                            have p144 : 0 ≤ (x9_1 : Int) := of_decide_eq_true (by first | (with_reducible assumption) | assumption)
                            have q144 : x9_1 < (l3.length : Int) := of_decide_eq_true (by first | (with_reducible assumption) | assumption)
                            obtain ⟨ad144, A144_4, c144_4, e144, hx144_0, hx144_1, hx144_2, hx144_3, hx144_4, hl144_4, hi144_4⟩ := at_T61 HR3.out x9_1 p144 q144
                            obtain rfl : ad138 = ad144 := (by injection e144)
                            have HR144_4 := Aside0.mk hi144_4
                            have HC144_4 := Aside0.mk hl144_4
                            clear hi144_4 hl144_4
                            replace p144 := eq_true p144
                            replace q144 := eq_true q144
                            have ea_ := Option.some.inj (hx138_4.symm.trans hx144_4)
                            injection ea_ with ea_ en_ ec_
                            subst ea_
                            subst ec_
                            clear en_
                            have p145 : 0 ≤ ((ji10) : Int) := of_decide_eq_true (by first | (with_reducible assumption) | assumption)
                            have q145 : (ji10) < (l3.length : Int) := of_decide_eq_true (by first | (with_reducible assumption) | assumption)
                            obtain ⟨ad145, A145_4, c145_4, e145, hx145_0, hx145_1, hx145_2, hx145_3, hx145_4, hl145_4, hi145_4⟩ := at_T61 HR3.out (ji10) p145 q145
                            obtain rfl : ad138 = ad145 := (by injection e145)
                            have HR145_4 := Aside0.mk hi145_4
                            have HC145_4 := Aside0.mk hl145_4
                            clear hi145_4 hl145_4
                            replace p145 := eq_true p145
                            replace q145 := eq_true q145
                            have ea_ := Option.some.inj (hx142_4.symm.trans hx145_4)
                            injection ea_ with ea_ en_ ec_
                            subst ea_
                            subst ec_
                            clear en_
                            go_wp2
                            repeat (go_quiet (fail); try go_wp2)
                            go_roundg k1
                            case measure => have := HK1.out; omega
                            case rel => exact ⟨(wrap64 (x9_1 + 1)), (by first | rfl | (simp; done) | (simp [*]; done) | exact congrArg Value.bool (ne_empty _) | exact congrArg Value.bool (eq_empty _)), H', ⟨by have := HK1.out; omega⟩, by repeat (first | exact Drawn0.refl _ | apply Drawn0.step)⟩
                  · rw [if_neg c12] at H
                    exact absurd H (by simp)
                · rw [if_neg c11] at H
                  exact absurd H (by simp)
              · rw [if_neg c9] at H
                have c9b0 : decide (0 < x9_1) = false := decide_eq_false c9
                clear c9
                by_cases c17 : (wrap64 (((rd_T61 l3 x9_1).f0) + ((rd_T61 l3 x9_1).f1))) > a1
                · rw [if_pos c17] at H
                  have c17b0 : decide (a1 < (wrap64 (((rd_T61 l3 x9_1).f0) + ((rd_T61 l3 x9_1).f1)))) = true := decide_eq_true c17
                  clear c17
                  obtain rfl := Option.some.inj H
                  have p138 : 0 ≤ (x9_1 : Int) := of_decide_eq_true (by first | (with_reducible assumption) | assumption)
                  have q138 : x9_1 < (l3.length : Int) := of_decide_eq_true (by first | (with_reducible assumption) | assumption)
                  obtain ⟨ad138, A138_4, c138_4, e138, hx138_0, hx138_1, hx138_2, hx138_3, hx138_4, hl138_4, hi138_4⟩ := at_T61 HR3.out x9_1 p138 q138
                  cases e138
                  have HR138_4 := Aside0.mk hi138_4
                  have HC138_4 := Aside0.mk hl138_4
                  clear hi138_4 hl138_4
                  replace p138 := eq_true p138
                  replace q138 := eq_true q138
                  have p139 : 0 ≤ (x9_1 : Int) := of_decide_eq_true (by first | (with_reducible assumption) | assumption)
                  have q139 : x9_1 < (l3.length : Int) := of_decide_eq_true (by first | (with_reducible assumption) | assumption)
                  obtain ⟨ad139, A139_4, c139_4, e139, hx139_0, hx139_1, hx139_2, hx139_3, hx139_4, hl139_4, hi139_4⟩ := at_T61 HR3.out x9_1 p139 q139
                  obtain rfl : ad138 = ad139 := (by injection e139)
                  have HR139_4 := Aside0.mk hi139_4
                  have HC139_4 := Aside0.mk hl139_4
                  clear hi139_4 hl139_4
                  replace p139 := eq_true p139
                  replace q139 := eq_true q139
                  have ea_ := Option.some.inj (hx138_4.symm.trans hx139_4)
                  injection ea_ with ea_ en_ ec_
                  subst ea_
                  subst ec_
                  clear en_
                  have p140 : 0 ≤ (x9_1 : Int) := of_decide_eq_true (by first | (with_reducible assumption) | assumption)
                  have q140 : x9_1 < (l3.length : Int) := of_decide_eq_true (by first | (with_reducible assumption) | assumption)
                  obtain ⟨ad140, A140_4, c140_4, e140, hx140_0, hx140_1, hx140_2, hx140_3, hx140_4, hl140_4, hi140_4⟩ := at_T61 HR3.out x9_1 p140 q140
                  obtain rfl : ad138 = ad140 := (by injection e140)
                  have HR140_4 := Aside0.mk hi140_4
                  have HC140_4 := Aside0.mk hl140_4
                  clear hi140_4 hl140_4
                  replace p140 := eq_true p140
                  replace q140 := eq_true q140
                  have ea_ := Option.some.inj (hx138_4.symm.trans hx140_4)
                  injection ea_ with ea_ en_ ec_
                  subst ea_
                  subst ec_
                  clear en_
                  go_wp2
                  repeat (go_quiet (fail); try go_wp2)
                  go_ret
                  exact ⟨by first | rfl | (simp; done) | (simp [*]; done) | exact congrArg Value.bool (ne_empty _) | exact congrArg Value.bool (eq_empty _), by repeat (first | exact Drawn0.refl _ | apply Drawn0.step)⟩
                · rw [if_neg c17] at H
                  have c17b0 : decide (a1 < (wrap64 (((rd_T61 l3 x9_1).f0) + ((rd_T61 l3 x9_1).f1)))) = false := decide_eq_false c17
                  clear c17
                  by_cases c18 : (wrap64 (((rd_T61 l3 x9_1).f0) + ((rd_T61 l3 x9_1).f1))) ≤ a0
                  · rw [if_pos c18] at H
                    have c18b0 : decide ((wrap64 (((rd_T61 l3 x9_1).f0) + ((rd_T61 l3 x9_1).f1))) ≤ a0) = true := decide_eq_true c18
                    clear c18
                    obtain rfl := Option.some.inj H
                    have p138 : 0 ≤ (x9_1 : Int) := of_decide_eq_true (by first | (with_reducible assumption) | assumption)
                    have q138 : x9_1 < (l3.length : Int) := of_decide_eq_true (by first | (with_reducible assumption) | assumption)
                    obtain ⟨ad138, A138_4, c138_4, e138, hx138_0, hx138_1, hx138_2, hx138_3, hx138_4, hl138_4, hi138_4⟩ := at_T61 HR3.out x9_1 p138 q138
                    cases e138
                    have HR138_4 := Aside0.mk hi138_4
                    have HC138_4 := Aside0.mk hl138_4
                    clear hi138_4 hl138_4
                    replace p138 := eq_true p138
                    replace q138 := eq_true q138
                    have p139 : 0 ≤ (x9_1 : Int) := of_decide_eq_true (by first | (with_reducible assumption) | assumption)
                    have q139 : x9_1 < (l3.length : Int) := of_decide_eq_true (by first | (with_reducible assumption) | assumption)
                    obtain ⟨ad139, A139_4, c139_4, e139, hx139_0, hx139_1, hx139_2, hx139_3, hx139_4, hl139_4, hi139_4⟩ := at_T61 HR3.out x9_1 p139 q139
                    obtain rfl : ad138 = ad139 := (by injection e139)
                    have HR139_4 := Aside0.mk hi139_4
                    have HC139_4 := Aside0.mk hl139_4
                    clear hi139_4 hl139_4
                    replace p139 := eq_true p139
                    replace q139 := eq_true q139
                    have ea_ := Option.some.inj (hx138_4.symm.trans hx139_4)
                    injection ea_ with ea_ en_ ec_
                    subst ea_
                    subst ec_
                    clear en_
                    have p140 : 0 ≤ (x9_1 : Int) := of_decide_eq_true (by first | (with_reducible assumption) | assumption)
                    have q140 : x9_1 < (l3.length : Int) := of_decide_eq_true (by first | (with_reducible assumption) | assumption)
                    obtain ⟨ad140, A140_4, c140_4, e140, hx140_0, hx140_1, hx140_2, hx140_3, hx140_4, hl140_4, hi140_4⟩ := at_T61 HR3.out x9_1 p140 q140
                    obtain rfl : ad138 = ad140 := (by injection e140)
                    have HR140_4 := Aside0.mk hi140_4
                    have HC140_4 := Aside0.mk hl140_4
                    clear hi140_4 hl140_4
                    replace p140 := eq_true p140
                    replace q140 := eq_true q140
                    have ea_ := Option.some.inj (hx138_4.symm.trans hx140_4)
                    injection ea_ with ea_ en_ ec_
                    subst ea_
                    subst ec_
                    clear en_
                    go_wp2
                    repeat (go_quiet (fail); try go_wp2)
                    go_ret
                    exact ⟨by first | rfl | (simp; done) | (simp [*]; done) | exact congrArg Value.bool (ne_empty _) | exact congrArg Value.bool (eq_empty _), by repeat (first | exact Drawn0.refl _ | apply Drawn0.step)⟩
                  · rw [if_neg c18] at H
                    have c18b0 : decide ((wrap64 (((rd_T61 l3 x9_1).f0) + ((rd_T61 l3 x9_1).f1))) ≤ a0) = false := decide_eq_false c18
                    clear c18
                    have H' := Aside0.mk H
                    clear H
                    have p138 : 0 ≤ (x9_1 : Int) := of_decide_eq_true (by first | (with_reducible assumption) | assumption)
                    have q138 : x9_1 < (l3.length : Int) := of_decide_eq_true (by first | (with_reducible assumption) | assumption)
                    obtain ⟨ad138, A138_4, c138_4, e138, hx138_0, hx138_1, hx138_2, hx138_3, hx138_4, hl138_4, hi138_4⟩ := at_T61 HR3.out x9_1 p138 q138
                    cases e138
                    have HR138_4 := Aside0.mk hi138_4
                    have HC138_4 := Aside0.mk hl138_4
                    clear hi138_4 hl138_4
                    replace p138 := eq_true p138
                    replace q138 := eq_true q138
                    have p139 : 0 ≤ (x9_1 : Int) := of_decide_eq_true (by first | (with_reducible assumption) | assumption)
                    have q139 : x9_1 < (l3.length : Int) := of_decide_eq_true (by first | (with_reducible assumption) | assumption)
                    obtain ⟨ad139, A139_4, c139_4, e139, hx139_0, hx139_1, hx139_2, hx139_3, hx139_4, hl139_4, hi139_4⟩ := at_T61 HR3.out x9_1 p139 q139
                    obtain rfl : ad138 = ad139 := (by injection e139)
                    have HR139_4 := Aside0.mk hi139_4
                    have HC139_4 := Aside0.mk hl139_4
                    clear hi139_4 hl139_4
                    replace p139 := eq_true p139
                    replace q139 := eq_true q139
                    have ea_ := Option.some.inj (hx138_4.symm.trans hx139_4)
                    injection ea_ with ea_ en_ ec_
                    subst ea_
                    subst ec_
                    clear en_
                    have p140 : 0 ≤ (x9_1 : Int) := of_decide_eq_true (by first | (with_reducible assumption) | assumption)
                    have q140 : x9_1 < (l3.length : Int) := of_decide_eq_true (by first | (with_reducible assumption) | assumption)
                    obtain ⟨ad140, A140_4, c140_4, e140, hx140_0, hx140_1, hx140_2, hx140_3, hx140_4, hl140_4, hi140_4⟩ := at_T61 HR3.out x9_1 p140 q140
                    obtain rfl : ad138 = ad140 := (by injection e140)
                    have HR140_4 := Aside0.mk hi140_4
                    have HC140_4 := Aside0.mk hl140_4
                    clear hi140_4 hl140_4
                    replace p140 := eq_true p140
                    replace q140 := eq_true q140
                    have ea_ := Option.some.inj (hx138_4.symm.trans hx140_4)
                    injection ea_ with ea_ en_ ec_
                    subst ea_
                    subst ec_
                    clear en_
                    go_wp2
                    repeat (go_quiet (fail); try go_wp2)
                    go_roundg k1
                    case measure => have := HK1.out; omega
                    case rel => exact ⟨(wrap64 (x9_1 + 1)), (by first | rfl | (simp; done) | (simp [*]; done) | exact congrArg Value.bool (ne_empty _) | exact congrArg Value.bool (eq_empty _)), H', ⟨by have := HK1.out; omega⟩, by repeat (first | exact Drawn0.refl _ | apply Drawn0.step)⟩
          · rw [if_neg c7] at H
            have c7b0 : decide (((rd_T61 l3 x9_1).f0) < a2) = false := decide_eq_false c7
            clear c7
            by_cases c19 : x9_1 > 0
            · rw [if_pos c19] at H
              have c19b0 : decide (0 < x9_1) = true := decide_eq_true c19
              clear c19
              obtain ⟨ji20, hji20⟩ : ∃ j_ : Int, (wrap64 (x9_1 - 1)) = j_ := ⟨_, rfl⟩
              replace H : (if 0 ≤ (ji20) then (if (ji20) < (l3.length : Int) then (if ((rd_T61 l3 x9_1).f0) < (wrap64 (((rd_T61 l3 (ji20)).f0) + ((rd_T61 l3 (ji20)).f1))) then (some false) else (if ((rd_T61 l3 x9_1).f0) ≤ ((rd_T61 l3 (ji20)).f0) then (some false) else (if (wrap64 (((rd_T61 l3 x9_1).f0) + ((rd_T61 l3 x9_1).f1))) > a1 then (some false) else (if (wrap64 (((rd_T61 l3 x9_1).f0) + ((rd_T61 l3 x9_1).f1))) ≤ a0 then (some false) else (bollardref21_rows.l0 k1 a0 a1 a2 l3 (wrap64 (x9_1 + 1))))))) else (none)) else (none)) = some r := by first | (rw [hji20] at H; exact H) | (simp only [hji20] at H ⊢; exact H)
              have hji20w : (IntKind.i64.wrap (x9_1 - 1)) = ji20 := (i64_w _).trans hji20
              by_cases c21 : 0 ≤ (ji20)
              · rw [if_pos c21] at H
                have c21b0 : decide (0 ≤ (ji20)) = true := decide_eq_true c21
                clear c21
                by_cases c22 : (ji20) < (l3.length : Int)
                · rw [if_pos c22] at H
                  have c22b0 : decide ((ji20) < (l3.length : Int)) = true := decide_eq_true c22
                  clear c22
                  by_cases c23 : ((rd_T61 l3 x9_1).f0) < (wrap64 (((rd_T61 l3 (ji20)).f0) + ((rd_T61 l3 (ji20)).f1)))
                  · rw [if_pos c23] at H
                    have c23b0 : decide (((rd_T61 l3 x9_1).f0) < (wrap64 (((rd_T61 l3 (ji20)).f0) + ((rd_T61 l3 (ji20)).f1)))) = true := decide_eq_true c23
                    clear c23
                    obtain rfl := Option.some.inj H
                    have p138 : 0 ≤ (x9_1 : Int) := of_decide_eq_true (by first | (with_reducible assumption) | assumption)
                    have q138 : x9_1 < (l3.length : Int) := of_decide_eq_true (by first | (with_reducible assumption) | assumption)
                    obtain ⟨ad138, A138_4, c138_4, e138, hx138_0, hx138_1, hx138_2, hx138_3, hx138_4, hl138_4, hi138_4⟩ := at_T61 HR3.out x9_1 p138 q138
                    cases e138
                    have HR138_4 := Aside0.mk hi138_4
                    have HC138_4 := Aside0.mk hl138_4
                    clear hi138_4 hl138_4
                    replace p138 := eq_true p138
                    replace q138 := eq_true q138
                    have p139 : 0 ≤ (x9_1 : Int) := of_decide_eq_true (by first | (with_reducible assumption) | assumption)
                    have q139 : x9_1 < (l3.length : Int) := of_decide_eq_true (by first | (with_reducible assumption) | assumption)
                    obtain ⟨ad139, A139_4, c139_4, e139, hx139_0, hx139_1, hx139_2, hx139_3, hx139_4, hl139_4, hi139_4⟩ := at_T61 HR3.out x9_1 p139 q139
                    obtain rfl : ad138 = ad139 := (by injection e139)
                    have HR139_4 := Aside0.mk hi139_4
                    have HC139_4 := Aside0.mk hl139_4
                    clear hi139_4 hl139_4
                    replace p139 := eq_true p139
                    replace q139 := eq_true q139
                    have ea_ := Option.some.inj (hx138_4.symm.trans hx139_4)
                    injection ea_ with ea_ en_ ec_
                    subst ea_
                    subst ec_
                    clear en_
                    have p140 : 0 ≤ (x9_1 : Int) := of_decide_eq_true (by first | (with_reducible assumption) | assumption)
                    have q140 : x9_1 < (l3.length : Int) := of_decide_eq_true (by first | (with_reducible assumption) | assumption)
                    obtain ⟨ad140, A140_4, c140_4, e140, hx140_0, hx140_1, hx140_2, hx140_3, hx140_4, hl140_4, hi140_4⟩ := at_T61 HR3.out x9_1 p140 q140
                    obtain rfl : ad138 = ad140 := (by injection e140)
                    have HR140_4 := Aside0.mk hi140_4
                    have HC140_4 := Aside0.mk hl140_4
                    clear hi140_4 hl140_4
                    replace p140 := eq_true p140
                    replace q140 := eq_true q140
                    have ea_ := Option.some.inj (hx138_4.symm.trans hx140_4)
                    injection ea_ with ea_ en_ ec_
                    subst ea_
                    subst ec_
                    clear en_
                    have p146 : 0 ≤ (x9_1 : Int) := of_decide_eq_true (by first | (with_reducible assumption) | assumption)
                    have q146 : x9_1 < (l3.length : Int) := of_decide_eq_true (by first | (with_reducible assumption) | assumption)
                    obtain ⟨ad146, A146_4, c146_4, e146, hx146_0, hx146_1, hx146_2, hx146_3, hx146_4, hl146_4, hi146_4⟩ := at_T61 HR3.out x9_1 p146 q146
                    obtain rfl : ad138 = ad146 := (by injection e146)
                    have HR146_4 := Aside0.mk hi146_4
                    have HC146_4 := Aside0.mk hl146_4
                    clear hi146_4 hl146_4
                    replace p146 := eq_true p146
                    replace q146 := eq_true q146
                    have ea_ := Option.some.inj (hx138_4.symm.trans hx146_4)
                    injection ea_ with ea_ en_ ec_
                    subst ea_
                    subst ec_
                    clear en_
                    have p147 : 0 ≤ ((ji20) : Int) := of_decide_eq_true (by first | (with_reducible assumption) | assumption)
                    have q147 : (ji20) < (l3.length : Int) := of_decide_eq_true (by first | (with_reducible assumption) | assumption)
                    obtain ⟨ad147, A147_4, c147_4, e147, hx147_0, hx147_1, hx147_2, hx147_3, hx147_4, hl147_4, hi147_4⟩ := at_T61 HR3.out (ji20) p147 q147
                    obtain rfl : ad138 = ad147 := (by injection e147)
                    have HR147_4 := Aside0.mk hi147_4
                    have HC147_4 := Aside0.mk hl147_4
                    clear hi147_4 hl147_4
                    replace p147 := eq_true p147
                    replace q147 := eq_true q147
                    have p148 : 0 ≤ ((ji20) : Int) := of_decide_eq_true (by first | (with_reducible assumption) | assumption)
                    have q148 : (ji20) < (l3.length : Int) := of_decide_eq_true (by first | (with_reducible assumption) | assumption)
                    obtain ⟨ad148, A148_4, c148_4, e148, hx148_0, hx148_1, hx148_2, hx148_3, hx148_4, hl148_4, hi148_4⟩ := at_T61 HR3.out (ji20) p148 q148
                    obtain rfl : ad138 = ad148 := (by injection e148)
                    have HR148_4 := Aside0.mk hi148_4
                    have HC148_4 := Aside0.mk hl148_4
                    clear hi148_4 hl148_4
                    replace p148 := eq_true p148
                    replace q148 := eq_true q148
                    have ea_ := Option.some.inj (hx147_4.symm.trans hx148_4)
                    injection ea_ with ea_ en_ ec_
                    subst ea_
                    subst ec_
                    clear en_
                    go_wp2
                    repeat (go_quiet (fail); try go_wp2)
                    go_ret
                    exact ⟨by first | rfl | (simp; done) | (simp only [← hji20] <;> (first | rfl | simp)) | (simp [*]; done), by repeat (first | exact Drawn0.refl _ | apply Drawn0.step)⟩
                  · rw [if_neg c23] at H
                    have c23b0 : decide (((rd_T61 l3 x9_1).f0) < (wrap64 (((rd_T61 l3 (ji20)).f0) + ((rd_T61 l3 (ji20)).f1)))) = false := decide_eq_false c23
                    clear c23
                    by_cases c24 : ((rd_T61 l3 x9_1).f0) ≤ ((rd_T61 l3 (ji20)).f0)
                    · rw [if_pos c24] at H
                      have c24b0 : decide (((rd_T61 l3 x9_1).f0) ≤ ((rd_T61 l3 (ji20)).f0)) = true := decide_eq_true c24
                      clear c24
                      obtain rfl := Option.some.inj H
                      have p138 : 0 ≤ (x9_1 : Int) := of_decide_eq_true (by first | (with_reducible assumption) | assumption)
                      have q138 : x9_1 < (l3.length : Int) := of_decide_eq_true (by first | (with_reducible assumption) | assumption)
                      obtain ⟨ad138, A138_4, c138_4, e138, hx138_0, hx138_1, hx138_2, hx138_3, hx138_4, hl138_4, hi138_4⟩ := at_T61 HR3.out x9_1 p138 q138
                      cases e138
                      have HR138_4 := Aside0.mk hi138_4
                      have HC138_4 := Aside0.mk hl138_4
                      clear hi138_4 hl138_4
                      replace p138 := eq_true p138
                      replace q138 := eq_true q138
                      have p139 : 0 ≤ (x9_1 : Int) := of_decide_eq_true (by first | (with_reducible assumption) | assumption)
                      have q139 : x9_1 < (l3.length : Int) := of_decide_eq_true (by first | (with_reducible assumption) | assumption)
                      obtain ⟨ad139, A139_4, c139_4, e139, hx139_0, hx139_1, hx139_2, hx139_3, hx139_4, hl139_4, hi139_4⟩ := at_T61 HR3.out x9_1 p139 q139
                      obtain rfl : ad138 = ad139 := (by injection e139)
                      have HR139_4 := Aside0.mk hi139_4
                      have HC139_4 := Aside0.mk hl139_4
                      clear hi139_4 hl139_4
                      replace p139 := eq_true p139
                      replace q139 := eq_true q139
                      have ea_ := Option.some.inj (hx138_4.symm.trans hx139_4)
                      injection ea_ with ea_ en_ ec_
                      subst ea_
                      subst ec_
                      clear en_
                      have p140 : 0 ≤ (x9_1 : Int) := of_decide_eq_true (by first | (with_reducible assumption) | assumption)
                      have q140 : x9_1 < (l3.length : Int) := of_decide_eq_true (by first | (with_reducible assumption) | assumption)
                      obtain ⟨ad140, A140_4, c140_4, e140, hx140_0, hx140_1, hx140_2, hx140_3, hx140_4, hl140_4, hi140_4⟩ := at_T61 HR3.out x9_1 p140 q140
                      obtain rfl : ad138 = ad140 := (by injection e140)
                      have HR140_4 := Aside0.mk hi140_4
                      have HC140_4 := Aside0.mk hl140_4
                      clear hi140_4 hl140_4
                      replace p140 := eq_true p140
                      replace q140 := eq_true q140
                      have ea_ := Option.some.inj (hx138_4.symm.trans hx140_4)
                      injection ea_ with ea_ en_ ec_
                      subst ea_
                      subst ec_
                      clear en_
                      have p146 : 0 ≤ (x9_1 : Int) := of_decide_eq_true (by first | (with_reducible assumption) | assumption)
                      have q146 : x9_1 < (l3.length : Int) := of_decide_eq_true (by first | (with_reducible assumption) | assumption)
                      obtain ⟨ad146, A146_4, c146_4, e146, hx146_0, hx146_1, hx146_2, hx146_3, hx146_4, hl146_4, hi146_4⟩ := at_T61 HR3.out x9_1 p146 q146
                      obtain rfl : ad138 = ad146 := (by injection e146)
                      have HR146_4 := Aside0.mk hi146_4
                      have HC146_4 := Aside0.mk hl146_4
                      clear hi146_4 hl146_4
                      replace p146 := eq_true p146
                      replace q146 := eq_true q146
                      have ea_ := Option.some.inj (hx138_4.symm.trans hx146_4)
                      injection ea_ with ea_ en_ ec_
                      subst ea_
                      subst ec_
                      clear en_
                      have p147 : 0 ≤ ((ji20) : Int) := of_decide_eq_true (by first | (with_reducible assumption) | assumption)
                      have q147 : (ji20) < (l3.length : Int) := of_decide_eq_true (by first | (with_reducible assumption) | assumption)
                      obtain ⟨ad147, A147_4, c147_4, e147, hx147_0, hx147_1, hx147_2, hx147_3, hx147_4, hl147_4, hi147_4⟩ := at_T61 HR3.out (ji20) p147 q147
                      obtain rfl : ad138 = ad147 := (by injection e147)
                      have HR147_4 := Aside0.mk hi147_4
                      have HC147_4 := Aside0.mk hl147_4
                      clear hi147_4 hl147_4
                      replace p147 := eq_true p147
                      replace q147 := eq_true q147
                      have p148 : 0 ≤ ((ji20) : Int) := of_decide_eq_true (by first | (with_reducible assumption) | assumption)
                      have q148 : (ji20) < (l3.length : Int) := of_decide_eq_true (by first | (with_reducible assumption) | assumption)
                      obtain ⟨ad148, A148_4, c148_4, e148, hx148_0, hx148_1, hx148_2, hx148_3, hx148_4, hl148_4, hi148_4⟩ := at_T61 HR3.out (ji20) p148 q148
                      obtain rfl : ad138 = ad148 := (by injection e148)
                      have HR148_4 := Aside0.mk hi148_4
                      have HC148_4 := Aside0.mk hl148_4
                      clear hi148_4 hl148_4
                      replace p148 := eq_true p148
                      replace q148 := eq_true q148
                      have ea_ := Option.some.inj (hx147_4.symm.trans hx148_4)
                      injection ea_ with ea_ en_ ec_
                      subst ea_
                      subst ec_
                      clear en_
                      have p149 : 0 ≤ (x9_1 : Int) := of_decide_eq_true (by first | (with_reducible assumption) | assumption)
                      have q149 : x9_1 < (l3.length : Int) := of_decide_eq_true (by first | (with_reducible assumption) | assumption)
                      obtain ⟨ad149, A149_4, c149_4, e149, hx149_0, hx149_1, hx149_2, hx149_3, hx149_4, hl149_4, hi149_4⟩ := at_T61 HR3.out x9_1 p149 q149
                      obtain rfl : ad138 = ad149 := (by injection e149)
                      have HR149_4 := Aside0.mk hi149_4
                      have HC149_4 := Aside0.mk hl149_4
                      clear hi149_4 hl149_4
                      replace p149 := eq_true p149
                      replace q149 := eq_true q149
                      have ea_ := Option.some.inj (hx138_4.symm.trans hx149_4)
                      injection ea_ with ea_ en_ ec_
                      subst ea_
                      subst ec_
                      clear en_
                      have p150 : 0 ≤ ((ji20) : Int) := of_decide_eq_true (by first | (with_reducible assumption) | assumption)
                      have q150 : (ji20) < (l3.length : Int) := of_decide_eq_true (by first | (with_reducible assumption) | assumption)
                      obtain ⟨ad150, A150_4, c150_4, e150, hx150_0, hx150_1, hx150_2, hx150_3, hx150_4, hl150_4, hi150_4⟩ := at_T61 HR3.out (ji20) p150 q150
                      obtain rfl : ad138 = ad150 := (by injection e150)
                      have HR150_4 := Aside0.mk hi150_4
                      have HC150_4 := Aside0.mk hl150_4
                      clear hi150_4 hl150_4
                      replace p150 := eq_true p150
                      replace q150 := eq_true q150
                      have ea_ := Option.some.inj (hx147_4.symm.trans hx150_4)
                      injection ea_ with ea_ en_ ec_
                      subst ea_
                      subst ec_
                      clear en_
                      go_wp2
                      repeat (go_quiet (fail); try go_wp2)
                      go_ret
                      exact ⟨by first | rfl | (simp; done) | (simp only [← hji20] <;> (first | rfl | simp)) | (simp [*]; done), by repeat (first | exact Drawn0.refl _ | apply Drawn0.step)⟩
                    · rw [if_neg c24] at H
                      have c24b0 : decide (((rd_T61 l3 x9_1).f0) ≤ ((rd_T61 l3 (ji20)).f0)) = false := decide_eq_false c24
                      clear c24
                      by_cases c25 : (wrap64 (((rd_T61 l3 x9_1).f0) + ((rd_T61 l3 x9_1).f1))) > a1
                      · rw [if_pos c25] at H
                        have c25b0 : decide (a1 < (wrap64 (((rd_T61 l3 x9_1).f0) + ((rd_T61 l3 x9_1).f1)))) = true := decide_eq_true c25
                        clear c25
                        obtain rfl := Option.some.inj H
                        have p138 : 0 ≤ (x9_1 : Int) := of_decide_eq_true (by first | (with_reducible assumption) | assumption)
                        have q138 : x9_1 < (l3.length : Int) := of_decide_eq_true (by first | (with_reducible assumption) | assumption)
                        obtain ⟨ad138, A138_4, c138_4, e138, hx138_0, hx138_1, hx138_2, hx138_3, hx138_4, hl138_4, hi138_4⟩ := at_T61 HR3.out x9_1 p138 q138
                        cases e138
                        have HR138_4 := Aside0.mk hi138_4
                        have HC138_4 := Aside0.mk hl138_4
                        clear hi138_4 hl138_4
                        replace p138 := eq_true p138
                        replace q138 := eq_true q138
                        have p139 : 0 ≤ (x9_1 : Int) := of_decide_eq_true (by first | (with_reducible assumption) | assumption)
                        have q139 : x9_1 < (l3.length : Int) := of_decide_eq_true (by first | (with_reducible assumption) | assumption)
                        obtain ⟨ad139, A139_4, c139_4, e139, hx139_0, hx139_1, hx139_2, hx139_3, hx139_4, hl139_4, hi139_4⟩ := at_T61 HR3.out x9_1 p139 q139
                        obtain rfl : ad138 = ad139 := (by injection e139)
                        have HR139_4 := Aside0.mk hi139_4
                        have HC139_4 := Aside0.mk hl139_4
                        clear hi139_4 hl139_4
                        replace p139 := eq_true p139
                        replace q139 := eq_true q139
                        have ea_ := Option.some.inj (hx138_4.symm.trans hx139_4)
                        injection ea_ with ea_ en_ ec_
                        subst ea_
                        subst ec_
                        clear en_
                        have p140 : 0 ≤ (x9_1 : Int) := of_decide_eq_true (by first | (with_reducible assumption) | assumption)
                        have q140 : x9_1 < (l3.length : Int) := of_decide_eq_true (by first | (with_reducible assumption) | assumption)
                        obtain ⟨ad140, A140_4, c140_4, e140, hx140_0, hx140_1, hx140_2, hx140_3, hx140_4, hl140_4, hi140_4⟩ := at_T61 HR3.out x9_1 p140 q140
                        obtain rfl : ad138 = ad140 := (by injection e140)
                        have HR140_4 := Aside0.mk hi140_4
                        have HC140_4 := Aside0.mk hl140_4
                        clear hi140_4 hl140_4
                        replace p140 := eq_true p140
                        replace q140 := eq_true q140
                        have ea_ := Option.some.inj (hx138_4.symm.trans hx140_4)
                        injection ea_ with ea_ en_ ec_
                        subst ea_
                        subst ec_
                        clear en_
                        have p146 : 0 ≤ (x9_1 : Int) := of_decide_eq_true (by first | (with_reducible assumption) | assumption)
                        have q146 : x9_1 < (l3.length : Int) := of_decide_eq_true (by first | (with_reducible assumption) | assumption)
                        obtain ⟨ad146, A146_4, c146_4, e146, hx146_0, hx146_1, hx146_2, hx146_3, hx146_4, hl146_4, hi146_4⟩ := at_T61 HR3.out x9_1 p146 q146
                        obtain rfl : ad138 = ad146 := (by injection e146)
                        have HR146_4 := Aside0.mk hi146_4
                        have HC146_4 := Aside0.mk hl146_4
                        clear hi146_4 hl146_4
                        replace p146 := eq_true p146
                        replace q146 := eq_true q146
                        have ea_ := Option.some.inj (hx138_4.symm.trans hx146_4)
                        injection ea_ with ea_ en_ ec_
                        subst ea_
                        subst ec_
                        clear en_
                        have p147 : 0 ≤ ((ji20) : Int) := of_decide_eq_true (by first | (with_reducible assumption) | assumption)
                        have q147 : (ji20) < (l3.length : Int) := of_decide_eq_true (by first | (with_reducible assumption) | assumption)
                        obtain ⟨ad147, A147_4, c147_4, e147, hx147_0, hx147_1, hx147_2, hx147_3, hx147_4, hl147_4, hi147_4⟩ := at_T61 HR3.out (ji20) p147 q147
                        obtain rfl : ad138 = ad147 := (by injection e147)
                        have HR147_4 := Aside0.mk hi147_4
                        have HC147_4 := Aside0.mk hl147_4
                        clear hi147_4 hl147_4
                        replace p147 := eq_true p147
                        replace q147 := eq_true q147
                        have p148 : 0 ≤ ((ji20) : Int) := of_decide_eq_true (by first | (with_reducible assumption) | assumption)
                        have q148 : (ji20) < (l3.length : Int) := of_decide_eq_true (by first | (with_reducible assumption) | assumption)
                        obtain ⟨ad148, A148_4, c148_4, e148, hx148_0, hx148_1, hx148_2, hx148_3, hx148_4, hl148_4, hi148_4⟩ := at_T61 HR3.out (ji20) p148 q148
                        obtain rfl : ad138 = ad148 := (by injection e148)
                        have HR148_4 := Aside0.mk hi148_4
                        have HC148_4 := Aside0.mk hl148_4
                        clear hi148_4 hl148_4
                        replace p148 := eq_true p148
                        replace q148 := eq_true q148
                        have ea_ := Option.some.inj (hx147_4.symm.trans hx148_4)
                        injection ea_ with ea_ en_ ec_
                        subst ea_
                        subst ec_
                        clear en_
                        have p149 : 0 ≤ (x9_1 : Int) := of_decide_eq_true (by first | (with_reducible assumption) | assumption)
                        have q149 : x9_1 < (l3.length : Int) := of_decide_eq_true (by first | (with_reducible assumption) | assumption)
                        obtain ⟨ad149, A149_4, c149_4, e149, hx149_0, hx149_1, hx149_2, hx149_3, hx149_4, hl149_4, hi149_4⟩ := at_T61 HR3.out x9_1 p149 q149
                        obtain rfl : ad138 = ad149 := (by injection e149)
                        have HR149_4 := Aside0.mk hi149_4
                        have HC149_4 := Aside0.mk hl149_4
                        clear hi149_4 hl149_4
                        replace p149 := eq_true p149
                        replace q149 := eq_true q149
                        have ea_ := Option.some.inj (hx138_4.symm.trans hx149_4)
                        injection ea_ with ea_ en_ ec_
                        subst ea_
                        subst ec_
                        clear en_
                        have p150 : 0 ≤ ((ji20) : Int) := of_decide_eq_true (by first | (with_reducible assumption) | assumption)
                        have q150 : (ji20) < (l3.length : Int) := of_decide_eq_true (by first | (with_reducible assumption) | assumption)
                        obtain ⟨ad150, A150_4, c150_4, e150, hx150_0, hx150_1, hx150_2, hx150_3, hx150_4, hl150_4, hi150_4⟩ := at_T61 HR3.out (ji20) p150 q150
                        obtain rfl : ad138 = ad150 := (by injection e150)
                        have HR150_4 := Aside0.mk hi150_4
                        have HC150_4 := Aside0.mk hl150_4
                        clear hi150_4 hl150_4
                        replace p150 := eq_true p150
                        replace q150 := eq_true q150
                        have ea_ := Option.some.inj (hx147_4.symm.trans hx150_4)
                        injection ea_ with ea_ en_ ec_
                        subst ea_
                        subst ec_
                        clear en_
                        go_wp2
                        repeat (go_quiet (fail); try go_wp2)
                        go_ret
                        exact ⟨by first | rfl | (simp; done) | (simp only [← hji20] <;> (first | rfl | simp)) | (simp [*]; done), by repeat (first | exact Drawn0.refl _ | apply Drawn0.step)⟩
                      · rw [if_neg c25] at H
                        have c25b0 : decide (a1 < (wrap64 (((rd_T61 l3 x9_1).f0) + ((rd_T61 l3 x9_1).f1)))) = false := decide_eq_false c25
                        clear c25
                        by_cases c26 : (wrap64 (((rd_T61 l3 x9_1).f0) + ((rd_T61 l3 x9_1).f1))) ≤ a0
                        · rw [if_pos c26] at H
                          have c26b0 : decide ((wrap64 (((rd_T61 l3 x9_1).f0) + ((rd_T61 l3 x9_1).f1))) ≤ a0) = true := decide_eq_true c26
                          clear c26
                          obtain rfl := Option.some.inj H
                          have p138 : 0 ≤ (x9_1 : Int) := of_decide_eq_true (by first | (with_reducible assumption) | assumption)
                          have q138 : x9_1 < (l3.length : Int) := of_decide_eq_true (by first | (with_reducible assumption) | assumption)
                          obtain ⟨ad138, A138_4, c138_4, e138, hx138_0, hx138_1, hx138_2, hx138_3, hx138_4, hl138_4, hi138_4⟩ := at_T61 HR3.out x9_1 p138 q138
                          cases e138
                          have HR138_4 := Aside0.mk hi138_4
                          have HC138_4 := Aside0.mk hl138_4
                          clear hi138_4 hl138_4
                          replace p138 := eq_true p138
                          replace q138 := eq_true q138
                          have p139 : 0 ≤ (x9_1 : Int) := of_decide_eq_true (by first | (with_reducible assumption) | assumption)
                          have q139 : x9_1 < (l3.length : Int) := of_decide_eq_true (by first | (with_reducible assumption) | assumption)
                          obtain ⟨ad139, A139_4, c139_4, e139, hx139_0, hx139_1, hx139_2, hx139_3, hx139_4, hl139_4, hi139_4⟩ := at_T61 HR3.out x9_1 p139 q139
                          obtain rfl : ad138 = ad139 := (by injection e139)
                          have HR139_4 := Aside0.mk hi139_4
                          have HC139_4 := Aside0.mk hl139_4
                          clear hi139_4 hl139_4
                          replace p139 := eq_true p139
                          replace q139 := eq_true q139
                          have ea_ := Option.some.inj (hx138_4.symm.trans hx139_4)
                          injection ea_ with ea_ en_ ec_
                          subst ea_
                          subst ec_
                          clear en_
                          have p140 : 0 ≤ (x9_1 : Int) := of_decide_eq_true (by first | (with_reducible assumption) | assumption)
                          have q140 : x9_1 < (l3.length : Int) := of_decide_eq_true (by first | (with_reducible assumption) | assumption)
                          obtain ⟨ad140, A140_4, c140_4, e140, hx140_0, hx140_1, hx140_2, hx140_3, hx140_4, hl140_4, hi140_4⟩ := at_T61 HR3.out x9_1 p140 q140
                          obtain rfl : ad138 = ad140 := (by injection e140)
                          have HR140_4 := Aside0.mk hi140_4
                          have HC140_4 := Aside0.mk hl140_4
                          clear hi140_4 hl140_4
                          replace p140 := eq_true p140
                          replace q140 := eq_true q140
                          have ea_ := Option.some.inj (hx138_4.symm.trans hx140_4)
                          injection ea_ with ea_ en_ ec_
                          subst ea_
                          subst ec_
                          clear en_
                          have p146 : 0 ≤ (x9_1 : Int) := of_decide_eq_true (by first | (with_reducible assumption) | assumption)
                          have q146 : x9_1 < (l3.length : Int) := of_decide_eq_true (by first | (with_reducible assumption) | assumption)
                          obtain ⟨ad146, A146_4, c146_4, e146, hx146_0, hx146_1, hx146_2, hx146_3, hx146_4, hl146_4, hi146_4⟩ := at_T61 HR3.out x9_1 p146 q146
                          obtain rfl : ad138 = ad146 := (by injection e146)
                          have HR146_4 := Aside0.mk hi146_4
                          have HC146_4 := Aside0.mk hl146_4
                          clear hi146_4 hl146_4
                          replace p146 := eq_true p146
                          replace q146 := eq_true q146
                          have ea_ := Option.some.inj (hx138_4.symm.trans hx146_4)
                          injection ea_ with ea_ en_ ec_
                          subst ea_
                          subst ec_
                          clear en_
                          have p147 : 0 ≤ ((ji20) : Int) := of_decide_eq_true (by first | (with_reducible assumption) | assumption)
                          have q147 : (ji20) < (l3.length : Int) := of_decide_eq_true (by first | (with_reducible assumption) | assumption)
                          obtain ⟨ad147, A147_4, c147_4, e147, hx147_0, hx147_1, hx147_2, hx147_3, hx147_4, hl147_4, hi147_4⟩ := at_T61 HR3.out (ji20) p147 q147
                          obtain rfl : ad138 = ad147 := (by injection e147)
                          have HR147_4 := Aside0.mk hi147_4
                          have HC147_4 := Aside0.mk hl147_4
                          clear hi147_4 hl147_4
                          replace p147 := eq_true p147
                          replace q147 := eq_true q147
                          have p148 : 0 ≤ ((ji20) : Int) := of_decide_eq_true (by first | (with_reducible assumption) | assumption)
                          have q148 : (ji20) < (l3.length : Int) := of_decide_eq_true (by first | (with_reducible assumption) | assumption)
                          obtain ⟨ad148, A148_4, c148_4, e148, hx148_0, hx148_1, hx148_2, hx148_3, hx148_4, hl148_4, hi148_4⟩ := at_T61 HR3.out (ji20) p148 q148
                          obtain rfl : ad138 = ad148 := (by injection e148)
                          have HR148_4 := Aside0.mk hi148_4
                          have HC148_4 := Aside0.mk hl148_4
                          clear hi148_4 hl148_4
                          replace p148 := eq_true p148
                          replace q148 := eq_true q148
                          have ea_ := Option.some.inj (hx147_4.symm.trans hx148_4)
                          injection ea_ with ea_ en_ ec_
                          subst ea_
                          subst ec_
                          clear en_
                          have p149 : 0 ≤ (x9_1 : Int) := of_decide_eq_true (by first | (with_reducible assumption) | assumption)
                          have q149 : x9_1 < (l3.length : Int) := of_decide_eq_true (by first | (with_reducible assumption) | assumption)
                          obtain ⟨ad149, A149_4, c149_4, e149, hx149_0, hx149_1, hx149_2, hx149_3, hx149_4, hl149_4, hi149_4⟩ := at_T61 HR3.out x9_1 p149 q149
                          obtain rfl : ad138 = ad149 := (by injection e149)
                          have HR149_4 := Aside0.mk hi149_4
                          have HC149_4 := Aside0.mk hl149_4
                          clear hi149_4 hl149_4
                          replace p149 := eq_true p149
                          replace q149 := eq_true q149
                          have ea_ := Option.some.inj (hx138_4.symm.trans hx149_4)
                          injection ea_ with ea_ en_ ec_
                          subst ea_
                          subst ec_
                          clear en_
                          have p150 : 0 ≤ ((ji20) : Int) := of_decide_eq_true (by first | (with_reducible assumption) | assumption)
                          have q150 : (ji20) < (l3.length : Int) := of_decide_eq_true (by first | (with_reducible assumption) | assumption)
                          obtain ⟨ad150, A150_4, c150_4, e150, hx150_0, hx150_1, hx150_2, hx150_3, hx150_4, hl150_4, hi150_4⟩ := at_T61 HR3.out (ji20) p150 q150
                          obtain rfl : ad138 = ad150 := (by injection e150)
                          have HR150_4 := Aside0.mk hi150_4
                          have HC150_4 := Aside0.mk hl150_4
                          clear hi150_4 hl150_4
                          replace p150 := eq_true p150
                          replace q150 := eq_true q150
                          have ea_ := Option.some.inj (hx147_4.symm.trans hx150_4)
                          injection ea_ with ea_ en_ ec_
                          subst ea_
                          subst ec_
                          clear en_
                          go_wp2
                          repeat (go_quiet (fail); try go_wp2)
                          go_ret
                          exact ⟨by first | rfl | (simp; done) | (simp only [← hji20] <;> (first | rfl | simp)) | (simp [*]; done), by repeat (first | exact Drawn0.refl _ | apply Drawn0.step)⟩
                        · rw [if_neg c26] at H
                          have c26b0 : decide ((wrap64 (((rd_T61 l3 x9_1).f0) + ((rd_T61 l3 x9_1).f1))) ≤ a0) = false := decide_eq_false c26
                          clear c26
                          have H' := Aside0.mk H
                          clear H
                          have p138 : 0 ≤ (x9_1 : Int) := of_decide_eq_true (by first | (with_reducible assumption) | assumption)
                          have q138 : x9_1 < (l3.length : Int) := of_decide_eq_true (by first | (with_reducible assumption) | assumption)
                          obtain ⟨ad138, A138_4, c138_4, e138, hx138_0, hx138_1, hx138_2, hx138_3, hx138_4, hl138_4, hi138_4⟩ := at_T61 HR3.out x9_1 p138 q138
                          cases e138
                          have HR138_4 := Aside0.mk hi138_4
                          have HC138_4 := Aside0.mk hl138_4
                          clear hi138_4 hl138_4
                          replace p138 := eq_true p138
                          replace q138 := eq_true q138
                          have p139 : 0 ≤ (x9_1 : Int) := of_decide_eq_true (by first | (with_reducible assumption) | assumption)
                          have q139 : x9_1 < (l3.length : Int) := of_decide_eq_true (by first | (with_reducible assumption) | assumption)
                          obtain ⟨ad139, A139_4, c139_4, e139, hx139_0, hx139_1, hx139_2, hx139_3, hx139_4, hl139_4, hi139_4⟩ := at_T61 HR3.out x9_1 p139 q139
                          obtain rfl : ad138 = ad139 := (by injection e139)
                          have HR139_4 := Aside0.mk hi139_4
                          have HC139_4 := Aside0.mk hl139_4
                          clear hi139_4 hl139_4
                          replace p139 := eq_true p139
                          replace q139 := eq_true q139
                          have ea_ := Option.some.inj (hx138_4.symm.trans hx139_4)
                          injection ea_ with ea_ en_ ec_
                          subst ea_
                          subst ec_
                          clear en_
                          have p140 : 0 ≤ (x9_1 : Int) := of_decide_eq_true (by first | (with_reducible assumption) | assumption)
                          have q140 : x9_1 < (l3.length : Int) := of_decide_eq_true (by first | (with_reducible assumption) | assumption)
                          obtain ⟨ad140, A140_4, c140_4, e140, hx140_0, hx140_1, hx140_2, hx140_3, hx140_4, hl140_4, hi140_4⟩ := at_T61 HR3.out x9_1 p140 q140
                          obtain rfl : ad138 = ad140 := (by injection e140)
                          have HR140_4 := Aside0.mk hi140_4
                          have HC140_4 := Aside0.mk hl140_4
                          clear hi140_4 hl140_4
                          replace p140 := eq_true p140
                          replace q140 := eq_true q140
                          have ea_ := Option.some.inj (hx138_4.symm.trans hx140_4)
                          injection ea_ with ea_ en_ ec_
                          subst ea_
                          subst ec_
                          clear en_
                          have p146 : 0 ≤ (x9_1 : Int) := of_decide_eq_true (by first | (with_reducible assumption) | assumption)
                          have q146 : x9_1 < (l3.length : Int) := of_decide_eq_true (by first | (with_reducible assumption) | assumption)
                          obtain ⟨ad146, A146_4, c146_4, e146, hx146_0, hx146_1, hx146_2, hx146_3, hx146_4, hl146_4, hi146_4⟩ := at_T61 HR3.out x9_1 p146 q146
                          obtain rfl : ad138 = ad146 := (by injection e146)
                          have HR146_4 := Aside0.mk hi146_4
                          have HC146_4 := Aside0.mk hl146_4
                          clear hi146_4 hl146_4
                          replace p146 := eq_true p146
                          replace q146 := eq_true q146
                          have ea_ := Option.some.inj (hx138_4.symm.trans hx146_4)
                          injection ea_ with ea_ en_ ec_
                          subst ea_
                          subst ec_
                          clear en_
                          have p147 : 0 ≤ ((ji20) : Int) := of_decide_eq_true (by first | (with_reducible assumption) | assumption)
                          have q147 : (ji20) < (l3.length : Int) := of_decide_eq_true (by first | (with_reducible assumption) | assumption)
                          obtain ⟨ad147, A147_4, c147_4, e147, hx147_0, hx147_1, hx147_2, hx147_3, hx147_4, hl147_4, hi147_4⟩ := at_T61 HR3.out (ji20) p147 q147
                          obtain rfl : ad138 = ad147 := (by injection e147)
                          have HR147_4 := Aside0.mk hi147_4
                          have HC147_4 := Aside0.mk hl147_4
                          clear hi147_4 hl147_4
                          replace p147 := eq_true p147
                          replace q147 := eq_true q147
                          have p148 : 0 ≤ ((ji20) : Int) := of_decide_eq_true (by first | (with_reducible assumption) | assumption)
                          have q148 : (ji20) < (l3.length : Int) := of_decide_eq_true (by first | (with_reducible assumption) | assumption)
                          obtain ⟨ad148, A148_4, c148_4, e148, hx148_0, hx148_1, hx148_2, hx148_3, hx148_4, hl148_4, hi148_4⟩ := at_T61 HR3.out (ji20) p148 q148
                          obtain rfl : ad138 = ad148 := (by injection e148)
                          have HR148_4 := Aside0.mk hi148_4
                          have HC148_4 := Aside0.mk hl148_4
                          clear hi148_4 hl148_4
                          replace p148 := eq_true p148
                          replace q148 := eq_true q148
                          have ea_ := Option.some.inj (hx147_4.symm.trans hx148_4)
                          injection ea_ with ea_ en_ ec_
                          subst ea_
                          subst ec_
                          clear en_
                          have p149 : 0 ≤ (x9_1 : Int) := of_decide_eq_true (by first | (with_reducible assumption) | assumption)
                          have q149 : x9_1 < (l3.length : Int) := of_decide_eq_true (by first | (with_reducible assumption) | assumption)
                          obtain ⟨ad149, A149_4, c149_4, e149, hx149_0, hx149_1, hx149_2, hx149_3, hx149_4, hl149_4, hi149_4⟩ := at_T61 HR3.out x9_1 p149 q149
                          obtain rfl : ad138 = ad149 := (by injection e149)
                          have HR149_4 := Aside0.mk hi149_4
                          have HC149_4 := Aside0.mk hl149_4
                          clear hi149_4 hl149_4
                          replace p149 := eq_true p149
                          replace q149 := eq_true q149
                          have ea_ := Option.some.inj (hx138_4.symm.trans hx149_4)
                          injection ea_ with ea_ en_ ec_
                          subst ea_
                          subst ec_
                          clear en_
                          have p150 : 0 ≤ ((ji20) : Int) := of_decide_eq_true (by first | (with_reducible assumption) | assumption)
                          have q150 : (ji20) < (l3.length : Int) := of_decide_eq_true (by first | (with_reducible assumption) | assumption)
                          obtain ⟨ad150, A150_4, c150_4, e150, hx150_0, hx150_1, hx150_2, hx150_3, hx150_4, hl150_4, hi150_4⟩ := at_T61 HR3.out (ji20) p150 q150
                          obtain rfl : ad138 = ad150 := (by injection e150)
                          have HR150_4 := Aside0.mk hi150_4
                          have HC150_4 := Aside0.mk hl150_4
                          clear hi150_4 hl150_4
                          replace p150 := eq_true p150
                          replace q150 := eq_true q150
                          have ea_ := Option.some.inj (hx147_4.symm.trans hx150_4)
                          injection ea_ with ea_ en_ ec_
                          subst ea_
                          subst ec_
                          clear en_
                          go_wp2
                          repeat (go_quiet (fail); try go_wp2)
                          go_roundg k1
                          case measure => have := HK1.out; omega
                          case rel => exact ⟨(wrap64 (x9_1 + 1)), (by first | rfl | (simp; done) | (simp [*]; done) | exact congrArg Value.bool (ne_empty _) | exact congrArg Value.bool (eq_empty _)), H', ⟨by have := HK1.out; omega⟩, by repeat (first | exact Drawn0.refl _ | apply Drawn0.step)⟩
                · rw [if_neg c22] at H
                  exact absurd H (by simp)
              · rw [if_neg c21] at H
                exact absurd H (by simp)
            · rw [if_neg c19] at H
              have c19b0 : decide (0 < x9_1) = false := decide_eq_false c19
              clear c19
              by_cases c27 : (wrap64 (((rd_T61 l3 x9_1).f0) + ((rd_T61 l3 x9_1).f1))) > a1
              · rw [if_pos c27] at H
                have c27b0 : decide (a1 < (wrap64 (((rd_T61 l3 x9_1).f0) + ((rd_T61 l3 x9_1).f1)))) = true := decide_eq_true c27
                clear c27
                obtain rfl := Option.some.inj H
                have p138 : 0 ≤ (x9_1 : Int) := of_decide_eq_true (by first | (with_reducible assumption) | assumption)
                have q138 : x9_1 < (l3.length : Int) := of_decide_eq_true (by first | (with_reducible assumption) | assumption)
                obtain ⟨ad138, A138_4, c138_4, e138, hx138_0, hx138_1, hx138_2, hx138_3, hx138_4, hl138_4, hi138_4⟩ := at_T61 HR3.out x9_1 p138 q138
                cases e138
                have HR138_4 := Aside0.mk hi138_4
                have HC138_4 := Aside0.mk hl138_4
                clear hi138_4 hl138_4
                replace p138 := eq_true p138
                replace q138 := eq_true q138
                have p139 : 0 ≤ (x9_1 : Int) := of_decide_eq_true (by first | (with_reducible assumption) | assumption)
                have q139 : x9_1 < (l3.length : Int) := of_decide_eq_true (by first | (with_reducible assumption) | assumption)
                obtain ⟨ad139, A139_4, c139_4, e139, hx139_0, hx139_1, hx139_2, hx139_3, hx139_4, hl139_4, hi139_4⟩ := at_T61 HR3.out x9_1 p139 q139
                obtain rfl : ad138 = ad139 := (by injection e139)
                have HR139_4 := Aside0.mk hi139_4
                have HC139_4 := Aside0.mk hl139_4
                clear hi139_4 hl139_4
                replace p139 := eq_true p139
                replace q139 := eq_true q139
                have ea_ := Option.some.inj (hx138_4.symm.trans hx139_4)
                injection ea_ with ea_ en_ ec_
                subst ea_
                subst ec_
                clear en_
                have p140 : 0 ≤ (x9_1 : Int) := of_decide_eq_true (by first | (with_reducible assumption) | assumption)
                have q140 : x9_1 < (l3.length : Int) := of_decide_eq_true (by first | (with_reducible assumption) | assumption)
                obtain ⟨ad140, A140_4, c140_4, e140, hx140_0, hx140_1, hx140_2, hx140_3, hx140_4, hl140_4, hi140_4⟩ := at_T61 HR3.out x9_1 p140 q140
                obtain rfl : ad138 = ad140 := (by injection e140)
                have HR140_4 := Aside0.mk hi140_4
                have HC140_4 := Aside0.mk hl140_4
                clear hi140_4 hl140_4
                replace p140 := eq_true p140
                replace q140 := eq_true q140
                have ea_ := Option.some.inj (hx138_4.symm.trans hx140_4)
                injection ea_ with ea_ en_ ec_
                subst ea_
                subst ec_
                clear en_
                go_wp2
                repeat (go_quiet (fail); try go_wp2)
                go_ret
                exact ⟨by first | rfl | (simp; done) | (simp [*]; done) | exact congrArg Value.bool (ne_empty _) | exact congrArg Value.bool (eq_empty _), by repeat (first | exact Drawn0.refl _ | apply Drawn0.step)⟩
              · rw [if_neg c27] at H
                have c27b0 : decide (a1 < (wrap64 (((rd_T61 l3 x9_1).f0) + ((rd_T61 l3 x9_1).f1)))) = false := decide_eq_false c27
                clear c27
                by_cases c28 : (wrap64 (((rd_T61 l3 x9_1).f0) + ((rd_T61 l3 x9_1).f1))) ≤ a0
                · rw [if_pos c28] at H
                  have c28b0 : decide ((wrap64 (((rd_T61 l3 x9_1).f0) + ((rd_T61 l3 x9_1).f1))) ≤ a0) = true := decide_eq_true c28
                  clear c28
                  obtain rfl := Option.some.inj H
                  have p138 : 0 ≤ (x9_1 : Int) := of_decide_eq_true (by first | (with_reducible assumption) | assumption)
                  have q138 : x9_1 < (l3.length : Int) := of_decide_eq_true (by first | (with_reducible assumption) | assumption)
                  obtain ⟨ad138, A138_4, c138_4, e138, hx138_0, hx138_1, hx138_2, hx138_3, hx138_4, hl138_4, hi138_4⟩ := at_T61 HR3.out x9_1 p138 q138
                  cases e138
                  have HR138_4 := Aside0.mk hi138_4
                  have HC138_4 := Aside0.mk hl138_4
                  clear hi138_4 hl138_4
                  replace p138 := eq_true p138
                  replace q138 := eq_true q138
                  have p139 : 0 ≤ (x9_1 : Int) := of_decide_eq_true (by first | (with_reducible assumption) | assumption)
                  have q139 : x9_1 < (l3.length : Int) := of_decide_eq_true (by first | (with_reducible assumption) | assumption)
                  obtain ⟨ad139, A139_4, c139_4, e139, hx139_0, hx139_1, hx139_2, hx139_3, hx139_4, hl139_4, hi139_4⟩ := at_T61 HR3.out x9_1 p139 q139
                  obtain rfl : ad138 = ad139 := (by injection e139)
                  have HR139_4 := Aside0.mk hi139_4
                  have HC139_4 := Aside0.mk hl139_4
                  clear hi139_4 hl139_4
                  replace p139 := eq_true p139
                  replace q139 := eq_true q139
                  have ea_ := Option.some.inj (hx138_4.symm.trans hx139_4)
                  injection ea_ with ea_ en_ ec_
                  subst ea_
                  subst ec_
                  clear en_
                  have p140 : 0 ≤ (x9_1 : Int) := of_decide_eq_true (by first | (with_reducible assumption) | assumption)
                  have q140 : x9_1 < (l3.length : Int) := of_decide_eq_true (by first | (with_reducible assumption) | assumption)
                  obtain ⟨ad140, A140_4, c140_4, e140, hx140_0, hx140_1, hx140_2, hx140_3, hx140_4, hl140_4, hi140_4⟩ := at_T61 HR3.out x9_1 p140 q140
                  obtain rfl : ad138 = ad140 := (by injection e140)
                  have HR140_4 := Aside0.mk hi140_4
                  have HC140_4 := Aside0.mk hl140_4
                  clear hi140_4 hl140_4
                  replace p140 := eq_true p140
                  replace q140 := eq_true q140
                  have ea_ := Option.some.inj (hx138_4.symm.trans hx140_4)
                  injection ea_ with ea_ en_ ec_
                  subst ea_
                  subst ec_
                  clear en_
                  go_wp2
                  repeat (go_quiet (fail); try go_wp2)
                  go_ret
                  exact ⟨by first | rfl | (simp; done) | (simp [*]; done) | exact congrArg Value.bool (ne_empty _) | exact congrArg Value.bool (eq_empty _), by repeat (first | exact Drawn0.refl _ | apply Drawn0.step)⟩
                · rw [if_neg c28] at H
                  have c28b0 : decide ((wrap64 (((rd_T61 l3 x9_1).f0) + ((rd_T61 l3 x9_1).f1))) ≤ a0) = false := decide_eq_false c28
                  clear c28
                  have H' := Aside0.mk H
                  clear H
                  have p138 : 0 ≤ (x9_1 : Int) := of_decide_eq_true (by first | (with_reducible assumption) | assumption)
                  have q138 : x9_1 < (l3.length : Int) := of_decide_eq_true (by first | (with_reducible assumption) | assumption)
                  obtain ⟨ad138, A138_4, c138_4, e138, hx138_0, hx138_1, hx138_2, hx138_3, hx138_4, hl138_4, hi138_4⟩ := at_T61 HR3.out x9_1 p138 q138
                  cases e138
                  have HR138_4 := Aside0.mk hi138_4
                  have HC138_4 := Aside0.mk hl138_4
                  clear hi138_4 hl138_4
                  replace p138 := eq_true p138
                  replace q138 := eq_true q138
                  have p139 : 0 ≤ (x9_1 : Int) := of_decide_eq_true (by first | (with_reducible assumption) | assumption)
                  have q139 : x9_1 < (l3.length : Int) := of_decide_eq_true (by first | (with_reducible assumption) | assumption)
                  obtain ⟨ad139, A139_4, c139_4, e139, hx139_0, hx139_1, hx139_2, hx139_3, hx139_4, hl139_4, hi139_4⟩ := at_T61 HR3.out x9_1 p139 q139
                  obtain rfl : ad138 = ad139 := (by injection e139)
                  have HR139_4 := Aside0.mk hi139_4
                  have HC139_4 := Aside0.mk hl139_4
                  clear hi139_4 hl139_4
                  replace p139 := eq_true p139
                  replace q139 := eq_true q139
                  have ea_ := Option.some.inj (hx138_4.symm.trans hx139_4)
                  injection ea_ with ea_ en_ ec_
                  subst ea_
                  subst ec_
                  clear en_
                  have p140 : 0 ≤ (x9_1 : Int) := of_decide_eq_true (by first | (with_reducible assumption) | assumption)
                  have q140 : x9_1 < (l3.length : Int) := of_decide_eq_true (by first | (with_reducible assumption) | assumption)
                  obtain ⟨ad140, A140_4, c140_4, e140, hx140_0, hx140_1, hx140_2, hx140_3, hx140_4, hl140_4, hi140_4⟩ := at_T61 HR3.out x9_1 p140 q140
                  obtain rfl : ad138 = ad140 := (by injection e140)
                  have HR140_4 := Aside0.mk hi140_4
                  have HC140_4 := Aside0.mk hl140_4
                  clear hi140_4 hl140_4
                  replace p140 := eq_true p140
                  replace q140 := eq_true q140
                  have ea_ := Option.some.inj (hx138_4.symm.trans hx140_4)
                  injection ea_ with ea_ en_ ec_
                  subst ea_
                  subst ec_
                  clear en_
                  go_wp2
                  repeat (go_quiet (fail); try go_wp2)
                  go_roundg k1
                  case measure => have := HK1.out; omega
                  case rel => exact ⟨(wrap64 (x9_1 + 1)), (by first | rfl | (simp; done) | (simp [*]; done) | exact congrArg Value.bool (ne_empty _) | exact congrArg Value.bool (eq_empty _)), H', ⟨by have := HK1.out; omega⟩, by repeat (first | exact Drawn0.refl _ | apply Drawn0.step)⟩
        · rw [if_neg c6] at H
          exact absurd H (by simp)
      · rw [if_neg c5] at H
        have c5b0 : decide (x9_1 < (l3.length : Int)) = false := decide_eq_false c5
        clear c5
        obtain rfl := Option.some.inj H
        go_wp2
        repeat (go_quiet (fail); try go_wp2)
        go_ret
        exact ⟨by first | rfl | (simp; done) | (simp [*]; done) | exact congrArg Value.bool (ne_empty _) | exact congrArg Value.bool (eq_empty _), by repeat (first | exact Drawn0.refl _ | apply Drawn0.step)⟩

end Go.Proofs.Ytdlkofmcioalfaa.PCk
