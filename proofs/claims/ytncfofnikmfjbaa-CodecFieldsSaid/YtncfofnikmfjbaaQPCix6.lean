-- written by a program of this session (wip/tools/pr.py, over the kit's printer): not by hand
import Derived.Test.YtncfofnikmfjbaaQPCix0
namespace Go.Proofs.Ytncfofnikmfjbaa.PCi
open Go.RowKit Go.Proofs.YtncfofnikmfjbaaW.PrintWords Go.Proofs.YtncfofnikmfjbaaW.PrintLast Go.Proofs.YtncfofnikmfjbaaW.PrintMore
attribute [local go_sem] max2_int min2_int max_two min_two max_three min_three max_four min_four   -- for this text's walks alone
set_option linter.unusedVariables false
set_option linter.unusedSimpArgs false

-- NOT PRINTED: function 31 (bollardref20_bag)

/-! ### bollardref20_rows: function 32 -/
def bollardref20_rows.j0 : Nat → Int → Bool → Option ((List (S85)))
  | 0, _, _ => none
  | k + 1, x6, x12 => if x12 = true then (some (([(⟨2, 12⟩ : S85), (⟨2, 15⟩ : S85), (⟨2, 16⟩ : S85)] : List (S85)))) else (if x6 = 5 then (some (([(⟨2, 15⟩ : S85), (⟨2, 16⟩ : S85), (⟨5, 19⟩ : S85)] : List (S85)))) else (if x6 = 8 then (some (([(⟨2, 12⟩ : S85)] : List (S85)))) else (some ([] : List (S85)))))
def bollardref20_rows.f (k : Nat) (a0 : Int) (a1 : Bool) : Option ((List (S85))) := if a1 = true then (if a0 = 3 then (some (([(⟨6, 17⟩ : S85), (⟨7, 18⟩ : S85)] : List (S85)))) else (if a0 = 4 then (bollardref20_rows.j0 k a0 (a0 == 4)) else (bollardref20_rows.j0 k a0 (a0 == 6)))) else (if a0 = 1 then (some (([(⟨1, 0⟩ : S85), (⟨2, 3⟩ : S85), (⟨2, 4⟩ : S85), (⟨2, 5⟩ : S85), (⟨2, 6⟩ : S85), (⟨3, 7⟩ : S85), (⟨2, 8⟩ : S85)] : List (S85)))) else (if a0 = 2 then (some (([(⟨1, 0⟩ : S85)] : List (S85)))) else (if a0 = 4 then (some (([(⟨1, 0⟩ : S85), (⟨2, 2⟩ : S85), (⟨2, 9⟩ : S85), (⟨2, 10⟩ : S85), (⟨4, 11⟩ : S85)] : List (S85)))) else (if a0 = 5 then (some (([(⟨1, 0⟩ : S85), (⟨2, 2⟩ : S85), (⟨2, 12⟩ : S85), (⟨2, 13⟩ : S85)] : List (S85)))) else (if a0 = 6 then (some (([(⟨1, 0⟩ : S85), (⟨2, 2⟩ : S85), (⟨2, 14⟩ : S85)] : List (S85)))) else (if a0 = 7 then (some (([(⟨1, 1⟩ : S85), (⟨1, 0⟩ : S85), (⟨2, 2⟩ : S85), (⟨2, 12⟩ : S85)] : List (S85)))) else (if a0 = 8 then (some (([(⟨1, 1⟩ : S85), (⟨1, 0⟩ : S85), (⟨2, 2⟩ : S85)] : List (S85)))) else (some ([] : List (S85))))))))))
set_option maxHeartbeats 8000000 in
set_option maxRecDepth 100000 in
theorem bollardref20_rows.calls (k : Nat) (a0 : Int) (a1 : Bool) (r : List (S85)) (w : World) (h : bollardref20_rows.f k a0 a1 = some r) :
    Calls Try.prog 32 #[.int .i64 a0, .bool a1] w fun e w' => ∃ v0_ : Value, e = .returned (v0_) ∧ Kd.R k85 85 w' w.heap.size (fun _ => True) v0_ r ∧ Below w.heap.size w w' := by
  have hu85 := Try.underlying85
  have HB := Aside0.mk (Below.refl w.heap.size w)
  have H : (if a1 = true then (if a0 = 3 then (some (([(⟨6, 17⟩ : S85), (⟨7, 18⟩ : S85)] : List (S85)))) else (if a0 = 4 then (bollardref20_rows.j0 k a0 (a0 == 4)) else (bollardref20_rows.j0 k a0 (a0 == 6)))) else (if a0 = 1 then (some (([(⟨1, 0⟩ : S85), (⟨2, 3⟩ : S85), (⟨2, 4⟩ : S85), (⟨2, 5⟩ : S85), (⟨2, 6⟩ : S85), (⟨3, 7⟩ : S85), (⟨2, 8⟩ : S85)] : List (S85)))) else (if a0 = 2 then (some (([(⟨1, 0⟩ : S85)] : List (S85)))) else (if a0 = 4 then (some (([(⟨1, 0⟩ : S85), (⟨2, 2⟩ : S85), (⟨2, 9⟩ : S85), (⟨2, 10⟩ : S85), (⟨4, 11⟩ : S85)] : List (S85)))) else (if a0 = 5 then (some (([(⟨1, 0⟩ : S85), (⟨2, 2⟩ : S85), (⟨2, 12⟩ : S85), (⟨2, 13⟩ : S85)] : List (S85)))) else (if a0 = 6 then (some (([(⟨1, 0⟩ : S85), (⟨2, 2⟩ : S85), (⟨2, 14⟩ : S85)] : List (S85)))) else (if a0 = 7 then (some (([(⟨1, 1⟩ : S85), (⟨1, 0⟩ : S85), (⟨2, 2⟩ : S85), (⟨2, 12⟩ : S85)] : List (S85)))) else (if a0 = 8 then (some (([(⟨1, 1⟩ : S85), (⟨1, 0⟩ : S85), (⟨2, 2⟩ : S85)] : List (S85)))) else (some ([] : List (S85))))))))))) = some r := h
  clear h
  by_cases c3 : a1 = true
  · subst c3
    have H1 : (if a0 = 3 then (some (([(⟨6, 17⟩ : S85), (⟨7, 18⟩ : S85)] : List (S85)))) else (if a0 = 4 then (bollardref20_rows.j0 k a0 (a0 == 4)) else (bollardref20_rows.j0 k a0 (a0 == 6)))) = some r := by rw [if_pos rfl] at H; exact H
    clear H
    have H := H1
    clear H1
    by_cases c4 : a0 = 3
    · rw [if_pos c4] at H
      have c4b0 : (a0 == 3) = true := beq_iff_eq.mpr c4
      have c4b1 : (a0 != 3) = false := bne_eq_false_iff_eq.mpr c4
      clear c4
      obtain ⟨y150, hy150⟩ : ∃ y_ : List (S85), y_ = (([(⟨6, 17⟩ : S85), (⟨7, 18⟩ : S85)] : List (S85))) := ⟨_, rfl⟩
      replace H : (some y150) = some r := by first | (rw [hy150]; with_reducible exact H) | (have H2_ := (Option.bind_some _ _).symm.trans H; rw [hy150]; with_reducible exact H2_) | (have H2_ := (Option.bind_some _ _).symm.trans H; with_reducible exact H2_) | with_reducible exact H | (rw [hy150]; exact H) | exact H
      have Ny150 := Aside0.mk hy150
      clear hy150
      obtain rfl := Option.some.inj H
      go_enter Try.func32, Try.ntmps32
      go_wp2_with (first | ((with_reducible refine gate_dst (N := 11) rfl ?_); refine Kd.R_lit k85 _ 85 ?hg (N := 11) ?hd (xs := ([(⟨6, 17⟩ : S85), (⟨7, 18⟩ : S85)] : List (S85))) (inner := [.int .i64 6, .int .i64 17, .int .i64 7, .int .i64 18]) (ok := fun _ => True) (okp := fun _ => True) ?hr ?hp (fun _ hk => hk) trivial (Below.refl _ _) (Nat.le_refl _) (by simp) ?_; (case hd => rfl); (case hg => rfl); (case hr => first | (go_simp; done) | (go_simp; rfl)); (case hp => exact (Reps.c2 (show Kd.M k85 _ _ _ (⟨6, 17⟩ : S85) [.int .i64 6, .int .i64 17] from (k85_mkM _ _ _ (⟨6, 17⟩ : S85) )) (Reps.c2 (show Kd.M k85 _ _ _ (⟨7, 18⟩ : S85) [.int .i64 7, .int .i64 18] from (k85_mkM _ _ _ (⟨7, 18⟩ : S85) )) (Reps.none _ _)))); intro v151 w5 ho6 hb hg_ hnew_; clear hg_ hnew_; (first | rw [← Ny150.out] at ho6 | (simp only [Int.reduceToNat] at ho6; rw [← Ny150.out] at ho6)); have n0_ := Aside0.mk (Kd.R_lower ho6 (below_size (by repeat (first | (with_reducible first | exact HB.out | apply below_alloc | apply pw_below_drewN | apply below_drew1) | exact HB.out)))); have n1_ := Aside0.mk (below_step (by repeat (first | (with_reducible first | exact HB.out | apply below_alloc | apply pw_below_drewN | apply below_drew1) | exact HB.out)) hb); clear HB; have HO152 := n0_; have HB := n1_; clear n0_ n1_; clear hb ho6))
      go_ret
      exact ⟨_, by first | rfl | (simp [errW_none, errW_some] <;> rfl) | (simp [*, errW_none, errW_some] <;> rfl), by (with_reducible repeat (first | apply Kd.R_alloc | apply Kd.R_drewN | apply Kd.R_drew)); exact HO152.out, by repeat (first | (with_reducible first | exact HB.out | apply below_alloc | apply pw_below_drewN | apply below_drew1) | exact HB.out)⟩
    · rw [if_neg c4] at H
      have c4b0 : (a0 == 3) = false := beq_eq_false_iff_ne.mpr c4
      have c4b1 : (a0 != 3) = true := bne_iff_ne.mpr c4
      have HC7 := Aside0.mk H
      clear H
      go_enter Try.func32, Try.ntmps32
      go_upto_if 12 with (fail)
      go_cut [12] (fun v12 wc => ∃ (kq : Nat) (x12_6 : Bool), v12 = .bool x12_6 ∧ Aside0 (bollardref20_rows.j0 kq a0 x12_6 = some r) ∧ Aside0 (kq ≤ k) ∧ Aside0 (Below w.heap.size w wc))
      case first =>
        have H := HC7.out
        clear HC7
        by_cases c8 : a0 = 4
        · rw [if_pos c8] at H
          have c8b0 : (a0 == 4) = true := beq_iff_eq.mpr c8
          have c8b1 : (a0 != 4) = false := bne_eq_false_iff_eq.mpr c8
          clear c8
          (first | rw [c8b0] | (simp only [i64_w, i32_w]; rw [c8b0]) | skip)
          have H' := Aside0.mk H
          clear H
          go_wp2
          go_meet
          case rel => exact ⟨_, ((a0 == 4)), (by first | rfl | (simp; done) | (simp [*]; done) | exact congrArg Value.bool (ne_empty _) | exact congrArg Value.bool (eq_empty _)), H', ⟨by first | omega | exact Nat.le_refl _⟩, ⟨by repeat (first | (with_reducible first | exact HB.out | apply below_alloc | apply pw_below_drewN | apply below_drew1) | exact HB.out)⟩⟩
        · rw [if_neg c8] at H
          have c8b0 : (a0 == 4) = false := beq_eq_false_iff_ne.mpr c8
          have c8b1 : (a0 != 4) = true := bne_iff_ne.mpr c8
          (first | rw [c8b0] | (simp only [i64_w, i32_w]; rw [c8b0]) | skip)
          have H' := Aside0.mk H
          clear H
          go_wp2
          go_meet
          case rel => exact ⟨_, ((a0 == 6)), (by first | rfl | (simp; done) | (simp [*]; done) | exact congrArg Value.bool (ne_empty _) | exact congrArg Value.bool (eq_empty _)), H', ⟨by first | omega | exact Nat.le_refl _⟩, ⟨by repeat (first | (with_reducible first | exact HB.out | apply below_alloc | apply pw_below_drewN | apply below_drew1) | exact HB.out)⟩⟩
      case rest =>
        clear HC7
        try clear c2
        try clear p2
        try clear c3
        try clear c4
        try clear c4b0
        try clear c4b1
        try clear c8
        try clear c8b0
        try clear c8b1
        obtain ⟨kq, x12_6, rfl, HA, HJ6, HB⟩ := hcut
        cases kq with
        | zero => exact absurd HA.out (by first | (intro h_; exact nomatch (show (none : Option _) = some r from h_)) | simp [bollardref20_rows.j0])
        | succ kj6 =>
          have H := HA.out
          clear HA
          simp only [bollardref20_rows.j0] at H
          by_cases c9 : x12_6 = true
          · subst c9
            have H1 : (some (([(⟨2, 12⟩ : S85), (⟨2, 15⟩ : S85), (⟨2, 16⟩ : S85)] : List (S85)))) = some r := by rw [if_pos rfl] at H; exact H
            clear H
            have H := H1
            clear H1
            obtain ⟨y153, hy153⟩ : ∃ y_ : List (S85), y_ = (([(⟨2, 12⟩ : S85), (⟨2, 15⟩ : S85), (⟨2, 16⟩ : S85)] : List (S85))) := ⟨_, rfl⟩
            replace H : (some y153) = some r := by first | (rw [hy153]; with_reducible exact H) | (have H2_ := (Option.bind_some _ _).symm.trans H; rw [hy153]; with_reducible exact H2_) | (have H2_ := (Option.bind_some _ _).symm.trans H; with_reducible exact H2_) | with_reducible exact H | (rw [hy153]; exact H) | exact H
            have Ny153 := Aside0.mk hy153
            clear hy153
            obtain rfl := Option.some.inj H
            go_wp2_with (first | ((with_reducible refine gate_dst (N := 18) rfl ?_); refine Kd.R_lit k85 _ 85 ?hg (N := 18) ?hd (xs := ([(⟨2, 12⟩ : S85), (⟨2, 15⟩ : S85), (⟨2, 16⟩ : S85)] : List (S85))) (inner := [.int .i64 2, .int .i64 12, .int .i64 2, .int .i64 15, .int .i64 2, .int .i64 16]) (ok := fun _ => True) (okp := fun _ => True) ?hr ?hp (fun _ hk => hk) trivial (Below.refl _ _) (Nat.le_refl _) (by simp) ?_; (case hd => rfl); (case hg => rfl); (case hr => first | (go_simp; done) | (go_simp; rfl)); (case hp => exact (Reps.c2 (show Kd.M k85 _ _ _ (⟨2, 12⟩ : S85) [.int .i64 2, .int .i64 12] from (k85_mkM _ _ _ (⟨2, 12⟩ : S85) )) (Reps.c2 (show Kd.M k85 _ _ _ (⟨2, 15⟩ : S85) [.int .i64 2, .int .i64 15] from (k85_mkM _ _ _ (⟨2, 15⟩ : S85) )) (Reps.c2 (show Kd.M k85 _ _ _ (⟨2, 16⟩ : S85) [.int .i64 2, .int .i64 16] from (k85_mkM _ _ _ (⟨2, 16⟩ : S85) )) (Reps.none _ _))))); intro v154 w10 ho11 hb hg_ hnew_; clear hg_ hnew_; (first | rw [← Ny153.out] at ho11 | (simp only [Int.reduceToNat] at ho11; rw [← Ny153.out] at ho11)); have n0_ := Aside0.mk (Kd.R_lower ho11 (below_size (by repeat (first | (with_reducible first | exact HB.out | apply below_alloc | apply pw_below_drewN | apply below_drew1) | exact HB.out)))); have n1_ := Aside0.mk (below_step (by repeat (first | (with_reducible first | exact HB.out | apply below_alloc | apply pw_below_drewN | apply below_drew1) | exact HB.out)) hb); clear HB; have HO155 := n0_; have HB := n1_; clear n0_ n1_; clear hb ho11))
            go_ret
            exact ⟨_, by first | rfl | (simp [errW_none, errW_some] <;> rfl) | (simp [*, errW_none, errW_some] <;> rfl), by (with_reducible repeat (first | apply Kd.R_alloc | apply Kd.R_drewN | apply Kd.R_drew)); exact HO155.out, by repeat (first | (with_reducible first | exact HB.out | apply below_alloc | apply pw_below_drewN | apply below_drew1) | exact HB.out)⟩
          · replace c9 := Bool.eq_false_iff.mpr c9
            subst c9
            have H1 : (if a0 = 5 then (some (([(⟨2, 15⟩ : S85), (⟨2, 16⟩ : S85), (⟨5, 19⟩ : S85)] : List (S85)))) else (if a0 = 8 then (some (([(⟨2, 12⟩ : S85)] : List (S85)))) else (some ([] : List (S85))))) = some r := by rw [if_neg (show ¬ (false = true) by decide)] at H; exact H
            clear H
            have H := H1
            clear H1
            by_cases c12 : a0 = 5
            · rw [if_pos c12] at H
              have c12b0 : (a0 == 5) = true := beq_iff_eq.mpr c12
              have c12b1 : (a0 != 5) = false := bne_eq_false_iff_eq.mpr c12
              clear c12
              obtain ⟨y156, hy156⟩ : ∃ y_ : List (S85), y_ = (([(⟨2, 15⟩ : S85), (⟨2, 16⟩ : S85), (⟨5, 19⟩ : S85)] : List (S85))) := ⟨_, rfl⟩
              replace H : (some y156) = some r := by first | (rw [hy156]; with_reducible exact H) | (have H2_ := (Option.bind_some _ _).symm.trans H; rw [hy156]; with_reducible exact H2_) | (have H2_ := (Option.bind_some _ _).symm.trans H; with_reducible exact H2_) | with_reducible exact H | (rw [hy156]; exact H) | exact H
              have Ny156 := Aside0.mk hy156
              clear hy156
              obtain rfl := Option.some.inj H
              go_wp2_with (first | ((with_reducible refine gate_dst (N := 24) rfl ?_); refine Kd.R_lit k85 _ 85 ?hg (N := 24) ?hd (xs := ([(⟨2, 15⟩ : S85), (⟨2, 16⟩ : S85), (⟨5, 19⟩ : S85)] : List (S85))) (inner := [.int .i64 2, .int .i64 15, .int .i64 2, .int .i64 16, .int .i64 5, .int .i64 19]) (ok := fun _ => True) (okp := fun _ => True) ?hr ?hp (fun _ hk => hk) trivial (Below.refl _ _) (Nat.le_refl _) (by simp) ?_; (case hd => rfl); (case hg => rfl); (case hr => first | (go_simp; done) | (go_simp; rfl)); (case hp => exact (Reps.c2 (show Kd.M k85 _ _ _ (⟨2, 15⟩ : S85) [.int .i64 2, .int .i64 15] from (k85_mkM _ _ _ (⟨2, 15⟩ : S85) )) (Reps.c2 (show Kd.M k85 _ _ _ (⟨2, 16⟩ : S85) [.int .i64 2, .int .i64 16] from (k85_mkM _ _ _ (⟨2, 16⟩ : S85) )) (Reps.c2 (show Kd.M k85 _ _ _ (⟨5, 19⟩ : S85) [.int .i64 5, .int .i64 19] from (k85_mkM _ _ _ (⟨5, 19⟩ : S85) )) (Reps.none _ _))))); intro v157 w13 ho14 hb hg_ hnew_; clear hg_ hnew_; (first | rw [← Ny156.out] at ho14 | (simp only [Int.reduceToNat] at ho14; rw [← Ny156.out] at ho14)); have n0_ := Aside0.mk (Kd.R_lower ho14 (below_size (by repeat (first | (with_reducible first | exact HB.out | apply below_alloc | apply pw_below_drewN | apply below_drew1) | exact HB.out)))); have n1_ := Aside0.mk (below_step (by repeat (first | (with_reducible first | exact HB.out | apply below_alloc | apply pw_below_drewN | apply below_drew1) | exact HB.out)) hb); clear HB; have HO158 := n0_; have HB := n1_; clear n0_ n1_; clear hb ho14))
              go_ret
              exact ⟨_, by first | rfl | (simp [errW_none, errW_some] <;> rfl) | (simp [*, errW_none, errW_some] <;> rfl), by (with_reducible repeat (first | apply Kd.R_alloc | apply Kd.R_drewN | apply Kd.R_drew)); exact HO158.out, by repeat (first | (with_reducible first | exact HB.out | apply below_alloc | apply pw_below_drewN | apply below_drew1) | exact HB.out)⟩
            · rw [if_neg c12] at H
              have c12b0 : (a0 == 5) = false := beq_eq_false_iff_ne.mpr c12
              have c12b1 : (a0 != 5) = true := bne_iff_ne.mpr c12
              by_cases c15 : a0 = 8
              · rw [if_pos c15] at H
                have c15b0 : (a0 == 8) = true := beq_iff_eq.mpr c15
                have c15b1 : (a0 != 8) = false := bne_eq_false_iff_eq.mpr c15
                clear c15
                obtain ⟨y159, hy159⟩ : ∃ y_ : List (S85), y_ = (([(⟨2, 12⟩ : S85)] : List (S85))) := ⟨_, rfl⟩
                replace H : (some y159) = some r := by first | (rw [hy159]; with_reducible exact H) | (have H2_ := (Option.bind_some _ _).symm.trans H; rw [hy159]; with_reducible exact H2_) | (have H2_ := (Option.bind_some _ _).symm.trans H; with_reducible exact H2_) | with_reducible exact H | (rw [hy159]; exact H) | exact H
                have Ny159 := Aside0.mk hy159
                clear hy159
                obtain rfl := Option.some.inj H
                go_wp2_with (first | ((with_reducible refine gate_dst (N := 28) rfl ?_); refine Kd.R_lit k85 _ 85 ?hg (N := 28) ?hd (xs := ([(⟨2, 12⟩ : S85)] : List (S85))) (inner := [.int .i64 2, .int .i64 12]) (ok := fun _ => True) (okp := fun _ => True) ?hr ?hp (fun _ hk => hk) trivial (Below.refl _ _) (Nat.le_refl _) (by simp) ?_; (case hd => rfl); (case hg => rfl); (case hr => first | (go_simp; done) | (go_simp; rfl)); (case hp => exact (Reps.c2 (show Kd.M k85 _ _ _ (⟨2, 12⟩ : S85) [.int .i64 2, .int .i64 12] from (k85_mkM _ _ _ (⟨2, 12⟩ : S85) )) (Reps.none _ _))); intro v160 w16 ho17 hb hg_ hnew_; clear hg_ hnew_; (first | rw [← Ny159.out] at ho17 | (simp only [Int.reduceToNat] at ho17; rw [← Ny159.out] at ho17)); have n0_ := Aside0.mk (Kd.R_lower ho17 (below_size (by repeat (first | (with_reducible first | exact HB.out | apply below_alloc | apply pw_below_drewN | apply below_drew1) | exact HB.out)))); have n1_ := Aside0.mk (below_step (by repeat (first | (with_reducible first | exact HB.out | apply below_alloc | apply pw_below_drewN | apply below_drew1) | exact HB.out)) hb); clear HB; have HO161 := n0_; have HB := n1_; clear n0_ n1_; clear hb ho17))
                go_ret
                exact ⟨_, by first | rfl | (simp [errW_none, errW_some] <;> rfl) | (simp [*, errW_none, errW_some] <;> rfl), by (with_reducible repeat (first | apply Kd.R_alloc | apply Kd.R_drewN | apply Kd.R_drew)); exact HO161.out, by repeat (first | (with_reducible first | exact HB.out | apply below_alloc | apply pw_below_drewN | apply below_drew1) | exact HB.out)⟩
              · rw [if_neg c15] at H
                have c15b0 : (a0 == 8) = false := beq_eq_false_iff_ne.mpr c15
                have c15b1 : (a0 != 8) = true := bne_iff_ne.mpr c15
                obtain rfl := Option.some.inj H
                go_wp2
                go_ret
                exact ⟨_, by first | rfl | (simp [errW_none, errW_some] <;> rfl) | (simp [*, errW_none, errW_some] <;> rfl), by first | exact Kd.R_nil _ _ _ _ _ | exact Kd.N_nil _ _ _ _ _ | exact Kd.V_nil _ _ _ _ _ | exact Kd.Q_nil _ _ _ _ _ | exact Kd.S_nil _ _ _ _ _, by repeat (first | (with_reducible first | exact HB.out | apply below_alloc | apply pw_below_drewN | apply below_drew1) | exact HB.out)⟩
  · replace c3 := Bool.eq_false_iff.mpr c3
    subst c3
    have H1 : (if a0 = 1 then (some (([(⟨1, 0⟩ : S85), (⟨2, 3⟩ : S85), (⟨2, 4⟩ : S85), (⟨2, 5⟩ : S85), (⟨2, 6⟩ : S85), (⟨3, 7⟩ : S85), (⟨2, 8⟩ : S85)] : List (S85)))) else (if a0 = 2 then (some (([(⟨1, 0⟩ : S85)] : List (S85)))) else (if a0 = 4 then (some (([(⟨1, 0⟩ : S85), (⟨2, 2⟩ : S85), (⟨2, 9⟩ : S85), (⟨2, 10⟩ : S85), (⟨4, 11⟩ : S85)] : List (S85)))) else (if a0 = 5 then (some (([(⟨1, 0⟩ : S85), (⟨2, 2⟩ : S85), (⟨2, 12⟩ : S85), (⟨2, 13⟩ : S85)] : List (S85)))) else (if a0 = 6 then (some (([(⟨1, 0⟩ : S85), (⟨2, 2⟩ : S85), (⟨2, 14⟩ : S85)] : List (S85)))) else (if a0 = 7 then (some (([(⟨1, 1⟩ : S85), (⟨1, 0⟩ : S85), (⟨2, 2⟩ : S85), (⟨2, 12⟩ : S85)] : List (S85)))) else (if a0 = 8 then (some (([(⟨1, 1⟩ : S85), (⟨1, 0⟩ : S85), (⟨2, 2⟩ : S85)] : List (S85)))) else (some ([] : List (S85)))))))))) = some r := by rw [if_neg (show ¬ (false = true) by decide)] at H; exact H
    clear H
    have H := H1
    clear H1
    by_cases c18 : a0 = 1
    · rw [if_pos c18] at H
      have c18b0 : (a0 == 1) = true := beq_iff_eq.mpr c18
      have c18b1 : (a0 != 1) = false := bne_eq_false_iff_eq.mpr c18
      clear c18
      obtain ⟨y162, hy162⟩ : ∃ y_ : List (S85), y_ = (([(⟨1, 0⟩ : S85), (⟨2, 3⟩ : S85), (⟨2, 4⟩ : S85), (⟨2, 5⟩ : S85), (⟨2, 6⟩ : S85), (⟨3, 7⟩ : S85), (⟨2, 8⟩ : S85)] : List (S85))) := ⟨_, rfl⟩
      replace H : (some y162) = some r := by first | (rw [hy162]; with_reducible exact H) | (have H2_ := (Option.bind_some _ _).symm.trans H; rw [hy162]; with_reducible exact H2_) | (have H2_ := (Option.bind_some _ _).symm.trans H; with_reducible exact H2_) | with_reducible exact H | (rw [hy162]; exact H) | exact H
      have Ny162 := Aside0.mk hy162
      clear hy162
      obtain rfl := Option.some.inj H
      go_enter Try.func32, Try.ntmps32
      go_wp2_with (first | ((with_reducible refine gate_dst (N := 39) rfl ?_); refine Kd.R_lit k85 _ 85 ?hg (N := 39) ?hd (xs := ([(⟨1, 0⟩ : S85), (⟨2, 3⟩ : S85), (⟨2, 4⟩ : S85), (⟨2, 5⟩ : S85), (⟨2, 6⟩ : S85), (⟨3, 7⟩ : S85), (⟨2, 8⟩ : S85)] : List (S85))) (inner := [.int .i64 1, .int .i64 0, .int .i64 2, .int .i64 3, .int .i64 2, .int .i64 4, .int .i64 2, .int .i64 5, .int .i64 2, .int .i64 6, .int .i64 3, .int .i64 7, .int .i64 2, .int .i64 8]) (ok := fun _ => True) (okp := fun _ => True) ?hr ?hp (fun _ hk => hk) trivial (Below.refl _ _) (Nat.le_refl _) (by simp) ?_; (case hd => rfl); (case hg => rfl); (case hr => first | (go_simp; done) | (go_simp; rfl)); (case hp => exact (Reps.c2 (show Kd.M k85 _ _ _ (⟨1, 0⟩ : S85) [.int .i64 1, .int .i64 0] from (k85_mkM _ _ _ (⟨1, 0⟩ : S85) )) (Reps.c2 (show Kd.M k85 _ _ _ (⟨2, 3⟩ : S85) [.int .i64 2, .int .i64 3] from (k85_mkM _ _ _ (⟨2, 3⟩ : S85) )) (Reps.c2 (show Kd.M k85 _ _ _ (⟨2, 4⟩ : S85) [.int .i64 2, .int .i64 4] from (k85_mkM _ _ _ (⟨2, 4⟩ : S85) )) (Reps.c2 (show Kd.M k85 _ _ _ (⟨2, 5⟩ : S85) [.int .i64 2, .int .i64 5] from (k85_mkM _ _ _ (⟨2, 5⟩ : S85) )) (Reps.c2 (show Kd.M k85 _ _ _ (⟨2, 6⟩ : S85) [.int .i64 2, .int .i64 6] from (k85_mkM _ _ _ (⟨2, 6⟩ : S85) )) (Reps.c2 (show Kd.M k85 _ _ _ (⟨3, 7⟩ : S85) [.int .i64 3, .int .i64 7] from (k85_mkM _ _ _ (⟨3, 7⟩ : S85) )) (Reps.c2 (show Kd.M k85 _ _ _ (⟨2, 8⟩ : S85) [.int .i64 2, .int .i64 8] from (k85_mkM _ _ _ (⟨2, 8⟩ : S85) )) (Reps.none _ _))))))))); intro v163 w19 ho20 hb hg_ hnew_; clear hg_ hnew_; (first | rw [← Ny162.out] at ho20 | (simp only [Int.reduceToNat] at ho20; rw [← Ny162.out] at ho20)); have n0_ := Aside0.mk (Kd.R_lower ho20 (below_size (by repeat (first | (with_reducible first | exact HB.out | apply below_alloc | apply pw_below_drewN | apply below_drew1) | exact HB.out)))); have n1_ := Aside0.mk (below_step (by repeat (first | (with_reducible first | exact HB.out | apply below_alloc | apply pw_below_drewN | apply below_drew1) | exact HB.out)) hb); clear HB; have HO164 := n0_; have HB := n1_; clear n0_ n1_; clear hb ho20))
      go_ret
      exact ⟨_, by first | rfl | (simp [errW_none, errW_some] <;> rfl) | (simp [*, errW_none, errW_some] <;> rfl), by (with_reducible repeat (first | apply Kd.R_alloc | apply Kd.R_drewN | apply Kd.R_drew)); exact HO164.out, by repeat (first | (with_reducible first | exact HB.out | apply below_alloc | apply pw_below_drewN | apply below_drew1) | exact HB.out)⟩
    · rw [if_neg c18] at H
      have c18b0 : (a0 == 1) = false := beq_eq_false_iff_ne.mpr c18
      have c18b1 : (a0 != 1) = true := bne_iff_ne.mpr c18
      by_cases c21 : a0 = 2
      · rw [if_pos c21] at H
        have c21b0 : (a0 == 2) = true := beq_iff_eq.mpr c21
        have c21b1 : (a0 != 2) = false := bne_eq_false_iff_eq.mpr c21
        clear c21
        obtain ⟨y165, hy165⟩ : ∃ y_ : List (S85), y_ = (([(⟨1, 0⟩ : S85)] : List (S85))) := ⟨_, rfl⟩
        replace H : (some y165) = some r := by first | (rw [hy165]; with_reducible exact H) | (have H2_ := (Option.bind_some _ _).symm.trans H; rw [hy165]; with_reducible exact H2_) | (have H2_ := (Option.bind_some _ _).symm.trans H; with_reducible exact H2_) | with_reducible exact H | (rw [hy165]; exact H) | exact H
        have Ny165 := Aside0.mk hy165
        clear hy165
        obtain rfl := Option.some.inj H
        go_enter Try.func32, Try.ntmps32
        go_wp2_with (first | ((with_reducible refine gate_dst (N := 43) rfl ?_); refine Kd.R_lit k85 _ 85 ?hg (N := 43) ?hd (xs := ([(⟨1, 0⟩ : S85)] : List (S85))) (inner := [.int .i64 1, .int .i64 0]) (ok := fun _ => True) (okp := fun _ => True) ?hr ?hp (fun _ hk => hk) trivial (Below.refl _ _) (Nat.le_refl _) (by simp) ?_; (case hd => rfl); (case hg => rfl); (case hr => first | (go_simp; done) | (go_simp; rfl)); (case hp => exact (Reps.c2 (show Kd.M k85 _ _ _ (⟨1, 0⟩ : S85) [.int .i64 1, .int .i64 0] from (k85_mkM _ _ _ (⟨1, 0⟩ : S85) )) (Reps.none _ _))); intro v166 w22 ho23 hb hg_ hnew_; clear hg_ hnew_; (first | rw [← Ny165.out] at ho23 | (simp only [Int.reduceToNat] at ho23; rw [← Ny165.out] at ho23)); have n0_ := Aside0.mk (Kd.R_lower ho23 (below_size (by repeat (first | (with_reducible first | exact HB.out | apply below_alloc | apply pw_below_drewN | apply below_drew1) | exact HB.out)))); have n1_ := Aside0.mk (below_step (by repeat (first | (with_reducible first | exact HB.out | apply below_alloc | apply pw_below_drewN | apply below_drew1) | exact HB.out)) hb); clear HB; have HO167 := n0_; have HB := n1_; clear n0_ n1_; clear hb ho23))
        go_ret
        exact ⟨_, by first | rfl | (simp [errW_none, errW_some] <;> rfl) | (simp [*, errW_none, errW_some] <;> rfl), by (with_reducible repeat (first | apply Kd.R_alloc | apply Kd.R_drewN | apply Kd.R_drew)); exact HO167.out, by repeat (first | (with_reducible first | exact HB.out | apply below_alloc | apply pw_below_drewN | apply below_drew1) | exact HB.out)⟩
      · rw [if_neg c21] at H
        have c21b0 : (a0 == 2) = false := beq_eq_false_iff_ne.mpr c21
        have c21b1 : (a0 != 2) = true := bne_iff_ne.mpr c21
        by_cases c24 : a0 = 4
        · rw [if_pos c24] at H
          have c24b0 : (a0 == 4) = true := beq_iff_eq.mpr c24
          have c24b1 : (a0 != 4) = false := bne_eq_false_iff_eq.mpr c24
          clear c24
          obtain ⟨y168, hy168⟩ : ∃ y_ : List (S85), y_ = (([(⟨1, 0⟩ : S85), (⟨2, 2⟩ : S85), (⟨2, 9⟩ : S85), (⟨2, 10⟩ : S85), (⟨4, 11⟩ : S85)] : List (S85))) := ⟨_, rfl⟩
          replace H : (some y168) = some r := by first | (rw [hy168]; with_reducible exact H) | (have H2_ := (Option.bind_some _ _).symm.trans H; rw [hy168]; with_reducible exact H2_) | (have H2_ := (Option.bind_some _ _).symm.trans H; with_reducible exact H2_) | with_reducible exact H | (rw [hy168]; exact H) | exact H
          have Ny168 := Aside0.mk hy168
          clear hy168
          obtain rfl := Option.some.inj H
          go_enter Try.func32, Try.ntmps32
          go_wp2_with (first | ((with_reducible refine gate_dst (N := 51) rfl ?_); refine Kd.R_lit k85 _ 85 ?hg (N := 51) ?hd (xs := ([(⟨1, 0⟩ : S85), (⟨2, 2⟩ : S85), (⟨2, 9⟩ : S85), (⟨2, 10⟩ : S85), (⟨4, 11⟩ : S85)] : List (S85))) (inner := [.int .i64 1, .int .i64 0, .int .i64 2, .int .i64 2, .int .i64 2, .int .i64 9, .int .i64 2, .int .i64 10, .int .i64 4, .int .i64 11]) (ok := fun _ => True) (okp := fun _ => True) ?hr ?hp (fun _ hk => hk) trivial (Below.refl _ _) (Nat.le_refl _) (by simp) ?_; (case hd => rfl); (case hg => rfl); (case hr => first | (go_simp; done) | (go_simp; rfl)); (case hp => exact (Reps.c2 (show Kd.M k85 _ _ _ (⟨1, 0⟩ : S85) [.int .i64 1, .int .i64 0] from (k85_mkM _ _ _ (⟨1, 0⟩ : S85) )) (Reps.c2 (show Kd.M k85 _ _ _ (⟨2, 2⟩ : S85) [.int .i64 2, .int .i64 2] from (k85_mkM _ _ _ (⟨2, 2⟩ : S85) )) (Reps.c2 (show Kd.M k85 _ _ _ (⟨2, 9⟩ : S85) [.int .i64 2, .int .i64 9] from (k85_mkM _ _ _ (⟨2, 9⟩ : S85) )) (Reps.c2 (show Kd.M k85 _ _ _ (⟨2, 10⟩ : S85) [.int .i64 2, .int .i64 10] from (k85_mkM _ _ _ (⟨2, 10⟩ : S85) )) (Reps.c2 (show Kd.M k85 _ _ _ (⟨4, 11⟩ : S85) [.int .i64 4, .int .i64 11] from (k85_mkM _ _ _ (⟨4, 11⟩ : S85) )) (Reps.none _ _))))))); intro v169 w25 ho26 hb hg_ hnew_; clear hg_ hnew_; (first | rw [← Ny168.out] at ho26 | (simp only [Int.reduceToNat] at ho26; rw [← Ny168.out] at ho26)); have n0_ := Aside0.mk (Kd.R_lower ho26 (below_size (by repeat (first | (with_reducible first | exact HB.out | apply below_alloc | apply pw_below_drewN | apply below_drew1) | exact HB.out)))); have n1_ := Aside0.mk (below_step (by repeat (first | (with_reducible first | exact HB.out | apply below_alloc | apply pw_below_drewN | apply below_drew1) | exact HB.out)) hb); clear HB; have HO170 := n0_; have HB := n1_; clear n0_ n1_; clear hb ho26))
          go_ret
          exact ⟨_, by first | rfl | (simp [errW_none, errW_some] <;> rfl) | (simp [*, errW_none, errW_some] <;> rfl), by (with_reducible repeat (first | apply Kd.R_alloc | apply Kd.R_drewN | apply Kd.R_drew)); exact HO170.out, by repeat (first | (with_reducible first | exact HB.out | apply below_alloc | apply pw_below_drewN | apply below_drew1) | exact HB.out)⟩
        · rw [if_neg c24] at H
          have c24b0 : (a0 == 4) = false := beq_eq_false_iff_ne.mpr c24
          have c24b1 : (a0 != 4) = true := bne_iff_ne.mpr c24
          by_cases c27 : a0 = 5
          · rw [if_pos c27] at H
            have c27b0 : (a0 == 5) = true := beq_iff_eq.mpr c27
            have c27b1 : (a0 != 5) = false := bne_eq_false_iff_eq.mpr c27
            clear c27
            obtain ⟨y171, hy171⟩ : ∃ y_ : List (S85), y_ = (([(⟨1, 0⟩ : S85), (⟨2, 2⟩ : S85), (⟨2, 12⟩ : S85), (⟨2, 13⟩ : S85)] : List (S85))) := ⟨_, rfl⟩
            replace H : (some y171) = some r := by first | (rw [hy171]; with_reducible exact H) | (have H2_ := (Option.bind_some _ _).symm.trans H; rw [hy171]; with_reducible exact H2_) | (have H2_ := (Option.bind_some _ _).symm.trans H; with_reducible exact H2_) | with_reducible exact H | (rw [hy171]; exact H) | exact H
            have Ny171 := Aside0.mk hy171
            clear hy171
            obtain rfl := Option.some.inj H
            go_enter Try.func32, Try.ntmps32
            go_wp2_with (first | ((with_reducible refine gate_dst (N := 58) rfl ?_); refine Kd.R_lit k85 _ 85 ?hg (N := 58) ?hd (xs := ([(⟨1, 0⟩ : S85), (⟨2, 2⟩ : S85), (⟨2, 12⟩ : S85), (⟨2, 13⟩ : S85)] : List (S85))) (inner := [.int .i64 1, .int .i64 0, .int .i64 2, .int .i64 2, .int .i64 2, .int .i64 12, .int .i64 2, .int .i64 13]) (ok := fun _ => True) (okp := fun _ => True) ?hr ?hp (fun _ hk => hk) trivial (Below.refl _ _) (Nat.le_refl _) (by simp) ?_; (case hd => rfl); (case hg => rfl); (case hr => first | (go_simp; done) | (go_simp; rfl)); (case hp => exact (Reps.c2 (show Kd.M k85 _ _ _ (⟨1, 0⟩ : S85) [.int .i64 1, .int .i64 0] from (k85_mkM _ _ _ (⟨1, 0⟩ : S85) )) (Reps.c2 (show Kd.M k85 _ _ _ (⟨2, 2⟩ : S85) [.int .i64 2, .int .i64 2] from (k85_mkM _ _ _ (⟨2, 2⟩ : S85) )) (Reps.c2 (show Kd.M k85 _ _ _ (⟨2, 12⟩ : S85) [.int .i64 2, .int .i64 12] from (k85_mkM _ _ _ (⟨2, 12⟩ : S85) )) (Reps.c2 (show Kd.M k85 _ _ _ (⟨2, 13⟩ : S85) [.int .i64 2, .int .i64 13] from (k85_mkM _ _ _ (⟨2, 13⟩ : S85) )) (Reps.none _ _)))))); intro v172 w28 ho29 hb hg_ hnew_; clear hg_ hnew_; (first | rw [← Ny171.out] at ho29 | (simp only [Int.reduceToNat] at ho29; rw [← Ny171.out] at ho29)); have n0_ := Aside0.mk (Kd.R_lower ho29 (below_size (by repeat (first | (with_reducible first | exact HB.out | apply below_alloc | apply pw_below_drewN | apply below_drew1) | exact HB.out)))); have n1_ := Aside0.mk (below_step (by repeat (first | (with_reducible first | exact HB.out | apply below_alloc | apply pw_below_drewN | apply below_drew1) | exact HB.out)) hb); clear HB; have HO173 := n0_; have HB := n1_; clear n0_ n1_; clear hb ho29))
            go_ret
            exact ⟨_, by first | rfl | (simp [errW_none, errW_some] <;> rfl) | (simp [*, errW_none, errW_some] <;> rfl), by (with_reducible repeat (first | apply Kd.R_alloc | apply Kd.R_drewN | apply Kd.R_drew)); exact HO173.out, by repeat (first | (with_reducible first | exact HB.out | apply below_alloc | apply pw_below_drewN | apply below_drew1) | exact HB.out)⟩
          · rw [if_neg c27] at H
            have c27b0 : (a0 == 5) = false := beq_eq_false_iff_ne.mpr c27
            have c27b1 : (a0 != 5) = true := bne_iff_ne.mpr c27
            by_cases c30 : a0 = 6
            · rw [if_pos c30] at H
              have c30b0 : (a0 == 6) = true := beq_iff_eq.mpr c30
              have c30b1 : (a0 != 6) = false := bne_eq_false_iff_eq.mpr c30
              clear c30
              obtain ⟨y174, hy174⟩ : ∃ y_ : List (S85), y_ = (([(⟨1, 0⟩ : S85), (⟨2, 2⟩ : S85), (⟨2, 14⟩ : S85)] : List (S85))) := ⟨_, rfl⟩
              replace H : (some y174) = some r := by first | (rw [hy174]; with_reducible exact H) | (have H2_ := (Option.bind_some _ _).symm.trans H; rw [hy174]; with_reducible exact H2_) | (have H2_ := (Option.bind_some _ _).symm.trans H; with_reducible exact H2_) | with_reducible exact H | (rw [hy174]; exact H) | exact H
              have Ny174 := Aside0.mk hy174
              clear hy174
              obtain rfl := Option.some.inj H
              go_enter Try.func32, Try.ntmps32
              go_wp2_with (first | ((with_reducible refine gate_dst (N := 64) rfl ?_); refine Kd.R_lit k85 _ 85 ?hg (N := 64) ?hd (xs := ([(⟨1, 0⟩ : S85), (⟨2, 2⟩ : S85), (⟨2, 14⟩ : S85)] : List (S85))) (inner := [.int .i64 1, .int .i64 0, .int .i64 2, .int .i64 2, .int .i64 2, .int .i64 14]) (ok := fun _ => True) (okp := fun _ => True) ?hr ?hp (fun _ hk => hk) trivial (Below.refl _ _) (Nat.le_refl _) (by simp) ?_; (case hd => rfl); (case hg => rfl); (case hr => first | (go_simp; done) | (go_simp; rfl)); (case hp => exact (Reps.c2 (show Kd.M k85 _ _ _ (⟨1, 0⟩ : S85) [.int .i64 1, .int .i64 0] from (k85_mkM _ _ _ (⟨1, 0⟩ : S85) )) (Reps.c2 (show Kd.M k85 _ _ _ (⟨2, 2⟩ : S85) [.int .i64 2, .int .i64 2] from (k85_mkM _ _ _ (⟨2, 2⟩ : S85) )) (Reps.c2 (show Kd.M k85 _ _ _ (⟨2, 14⟩ : S85) [.int .i64 2, .int .i64 14] from (k85_mkM _ _ _ (⟨2, 14⟩ : S85) )) (Reps.none _ _))))); intro v175 w31 ho32 hb hg_ hnew_; clear hg_ hnew_; (first | rw [← Ny174.out] at ho32 | (simp only [Int.reduceToNat] at ho32; rw [← Ny174.out] at ho32)); have n0_ := Aside0.mk (Kd.R_lower ho32 (below_size (by repeat (first | (with_reducible first | exact HB.out | apply below_alloc | apply pw_below_drewN | apply below_drew1) | exact HB.out)))); have n1_ := Aside0.mk (below_step (by repeat (first | (with_reducible first | exact HB.out | apply below_alloc | apply pw_below_drewN | apply below_drew1) | exact HB.out)) hb); clear HB; have HO176 := n0_; have HB := n1_; clear n0_ n1_; clear hb ho32))
              go_ret
              exact ⟨_, by first | rfl | (simp [errW_none, errW_some] <;> rfl) | (simp [*, errW_none, errW_some] <;> rfl), by (with_reducible repeat (first | apply Kd.R_alloc | apply Kd.R_drewN | apply Kd.R_drew)); exact HO176.out, by repeat (first | (with_reducible first | exact HB.out | apply below_alloc | apply pw_below_drewN | apply below_drew1) | exact HB.out)⟩
            · rw [if_neg c30] at H
              have c30b0 : (a0 == 6) = false := beq_eq_false_iff_ne.mpr c30
              have c30b1 : (a0 != 6) = true := bne_iff_ne.mpr c30
              by_cases c33 : a0 = 7
              · rw [if_pos c33] at H
                have c33b0 : (a0 == 7) = true := beq_iff_eq.mpr c33
                have c33b1 : (a0 != 7) = false := bne_eq_false_iff_eq.mpr c33
                clear c33
                obtain ⟨y177, hy177⟩ : ∃ y_ : List (S85), y_ = (([(⟨1, 1⟩ : S85), (⟨1, 0⟩ : S85), (⟨2, 2⟩ : S85), (⟨2, 12⟩ : S85)] : List (S85))) := ⟨_, rfl⟩
                replace H : (some y177) = some r := by first | (rw [hy177]; with_reducible exact H) | (have H2_ := (Option.bind_some _ _).symm.trans H; rw [hy177]; with_reducible exact H2_) | (have H2_ := (Option.bind_some _ _).symm.trans H; with_reducible exact H2_) | with_reducible exact H | (rw [hy177]; exact H) | exact H
                have Ny177 := Aside0.mk hy177
                clear hy177
                obtain rfl := Option.some.inj H
                go_enter Try.func32, Try.ntmps32
                go_wp2_with (first | ((with_reducible refine gate_dst (N := 71) rfl ?_); refine Kd.R_lit k85 _ 85 ?hg (N := 71) ?hd (xs := ([(⟨1, 1⟩ : S85), (⟨1, 0⟩ : S85), (⟨2, 2⟩ : S85), (⟨2, 12⟩ : S85)] : List (S85))) (inner := [.int .i64 1, .int .i64 1, .int .i64 1, .int .i64 0, .int .i64 2, .int .i64 2, .int .i64 2, .int .i64 12]) (ok := fun _ => True) (okp := fun _ => True) ?hr ?hp (fun _ hk => hk) trivial (Below.refl _ _) (Nat.le_refl _) (by simp) ?_; (case hd => rfl); (case hg => rfl); (case hr => first | (go_simp; done) | (go_simp; rfl)); (case hp => exact (Reps.c2 (show Kd.M k85 _ _ _ (⟨1, 1⟩ : S85) [.int .i64 1, .int .i64 1] from (k85_mkM _ _ _ (⟨1, 1⟩ : S85) )) (Reps.c2 (show Kd.M k85 _ _ _ (⟨1, 0⟩ : S85) [.int .i64 1, .int .i64 0] from (k85_mkM _ _ _ (⟨1, 0⟩ : S85) )) (Reps.c2 (show Kd.M k85 _ _ _ (⟨2, 2⟩ : S85) [.int .i64 2, .int .i64 2] from (k85_mkM _ _ _ (⟨2, 2⟩ : S85) )) (Reps.c2 (show Kd.M k85 _ _ _ (⟨2, 12⟩ : S85) [.int .i64 2, .int .i64 12] from (k85_mkM _ _ _ (⟨2, 12⟩ : S85) )) (Reps.none _ _)))))); intro v178 w34 ho35 hb hg_ hnew_; clear hg_ hnew_; (first | rw [← Ny177.out] at ho35 | (simp only [Int.reduceToNat] at ho35; rw [← Ny177.out] at ho35)); have n0_ := Aside0.mk (Kd.R_lower ho35 (below_size (by repeat (first | (with_reducible first | exact HB.out | apply below_alloc | apply pw_below_drewN | apply below_drew1) | exact HB.out)))); have n1_ := Aside0.mk (below_step (by repeat (first | (with_reducible first | exact HB.out | apply below_alloc | apply pw_below_drewN | apply below_drew1) | exact HB.out)) hb); clear HB; have HO179 := n0_; have HB := n1_; clear n0_ n1_; clear hb ho35))
                go_ret
                exact ⟨_, by first | rfl | (simp [errW_none, errW_some] <;> rfl) | (simp [*, errW_none, errW_some] <;> rfl), by (with_reducible repeat (first | apply Kd.R_alloc | apply Kd.R_drewN | apply Kd.R_drew)); exact HO179.out, by repeat (first | (with_reducible first | exact HB.out | apply below_alloc | apply pw_below_drewN | apply below_drew1) | exact HB.out)⟩
              · rw [if_neg c33] at H
                have c33b0 : (a0 == 7) = false := beq_eq_false_iff_ne.mpr c33
                have c33b1 : (a0 != 7) = true := bne_iff_ne.mpr c33
                by_cases c36 : a0 = 8
                · rw [if_pos c36] at H
                  have c36b0 : (a0 == 8) = true := beq_iff_eq.mpr c36
                  have c36b1 : (a0 != 8) = false := bne_eq_false_iff_eq.mpr c36
                  clear c36
                  obtain ⟨y180, hy180⟩ : ∃ y_ : List (S85), y_ = (([(⟨1, 1⟩ : S85), (⟨1, 0⟩ : S85), (⟨2, 2⟩ : S85)] : List (S85))) := ⟨_, rfl⟩
                  replace H : (some y180) = some r := by first | (rw [hy180]; with_reducible exact H) | (have H2_ := (Option.bind_some _ _).symm.trans H; rw [hy180]; with_reducible exact H2_) | (have H2_ := (Option.bind_some _ _).symm.trans H; with_reducible exact H2_) | with_reducible exact H | (rw [hy180]; exact H) | exact H
                  have Ny180 := Aside0.mk hy180
                  clear hy180
                  obtain rfl := Option.some.inj H
                  go_enter Try.func32, Try.ntmps32
                  go_wp2_with (first | ((with_reducible refine gate_dst (N := 77) rfl ?_); refine Kd.R_lit k85 _ 85 ?hg (N := 77) ?hd (xs := ([(⟨1, 1⟩ : S85), (⟨1, 0⟩ : S85), (⟨2, 2⟩ : S85)] : List (S85))) (inner := [.int .i64 1, .int .i64 1, .int .i64 1, .int .i64 0, .int .i64 2, .int .i64 2]) (ok := fun _ => True) (okp := fun _ => True) ?hr ?hp (fun _ hk => hk) trivial (Below.refl _ _) (Nat.le_refl _) (by simp) ?_; (case hd => rfl); (case hg => rfl); (case hr => first | (go_simp; done) | (go_simp; rfl)); (case hp => exact (Reps.c2 (show Kd.M k85 _ _ _ (⟨1, 1⟩ : S85) [.int .i64 1, .int .i64 1] from (k85_mkM _ _ _ (⟨1, 1⟩ : S85) )) (Reps.c2 (show Kd.M k85 _ _ _ (⟨1, 0⟩ : S85) [.int .i64 1, .int .i64 0] from (k85_mkM _ _ _ (⟨1, 0⟩ : S85) )) (Reps.c2 (show Kd.M k85 _ _ _ (⟨2, 2⟩ : S85) [.int .i64 2, .int .i64 2] from (k85_mkM _ _ _ (⟨2, 2⟩ : S85) )) (Reps.none _ _))))); intro v181 w37 ho38 hb hg_ hnew_; clear hg_ hnew_; (first | rw [← Ny180.out] at ho38 | (simp only [Int.reduceToNat] at ho38; rw [← Ny180.out] at ho38)); have n0_ := Aside0.mk (Kd.R_lower ho38 (below_size (by repeat (first | (with_reducible first | exact HB.out | apply below_alloc | apply pw_below_drewN | apply below_drew1) | exact HB.out)))); have n1_ := Aside0.mk (below_step (by repeat (first | (with_reducible first | exact HB.out | apply below_alloc | apply pw_below_drewN | apply below_drew1) | exact HB.out)) hb); clear HB; have HO182 := n0_; have HB := n1_; clear n0_ n1_; clear hb ho38))
                  go_ret
                  exact ⟨_, by first | rfl | (simp [errW_none, errW_some] <;> rfl) | (simp [*, errW_none, errW_some] <;> rfl), by (with_reducible repeat (first | apply Kd.R_alloc | apply Kd.R_drewN | apply Kd.R_drew)); exact HO182.out, by repeat (first | (with_reducible first | exact HB.out | apply below_alloc | apply pw_below_drewN | apply below_drew1) | exact HB.out)⟩
                · rw [if_neg c36] at H
                  have c36b0 : (a0 == 8) = false := beq_eq_false_iff_ne.mpr c36
                  have c36b1 : (a0 != 8) = true := bne_iff_ne.mpr c36
                  obtain rfl := Option.some.inj H
                  go_enter Try.func32, Try.ntmps32
                  go_wp2
                  go_ret
                  exact ⟨_, by first | rfl | (simp [errW_none, errW_some] <;> rfl) | (simp [*, errW_none, errW_some] <;> rfl), by first | exact Kd.R_nil _ _ _ _ _ | exact Kd.N_nil _ _ _ _ _ | exact Kd.V_nil _ _ _ _ _ | exact Kd.Q_nil _ _ _ _ _ | exact Kd.S_nil _ _ _ _ _, by repeat (first | (with_reducible first | exact HB.out | apply below_alloc | apply pw_below_drewN | apply below_drew1) | exact HB.out)⟩

/-! ### bollardref1_Lay: function 33 -/
def bollardref1_Lay.l0 : Nat → List Int → Int → Int → Option (List Int)
  | 0, _, _, _ => none
  | k + 1, x0, x2, x7 => if x7 ≥ 0 then (if 0 ≤ (wrap64 (8 * x7)) then (if x0.length < 140737488355328 then (bollardref1_Lay.l0 k (x0 ++ [(shr .u64 x2 (wrap64 (8 * x7))) % 256]) x2 (wrap64 (x7 - 1))) else (none)) else (none)) else (some x0)
def bollardref1_Lay.f (k : Nat) (l0 : List Int) (a1 : Int) (a2 : Int) : Option (List Int) := bollardref1_Lay.l0 k l0 a2 (wrap64 (a1 - 1))
set_option maxHeartbeats 8000000 in
set_option maxRecDepth 100000 in
theorem bollardref1_Lay.calls (k : Nat) (P0_ : Nat → Prop) (u9000_ : Value) (l0 : List Int) (a1 : Int) (a2 : Int) (r : List Int) (w0 w : World) (hB : Below w0.heap.size w0 w) (ho0 : Kd.R (Kd.int .u8) 5 w w0.heap.size P0_ u9000_ l0) (h : bollardref1_Lay.f k l0 a1 a2 = some r) :
    Calls Try.prog 33 #[u9000_, .int .i64 a1, .int .u64 a2] w fun e w' => ∃ v0_ : Value, e = .returned (v0_) ∧ Kd.R (Kd.int .u8) 5 w' w0.heap.size (fun k_ => (P0_ k_ ∨ w.heap.size ≤ k_)) v0_ r ∧ Below w0.heap.size w0 w' ∧ Kept w w' (fun k_ => P0_ k_) := by
  have HO0 := Aside0.mk (show Kd.R (Kd.int .u8) 5 w w0.heap.size (fun k_ => (P0_ k_ ∨ w.heap.size ≤ k_)) u9000_ l0 from Kd.R_mono ho0 (fun k_ hk => (.inl hk)))
  have HK := Aside0.mk (Kept.refl w (fun k_ => P0_ k_))
  have HW0 := Aside0.mk hB.size
  have HB := Aside0.mk hB
  clear hB
  have H : (bollardref1_Lay.l0 k l0 a2 (wrap64 (a1 - 1))) = some r := h
  clear h
  have H' := Aside0.mk H
  clear H
  go_enter Try.func33, Try.ntmps33
  go_wp2
  go_loopg [0, 7] k (fun kq v0 v7 w' => ∃ (x0_1 : List Int) (x7_1 : Int), v7 = .int .i64 x7_1 ∧ Aside0 (bollardref1_Lay.l0 kq x0_1 a2 x7_1 = some r) ∧ Aside0 (kq ≤ k) ∧ Aside0 (Kd.R (Kd.int .u8) 5 w' w0.heap.size (fun k_ => (P0_ k_ ∨ w.heap.size ≤ k_)) v0 x0_1) ∧ Aside0 (Kept w w' (fun k_ => P0_ k_)) ∧ Aside0 (Below w0.heap.size w0 w'))
  case atStart => exact ⟨(l0), (wrap64 (a1 - 1)), (by first | rfl | (simp; done) | (simp [*]; done) | exact congrArg Value.bool (ne_empty _) | exact congrArg Value.bool (eq_empty _)), H', ⟨Nat.le_refl _⟩, ⟨by (with_reducible repeat (first | apply Kd.R_alloc | apply Kd.R_drewN | apply Kd.R_drew)); exact HO0.out⟩, ⟨by repeat (first | (with_reducible first | exact HK.out | apply Kept.alloc | apply Kept.drewN | apply Kept.drew) | exact HK.out)⟩, ⟨by repeat (first | (with_reducible first | exact HB.out | apply below_alloc | apply pw_below_drewN | apply below_drew1) | exact HB.out)⟩⟩
  case round =>
    clear H'
    try clear p2
    try clear c3
    obtain ⟨x0_1, x7_1, rfl, HA, HK1, HO_0, HK, HB⟩ := hrel
    cases gk with
    | zero => exact absurd HA.out (by first | (intro h_; exact nomatch (show (none : Option _) = some r from h_)) | simp [bollardref1_Lay.l0])
    | succ k1 =>
      have H := HA.out
      clear HA
      simp only [bollardref1_Lay.l0] at H
      by_cases c4 : x7_1 ≥ 0
      · rw [if_pos c4] at H
        have c4b0 : decide (0 ≤ x7_1) = true := decide_eq_true c4
        clear c4
        obtain ⟨ji5, hji5⟩ : ∃ j_ : Int, (wrap64 (8 * x7_1)) = j_ := ⟨_, rfl⟩
        replace H : (if 0 ≤ (ji5) then (if x0_1.length < 140737488355328 then (bollardref1_Lay.l0 k1 (x0_1 ++ [(shr .u64 a2 (ji5)) % 256]) a2 (wrap64 (x7_1 - 1))) else (none)) else (none)) = some r := by first | (rw [hji5] at H; exact H) | (simp only [hji5] at H ⊢; exact H)
        have hji5w : (IntKind.i64.wrap (8 * x7_1)) = ji5 := (i64_w _).trans hji5
        by_cases c6 : 0 ≤ (ji5)
        · rw [if_pos c6] at H
          have c6b0 := eq_true c6
          have c6b1 : decide (0 ≤ (ji5)) = true := decide_eq_true c6
          clear c6
          obtain ⟨ji7, hji7⟩ : ∃ j_ : Int, (shr .u64 a2 (ji5)) = j_ := ⟨_, rfl⟩
          replace H : (if x0_1.length < 140737488355328 then (bollardref1_Lay.l0 k1 (x0_1 ++ [(ji7) % 256]) a2 (wrap64 (x7_1 - 1))) else (none)) = some r := by first | (rw [hji7] at H; exact H) | (simp only [hji7] at H ⊢; exact H)
          have hji7_ : (a2 / 2 ^ min (ji5).toNat 64) = ji7 := hji7
          have hji7z : (ji5) ≤ 64 → (a2 / 2 ^ (ji5).toNat) = ji7 := shr_small hji7
          by_cases c8 : x0_1.length < 140737488355328
          · rw [if_pos c8] at H
            have LMc8 := Aside0.mk c8
            clear c8
            obtain ⟨y183, hy183⟩ : ∃ y_ : List Int, y_ = (x0_1 ++ [(ji7) % 256]) := ⟨_, rfl⟩
            replace H : (bollardref1_Lay.l0 k1 y183 a2 (wrap64 (x7_1 - 1))) = some r := by first | (rw [hy183]; with_reducible exact H) | (have H2_ := (Option.bind_some _ _).symm.trans H; rw [hy183]; with_reducible exact H2_) | (have H2_ := (Option.bind_some _ _).symm.trans H; with_reducible exact H2_) | with_reducible exact H | (rw [hy183]; exact H) | exact H
            have Ny183 := Aside0.mk hy183
            clear hy183
            have H' := Aside0.mk H
            clear H
            go_wp2_with (first | ((with_reducible refine gate_builtin (b := .append) (xs := #[.tmp 14, .tmp 20]) rfl ?_); at_builtin; refine Kd.R_append (Kd.int .u8) (w0 := w0) w0.heap.size rfl (.tmp 14) (.tmp 20) 29 5 (.int .u8 0) 1 rfl Try.underlying29 info5 rfl (by decide) (by omega) u0 x0_1 ((ji7) % 256) [.int .u8 ((ji7) % 256)] (fun k_ => (P0_ k_ ∨ w.heap.size ≤ k_)) (fun _ => False) rfl rfl ?aP (fun _ hk => hk.elim) ?aF ?aO ?aB ?aS ?aL ?_; (case aP => exact rfl); (case aB => exact (by repeat (first | (with_reducible first | exact HB.out | apply below_alloc | apply pw_below_drewN | apply below_drew1) | exact HB.out))); (case aF => exact (fun k_ hk => (.inr (Nat.le_trans (by first | exact HK.out.1 | exact (show Kept w _ (fun k_ => P0_ k_) from by repeat (first | (with_reducible first | exact HK.out | apply Kept.alloc | apply Kept.drewN | apply Kept.drew) | exact HK.out)).1) hk)))); (case aO => exact (by (with_reducible repeat (first | apply Kd.R_alloc | apply Kd.R_drewN | apply Kd.R_drew)); exact HO_0.out)); (case aS => exact (below_size (by repeat (first | (with_reducible first | exact HB.out | apply below_alloc | apply pw_below_drewN | apply below_drew1) | exact HB.out)))); (case aL => have := LMc8.out; omega); intro v184 w9 ho hb hg hat; rw [← Ny183.out] at ho; have n0_ := Aside0.mk (hb); have n1_ := Aside0.mk (Kept.of_grown (S := (fun k_ => P0_ k_)) hg (by repeat (first | (with_reducible first | exact HK.out | apply Kept.alloc | apply Kept.drewN | apply Kept.drew) | exact HK.out)) (fun k_ e_ => (HO_0.out.1 k_ e_))); have n2_ := Aside0.mk (ho); clear HB; clear HK; clear HO_0; have HB := n0_; have HK := n1_; have HO185 := n2_; clear n0_ n1_ n2_; clear ho hb hg hat))
            go_roundg k1
            case measure => have := HK1.out; omega
            case rel => exact ⟨(y183), (wrap64 (x7_1 - 1)), (by first | rfl | (simp; done) | (simp [*]; done) | exact congrArg Value.bool (ne_empty _) | exact congrArg Value.bool (eq_empty _)), H', ⟨by have := HK1.out; omega⟩, ⟨by (with_reducible repeat (first | apply Kd.R_alloc | apply Kd.R_drewN | apply Kd.R_drew)); exact HO185.out⟩, ⟨by repeat (first | (with_reducible first | exact HK.out | apply Kept.alloc | apply Kept.drewN | apply Kept.drew) | exact HK.out)⟩, ⟨by repeat (first | (with_reducible first | exact HB.out | apply below_alloc | apply pw_below_drewN | apply below_drew1) | exact HB.out)⟩⟩
          · rw [if_neg c8] at H
            exact absurd H (by simp)
        · rw [if_neg c6] at H
          exact absurd H (by simp)
      · rw [if_neg c4] at H
        have c4b0 : decide (0 ≤ x7_1) = false := decide_eq_false c4
        clear c4
        obtain rfl := Option.some.inj H
        go_wp2
        go_ret
        exact ⟨_, by first | rfl | (simp [errW_none, errW_some] <;> rfl) | (simp [*, errW_none, errW_some] <;> rfl), by (with_reducible repeat (first | apply Kd.R_alloc | apply Kd.R_drewN | apply Kd.R_drew)); exact HO_0.out, by repeat (first | (with_reducible first | exact HB.out | apply below_alloc | apply pw_below_drewN | apply below_drew1) | exact HB.out), by repeat (first | (with_reducible first | exact HK.out | apply Kept.alloc | apply Kept.drewN | apply Kept.drew) | exact HK.out)⟩

-- NOT PRINTED: function 60 (bollardref20_Pen_short)

-- NOT PRINTED: function 58 (bollardref20_Pen_text)

-- NOT PRINTED: function 59 (bollardref20_Pen_records)

/-! ### bollardref12_odd -/
/-! ### bollardref12_Check -/
/-! ### bollardref1_Varint: function 104 -/
/-! ### bollardref1_Zig: function 105 -/
end Go.Proofs.Ytncfofnikmfjbaa.PCi
