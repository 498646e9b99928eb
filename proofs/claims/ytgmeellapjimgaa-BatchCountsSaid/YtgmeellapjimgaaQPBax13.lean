-- written by a program of this session (wip/tools/pr.py, over the kit's printer): not by hand
import Derived.Test.YtgmeellapjimgaaQPBax0
import Derived.Test.YtgmeellapjimgaaQPBax5
import Derived.Test.YtgmeellapjimgaaQPBax6
namespace Go.Proofs.Ytgmeellapjimgaa.PBa
open Go.RowKit Go.Proofs.YtgmeellapjimgaaW.PrintWords Go.Proofs.YtgmeellapjimgaaW.PrintLast Go.Proofs.YtgmeellapjimgaaW.PrintMore
attribute [local go_sem] max2_int min2_int max_two min_two max_three min_three max_four min_four   -- for this text's walks alone
set_option linter.unusedVariables false
set_option linter.unusedSimpArgs false

/-! ### bollardlaw13_BatchCounts: function 5 -/
mutual
def bollardlaw13_BatchCounts.j0 : Nat → Int → Int → Bool → Option (Bool)
  | 0, _, _, _ => none
  | k + 1, x0, x1, x25 => if x25 = true then ((bollardlaw13_awake.f k).bind fun t393 => (some t393)) else (bollardlaw13_BatchCounts.l0 k x0 x1 ([] : List (S45)) 0)
def bollardlaw13_BatchCounts.l0 : Nat → Int → Int → List (S45) → Int → Option (Bool)
  | 0, _, _, _, _ => none
  | k + 1, x0, x1, x5, x6 => if x6 < x0 then (if 0 ≤ x1 then (if (x1 : Int).toNat ≤ 281474976710656 then (if x5.length < 2199023255552 then (bollardlaw13_BatchCounts.l0 k x0 x1 (x5 ++ [(⟨false, (⟨#[]⟩ : ByteArray), true, strOfNums (List.replicate (x1 : Int).toNat 0), 0, 0⟩ : S45)]) (wrap64 (x6 + 1))) else (none)) else (none)) else (none)) else ((batch_Fresh.f k 0 0 0 x5).bind fun bt400 => (if x1 ≥ 128 then (bollardlaw13_BatchCounts.j2 k x0 bt400.2.2.2.2.2 (wrap64 ((wrap64 (4 + x1)) + 1)) bt400.1 bt400.2.1 bt400.2.2.1 bt400.2.2.2.1 bt400.2.2.2.2.1) else (bollardlaw13_BatchCounts.j2 k x0 bt400.2.2.2.2.2 (wrap64 (4 + x1)) bt400.1 bt400.2.1 bt400.2.2.1 bt400.2.2.2.1 bt400.2.2.2.2.1)))
def bollardlaw13_BatchCounts.j2 : Nat → Int → Int → Int → Int → Int → Int → Int → List (S45) → Option (Bool)
  | 0, _, _, _, _, _, _, _, _ => none
  | k + 1, x0, x8, x9, x409000, x409001, x409002, x409003, x409004 => if x0 = 0 then (bollardlaw13_BatchCounts.j3 k x0 x8 x9 true x409000 x409001 x409002 x409003 x409004) else (bollardlaw13_BatchCounts.j3 k x0 x8 x9 (decide (x0 > 100)) x409000 x409001 x409002 x409003 x409004)
def bollardlaw13_BatchCounts.j3 : Nat → Int → Int → Int → Bool → Int → Int → Int → Int → List (S45) → Option (Bool)
  | 0, _, _, _, _, _, _, _, _, _ => none
  | k + 1, x0, x8, x9, x50, x409000, x409001, x409002, x409003, x409004 => if x50 = true then (if x8 = 1 then ((bollardlaw13_awake.f k).bind fun t409 => (some t409)) else (some false)) else (if (wrap64 (48 + (wrap64 (x0 * x9)))) > 6000 then (if x8 = 2 then ((bollardlaw13_awake.f k).bind fun t410 => (some t410)) else (some false)) else ((batch_Encode.f k x409000 x409001 x409002 x409003 x409004).bind fun bt411 => (if x8 = 0 then (if bt411.2 = 0 then (if (bt411.1.length : Int) = (wrap64 (48 + (wrap64 (x0 * x9)))) then (if x409001 = x0 then ((bollardlaw13_awake.f k).bind fun t415 => (some t415)) else (some false)) else (some false)) else (some false)) else (some false))))
end
def bollardlaw13_BatchCounts.f (k : Nat) (a0 : Int) (a1 : Int) : Option (Bool) := if a0 < 0 then (bollardlaw13_BatchCounts.j0 k a0 a1 true) else (if a0 > 110 then (bollardlaw13_BatchCounts.j0 k a0 a1 true) else (if a1 < 0 then (bollardlaw13_BatchCounts.j0 k a0 a1 true) else (bollardlaw13_BatchCounts.j0 k a0 a1 (decide (a1 > 2000)))))
set_option maxRecDepth 100000 in
theorem bollardlaw13_BatchCounts.mono_l : ∀ k, (∀ y0 y1 y2, LeO (bollardlaw13_BatchCounts.j0 k y0 y1 y2) (bollardlaw13_BatchCounts.j0 (k + 1) y0 y1 y2)) ∧ (∀ y0 y1 y2 y3, LeO (bollardlaw13_BatchCounts.l0 k y0 y1 y2 y3) (bollardlaw13_BatchCounts.l0 (k + 1) y0 y1 y2 y3)) ∧ (∀ y0 y1 y2 y3 y4 y5 y6 y7, LeO (bollardlaw13_BatchCounts.j2 k y0 y1 y2 y3 y4 y5 y6 y7) (bollardlaw13_BatchCounts.j2 (k + 1) y0 y1 y2 y3 y4 y5 y6 y7)) ∧ (∀ y0 y1 y2 y3 y4 y5 y6 y7 y8, LeO (bollardlaw13_BatchCounts.j3 k y0 y1 y2 y3 y4 y5 y6 y7 y8) (bollardlaw13_BatchCounts.j3 (k + 1) y0 y1 y2 y3 y4 y5 y6 y7 y8))
  | 0 => ⟨fun _ _ _ r h => by first | exact nomatch (show (none : Option _) = some r from h) | (rw [bollardlaw13_BatchCounts.j0] at h; cases h; done) | (simp [bollardlaw13_BatchCounts.j0] at h; done), fun _ _ _ _ r h => by first | exact nomatch (show (none : Option _) = some r from h) | (rw [bollardlaw13_BatchCounts.l0] at h; cases h; done) | (simp [bollardlaw13_BatchCounts.l0] at h; done), fun _ _ _ _ _ _ _ _ r h => by first | exact nomatch (show (none : Option _) = some r from h) | (rw [bollardlaw13_BatchCounts.j2] at h; cases h; done) | (simp [bollardlaw13_BatchCounts.j2] at h; done), fun _ _ _ _ _ _ _ _ _ r h => by first | exact nomatch (show (none : Option _) = some r from h) | (rw [bollardlaw13_BatchCounts.j3] at h; cases h; done) | (simp [bollardlaw13_BatchCounts.j3] at h; done)⟩
  | k + 1 => by
    obtain ⟨ih0, ih1, ih2, ih3⟩ := bollardlaw13_BatchCounts.mono_l k
    refine ⟨?_, ?_, ?_, ?_⟩
    · intro y0 y1 y2
      unfold bollardlaw13_BatchCounts.j0
      repeat' first
      | (with_reducible exact ih0 _ _ _)
      | (with_reducible exact ih1 _ _ _ _)
      | (with_reducible exact ih2 _ _ _ _ _ _ _ _)
      | (with_reducible exact ih3 _ _ _ _ _ _ _ _ _)
      | (with_reducible exact batch_Encode.mono _ _ _ _ _ _)
      | (with_reducible exact batch_Fresh.mono _ _ _ _ _)
      | (with_reducible exact bollardlaw13_awake.mono _)
      | (with_reducible exact LeO.refl _)
      | (with_reducible exact LeO.none _)
      | (with_reducible refine LeO.ite ?_ ?_)
      | (with_reducible refine LeO.bind ?_ (fun _ => ?_))
      | exact ih0 _ _ _
      | exact ih1 _ _ _ _
      | exact ih2 _ _ _ _ _ _ _ _
      | exact ih3 _ _ _ _ _ _ _ _ _
      | exact batch_Encode.mono _ _ _ _ _ _
      | exact batch_Fresh.mono _ _ _ _ _
      | exact bollardlaw13_awake.mono _
      | exact LeO.none _
      | refine LeO.ite ?_ ?_
      | refine LeO.bind ?_ (fun _ => ?_)
    · intro y0 y1 y2 y3
      unfold bollardlaw13_BatchCounts.l0
      repeat' first
      | (with_reducible exact ih0 _ _ _)
      | (with_reducible exact ih1 _ _ _ _)
      | (with_reducible exact ih2 _ _ _ _ _ _ _ _)
      | (with_reducible exact ih3 _ _ _ _ _ _ _ _ _)
      | (with_reducible exact batch_Encode.mono _ _ _ _ _ _)
      | (with_reducible exact batch_Fresh.mono _ _ _ _ _)
      | (with_reducible exact bollardlaw13_awake.mono _)
      | (with_reducible exact LeO.refl _)
      | (with_reducible exact LeO.none _)
      | (with_reducible refine LeO.ite ?_ ?_)
      | (with_reducible refine LeO.bind ?_ (fun _ => ?_))
      | exact ih0 _ _ _
      | exact ih1 _ _ _ _
      | exact ih2 _ _ _ _ _ _ _ _
      | exact ih3 _ _ _ _ _ _ _ _ _
      | exact batch_Encode.mono _ _ _ _ _ _
      | exact batch_Fresh.mono _ _ _ _ _
      | exact bollardlaw13_awake.mono _
      | exact LeO.none _
      | refine LeO.ite ?_ ?_
      | refine LeO.bind ?_ (fun _ => ?_)
    · intro y0 y1 y2 y3 y4 y5 y6 y7
      unfold bollardlaw13_BatchCounts.j2
      repeat' first
      | (with_reducible exact ih0 _ _ _)
      | (with_reducible exact ih1 _ _ _ _)
      | (with_reducible exact ih2 _ _ _ _ _ _ _ _)
      | (with_reducible exact ih3 _ _ _ _ _ _ _ _ _)
      | (with_reducible exact batch_Encode.mono _ _ _ _ _ _)
      | (with_reducible exact batch_Fresh.mono _ _ _ _ _)
      | (with_reducible exact bollardlaw13_awake.mono _)
      | (with_reducible exact LeO.refl _)
      | (with_reducible exact LeO.none _)
      | (with_reducible refine LeO.ite ?_ ?_)
      | (with_reducible refine LeO.bind ?_ (fun _ => ?_))
      | exact ih0 _ _ _
      | exact ih1 _ _ _ _
      | exact ih2 _ _ _ _ _ _ _ _
      | exact ih3 _ _ _ _ _ _ _ _ _
      | exact batch_Encode.mono _ _ _ _ _ _
      | exact batch_Fresh.mono _ _ _ _ _
      | exact bollardlaw13_awake.mono _
      | exact LeO.none _
      | refine LeO.ite ?_ ?_
      | refine LeO.bind ?_ (fun _ => ?_)
    · intro y0 y1 y2 y3 y4 y5 y6 y7 y8
      unfold bollardlaw13_BatchCounts.j3
      repeat' first
      | (with_reducible exact ih0 _ _ _)
      | (with_reducible exact ih1 _ _ _ _)
      | (with_reducible exact ih2 _ _ _ _ _ _ _ _)
      | (with_reducible exact ih3 _ _ _ _ _ _ _ _ _)
      | (with_reducible exact batch_Encode.mono _ _ _ _ _ _)
      | (with_reducible exact batch_Fresh.mono _ _ _ _ _)
      | (with_reducible exact bollardlaw13_awake.mono _)
      | (with_reducible exact LeO.refl _)
      | (with_reducible exact LeO.none _)
      | (with_reducible refine LeO.ite ?_ ?_)
      | (with_reducible refine LeO.bind ?_ (fun _ => ?_))
      | exact ih0 _ _ _
      | exact ih1 _ _ _ _
      | exact ih2 _ _ _ _ _ _ _ _
      | exact ih3 _ _ _ _ _ _ _ _ _
      | exact batch_Encode.mono _ _ _ _ _ _
      | exact batch_Fresh.mono _ _ _ _ _
      | exact bollardlaw13_awake.mono _
      | exact LeO.none _
      | refine LeO.ite ?_ ?_
      | refine LeO.bind ?_ (fun _ => ?_)
theorem bollardlaw13_BatchCounts.mono : ∀ a0 a1 k, LeO (bollardlaw13_BatchCounts.f k a0 a1) (bollardlaw13_BatchCounts.f (k + 1) a0 a1) := by
  intro a0 a1 k
  obtain ⟨ih0, ih1, ih2, ih3⟩ := bollardlaw13_BatchCounts.mono_l k
  unfold bollardlaw13_BatchCounts.f
  repeat' first
      | (with_reducible exact ih0 _ _ _)
      | (with_reducible exact ih1 _ _ _ _)
      | (with_reducible exact ih2 _ _ _ _ _ _ _ _)
      | (with_reducible exact ih3 _ _ _ _ _ _ _ _ _)
      | (with_reducible exact batch_Encode.mono _ _ _ _ _ _)
      | (with_reducible exact batch_Fresh.mono _ _ _ _ _)
      | (with_reducible exact bollardlaw13_awake.mono _)
      | (with_reducible exact LeO.refl _)
      | (with_reducible exact LeO.none _)
      | (with_reducible refine LeO.ite ?_ ?_)
      | (with_reducible refine LeO.bind ?_ (fun _ => ?_))
      | exact ih0 _ _ _
      | exact ih1 _ _ _ _
      | exact ih2 _ _ _ _ _ _ _ _
      | exact ih3 _ _ _ _ _ _ _ _ _
      | exact batch_Encode.mono _ _ _ _ _ _
      | exact batch_Fresh.mono _ _ _ _ _
      | exact bollardlaw13_awake.mono _
      | exact LeO.none _
      | refine LeO.ite ?_ ?_
      | refine LeO.bind ?_ (fun _ => ?_)
set_option maxHeartbeats 8000000 in
set_option maxRecDepth 100000 in
theorem bollardlaw13_BatchCounts.calls (k : Nat) (a0 : Int) (a1 : Int) (r : Bool) (w : World) (h : bollardlaw13_BatchCounts.f k a0 a1 = some r) :
    Calls Try.prog 5 #[.int .i64 a0, .int .i64 a1] w fun e w' => e = .returned (.bool r) ∧ Below w.heap.size w w' := by
  have hu45 := Try.underlying45
  have hu24 := Try.underlying24
  have HB := Aside0.mk (Below.refl w.heap.size w)
  have H : (if a0 < 0 then (bollardlaw13_BatchCounts.j0 k a0 a1 true) else (if a0 > 110 then (bollardlaw13_BatchCounts.j0 k a0 a1 true) else (if a1 < 0 then (bollardlaw13_BatchCounts.j0 k a0 a1 true) else (bollardlaw13_BatchCounts.j0 k a0 a1 (decide (a1 > 2000)))))) = some r := h
  clear h
  have HC3 := Aside0.mk H
  clear H
  go_enter Try.func5, Try.ntmps5
  go_upto_region 1 with (fail)
  go_cut [25] (fun v25 wc => ∃ (kq : Nat) (x25_2 : Bool), v25 = .bool x25_2 ∧ Aside0 (bollardlaw13_BatchCounts.j0 kq a0 a1 x25_2 = some r) ∧ Aside0 (kq ≤ k) ∧ Aside0 (Below w.heap.size w wc))
  case first =>
    have H := HC3.out
    clear HC3
    by_cases c4 : a0 < 0
    · rw [if_pos c4] at H
      have c4b0 : decide (a0 < 0) = true := decide_eq_true c4
      clear c4
      (first | rw [c4b0] | (simp only [i64_w, i32_w]; rw [c4b0]) | skip)
      have H' := Aside0.mk H
      clear H
      go_wp2
      go_meet
      case rel => exact ⟨_, (true), (by first | rfl | (simp; done) | (simp [*]; done) | exact congrArg Value.bool (ne_empty _) | exact congrArg Value.bool (eq_empty _)), H', ⟨by first | omega | exact Nat.le_refl _⟩, ⟨by repeat (first | (with_reducible first | exact HB.out | apply below_alloc | apply pw_below_drewN | apply below_drew1) | exact HB.out)⟩⟩
    · rw [if_neg c4] at H
      have c4b0 : decide (a0 < 0) = false := decide_eq_false c4
      clear c4
      (first | rw [c4b0] | (simp only [i64_w, i32_w]; rw [c4b0]) | skip)
      by_cases c5 : a0 > 110
      · rw [if_pos c5] at H
        have c5b0 : decide (110 < a0) = true := decide_eq_true c5
        clear c5
        have H' := Aside0.mk H
        clear H
        go_wp2
        go_meet
        case rel => exact ⟨_, (true), (by first | rfl | (simp; done) | (simp [*]; done) | exact congrArg Value.bool (ne_empty _) | exact congrArg Value.bool (eq_empty _)), H', ⟨by first | omega | exact Nat.le_refl _⟩, ⟨by repeat (first | (with_reducible first | exact HB.out | apply below_alloc | apply pw_below_drewN | apply below_drew1) | exact HB.out)⟩⟩
      · rw [if_neg c5] at H
        have c5b0 : decide (110 < a0) = false := decide_eq_false c5
        clear c5
        by_cases c6 : a1 < 0
        · rw [if_pos c6] at H
          have c6b0 : decide (a1 < 0) = true := decide_eq_true c6
          clear c6
          have H' := Aside0.mk H
          clear H
          go_wp2
          go_meet
          case rel => exact ⟨_, (true), (by first | rfl | (simp; done) | (simp [*]; done) | exact congrArg Value.bool (ne_empty _) | exact congrArg Value.bool (eq_empty _)), H', ⟨by first | omega | exact Nat.le_refl _⟩, ⟨by repeat (first | (with_reducible first | exact HB.out | apply below_alloc | apply pw_below_drewN | apply below_drew1) | exact HB.out)⟩⟩
        · rw [if_neg c6] at H
          have c6b0 : decide (a1 < 0) = false := decide_eq_false c6
          clear c6
          have H' := Aside0.mk H
          clear H
          go_wp2
          go_meet
          case rel => exact ⟨_, (decide (a1 > 2000)), (by first | rfl | (simp; done) | (simp [*]; done) | exact congrArg Value.bool (ne_empty _) | exact congrArg Value.bool (eq_empty _)), H', ⟨by first | omega | exact Nat.le_refl _⟩, ⟨by repeat (first | (with_reducible first | exact HB.out | apply below_alloc | apply pw_below_drewN | apply below_drew1) | exact HB.out)⟩⟩
  case rest =>
    clear HC3
    try clear p2
    try clear c4
    try clear c4b0
    try clear c5
    try clear c5b0
    try clear c6
    try clear c6b0
    obtain ⟨kq, x25_2, rfl, HA, HJ2, HB⟩ := hcut
    cases kq with
    | zero => exact absurd HA.out (by first | (intro h_; exact nomatch (show (none : Option _) = some r from h_)) | simp [bollardlaw13_BatchCounts.j0])
    | succ kj2 =>
      have H := HA.out
      clear HA
      simp only [bollardlaw13_BatchCounts.j0] at H
      by_cases c7 : x25_2 = true
      · subst c7
        have H1 : ((bollardlaw13_awake.f kj2).bind fun t393 => (some t393)) = some r := by rw [if_pos rfl] at H; exact H
        clear H
        have H := H1
        clear H1
        replace H := Option.bind_eq_some_iff.mp H
        obtain ⟨t393, A80, H⟩ := H
        replace H : (some t393) = some r := H
        have A8 := Aside0.mk A80
        clear A80
        obtain rfl := Option.some.inj H
        go_wp2_with (first | ((with_reducible refine gate_callee (f := 12) rfl ?_); refine goesL_ (some 26) rfl rfl Try.func12 (by kernel_rfl) rfl #[] rfl (by (try simp only [List.map_toArray, List.map_cons, List.map_nil]); first | done | rfl | (simp only [List.length_drop, List.length_take]; rfl)) ?_; (with_reducible refine (bollardlaw13_awake.calls kj2  t393 _ A8.out).mono ?_); rintro e w9 ⟨rfl, hb⟩; refine ⟨_, rfl, ?_⟩; have n0_ := Aside0.mk (below_step (by repeat (first | (with_reducible first | exact HB.out | apply below_alloc | apply pw_below_drewN | apply below_drew1) | exact HB.out)) hb); clear HB; have HB := n0_; clear n0_; (try clear hb); (try clear hb2); (try clear hk); (try clear hi)))
        go_ret
        exact ⟨by first | rfl | (simp [errW_none, errW_some] <;> rfl) | (simp [*, errW_none, errW_some] <;> rfl), by repeat (first | (with_reducible first | exact HB.out | apply below_alloc | apply pw_below_drewN | apply below_drew1) | exact HB.out)⟩
      · replace c7 := Bool.eq_false_iff.mpr c7
        subst c7
        have H1 : (bollardlaw13_BatchCounts.l0 kj2 a0 a1 ([] : List (S45)) 0) = some r := by rw [if_neg (show ¬ (false = true) by decide)] at H; exact H
        clear H
        have H := H1
        clear H1
        have H' := Aside0.mk H
        clear H
        go_wp2
        go_loopg [5, 6] kj2 (fun kq v5 v6 w' => ∃ (x5_2 : List (S45)) (x6_2 : Int), v6 = .int .i64 x6_2 ∧ Aside0 (bollardlaw13_BatchCounts.l0 kq a0 a1 x5_2 x6_2 = some r) ∧ Aside0 (kq ≤ kj2) ∧ Aside0 (Kd.R k45 45 w' w.heap.size (fun _ => True) v5 x5_2) ∧ Aside0 (Below w.heap.size w w'))
        case atStart => exact ⟨(([] : List (S45))), (0), (by first | rfl | (simp; done) | (simp [*]; done) | exact congrArg Value.bool (ne_empty _) | exact congrArg Value.bool (eq_empty _)), H', ⟨Nat.le_refl _⟩, ⟨by first | exact Kd.R_nil _ _ _ _ _ | exact Kd.N_nil _ _ _ _ _ | exact Kd.V_nil _ _ _ _ _ | exact Kd.Q_nil _ _ _ _ _ | exact Kd.S_nil _ _ _ _ _⟩, ⟨by repeat (first | (with_reducible first | exact HB.out | apply below_alloc | apply pw_below_drewN | apply below_drew1) | exact HB.out)⟩⟩
        case round =>
          clear H'
          try clear c1
          try clear p2
          try clear c4
          try clear c4b0
          try clear c5
          try clear c5b0
          try clear c6
          try clear c6b0
          try clear c7
          try clear p2
          obtain ⟨x5_2, x6_2, rfl, HA, HK2, HO_5, HB⟩ := hrel
          cases gk with
          | zero => exact absurd HA.out (by first | (intro h_; exact nomatch (show (none : Option _) = some r from h_)) | simp [bollardlaw13_BatchCounts.l0])
          | succ k2 =>
            have H := HA.out
            clear HA
            simp only [bollardlaw13_BatchCounts.l0] at H
            by_cases c10 : x6_2 < a0
            · rw [if_pos c10] at H
              have c10b0 : decide (x6_2 < a0) = true := decide_eq_true c10
              clear c10
              by_cases c11 : 0 ≤ a1
              · rw [if_pos c11] at H
                have c11b0 := eq_true c11
                have c11b1 : decide (0 ≤ a1) = true := decide_eq_true c11
                clear c11
                by_cases c12 : (a1 : Int).toNat ≤ 281474976710656
                · rw [if_pos c12] at H
                  have c12b0 := eq_true c12
                  have c12b1 : decide ((a1 : Int).toNat ≤ 281474976710656) = true := decide_eq_true c12
                  clear c12
                  obtain ⟨y394, hy394⟩ : ∃ y_ : List Int, y_ = (List.replicate (a1 : Int).toNat 0) := ⟨_, rfl⟩
                  replace H : (if x5_2.length < 2199023255552 then (bollardlaw13_BatchCounts.l0 k2 a0 a1 (x5_2 ++ [(⟨false, (⟨#[]⟩ : ByteArray), true, strOfNums y394, 0, 0⟩ : S45)]) (wrap64 (x6_2 + 1))) else (none)) = some r := by first | (rw [hy394]; with_reducible exact H) | (have H2_ := (Option.bind_some _ _).symm.trans H; rw [hy394]; with_reducible exact H2_) | (have H2_ := (Option.bind_some _ _).symm.trans H; with_reducible exact H2_) | with_reducible exact H | (rw [hy394]; exact H) | exact H
                  have Ny394 := Aside0.mk hy394
                  clear hy394
                  by_cases c13 : x5_2.length < 2199023255552
                  · rw [if_pos c13] at H
                    have LMc13 := Aside0.mk c13
                    clear c13
                    obtain ⟨y397, hy397⟩ : ∃ y_ : List (S45), y_ = (x5_2 ++ [(⟨false, (⟨#[]⟩ : ByteArray), true, strOfNums y394, 0, 0⟩ : S45)]) := ⟨_, rfl⟩
                    replace H : (bollardlaw13_BatchCounts.l0 k2 a0 a1 y397 (wrap64 (x6_2 + 1))) = some r := by first | (rw [hy397]; with_reducible exact H) | (have H2_ := (Option.bind_some _ _).symm.trans H; rw [hy397]; with_reducible exact H2_) | (have H2_ := (Option.bind_some _ _).symm.trans H; with_reducible exact H2_) | with_reducible exact H | (rw [hy397]; exact H) | exact H
                    have Ny397 := Aside0.mk hy397
                    clear hy397
                    have H' := Aside0.mk H
                    clear H
                    go_wp2_with (first | ((with_reducible refine gate_dst (N := 34) rfl ?_); (try (refine gate_guard (by rfl) ?_; dsimp only)); refine Kd.R_make (Kd.int .u8) _ 5 rfl (N := 34) rfl 27 _ _ rfl a1 rfl rfl Try.underlying27 (.int .u8 0) 1 info5 rfl (by decide) (by omega) 0 (ok := fun _ => True) (okp := fun _ => True) rfl (fun _ hk => hk) trivial (of_decide_eq_true (by first | (with_reducible assumption) | assumption)) (Nat.le_trans (Nat.mul_le_mul_right _ (of_decide_eq_true (by first | (with_reducible assumption) | assumption) : a1.toNat ≤ 281474976710656)) (by omega)) (Below.refl _ _) (Nat.le_refl _) ?_; intro v395 w14 ho15 hb hg_ hnew_; clear hg_ hnew_; (first | rw [← Ny394.out] at ho15 | (simp only [Int.reduceToNat] at ho15; rw [← Ny394.out] at ho15)); have n0_ := Aside0.mk (Kd.R_below (by (with_reducible repeat (first | apply Kd.R_alloc | apply Kd.R_drewN | apply Kd.R_drew)); exact HO_5.out) hb); have n1_ := Aside0.mk (Kd.R_lower ho15 (below_size (by repeat (first | (with_reducible first | exact HB.out | apply below_alloc | apply pw_below_drewN | apply below_drew1) | exact HB.out)))); have n2_ := Aside0.mk (below_step (by repeat (first | (with_reducible first | exact HB.out | apply below_alloc | apply pw_below_drewN | apply below_drew1) | exact HB.out)) hb); clear HO_5; clear HB; have HO_5 := n0_; have HO396 := n1_; have HB := n2_; clear n0_ n1_ n2_; clear hb ho15; have hcv16 := own_string (P := Try.prog) Try.underlying27 Try.underlying5 Try.underlying9 (Kd.own_of_R HO396.out)) | ((with_reducible refine gate_builtin (b := .append) (xs := #[.tmp 32, .tmp 37]) rfl ?_); (try (refine gate_guard (by rfl) ?_; dsimp only)); at_builtin; refine Kd.R_append k45 (w0 := w) w.heap.size rfl (.tmp 32) (.tmp 37) 22 45 (.agg #[(.bool false), (.string ⟨#[]⟩), (.bool false), (.string ⟨#[]⟩), (.int .i64 0), (.int .i64 0)]) 64 rfl Try.underlying22 info45 rfl (by decide) (by omega) u5 x5_2 (⟨false, (⟨#[]⟩ : ByteArray), true, strOfNums y394, 0, 0⟩ : S45) [.bool false, .string (⟨#[]⟩ : ByteArray), .bool true, .string (strOfNums y394), .int .i64 0, .int .i64 0] (fun _ => True) (fun _ => False) rfl rfl ?aP (fun _ hk => hk.elim) ?aF ?aO ?aB ?aS ?aL ?_; (case aP => exact k45_mkM _ _ _ (⟨false, (⟨#[]⟩ : ByteArray), true, strOfNums y394, 0, 0⟩ : S45)); (case aB => exact (by repeat (first | (with_reducible first | exact HB.out | apply below_alloc | apply pw_below_drewN | apply below_drew1) | exact HB.out))); (case aF => exact (fun _ _ => trivial)); (case aO => exact (by (with_reducible repeat (first | apply Kd.R_alloc | apply Kd.R_drewN | apply Kd.R_drew)); exact HO_5.out)); (case aS => exact (below_size (by repeat (first | (with_reducible first | exact HB.out | apply below_alloc | apply pw_below_drewN | apply below_drew1) | exact HB.out)))); (case aL => have := LMc13.out; omega); intro v398 w17 ho hb hg hat; rw [← Ny397.out] at ho; have n0_ := Aside0.mk (Kd.R_over' (by (with_reducible repeat (first | apply Kd.R_alloc | apply Kd.R_drewN | apply Kd.R_drew)); exact HO396.out) (Kd.R_typed (by (with_reducible repeat (first | apply Kd.R_alloc | apply Kd.R_drewN | apply Kd.R_drew)); exact HO_5.out)) (by decide) hg); have n1_ := Aside0.mk (hb); have n2_ := Aside0.mk (ho); clear HO396; clear HB; clear HO_5; have HO396 := n0_; have HB := n1_; have HO399 := n2_; clear n0_ n1_ n2_; clear ho hb hg hat))
                    go_roundg k2
                    case measure => have := HJ2.out; have := HK2.out; omega
                    case rel => exact ⟨(y397), (wrap64 (x6_2 + 1)), (by first | rfl | (simp; done) | (simp [*]; done) | exact congrArg Value.bool (ne_empty _) | exact congrArg Value.bool (eq_empty _)), H', ⟨by have := HJ2.out; have := HK2.out; omega⟩, ⟨by (with_reducible repeat (first | apply Kd.R_alloc | apply Kd.R_drewN | apply Kd.R_drew)); exact HO399.out⟩, ⟨by repeat (first | (with_reducible first | exact HB.out | apply below_alloc | apply pw_below_drewN | apply below_drew1) | exact HB.out)⟩⟩
                  · rw [if_neg c13] at H
                    exact absurd H (by simp)
                · rw [if_neg c12] at H
                  exact absurd H (by simp)
              · rw [if_neg c11] at H
                exact absurd H (by simp)
            · rw [if_neg c10] at H
              have c10b0 : decide (x6_2 < a0) = false := decide_eq_false c10
              clear c10
              replace H := Option.bind_eq_some_iff.mp H
              obtain ⟨⟨t400, t401, t402, t403, t404, t407⟩, A180, H⟩ := H
              replace H : (if a1 ≥ 128 then (bollardlaw13_BatchCounts.j2 k2 a0 t407 (wrap64 ((wrap64 (4 + a1)) + 1)) t400 t401 t402 t403 t404) else (bollardlaw13_BatchCounts.j2 k2 a0 t407 (wrap64 (4 + a1)) t400 t401 t402 t403 t404)) = some r := H
              have A18 := Aside0.mk A180
              clear A180
              have HC19 := Aside0.mk H
              clear H
              obtain ⟨Ao20, co20, eo20⟩ := Kd.R_slice HO_5.out
              subst eo20
              go_upto_if 47 with (first | ((with_reducible refine gate_callee (f := 18) rfl ?_); refine goesL_ (some 41) rfl rfl Try.func18 (by kernel_rfl) rfl #[.int .i64 0, .int .i64 0, .int .i64 0, .slice Ao20 x5_2.length co20] rfl (by (try simp only [List.map_toArray, List.map_cons, List.map_nil]); first | done | rfl | (simp only [List.length_drop, List.length_take]; rfl)) ?_; (with_reducible refine (batch_Fresh.calls k2 0 0 0 _ _ x5_2 t400 t401 t402 t403 t404 t407 _ ?side1 ?side2 A18.out).mono ?_); (case side1 => repeat (first | exact (Kd.R_reads' HO_5.out).2.2 | (with_reducible refine Kd.C_alloc ?_ _) | (with_reducible refine Kd.C_drewN ?_ _) | (with_reducible refine Kd.C_drew ?_))); (case side2 => exact (Kd.R_reads' HO_5.out).2.1); rintro e w21 ⟨v405, rfl, ho0, hb⟩; refine ⟨_, rfl, ?_⟩; have n0_ := Aside0.mk (Kd.R_elder' (by (with_reducible repeat (first | apply Kd.R_alloc | apply Kd.R_drewN | apply Kd.R_drew)); exact HO_5.out) (Kd.R_base ho0) hb); have n1_ := Aside0.mk (Kd.R_lower (Kd.R_new' ho0 (Kd.R_lt (by (with_reducible repeat (first | apply Kd.R_alloc | apply Kd.R_drewN | apply Kd.R_drew)); exact HO_5.out))) (below_size (by repeat (first | (with_reducible first | exact HB.out | apply below_alloc | apply pw_below_drewN | apply below_drew1) | exact HB.out)))); have n2_ := Aside0.mk (below_step (by repeat (first | (with_reducible first | exact HB.out | apply below_alloc | apply pw_below_drewN | apply below_drew1) | exact HB.out)) hb); clear HO_5; clear HB; have HO_5 := n0_; have HO406 := n1_; have HB := n2_; clear n0_ n1_ n2_; (try clear hb); (try clear hb2); (try clear hk); (try clear hi); (try clear ho0)) | ((with_reducible refine gate_dst (N := 7) rfl ?_); (try (refine gate_guard (by rfl) ?_; dsimp only)); refine box_event ?hg (N := 7) ?hd (cs := #[.int .i64 0, .int .i64 0, .int .i64 0, .int .i64 0, .slice none 0 0]) (t := 24) ?hr ?_; (case hd => rfl); (case hg => rfl); (case hr => first | (go_simp; done) | (go_simp; rfl)); intro gb408 hg w22 hbox hb; have n0_ := Aside0.mk (Kd.R_below (by (with_reducible repeat (first | apply Kd.R_alloc | apply Kd.R_drewN | apply Kd.R_drew)); exact HO_5.out) hb); have n1_ := Aside0.mk (Kd.R_below (by (with_reducible repeat (first | apply Kd.R_alloc | apply Kd.R_drewN | apply Kd.R_drew)); exact HO406.out) hb); have n2_ := Aside0.mk (below_step (by repeat (first | (with_reducible first | exact HB.out | apply below_alloc | apply pw_below_drewN | apply below_drew1) | exact HB.out)) hb); have n3_ := Aside0.mk (hbox); have n4_ := Aside0.mk ((by rw [hg]; exact (below_size (by repeat (first | (with_reducible first | exact HB.out | apply below_alloc | apply pw_below_drewN | apply below_drew1) | exact HB.out))) : w.heap.size ≤ gb408)); have n5_ := Aside0.mk ((by rw [hg]; exact (below_size (by repeat (first | (with_reducible first | exact HB.out | apply below_alloc | apply pw_below_drewN | apply below_drew1) | exact HB.out))) : w.heap.size ≤ gb408)); clear HO_5; clear HO406; clear HB; have HO_5 := n0_; have HO406 := n1_; have HB := n2_; have BK408 := n3_; have GW408 := n4_; have GE408 := n5_; clear n0_ n1_ n2_ n3_ n4_ n5_; clear hb hbox hg; have hcz23_0 : w22.cell? ⟨gb408, 0, none⟩ = some (.int .i64 0) := (blk_cell BK408.out 0).trans rfl; have hcz23_1 : w22.cell? ⟨gb408, 1, none⟩ = some (.int .i64 0) := (blk_cell BK408.out 1).trans rfl; have hcz23_2 : w22.cell? ⟨gb408, 2, none⟩ = some (.int .i64 0) := (blk_cell BK408.out 2).trans rfl; have hcz23_3 : w22.cell? ⟨gb408, 3, none⟩ = some (.int .i64 0) := (blk_cell BK408.out 3).trans rfl; have hcz23_4 : w22.cell? ⟨gb408, 4, none⟩ = some (.slice none 0 0) := (blk_cell BK408.out 4).trans rfl; have hfz23_0 := blk_frozen BK408.out 0; have hfz23_1 := blk_frozen BK408.out 1; have hfz23_2 := blk_frozen BK408.out 2; have hfz23_3 := blk_frozen BK408.out 3; have hfz23_4 := blk_frozen BK408.out 4; obtain ⟨Ao24, co24, eo24⟩ := Kd.R_slice HO406.out; subst eo24))
              (try simp only [Act.put, List.setIfInBounds_toArray, List.set_cons_zero, List.set_cons_succ])
              go_cut [9] (fun v9 wc => ∃ (kq : Nat) (x9_18 : Int), v9 = .int .i64 x9_18 ∧ Aside0 (bollardlaw13_BatchCounts.j2 kq a0 t407 x9_18 t400 t401 t402 t403 t404 = some r) ∧ Aside0 (kq ≤ k2) ∧ Aside0 (Kd.R k45 45 wc w.heap.size (fun _ => True) (.slice Ao24 t404.length co24) t404) ∧ Aside0 (wc.heap[gb408]? = some (.cells #[.int .i64 t400, .int .i64 t401, .int .i64 t402, .int .i64 t403, (.slice Ao24 t404.length co24)] 24 (0, 0))) ∧ Aside0 (Below w.heap.size w wc))
              case first =>
                have H := HC19.out
                clear HC19
                by_cases c25 : a1 ≥ 128
                · rw [if_pos c25] at H
                  have c25b0 : decide (128 ≤ a1) = true := decide_eq_true c25
                  clear c25
                  (first | rw [c25b0] | (simp only [i64_w, i32_w]; rw [c25b0]) | skip)
                  have H' := Aside0.mk H
                  clear H
                  go_wp2
                  go_meet
                  case rel => exact ⟨_, (wrap64 ((wrap64 (4 + a1)) + 1)), (by first | rfl | (simp; done) | (simp [*]; done) | exact congrArg Value.bool (ne_empty _) | exact congrArg Value.bool (eq_empty _)), H', ⟨by have := HJ2.out; have := HK2.out; first | omega | exact Nat.le_refl _⟩, ⟨by (with_reducible repeat (first | apply Kd.R_alloc | apply Kd.R_drewN | apply Kd.R_drew)); exact Kd.R_mono (Kd.R_far (p := ⟨gb408, 4, none⟩) (Kd.R_far (p := ⟨gb408, 3, none⟩) (Kd.R_far (p := ⟨gb408, 2, none⟩) (Kd.R_far (p := ⟨gb408, 1, none⟩) (Kd.R_far (p := ⟨gb408, 0, none⟩) (Kd.R_types HO406.out BK408.out (by decide)) (fun _ hk => hk.2) (.int .i64 t400)) (fun _ hk => hk.2) (.int .i64 t401)) (fun _ hk => hk.2) (.int .i64 t402)) (fun _ hk => hk.2) (.int .i64 t403)) (fun _ hk => hk.2) (.slice Ao24 t404.length co24)) (fun _ hk => trivial)⟩, ⟨by (with_reducible repeat (first | refine blk_drewN ?_ _ | refine blk_drew ?_ | refine blk_alloc ?_ _)); refine blk_put (cs := #[.int .i64 t400, .int .i64 t401, .int .i64 t402, .int .i64 t403, .slice none 0 0]) ?_ 4 _ (by first | rfl | (simp only [*, List.setIfInBounds_toArray, List.set_cons_zero, List.set_cons_succ]; done) | (simp [*]; done)); (with_reducible repeat (first | refine blk_drewN ?_ _ | refine blk_drew ?_ | refine blk_alloc ?_ _)); refine blk_put (cs := #[.int .i64 t400, .int .i64 t401, .int .i64 t402, .int .i64 0, .slice none 0 0]) ?_ 3 _ (by first | rfl | (simp only [*, List.setIfInBounds_toArray, List.set_cons_zero, List.set_cons_succ]; done) | (simp [*]; done)); (with_reducible repeat (first | refine blk_drewN ?_ _ | refine blk_drew ?_ | refine blk_alloc ?_ _)); refine blk_put (cs := #[.int .i64 t400, .int .i64 t401, .int .i64 0, .int .i64 0, .slice none 0 0]) ?_ 2 _ (by first | rfl | (simp only [*, List.setIfInBounds_toArray, List.set_cons_zero, List.set_cons_succ]; done) | (simp [*]; done)); (with_reducible repeat (first | refine blk_drewN ?_ _ | refine blk_drew ?_ | refine blk_alloc ?_ _)); refine blk_put (cs := #[.int .i64 t400, .int .i64 0, .int .i64 0, .int .i64 0, .slice none 0 0]) ?_ 1 _ (by first | rfl | (simp only [*, List.setIfInBounds_toArray, List.set_cons_zero, List.set_cons_succ]; done) | (simp [*]; done)); (with_reducible repeat (first | refine blk_drewN ?_ _ | refine blk_drew ?_ | refine blk_alloc ?_ _)); refine blk_put (cs := #[.int .i64 0, .int .i64 0, .int .i64 0, .int .i64 0, .slice none 0 0]) ?_ 0 _ (by first | rfl | (simp only [*, List.setIfInBounds_toArray, List.set_cons_zero, List.set_cons_succ]; done) | (simp [*]; done)); (with_reducible repeat (first | refine blk_drewN ?_ _ | refine blk_drew ?_ | refine blk_alloc ?_ _)); exact BK408.out⟩, ⟨by repeat (first | (with_reducible first | exact HB.out | apply below_alloc | apply pw_below_drewN | apply below_drew1 | refine below_set ?_ GE408.out) | exact HB.out)⟩⟩
                · rw [if_neg c25] at H
                  have c25b0 : decide (128 ≤ a1) = false := decide_eq_false c25
                  clear c25
                  (first | rw [c25b0] | (simp only [i64_w, i32_w]; rw [c25b0]) | skip)
                  have H' := Aside0.mk H
                  clear H
                  go_wp2
                  go_meet
                  case rel => exact ⟨_, (wrap64 (4 + a1)), (by first | rfl | (simp; done) | (simp [*]; done) | exact congrArg Value.bool (ne_empty _) | exact congrArg Value.bool (eq_empty _)), H', ⟨by have := HJ2.out; have := HK2.out; first | omega | exact Nat.le_refl _⟩, ⟨by (with_reducible repeat (first | apply Kd.R_alloc | apply Kd.R_drewN | apply Kd.R_drew)); exact Kd.R_mono (Kd.R_far (p := ⟨gb408, 4, none⟩) (Kd.R_far (p := ⟨gb408, 3, none⟩) (Kd.R_far (p := ⟨gb408, 2, none⟩) (Kd.R_far (p := ⟨gb408, 1, none⟩) (Kd.R_far (p := ⟨gb408, 0, none⟩) (Kd.R_types HO406.out BK408.out (by decide)) (fun _ hk => hk.2) (.int .i64 t400)) (fun _ hk => hk.2) (.int .i64 t401)) (fun _ hk => hk.2) (.int .i64 t402)) (fun _ hk => hk.2) (.int .i64 t403)) (fun _ hk => hk.2) (.slice Ao24 t404.length co24)) (fun _ hk => trivial)⟩, ⟨by (with_reducible repeat (first | refine blk_drewN ?_ _ | refine blk_drew ?_ | refine blk_alloc ?_ _)); refine blk_put (cs := #[.int .i64 t400, .int .i64 t401, .int .i64 t402, .int .i64 t403, .slice none 0 0]) ?_ 4 _ (by first | rfl | (simp only [*, List.setIfInBounds_toArray, List.set_cons_zero, List.set_cons_succ]; done) | (simp [*]; done)); (with_reducible repeat (first | refine blk_drewN ?_ _ | refine blk_drew ?_ | refine blk_alloc ?_ _)); refine blk_put (cs := #[.int .i64 t400, .int .i64 t401, .int .i64 t402, .int .i64 0, .slice none 0 0]) ?_ 3 _ (by first | rfl | (simp only [*, List.setIfInBounds_toArray, List.set_cons_zero, List.set_cons_succ]; done) | (simp [*]; done)); (with_reducible repeat (first | refine blk_drewN ?_ _ | refine blk_drew ?_ | refine blk_alloc ?_ _)); refine blk_put (cs := #[.int .i64 t400, .int .i64 t401, .int .i64 0, .int .i64 0, .slice none 0 0]) ?_ 2 _ (by first | rfl | (simp only [*, List.setIfInBounds_toArray, List.set_cons_zero, List.set_cons_succ]; done) | (simp [*]; done)); (with_reducible repeat (first | refine blk_drewN ?_ _ | refine blk_drew ?_ | refine blk_alloc ?_ _)); refine blk_put (cs := #[.int .i64 t400, .int .i64 0, .int .i64 0, .int .i64 0, .slice none 0 0]) ?_ 1 _ (by first | rfl | (simp only [*, List.setIfInBounds_toArray, List.set_cons_zero, List.set_cons_succ]; done) | (simp [*]; done)); (with_reducible repeat (first | refine blk_drewN ?_ _ | refine blk_drew ?_ | refine blk_alloc ?_ _)); refine blk_put (cs := #[.int .i64 0, .int .i64 0, .int .i64 0, .int .i64 0, .slice none 0 0]) ?_ 0 _ (by first | rfl | (simp only [*, List.setIfInBounds_toArray, List.set_cons_zero, List.set_cons_succ]; done) | (simp [*]; done)); (with_reducible repeat (first | refine blk_drewN ?_ _ | refine blk_drew ?_ | refine blk_alloc ?_ _)); exact BK408.out⟩, ⟨by repeat (first | (with_reducible first | exact HB.out | apply below_alloc | apply pw_below_drewN | apply below_drew1 | refine below_set ?_ GE408.out) | exact HB.out)⟩⟩
              case rest =>
                clear HC19
                try clear c1
                try clear hcv1
                try clear c2
                try clear p2
                try clear c4
                try clear c4b0
                try clear c5
                try clear c5b0
                try clear c6
                try clear c6b0
                try clear p6
                try clear c7
                try clear c10
                try clear c10b0
                try clear c11
                try clear c11b0
                try clear c11b1
                try clear c12
                try clear c12b0
                try clear c12b1
                try clear c13
                try clear hcv16
                try clear c18
                try clear c25
                try clear c25b0
                try clear hcz23_0
                try clear hcz23_1
                try clear hcz23_2
                try clear hcz23_3
                try clear hcz23_4
                try clear hfz23_0
                try clear hfz23_1
                try clear hfz23_2
                try clear hfz23_3
                try clear hfz23_4
                try clear p2
                obtain ⟨kq, x9_18, rfl, HA, HJ18, HO_409004, BK408, HB⟩ := hcut
                cases kq with
                | zero => exact absurd HA.out (by first | (intro h_; exact nomatch (show (none : Option _) = some r from h_)) | simp [bollardlaw13_BatchCounts.j2])
                | succ kj18 =>
                  have H := HA.out
                  clear HA
                  simp only [bollardlaw13_BatchCounts.j2] at H
                  have HC26 := Aside0.mk H
                  clear H
                  go_upto_region 12 with (fail)
                  go_cut [50] (fun v50 wc => ∃ (kq : Nat) (x50_25 : Bool), v50 = .bool x50_25 ∧ Aside0 (bollardlaw13_BatchCounts.j3 kq a0 t407 x9_18 x50_25 t400 t401 t402 t403 t404 = some r) ∧ Aside0 (kq ≤ kj18) ∧ Aside0 (Kd.R k45 45 wc w.heap.size (fun _ => True) (.slice Ao24 t404.length co24) t404) ∧ Aside0 (wc.heap[gb408]? = some (.cells #[.int .i64 t400, .int .i64 t401, .int .i64 t402, .int .i64 t403, (.slice Ao24 t404.length co24)] 24 (0, 0))) ∧ Aside0 (Below w.heap.size w wc))
                  case first =>
                    have H := HC26.out
                    clear HC26
                    by_cases c27 : a0 = 0
                    · rw [if_pos c27] at H
                      have c27b0 : (a0 == 0) = true := beq_iff_eq.mpr c27
                      have c27b1 : (a0 != 0) = false := bne_eq_false_iff_eq.mpr c27
                      clear c27
                      (first | rw [c27b0] | (simp only [i64_w, i32_w]; rw [c27b0]) | skip)
                      have H' := Aside0.mk H
                      clear H
                      go_wp2
                      go_meet
                      case rel => exact ⟨_, (true), (by first | rfl | (simp; done) | (simp [*]; done) | exact congrArg Value.bool (ne_empty _) | exact congrArg Value.bool (eq_empty _)), H', ⟨by have := HJ2.out; have := HK2.out; have := HJ18.out; first | omega | exact Nat.le_refl _⟩, ⟨by (with_reducible repeat (first | apply Kd.R_alloc | apply Kd.R_drewN | apply Kd.R_drew)); exact HO_409004.out⟩, ⟨by (with_reducible repeat (first | refine blk_drewN ?_ _ | refine blk_drew ?_ | refine blk_alloc ?_ _)); exact BK408.out⟩, ⟨by repeat (first | (with_reducible first | exact HB.out | apply below_alloc | apply pw_below_drewN | apply below_drew1 | refine below_set ?_ GE408.out) | exact HB.out)⟩⟩
                    · rw [if_neg c27] at H
                      have c27b0 : (a0 == 0) = false := beq_eq_false_iff_ne.mpr c27
                      have c27b1 : (a0 != 0) = true := bne_iff_ne.mpr c27
                      (first | rw [c27b0] | (simp only [i64_w, i32_w]; rw [c27b0]) | skip)
                      have H' := Aside0.mk H
                      clear H
                      go_wp2
                      go_meet
                      case rel => exact ⟨_, (decide (a0 > 100)), (by first | rfl | (simp; done) | (simp [*]; done) | exact congrArg Value.bool (ne_empty _) | exact congrArg Value.bool (eq_empty _)), H', ⟨by have := HJ2.out; have := HK2.out; have := HJ18.out; first | omega | exact Nat.le_refl _⟩, ⟨by (with_reducible repeat (first | apply Kd.R_alloc | apply Kd.R_drewN | apply Kd.R_drew)); exact HO_409004.out⟩, ⟨by (with_reducible repeat (first | refine blk_drewN ?_ _ | refine blk_drew ?_ | refine blk_alloc ?_ _)); exact BK408.out⟩, ⟨by repeat (first | (with_reducible first | exact HB.out | apply below_alloc | apply pw_below_drewN | apply below_drew1 | refine below_set ?_ GE408.out) | exact HB.out)⟩⟩
                  case rest =>
                    clear HC26
                    try clear c1
                    try clear hcv1
                    try clear c2
                    try clear p2
                    try clear c4
                    try clear c4b0
                    try clear c5
                    try clear c5b0
                    try clear c6
                    try clear c6b0
                    try clear p6
                    try clear c7
                    try clear c10
                    try clear c10b0
                    try clear c11
                    try clear c11b0
                    try clear c11b1
                    try clear c12
                    try clear c12b0
                    try clear c12b1
                    try clear c13
                    try clear hcv16
                    try clear c18
                    try clear c25
                    try clear c25b0
                    try clear c27
                    try clear c27b0
                    try clear c27b1
                    try clear hcz23_0
                    try clear hcz23_1
                    try clear hcz23_2
                    try clear hcz23_3
                    try clear hcz23_4
                    try clear hfz23_0
                    try clear hfz23_1
                    try clear hfz23_2
                    try clear hfz23_3
                    try clear hfz23_4
                    try clear p2
                    try clear p6
                    obtain ⟨kq, x50_25, rfl, HA, HJ25, HO_409004, BK408, HB⟩ := hcut
                    cases kq with
                    | zero => exact absurd HA.out (by first | (intro h_; exact nomatch (show (none : Option _) = some r from h_)) | simp [bollardlaw13_BatchCounts.j3])
                    | succ kj25 =>
                      have H := HA.out
                      clear HA
                      simp only [bollardlaw13_BatchCounts.j3] at H
                      by_cases c28 : x50_25 = true
                      · subst c28
                        have H1 : (if t407 = 1 then ((bollardlaw13_awake.f kj25).bind fun t409 => (some t409)) else (some false)) = some r := by rw [if_pos rfl] at H; exact H
                        clear H
                        have H := H1
                        clear H1
                        by_cases c29 : t407 = 1
                        · rw [if_pos c29] at H
                          have c29b0 : (t407 == 1) = true := beq_iff_eq.mpr c29
                          have c29b1 : (t407 != 1) = false := bne_eq_false_iff_eq.mpr c29
                          clear c29
                          replace H := Option.bind_eq_some_iff.mp H
                          obtain ⟨t409, A300, H⟩ := H
                          replace H : (some t409) = some r := H
                          have A30 := Aside0.mk A300
                          clear A300
                          obtain rfl := Option.some.inj H
                          go_wp2_with (first | (go_at_call 12; (with_reducible refine (bollardlaw13_awake.calls kj25  t409 _ A30.out).mono ?_); rintro e w31 ⟨rfl, hb⟩; have n0_ := Aside0.mk (Kd.R_below (by (with_reducible repeat (first | apply Kd.R_alloc | apply Kd.R_drewN | apply Kd.R_drew)); exact HO_409004.out) hb); have n1_ := Aside0.mk (blk_below (g := gb408) (o := .cells #[.int .i64 t400, .int .i64 t401, .int .i64 t402, .int .i64 t403, .slice Ao24 t404.length co24] 24 (0, 0)) (by (with_reducible repeat (first | refine blk_drewN ?_ _ | refine blk_drew ?_ | refine blk_alloc ?_ _)); exact BK408.out) hb); have n2_ := Aside0.mk (below_step (by repeat (first | (with_reducible first | exact HB.out | apply below_alloc | apply pw_below_drewN | apply below_drew1 | refine below_set ?_ GE408.out) | exact HB.out)) hb); clear HO_409004; clear BK408; clear HB; have HO_409004 := n0_; have BK408 := n1_; have HB := n2_; clear n0_ n1_ n2_; (try clear hb); (try clear hb2); (try clear hk); (try clear hi)))
                          go_ret
                          exact ⟨by first | rfl | (simp [errW_none, errW_some] <;> rfl) | (simp [*, errW_none, errW_some] <;> rfl), by repeat (first | (with_reducible first | exact HB.out | apply below_alloc | apply pw_below_drewN | apply below_drew1 | refine below_set ?_ GE408.out) | exact HB.out)⟩
                        · rw [if_neg c29] at H
                          have c29b0 : (t407 == 1) = false := beq_eq_false_iff_ne.mpr c29
                          have c29b1 : (t407 != 1) = true := bne_iff_ne.mpr c29
                          obtain rfl := Option.some.inj H
                          go_wp2
                          go_ret
                          exact ⟨by first | rfl | (simp [errW_none, errW_some] <;> rfl) | (simp [*, errW_none, errW_some] <;> rfl), by repeat (first | (with_reducible first | exact HB.out | apply below_alloc | apply pw_below_drewN | apply below_drew1 | refine below_set ?_ GE408.out) | exact HB.out)⟩
                      · replace c28 := Bool.eq_false_iff.mpr c28
                        subst c28
                        have H1 : (if (wrap64 (48 + (wrap64 (a0 * x9_18)))) > 6000 then (if t407 = 2 then ((bollardlaw13_awake.f kj25).bind fun t410 => (some t410)) else (some false)) else ((batch_Encode.f kj25 t400 t401 t402 t403 t404).bind fun bt411 => (if t407 = 0 then (if bt411.2 = 0 then (if (bt411.1.length : Int) = (wrap64 (48 + (wrap64 (a0 * x9_18)))) then (if t401 = a0 then ((bollardlaw13_awake.f kj25).bind fun t415 => (some t415)) else (some false)) else (some false)) else (some false)) else (some false)))) = some r := by rw [if_neg (show ¬ (false = true) by decide)] at H; exact H
                        clear H
                        have H := H1
                        clear H1
                        by_cases c32 : (wrap64 (48 + (wrap64 (a0 * x9_18)))) > 6000
                        · rw [if_pos c32] at H
                          have c32b0 : decide (6000 < (wrap64 (48 + (wrap64 (a0 * x9_18))))) = true := decide_eq_true c32
                          clear c32
                          by_cases c33 : t407 = 2
                          · rw [if_pos c33] at H
                            have c33b0 : (t407 == 2) = true := beq_iff_eq.mpr c33
                            have c33b1 : (t407 != 2) = false := bne_eq_false_iff_eq.mpr c33
                            clear c33
                            replace H := Option.bind_eq_some_iff.mp H
                            obtain ⟨t410, A340, H⟩ := H
                            replace H : (some t410) = some r := H
                            have A34 := Aside0.mk A340
                            clear A340
                            obtain rfl := Option.some.inj H
                            go_wp2_with (first | (go_at_call 12; (with_reducible refine (bollardlaw13_awake.calls kj25  t410 _ A34.out).mono ?_); rintro e w35 ⟨rfl, hb⟩; have n0_ := Aside0.mk (Kd.R_below (by (with_reducible repeat (first | apply Kd.R_alloc | apply Kd.R_drewN | apply Kd.R_drew)); exact HO_409004.out) hb); have n1_ := Aside0.mk (blk_below (g := gb408) (o := .cells #[.int .i64 t400, .int .i64 t401, .int .i64 t402, .int .i64 t403, .slice Ao24 t404.length co24] 24 (0, 0)) (by (with_reducible repeat (first | refine blk_drewN ?_ _ | refine blk_drew ?_ | refine blk_alloc ?_ _)); exact BK408.out) hb); have n2_ := Aside0.mk (below_step (by repeat (first | (with_reducible first | exact HB.out | apply below_alloc | apply pw_below_drewN | apply below_drew1 | refine below_set ?_ GE408.out) | exact HB.out)) hb); clear HO_409004; clear BK408; clear HB; have HO_409004 := n0_; have BK408 := n1_; have HB := n2_; clear n0_ n1_ n2_; (try clear hb); (try clear hb2); (try clear hk); (try clear hi)))
                            go_ret
                            exact ⟨by first | rfl | (simp [errW_none, errW_some] <;> rfl) | (simp [*, errW_none, errW_some] <;> rfl), by repeat (first | (with_reducible first | exact HB.out | apply below_alloc | apply pw_below_drewN | apply below_drew1 | refine below_set ?_ GE408.out) | exact HB.out)⟩
                          · rw [if_neg c33] at H
                            have c33b0 : (t407 == 2) = false := beq_eq_false_iff_ne.mpr c33
                            have c33b1 : (t407 != 2) = true := bne_iff_ne.mpr c33
                            obtain rfl := Option.some.inj H
                            go_wp2
                            go_ret
                            exact ⟨by first | rfl | (simp [errW_none, errW_some] <;> rfl) | (simp [*, errW_none, errW_some] <;> rfl), by repeat (first | (with_reducible first | exact HB.out | apply below_alloc | apply pw_below_drewN | apply below_drew1 | refine below_set ?_ GE408.out) | exact HB.out)⟩
                        · rw [if_neg c32] at H
                          have c32b0 : decide (6000 < (wrap64 (48 + (wrap64 (a0 * x9_18))))) = false := decide_eq_false c32
                          clear c32
                          replace H := Option.bind_eq_some_iff.mp H
                          obtain ⟨⟨t411, t414⟩, A360, H⟩ := H
                          replace H : (if t407 = 0 then (if t414 = 0 then (if (t411.length : Int) = (wrap64 (48 + (wrap64 (a0 * x9_18)))) then (if t401 = a0 then ((bollardlaw13_awake.f kj25).bind fun t415 => (some t415)) else (some false)) else (some false)) else (some false)) else (some false)) = some r := H
                          have A36 := Aside0.mk A360
                          clear A360
                          by_cases c37 : t407 = 0
                          · rw [if_pos c37] at H
                            have c37b0 : (t407 == 0) = true := beq_iff_eq.mpr c37
                            have c37b1 : (t407 != 0) = false := bne_eq_false_iff_eq.mpr c37
                            clear c37
                            by_cases c38 : t414 = 0
                            · rw [if_pos c38] at H
                              have c38b0 : (t414 == 0) = true := beq_iff_eq.mpr c38
                              have c38b1 : (t414 != 0) = false := bne_eq_false_iff_eq.mpr c38
                              clear c38
                              by_cases c39 : (t411.length : Int) = (wrap64 (48 + (wrap64 (a0 * x9_18))))
                              · rw [if_pos c39] at H
                                have c39b0 : ((t411.length : Int) == (wrap64 (48 + (wrap64 (a0 * x9_18))))) = true := beq_iff_eq.mpr c39
                                have c39b1 : ((t411.length : Int) != (wrap64 (48 + (wrap64 (a0 * x9_18))))) = false := bne_eq_false_iff_eq.mpr c39
                                clear c39
                                by_cases c40 : t401 = a0
                                · rw [if_pos c40] at H
                                  have c40b0 : (t401 == a0) = true := beq_iff_eq.mpr c40
                                  have c40b1 : (t401 != a0) = false := bne_eq_false_iff_eq.mpr c40
                                  clear c40
                                  replace H := Option.bind_eq_some_iff.mp H
                                  obtain ⟨t415, A410, H⟩ := H
                                  replace H : (some t415) = some r := H
                                  have A41 := Aside0.mk A410
                                  clear A410
                                  obtain rfl := Option.some.inj H
                                  have hcz42_0 : wc.cell? ⟨gb408, 0, none⟩ = some (.int .i64 t400) := (blk_cell BK408.out 0).trans rfl
                                  have hcz42_1 : wc.cell? ⟨gb408, 1, none⟩ = some (.int .i64 t401) := (blk_cell BK408.out 1).trans rfl
                                  have hcz42_2 : wc.cell? ⟨gb408, 2, none⟩ = some (.int .i64 t402) := (blk_cell BK408.out 2).trans rfl
                                  have hcz42_3 : wc.cell? ⟨gb408, 3, none⟩ = some (.int .i64 t403) := (blk_cell BK408.out 3).trans rfl
                                  have hcz42_4 : wc.cell? ⟨gb408, 4, none⟩ = some (.slice Ao24 t404.length co24) := (blk_cell BK408.out 4).trans rfl
                                  have hfz42_0 := blk_frozen BK408.out 0
                                  have hfz42_1 := blk_frozen BK408.out 1
                                  have hfz42_2 := blk_frozen BK408.out 2
                                  have hfz42_3 := blk_frozen BK408.out 3
                                  have hfz42_4 := blk_frozen BK408.out 4
                                  go_wp2_with (first | ((with_reducible refine gate_callee (f := 13) rfl ?_); refine goesL_ (some 75) rfl rfl Try.func13 (by kernel_rfl) rfl #[.agg #[.int .i64 t400, .int .i64 t401, .int .i64 t402, .int .i64 t403, .slice Ao24 t404.length co24]] rfl (by (try simp only [List.map_toArray, List.map_cons, List.map_nil]); first | done | rfl | (simp only [List.length_drop, List.length_take]; rfl)) ?_; (with_reducible refine (batch_Encode.calls kj25 t400 t401 t402 t403 _ _ t404 t411 t414 _ ?side1 ?side2 A36.out).mono ?_); (case side1 => repeat (first | exact (Kd.R_reads' HO_409004.out).2.2 | (with_reducible refine Kd.C_alloc ?_ _) | (with_reducible refine Kd.C_drewN ?_ _) | (with_reducible refine Kd.C_drew ?_))); (case side2 => exact (Kd.R_reads' HO_409004.out).2.1); rintro e w43 ⟨v412, rfl, ho0, hb⟩; refine ⟨_, rfl, ?_⟩; have n0_ := Aside0.mk (Kd.R_below (by (with_reducible repeat (first | apply Kd.R_alloc | apply Kd.R_drewN | apply Kd.R_drew)); exact HO_409004.out) hb); have n1_ := Aside0.mk (Kd.R_lower ho0 (below_size (by repeat (first | (with_reducible first | exact HB.out | apply below_alloc | apply pw_below_drewN | apply below_drew1 | refine below_set ?_ GE408.out) | exact HB.out)))); have n2_ := Aside0.mk (blk_below (g := gb408) (o := .cells #[.int .i64 t400, .int .i64 t401, .int .i64 t402, .int .i64 t403, .slice Ao24 t404.length co24] 24 (0, 0)) (by (with_reducible repeat (first | refine blk_drewN ?_ _ | refine blk_drew ?_ | refine blk_alloc ?_ _)); exact BK408.out) hb); have n3_ := Aside0.mk (below_step (by repeat (first | (with_reducible first | exact HB.out | apply below_alloc | apply pw_below_drewN | apply below_drew1 | refine below_set ?_ GE408.out) | exact HB.out)) hb); clear HO_409004; clear BK408; clear HB; have HO_409004 := n0_; have HO413 := n1_; have BK408 := n2_; have HB := n3_; clear n0_ n1_ n2_ n3_; (try clear hb); (try clear hb2); (try clear hk); (try clear hi); (try clear ho0); obtain ⟨Ao44, co44, eo44⟩ := Kd.R_slice HO413.out; subst eo44; have hcz45_0 : w43.cell? ⟨gb408, 0, none⟩ = some (.int .i64 t400) := (blk_cell BK408.out 0).trans rfl; have hcz45_1 : w43.cell? ⟨gb408, 1, none⟩ = some (.int .i64 t401) := (blk_cell BK408.out 1).trans rfl; have hcz45_2 : w43.cell? ⟨gb408, 2, none⟩ = some (.int .i64 t402) := (blk_cell BK408.out 2).trans rfl; have hcz45_3 : w43.cell? ⟨gb408, 3, none⟩ = some (.int .i64 t403) := (blk_cell BK408.out 3).trans rfl; have hcz45_4 : w43.cell? ⟨gb408, 4, none⟩ = some (.slice Ao24 t404.length co24) := (blk_cell BK408.out 4).trans rfl; have hfz45_0 := blk_frozen BK408.out 0; have hfz45_1 := blk_frozen BK408.out 1; have hfz45_2 := blk_frozen BK408.out 2; have hfz45_3 := blk_frozen BK408.out 3; have hfz45_4 := blk_frozen BK408.out 4) | (go_at_call 12; (with_reducible refine (bollardlaw13_awake.calls kj25  t415 _ A41.out).mono ?_); rintro e w46 ⟨rfl, hb⟩; have n0_ := Aside0.mk (Kd.R_below (by (with_reducible repeat (first | apply Kd.R_alloc | apply Kd.R_drewN | apply Kd.R_drew)); exact HO_409004.out) hb); have n1_ := Aside0.mk (Kd.R_below (by (with_reducible repeat (first | apply Kd.R_alloc | apply Kd.R_drewN | apply Kd.R_drew)); exact HO413.out) hb); have n2_ := Aside0.mk (blk_below (g := gb408) (o := .cells #[.int .i64 t400, .int .i64 t401, .int .i64 t402, .int .i64 t403, .slice Ao24 t404.length co24] 24 (0, 0)) (by (with_reducible repeat (first | refine blk_drewN ?_ _ | refine blk_drew ?_ | refine blk_alloc ?_ _)); exact BK408.out) hb); have n3_ := Aside0.mk (below_step (by repeat (first | (with_reducible first | exact HB.out | apply below_alloc | apply pw_below_drewN | apply below_drew1 | refine below_set ?_ GE408.out) | exact HB.out)) hb); clear HO_409004; clear HO413; clear BK408; clear HB; have HO_409004 := n0_; have HO413 := n1_; have BK408 := n2_; have HB := n3_; clear n0_ n1_ n2_ n3_; (try clear hb); (try clear hb2); (try clear hk); (try clear hi)))
                                  go_ret
                                  exact ⟨by first | rfl | (simp [errW_none, errW_some] <;> rfl) | (simp [*, errW_none, errW_some] <;> rfl), by repeat (first | (with_reducible first | exact HB.out | apply below_alloc | apply pw_below_drewN | apply below_drew1 | refine below_set ?_ GE408.out) | exact HB.out)⟩
                                · rw [if_neg c40] at H
                                  have c40b0 : (t401 == a0) = false := beq_eq_false_iff_ne.mpr c40
                                  have c40b1 : (t401 != a0) = true := bne_iff_ne.mpr c40
                                  obtain rfl := Option.some.inj H
                                  have hcz47_0 : wc.cell? ⟨gb408, 0, none⟩ = some (.int .i64 t400) := (blk_cell BK408.out 0).trans rfl
                                  have hcz47_1 : wc.cell? ⟨gb408, 1, none⟩ = some (.int .i64 t401) := (blk_cell BK408.out 1).trans rfl
                                  have hcz47_2 : wc.cell? ⟨gb408, 2, none⟩ = some (.int .i64 t402) := (blk_cell BK408.out 2).trans rfl
                                  have hcz47_3 : wc.cell? ⟨gb408, 3, none⟩ = some (.int .i64 t403) := (blk_cell BK408.out 3).trans rfl
                                  have hcz47_4 : wc.cell? ⟨gb408, 4, none⟩ = some (.slice Ao24 t404.length co24) := (blk_cell BK408.out 4).trans rfl
                                  have hfz47_0 := blk_frozen BK408.out 0
                                  have hfz47_1 := blk_frozen BK408.out 1
                                  have hfz47_2 := blk_frozen BK408.out 2
                                  have hfz47_3 := blk_frozen BK408.out 3
                                  have hfz47_4 := blk_frozen BK408.out 4
                                  go_wp2_with (first | ((with_reducible refine gate_callee (f := 13) rfl ?_); refine goesL_ (some 75) rfl rfl Try.func13 (by kernel_rfl) rfl #[.agg #[.int .i64 t400, .int .i64 t401, .int .i64 t402, .int .i64 t403, .slice Ao24 t404.length co24]] rfl (by (try simp only [List.map_toArray, List.map_cons, List.map_nil]); first | done | rfl | (simp only [List.length_drop, List.length_take]; rfl)) ?_; (with_reducible refine (batch_Encode.calls kj25 t400 t401 t402 t403 _ _ t404 t411 t414 _ ?side1 ?side2 A36.out).mono ?_); (case side1 => repeat (first | exact (Kd.R_reads' HO_409004.out).2.2 | (with_reducible refine Kd.C_alloc ?_ _) | (with_reducible refine Kd.C_drewN ?_ _) | (with_reducible refine Kd.C_drew ?_))); (case side2 => exact (Kd.R_reads' HO_409004.out).2.1); rintro e w48 ⟨v412, rfl, ho0, hb⟩; refine ⟨_, rfl, ?_⟩; have n0_ := Aside0.mk (Kd.R_below (by (with_reducible repeat (first | apply Kd.R_alloc | apply Kd.R_drewN | apply Kd.R_drew)); exact HO_409004.out) hb); have n1_ := Aside0.mk (Kd.R_lower ho0 (below_size (by repeat (first | (with_reducible first | exact HB.out | apply below_alloc | apply pw_below_drewN | apply below_drew1 | refine below_set ?_ GE408.out) | exact HB.out)))); have n2_ := Aside0.mk (blk_below (g := gb408) (o := .cells #[.int .i64 t400, .int .i64 t401, .int .i64 t402, .int .i64 t403, .slice Ao24 t404.length co24] 24 (0, 0)) (by (with_reducible repeat (first | refine blk_drewN ?_ _ | refine blk_drew ?_ | refine blk_alloc ?_ _)); exact BK408.out) hb); have n3_ := Aside0.mk (below_step (by repeat (first | (with_reducible first | exact HB.out | apply below_alloc | apply pw_below_drewN | apply below_drew1 | refine below_set ?_ GE408.out) | exact HB.out)) hb); clear HO_409004; clear BK408; clear HB; have HO_409004 := n0_; have HO413 := n1_; have BK408 := n2_; have HB := n3_; clear n0_ n1_ n2_ n3_; (try clear hb); (try clear hb2); (try clear hk); (try clear hi); (try clear ho0); obtain ⟨Ao49, co49, eo49⟩ := Kd.R_slice HO413.out; subst eo49; have hcz50_0 : w48.cell? ⟨gb408, 0, none⟩ = some (.int .i64 t400) := (blk_cell BK408.out 0).trans rfl; have hcz50_1 : w48.cell? ⟨gb408, 1, none⟩ = some (.int .i64 t401) := (blk_cell BK408.out 1).trans rfl; have hcz50_2 : w48.cell? ⟨gb408, 2, none⟩ = some (.int .i64 t402) := (blk_cell BK408.out 2).trans rfl; have hcz50_3 : w48.cell? ⟨gb408, 3, none⟩ = some (.int .i64 t403) := (blk_cell BK408.out 3).trans rfl; have hcz50_4 : w48.cell? ⟨gb408, 4, none⟩ = some (.slice Ao24 t404.length co24) := (blk_cell BK408.out 4).trans rfl; have hfz50_0 := blk_frozen BK408.out 0; have hfz50_1 := blk_frozen BK408.out 1; have hfz50_2 := blk_frozen BK408.out 2; have hfz50_3 := blk_frozen BK408.out 3; have hfz50_4 := blk_frozen BK408.out 4))
                                  go_ret
                                  exact ⟨by first | rfl | (simp [errW_none, errW_some] <;> rfl) | (simp [*, errW_none, errW_some] <;> rfl), by repeat (first | (with_reducible first | exact HB.out | apply below_alloc | apply pw_below_drewN | apply below_drew1 | refine below_set ?_ GE408.out) | exact HB.out)⟩
                              · rw [if_neg c39] at H
                                have c39b0 : ((t411.length : Int) == (wrap64 (48 + (wrap64 (a0 * x9_18))))) = false := beq_eq_false_iff_ne.mpr c39
                                have c39b1 : ((t411.length : Int) != (wrap64 (48 + (wrap64 (a0 * x9_18))))) = true := bne_iff_ne.mpr c39
                                obtain rfl := Option.some.inj H
                                have hcz51_0 : wc.cell? ⟨gb408, 0, none⟩ = some (.int .i64 t400) := (blk_cell BK408.out 0).trans rfl
                                have hcz51_1 : wc.cell? ⟨gb408, 1, none⟩ = some (.int .i64 t401) := (blk_cell BK408.out 1).trans rfl
                                have hcz51_2 : wc.cell? ⟨gb408, 2, none⟩ = some (.int .i64 t402) := (blk_cell BK408.out 2).trans rfl
                                have hcz51_3 : wc.cell? ⟨gb408, 3, none⟩ = some (.int .i64 t403) := (blk_cell BK408.out 3).trans rfl
                                have hcz51_4 : wc.cell? ⟨gb408, 4, none⟩ = some (.slice Ao24 t404.length co24) := (blk_cell BK408.out 4).trans rfl
                                have hfz51_0 := blk_frozen BK408.out 0
                                have hfz51_1 := blk_frozen BK408.out 1
                                have hfz51_2 := blk_frozen BK408.out 2
                                have hfz51_3 := blk_frozen BK408.out 3
                                have hfz51_4 := blk_frozen BK408.out 4
                                go_wp2_with (first | ((with_reducible refine gate_callee (f := 13) rfl ?_); refine goesL_ (some 75) rfl rfl Try.func13 (by kernel_rfl) rfl #[.agg #[.int .i64 t400, .int .i64 t401, .int .i64 t402, .int .i64 t403, .slice Ao24 t404.length co24]] rfl (by (try simp only [List.map_toArray, List.map_cons, List.map_nil]); first | done | rfl | (simp only [List.length_drop, List.length_take]; rfl)) ?_; (with_reducible refine (batch_Encode.calls kj25 t400 t401 t402 t403 _ _ t404 t411 t414 _ ?side1 ?side2 A36.out).mono ?_); (case side1 => repeat (first | exact (Kd.R_reads' HO_409004.out).2.2 | (with_reducible refine Kd.C_alloc ?_ _) | (with_reducible refine Kd.C_drewN ?_ _) | (with_reducible refine Kd.C_drew ?_))); (case side2 => exact (Kd.R_reads' HO_409004.out).2.1); rintro e w52 ⟨v412, rfl, ho0, hb⟩; refine ⟨_, rfl, ?_⟩; have n0_ := Aside0.mk (Kd.R_below (by (with_reducible repeat (first | apply Kd.R_alloc | apply Kd.R_drewN | apply Kd.R_drew)); exact HO_409004.out) hb); have n1_ := Aside0.mk (Kd.R_lower ho0 (below_size (by repeat (first | (with_reducible first | exact HB.out | apply below_alloc | apply pw_below_drewN | apply below_drew1 | refine below_set ?_ GE408.out) | exact HB.out)))); have n2_ := Aside0.mk (blk_below (g := gb408) (o := .cells #[.int .i64 t400, .int .i64 t401, .int .i64 t402, .int .i64 t403, .slice Ao24 t404.length co24] 24 (0, 0)) (by (with_reducible repeat (first | refine blk_drewN ?_ _ | refine blk_drew ?_ | refine blk_alloc ?_ _)); exact BK408.out) hb); have n3_ := Aside0.mk (below_step (by repeat (first | (with_reducible first | exact HB.out | apply below_alloc | apply pw_below_drewN | apply below_drew1 | refine below_set ?_ GE408.out) | exact HB.out)) hb); clear HO_409004; clear BK408; clear HB; have HO_409004 := n0_; have HO413 := n1_; have BK408 := n2_; have HB := n3_; clear n0_ n1_ n2_ n3_; (try clear hb); (try clear hb2); (try clear hk); (try clear hi); (try clear ho0); obtain ⟨Ao53, co53, eo53⟩ := Kd.R_slice HO413.out; subst eo53))
                                go_ret
                                exact ⟨by first | rfl | (simp [errW_none, errW_some] <;> rfl) | (simp [*, errW_none, errW_some] <;> rfl), by repeat (first | (with_reducible first | exact HB.out | apply below_alloc | apply pw_below_drewN | apply below_drew1 | refine below_set ?_ GE408.out) | exact HB.out)⟩
                            · rw [if_neg c38] at H
                              have c38b0 : (t414 == 0) = false := beq_eq_false_iff_ne.mpr c38
                              have c38b1 : (t414 != 0) = true := bne_iff_ne.mpr c38
                              obtain rfl := Option.some.inj H
                              have hcz54_0 : wc.cell? ⟨gb408, 0, none⟩ = some (.int .i64 t400) := (blk_cell BK408.out 0).trans rfl
                              have hcz54_1 : wc.cell? ⟨gb408, 1, none⟩ = some (.int .i64 t401) := (blk_cell BK408.out 1).trans rfl
                              have hcz54_2 : wc.cell? ⟨gb408, 2, none⟩ = some (.int .i64 t402) := (blk_cell BK408.out 2).trans rfl
                              have hcz54_3 : wc.cell? ⟨gb408, 3, none⟩ = some (.int .i64 t403) := (blk_cell BK408.out 3).trans rfl
                              have hcz54_4 : wc.cell? ⟨gb408, 4, none⟩ = some (.slice Ao24 t404.length co24) := (blk_cell BK408.out 4).trans rfl
                              have hfz54_0 := blk_frozen BK408.out 0
                              have hfz54_1 := blk_frozen BK408.out 1
                              have hfz54_2 := blk_frozen BK408.out 2
                              have hfz54_3 := blk_frozen BK408.out 3
                              have hfz54_4 := blk_frozen BK408.out 4
                              go_wp2_with (first | ((with_reducible refine gate_callee (f := 13) rfl ?_); refine goesL_ (some 75) rfl rfl Try.func13 (by kernel_rfl) rfl #[.agg #[.int .i64 t400, .int .i64 t401, .int .i64 t402, .int .i64 t403, .slice Ao24 t404.length co24]] rfl (by (try simp only [List.map_toArray, List.map_cons, List.map_nil]); first | done | rfl | (simp only [List.length_drop, List.length_take]; rfl)) ?_; (with_reducible refine (batch_Encode.calls kj25 t400 t401 t402 t403 _ _ t404 t411 t414 _ ?side1 ?side2 A36.out).mono ?_); (case side1 => repeat (first | exact (Kd.R_reads' HO_409004.out).2.2 | (with_reducible refine Kd.C_alloc ?_ _) | (with_reducible refine Kd.C_drewN ?_ _) | (with_reducible refine Kd.C_drew ?_))); (case side2 => exact (Kd.R_reads' HO_409004.out).2.1); rintro e w55 ⟨v412, rfl, ho0, hb⟩; refine ⟨_, rfl, ?_⟩; have n0_ := Aside0.mk (Kd.R_below (by (with_reducible repeat (first | apply Kd.R_alloc | apply Kd.R_drewN | apply Kd.R_drew)); exact HO_409004.out) hb); have n1_ := Aside0.mk (Kd.R_lower ho0 (below_size (by repeat (first | (with_reducible first | exact HB.out | apply below_alloc | apply pw_below_drewN | apply below_drew1 | refine below_set ?_ GE408.out) | exact HB.out)))); have n2_ := Aside0.mk (blk_below (g := gb408) (o := .cells #[.int .i64 t400, .int .i64 t401, .int .i64 t402, .int .i64 t403, .slice Ao24 t404.length co24] 24 (0, 0)) (by (with_reducible repeat (first | refine blk_drewN ?_ _ | refine blk_drew ?_ | refine blk_alloc ?_ _)); exact BK408.out) hb); have n3_ := Aside0.mk (below_step (by repeat (first | (with_reducible first | exact HB.out | apply below_alloc | apply pw_below_drewN | apply below_drew1 | refine below_set ?_ GE408.out) | exact HB.out)) hb); clear HO_409004; clear BK408; clear HB; have HO_409004 := n0_; have HO413 := n1_; have BK408 := n2_; have HB := n3_; clear n0_ n1_ n2_ n3_; (try clear hb); (try clear hb2); (try clear hk); (try clear hi); (try clear ho0)))
                              go_ret
                              exact ⟨by first | rfl | (simp [errW_none, errW_some] <;> rfl) | (simp [*, errW_none, errW_some] <;> rfl), by repeat (first | (with_reducible first | exact HB.out | apply below_alloc | apply pw_below_drewN | apply below_drew1 | refine below_set ?_ GE408.out) | exact HB.out)⟩
                          · rw [if_neg c37] at H
                            have c37b0 : (t407 == 0) = false := beq_eq_false_iff_ne.mpr c37
                            have c37b1 : (t407 != 0) = true := bne_iff_ne.mpr c37
                            obtain rfl := Option.some.inj H
                            have hcz56_0 : wc.cell? ⟨gb408, 0, none⟩ = some (.int .i64 t400) := (blk_cell BK408.out 0).trans rfl
                            have hcz56_1 : wc.cell? ⟨gb408, 1, none⟩ = some (.int .i64 t401) := (blk_cell BK408.out 1).trans rfl
                            have hcz56_2 : wc.cell? ⟨gb408, 2, none⟩ = some (.int .i64 t402) := (blk_cell BK408.out 2).trans rfl
                            have hcz56_3 : wc.cell? ⟨gb408, 3, none⟩ = some (.int .i64 t403) := (blk_cell BK408.out 3).trans rfl
                            have hcz56_4 : wc.cell? ⟨gb408, 4, none⟩ = some (.slice Ao24 t404.length co24) := (blk_cell BK408.out 4).trans rfl
                            have hfz56_0 := blk_frozen BK408.out 0
                            have hfz56_1 := blk_frozen BK408.out 1
                            have hfz56_2 := blk_frozen BK408.out 2
                            have hfz56_3 := blk_frozen BK408.out 3
                            have hfz56_4 := blk_frozen BK408.out 4
                            go_wp2_with (first | ((with_reducible refine gate_callee (f := 13) rfl ?_); refine goesL_ (some 75) rfl rfl Try.func13 (by kernel_rfl) rfl #[.agg #[.int .i64 t400, .int .i64 t401, .int .i64 t402, .int .i64 t403, .slice Ao24 t404.length co24]] rfl (by (try simp only [List.map_toArray, List.map_cons, List.map_nil]); first | done | rfl | (simp only [List.length_drop, List.length_take]; rfl)) ?_; (with_reducible refine (batch_Encode.calls kj25 t400 t401 t402 t403 _ _ t404 t411 t414 _ ?side1 ?side2 A36.out).mono ?_); (case side1 => repeat (first | exact (Kd.R_reads' HO_409004.out).2.2 | (with_reducible refine Kd.C_alloc ?_ _) | (with_reducible refine Kd.C_drewN ?_ _) | (with_reducible refine Kd.C_drew ?_))); (case side2 => exact (Kd.R_reads' HO_409004.out).2.1); rintro e w57 ⟨v412, rfl, ho0, hb⟩; refine ⟨_, rfl, ?_⟩; have n0_ := Aside0.mk (Kd.R_below (by (with_reducible repeat (first | apply Kd.R_alloc | apply Kd.R_drewN | apply Kd.R_drew)); exact HO_409004.out) hb); have n1_ := Aside0.mk (Kd.R_lower ho0 (below_size (by repeat (first | (with_reducible first | exact HB.out | apply below_alloc | apply pw_below_drewN | apply below_drew1 | refine below_set ?_ GE408.out) | exact HB.out)))); have n2_ := Aside0.mk (blk_below (g := gb408) (o := .cells #[.int .i64 t400, .int .i64 t401, .int .i64 t402, .int .i64 t403, .slice Ao24 t404.length co24] 24 (0, 0)) (by (with_reducible repeat (first | refine blk_drewN ?_ _ | refine blk_drew ?_ | refine blk_alloc ?_ _)); exact BK408.out) hb); have n3_ := Aside0.mk (below_step (by repeat (first | (with_reducible first | exact HB.out | apply below_alloc | apply pw_below_drewN | apply below_drew1 | refine below_set ?_ GE408.out) | exact HB.out)) hb); clear HO_409004; clear BK408; clear HB; have HO_409004 := n0_; have HO413 := n1_; have BK408 := n2_; have HB := n3_; clear n0_ n1_ n2_ n3_; (try clear hb); (try clear hb2); (try clear hk); (try clear hi); (try clear ho0)))
                            go_ret
                            exact ⟨by first | rfl | (simp [errW_none, errW_some] <;> rfl) | (simp [*, errW_none, errW_some] <;> rfl), by repeat (first | (with_reducible first | exact HB.out | apply below_alloc | apply pw_below_drewN | apply below_drew1 | refine below_set ?_ GE408.out) | exact HB.out)⟩

/-- THE ONE PURE STATEMENT of bollardlaw13_BatchCounts: yours. -/
def bollardlaw13_BatchCounts.Pure : Prop := ∀ (a0 : Int) (a1 : Int), (Lit.int .i64 a0).wf = true → (Lit.int .i64 a1).wf = true → ∃ k, bollardlaw13_BatchCounts.f k a0 a1 = some true
theorem bollardlaw13_BatchCounts.walk (P : bollardlaw13_BatchCounts.Pure) (a0 : Int) (a1 : Int) (w : World) (w0 : (Lit.int .i64 a0).wf = true) (w1 : (Lit.int .i64 a1).wf = true) :
    Calls Try.prog 5 #[.int .i64 a0, .int .i64 a1] w fun e w' => e = .returned (.bool true) ∧ Below w.heap.size w w' := by
  obtain ⟨k, h⟩ := P a0 a1 w0 w1
  refine (bollardlaw13_BatchCounts.calls k a0 a1 true w h).mono ?_
  rintro e w' ⟨rfl, hd⟩
  exact ⟨rfl, hd⟩

end Go.Proofs.Ytgmeellapjimgaa.PBa
