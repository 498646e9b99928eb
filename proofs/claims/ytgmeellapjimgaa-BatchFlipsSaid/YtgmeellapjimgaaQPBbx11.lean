-- written by a program of this session (wip/tools/pr.py, over the kit's printer): not by hand
import Derived.Test.YtgmeellapjimgaaQPBbx2
import Derived.Test.YtgmeellapjimgaaQPBbx1
namespace Go.Proofs.Ytgmeellapjimgaa.PBb
open Go.RowKit Go.Proofs.YtgmeellapjimgaaW.PrintWords Go.Proofs.YtgmeellapjimgaaW.PrintLast Go.Proofs.YtgmeellapjimgaaW.PrintMore
attribute [local go_sem] max2_int min2_int max_two min_two max_three min_three max_four min_four   -- for this text's walks alone
set_option linter.unusedVariables false
set_option linter.unusedSimpArgs false

attribute [local go_sem high] eqA45
/-! ### bollardalike_Records: function 21 -/
def bollardalike_Records.l0 : Nat → List (S45) → List (S45) → Int → Option (Bool)
  | 0, _, _, _ => none
  | k + 1, x0, x1, x5 => if x5 < (x0.length : Int) then (if 0 ≤ x5 then (if x5 < (x1.length : Int) then (if (!(((rd_T45 x0 x5).f0) == ((rd_T45 x1 x5).f0)) || (!((((rd_T45 x0 x5).f1).toList) == (((rd_T45 x1 x5).f1).toList)) || (!(((rd_T45 x0 x5).f2) == ((rd_T45 x1 x5).f2)) || (!((((rd_T45 x0 x5).f3).toList) == (((rd_T45 x1 x5).f3).toList)) || (!(((rd_T45 x0 x5).f4) == ((rd_T45 x1 x5).f4)) || (!(((rd_T45 x0 x5).f5) == ((rd_T45 x1 x5).f5)))))))) = true then (some false) else (bollardalike_Records.l0 k x0 x1 (wrap64 (x5 + 1)))) else (none)) else (none)) else (some true)
def bollardalike_Records.f (k : Nat) (l0 : List (S45)) (l1 : List (S45)) : Option (Bool) := if (l0.length : Int) = (l1.length : Int) then (bollardalike_Records.l0 k l0 l1 0) else (some false)
set_option maxRecDepth 100000 in
theorem bollardalike_Records.mono_l : ∀ k, (∀ y0 y1 y2, LeO (bollardalike_Records.l0 k y0 y1 y2) (bollardalike_Records.l0 (k + 1) y0 y1 y2))
  | 0 => fun _ _ _ r h => by first | exact nomatch (show (none : Option _) = some r from h) | (rw [bollardalike_Records.l0] at h; cases h; done) | (simp [bollardalike_Records.l0] at h; done)
  | k + 1 => by
    have ih0 := bollardalike_Records.mono_l k
    · intro y0 y1 y2
      unfold bollardalike_Records.l0
      repeat' first
      | (with_reducible exact ih0 _ _ _)
      | (with_reducible exact LeO.refl _)
      | (with_reducible exact LeO.none _)
      | (with_reducible refine LeO.ite ?_ ?_)
      | (with_reducible refine LeO.bind ?_ (fun _ => ?_))
      | exact ih0 _ _ _
      | exact LeO.none _
      | refine LeO.ite ?_ ?_
      | refine LeO.bind ?_ (fun _ => ?_)
theorem bollardalike_Records.mono : ∀ a0 a1 k, LeO (bollardalike_Records.f k a0 a1) (bollardalike_Records.f (k + 1) a0 a1) := by
  intro a0 a1 k
  have ih0 := bollardalike_Records.mono_l k
  unfold bollardalike_Records.f
  repeat' first
      | (with_reducible exact ih0 _ _ _)
      | (with_reducible exact LeO.refl _)
      | (with_reducible exact LeO.none _)
      | (with_reducible refine LeO.ite ?_ ?_)
      | (with_reducible refine LeO.bind ?_ (fun _ => ?_))
      | exact ih0 _ _ _
      | exact LeO.none _
      | refine LeO.ite ?_ ?_
      | refine LeO.bind ?_ (fun _ => ?_)
set_option maxHeartbeats 8000000 in
set_option maxRecDepth 100000 in
theorem bollardalike_Records.calls (k : Nat) (A0 : Option Addr) (c0 : Nat) (l0 : List (S45)) (A1 : Option Addr) (c1 : Nat) (l1 : List (S45)) (r : Bool) (w : World) (hr0 : Kd.C k45 w A0 l0.length l0) (hc0 : l0.length ≤ c0) (hr1 : Kd.C k45 w A1 l1.length l1) (hc1 : l1.length ≤ c1) (h : bollardalike_Records.f k l0 l1 = some r) :
    Calls Try.prog 21 #[.slice A0 l0.length c0, .slice A1 l1.length c1] w fun e w' => e = .returned (.bool r) ∧ Drawn0 w w' := by
  have hu45 := Try.underlying45
  have HR0 := Aside0.mk hr0
  have HC0 := Aside0.mk hc0
  clear hr0 hc0
  have HR1 := Aside0.mk hr1
  have HC1 := Aside0.mk hc1
  clear hr1 hc1
  have H : (if (l0.length : Int) = (l1.length : Int) then (bollardalike_Records.l0 k l0 l1 0) else (some false)) = some r := h
  clear h
  by_cases c3 : (l0.length : Int) = (l1.length : Int)
  · rw [if_pos c3] at H
    have c3b0 : ((l0.length : Int) == (l1.length : Int)) = true := beq_iff_eq.mpr c3
    have c3b1 : ((l0.length : Int) != (l1.length : Int)) = false := bne_eq_false_iff_eq.mpr c3
    have c3b2 : (l0.length == l1.length) = true := by first | simpa using c3 | (simp at c3 ⊢; omega)
    clear c3
    have H' := Aside0.mk H
    clear H
    go_enter Try.func21, Try.ntmps21
    go_wp2
    repeat (go_quiet (fail); try go_wp2)
    go_loopg [5] k (fun kq v5 w' => ∃ (x5_1 : Int), v5 = .int .i64 x5_1 ∧ Aside0 (bollardalike_Records.l0 kq l0 l1 x5_1 = some r) ∧ Aside0 (kq ≤ k) ∧ Drawn0 w w')
    case atStart => exact ⟨(0), (by first | rfl | (simp; done) | (simp [*]; done) | exact congrArg Value.bool (ne_empty _) | exact congrArg Value.bool (eq_empty _)), H', ⟨Nat.le_refl _⟩, by repeat (first | exact Drawn0.refl _ | apply Drawn0.step)⟩
    case round =>
      clear H'
      try clear c1
      try clear c2
      try clear p2
      try clear c3
      try clear c3b0
      try clear c3b1
      try clear c3b2
      obtain ⟨x5_1, rfl, HA, HK1, ⟨m1, rfl⟩⟩ := hrel
      cases gk with
      | zero => exact absurd HA.out (by first | (intro h_; exact nomatch (show (none : Option _) = some r from h_)) | simp [bollardalike_Records.l0])
      | succ k1 =>
        have H := HA.out
        clear HA
        simp only [bollardalike_Records.l0] at H
        by_cases c4 : x5_1 < (l0.length : Int)
        · rw [if_pos c4] at H
          have c4b0 : decide (x5_1 < (l0.length : Int)) = true := decide_eq_true c4
          clear c4
          by_cases c5 : 0 ≤ x5_1
          · rw [if_pos c5] at H
            have c5b0 : decide (0 ≤ x5_1) = true := decide_eq_true c5
            clear c5
            by_cases c6 : x5_1 < (l1.length : Int)
            · rw [if_pos c6] at H
              have c6b0 : decide (x5_1 < (l1.length : Int)) = true := decide_eq_true c6
              clear c6
              by_cases c7 : (!(((rd_T45 l0 x5_1).f0) == ((rd_T45 l1 x5_1).f0)) || (!((((rd_T45 l0 x5_1).f1).toList) == (((rd_T45 l1 x5_1).f1).toList)) || (!(((rd_T45 l0 x5_1).f2) == ((rd_T45 l1 x5_1).f2)) || (!((((rd_T45 l0 x5_1).f3).toList) == (((rd_T45 l1 x5_1).f3).toList)) || (!(((rd_T45 l0 x5_1).f4) == ((rd_T45 l1 x5_1).f4)) || (!(((rd_T45 l0 x5_1).f5) == ((rd_T45 l1 x5_1).f5)))))))) = true
              · rw [if_pos c7] at H
                have c7b0 : (!(((rd_T45 l0 x5_1).f0) == ((rd_T45 l1 x5_1).f0)) || (!((((rd_T45 l0 x5_1).f1).toList) == (((rd_T45 l1 x5_1).f1).toList)) || (!(((rd_T45 l0 x5_1).f2) == ((rd_T45 l1 x5_1).f2)) || (!((((rd_T45 l0 x5_1).f3).toList) == (((rd_T45 l1 x5_1).f3).toList)) || (!(((rd_T45 l0 x5_1).f4) == ((rd_T45 l1 x5_1).f4)) || (!(((rd_T45 l0 x5_1).f5) == ((rd_T45 l1 x5_1).f5)))))))) = true := c7
                clear c7
                obtain rfl := Option.some.inj H
                have p254 : 0 ≤ (x5_1 : Int) := of_decide_eq_true (by first | (with_reducible assumption) | assumption)
                have q254 : x5_1 < (l0.length : Int) := of_decide_eq_true (by first | (with_reducible assumption) | assumption)
                obtain ⟨ad254, e254, hx254_0, hx254_1, hx254_2, hx254_3, hx254_4, hx254_5⟩ := at_T45 HR0.out x5_1 p254 q254
                cases e254
                replace p254 := eq_true p254
                replace q254 := eq_true q254
                have p255 : 0 ≤ (x5_1 : Int) := of_decide_eq_true (by first | (with_reducible assumption) | assumption)
                have q255 : x5_1 < (l1.length : Int) := of_decide_eq_true (by first | (with_reducible assumption) | assumption)
                obtain ⟨ad255, e255, hx255_0, hx255_1, hx255_2, hx255_3, hx255_4, hx255_5⟩ := at_T45 HR1.out x5_1 p255 q255
                cases e255
                replace p255 := eq_true p255
                replace q255 := eq_true q255
                go_wp2
                repeat (go_quiet (fail); try go_wp2)
                go_ret
                exact ⟨by first | rfl | (simp; done) | (simp [*]; done) | exact congrArg Value.bool (ne_empty _) | exact congrArg Value.bool (eq_empty _), by repeat (first | exact Drawn0.refl _ | apply Drawn0.step)⟩
              · rw [if_neg c7] at H
                have c7b0 : (!(((rd_T45 l0 x5_1).f0) == ((rd_T45 l1 x5_1).f0)) || (!((((rd_T45 l0 x5_1).f1).toList) == (((rd_T45 l1 x5_1).f1).toList)) || (!(((rd_T45 l0 x5_1).f2) == ((rd_T45 l1 x5_1).f2)) || (!((((rd_T45 l0 x5_1).f3).toList) == (((rd_T45 l1 x5_1).f3).toList)) || (!(((rd_T45 l0 x5_1).f4) == ((rd_T45 l1 x5_1).f4)) || (!(((rd_T45 l0 x5_1).f5) == ((rd_T45 l1 x5_1).f5)))))))) = false := by simpa using c7
                clear c7
                have H' := Aside0.mk H
                clear H
                have p254 : 0 ≤ (x5_1 : Int) := of_decide_eq_true (by first | (with_reducible assumption) | assumption)
                have q254 : x5_1 < (l0.length : Int) := of_decide_eq_true (by first | (with_reducible assumption) | assumption)
                obtain ⟨ad254, e254, hx254_0, hx254_1, hx254_2, hx254_3, hx254_4, hx254_5⟩ := at_T45 HR0.out x5_1 p254 q254
                cases e254
                replace p254 := eq_true p254
                replace q254 := eq_true q254
                have p255 : 0 ≤ (x5_1 : Int) := of_decide_eq_true (by first | (with_reducible assumption) | assumption)
                have q255 : x5_1 < (l1.length : Int) := of_decide_eq_true (by first | (with_reducible assumption) | assumption)
                obtain ⟨ad255, e255, hx255_0, hx255_1, hx255_2, hx255_3, hx255_4, hx255_5⟩ := at_T45 HR1.out x5_1 p255 q255
                cases e255
                replace p255 := eq_true p255
                replace q255 := eq_true q255
                go_wp2
                repeat (go_quiet (fail); try go_wp2)
                go_roundg k1
                case measure => have := HK1.out; omega
                case rel => exact ⟨(wrap64 (x5_1 + 1)), (by first | rfl | (simp; done) | (simp [*]; done) | exact congrArg Value.bool (ne_empty _) | exact congrArg Value.bool (eq_empty _)), H', ⟨by have := HK1.out; omega⟩, by repeat (first | exact Drawn0.refl _ | apply Drawn0.step)⟩
            · rw [if_neg c6] at H
              exact absurd H (by simp)
          · rw [if_neg c5] at H
            exact absurd H (by simp)
        · rw [if_neg c4] at H
          have c4b0 : decide (x5_1 < (l0.length : Int)) = false := decide_eq_false c4
          clear c4
          obtain rfl := Option.some.inj H
          go_wp2
          repeat (go_quiet (fail); try go_wp2)
          go_ret
          exact ⟨by first | rfl | (simp; done) | (simp [*]; done) | exact congrArg Value.bool (ne_empty _) | exact congrArg Value.bool (eq_empty _), by repeat (first | exact Drawn0.refl _ | apply Drawn0.step)⟩
  · rw [if_neg c3] at H
    have c3b0 : ((l0.length : Int) == (l1.length : Int)) = false := beq_eq_false_iff_ne.mpr c3
    have c3b1 : ((l0.length : Int) != (l1.length : Int)) = true := bne_iff_ne.mpr c3
    have c3b2 : (l0.length == l1.length) = false := by first | simpa using c3 | (simp at c3 ⊢; omega)
    obtain rfl := Option.some.inj H
    go_enter Try.func21, Try.ntmps21
    go_wp2
    repeat (go_quiet (fail); try go_wp2)
    go_ret
    exact ⟨by first | rfl | (simp; done) | (simp [*]; done) | exact congrArg Value.bool (ne_empty _) | exact congrArg Value.bool (eq_empty _), by repeat (first | exact Drawn0.refl _ | apply Drawn0.step)⟩

-- NOT PRINTED: function 33 (bollardalike_Batches)

/-! ### bollardalike_Batches, of one batch each; bollardlaw13_same -/
theorem sz_alloc (w : World) (o : Obj) : (w.alloc o).heap.size = w.heap.size + 1 := by unfold World.alloc; exact Array.size_push _
def bollardlaw13_same.f (k : Nat) (b s p q : Int) (l : List S45) (b2 s2 p2 q2 : Int) (l2 : List S45) : Option Bool :=
  if b = b2 ∧ s = s2 ∧ p = p2 ∧ q = q2 then bollardalike_Records.f k l l2 else some false
theorem bollardlaw13_same.mono : ∀ b s p q l b2 s2 p2 q2 l2 k, LeO (bollardlaw13_same.f k b s p q l b2 s2 p2 q2 l2) (bollardlaw13_same.f (k + 1) b s p q l b2 s2 p2 q2 l2) := by
  intro b s p q l b2 s2 p2 q2 l2 k
  unfold bollardlaw13_same.f
  exact LeO.ite (bollardalike_Records.mono _ _ _) (LeO.refl _)
set_option maxHeartbeats 4000000 in
set_option maxRecDepth 100000 in
theorem batches_no0 (k : Nat) (G1 G2 : Nat) (b s p q : Int) (A : Option Addr) (c : Nat) (l : List S45) (b2 s2 p2 q2 : Int) (A2 : Option Addr) (c2 : Nat) (l2 : List S45) (r : Bool) (w : World)
    (h1 : w.heap[G1]? = some (.cells #[.int .i64 b, .int .i64 s, .int .i64 p, .int .i64 q, .slice A l.length c] 24 (0, 0))) (h2 : w.heap[G2]? = some (.cells #[.int .i64 b2, .int .i64 s2, .int .i64 p2, .int .i64 q2, .slice A2 l2.length c2] 24 (0, 0)))
    (hr : Kd.C k45 w A l.length l) (hc : l.length ≤ c) (hr2 : Kd.C k45 w A2 l2.length l2) (hc2 : l2.length ≤ c2) (e0 : ¬ b = b2) :
    Calls Try.prog 33 #[.slice (some ⟨G1, 0, none⟩) 1 1, .slice (some ⟨G2, 0, none⟩) 1 1] w fun e w' => e = .returned (.bool false) ∧ Drawn0 w w' := by
  have y0 : w.cell? ⟨G1, 0, none⟩ = some (.int .i64 b) := (blk_cell h1 0).trans rfl
  have z0 : w.cell? ⟨G2, 0, none⟩ = some (.int .i64 b2) := (blk_cell h2 0).trans rfl
  have y1 : w.cell? ⟨G1, 1, none⟩ = some (.int .i64 s) := (blk_cell h1 1).trans rfl
  have z1 : w.cell? ⟨G2, 1, none⟩ = some (.int .i64 s2) := (blk_cell h2 1).trans rfl
  have y2 : w.cell? ⟨G1, 2, none⟩ = some (.int .i64 p) := (blk_cell h1 2).trans rfl
  have z2 : w.cell? ⟨G2, 2, none⟩ = some (.int .i64 p2) := (blk_cell h2 2).trans rfl
  have y3 : w.cell? ⟨G1, 3, none⟩ = some (.int .i64 q) := (blk_cell h1 3).trans rfl
  have z3 : w.cell? ⟨G2, 3, none⟩ = some (.int .i64 q2) := (blk_cell h2 3).trans rfl
  have y4 : w.cell? ⟨G1, 4, none⟩ = some (.slice A l.length c) := (blk_cell h1 4).trans rfl
  have z4 : w.cell? ⟨G2, 4, none⟩ = some (.slice A2 l2.length c2) := (blk_cell h2 4).trans rfl
  clear h1 h2
  clear hr hc hr2 hc2
  have d0 : (b != b2) = true := bne_iff_ne.mpr e0
  clear e0
  go_enter Try.func33, Try.ntmps33
  go_wp2_with fail
  refine wp_loop_rounds 2 ?_
  rw [rounds_succ]
  go_wp2_with fail
  go_quiet (fail)
  go_wp2_with fail
  refine bodyPost_ret (v := .bool false) (by simp [results, Try.results33, go_sem]) rfl ⟨rfl, ?_⟩
  exact Drawn0.step (Drawn0.refl _) _
set_option maxHeartbeats 4000000 in
set_option maxRecDepth 100000 in
theorem batches_no1 (k : Nat) (G1 G2 : Nat) (b s p q : Int) (A : Option Addr) (c : Nat) (l : List S45) (b2 s2 p2 q2 : Int) (A2 : Option Addr) (c2 : Nat) (l2 : List S45) (r : Bool) (w : World)
    (h1 : w.heap[G1]? = some (.cells #[.int .i64 b, .int .i64 s, .int .i64 p, .int .i64 q, .slice A l.length c] 24 (0, 0))) (h2 : w.heap[G2]? = some (.cells #[.int .i64 b2, .int .i64 s2, .int .i64 p2, .int .i64 q2, .slice A2 l2.length c2] 24 (0, 0)))
    (hr : Kd.C k45 w A l.length l) (hc : l.length ≤ c) (hr2 : Kd.C k45 w A2 l2.length l2) (hc2 : l2.length ≤ c2) (e0 : b = b2) (e1 : ¬ s = s2) :
    Calls Try.prog 33 #[.slice (some ⟨G1, 0, none⟩) 1 1, .slice (some ⟨G2, 0, none⟩) 1 1] w fun e w' => e = .returned (.bool false) ∧ Drawn0 w w' := by
  have y0 : w.cell? ⟨G1, 0, none⟩ = some (.int .i64 b) := (blk_cell h1 0).trans rfl
  have z0 : w.cell? ⟨G2, 0, none⟩ = some (.int .i64 b2) := (blk_cell h2 0).trans rfl
  have y1 : w.cell? ⟨G1, 1, none⟩ = some (.int .i64 s) := (blk_cell h1 1).trans rfl
  have z1 : w.cell? ⟨G2, 1, none⟩ = some (.int .i64 s2) := (blk_cell h2 1).trans rfl
  have y2 : w.cell? ⟨G1, 2, none⟩ = some (.int .i64 p) := (blk_cell h1 2).trans rfl
  have z2 : w.cell? ⟨G2, 2, none⟩ = some (.int .i64 p2) := (blk_cell h2 2).trans rfl
  have y3 : w.cell? ⟨G1, 3, none⟩ = some (.int .i64 q) := (blk_cell h1 3).trans rfl
  have z3 : w.cell? ⟨G2, 3, none⟩ = some (.int .i64 q2) := (blk_cell h2 3).trans rfl
  have y4 : w.cell? ⟨G1, 4, none⟩ = some (.slice A l.length c) := (blk_cell h1 4).trans rfl
  have z4 : w.cell? ⟨G2, 4, none⟩ = some (.slice A2 l2.length c2) := (blk_cell h2 4).trans rfl
  clear h1 h2
  clear hr hc hr2 hc2
  have d0 : (b != b2) = false := bne_eq_false_iff_eq.mpr e0
  have d1 : (s != s2) = true := bne_iff_ne.mpr e1
  clear e0 e1
  go_enter Try.func33, Try.ntmps33
  go_wp2_with fail
  refine wp_loop_rounds 2 ?_
  rw [rounds_succ]
  go_wp2_with fail
  go_quiet (fail)
  go_wp2_with fail
  refine bodyPost_ret (v := .bool false) (by simp [results, Try.results33, go_sem]) rfl ⟨rfl, ?_⟩
  exact Drawn0.step (Drawn0.refl _) _
set_option maxHeartbeats 4000000 in
set_option maxRecDepth 100000 in
theorem batches_no2 (k : Nat) (G1 G2 : Nat) (b s p q : Int) (A : Option Addr) (c : Nat) (l : List S45) (b2 s2 p2 q2 : Int) (A2 : Option Addr) (c2 : Nat) (l2 : List S45) (r : Bool) (w : World)
    (h1 : w.heap[G1]? = some (.cells #[.int .i64 b, .int .i64 s, .int .i64 p, .int .i64 q, .slice A l.length c] 24 (0, 0))) (h2 : w.heap[G2]? = some (.cells #[.int .i64 b2, .int .i64 s2, .int .i64 p2, .int .i64 q2, .slice A2 l2.length c2] 24 (0, 0)))
    (hr : Kd.C k45 w A l.length l) (hc : l.length ≤ c) (hr2 : Kd.C k45 w A2 l2.length l2) (hc2 : l2.length ≤ c2) (e0 : b = b2) (e1 : s = s2) (e2 : ¬ p = p2) :
    Calls Try.prog 33 #[.slice (some ⟨G1, 0, none⟩) 1 1, .slice (some ⟨G2, 0, none⟩) 1 1] w fun e w' => e = .returned (.bool false) ∧ Drawn0 w w' := by
  have y0 : w.cell? ⟨G1, 0, none⟩ = some (.int .i64 b) := (blk_cell h1 0).trans rfl
  have z0 : w.cell? ⟨G2, 0, none⟩ = some (.int .i64 b2) := (blk_cell h2 0).trans rfl
  have y1 : w.cell? ⟨G1, 1, none⟩ = some (.int .i64 s) := (blk_cell h1 1).trans rfl
  have z1 : w.cell? ⟨G2, 1, none⟩ = some (.int .i64 s2) := (blk_cell h2 1).trans rfl
  have y2 : w.cell? ⟨G1, 2, none⟩ = some (.int .i64 p) := (blk_cell h1 2).trans rfl
  have z2 : w.cell? ⟨G2, 2, none⟩ = some (.int .i64 p2) := (blk_cell h2 2).trans rfl
  have y3 : w.cell? ⟨G1, 3, none⟩ = some (.int .i64 q) := (blk_cell h1 3).trans rfl
  have z3 : w.cell? ⟨G2, 3, none⟩ = some (.int .i64 q2) := (blk_cell h2 3).trans rfl
  have y4 : w.cell? ⟨G1, 4, none⟩ = some (.slice A l.length c) := (blk_cell h1 4).trans rfl
  have z4 : w.cell? ⟨G2, 4, none⟩ = some (.slice A2 l2.length c2) := (blk_cell h2 4).trans rfl
  clear h1 h2
  clear hr hc hr2 hc2
  have d0 : (b != b2) = false := bne_eq_false_iff_eq.mpr e0
  have d1 : (s != s2) = false := bne_eq_false_iff_eq.mpr e1
  have d2 : (p != p2) = true := bne_iff_ne.mpr e2
  clear e0 e1 e2
  go_enter Try.func33, Try.ntmps33
  go_wp2_with fail
  refine wp_loop_rounds 2 ?_
  rw [rounds_succ]
  go_wp2_with fail
  go_quiet (fail)
  go_wp2_with fail
  refine bodyPost_ret (v := .bool false) (by simp [results, Try.results33, go_sem]) rfl ⟨rfl, ?_⟩
  exact Drawn0.step (Drawn0.refl _) _
set_option maxHeartbeats 4000000 in
set_option maxRecDepth 100000 in
theorem batches_no3 (k : Nat) (G1 G2 : Nat) (b s p q : Int) (A : Option Addr) (c : Nat) (l : List S45) (b2 s2 p2 q2 : Int) (A2 : Option Addr) (c2 : Nat) (l2 : List S45) (r : Bool) (w : World)
    (h1 : w.heap[G1]? = some (.cells #[.int .i64 b, .int .i64 s, .int .i64 p, .int .i64 q, .slice A l.length c] 24 (0, 0))) (h2 : w.heap[G2]? = some (.cells #[.int .i64 b2, .int .i64 s2, .int .i64 p2, .int .i64 q2, .slice A2 l2.length c2] 24 (0, 0)))
    (hr : Kd.C k45 w A l.length l) (hc : l.length ≤ c) (hr2 : Kd.C k45 w A2 l2.length l2) (hc2 : l2.length ≤ c2) (e0 : b = b2) (e1 : s = s2) (e2 : p = p2) (e3 : ¬ q = q2) :
    Calls Try.prog 33 #[.slice (some ⟨G1, 0, none⟩) 1 1, .slice (some ⟨G2, 0, none⟩) 1 1] w fun e w' => e = .returned (.bool false) ∧ Drawn0 w w' := by
  have y0 : w.cell? ⟨G1, 0, none⟩ = some (.int .i64 b) := (blk_cell h1 0).trans rfl
  have z0 : w.cell? ⟨G2, 0, none⟩ = some (.int .i64 b2) := (blk_cell h2 0).trans rfl
  have y1 : w.cell? ⟨G1, 1, none⟩ = some (.int .i64 s) := (blk_cell h1 1).trans rfl
  have z1 : w.cell? ⟨G2, 1, none⟩ = some (.int .i64 s2) := (blk_cell h2 1).trans rfl
  have y2 : w.cell? ⟨G1, 2, none⟩ = some (.int .i64 p) := (blk_cell h1 2).trans rfl
  have z2 : w.cell? ⟨G2, 2, none⟩ = some (.int .i64 p2) := (blk_cell h2 2).trans rfl
  have y3 : w.cell? ⟨G1, 3, none⟩ = some (.int .i64 q) := (blk_cell h1 3).trans rfl
  have z3 : w.cell? ⟨G2, 3, none⟩ = some (.int .i64 q2) := (blk_cell h2 3).trans rfl
  have y4 : w.cell? ⟨G1, 4, none⟩ = some (.slice A l.length c) := (blk_cell h1 4).trans rfl
  have z4 : w.cell? ⟨G2, 4, none⟩ = some (.slice A2 l2.length c2) := (blk_cell h2 4).trans rfl
  clear h1 h2
  clear hr hc hr2 hc2
  have d0 : (b != b2) = false := bne_eq_false_iff_eq.mpr e0
  have d1 : (s != s2) = false := bne_eq_false_iff_eq.mpr e1
  have d2 : (p != p2) = false := bne_eq_false_iff_eq.mpr e2
  have d3 : (q != q2) = true := bne_iff_ne.mpr e3
  clear e0 e1 e2 e3
  go_enter Try.func33, Try.ntmps33
  go_wp2_with fail
  refine wp_loop_rounds 2 ?_
  rw [rounds_succ]
  go_wp2_with fail
  go_quiet (fail)
  go_wp2_with fail
  refine bodyPost_ret (v := .bool false) (by simp [results, Try.results33, go_sem]) rfl ⟨rfl, ?_⟩
  exact Drawn0.step (Drawn0.refl _) _
set_option maxHeartbeats 4000000 in
set_option maxRecDepth 100000 in
theorem batches_all (k : Nat) (G1 G2 : Nat) (b s p q : Int) (A : Option Addr) (c : Nat) (l : List S45) (b2 s2 p2 q2 : Int) (A2 : Option Addr) (c2 : Nat) (l2 : List S45) (r : Bool) (w : World)
    (h1 : w.heap[G1]? = some (.cells #[.int .i64 b, .int .i64 s, .int .i64 p, .int .i64 q, .slice A l.length c] 24 (0, 0))) (h2 : w.heap[G2]? = some (.cells #[.int .i64 b2, .int .i64 s2, .int .i64 p2, .int .i64 q2, .slice A2 l2.length c2] 24 (0, 0)))
    (hr : Kd.C k45 w A l.length l) (hc : l.length ≤ c) (hr2 : Kd.C k45 w A2 l2.length l2) (hc2 : l2.length ≤ c2) (e0 : b = b2) (e1 : s = s2) (e2 : p = p2) (e3 : q = q2) (h : bollardalike_Records.f k l l2 = some r) :
    Calls Try.prog 33 #[.slice (some ⟨G1, 0, none⟩) 1 1, .slice (some ⟨G2, 0, none⟩) 1 1] w fun e w' => e = .returned (.bool r) ∧ Drawn0 w w' := by
  have y0 : w.cell? ⟨G1, 0, none⟩ = some (.int .i64 b) := (blk_cell h1 0).trans rfl
  have z0 : w.cell? ⟨G2, 0, none⟩ = some (.int .i64 b2) := (blk_cell h2 0).trans rfl
  have y1 : w.cell? ⟨G1, 1, none⟩ = some (.int .i64 s) := (blk_cell h1 1).trans rfl
  have z1 : w.cell? ⟨G2, 1, none⟩ = some (.int .i64 s2) := (blk_cell h2 1).trans rfl
  have y2 : w.cell? ⟨G1, 2, none⟩ = some (.int .i64 p) := (blk_cell h1 2).trans rfl
  have z2 : w.cell? ⟨G2, 2, none⟩ = some (.int .i64 p2) := (blk_cell h2 2).trans rfl
  have y3 : w.cell? ⟨G1, 3, none⟩ = some (.int .i64 q) := (blk_cell h1 3).trans rfl
  have z3 : w.cell? ⟨G2, 3, none⟩ = some (.int .i64 q2) := (blk_cell h2 3).trans rfl
  have y4 : w.cell? ⟨G1, 4, none⟩ = some (.slice A l.length c) := (blk_cell h1 4).trans rfl
  have z4 : w.cell? ⟨G2, 4, none⟩ = some (.slice A2 l2.length c2) := (blk_cell h2 4).trans rfl
  clear h1 h2
  have HSA := Aside0.mk (show ∀ n, Calls Try.prog 21 #[.slice A l.length c, .slice A2 l2.length c2] (w.drewN n) fun e w' => e = .returned (.bool r) ∧ ∃ m, w' = (w.drewN n).drewN m from fun n => (bollardalike_Records.calls k A c l A2 c2 l2 r (w.drewN n) (Kd.C_drewN hr n) hc (Kd.C_drewN hr2 n) hc2 h).mono (fun e w' h => ⟨h.1, h.2.out⟩))
  clear h hr hc hr2 hc2
  have d0 : (b != b2) = false := bne_eq_false_iff_eq.mpr e0
  have d1 : (s != s2) = false := bne_eq_false_iff_eq.mpr e1
  have d2 : (p != p2) = false := bne_eq_false_iff_eq.mpr e2
  have d3 : (q != q2) = false := bne_eq_false_iff_eq.mpr e3
  clear e0 e1 e2 e3
  go_enter Try.func33, Try.ntmps33
  go_wp2_with fail
  refine wp_loop_rounds 2 ?_
  rw [rounds_succ]
  go_wp2_with fail
  cases r
  · go_quiet ((go_at_call 21; exact Calls.quiet_of (HSA.out _)))
    go_wp2_with fail
    refine bodyPost_ret (v := .bool false) (by simp [results, Try.results33, go_sem]) rfl ⟨rfl, ?_⟩
    exact Drawn0.step (Drawn0.refl _) _
  · go_quiet ((go_at_call 21; exact Calls.quiet_of (HSA.out _)))
    go_wp2_with fail
    rw [rounds_succ]
    go_wp2_with fail
    refine bodyPost_ret (v := .bool true) (by simp [results, Try.results33, go_sem]) rfl ⟨rfl, ?_⟩
    exact Drawn0.step (Drawn0.refl _) _
set_option maxHeartbeats 4000000 in
theorem batches_one (k : Nat) (G1 G2 : Nat) (b s p q : Int) (A : Option Addr) (c : Nat) (l : List S45) (b2 s2 p2 q2 : Int) (A2 : Option Addr) (c2 : Nat) (l2 : List S45) (r : Bool) (w : World)
    (h1 : w.heap[G1]? = some (.cells #[.int .i64 b, .int .i64 s, .int .i64 p, .int .i64 q, .slice A l.length c] 24 (0, 0))) (h2 : w.heap[G2]? = some (.cells #[.int .i64 b2, .int .i64 s2, .int .i64 p2, .int .i64 q2, .slice A2 l2.length c2] 24 (0, 0)))
    (hr : Kd.C k45 w A l.length l) (hc : l.length ≤ c) (hr2 : Kd.C k45 w A2 l2.length l2) (hc2 : l2.length ≤ c2) (h : bollardlaw13_same.f k b s p q l b2 s2 p2 q2 l2 = some r) :
    Calls Try.prog 33 #[.slice (some ⟨G1, 0, none⟩) 1 1, .slice (some ⟨G2, 0, none⟩) 1 1] w fun e w' => e = .returned (.bool r) ∧ Drawn0 w w' := by
  unfold bollardlaw13_same.f at h
  by_cases e0 : b = b2
  case neg =>
    rw [if_neg (fun h => e0 h.1)] at h
    obtain rfl := Option.some.inj h
    exact batches_no0 k G1 G2 b s p q A c l b2 s2 p2 q2 A2 c2 l2 false w h1 h2 hr hc hr2 hc2 e0
  by_cases e1 : s = s2
  case neg =>
    rw [if_neg (fun h => e1 h.2.1)] at h
    obtain rfl := Option.some.inj h
    exact batches_no1 k G1 G2 b s p q A c l b2 s2 p2 q2 A2 c2 l2 false w h1 h2 hr hc hr2 hc2 e0 e1
  by_cases e2 : p = p2
  case neg =>
    rw [if_neg (fun h => e2 h.2.2.1)] at h
    obtain rfl := Option.some.inj h
    exact batches_no2 k G1 G2 b s p q A c l b2 s2 p2 q2 A2 c2 l2 false w h1 h2 hr hc hr2 hc2 e0 e1 e2
  by_cases e3 : q = q2
  case neg =>
    rw [if_neg (fun h => e3 h.2.2.2)] at h
    obtain rfl := Option.some.inj h
    exact batches_no3 k G1 G2 b s p q A c l b2 s2 p2 q2 A2 c2 l2 false w h1 h2 hr hc hr2 hc2 e0 e1 e2 e3
  rw [if_pos ⟨e0, e1, e2, e3⟩] at h
  exact batches_all k G1 G2 b s p q A c l b2 s2 p2 q2 A2 c2 l2 r w h1 h2 hr hc hr2 hc2 e0 e1 e2 e3 h
set_option maxHeartbeats 4000000 in
set_option maxRecDepth 100000 in
theorem bollardlaw13_same.calls (k : Nat) (b s p q : Int) (A : Option Addr) (c : Nat) (l : List S45) (b2 s2 p2 q2 : Int) (A2 : Option Addr) (c2 : Nat) (l2 : List S45) (r : Bool) (w : World) (hr : Kd.C k45 w A l.length l) (hc : l.length ≤ c) (hr2 : Kd.C k45 w A2 l2.length l2) (hc2 : l2.length ≤ c2) (h : bollardlaw13_same.f k b s p q l b2 s2 p2 q2 l2 = some r) :
    Calls Try.prog 20 #[.agg #[.int .i64 b, .int .i64 s, .int .i64 p, .int .i64 q, .slice A l.length c], .agg #[.int .i64 b2, .int .i64 s2, .int .i64 p2, .int .i64 q2, .slice A2 l2.length c2]] w fun e w' => e = .returned (.bool r) ∧ Below w.heap.size w w' := by
  have HR := Aside0.mk hr
  have HR2 := Aside0.mk hr2
  have HC := Aside0.mk hc
  have HC2 := Aside0.mk hc2
  have H := Aside0.mk h
  clear hr hr2 hc hc2 h
  go_enter Try.func20, Try.ntmps20
  go_wp2_with fail
  refine (batches_one k (w.heap.size + 1 + 1) (w.heap.size + 1 + 1 + 1) b s p q A c l b2 s2 p2 q2 A2 c2 l2 r _ ?_ ?_ ?_ HC.out ?_ HC2.out H.out).mono ?_
  · have h := blk_alloc (heap_alloc_new ((w.alloc (.cells #[.int .i64 b, .int .i64 s, .int .i64 p, .int .i64 q, .slice A l.length c] 24 (0, 0))).alloc (.cells #[.int .i64 b2, .int .i64 s2, .int .i64 p2, .int .i64 q2, .slice A2 l2.length c2] 24 (0, 0))) (.cells #[.int .i64 b, .int .i64 s, .int .i64 p, .int .i64 q, .slice A l.length c] 24 (0, 0))) (.cells #[.int .i64 b2, .int .i64 s2, .int .i64 p2, .int .i64 q2, .slice A2 l2.length c2] 24 (0, 0))
    rw [sz_alloc, sz_alloc] at h
    exact h
  · have h := heap_alloc_new (((w.alloc (.cells #[.int .i64 b, .int .i64 s, .int .i64 p, .int .i64 q, .slice A l.length c] 24 (0, 0))).alloc (.cells #[.int .i64 b2, .int .i64 s2, .int .i64 p2, .int .i64 q2, .slice A2 l2.length c2] 24 (0, 0))).alloc (.cells #[.int .i64 b, .int .i64 s, .int .i64 p, .int .i64 q, .slice A l.length c] 24 (0, 0))) (.cells #[.int .i64 b2, .int .i64 s2, .int .i64 p2, .int .i64 q2, .slice A2 l2.length c2] 24 (0, 0))
    rw [sz_alloc, sz_alloc, sz_alloc] at h
    exact h
  · exact Kd.C_alloc (Kd.C_alloc (Kd.C_alloc (Kd.C_alloc HR.out _) _) _) _
  · exact Kd.C_alloc (Kd.C_alloc (Kd.C_alloc (Kd.C_alloc HR2.out _) _) _) _
  · rintro e w9 ⟨rfl, hd⟩
    have hb := below_step (below_alloc (below_alloc (below_alloc (below_alloc (Below.refl w.heap.size w) _) _) _) _) hd.below
    go_wp2_with fail
    exact bodyPost_ret (v := .bool r) (by simp [results, Try.results20, go_sem]) rfl ⟨rfl, hb⟩

/-! ### batch_Move: function 25 -/
def batch_Move.j0 : Nat → List Int → Int → Bool → Option (List Int × Int)
  | 0, _, _, _ => none
  | k + 1, x0, x1, x22 => if x22 = true then (some (([] : List Int), 10)) else (if x1 < 0 then (some (([] : List Int), 1)) else (if x1 > 1125899906842624 then (some (([] : List Int), 1)) else ((batch_put.f k x0 0 8 x1).bind fun t277 => (some (t277, 0)))))
def batch_Move.f (k : Nat) (l0 : List Int) (a1 : Int) : Option (List Int × Int) := (batch_Decode.f k l0).bind fun bt267 => (if bt267.2.2.2.2.2.2 = 0 then (batch_Move.j0 k l0 a1 (bt267.2.2.2.2.2.1 != (l0.length : Int))) else (batch_Move.j0 k l0 a1 true))
set_option maxRecDepth 100000 in
theorem batch_Move.mono_l : ∀ k, (∀ y0 y1 y2, LeO (batch_Move.j0 k y0 y1 y2) (batch_Move.j0 (k + 1) y0 y1 y2))
  | 0 => fun _ _ _ r h => by first | exact nomatch (show (none : Option _) = some r from h) | (rw [batch_Move.j0] at h; cases h; done) | (simp [batch_Move.j0] at h; done)
  | k + 1 => by
    have ih0 := batch_Move.mono_l k
    · intro y0 y1 y2
      unfold batch_Move.j0
      repeat' first
      | (with_reducible exact ih0 _ _ _)
      | (with_reducible exact batch_Decode.mono _ _)
      | (with_reducible exact batch_put.mono _ _ _ _ _)
      | (with_reducible exact LeO.refl _)
      | (with_reducible exact LeO.none _)
      | (with_reducible refine LeO.ite ?_ ?_)
      | (with_reducible refine LeO.bind ?_ (fun _ => ?_))
      | exact ih0 _ _ _
      | exact batch_Decode.mono _ _
      | exact batch_put.mono _ _ _ _ _
      | exact LeO.none _
      | refine LeO.ite ?_ ?_
      | refine LeO.bind ?_ (fun _ => ?_)
theorem batch_Move.mono : ∀ a0 a1 k, LeO (batch_Move.f k a0 a1) (batch_Move.f (k + 1) a0 a1) := by
  intro a0 a1 k
  have ih0 := batch_Move.mono_l k
  unfold batch_Move.f
  repeat' first
      | (with_reducible exact ih0 _ _ _)
      | (with_reducible exact batch_Decode.mono _ _)
      | (with_reducible exact batch_put.mono _ _ _ _ _)
      | (with_reducible exact LeO.refl _)
      | (with_reducible exact LeO.none _)
      | (with_reducible refine LeO.ite ?_ ?_)
      | (with_reducible refine LeO.bind ?_ (fun _ => ?_))
      | exact ih0 _ _ _
      | exact batch_Decode.mono _ _
      | exact batch_put.mono _ _ _ _ _
      | exact LeO.none _
      | refine LeO.ite ?_ ?_
      | refine LeO.bind ?_ (fun _ => ?_)
set_option maxHeartbeats 8000000 in
set_option maxRecDepth 100000 in
theorem batch_Move.calls (k : Nat) (A0 : Option Addr) (c0 : Nat) (l0 : List Int) (a1 : Int) (r1 : List Int) (r2 : Int) (w : World) (hr0 : Kd.C (Kd.int .u8) w A0 l0.length l0) (hc0 : l0.length ≤ c0) (h : batch_Move.f k l0 a1 = some (r1, r2)) :
    Calls Try.prog 25 #[.slice A0 l0.length c0, .int .i64 a1] w fun e w' => ∃ v0_ : Value, e = .returned (.tuple #[v0_, .int .i64 r2]) ∧ Kd.R (Kd.int .u8) 5 w' w.heap.size (fun _ => True) v0_ r1 ∧ Below w.heap.size w w' := by
  have hu24 := Try.underlying24
  have HR0 := Aside0.mk hr0
  have HC0 := Aside0.mk hc0
  clear hr0 hc0
  have HB := Aside0.mk (Below.refl w.heap.size w)
  have H : ((batch_Decode.f k l0).bind fun bt267 => (if bt267.2.2.2.2.2.2 = 0 then (batch_Move.j0 k l0 a1 (bt267.2.2.2.2.2.1 != (l0.length : Int))) else (batch_Move.j0 k l0 a1 true))) = some (r1, r2) := h
  clear h
  replace H := Option.bind_eq_some_iff.mp H
  obtain ⟨⟨t267, t268, t269, t270, t271, t274, t275⟩, A30, H⟩ := H
  replace H : (if t275 = 0 then (batch_Move.j0 k l0 a1 (t274 != (l0.length : Int))) else (batch_Move.j0 k l0 a1 true)) = some (r1, r2) := H
  have A3 := Aside0.mk A30
  clear A30
  have HC4 := Aside0.mk H
  clear H
  go_enter Try.func25, Try.ntmps25
  go_upto_region 2 with (first | ((with_reducible refine gate_callee (f := 22) rfl ?_); refine goesL_ (some 11) rfl rfl Try.func22 (by kernel_rfl) rfl #[.slice A0 l0.length c0] rfl (by (try simp only [List.map_toArray, List.map_cons, List.map_nil]); first | done | rfl | (simp only [List.length_drop, List.length_take]; rfl)) ?_; (with_reducible refine (batch_Decode.calls k _ _ l0 t267 t268 t269 t270 t271 t274 t275 _ ?side1 ?side2 A3.out).mono ?_); (case side1 => repeat (first | exact HR0.out | (with_reducible refine Kd.C_alloc ?_ _) | (with_reducible refine Kd.C_drewN ?_ _) | (with_reducible refine Kd.C_drew ?_))); (case side2 => exact HC0.out); rintro e w5 ⟨v272, rfl, ho0, hb⟩; refine ⟨_, rfl, ?_⟩; have n0_ := Aside0.mk (Kd.R_lower ho0 (below_size (by repeat (first | (with_reducible first | exact HB.out | apply below_alloc | apply pw_below_drewN | apply below_drew1) | exact HB.out)))); have n1_ := Aside0.mk (below_step (by repeat (first | (with_reducible first | exact HB.out | apply below_alloc | apply pw_below_drewN | apply below_drew1) | exact HB.out)) hb); clear HB; have HO273 := n0_; have HB := n1_; clear n0_ n1_; (try clear hb); (try clear hb2); (try clear hk); (try clear hi); (try clear ho0)) | ((with_reducible refine gate_dst (N := 6) rfl ?_); (try (refine gate_guard (by rfl) ?_; dsimp only)); refine box_event ?hg (N := 6) ?hd (cs := #[.int .i64 0, .int .i64 0, .int .i64 0, .int .i64 0, .slice none 0 0]) (t := 24) ?hr ?_; (case hd => rfl); (case hg => rfl); (case hr => first | (go_simp; done) | (go_simp; rfl)); intro gb276 hg w6 hbox hb; have n0_ := Aside0.mk (Kd.R_below (by (with_reducible repeat (first | apply Kd.R_alloc | apply Kd.R_drewN | apply Kd.R_drew)); exact HO273.out) hb); have n1_ := Aside0.mk (below_step (by repeat (first | (with_reducible first | exact HB.out | apply below_alloc | apply pw_below_drewN | apply below_drew1) | exact HB.out)) hb); have n2_ := Aside0.mk (hbox); have n3_ := Aside0.mk ((by rw [hg]; exact (below_size (by repeat (first | (with_reducible first | exact HB.out | apply below_alloc | apply pw_below_drewN | apply below_drew1) | exact HB.out))) : w.heap.size ≤ gb276)); have n4_ := Aside0.mk ((by rw [hg]; exact (below_size (by repeat (first | (with_reducible first | exact HB.out | apply below_alloc | apply pw_below_drewN | apply below_drew1) | exact HB.out))) : w.heap.size ≤ gb276)); clear HO273; clear HB; have HO273 := n0_; have HB := n1_; have BK276 := n2_; have GW276 := n3_; have GE276 := n4_; clear n0_ n1_ n2_ n3_ n4_; clear hb hbox hg; have hcz7_0 : w6.cell? ⟨gb276, 0, none⟩ = some (.int .i64 0) := (blk_cell BK276.out 0).trans rfl; have hcz7_1 : w6.cell? ⟨gb276, 1, none⟩ = some (.int .i64 0) := (blk_cell BK276.out 1).trans rfl; have hcz7_2 : w6.cell? ⟨gb276, 2, none⟩ = some (.int .i64 0) := (blk_cell BK276.out 2).trans rfl; have hcz7_3 : w6.cell? ⟨gb276, 3, none⟩ = some (.int .i64 0) := (blk_cell BK276.out 3).trans rfl; have hcz7_4 : w6.cell? ⟨gb276, 4, none⟩ = some (.slice none 0 0) := (blk_cell BK276.out 4).trans rfl; have hfz7_0 := blk_frozen BK276.out 0; have hfz7_1 := blk_frozen BK276.out 1; have hfz7_2 := blk_frozen BK276.out 2; have hfz7_3 := blk_frozen BK276.out 3; have hfz7_4 := blk_frozen BK276.out 4; obtain ⟨Ao8, co8, eo8⟩ := Kd.R_slice HO273.out; subst eo8))
  (try simp only [Act.put, List.setIfInBounds_toArray, List.set_cons_zero, List.set_cons_succ])
  go_cut [22] (fun v22 wc => ∃ (kq : Nat) (x22_3 : Bool), v22 = .bool x22_3 ∧ Aside0 (batch_Move.j0 kq l0 a1 x22_3 = some (r1, r2)) ∧ Aside0 (kq ≤ k) ∧ Aside0 (Kd.R k45 45 wc w.heap.size (fun _ => True) (.slice Ao8 t271.length co8) t271) ∧ Aside0 (wc.heap[gb276]? = some (.cells #[.int .i64 t267, .int .i64 t268, .int .i64 t269, .int .i64 t270, (.slice Ao8 t271.length co8)] 24 (0, 0))) ∧ Aside0 (Below w.heap.size w wc))
  case first =>
    have H := HC4.out
    clear HC4
    by_cases c9 : t275 = 0
    · rw [if_pos c9] at H
      have c9b0 : (t275 == 0) = true := beq_iff_eq.mpr c9
      have c9b1 : (t275 != 0) = false := bne_eq_false_iff_eq.mpr c9
      clear c9
      (first | rw [c9b0] | (simp only [i64_w, i32_w]; rw [c9b0]) | skip)
      have H' := Aside0.mk H
      clear H
      go_wp2
      go_meet
      case rel => exact ⟨_, ((t274 != (l0.length : Int))), (by first | rfl | (simp; done) | (simp [*]; done) | exact congrArg Value.bool (ne_empty _) | exact congrArg Value.bool (eq_empty _)), H', ⟨by first | omega | exact Nat.le_refl _⟩, ⟨by (with_reducible repeat (first | apply Kd.R_alloc | apply Kd.R_drewN | apply Kd.R_drew)); exact Kd.R_mono (Kd.R_far (p := ⟨gb276, 4, none⟩) (Kd.R_far (p := ⟨gb276, 3, none⟩) (Kd.R_far (p := ⟨gb276, 2, none⟩) (Kd.R_far (p := ⟨gb276, 1, none⟩) (Kd.R_far (p := ⟨gb276, 0, none⟩) (Kd.R_types HO273.out BK276.out (by decide)) (fun _ hk => hk.2) (.int .i64 t267)) (fun _ hk => hk.2) (.int .i64 t268)) (fun _ hk => hk.2) (.int .i64 t269)) (fun _ hk => hk.2) (.int .i64 t270)) (fun _ hk => hk.2) (.slice Ao8 t271.length co8)) (fun _ hk => trivial)⟩, ⟨by (with_reducible repeat (first | refine blk_drewN ?_ _ | refine blk_drew ?_ | refine blk_alloc ?_ _)); refine blk_put (cs := #[.int .i64 t267, .int .i64 t268, .int .i64 t269, .int .i64 t270, .slice none 0 0]) ?_ 4 _ (by first | rfl | (simp only [*, List.setIfInBounds_toArray, List.set_cons_zero, List.set_cons_succ]; done) | (simp [*]; done)); (with_reducible repeat (first | refine blk_drewN ?_ _ | refine blk_drew ?_ | refine blk_alloc ?_ _)); refine blk_put (cs := #[.int .i64 t267, .int .i64 t268, .int .i64 t269, .int .i64 0, .slice none 0 0]) ?_ 3 _ (by first | rfl | (simp only [*, List.setIfInBounds_toArray, List.set_cons_zero, List.set_cons_succ]; done) | (simp [*]; done)); (with_reducible repeat (first | refine blk_drewN ?_ _ | refine blk_drew ?_ | refine blk_alloc ?_ _)); refine blk_put (cs := #[.int .i64 t267, .int .i64 t268, .int .i64 0, .int .i64 0, .slice none 0 0]) ?_ 2 _ (by first | rfl | (simp only [*, List.setIfInBounds_toArray, List.set_cons_zero, List.set_cons_succ]; done) | (simp [*]; done)); (with_reducible repeat (first | refine blk_drewN ?_ _ | refine blk_drew ?_ | refine blk_alloc ?_ _)); refine blk_put (cs := #[.int .i64 t267, .int .i64 0, .int .i64 0, .int .i64 0, .slice none 0 0]) ?_ 1 _ (by first | rfl | (simp only [*, List.setIfInBounds_toArray, List.set_cons_zero, List.set_cons_succ]; done) | (simp [*]; done)); (with_reducible repeat (first | refine blk_drewN ?_ _ | refine blk_drew ?_ | refine blk_alloc ?_ _)); refine blk_put (cs := #[.int .i64 0, .int .i64 0, .int .i64 0, .int .i64 0, .slice none 0 0]) ?_ 0 _ (by first | rfl | (simp only [*, List.setIfInBounds_toArray, List.set_cons_zero, List.set_cons_succ]; done) | (simp [*]; done)); (with_reducible repeat (first | refine blk_drewN ?_ _ | refine blk_drew ?_ | refine blk_alloc ?_ _)); exact BK276.out⟩, ⟨by repeat (first | (with_reducible first | exact HB.out | apply below_alloc | apply pw_below_drewN | apply below_drew1 | refine below_set ?_ GE276.out) | exact HB.out)⟩⟩
    · rw [if_neg c9] at H
      have c9b0 : (t275 == 0) = false := beq_eq_false_iff_ne.mpr c9
      have c9b1 : (t275 != 0) = true := bne_iff_ne.mpr c9
      (first | rw [c9b0] | (simp only [i64_w, i32_w]; rw [c9b0]) | skip)
      have H' := Aside0.mk H
      clear H
      go_wp2
      go_meet
      case rel => exact ⟨_, (true), (by first | rfl | (simp; done) | (simp [*]; done) | exact congrArg Value.bool (ne_empty _) | exact congrArg Value.bool (eq_empty _)), H', ⟨by first | omega | exact Nat.le_refl _⟩, ⟨by (with_reducible repeat (first | apply Kd.R_alloc | apply Kd.R_drewN | apply Kd.R_drew)); exact Kd.R_mono (Kd.R_far (p := ⟨gb276, 4, none⟩) (Kd.R_far (p := ⟨gb276, 3, none⟩) (Kd.R_far (p := ⟨gb276, 2, none⟩) (Kd.R_far (p := ⟨gb276, 1, none⟩) (Kd.R_far (p := ⟨gb276, 0, none⟩) (Kd.R_types HO273.out BK276.out (by decide)) (fun _ hk => hk.2) (.int .i64 t267)) (fun _ hk => hk.2) (.int .i64 t268)) (fun _ hk => hk.2) (.int .i64 t269)) (fun _ hk => hk.2) (.int .i64 t270)) (fun _ hk => hk.2) (.slice Ao8 t271.length co8)) (fun _ hk => trivial)⟩, ⟨by (with_reducible repeat (first | refine blk_drewN ?_ _ | refine blk_drew ?_ | refine blk_alloc ?_ _)); refine blk_put (cs := #[.int .i64 t267, .int .i64 t268, .int .i64 t269, .int .i64 t270, .slice none 0 0]) ?_ 4 _ (by first | rfl | (simp only [*, List.setIfInBounds_toArray, List.set_cons_zero, List.set_cons_succ]; done) | (simp [*]; done)); (with_reducible repeat (first | refine blk_drewN ?_ _ | refine blk_drew ?_ | refine blk_alloc ?_ _)); refine blk_put (cs := #[.int .i64 t267, .int .i64 t268, .int .i64 t269, .int .i64 0, .slice none 0 0]) ?_ 3 _ (by first | rfl | (simp only [*, List.setIfInBounds_toArray, List.set_cons_zero, List.set_cons_succ]; done) | (simp [*]; done)); (with_reducible repeat (first | refine blk_drewN ?_ _ | refine blk_drew ?_ | refine blk_alloc ?_ _)); refine blk_put (cs := #[.int .i64 t267, .int .i64 t268, .int .i64 0, .int .i64 0, .slice none 0 0]) ?_ 2 _ (by first | rfl | (simp only [*, List.setIfInBounds_toArray, List.set_cons_zero, List.set_cons_succ]; done) | (simp [*]; done)); (with_reducible repeat (first | refine blk_drewN ?_ _ | refine blk_drew ?_ | refine blk_alloc ?_ _)); refine blk_put (cs := #[.int .i64 t267, .int .i64 0, .int .i64 0, .int .i64 0, .slice none 0 0]) ?_ 1 _ (by first | rfl | (simp only [*, List.setIfInBounds_toArray, List.set_cons_zero, List.set_cons_succ]; done) | (simp [*]; done)); (with_reducible repeat (first | refine blk_drewN ?_ _ | refine blk_drew ?_ | refine blk_alloc ?_ _)); refine blk_put (cs := #[.int .i64 0, .int .i64 0, .int .i64 0, .int .i64 0, .slice none 0 0]) ?_ 0 _ (by first | rfl | (simp only [*, List.setIfInBounds_toArray, List.set_cons_zero, List.set_cons_succ]; done) | (simp [*]; done)); (with_reducible repeat (first | refine blk_drewN ?_ _ | refine blk_drew ?_ | refine blk_alloc ?_ _)); exact BK276.out⟩, ⟨by repeat (first | (with_reducible first | exact HB.out | apply below_alloc | apply pw_below_drewN | apply below_drew1 | refine below_set ?_ GE276.out) | exact HB.out)⟩⟩
  case rest =>
    clear HC4
    try clear c2
    try clear p2
    try clear c9
    try clear c9b0
    try clear c9b1
    try clear hcz7_0
    try clear hcz7_1
    try clear hcz7_2
    try clear hcz7_3
    try clear hcz7_4
    try clear hfz7_0
    try clear hfz7_1
    try clear hfz7_2
    try clear hfz7_3
    try clear hfz7_4
    obtain ⟨kq, x22_3, rfl, HA, HJ3, HO_277004, BK276, HB⟩ := hcut
    cases kq with
    | zero => exact absurd HA.out (by first | (intro h_; exact nomatch (show (none : Option _) = some r from h_)) | simp [batch_Move.j0])
    | succ kj3 =>
      have H := HA.out
      clear HA
      simp only [batch_Move.j0] at H
      by_cases c10 : x22_3 = true
      · subst c10
        have H1 : (some (([] : List Int), 10)) = some (r1, r2) := by rw [if_pos rfl] at H; exact H
        clear H
        have H := H1
        clear H1
        simp only [Option.some.injEq, Prod.mk.injEq] at H
        obtain ⟨rfl, rfl⟩ := H
        go_wp2
        go_ret2
        exact ⟨_, by first | rfl | (simp [errW_none, errW_some] <;> rfl) | (simp [*, errW_none, errW_some] <;> rfl), by first | exact Kd.R_nil _ _ _ _ _ | exact Kd.N_nil _ _ _ _ _ | exact Kd.V_nil _ _ _ _ _ | exact Kd.Q_nil _ _ _ _ _ | exact Kd.S_nil _ _ _ _ _, by repeat (first | (with_reducible first | exact HB.out | apply below_alloc | apply pw_below_drewN | apply below_drew1 | refine below_set ?_ GE276.out) | exact HB.out)⟩
      · replace c10 := Bool.eq_false_iff.mpr c10
        subst c10
        have H1 : (if a1 < 0 then (some (([] : List Int), 1)) else (if a1 > 1125899906842624 then (some (([] : List Int), 1)) else ((batch_put.f kj3 l0 0 8 a1).bind fun t277 => (some (t277, 0))))) = some (r1, r2) := by rw [if_neg (show ¬ (false = true) by decide)] at H; exact H
        clear H
        have H := H1
        clear H1
        by_cases c11 : a1 < 0
        · rw [if_pos c11] at H
          have c11b0 : decide (a1 < 0) = true := decide_eq_true c11
          clear c11
          simp only [Option.some.injEq, Prod.mk.injEq] at H
          obtain ⟨rfl, rfl⟩ := H
          go_wp2
          go_ret2
          exact ⟨_, by first | rfl | (simp [errW_none, errW_some] <;> rfl) | (simp [*, errW_none, errW_some] <;> rfl), by first | exact Kd.R_nil _ _ _ _ _ | exact Kd.N_nil _ _ _ _ _ | exact Kd.V_nil _ _ _ _ _ | exact Kd.Q_nil _ _ _ _ _ | exact Kd.S_nil _ _ _ _ _, by repeat (first | (with_reducible first | exact HB.out | apply below_alloc | apply pw_below_drewN | apply below_drew1 | refine below_set ?_ GE276.out) | exact HB.out)⟩
        · rw [if_neg c11] at H
          have c11b0 : decide (a1 < 0) = false := decide_eq_false c11
          clear c11
          by_cases c12 : a1 > 1125899906842624
          · rw [if_pos c12] at H
            have c12b0 : decide (1125899906842624 < a1) = true := decide_eq_true c12
            clear c12
            simp only [Option.some.injEq, Prod.mk.injEq] at H
            obtain ⟨rfl, rfl⟩ := H
            go_wp2
            go_ret2
            exact ⟨_, by first | rfl | (simp [errW_none, errW_some] <;> rfl) | (simp [*, errW_none, errW_some] <;> rfl), by first | exact Kd.R_nil _ _ _ _ _ | exact Kd.N_nil _ _ _ _ _ | exact Kd.V_nil _ _ _ _ _ | exact Kd.Q_nil _ _ _ _ _ | exact Kd.S_nil _ _ _ _ _, by repeat (first | (with_reducible first | exact HB.out | apply below_alloc | apply pw_below_drewN | apply below_drew1 | refine below_set ?_ GE276.out) | exact HB.out)⟩
          · rw [if_neg c12] at H
            have c12b0 : decide (1125899906842624 < a1) = false := decide_eq_false c12
            clear c12
            replace H := Option.bind_eq_some_iff.mp H
            obtain ⟨t277, A130, H⟩ := H
            replace H : (some (t277, 0)) = some (r1, r2) := H
            have A13 := Aside0.mk A130
            clear A130
            simp only [Option.some.injEq, Prod.mk.injEq] at H
            obtain ⟨rfl, rfl⟩ := H
            go_wp2_with (first | ((with_reducible refine gate_callee (f := 41) rfl ?_); refine goesL_ (some 31) rfl rfl Try.func41 (by kernel_rfl) rfl #[.slice A0 l0.length c0, .int .i64 0, .int .i64 8, .int .i64 a1] rfl (by (try simp only [List.map_toArray, List.map_cons, List.map_nil]); first | done | rfl | (simp only [List.length_drop, List.length_take]; rfl)) ?_; (with_reducible refine (batch_put.calls kj3 _ _ l0 0 8 a1 t277 _ ?side1 ?side2 A13.out).mono ?_); (case side1 => repeat (first | exact (Kd.C_below HR0.out HB.out) | (with_reducible refine Kd.C_alloc ?_ _) | (with_reducible refine Kd.C_drewN ?_ _) | (with_reducible refine Kd.C_drew ?_))); (case side2 => exact HC0.out); rintro e w14 ⟨v278, rfl, ho0, hb⟩; refine ⟨_, rfl, ?_⟩; have n0_ := Aside0.mk (Kd.R_below (by (with_reducible repeat (first | apply Kd.R_alloc | apply Kd.R_drewN | apply Kd.R_drew)); exact HO_277004.out) hb); have n1_ := Aside0.mk (Kd.R_lower ho0 (below_size (by repeat (first | (with_reducible first | exact HB.out | apply below_alloc | apply pw_below_drewN | apply below_drew1 | refine below_set ?_ GE276.out) | exact HB.out)))); have n2_ := Aside0.mk (blk_below (g := gb276) (o := .cells #[.int .i64 t267, .int .i64 t268, .int .i64 t269, .int .i64 t270, .slice Ao8 t271.length co8] 24 (0, 0)) (by (with_reducible repeat (first | refine blk_drewN ?_ _ | refine blk_drew ?_ | refine blk_alloc ?_ _)); exact BK276.out) hb); have n3_ := Aside0.mk (below_step (by repeat (first | (with_reducible first | exact HB.out | apply below_alloc | apply pw_below_drewN | apply below_drew1 | refine below_set ?_ GE276.out) | exact HB.out)) hb); clear HO_277004; clear BK276; clear HB; have HO_277004 := n0_; have HO279 := n1_; have BK276 := n2_; have HB := n3_; clear n0_ n1_ n2_ n3_; (try clear hb); (try clear hb2); (try clear hk); (try clear hi); (try clear ho0)))
            go_ret2
            exact ⟨_, by first | rfl | (simp [errW_none, errW_some] <;> rfl) | (simp [*, errW_none, errW_some] <;> rfl), by (with_reducible repeat (first | apply Kd.R_alloc | apply Kd.R_drewN | apply Kd.R_drew)); exact HO279.out, by repeat (first | (with_reducible first | exact HB.out | apply below_alloc | apply pw_below_drewN | apply below_drew1 | refine below_set ?_ GE276.out) | exact HB.out)⟩

end Go.Proofs.Ytgmeellapjimgaa.PBb
