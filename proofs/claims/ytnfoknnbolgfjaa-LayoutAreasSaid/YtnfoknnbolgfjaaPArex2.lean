-- written by a program of this session (wip/tools/pr.py, over the kit's printer): not by hand
import Derived.Test.YtnfoknnbolgfjaaPArex0
import Derived.Test.YtnfoknnbolgfjaaPArex1
namespace Go.Proofs.Ytnfoknnbolgfjaa.PAre
open Go.RowKit Go.Proofs.YtnfoknnbolgfjaaW.PrintWords Go.Proofs.YtnfoknnbolgfjaaW.PrintLast Go.Proofs.YtnfoknnbolgfjaaW.PrintMore
attribute [local go_sem] max2_int min2_int max_two min_two max_three min_three max_four min_four   -- for this text's walks alone
set_option linter.unusedVariables false
set_option linter.unusedSimpArgs false

attribute [local go_sem high] eqA32
/-! ### layout_up: function 28 -/
def layout_up.f (a0 : Int) (a1 : Int) : Option (Int) := if a1 = 0 then (none) else (some (wrap64 (Int.tdiv (wrap64 ((wrap64 (a0 + a1)) - 1)) a1)))
set_option maxHeartbeats 8000000 in
set_option maxRecDepth 100000 in
theorem layout_up.calls (a0 : Int) (a1 : Int) (r : Int) (w : World) (h : layout_up.f a0 a1 = some r) :
    Calls Try.prog 28 #[.int .i64 a0, .int .i64 a1] w fun e w' => e = .returned (.int .i64 r) ∧ Drawn0 w w' := by
  have H : (if a1 = 0 then (none) else (some (wrap64 (Int.tdiv (wrap64 ((wrap64 (a0 + a1)) - 1)) a1)))) = some r := h
  clear h
  by_cases c3 : a1 = 0
  · rw [if_pos c3] at H
    exact absurd H (by simp)
  · rw [if_neg c3] at H
    have c3b0 : (a1 == 0) = false := beq_eq_false_iff_ne.mpr c3
    have c3b1 : (a1 != 0) = true := bne_iff_ne.mpr c3
    obtain rfl := Option.some.inj H
    go_enter Try.func28, Try.ntmps28
    go_wp2
    go_ret
    exact ⟨by first | rfl | (simp; done) | (simp [*]; done) | exact congrArg Value.bool (ne_empty _) | exact congrArg Value.bool (eq_empty _), by repeat (first | exact Drawn0.refl _ | apply Drawn0.step)⟩

/-! ### layout_Make: function 18 -/
def mkBlocks (r : Int) : Int := if r ≤ 4097 then 1 else (r + 4096) / 4097
theorem mkBlocks_ge (r : Int) : 1 ≤ mkBlocks r := by unfold mkBlocks; split <;> omega
theorem mkBlocks_le (r : Int) (h : r ≤ 70000) : mkBlocks r ≤ 20 := by unfold mkBlocks; split <;> omega
theorem mkBlocks_yes {r m : Int} (h1 : 1 ≤ m) (h : m < mkBlocks r) : 4096 * m < r - m := by unfold mkBlocks at h; split at h <;> omega
theorem mkBlocks_no {r : Int} : ¬ 4096 * mkBlocks r < r - mkBlocks r := by unfold mkBlocks; split <;> omega
theorem up_maps (i : Int) (h : 1 ≤ i ∧ i ≤ 4096) : layout_up.f i 4096 = some ((i + 4095) / 4096) := by
  unfold layout_up.f
  rw [if_neg (by omega)]
  congr 1
  unfold wrap64
  rw [Int.tdiv_eq_ediv_of_nonneg (by omega)]
  omega
theorem up_table (i : Int) (h : 1 ≤ i ∧ i ≤ 4096) : layout_up.f i 8 = some ((i + 7) / 8) := by
  unfold layout_up.f
  rw [if_neg (by omega)]
  congr 1
  unfold wrap64
  rw [Int.tdiv_eq_ediv_of_nonneg (by omega)]
  omega
def mkRest (n i : Int) : Int := n - 246 - (i + 4095) / 4096 - (i + 7) / 8
def layout_Make.f (a0 : Int) (a1 : Int) : Option (Int × Int × Int × Int × Int × Int × Int × Int) :=
  if a0 < 1 then some (0, 0, 0, 0, 0, 0, 0, 1) else if 65536 < a0 then some (0, 0, 0, 0, 0, 0, 0, 1) else if a1 < 1 then some (0, 0, 0, 0, 0, 0, 0, 1) else if 4096 < a1 then some (0, 0, 0, 0, 0, 0, 0, 1)
  else if mkRest a0 a1 - mkBlocks (mkRest a0 a1) < 1 then some (0, 0, 0, 0, 0, 0, 0, 3)
  else some (a0, a1, 246, 246 + (a1 + 4095) / 4096, 246 + (a1 + 4095) / 4096 + mkBlocks (mkRest a0 a1), 246 + (a1 + 4095) / 4096 + mkBlocks (mkRest a0 a1) + (a1 + 7) / 8, mkRest a0 a1 - mkBlocks (mkRest a0 a1), 0)
set_option maxHeartbeats 4000000 in
set_option maxRecDepth 100000 in
theorem layout_Make.bad0 (n i : Int) (w : World)  (h0 : n < 1) :
    Calls Try.prog 18 #[.int .i64 n, .int .i64 i] w fun e w' => e = .returned (.tuple #[.agg #[.int .i64 0, .int .i64 0, .int .i64 0, .int .i64 0, .int .i64 0, .int .i64 0, .int .i64 0], .int .i64 1]) ∧ Below w.heap.size w w' := by
  have HB := Aside0.mk (Below.refl w.heap.size w)
  have f0 : decide (n < 1) = true := decide_eq_true h0
  clear h0
  go_enter Try.func18, Try.ntmps18
  go_wp2
  refine bodyPost_ret (v := .tuple #[.agg #[.int .i64 0, .int .i64 0, .int .i64 0, .int .i64 0, .int .i64 0, .int .i64 0, .int .i64 0], .int .i64 1]) (by simp [results, Try.results18, go_sem]) rfl ⟨rfl, ?_⟩
  repeat (with_reducible first | exact HB.out | apply below_alloc | apply pw_below_drewN | (refine below_set ?_ (by first | exact Nat.le_refl _ | omega)))
set_option maxHeartbeats 4000000 in
set_option maxRecDepth 100000 in
theorem layout_Make.bad1 (n i : Int) (w : World) (h0 : ¬ n < 1) (h1 : 65536 < n) :
    Calls Try.prog 18 #[.int .i64 n, .int .i64 i] w fun e w' => e = .returned (.tuple #[.agg #[.int .i64 0, .int .i64 0, .int .i64 0, .int .i64 0, .int .i64 0, .int .i64 0, .int .i64 0], .int .i64 1]) ∧ Below w.heap.size w w' := by
  have HB := Aside0.mk (Below.refl w.heap.size w)
  have f0 : decide (n < 1) = false := decide_eq_false h0
  have f1 : decide (65536 < n) = true := decide_eq_true h1
  clear h0 h1
  go_enter Try.func18, Try.ntmps18
  go_wp2
  refine bodyPost_ret (v := .tuple #[.agg #[.int .i64 0, .int .i64 0, .int .i64 0, .int .i64 0, .int .i64 0, .int .i64 0, .int .i64 0], .int .i64 1]) (by simp [results, Try.results18, go_sem]) rfl ⟨rfl, ?_⟩
  repeat (with_reducible first | exact HB.out | apply below_alloc | apply pw_below_drewN | (refine below_set ?_ (by first | exact Nat.le_refl _ | omega)))
set_option maxHeartbeats 4000000 in
set_option maxRecDepth 100000 in
theorem layout_Make.bad2 (n i : Int) (w : World) (h0 : ¬ n < 1) (h1 : ¬ 65536 < n) (h2 : i < 1) :
    Calls Try.prog 18 #[.int .i64 n, .int .i64 i] w fun e w' => e = .returned (.tuple #[.agg #[.int .i64 0, .int .i64 0, .int .i64 0, .int .i64 0, .int .i64 0, .int .i64 0, .int .i64 0], .int .i64 1]) ∧ Below w.heap.size w w' := by
  have HB := Aside0.mk (Below.refl w.heap.size w)
  have f0 : decide (n < 1) = false := decide_eq_false h0
  have f1 : decide (65536 < n) = false := decide_eq_false h1
  have f2 : decide (i < 1) = true := decide_eq_true h2
  clear h0 h1 h2
  go_enter Try.func18, Try.ntmps18
  go_wp2
  refine bodyPost_ret (v := .tuple #[.agg #[.int .i64 0, .int .i64 0, .int .i64 0, .int .i64 0, .int .i64 0, .int .i64 0, .int .i64 0], .int .i64 1]) (by simp [results, Try.results18, go_sem]) rfl ⟨rfl, ?_⟩
  repeat (with_reducible first | exact HB.out | apply below_alloc | apply pw_below_drewN | (refine below_set ?_ (by first | exact Nat.le_refl _ | omega)))
set_option maxHeartbeats 4000000 in
set_option maxRecDepth 100000 in
theorem layout_Make.bad3 (n i : Int) (w : World) (h0 : ¬ n < 1) (h1 : ¬ 65536 < n) (h2 : ¬ i < 1) (h3 : 4096 < i) :
    Calls Try.prog 18 #[.int .i64 n, .int .i64 i] w fun e w' => e = .returned (.tuple #[.agg #[.int .i64 0, .int .i64 0, .int .i64 0, .int .i64 0, .int .i64 0, .int .i64 0, .int .i64 0], .int .i64 1]) ∧ Below w.heap.size w w' := by
  have HB := Aside0.mk (Below.refl w.heap.size w)
  have f0 : decide (n < 1) = false := decide_eq_false h0
  have f1 : decide (65536 < n) = false := decide_eq_false h1
  have f2 : decide (i < 1) = false := decide_eq_false h2
  have f3 : decide (4096 < i) = true := decide_eq_true h3
  clear h0 h1 h2 h3
  go_enter Try.func18, Try.ntmps18
  go_wp2
  refine bodyPost_ret (v := .tuple #[.agg #[.int .i64 0, .int .i64 0, .int .i64 0, .int .i64 0, .int .i64 0, .int .i64 0, .int .i64 0], .int .i64 1]) (by simp [results, Try.results18, go_sem]) rfl ⟨rfl, ?_⟩
  repeat (with_reducible first | exact HB.out | apply below_alloc | apply pw_below_drewN | (refine below_set ?_ (by first | exact Nat.le_refl _ | omega)))
set_option maxHeartbeats 4000000 in
set_option maxRecDepth 100000 in
theorem layout_Make.good (n i m t b : Int) (w : World) (hn : 1 ≤ n ∧ n ≤ 65536) (hi : 1 ≤ i ∧ i ≤ 4096) (hm : layout_up.f i 4096 = some m) (ht : layout_up.f i 8 = some t) (hmr : 1 ≤ m ∧ m ≤ 1) (htr : 1 ≤ t ∧ t ≤ 512) (hb : b = mkBlocks (n - 246 - m - t)) (hfull : ¬ n - 246 - m - t - b < 1) :
    Calls Try.prog 18 #[.int .i64 n, .int .i64 i] w fun e w' => e = .returned (.tuple #[.agg #[.int .i64 n, .int .i64 i, .int .i64 246, .int .i64 (246 + m), .int .i64 (246 + m + b), .int .i64 (246 + m + b + t), .int .i64 (n - 246 - m - t - b)], .int .i64 0]) ∧ Below w.heap.size w w' := by
  have HB := Aside0.mk (Below.refl w.heap.size w)
  have HM := Aside0.mk hm
  have HT := Aside0.mk ht
  have hb1 := mkBlocks_ge (n - 246 - m - t)
  have hb2 := mkBlocks_le (n - 246 - m - t) (by omega)
  have HBB := Aside0.mk hb
  rw [← hb] at hb1 hb2
  have f1 : decide (n < 1) = false := decide_eq_false (by omega)
  have f2 : decide (65536 < n) = false := decide_eq_false (by omega)
  have f3 : decide (i < 1) = false := decide_eq_false (by omega)
  have f4 : decide (4096 < i) = false := decide_eq_false (by omega)
  have f5 : decide (n - 246 - m - t - b < 1) = false := decide_eq_false hfull
  clear hm ht hb hfull
  go_enter Try.func18, Try.ntmps18
  go_wp2_with (first | (go_at_call 28; (with_reducible refine (layout_up.calls i 4096 m _ HM.out).mono ?_); rintro e w' ⟨rfl, ⟨nd, rfl⟩⟩) | (go_at_call 28; (with_reducible refine (layout_up.calls i 8 t _ HT.out).mono ?_); rintro e w' ⟨rfl, ⟨nd2, rfl⟩⟩))
  go_loop [9] (fun v => ∃ q : Int, 1 ≤ q ∧ q ≤ b ∧ v = .int .i64 q) (fun v => (b - intOf v).toNat)
  case atStart => exact ⟨1, by omega, by omega, rfl⟩
  case round =>
    obtain ⟨q, hq1, hq2, rfl⟩ := hrel
    by_cases c : q < b
    · have c1 : decide (4096 * q < n - 246 - m - t - q) = true := decide_eq_true (mkBlocks_yes hq1 (by rw [← HBB.out]; exact c))
      go_wp2
      go_round
      case rel => exact ⟨q + 1, by omega, by omega, by go_num⟩
      case measure => simp [intOf]; omega
    · obtain rfl : q = b := by omega
      have c1 : decide (4096 * q < n - 246 - m - t - q) = false := decide_eq_false (by rw [HBB.out]; exact mkBlocks_no)
      go_wp2
      refine wp_loop_rounds 5 ?_
      rw [rounds_succ]
      go_wp2
      rw [rounds_succ]
      go_wp2
      rw [rounds_succ]
      go_wp2
      rw [rounds_succ]
      go_wp2
      rw [rounds_succ]
      go_wp2
      refine bodyPost_ret (v := .tuple #[.agg #[.int .i64 n, .int .i64 i, .int .i64 246, .int .i64 (246 + m), .int .i64 (246 + m + q), .int .i64 (246 + m + q + t), .int .i64 (n - 246 - m - t - q)], .int .i64 0]) (by simp [results, Try.results18, go_sem]) rfl ⟨rfl, ?_⟩
      repeat (with_reducible first | exact HB.out | apply below_alloc | apply pw_below_drewN | (refine below_set ?_ (by first | exact Nat.le_refl _ | omega)))
set_option maxHeartbeats 4000000 in
set_option maxRecDepth 100000 in
theorem layout_Make.full (n i m t b : Int) (w : World) (hn : 1 ≤ n ∧ n ≤ 65536) (hi : 1 ≤ i ∧ i ≤ 4096) (hm : layout_up.f i 4096 = some m) (ht : layout_up.f i 8 = some t) (hmr : 1 ≤ m ∧ m ≤ 1) (htr : 1 ≤ t ∧ t ≤ 512) (hb : b = mkBlocks (n - 246 - m - t)) (hfull : n - 246 - m - t - b < 1) :
    Calls Try.prog 18 #[.int .i64 n, .int .i64 i] w fun e w' => e = .returned (.tuple #[.agg #[.int .i64 0, .int .i64 0, .int .i64 0, .int .i64 0, .int .i64 0, .int .i64 0, .int .i64 0], .int .i64 3]) ∧ Below w.heap.size w w' := by
  have HB := Aside0.mk (Below.refl w.heap.size w)
  have HM := Aside0.mk hm
  have HT := Aside0.mk ht
  have hb1 := mkBlocks_ge (n - 246 - m - t)
  have hb2 := mkBlocks_le (n - 246 - m - t) (by omega)
  have HBB := Aside0.mk hb
  rw [← hb] at hb1 hb2
  have f1 : decide (n < 1) = false := decide_eq_false (by omega)
  have f2 : decide (65536 < n) = false := decide_eq_false (by omega)
  have f3 : decide (i < 1) = false := decide_eq_false (by omega)
  have f4 : decide (4096 < i) = false := decide_eq_false (by omega)
  have f5 : decide (n - 246 - m - t - b < 1) = true := decide_eq_true hfull
  clear hm ht hb hfull
  go_enter Try.func18, Try.ntmps18
  go_wp2_with (first | (go_at_call 28; (with_reducible refine (layout_up.calls i 4096 m _ HM.out).mono ?_); rintro e w' ⟨rfl, ⟨nd, rfl⟩⟩) | (go_at_call 28; (with_reducible refine (layout_up.calls i 8 t _ HT.out).mono ?_); rintro e w' ⟨rfl, ⟨nd2, rfl⟩⟩))
  go_loop [9] (fun v => ∃ q : Int, 1 ≤ q ∧ q ≤ b ∧ v = .int .i64 q) (fun v => (b - intOf v).toNat)
  case atStart => exact ⟨1, by omega, by omega, rfl⟩
  case round =>
    obtain ⟨q, hq1, hq2, rfl⟩ := hrel
    by_cases c : q < b
    · have c1 : decide (4096 * q < n - 246 - m - t - q) = true := decide_eq_true (mkBlocks_yes hq1 (by rw [← HBB.out]; exact c))
      go_wp2
      go_round
      case rel => exact ⟨q + 1, by omega, by omega, by go_num⟩
      case measure => simp [intOf]; omega
    · obtain rfl : q = b := by omega
      have c1 : decide (4096 * q < n - 246 - m - t - q) = false := decide_eq_false (by rw [HBB.out]; exact mkBlocks_no)
      go_wp2
      refine bodyPost_ret (v := .tuple #[.agg #[.int .i64 0, .int .i64 0, .int .i64 0, .int .i64 0, .int .i64 0, .int .i64 0, .int .i64 0], .int .i64 3]) (by simp [results, Try.results18, go_sem]) rfl ⟨rfl, ?_⟩
      repeat (with_reducible first | exact HB.out | apply below_alloc | apply pw_below_drewN | (refine below_set ?_ (by first | exact Nat.le_refl _ | omega)))
theorem layout_Make.calls (a0 : Int) (a1 : Int) (r1 r2 r3 r4 r5 r6 r7 r8 : Int) (w : World) (h : layout_Make.f a0 a1 = some (r1, r2, r3, r4, r5, r6, r7, r8)) :
    Calls Try.prog 18 #[.int .i64 a0, .int .i64 a1] w fun e w' => e = .returned (.tuple #[.agg #[.int .i64 r1, .int .i64 r2, .int .i64 r3, .int .i64 r4, .int .i64 r5, .int .i64 r6, .int .i64 r7], .int .i64 r8]) ∧ Below w.heap.size w w' := by
  unfold layout_Make.f at h
  by_cases c1 : a0 < 1
  · rw [if_pos c1] at h
    simp only [Option.some.injEq, Prod.mk.injEq] at h
    obtain ⟨rfl, rfl, rfl, rfl, rfl, rfl, rfl, rfl⟩ := h
    exact layout_Make.bad0 a0 a1 w c1
  rw [if_neg c1] at h
  by_cases c2 : 65536 < a0
  · rw [if_pos c2] at h
    simp only [Option.some.injEq, Prod.mk.injEq] at h
    obtain ⟨rfl, rfl, rfl, rfl, rfl, rfl, rfl, rfl⟩ := h
    exact layout_Make.bad1 a0 a1 w c1 c2
  rw [if_neg c2] at h
  by_cases c3 : a1 < 1
  · rw [if_pos c3] at h
    simp only [Option.some.injEq, Prod.mk.injEq] at h
    obtain ⟨rfl, rfl, rfl, rfl, rfl, rfl, rfl, rfl⟩ := h
    exact layout_Make.bad2 a0 a1 w c1 c2 c3
  rw [if_neg c3] at h
  by_cases c4 : 4096 < a1
  · rw [if_pos c4] at h
    simp only [Option.some.injEq, Prod.mk.injEq] at h
    obtain ⟨rfl, rfl, rfl, rfl, rfl, rfl, rfl, rfl⟩ := h
    exact layout_Make.bad3 a0 a1 w c1 c2 c3 c4
  rw [if_neg c4] at h
  by_cases c5 : mkRest a0 a1 - mkBlocks (mkRest a0 a1) < 1
  · rw [if_pos c5] at h
    simp only [Option.some.injEq, Prod.mk.injEq] at h
    obtain ⟨rfl, rfl, rfl, rfl, rfl, rfl, rfl, rfl⟩ := h
    exact layout_Make.full a0 a1 _ _ _ w (by omega) (by omega) (up_maps a1 (by omega)) (up_table a1 (by omega)) (by omega) (by omega) rfl c5
  · rw [if_neg c5] at h
    simp only [Option.some.injEq, Prod.mk.injEq] at h
    obtain ⟨rfl, rfl, rfl, rfl, rfl, rfl, rfl, rfl⟩ := h
    exact layout_Make.good a0 a1 _ _ _ w (by omega) (by omega) (up_maps a1 (by omega)) (up_table a1 (by omega)) (by omega) (by omega) rfl c5

/-! ### bollardlaw6_awake: function 20 -/
def bollardlaw6_awake.f  : Option (Bool) := (layout_Make.f 1000 64).bind fun bt101 => (if bt101.2.2.2.2.2.2.2 = 0 then (some (bt101.1 == 1000 && (bt101.2.1 == 64 && (bt101.2.2.1 == 246 && (bt101.2.2.2.1 == 247 && (bt101.2.2.2.2.1 == 248 && (bt101.2.2.2.2.2.1 == 256 && (bt101.2.2.2.2.2.2.1 == 744)))))))) else (some false))
set_option maxHeartbeats 8000000 in
set_option maxRecDepth 100000 in
theorem bollardlaw6_awake.calls  (r : Bool) (w : World) (h : bollardlaw6_awake.f  = some r) :
    Calls Try.prog 20 #[] w fun e w' => e = .returned (.bool r) ∧ Below w.heap.size w w' := by
  have hu32 := Try.underlying32
  have HB := Aside0.mk (Below.refl w.heap.size w)
  have H : ((layout_Make.f 1000 64).bind fun bt101 => (if bt101.2.2.2.2.2.2.2 = 0 then (some (bt101.1 == 1000 && (bt101.2.1 == 64 && (bt101.2.2.1 == 246 && (bt101.2.2.2.1 == 247 && (bt101.2.2.2.2.1 == 248 && (bt101.2.2.2.2.2.1 == 256 && (bt101.2.2.2.2.2.2.1 == 744)))))))) else (some false))) = some r := h
  clear h
  replace H := Option.bind_eq_some_iff.mp H
  obtain ⟨⟨t101, t102, t103, t104, t105, t106, t107, t108⟩, A10, H⟩ := H
  replace H : (if t108 = 0 then (some (t101 == 1000 && (t102 == 64 && (t103 == 246 && (t104 == 247 && (t105 == 248 && (t106 == 256 && (t107 == 744)))))))) else (some false)) = some r := H
  have A1 := Aside0.mk A10
  clear A10
  by_cases c2 : t108 = 0
  · rw [if_pos c2] at H
    have c2b0 : (t108 == 0) = true := beq_iff_eq.mpr c2
    have c2b1 : (t108 != 0) = false := bne_eq_false_iff_eq.mpr c2
    clear c2
    obtain rfl := Option.some.inj H
    go_enter Try.func20, Try.ntmps20
    go_wp2_with (first | ((with_reducible refine gate_callee (f := 18) rfl ?_); refine goesL_ (some 4) rfl rfl Try.func18 (by kernel_rfl) rfl #[.int .i64 1000, .int .i64 64] rfl (by (try simp only [List.map_toArray, List.map_cons, List.map_nil]); first | done | rfl | (simp only [List.length_drop, List.length_take]; rfl)) ?_; (with_reducible refine (layout_Make.calls 1000 64 t101 t102 t103 t104 t105 t106 t107 t108 _ A1.out).mono ?_); rintro e w3 ⟨rfl, hb⟩; refine ⟨_, rfl, ?_⟩; have n0_ := Aside0.mk (below_step (by repeat (first | (with_reducible first | exact HB.out | apply below_alloc | apply pw_below_drewN | apply below_drew1) | exact HB.out)) hb); clear HB; have HB := n0_; clear n0_; (try clear hb); (try clear hb2); (try clear hk); (try clear hi)) | ((with_reducible refine gate_dst (N := 1) rfl ?_); refine box_event ?hg (N := 1) ?hd (cs := #[.int .i64 0, .int .i64 0, .int .i64 0, .int .i64 0, .int .i64 0, .int .i64 0, .int .i64 0]) (t := 32) ?hr ?_; (case hd => rfl); (case hg => rfl); (case hr => first | (go_simp; done) | (go_simp; rfl)); intro gb109 hg w4 hbox hb; have n0_ := Aside0.mk (below_step (by repeat (first | (with_reducible first | exact HB.out | apply below_alloc | apply pw_below_drewN | apply below_drew1) | exact HB.out)) hb); have n1_ := Aside0.mk (hbox); have n2_ := Aside0.mk ((by rw [hg]; exact (below_size (by repeat (first | (with_reducible first | exact HB.out | apply below_alloc | apply pw_below_drewN | apply below_drew1) | exact HB.out))) : w.heap.size ≤ gb109)); have n3_ := Aside0.mk ((by rw [hg]; exact (below_size (by repeat (first | (with_reducible first | exact HB.out | apply below_alloc | apply pw_below_drewN | apply below_drew1) | exact HB.out))) : w.heap.size ≤ gb109)); clear HB; have HB := n0_; have BK109 := n1_; have GW109 := n2_; have GE109 := n3_; clear n0_ n1_ n2_ n3_; clear hb hbox hg; have hcz5_0 : w4.cell? ⟨gb109, 0, none⟩ = some (.int .i64 0) := (blk_cell BK109.out 0).trans rfl; have hcz5_1 : w4.cell? ⟨gb109, 1, none⟩ = some (.int .i64 0) := (blk_cell BK109.out 1).trans rfl; have hcz5_2 : w4.cell? ⟨gb109, 2, none⟩ = some (.int .i64 0) := (blk_cell BK109.out 2).trans rfl; have hcz5_3 : w4.cell? ⟨gb109, 3, none⟩ = some (.int .i64 0) := (blk_cell BK109.out 3).trans rfl; have hcz5_4 : w4.cell? ⟨gb109, 4, none⟩ = some (.int .i64 0) := (blk_cell BK109.out 4).trans rfl; have hcz5_5 : w4.cell? ⟨gb109, 5, none⟩ = some (.int .i64 0) := (blk_cell BK109.out 5).trans rfl; have hcz5_6 : w4.cell? ⟨gb109, 6, none⟩ = some (.int .i64 0) := (blk_cell BK109.out 6).trans rfl; have hfz5_0 := blk_frozen BK109.out 0; have hfz5_1 := blk_frozen BK109.out 1; have hfz5_2 := blk_frozen BK109.out 2; have hfz5_3 := blk_frozen BK109.out 3; have hfz5_4 := blk_frozen BK109.out 4; have hfz5_5 := blk_frozen BK109.out 5; have hfz5_6 := blk_frozen BK109.out 6))
    go_ret
    exact ⟨by first | rfl | (simp [errW_none, errW_some] <;> rfl) | (simp [*, errW_none, errW_some] <;> rfl), by repeat (first | (with_reducible first | exact HB.out | apply below_alloc | apply pw_below_drewN | apply below_drew1 | refine below_set ?_ GE109.out) | exact HB.out)⟩
  · rw [if_neg c2] at H
    have c2b0 : (t108 == 0) = false := beq_eq_false_iff_ne.mpr c2
    have c2b1 : (t108 != 0) = true := bne_iff_ne.mpr c2
    obtain rfl := Option.some.inj H
    go_enter Try.func20, Try.ntmps20
    go_wp2_with (first | ((with_reducible refine gate_callee (f := 18) rfl ?_); refine goesL_ (some 4) rfl rfl Try.func18 (by kernel_rfl) rfl #[.int .i64 1000, .int .i64 64] rfl (by (try simp only [List.map_toArray, List.map_cons, List.map_nil]); first | done | rfl | (simp only [List.length_drop, List.length_take]; rfl)) ?_; (with_reducible refine (layout_Make.calls 1000 64 t101 t102 t103 t104 t105 t106 t107 t108 _ A1.out).mono ?_); rintro e w6 ⟨rfl, hb⟩; refine ⟨_, rfl, ?_⟩; have n0_ := Aside0.mk (below_step (by repeat (first | (with_reducible first | exact HB.out | apply below_alloc | apply pw_below_drewN | apply below_drew1) | exact HB.out)) hb); clear HB; have HB := n0_; clear n0_; (try clear hb); (try clear hb2); (try clear hk); (try clear hi)) | ((with_reducible refine gate_dst (N := 1) rfl ?_); refine box_event ?hg (N := 1) ?hd (cs := #[.int .i64 0, .int .i64 0, .int .i64 0, .int .i64 0, .int .i64 0, .int .i64 0, .int .i64 0]) (t := 32) ?hr ?_; (case hd => rfl); (case hg => rfl); (case hr => first | (go_simp; done) | (go_simp; rfl)); intro gb109 hg w7 hbox hb; have n0_ := Aside0.mk (below_step (by repeat (first | (with_reducible first | exact HB.out | apply below_alloc | apply pw_below_drewN | apply below_drew1) | exact HB.out)) hb); have n1_ := Aside0.mk (hbox); have n2_ := Aside0.mk ((by rw [hg]; exact (below_size (by repeat (first | (with_reducible first | exact HB.out | apply below_alloc | apply pw_below_drewN | apply below_drew1) | exact HB.out))) : w.heap.size ≤ gb109)); have n3_ := Aside0.mk ((by rw [hg]; exact (below_size (by repeat (first | (with_reducible first | exact HB.out | apply below_alloc | apply pw_below_drewN | apply below_drew1) | exact HB.out))) : w.heap.size ≤ gb109)); clear HB; have HB := n0_; have BK109 := n1_; have GW109 := n2_; have GE109 := n3_; clear n0_ n1_ n2_ n3_; clear hb hbox hg; have hcz8_0 : w7.cell? ⟨gb109, 0, none⟩ = some (.int .i64 0) := (blk_cell BK109.out 0).trans rfl; have hcz8_1 : w7.cell? ⟨gb109, 1, none⟩ = some (.int .i64 0) := (blk_cell BK109.out 1).trans rfl; have hcz8_2 : w7.cell? ⟨gb109, 2, none⟩ = some (.int .i64 0) := (blk_cell BK109.out 2).trans rfl; have hcz8_3 : w7.cell? ⟨gb109, 3, none⟩ = some (.int .i64 0) := (blk_cell BK109.out 3).trans rfl; have hcz8_4 : w7.cell? ⟨gb109, 4, none⟩ = some (.int .i64 0) := (blk_cell BK109.out 4).trans rfl; have hcz8_5 : w7.cell? ⟨gb109, 5, none⟩ = some (.int .i64 0) := (blk_cell BK109.out 5).trans rfl; have hcz8_6 : w7.cell? ⟨gb109, 6, none⟩ = some (.int .i64 0) := (blk_cell BK109.out 6).trans rfl; have hfz8_0 := blk_frozen BK109.out 0; have hfz8_1 := blk_frozen BK109.out 1; have hfz8_2 := blk_frozen BK109.out 2; have hfz8_3 := blk_frozen BK109.out 3; have hfz8_4 := blk_frozen BK109.out 4; have hfz8_5 := blk_frozen BK109.out 5; have hfz8_6 := blk_frozen BK109.out 6))
    go_ret
    exact ⟨by first | rfl | (simp [errW_none, errW_some] <;> rfl) | (simp [*, errW_none, errW_some] <;> rfl), by repeat (first | (with_reducible first | exact HB.out | apply below_alloc | apply pw_below_drewN | apply below_drew1 | refine below_set ?_ GE109.out) | exact HB.out)⟩

set_option maxHeartbeats 40000000 in
set_option maxRecDepth 100000 in
theorem layareas_none (n i r1 r2 r3 r4 r5 r6 r7 r8 : Int) (w : World) (HM : Aside0 (layout_Make.f n i = some (r1, r2, r3, r4, r5, r6, r7, r8))) (r : Bool) (HA : Aside0 (bollardlaw6_awake.f = some r)) (h0 : (r8 != 0) = true) :
    Calls Try.prog 8 #[.int .i64 n, .int .i64 i] w fun e w' => e = .returned (.bool r) ∧ Below w.heap.size w w' := by
  go_enter Try.func8, Try.ntmps8
  simp only [List.append_eq, List.cons_append, List.nil_append]
  go_wp2_with fail
  refine (layout_Make.calls n i r1 r2 r3 r4 r5 r6 r7 r8 _ HM.out).mono ?_
  rintro e' w1 ⟨rfl, hb1⟩
  have HB1 := Aside0.mk hb1
  clear hb1
  go_wp2_with fail
  refine (bollardlaw6_awake.calls r _ HA.out).mono ?_
  rintro e w9 ⟨rfl, hb9⟩
  have HB9 := Aside0.mk (below_step (show Below w.heap.size w (w1.alloc (.cells #[.int .i64 r1, .int .i64 r2, .int .i64 r3, .int .i64 r4, .int .i64 r5, .int .i64 r6, .int .i64 r7] 32)) from below_alloc HB1.out _) hb9)
  clear hb9
  go_wp2
  go_ret
  exact ⟨rfl, HB9.out⟩

set_option maxHeartbeats 40000000 in
set_option maxRecDepth 100000 in
theorem layareas_one (n i r1 r2 r3 r4 r5 r6 r7 : Int) (w : World) (HM : Aside0 (layout_Make.f n i = some (r1, r2, r3, r4, r5, r6, r7, 0))) (r : Bool) (HA : Aside0 (bollardlaw6_awake.f = some r)) (h0 : (r3 == 246) = true) (h1 : decide (i ≤ (wrap64 ((wrap64 (r4 - r3)) * 4096))) = true) (h2 : decide ((wrap64 ((wrap64 ((wrap64 (r4 - r3)) - 1)) * 4096)) < i) = true) (h3 : decide (1 ≤ (wrap64 (r5 - r4))) = true) (h4 : decide (r7 ≤ (wrap64 ((wrap64 (r5 - r4)) * 4096))) = true) (h5 : decide (i ≤ (wrap64 ((wrap64 (r6 - r5)) * 8))) = true) (h6 : decide ((wrap64 ((wrap64 ((wrap64 (r6 - r5)) - 1)) * 8)) < i) = true) (h7 : ((wrap64 (r6 + r7)) == n) = true) (h8 : decide (0 < r7) = true) (h9 : ((wrap64 (r5 - r4)) == 1) = true) :
    Calls Try.prog 8 #[.int .i64 n, .int .i64 i] w fun e w' => e = .returned (.bool r) ∧ Below w.heap.size w w' := by
  have H0 := Aside0.mk h0
  have H1 := Aside0.mk h1
  have H2 := Aside0.mk h2
  have H3 := Aside0.mk h3
  have H4 := Aside0.mk h4
  have H5 := Aside0.mk h5
  have H6 := Aside0.mk h6
  have H7 := Aside0.mk h7
  have H8 := Aside0.mk h8
  have H9 := Aside0.mk h9
  clear h0 h1 h2 h3 h4 h5 h6 h7 h8 h9
  go_enter Try.func8, Try.ntmps8
  simp only [List.append_eq, List.cons_append, List.nil_append]
  go_wp2_with fail
  refine (layout_Make.calls n i r1 r2 r3 r4 r5 r6 r7 0 _ HM.out).mono ?_
  rintro e' w1 ⟨rfl, hb1⟩
  have HB1 := Aside0.mk hb1
  clear hb1
  have e1 : (w1.alloc (.cells #[.int .i64 r1, .int .i64 r2, .int .i64 r3, .int .i64 r4, .int .i64 r5, .int .i64 r6, .int .i64 r7] 32)).heap[w1.heap.size]? = some (.cells #[.int .i64 r1, .int .i64 r2, .int .i64 r3, .int .i64 r4, .int .i64 r5, .int .i64 r6, .int .i64 r7] 32) := heap_alloc_new w1 _
  have u0 : (w1.alloc (.cells #[.int .i64 r1, .int .i64 r2, .int .i64 r3, .int .i64 r4, .int .i64 r5, .int .i64 r6, .int .i64 r7] 32)).cell? ⟨w1.heap.size, 0, none⟩ = some (.int .i64 r1) := (blk_cell e1 0).trans rfl
  have u1 : (w1.alloc (.cells #[.int .i64 r1, .int .i64 r2, .int .i64 r3, .int .i64 r4, .int .i64 r5, .int .i64 r6, .int .i64 r7] 32)).cell? ⟨w1.heap.size, 1, none⟩ = some (.int .i64 r2) := (blk_cell e1 1).trans rfl
  have u2 : (w1.alloc (.cells #[.int .i64 r1, .int .i64 r2, .int .i64 r3, .int .i64 r4, .int .i64 r5, .int .i64 r6, .int .i64 r7] 32)).cell? ⟨w1.heap.size, 2, none⟩ = some (.int .i64 r3) := (blk_cell e1 2).trans rfl
  have u3 : (w1.alloc (.cells #[.int .i64 r1, .int .i64 r2, .int .i64 r3, .int .i64 r4, .int .i64 r5, .int .i64 r6, .int .i64 r7] 32)).cell? ⟨w1.heap.size, 3, none⟩ = some (.int .i64 r4) := (blk_cell e1 3).trans rfl
  have u4 : (w1.alloc (.cells #[.int .i64 r1, .int .i64 r2, .int .i64 r3, .int .i64 r4, .int .i64 r5, .int .i64 r6, .int .i64 r7] 32)).cell? ⟨w1.heap.size, 4, none⟩ = some (.int .i64 r5) := (blk_cell e1 4).trans rfl
  have u5 : (w1.alloc (.cells #[.int .i64 r1, .int .i64 r2, .int .i64 r3, .int .i64 r4, .int .i64 r5, .int .i64 r6, .int .i64 r7] 32)).cell? ⟨w1.heap.size, 5, none⟩ = some (.int .i64 r6) := (blk_cell e1 5).trans rfl
  have u6 : (w1.alloc (.cells #[.int .i64 r1, .int .i64 r2, .int .i64 r3, .int .i64 r4, .int .i64 r5, .int .i64 r6, .int .i64 r7] 32)).cell? ⟨w1.heap.size, 6, none⟩ = some (.int .i64 r7) := (blk_cell e1 6).trans rfl
  clear e1
  have h0 := H0.out
  have h1 := H1.out
  have h2 := H2.out
  have h3 := H3.out
  have h4 := H4.out
  have h5 := H5.out
  have h6 := H6.out
  have h7 := H7.out
  have h8 := H8.out
  have h9 := H9.out
  clear H0 H1 H2 H3 H4 H5 H6 H7 H8 H9
  go_wp2_with fail
  refine (bollardlaw6_awake.calls r _ HA.out).mono ?_
  rintro e w9 ⟨rfl, hb9⟩
  have HB9 := Aside0.mk (below_step (show Below w.heap.size w (w1.alloc (.cells #[.int .i64 r1, .int .i64 r2, .int .i64 r3, .int .i64 r4, .int .i64 r5, .int .i64 r6, .int .i64 r7] 32)) from below_alloc HB1.out _) hb9)
  clear hb9
  go_wp2
  go_ret
  exact ⟨rfl, HB9.out⟩

set_option maxHeartbeats 40000000 in
set_option maxRecDepth 100000 in
theorem layareas_two (n i r1 r2 r3 r4 r5 r6 r7 : Int) (w : World) (HM : Aside0 (layout_Make.f n i = some (r1, r2, r3, r4, r5, r6, r7, 0))) (r : Bool) (HA : Aside0 (bollardlaw6_awake.f = some r)) (h0 : (r3 == 246) = true) (h1 : decide (i ≤ (wrap64 ((wrap64 (r4 - r3)) * 4096))) = true) (h2 : decide ((wrap64 ((wrap64 ((wrap64 (r4 - r3)) - 1)) * 4096)) < i) = true) (h3 : decide (1 ≤ (wrap64 (r5 - r4))) = true) (h4 : decide (r7 ≤ (wrap64 ((wrap64 (r5 - r4)) * 4096))) = true) (h5 : decide (i ≤ (wrap64 ((wrap64 (r6 - r5)) * 8))) = true) (h6 : decide ((wrap64 ((wrap64 ((wrap64 (r6 - r5)) - 1)) * 8)) < i) = true) (h7 : ((wrap64 (r6 + r7)) == n) = true) (h8 : decide (0 < r7) = true) (h9 : ((wrap64 (r5 - r4)) == 1) = false) (h10 : decide ((wrap64 ((wrap64 ((wrap64 (r5 - r4)) - 1)) * 4096)) < (wrap64 (r7 + 1))) = true) :
    Calls Try.prog 8 #[.int .i64 n, .int .i64 i] w fun e w' => e = .returned (.bool r) ∧ Below w.heap.size w w' := by
  have H0 := Aside0.mk h0
  have H1 := Aside0.mk h1
  have H2 := Aside0.mk h2
  have H3 := Aside0.mk h3
  have H4 := Aside0.mk h4
  have H5 := Aside0.mk h5
  have H6 := Aside0.mk h6
  have H7 := Aside0.mk h7
  have H8 := Aside0.mk h8
  have H9 := Aside0.mk h9
  have H10 := Aside0.mk h10
  clear h0 h1 h2 h3 h4 h5 h6 h7 h8 h9 h10
  go_enter Try.func8, Try.ntmps8
  simp only [List.append_eq, List.cons_append, List.nil_append]
  go_wp2_with fail
  refine (layout_Make.calls n i r1 r2 r3 r4 r5 r6 r7 0 _ HM.out).mono ?_
  rintro e' w1 ⟨rfl, hb1⟩
  have HB1 := Aside0.mk hb1
  clear hb1
  have e1 : (w1.alloc (.cells #[.int .i64 r1, .int .i64 r2, .int .i64 r3, .int .i64 r4, .int .i64 r5, .int .i64 r6, .int .i64 r7] 32)).heap[w1.heap.size]? = some (.cells #[.int .i64 r1, .int .i64 r2, .int .i64 r3, .int .i64 r4, .int .i64 r5, .int .i64 r6, .int .i64 r7] 32) := heap_alloc_new w1 _
  have u0 : (w1.alloc (.cells #[.int .i64 r1, .int .i64 r2, .int .i64 r3, .int .i64 r4, .int .i64 r5, .int .i64 r6, .int .i64 r7] 32)).cell? ⟨w1.heap.size, 0, none⟩ = some (.int .i64 r1) := (blk_cell e1 0).trans rfl
  have u1 : (w1.alloc (.cells #[.int .i64 r1, .int .i64 r2, .int .i64 r3, .int .i64 r4, .int .i64 r5, .int .i64 r6, .int .i64 r7] 32)).cell? ⟨w1.heap.size, 1, none⟩ = some (.int .i64 r2) := (blk_cell e1 1).trans rfl
  have u2 : (w1.alloc (.cells #[.int .i64 r1, .int .i64 r2, .int .i64 r3, .int .i64 r4, .int .i64 r5, .int .i64 r6, .int .i64 r7] 32)).cell? ⟨w1.heap.size, 2, none⟩ = some (.int .i64 r3) := (blk_cell e1 2).trans rfl
  have u3 : (w1.alloc (.cells #[.int .i64 r1, .int .i64 r2, .int .i64 r3, .int .i64 r4, .int .i64 r5, .int .i64 r6, .int .i64 r7] 32)).cell? ⟨w1.heap.size, 3, none⟩ = some (.int .i64 r4) := (blk_cell e1 3).trans rfl
  have u4 : (w1.alloc (.cells #[.int .i64 r1, .int .i64 r2, .int .i64 r3, .int .i64 r4, .int .i64 r5, .int .i64 r6, .int .i64 r7] 32)).cell? ⟨w1.heap.size, 4, none⟩ = some (.int .i64 r5) := (blk_cell e1 4).trans rfl
  have u5 : (w1.alloc (.cells #[.int .i64 r1, .int .i64 r2, .int .i64 r3, .int .i64 r4, .int .i64 r5, .int .i64 r6, .int .i64 r7] 32)).cell? ⟨w1.heap.size, 5, none⟩ = some (.int .i64 r6) := (blk_cell e1 5).trans rfl
  have u6 : (w1.alloc (.cells #[.int .i64 r1, .int .i64 r2, .int .i64 r3, .int .i64 r4, .int .i64 r5, .int .i64 r6, .int .i64 r7] 32)).cell? ⟨w1.heap.size, 6, none⟩ = some (.int .i64 r7) := (blk_cell e1 6).trans rfl
  clear e1
  have h0 := H0.out
  have h1 := H1.out
  have h2 := H2.out
  have h3 := H3.out
  have h4 := H4.out
  have h5 := H5.out
  have h6 := H6.out
  have h7 := H7.out
  have h8 := H8.out
  have h9 := H9.out
  have h10 := H10.out
  clear H0 H1 H2 H3 H4 H5 H6 H7 H8 H9 H10
  go_wp2_with fail
  refine (bollardlaw6_awake.calls r _ HA.out).mono ?_
  rintro e w9 ⟨rfl, hb9⟩
  have HB9 := Aside0.mk (below_step (show Below w.heap.size w (w1.alloc (.cells #[.int .i64 r1, .int .i64 r2, .int .i64 r3, .int .i64 r4, .int .i64 r5, .int .i64 r6, .int .i64 r7] 32)) from below_alloc HB1.out _) hb9)
  clear hb9
  go_wp2
  go_ret
  exact ⟨rfl, HB9.out⟩

/-! ### bollardlaw6_LayoutAreas -/
def bollardlaw6_LayoutAreas.ok (n i r3 r4 r5 r6 r7 : Int) : Prop := (((r3 == 246) = true) ∧ (decide (i ≤ (wrap64 ((wrap64 (r4 - r3)) * 4096))) = true) ∧ (decide ((wrap64 ((wrap64 ((wrap64 (r4 - r3)) - 1)) * 4096)) < i) = true) ∧ (decide (1 ≤ (wrap64 (r5 - r4))) = true) ∧ (decide (r7 ≤ (wrap64 ((wrap64 (r5 - r4)) * 4096))) = true) ∧ (decide (i ≤ (wrap64 ((wrap64 (r6 - r5)) * 8))) = true) ∧ (decide ((wrap64 ((wrap64 ((wrap64 (r6 - r5)) - 1)) * 8)) < i) = true) ∧ (((wrap64 (r6 + r7)) == n) = true) ∧ (decide (0 < r7) = true)) ∧ ((((wrap64 (r5 - r4)) == 1) = true) ∨ ((((wrap64 (r5 - r4)) == 1) = false) ∧ (decide ((wrap64 ((wrap64 ((wrap64 (r5 - r4)) - 1)) * 4096)) < (wrap64 (r7 + 1))) = true)))
instance (n i r3 r4 r5 r6 r7 : Int) : Decidable (bollardlaw6_LayoutAreas.ok n i r3 r4 r5 r6 r7) := by unfold bollardlaw6_LayoutAreas.ok; infer_instance
def bollardlaw6_LayoutAreas.f (n i : Int) : Option Bool := (layout_Make.f n i).bind fun m => if m.2.2.2.2.2.2.2 = 0 then (if bollardlaw6_LayoutAreas.ok n i m.2.2.1 m.2.2.2.1 m.2.2.2.2.1 m.2.2.2.2.2.1 m.2.2.2.2.2.2.1 then bollardlaw6_awake.f else none) else bollardlaw6_awake.f
theorem bollardlaw6_LayoutAreas.calls (a0 a1 : Int) (r : Bool) (w : World) (h : bollardlaw6_LayoutAreas.f a0 a1 = some r) :
    Calls Try.prog 8 #[.int .i64 a0, .int .i64 a1] w fun e w' => e = .returned (.bool r) ∧ Below w.heap.size w w' := by
  unfold bollardlaw6_LayoutAreas.f at h
  obtain ⟨⟨r1, r2, r3, r4, r5, r6, r7, r8⟩, hM, g⟩ := Option.bind_eq_some_iff.mp h
  clear h
  dsimp only at g
  by_cases c : r8 = 0
  · subst c
    rw [if_pos rfl] at g
    by_cases c2 : bollardlaw6_LayoutAreas.ok a0 a1 r3 r4 r5 r6 r7
    · rw [if_pos c2] at g
      obtain ⟨⟨h0, h1, h2, h3, h4, h5, h6, h7, h8⟩, h | ⟨g0, g1⟩⟩ := c2
      · exact layareas_one a0 a1 r1 r2 r3 r4 r5 r6 r7 w ⟨hM⟩ r ⟨g⟩ h0 h1 h2 h3 h4 h5 h6 h7 h8 h
      · exact layareas_two a0 a1 r1 r2 r3 r4 r5 r6 r7 w ⟨hM⟩ r ⟨g⟩ h0 h1 h2 h3 h4 h5 h6 h7 h8 g0 g1
    · rw [if_neg c2] at g; cases g
  · rw [if_neg c] at g
    exact layareas_none a0 a1 r1 r2 r3 r4 r5 r6 r7 r8 w ⟨hM⟩ r ⟨g⟩ (bne_iff_ne.mpr c)

/-- THE ONE PURE STATEMENT of bollardlaw6_LayoutAreas: mine. -/
def bollardlaw6_LayoutAreas.Pure : Prop := ∀ (a0 : Int) (a1 : Int), (Lit.int .i64 a0).wf = true → (Lit.int .i64 a1).wf = true → bollardlaw6_LayoutAreas.f a0 a1 = some true

end Go.Proofs.Ytnfoknnbolgfjaa.PAre
