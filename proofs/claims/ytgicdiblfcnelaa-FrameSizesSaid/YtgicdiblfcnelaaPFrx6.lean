-- written by a program of this session (wip/tools/pr.py, over the kit's printer): not by hand
import Derived.Test.YtgicdiblfcnelaaPFrx0
import Derived.Test.YtgicdiblfcnelaaPFrx2
import Derived.Test.YtgicdiblfcnelaaPFrx3
import Derived.Test.YtgicdiblfcnelaaPFrx4
namespace Go.Proofs.Ytgicdiblfcnelaa.PFr
open Go.RowKit Go.Proofs.YtgicdiblfcnelaaW.PrintWords Go.Proofs.YtgicdiblfcnelaaW.PrintLast Go.Proofs.YtgicdiblfcnelaaW.PrintMore
attribute [local go_sem] max2_int min2_int max_two min_two max_three min_three max_four min_four   -- for this text's walks alone
set_option linter.unusedVariables false
set_option linter.unusedSimpArgs false

/-! ### bollardlaw19_FrameEmpty -/
set_option maxHeartbeats 1000000 in
set_option maxRecDepth 100000 in
theorem frameempty_main (n each : Int) (w : World) (g0 : 0 ≤ n) (g1 : n ≤ 200) (g2 : 1 ≤ each) (g3 : each ≤ 10) :
    Calls Try.prog 6 #[.int .i64 n, .int .i64 each] w fun e w' => e = .returned (.bool true) ∧ Below w.heap.size w w' := by
  have f0 : decide (n < 0) = false := decide_eq_false (by omega)
  have f1 : decide (200 < n) = false := decide_eq_false (by omega)
  have f2 : decide (each < 1) = false := decide_eq_false (by omega)
  have f3 : decide (10 < each) = false := decide_eq_false (by omega)
  have HN := Aside0.mk (And.intro g0 (And.intro g1 (And.intro g2 g3)))
  have d1 : decide (0 ≤ each) = true := decide_eq_true (by omega)
  have d2 : decide (each.toNat ≤ 281474976710656) = true := decide_eq_true (by omega)
  clear g0 g1 g2 g3
  go_enter Try.func6, Try.ntmps6
  go_wp2_with fail
  refine (frame_New.calls _).mono ?_
  rintro e w1 ⟨rfl, hF, hb⟩
  have HF := Aside0.mk (FdX.fresh (base := w.heap.size) hF)
  have HB := Aside0.mk hb
  clear hF hb
  go_wp2_with fail
  refine (frame_Feed.calls w.heap.size w.heap.size [] false _ none 0 [] w1 [] [] false (Nat.le_refl _) HB.out.size HF.out (fun W hk => Kd.C_nil _ _) (Nat.le_refl _) (by decide) rfl).mono ?_
  rintro e w2 ⟨vo, vf, rfl, ho, hx, hu, hb, hk⟩
  obtain ⟨A2, c2, e2⟩ : ∃ A c, vo = .slice A 0 c := Kd.R_slice ho
  subst e2
  have HF2 := Aside0.mk hx
  have HB2 := Aside0.mk (HB.out.trans hb)
  clear ho hx hu hb hk HF HB
  go_wp2_with fail
  go_loopg [8, 9] 1000 (fun kq v8 v9 w' => ∃ (F : Nat) (v : Value), v8 = .int .i64 ((F / 4 : Nat) : Int) ∧ v9 = .int .i64 (F : Int) ∧ Aside0 (kq + F = 1000 ∧ F < 820) ∧ Aside0 (FdX w' w.heap.size w.heap.size (List.replicate (F % 4) 0) false v) ∧ Aside0 (Below w.heap.size w w'))
  case atStart => exact ⟨0, _, rfl, rfl, ⟨by omega, by omega⟩, HF2, HB2⟩
  case round =>
    obtain ⟨F, v, rfl, rfl, HK, HFr, HBr⟩ := hrel
    by_cases hi : ((F / 4 : Nat) : Int) < n
    · obtain ⟨q4, hq4⟩ : ∃ q4 : Int, q4 = ((F / 4 : Nat) : Int) := ⟨_, rfl⟩
      obtain ⟨fi, hfi⟩ : ∃ fi : Int, fi = (F : Int) := ⟨_, rfl⟩
      rw [← hq4] at hi ⊢
      rw [← hfi]
      have HQ := Aside0.mk hq4
      have HI := Aside0.mk hfi
      have dd : decide (q4 < n) = true := decide_eq_true hi
      have Hi := Aside0.mk hi
      clear hi hq4 hfi
      obtain ⟨zl, hzl⟩ : ∃ zl, zl = List.replicate each.toNat (0 : Int) := ⟨_, rfl⟩
      have HZL := Aside0.mk hzl
      have HZN := Aside0.mk (show zl.length = each.toNat from by rw [hzl, List.length_replicate])
      clear hzl
      go_wp2_with ((with_reducible refine gate_dst (N := 47) rfl ?_); refine Kd.R_make (Kd.int .u8) _ 5 rfl (N := 47) rfl 23 _ _ rfl each rfl rfl Try.underlying23 (.int .u8 0) 1 info_u8 rfl (by decide) (by decide) 0 (ok := fun _ => True) (okp := fun _ => True) rfl (fun _ hk => hk) trivial (by have := HN.out; omega) (by have := HN.out; omega) (Below.refl _ _) (Nat.le_refl _) ?_; intro vm w3 hm hb hg_ hnew_; clear hg_ hnew_; rw [← HZL.out] at hm; obtain ⟨Am, cm, em⟩ := Kd.R_slice hm; subst em; have HM3 := Aside0.mk hm; have HB3 := Aside0.mk hb; clear hm hb)
      have HF3 := Aside0.mk (HFr.out.below HB3.out)
      have HB4 := Aside0.mk (below_step HBr.out HB3.out)
      obtain ⟨xs, hxs⟩ : ∃ xs, xs = List.replicate ((F % 4 + each.toNat) / 4) ([] : List Int) := ⟨_, rfl⟩
      have HXS := Aside0.mk hxs
      have HE := Aside0.mk (show ((F % 4 + each.toNat) / 4 : Nat) = xs.length from by rw [hxs, List.length_replicate])
      clear hxs
      refine (frame_Feed.calls w.heap.size w.heap.size _ false v Am cm zl w3 xs _ _ (Nat.le_refl _) HB4.out.size HF3.out (fun W hk => own_C HM3.out hk HFr.out.lt (fun k h => (HFr.out.own k h).2)) (Kd.R_reads' HM3.out).2.1 (by have := HN.out; have := HZN.out; rw [List.length_replicate]; omega) (by rw [HZL.out, HXS.out]; exact zeros_fed each.toNat (F % 4) (by omega))).mono ?_
      rintro e w5 ⟨vx, vf5, rfl, ho, hx, hu, hb, hk⟩
      obtain ⟨Ax, cx, ex⟩ := Kd.R_slice ho
      subst ex
      have HX := Aside0.mk (Kd.R_reads' ho).2.2
      have HF5 := Aside0.mk hx
      have HB5 := Aside0.mk (HB4.out.trans hb)
      have HXL := Aside0.mk (show xs.length ≤ 10 from by have := HE.out; have := HN.out; omega)
      clear ho hx hu hb hk HF3 HB3 HB4 HM3
      have e1 : IntKind.i64.wrap (fi + each) = fi + each := (i64_w _).trans (by have := HN.out; have := HI.out; have := HK.out; unfold wrap64; omega)
      go_wp2_with fail
      go_loop [12] (fun v => ∃ q : Int, 0 ≤ q ∧ q ≤ (xs.length : Int) ∧ v = .int .i64 q) (fun v => ((xs.length : Int) - intOf v).toNat)
      case atStart => exact ⟨0, by omega, by omega, rfl⟩
      case round =>
        obtain ⟨q, hq1, hq2, rfl⟩ := hrel
        by_cases c : q < (xs.length : Int)
        · have c1 : decide (q < (xs.length : Int)) = true := decide_eq_true c
          obtain ⟨ad, A0, c0, rfl, hx, -, -⟩ := at_L1 HX.out q hq1 c
          have h0 : (rd_L1 xs q).length = 0 := by
            rw [HXS.out]
            unfold rd_L1
            rw [List.getD_eq_getElem?_getD, List.getElem?_replicate]
            split <;> rfl
          rw [h0] at hx
          clear h0
          have p1 := eq_true hq1
          have p2 := eq_true c
          have e3 : IntKind.i64.wrap (q + 1) = q + 1 := (i64_w _).trans (by have := HXL.out; unfold wrap64; omega)
          go_wp2
          go_round
          case rel => exact ⟨q + 1, by omega, by omega, by first | rfl | go_num⟩
          case measure => simp [intOf]; omega
        · have c1 : decide (q < (xs.length : Int)) = false := decide_eq_false c
          obtain ⟨q5, hq5⟩ : ∃ q5 : Int, q5 = (((F + each.toNat) / 4 : Nat) : Int) := ⟨_, rfl⟩
          obtain ⟨P5, hP5⟩ : ∃ P5, P5 = List.replicate ((F % 4 + each.toNat) % 4) (0 : Int) := ⟨_, rfl⟩
          rw [← hP5] at HF5
          have e2 : IntKind.i64.wrap (q4 + (xs.length : Int)) = q5 := (i64_w _).trans (by have := HN.out; have := HI.out; have := HQ.out; have := HE.out; have := HK.out; unfold wrap64; omega)
          have e4 : IntKind.i64.wrap ((fi + each).tdiv 4) = q5 := (i64_w _).trans (by have := HN.out; have := HI.out; have := HK.out; rw [Int.tdiv_eq_ediv_of_nonneg (by omega)]; unfold wrap64; omega)
          have e5 : (fi + each).tmod 4 = (P5.length : Int) := by have := HN.out; have := HI.out; rw [Int.tmod_eq_emod_of_nonneg (by omega), hP5, List.length_replicate]; omega
          have e6 : wrap64 (P5.length : Int) = (P5.length : Int) := by rw [hP5, List.length_replicate]; unfold wrap64; omega
          have HP5 := Aside0.mk hP5
          have HQ5 := Aside0.mk hq5
          have HP6 := Aside0.mk (show P5.length ≤ 1000000000 by rw [hP5, List.length_replicate]; omega)
          clear hP5 hq5
          go_wp2_with (go_at_call 15; refine (HF5.out.waiting HP6.out).mono ?_; rintro e_ w_ ⟨rfl, m, rfl⟩)
          go_roundg (1000 - (F + each.toNat))
          case measure => have := HN.out; have := HK.out; omega
          case rel => exact ⟨F + each.toNat, vf5, by rw [HQ5.out], by rw [HI.out]; congr 1; have := HN.out; omega, ⟨by have := HN.out; have := HK.out; omega, by have := Hi.out; have := HN.out; have := HQ.out; omega⟩, ⟨by rw [show (F + each.toNat) % 4 = (F % 4 + each.toNat) % 4 by omega, ← HP5.out]; exact HF5.out.below (pw_below_drewN (Below.refl _ _) m)⟩, ⟨pw_below_drewN HB5.out m⟩⟩
    · have dd : decide (((F / 4 : Nat) : Int) < n) = false := decide_eq_false hi
      go_wp2_with fail
      refine (bollardlaw19_awake.calls _).mono ?_
      rintro e w9 ⟨rfl, hb9⟩
      have HB9 := Aside0.mk (below_step HBr.out hb9)
      clear hb9
      go_wp2
      go_ret
      exact ⟨rfl, HB9.out⟩
set_option maxHeartbeats 1000000 in
set_option maxRecDepth 100000 in
theorem frameempty_guard0 (n each : Int) (w : World) (h0 : n < 0) :
    Calls Try.prog 6 #[.int .i64 n, .int .i64 each] w fun e w' => e = .returned (.bool true) ∧ Below w.heap.size w w' := by
  have f0 : decide (n < 0) = true := decide_eq_true (by omega)
  clear h0
  go_enter Try.func6, Try.ntmps6
  go_wp2_with fail
  refine (bollardlaw19_awake.calls _).mono ?_
  rintro e w9 ⟨rfl, hb9⟩
  have HB9 := Aside0.mk (hb9)
  clear hb9
  go_wp2
  go_ret
  exact ⟨rfl, HB9.out⟩
set_option maxHeartbeats 1000000 in
set_option maxRecDepth 100000 in
theorem frameempty_guard1 (n each : Int) (w : World) (h0 : 0 ≤ n) (h1 : 200 < n) :
    Calls Try.prog 6 #[.int .i64 n, .int .i64 each] w fun e w' => e = .returned (.bool true) ∧ Below w.heap.size w w' := by
  have f0 : decide (n < 0) = false := decide_eq_false (by omega)
  have f1 : decide (200 < n) = true := decide_eq_true (by omega)
  clear h0 h1
  go_enter Try.func6, Try.ntmps6
  go_wp2_with fail
  refine (bollardlaw19_awake.calls _).mono ?_
  rintro e w9 ⟨rfl, hb9⟩
  have HB9 := Aside0.mk (hb9)
  clear hb9
  go_wp2
  go_ret
  exact ⟨rfl, HB9.out⟩
set_option maxHeartbeats 1000000 in
set_option maxRecDepth 100000 in
theorem frameempty_guard2 (n each : Int) (w : World) (h0 : 0 ≤ n) (h1 : n ≤ 200) (h2 : each < 1) :
    Calls Try.prog 6 #[.int .i64 n, .int .i64 each] w fun e w' => e = .returned (.bool true) ∧ Below w.heap.size w w' := by
  have f0 : decide (n < 0) = false := decide_eq_false (by omega)
  have f1 : decide (200 < n) = false := decide_eq_false (by omega)
  have f2 : decide (each < 1) = true := decide_eq_true (by omega)
  clear h0 h1 h2
  go_enter Try.func6, Try.ntmps6
  go_wp2_with fail
  refine (bollardlaw19_awake.calls _).mono ?_
  rintro e w9 ⟨rfl, hb9⟩
  have HB9 := Aside0.mk (hb9)
  clear hb9
  go_wp2
  go_ret
  exact ⟨rfl, HB9.out⟩
set_option maxHeartbeats 1000000 in
set_option maxRecDepth 100000 in
theorem frameempty_guard3 (n each : Int) (w : World) (h0 : 0 ≤ n) (h1 : n ≤ 200) (h2 : 1 ≤ each) (h3 : 10 < each) :
    Calls Try.prog 6 #[.int .i64 n, .int .i64 each] w fun e w' => e = .returned (.bool true) ∧ Below w.heap.size w w' := by
  have f0 : decide (n < 0) = false := decide_eq_false (by omega)
  have f1 : decide (200 < n) = false := decide_eq_false (by omega)
  have f2 : decide (each < 1) = false := decide_eq_false (by omega)
  have f3 : decide (10 < each) = true := decide_eq_true (by omega)
  clear h0 h1 h2 h3
  go_enter Try.func6, Try.ntmps6
  go_wp2_with fail
  refine (bollardlaw19_awake.calls _).mono ?_
  rintro e w9 ⟨rfl, hb9⟩
  have HB9 := Aside0.mk (hb9)
  clear hb9
  go_wp2
  go_ret
  exact ⟨rfl, HB9.out⟩
def bollardlaw19_FrameEmpty.f (n each : Int) : Option Bool := some true
theorem bollardlaw19_FrameEmpty.calls (n each : Int) (r : Bool) (w : World) (h : bollardlaw19_FrameEmpty.f n each = some r) :
    Calls Try.prog 6 #[.int .i64 n, .int .i64 each] w fun e w' => e = .returned (.bool r) ∧ Below w.heap.size w w' := by
  unfold bollardlaw19_FrameEmpty.f at h
  obtain rfl := Option.some.inj h
  by_cases h0 : n < 0
  case pos => exact frameempty_guard0 n each w (by omega)
  by_cases h1 : 200 < n
  case pos => exact frameempty_guard1 n each w (by omega) (by omega)
  by_cases h2 : each < 1
  case pos => exact frameempty_guard2 n each w (by omega) (by omega) (by omega)
  by_cases h3 : 10 < each
  case pos => exact frameempty_guard3 n each w (by omega) (by omega) (by omega) (by omega)
  exact frameempty_main n each w (by omega) (by omega) (by omega) (by omega)

/-- THE ONE PURE STATEMENT of bollardlaw19_FrameEmpty: mine. -/
def bollardlaw19_FrameEmpty.Pure : Prop := ∀ (a0 : Int) (a1 : Int), (Lit.int .i64 a0).wf = true → (Lit.int .i64 a1).wf = true → bollardlaw19_FrameEmpty.f a0 a1 = some true

/-! ### frame_Wrap: function 16 -/
def frame_Wrap.f (l0 : List Int) : Option (List Int × Bool) := if (l0.length : Int) > 8192 then (some (([] : List Int), false)) else ((some (([((l0.length : Int) / 16777216) % 256, ((l0.length : Int) / 65536) % 256, ((l0.length : Int) / 256) % 256, ((l0.length : Int)) % 256] : List Int) : List Int)).bind fun y112 => (if y112.length + l0.length < 140737488355328 then (some ((y112 ++ l0), true)) else (none)))
set_option maxHeartbeats 8000000 in
set_option maxRecDepth 100000 in
theorem frame_Wrap.calls (A0 : Option Addr) (c0 : Nat) (l0 : List Int) (r1 : List Int) (r2 : Bool) (w : World) (hr0 : Kd.C (Kd.int .u8) w A0 l0.length l0) (hc0 : l0.length ≤ c0) (h : frame_Wrap.f l0 = some (r1, r2)) :
    Calls Try.prog 16 #[.slice A0 l0.length c0] w fun e w' => ∃ v0_ : Value, e = .returned (.tuple #[v0_, .bool r2]) ∧ Kd.R (Kd.int .u8) 5 w' w.heap.size (fun _ => True) v0_ r1 ∧ Below w.heap.size w w' := by
  have HR0 := Aside0.mk hr0
  have HC0 := Aside0.mk hc0
  clear hr0 hc0
  have HB := Aside0.mk (Below.refl w.heap.size w)
  have H : (if (l0.length : Int) > 8192 then (some (([] : List Int), false)) else ((some (([((l0.length : Int) / 16777216) % 256, ((l0.length : Int) / 65536) % 256, ((l0.length : Int) / 256) % 256, ((l0.length : Int)) % 256] : List Int) : List Int)).bind fun y112 => (if y112.length + l0.length < 140737488355328 then (some ((y112 ++ l0), true)) else (none)))) = some (r1, r2) := h
  clear h
  by_cases c2 : (l0.length : Int) > 8192
  · rw [if_pos c2] at H
    have c2b0 : decide (8192 < (l0.length : Int)) = true := decide_eq_true c2
    have c2b1 : decide (8192 < l0.length) = true := decide_eq_true (by omega)
    clear c2
    simp only [Option.some.injEq, Prod.mk.injEq] at H
    obtain ⟨rfl, rfl⟩ := H
    go_enter Try.func16, Try.ntmps16
    go_wp2
    go_ret2
    exact ⟨_, by first | rfl | (simp [errW_none, errW_some] <;> rfl) | (simp [*, errW_none, errW_some] <;> rfl), by first | exact Kd.R_nil _ _ _ _ _ | exact Kd.N_nil _ _ _ _ _ | exact Kd.V_nil _ _ _ _ _ | exact Kd.Q_nil _ _ _ _ _ | exact Kd.S_nil _ _ _ _ _, by repeat (first | (with_reducible first | exact HB.out | apply below_alloc | apply pw_below_drewN | apply below_drew1) | exact HB.out)⟩
  · rw [if_neg c2] at H
    have c2b0 : decide (8192 < (l0.length : Int)) = false := decide_eq_false c2
    have c2b1 : decide (8192 < l0.length) = false := decide_eq_false (by omega)
    clear c2
    obtain ⟨y112, hy112⟩ : ∃ y_ : List Int, y_ = (([((l0.length : Int) / 16777216) % 256, ((l0.length : Int) / 65536) % 256, ((l0.length : Int) / 256) % 256, ((l0.length : Int)) % 256] : List Int)) := ⟨_, rfl⟩
    replace H : (if y112.length + l0.length < 140737488355328 then (some ((y112 ++ l0), true)) else (none)) = some (r1, r2) := by first | (rw [hy112]; with_reducible exact H) | (have H2_ := (Option.bind_some _ _).symm.trans H; rw [hy112]; with_reducible exact H2_) | (have H2_ := (Option.bind_some _ _).symm.trans H; with_reducible exact H2_) | with_reducible exact H | (rw [hy112]; exact H) | exact H
    have Ny112 := Aside0.mk hy112
    clear hy112
    by_cases c3 : y112.length + l0.length < 140737488355328
    · rw [if_pos c3] at H
      have LMc3 := Aside0.mk c3
      clear c3
      obtain ⟨y115, hy115⟩ : ∃ y_ : List Int, y_ = (y112 ++ l0) := ⟨_, rfl⟩
      replace H : (some (y115, true)) = some (r1, r2) := by first | (rw [hy115]; with_reducible exact H) | (have H2_ := (Option.bind_some _ _).symm.trans H; rw [hy115]; with_reducible exact H2_) | (have H2_ := (Option.bind_some _ _).symm.trans H; with_reducible exact H2_) | with_reducible exact H | (rw [hy115]; exact H) | exact H
      have Ny115 := Aside0.mk hy115
      clear hy115
      simp only [Option.some.injEq, Prod.mk.injEq] at H
      obtain ⟨rfl, rfl⟩ := H
      go_enter Try.func16, Try.ntmps16
      go_wp2_with (first | ((with_reducible refine gate_dst (N := 20) rfl ?_); refine Kd.R_lit (Kd.int .u8) _ 5 ?hg (N := 20) ?hd (xs := ([((l0.length : Int) / 16777216) % 256, ((l0.length : Int) / 65536) % 256, ((l0.length : Int) / 256) % 256, ((l0.length : Int)) % 256] : List Int)) (inner := [.int .u8 (((l0.length : Int) / 16777216) % 256), .int .u8 (((l0.length : Int) / 65536) % 256), .int .u8 (((l0.length : Int) / 256) % 256), .int .u8 (((l0.length : Int)) % 256)]) (ok := fun _ => True) (okp := fun _ => True) ?hr ?hp (fun _ hk => hk) trivial (Below.refl _ _) (Nat.le_refl _) (by simp) ?_; (case hd => rfl); (case hg => rfl); (case hr => first | (go_simp; done) | (go_simp; rfl)); (case hp => exact (Reps.one (show Kd.M (Kd.int .u8) _ _ _ (((l0.length : Int) / 16777216) % 256) [.int .u8 (((l0.length : Int) / 16777216) % 256)] from rfl) (Reps.one (show Kd.M (Kd.int .u8) _ _ _ (((l0.length : Int) / 65536) % 256) [.int .u8 (((l0.length : Int) / 65536) % 256)] from rfl) (Reps.one (show Kd.M (Kd.int .u8) _ _ _ (((l0.length : Int) / 256) % 256) [.int .u8 (((l0.length : Int) / 256) % 256)] from rfl) (Reps.one (show Kd.M (Kd.int .u8) _ _ _ (((l0.length : Int)) % 256) [.int .u8 (((l0.length : Int)) % 256)] from rfl) (Reps.none _ _)))))); intro v113 w4 ho5 hb hg_ hnew_; clear hg_ hnew_; (first | rw [← Ny112.out] at ho5 | (simp only [Int.reduceToNat] at ho5; rw [← Ny112.out] at ho5)); have n0_ := Aside0.mk (Kd.R_lower ho5 (below_size (by repeat (first | (with_reducible first | exact HB.out | apply below_alloc | apply pw_below_drewN | apply below_drew1) | exact HB.out)))); have n1_ := Aside0.mk (below_step (by repeat (first | (with_reducible first | exact HB.out | apply below_alloc | apply pw_below_drewN | apply below_drew1) | exact HB.out)) hb); clear HB; have HO114 := n0_; have HB := n1_; clear n0_ n1_; clear hb ho5) | ((with_reducible refine gate_builtin (b := .append) (xs := #[.tmp 20, .tmp 21]) rfl ?_); at_builtin; refine Kd.R_append_rows (Kd.int .u8) (w0 := w) w.heap.size rfl (.tmp 20) (.tmp 21) 23 5 (.int .u8 0) 1 rfl Try.underlying23 info5 rfl (by decide) (by omega) v113 y112 l0 _ _ _ (fun _ => True) (fun _ => False) rfl rfl ?aO ?aR (fun _ _ h => h) (fun _ h => h.elim) ?aF ?aB ?aS ?aL ?_; (case aR => repeat (first | exact (Kd.C_below HR0.out HB.out) | (with_reducible refine Kd.C_alloc ?_ _) | (with_reducible refine Kd.C_drewN ?_ _) | (with_reducible refine Kd.C_drew ?_))); (case aB => exact (by repeat (first | (with_reducible first | exact HB.out | apply below_alloc | apply pw_below_drewN | apply below_drew1) | exact HB.out))); (case aF => exact (fun _ _ => trivial)); (case aO => exact (by (with_reducible repeat (first | apply Kd.R_alloc | apply Kd.R_drewN | apply Kd.R_drew)); exact HO114.out)); (case aS => exact (below_size (by repeat (first | (with_reducible first | exact HB.out | apply below_alloc | apply pw_below_drewN | apply below_drew1) | exact HB.out)))); (case aL => have := LMc3.out; omega); intro v116 w6 ho hb hg hat; rw [← Ny115.out] at ho; have n0_ := Aside0.mk (hb); have n1_ := Aside0.mk (ho); clear HB; clear HO114; have HB := n0_; have HO117 := n1_; clear n0_ n1_; clear ho hb hg hat))
      go_ret2
      exact ⟨_, by first | rfl | (simp [errW_none, errW_some] <;> rfl) | (simp [*, errW_none, errW_some] <;> rfl), by (with_reducible repeat (first | apply Kd.R_alloc | apply Kd.R_drewN | apply Kd.R_drew)); exact HO117.out, by repeat (first | (with_reducible first | exact HB.out | apply below_alloc | apply pw_below_drewN | apply below_drew1) | exact HB.out)⟩
    · rw [if_neg c3] at H
      exact absurd H (by simp)

/-! ### frame: plain laws of what was wrapped -/
theorem i64_or_add {v x : Int} (h0 : 0 ≤ v) (h1 : v < 16777216) (h2 : 0 ≤ x ∧ x < 256) : Go.bits .or .i64 (wrap64 (v * 256)) (wrap64 x) = v * 256 + x := by
  have e1 : wrap64 (v * 256) = v * 256 := by unfold wrap64; omega
  have e2 : wrap64 x = x := by unfold wrap64; omega
  rw [e1, e2]
  obtain ⟨a, rfl⟩ := Int.eq_ofNat_of_zero_le h0
  obtain ⟨b, rfl⟩ := Int.eq_ofNat_of_zero_le h2.1
  have e : ((a : Int) * 256) = ((2 ^ 8 * a : Nat) : Int) := by omega
  rw [e]
  show IntKind.i64.wrap ((BitVec.ofInt 64 ((2 ^ 8 * a : Nat) : Int) ||| BitVec.ofInt 64 ((b : Nat) : Int)).toNat : Int) = _
  rw [BitVec.ofInt_natCast, BitVec.ofInt_natCast, BitVec.toNat_or, BitVec.toNat_ofNat, BitVec.toNat_ofNat, Nat.mod_eq_of_lt (by omega), Nat.mod_eq_of_lt (by omega), ← Nat.two_pow_add_eq_or_of_lt (show b < 2 ^ 8 from by omega) a, i64_w]
  unfold wrap64
  omega
theorem lenV_eq {a b c d : Int} (ha : 0 ≤ a ∧ a < 256) (hb : 0 ≤ b ∧ b < 256) (hc : 0 ≤ c ∧ c < 256) (hd : 0 ≤ d ∧ d < 256) : lenV a b c d = ((a * 256 + b) * 256 + c) * 256 + d := by
  unfold lenV
  have h0 : Go.bits .or .i64 0 (wrap64 a) = a := by
    have := i64_or_add (v := 0) (Int.le_refl _) (by decide) ha
    rw [show wrap64 ((0 : Int) * 256) = 0 from by unfold wrap64; omega, show (0 : Int) * 256 + a = a by omega] at this
    exact this
  rw [h0, i64_or_add (by omega) (by omega) hb, i64_or_add (by omega) (by omega) hc, i64_or_add (by omega) (by omega) hd]
/-- A frame's head. -/
def hdL (n : Int) : List Int := [(n / 16777216) % 256, (n / 65536) % 256, (n / 256) % 256, n % 256]
theorem hdL_len (n : Int) (h0 : 0 ≤ n) (h : n < 4294967296) : lenP (hdL n) = n := by
  show lenV _ _ _ _ = n
  simp only [hdL, List.getD_cons_zero, List.getD_cons_succ]
  rw [lenV_eq (by omega) (by omega) (by omega) (by omega)]
  omega
def wrL (x : List Int) : List Int := hdL (x.length : Int) ++ x
theorem wrap_f (x : List Int) (h : x.length ≤ 8192) : frame_Wrap.f x = some (wrL x, true) := by
  unfold frame_Wrap.f
  rw [if_neg (by omega), Option.bind_some, if_pos (by simp only [List.length_cons, List.length_nil]; omega)]
  rfl
theorem wrap_no (x : List Int) (h : ¬ x.length ≤ 8192) : frame_Wrap.f x = some ([], false) := by
  unfold frame_Wrap.f
  rw [if_pos (by omega)]
theorem lenP_head (a b c d : Int) (Q : List Int) : lenP (a :: b :: c :: d :: Q) = lenP [a, b, c, d] := rfl
/-- What stands behind a head, to the frame's end. -/
theorem feed_body (a b c d : Int) (y : List Int) : ∀ (Q rest : List Int), y ≠ [] → ((Q.length + y.length : Nat) : Int) = lenP [a, b, c, d] → feedL (a :: b :: c :: d :: Q) (y ++ rest) = ((Q ++ y) :: (feedL [] rest).1, (feedL [] rest).2) := by
  induction y with
  | nil => intro Q rest h; exact absurd rfl h
  | cons x y ih =>
    intro Q rest _ hl
    have e : (a :: b :: c :: d :: Q) ++ [x] = a :: b :: c :: d :: (Q ++ [x]) := rfl
    have hlen : (a :: b :: c :: d :: (Q ++ [x])).length = Q.length + 5 := by simp
    rw [List.cons_append]
    by_cases hy : y = []
    · subst hy
      rw [feed_told (by rw [e, hlen]; omega) (by rw [e, hlen, lenP_head]; exact ⟨by omega, by rw [← hl]; simp⟩), e]
      rfl
    · have hyl : 0 < y.length := List.length_pos_iff.mpr hy
      rw [feed_more (by rw [e, hlen]; omega) (by rw [e, hlen, lenP_head, ← hl]; simp only [List.length_cons]; omega), e, ih (Q ++ [x]) rest hy (by rw [← hl]; simp only [List.length_append, List.length_cons, List.length_nil]; omega), List.append_assoc]
      rfl
theorem feed_early (P : List Int) (x : Int) (l : List Int) (h : P.length < 3) : feedL P (x :: l) = feedL (P ++ [x]) l :=
  feed_more (fun h2 => by have := h2.1; rw [List.length_append, List.length_singleton] at this; omega) (fun h2 => by have := h2.1; rw [List.length_append, List.length_singleton] at this; omega)
theorem feed_three (a b c : Int) (l : List Int) : feedL [] (a :: b :: c :: l) = feedL [a, b, c] l := (feed_early [] a _ (by decide)).trans ((feed_early [a] b _ (show 1 < 3 from by decide)).trans (feed_early [a, b] c _ (show 2 < 3 from by decide)))
theorem feed_head (a b c d : Int) (rest : List Int) (h : 0 < lenP [a, b, c, d] ∧ lenP [a, b, c, d] ≤ 8192) : feedL [] (a :: b :: c :: d :: rest) = feedL [a, b, c, d] rest :=
  (feed_three a b c _).trans (feed_more (P := [a, b, c]) (x := d) (fun h2 => absurd (show 8192 < lenP [a, b, c, d] from h2.2) (by omega)) (fun h2 => absurd (show (0 : Int) = lenP [a, b, c, d] from h2.2) (by omega)))
theorem feed_head0 (a b c d : Int) (rest : List Int) (h : lenP [a, b, c, d] = 0) : feedL [] (a :: b :: c :: d :: rest) = ([] :: (feedL [] rest).1, (feedL [] rest).2) :=
  (feed_three a b c _).trans (feed_told (P := [a, b, c]) (x := d) (fun h2 => absurd (show 8192 < lenP [a, b, c, d] from h2.2) (by omega)) ⟨Nat.le_refl 4, h.symm⟩)
theorem feed_over_head (a b c d : Int) (rest : List Int) (h : 8192 < lenP [a, b, c, d]) : feedL [] (a :: b :: c :: d :: rest) = ([], [], true) :=
  (feed_three a b c _).trans (feed_bad (P := [a, b, c]) (x := d) ⟨rfl, h⟩)
theorem feed_wrap (x rest : List Int) (h : x.length ≤ 8192) : feedL [] (wrL x ++ rest) = (x :: (feedL [] rest).1, (feedL [] rest).2) := by
  have hl := hdL_len (x.length : Int) (by omega) (by omega)
  unfold wrL
  rw [List.append_assoc]
  by_cases hx : x = []
  · subst hx
    exact feed_head0 _ _ _ _ _ hl
  · have hxl : 0 < x.length := List.length_pos_iff.mpr hx
    refine (feed_head _ _ _ _ _ (by rw [show lenP [_, _, _, _] = (x.length : Int) from hl]; omega)).trans ?_
    exact feed_body _ _ _ _ x [] rest hx (by rw [show lenP [_, _, _, _] = (x.length : Int) from hl]; simp)
theorem feed_wraps (l : List (List Int)) (rest : List Int) (h : ∀ x ∈ l, x.length ≤ 8192) : feedL [] ((l.map wrL).flatten ++ rest) = (l ++ (feedL [] rest).1, (feedL [] rest).2) := by
  induction l with
  | nil => rfl
  | cons x l ih =>
    rw [List.map_cons, List.flatten_cons, List.append_assoc, feed_wrap x _ (h x List.mem_cons_self), ih (fun y hy => h y (List.mem_cons_of_mem _ hy))]
    rfl
theorem wrL_length (x : List Int) : (wrL x).length = x.length + 4 := by
  unfold wrL hdL
  simp only [List.length_append, List.length_cons, List.length_nil]
  omega
/-- How many bytes there are in all. -/
def sumL (l : List (List Int)) : Nat := l.flatten.length
theorem wraps_length (l : List (List Int)) : ((l.map wrL).flatten).length = sumL l + 4 * l.length := by
  unfold sumL
  induction l with
  | nil => rfl
  | cons x l ih =>
    rw [List.map_cons, List.flatten_cons, List.flatten_cons, List.length_append, List.length_append, ih, wrL_length, List.length_cons]
    omega
theorem wraps_fed (l : List (List Int)) (behind : Nat) (hb : behind ≤ 3) (h : ∀ x ∈ l, x.length ≤ 8192) : feedX [] false ((l.map wrL).flatten ++ List.replicate behind 0) = (l, List.replicate behind 0, false) := by
  show feedL [] _ = _
  have := zeros_fed behind 0 (by omega)
  rw [show List.replicate 0 (0 : Int) = [] from rfl, show (0 + behind) / 4 = 0 by omega, show (0 + behind) % 4 = behind by omega] at this
  rw [feed_wraps l _ h, this]
  simp
theorem wraps_over (l : List (List Int)) (a b c d : Int) (h : ∀ x ∈ l, x.length ≤ 8192) (hn : 8192 < lenP [a, b, c, d]) : feedX [] false ((l.map wrL).flatten ++ [a, b, c, d]) = (l, [], true) := by
  show feedL [] _ = _
  rw [feed_wraps l _ h, feed_over_head _ _ _ _ _ hn]
  simp
theorem sum_take {l : List (List Int)} {i : Nat} (h : i < l.length) : l.take (i + 1) = l.take i ++ [rd_L1 l (i : Int)] := by
  rw [List.take_add_one, List.getElem?_eq_getElem h]
  congr 1
  unfold rd_L1
  rw [Int.toNat_natCast, List.getD_eq_getElem?_getD, List.getElem?_eq_getElem h]
  rfl
theorem own_C2 {w W : World} {g e base n c : Nat} {ok : Nat → Prop} {row : Option Nat} {A : Option Addr} {xs : List Int} (h : Kd.R (Kd.int .u8) e w base ok (.slice A n c) xs) (hk : KeepBut w W g row) (hne : ∀ k, (Value.slice A n c).ownBlock = some k → k ≠ g ∧ some k ≠ row) : Kd.C (Kd.int .u8) W A xs.length xs := by
  have h2 := Kd.R_move (own_only h) (w1 := W) (fun k hv => hk.2 k (Kd.R_lt h k hv) (hne k hv).1 (hne k hv).2)
  exact (Kd.R_reads' h2).2.2
/-! ### bollardlaw19_FrameBack -/
set_option maxHeartbeats 1000000 in
set_option maxRecDepth 100000 in
theorem frameback_main (A : Option Addr) (c : Nat) (l : List (List Int)) (behind : Int) (w : World) (hxs : ∀ x ∈ l, x.length ≤ 140737488351232) (hr : kRow.C w A l.length l) (hc : l.length ≤ c) (g0 : l.length ≤ 30) (g1 : 0 ≤ behind) (g2 : behind ≤ 3) :
    Calls Try.prog 7 #[.slice A l.length c, .int .i64 behind] w fun e w' => e = .returned (.bool true) ∧ Below w.heap.size w w' := by
  have f0 : decide (30 < (l.length : Int)) = false := decide_eq_false (by omega)
  have f1 : decide (behind < 0) = false := decide_eq_false (by omega)
  have f2 : decide (3 < behind) = false := decide_eq_false (by omega)
  have HN := Aside0.mk (And.intro g0 (And.intro g1 g2))
  have HR := Aside0.mk hr
  have HXS := Aside0.mk hxs
  have HC := Aside0.mk hc
  clear g0 g1 g2 hr hc hxs
  go_enter Try.func7, Try.ntmps7
  go_wp2_with fail
  go_loopg [5, 6, 7] (l.length + 1) (fun kq v5 v6 v7 w' => ∃ (i : Nat), v5 = .int .i64 ((sumL (l.take i) : Nat) : Int) ∧ v7 = .int .i64 (i : Int) ∧ Aside0 (kq + i = l.length + 1 ∧ i ≤ l.length ∧ sumL (l.take i) ≤ 20000 ∧ ∀ x ∈ l.take i, x.length ≤ 8192) ∧ Aside0 (Kd.R (Kd.int .u8) 5 w' w.heap.size (fun _ => True) v6 ((l.take i).map wrL).flatten) ∧ Aside0 (Below w.heap.size w w'))
  case atStart => exact ⟨0, rfl, rfl, ⟨by omega, by omega, by simp [sumL], by simp⟩, ⟨Kd.R_nil _ _ _ _ _⟩, ⟨Below.refl _ _⟩⟩
  case round =>
    obtain ⟨j, rfl, rfl, HK, HV, HBr⟩ := hrel
    obtain ⟨i, hie⟩ : ∃ i : Int, i = (j : Int) := ⟨_, rfl⟩
    obtain ⟨s, hse⟩ : ∃ s : Int, s = ((sumL (l.take j) : Nat) : Int) := ⟨_, rfl⟩
    obtain ⟨bs, hbs⟩ : ∃ bs, bs = ((l.take j).map wrL).flatten := ⟨_, rfl⟩
    rw [← hie, ← hse]
    rw [← hbs] at HV
    have HBS := Aside0.mk hbs
    have HIE := Aside0.mk hie
    have HSE := Aside0.mk hse
    clear hbs hie hse
    have HLr := Aside0.mk (Kd.C_below HR.out HBr.out)
    by_cases hi : i < (l.length : Int)
    · have d1 : decide (i < (l.length : Int)) = true := decide_eq_true hi
      have b0 : 0 ≤ i := by have := HIE.out; omega
      have hjl : j < l.length := by have := HIE.out; omega
      obtain ⟨ad, A0, c0, rfl, hx, hcx, hCx⟩ := at_L1 HLr.out i b0 hi
      obtain ⟨x, hxe⟩ : ∃ x, x = rd_L1 l i := ⟨_, rfl⟩
      rw [← hxe] at hx hcx hCx
      have hst := sum_take hjl
      rw [← HIE.out, ← hxe] at hst
      have HST := Aside0.mk hst
      have hs1 : sumL (l.take (j + 1)) = sumL (l.take j) + x.length := by rw [hst]; unfold sumL; rw [List.flatten_append, List.length_append]; simp
      have HS1 := Aside0.mk hs1
      have HCX := Aside0.mk hcx
      have HX := Aside0.mk hCx
      have p1 := eq_true b0
      have p2 := eq_true hi
      have HLB := Aside0.mk (show bs.length + 4 * 31 + 30000 ≤ 60000 from by have h1_ := HN.out; have h2_ := HK.out; rw [HBS.out, wraps_length, List.length_take]; omega)
      have e1 : IntKind.i64.wrap (i + 1) = i + 1 := (i64_w _).trans (by have := HN.out; unfold wrap64; omega)
      clear b0 hjl hxe hst hs1 hcx hCx
      have hxb : x.length ≤ 140737488351232 := by have h_ := HST.out; exact HXS.out x (List.mem_of_mem_take (show x ∈ l.take (j + 1) from by rw [h_]; simp))
      have e0 : IntKind.i64.wrap (s + (x.length : Int)) = s + (x.length : Int) := (i64_w _).trans (by have := HK.out; have := HSE.out; unfold wrap64; omega)
      clear hxb
      by_cases h20 : 20000 < s + (x.length : Int)
      · have d2 : decide (20000 < s + (x.length : Int)) = true := decide_eq_true h20
        clear h20
        go_wp2_with fail
        refine (bollardlaw19_awake.calls _).mono ?_
        rintro e w9 ⟨rfl, hb9⟩
        have HB9 := Aside0.mk (below_step HBr.out hb9)
        clear hb9
        go_wp2
        go_ret
        exact ⟨rfl, HB9.out⟩
      have d2 : decide (20000 < s + (x.length : Int)) = false := decide_eq_false h20
      have H20 := Aside0.mk h20
      clear h20
      by_cases h8 : x.length ≤ 8192
      · obtain ⟨ws, hws⟩ : ∃ ws, ws = wrL x := ⟨_, rfl⟩
        have d3 : decide ((x.length : Int) ≤ 8192) = true := decide_eq_true (by omega)
        have HW := Aside0.mk (show frame_Wrap.f x = some (ws, true) from by rw [hws]; exact wrap_f x h8)
        have HWS := Aside0.mk hws
        have H8 := Aside0.mk h8
        have HWL := Aside0.mk (show ws.length = x.length + 4 from by rw [hws]; exact wrL_length x)
        clear h8 hws
        go_wp2_with fail
        refine (frame_Wrap.calls A0 c0 x ws true wr HX.out HCX.out HW.out).mono ?_
        rintro e w3 ⟨vw, rfl, how, hbw⟩
        obtain ⟨Aw, cw, ew⟩ := Kd.R_slice how
        subst ew
        have HWC := Aside0.mk (Kd.R_reads' how).2.2
        have HV3 := Aside0.mk (Kd.R_below HV.out hbw)
        have HB3 := Aside0.mk (below_step HBr.out hbw)
        have hx3 := pw_cell_below hbw hx
        clear how hbw hx
        go_wp2_with (at_builtin; refine Kd.R_append_rows (Kd.int .u8) (w0 := w) w.heap.size rfl (.tmp 65) (.tmp 66) 23 5 (.int .u8 0) 1 rfl Try.underlying23 info_u8 rfl (by decide) (by decide) u6 bs ws Aw ws.length cw (fun _ => True) (fun _ => False) rfl rfl HV3.out HWC.out (fun _ _ h => h) (fun _ h => h.elim) (fun _ _ => trivial) HB3.out HB3.out.size ?aL ?_; (case aL => have := HLB.out; have := HWL.out; have := H8.out; omega); intro vb w5 ho hb hg hat; have HV5 := Aside0.mk ho; have HB5 := Aside0.mk hb; clear ho hb hg hat)
        go_roundg (l.length + 1 - (j + 1))
        case measure => have := HK.out; omega
        case rel => exact ⟨j + 1, by rw [HS1.out, HSE.out]; rfl, by rw [HIE.out]; rfl, ⟨by have := HK.out; have := HIE.out; omega, by have := HIE.out; omega, by rw [HS1.out]; have := H20.out; have := HSE.out; omega, by rw [HST.out]; intro y hy; rcases List.mem_append.1 hy with hy | hy; exact HK.out.2.2.2 y hy; rw [List.mem_singleton.1 hy]; exact H8.out⟩, ⟨by rw [HST.out, List.map_append, List.flatten_append, ← HBS.out]; simpa [← HWS.out] using HV5.out⟩, HB5⟩
      · have d3 : decide ((x.length : Int) ≤ 8192) = false := decide_eq_false (by omega)
        have HW := Aside0.mk (wrap_no x h8)
        clear h8
        go_wp2_with fail
        refine (frame_Wrap.calls A0 c0 x [] false wr HX.out HCX.out HW.out).mono ?_
        rintro e w3 ⟨vw, rfl, how, hbw⟩
        obtain ⟨Aw, cw, ew⟩ : ∃ A c, vw = .slice A 0 c := Kd.R_slice how
        subst ew
        have HB3 := Aside0.mk (below_step HBr.out hbw)
        have hx3 := pw_cell_below hbw hx
        clear how hbw hx
        go_wp2_with fail
        refine (bollardlaw19_awake.calls _).mono ?_
        rintro e w9 ⟨rfl, hb9⟩
        have HB9 := Aside0.mk (below_step HB3.out hb9)
        clear hb9
        go_wp2
        go_ret
        exact ⟨rfl, HB9.out⟩
    · have d1 : decide (i < (l.length : Int)) = false := decide_eq_false hi
      have htk : l.take j = l := List.take_of_length_le (by have := HIE.out; omega)
      have HTK := Aside0.mk htk
      have hfw := wraps_fed l behind.toNat (by have := HN.out; omega) (by have h_ := HK.out.2.2.2; rw [htk] at h_; exact h_)
      rw [show ((l.map wrL).flatten) = bs from by rw [HBS.out, htk]] at hfw
      have hbl : bs.length ≤ 30000 := by have h2_ := HK.out; have := HN.out; rw [HBS.out, wraps_length, List.length_take]; omega
      obtain ⟨zs, hzs⟩ : ∃ zs, zs = bs ++ List.replicate behind.toNat (0 : Int) := ⟨_, rfl⟩
      obtain ⟨P5, hP5⟩ : ∃ P5, P5 = List.replicate behind.toNat (0 : Int) := ⟨_, rfl⟩
      have hp5 : (P5.length : Int) = behind := by have := HN.out; rw [hP5, List.length_replicate]; omega
      rw [← hzs, ← hP5] at hfw
      have hzl : zs.length ≤ 40000 := by have := HN.out; rw [hzs, List.length_append, List.length_replicate]; omega
      have HFW := Aside0.mk hfw
      have HZS := Aside0.mk hzs
      have HBL := Aside0.mk hbl
      have HZL := Aside0.mk hzl
      have HP5 := Aside0.mk (show P5.length ≤ 1000 from by have := HN.out; omega)
      obtain ⟨ks, hks⟩ := same_f l (by have := HN.out; omega) (fun x hx => by have h_ := HK.out.2.2.2; rw [htk] at h_; have := h_ x hx; omega)
      have HKS := Aside0.mk hks
      clear hfw hzs hP5 hzl hks htk hi hbl
      go_wp2_with fail
      refine (frame_New.calls _).mono ?_
      rintro e w1 ⟨rfl, hF, hb⟩
      have HF1 := Aside0.mk (FdX.fresh (base := w.heap.size) hF)
      have HFA := Aside0.mk hF
      have HB1 := Aside0.mk (below_step HBr.out hb)
      have HV1 := Aside0.mk (Kd.R_below HV.out hb)
      clear hF hb
      go_wp2_with (at_builtin; refine Kd.R_append_zeros (Kd.int .u8) (w0 := w) w.heap.size rfl (.tmp 71) (.tmp 72) 23 3 5 (.int .u8 0) 1 rfl Try.underlying23 Try.underlying3 info_u8 rfl (by decide) (by omega) u6 bs (0 : Int) behind (fun k_ => True) rfl rfl rfl (fun _ _ => trivial) HV1.out (by have := HN.out; omega) HB1.out HB1.out.size ?aL ?_; (case aL => have := HBL.out; have := HN.out; omega); intro vz w2 ho hb hg hat; rw [← HZS.out] at ho; have HF2 := Aside0.mk (HF1.out.step (hg.block _ HF1.out.lt (Kd.R_ne HV1.out HFA.out (by decide))) (fun k h => by cases h)); have HFA2 := Aside0.mk (HFA.out.keep (hg.block _ HF1.out.lt (Kd.R_ne HV1.out HFA.out (by decide)))); obtain ⟨Az, cz, ez⟩ := Kd.R_slice ho; subst ez; have HZ2 := Aside0.mk ho; have HB2 := Aside0.mk hb; clear ho hb hg hat HF1 HFA HV1 HB1)
      refine (frame_Feed.calls wr.heap.size w.heap.size [] false _ Az cz zs w2 l P5 false HBr.out.size HB2.out.size HF2.out (fun W hk => own_C2 HZ2.out hk (fun k h => ⟨fun e => Kd.R_ne HZ2.out HFA2.out (by decide) (by rw [← e]; exact h.symm), by simp [Value.ownBlock]⟩)) (Kd.R_reads' HZ2.out).2.1 (by have := HZL.out; simp only [List.length_nil]; omega) HFW.out).mono ?_
      rintro e w4 ⟨vx, vf, rfl, hox, hxf, huf, hbf, hkf⟩
      obtain ⟨Ax, cx, ex⟩ := Kd.R_slice hox
      subst ex
      have HX4 := Aside0.mk (Kd.R_reads' hox).2
      have HF4 := Aside0.mk hxf
      have HB4 := Aside0.mk (HB2.out.trans hbf)
      have HL4 := Aside0.mk (Kd.C_below HR.out HB4.out)
      clear hox hxf huf hbf hkf HF2 HFA2 HZ2 HB2
      go_wp2_with fail
      refine (bollardlaw19_same.calls ks Ax cx l A c l true w4 HX4.out.2 HX4.out.1 HL4.out HC.out HKS.out).mono ?_
      rintro e w6 ⟨rfl, ⟨q, rfl⟩⟩
      go_wp2_with fail
      refine ((HF4.out.below (pw_below_drewN (Below.refl _ _) q)).waiting (by have := HP5.out; omega)).mono ?_
      rintro e w7 ⟨rfl, m1, rfl⟩
      go_wp2_with fail
      refine (bollardlaw19_awake.calls _).mono ?_
      rintro e w9 ⟨rfl, hb9⟩
      have HB9 := Aside0.mk (below_step (pw_below_drewN HB4.out _) hb9)
      clear hb9
      go_wp2
      go_ret
      exact ⟨rfl, HB9.out⟩
set_option maxHeartbeats 1000000 in
set_option maxRecDepth 100000 in
theorem frameback_guard0 (A : Option Addr) (c : Nat) (l : List (List Int)) (behind : Int) (w : World) (h0 : 30 < l.length) :
    Calls Try.prog 7 #[.slice A l.length c, .int .i64 behind] w fun e w' => e = .returned (.bool true) ∧ Below w.heap.size w w' := by
  have f0 : decide (30 < (l.length : Int)) = true := decide_eq_true (by omega)
  clear h0
  go_enter Try.func7, Try.ntmps7
  go_wp2_with fail
  refine (bollardlaw19_awake.calls _).mono ?_
  rintro e w9 ⟨rfl, hb9⟩
  have HB9 := Aside0.mk (hb9)
  clear hb9
  go_wp2
  go_ret
  exact ⟨rfl, HB9.out⟩
set_option maxHeartbeats 1000000 in
set_option maxRecDepth 100000 in
theorem frameback_guard1 (A : Option Addr) (c : Nat) (l : List (List Int)) (behind : Int) (w : World) (h0 : l.length ≤ 30) (h1 : behind < 0) :
    Calls Try.prog 7 #[.slice A l.length c, .int .i64 behind] w fun e w' => e = .returned (.bool true) ∧ Below w.heap.size w w' := by
  have f0 : decide (30 < (l.length : Int)) = false := decide_eq_false (by omega)
  have f1 : decide (behind < 0) = true := decide_eq_true (by omega)
  clear h0 h1
  go_enter Try.func7, Try.ntmps7
  go_wp2_with fail
  refine (bollardlaw19_awake.calls _).mono ?_
  rintro e w9 ⟨rfl, hb9⟩
  have HB9 := Aside0.mk (hb9)
  clear hb9
  go_wp2
  go_ret
  exact ⟨rfl, HB9.out⟩
set_option maxHeartbeats 1000000 in
set_option maxRecDepth 100000 in
theorem frameback_guard2 (A : Option Addr) (c : Nat) (l : List (List Int)) (behind : Int) (w : World) (h0 : l.length ≤ 30) (h1 : 0 ≤ behind) (h2 : 3 < behind) :
    Calls Try.prog 7 #[.slice A l.length c, .int .i64 behind] w fun e w' => e = .returned (.bool true) ∧ Below w.heap.size w w' := by
  have f0 : decide (30 < (l.length : Int)) = false := decide_eq_false (by omega)
  have f1 : decide (behind < 0) = false := decide_eq_false (by omega)
  have f2 : decide (3 < behind) = true := decide_eq_true (by omega)
  clear h0 h1 h2
  go_enter Try.func7, Try.ntmps7
  go_wp2_with fail
  refine (bollardlaw19_awake.calls _).mono ?_
  rintro e w9 ⟨rfl, hb9⟩
  have HB9 := Aside0.mk (hb9)
  clear hb9
  go_wp2
  go_ret
  exact ⟨rfl, HB9.out⟩
def bollardlaw19_FrameBack.f (l : List (List Int)) (behind : Int) : Option Bool := if ∀ x ∈ l, x.length ≤ 140737488351232 then some true else none
theorem bollardlaw19_FrameBack.calls (A : Option Addr) (c : Nat) (l : List (List Int)) (behind : Int) (r : Bool) (w : World) (hr : kRow.C w A l.length l) (hc : l.length ≤ c) (h : bollardlaw19_FrameBack.f l behind = some r) :
    Calls Try.prog 7 #[.slice A l.length c, .int .i64 behind] w fun e w' => e = .returned (.bool r) ∧ Below w.heap.size w w' := by
  unfold bollardlaw19_FrameBack.f at h
  split at h
  case isFalse => cases h
  rename_i hb
  obtain rfl := Option.some.inj h
  by_cases h0 : 30 < l.length
  case pos => exact frameback_guard0 A c l behind w (by omega)
  by_cases h1 : behind < 0
  case pos => exact frameback_guard1 A c l behind w (by omega) (by omega)
  by_cases h2 : 3 < behind
  case pos => exact frameback_guard2 A c l behind w (by omega) (by omega) (by omega)
  exact frameback_main A c l behind w hb hr hc (by omega) (by omega) (by omega)

/-- THE ONE PURE STATEMENT of bollardlaw19_FrameBack: mine. -/
def bollardlaw19_FrameBack.Pure : Prop := ∀ (l0 : List (List Int)) (a1 : Int), (l0.length * 24 ≤ 140737488351232 ∧ ∀ y0 ∈ l0, (y0.length * 1 ≤ 140737488351232 ∧ ∀ y1 ∈ y0, (Lit.int .u8 y1).wf = true)) → (Lit.int .i64 a1).wf = true → bollardlaw19_FrameBack.f l0 a1 = some true

/-! ### bollardlaw19_FrameOver -/
set_option maxHeartbeats 1000000 in
set_option maxRecDepth 100000 in
theorem frameover_main (A : Option Addr) (c : Nat) (l : List (List Int)) (n : Int) (A2 : Option Addr) (c2 : Nat) (m : List Int) (w : World) (hxs : ∀ x ∈ l, x.length ≤ 140737488351232) (hr : kRow.C w A l.length l) (hc : l.length ≤ c) (hm : Kd.C (Kd.int .u8) w A2 m.length m) (hc2 : m.length ≤ c2) (g3 : n < 4294967296) (g0 : l.length ≤ 10) (g1 : 8192 < n) (g2 : m.length ≤ 2000) :
    Calls Try.prog 8 #[.slice A l.length c, .int .u32 n, .slice A2 m.length c2] w fun e w' => e = .returned (.bool true) ∧ Below w.heap.size w w' := by
  have f0 : decide (10 < (l.length : Int)) = false := decide_eq_false (by omega)
  have f1 : decide (n ≤ 8192) = false := decide_eq_false (by omega)
  have f2 : decide (2000 < (m.length : Int)) = false := decide_eq_false (by omega)
  have HN := Aside0.mk (And.intro g0 (And.intro g1 (And.intro g2 g3)))
  have HR := Aside0.mk hr
  have HXS := Aside0.mk hxs
  have HC := Aside0.mk hc
  have HM := Aside0.mk hm
  have HC2 := Aside0.mk hc2
  clear g0 g1 g2 g3 hr hc hxs hm hc2
  go_enter Try.func8, Try.ntmps8
  go_wp2_with fail
  go_loopg [7, 8] (l.length + 1) (fun kq v7 v8 w' => ∃ (i : Nat), v8 = .int .i64 (i : Int) ∧ Aside0 (kq + i = l.length + 1 ∧ i ≤ l.length ∧ sumL (l.take i) ≤ 2000 * i ∧ ∀ x ∈ l.take i, x.length ≤ 2000) ∧ Aside0 (Kd.R (Kd.int .u8) 5 w' w.heap.size (fun _ => True) v7 ((l.take i).map wrL).flatten) ∧ Aside0 (Below w.heap.size w w'))
  case atStart => exact ⟨0, rfl, ⟨by omega, by omega, by simp [sumL], by simp⟩, ⟨Kd.R_nil _ _ _ _ _⟩, ⟨Below.refl _ _⟩⟩
  case round =>
    obtain ⟨j, rfl, HK, HV, HBr⟩ := hrel
    obtain ⟨i, hie⟩ : ∃ i : Int, i = (j : Int) := ⟨_, rfl⟩
    obtain ⟨bs, hbs⟩ : ∃ bs, bs = ((l.take j).map wrL).flatten := ⟨_, rfl⟩
    rw [← hie]
    rw [← hbs] at HV
    have HBS := Aside0.mk hbs
    have HIE := Aside0.mk hie
    clear hbs hie
    have HLr := Aside0.mk (Kd.C_below HR.out HBr.out)
    by_cases hi : i < (l.length : Int)
    · have d1 : decide (i < (l.length : Int)) = true := decide_eq_true hi
      have b0 : 0 ≤ i := by have := HIE.out; omega
      have hjl : j < l.length := by have := HIE.out; omega
      obtain ⟨ad, A0, c0, rfl, hx, hcx, hCx⟩ := at_L1 HLr.out i b0 hi
      obtain ⟨x, hxe⟩ : ∃ x, x = rd_L1 l i := ⟨_, rfl⟩
      rw [← hxe] at hx hcx hCx
      have hst := sum_take hjl
      rw [← HIE.out, ← hxe] at hst
      have HST := Aside0.mk hst
      have hs1 : sumL (l.take (j + 1)) = sumL (l.take j) + x.length := by rw [hst]; unfold sumL; rw [List.flatten_append, List.length_append]; simp
      have HS1 := Aside0.mk hs1
      have HCX := Aside0.mk hcx
      have HX := Aside0.mk hCx
      have p1 := eq_true b0
      have p2 := eq_true hi
      have HLB := Aside0.mk (show bs.length ≤ 60000 from by have h1_ := HN.out; have h2_ := HK.out; rw [HBS.out, wraps_length, List.length_take]; omega)
      have e1 : IntKind.i64.wrap (i + 1) = i + 1 := (i64_w _).trans (by have := HN.out; unfold wrap64; omega)
      clear b0 hjl hxe hst hs1 hcx hCx
      by_cases h8 : x.length ≤ 8192
      · obtain ⟨ws, hws⟩ : ∃ ws, ws = wrL x := ⟨_, rfl⟩
        have HW := Aside0.mk (show frame_Wrap.f x = some (ws, true) from by rw [hws]; exact wrap_f x h8)
        have HWS := Aside0.mk hws
        have HWL := Aside0.mk (show ws.length = x.length + 4 from by rw [hws]; exact wrL_length x)
        clear h8 hws
        go_wp2_with fail
        refine (frame_Wrap.calls A0 c0 x ws true wr HX.out HCX.out HW.out).mono ?_
        rintro e w3 ⟨vw, rfl, how, hbw⟩
        obtain ⟨Aw, cw, ew⟩ := Kd.R_slice how
        subst ew
        have HWC := Aside0.mk (Kd.R_reads' how).2.2
        have HV3 := Aside0.mk (Kd.R_below HV.out hbw)
        have HB3 := Aside0.mk (below_step HBr.out hbw)
        have hx3 := pw_cell_below hbw hx
        clear how hbw hx
        by_cases h2 : 2000 < x.length
        · have d3 : decide (2000 < (x.length : Int)) = true := decide_eq_true (by omega)
          clear h2
          go_wp2_with fail
          refine (bollardlaw19_awake.calls _).mono ?_
          rintro e w9 ⟨rfl, hb9⟩
          have HB9 := Aside0.mk (below_step HB3.out hb9)
          clear hb9
          go_wp2
          go_ret
          exact ⟨rfl, HB9.out⟩
        have d3 : decide (2000 < (x.length : Int)) = false := decide_eq_false (by omega)
        have H8 := Aside0.mk h2
        clear h2
        go_wp2_with (at_builtin; refine Kd.R_append_rows (Kd.int .u8) (w0 := w) w.heap.size rfl (.tmp 57) (.tmp 58) 23 5 (.int .u8 0) 1 rfl Try.underlying23 info_u8 rfl (by decide) (by decide) u7 bs ws Aw ws.length cw (fun _ => True) (fun _ => False) rfl rfl HV3.out HWC.out (fun _ _ h => h) (fun _ h => h.elim) (fun _ _ => trivial) HB3.out HB3.out.size ?aL ?_; (case aL => have := HLB.out; have := HWL.out; have := H8.out; omega); intro vb w5 ho hb hg hat; have HV5 := Aside0.mk ho; have HB5 := Aside0.mk hb; clear ho hb hg hat)
        go_roundg (l.length + 1 - (j + 1))
        case measure => have := HK.out; omega
        case rel => exact ⟨j + 1, by rw [HIE.out]; rfl, ⟨by have := HK.out; have := HIE.out; omega, by have := HIE.out; omega, by rw [HS1.out]; have := H8.out; have := HK.out; omega, by rw [HST.out]; intro y hy; rcases List.mem_append.1 hy with hy | hy; exact HK.out.2.2.2 y hy; rw [List.mem_singleton.1 hy]; have := H8.out; omega⟩, ⟨by rw [HST.out, List.map_append, List.flatten_append, ← HBS.out]; simpa [← HWS.out] using HV5.out⟩, HB5⟩
      · have HW := Aside0.mk (wrap_no x h8)
        clear h8
        go_wp2_with fail
        refine (frame_Wrap.calls A0 c0 x [] false wr HX.out HCX.out HW.out).mono ?_
        rintro e w3 ⟨vw, rfl, how, hbw⟩
        obtain ⟨Aw, cw, ew⟩ : ∃ A c, vw = .slice A 0 c := Kd.R_slice how
        subst ew
        have HB3 := Aside0.mk (below_step HBr.out hbw)
        clear how hbw hx
        go_wp2_with fail
        refine (bollardlaw19_awake.calls _).mono ?_
        rintro e w9 ⟨rfl, hb9⟩
        have HB9 := Aside0.mk (below_step HB3.out hb9)
        clear hb9
        go_wp2
        go_ret
        exact ⟨rfl, HB9.out⟩
    · have d1 : decide (i < (l.length : Int)) = false := decide_eq_false hi
      have htk : l.take j = l := List.take_of_length_le (by have := HIE.out; omega)
      have hfw := wraps_over l ((n / 16777216) % 256) ((n / 65536) % 256) ((n / 256) % 256) (n % 256) (fun x hx => by have h_ := HK.out.2.2.2; rw [htk] at h_; have := h_ x hx; omega) (by have h_ := hdL_len n (by have := HN.out; omega) (by have := HN.out; omega); rw [show lenP [_, _, _, _] = n from h_]; have := HN.out; omega)
      rw [show ((l.map wrL).flatten) = bs from by rw [HBS.out, htk]] at hfw
      have hbl : bs.length ≤ 30000 := by have h2_ := HK.out; have := HN.out; rw [HBS.out, wraps_length, List.length_take]; omega
      obtain ⟨hs, hhs⟩ : ∃ hs, hs = [(n / 16777216) % 256, (n / 65536) % 256, (n / 256) % 256, n % 256] := ⟨_, rfl⟩
      rw [← hhs] at hfw
      obtain ⟨zs, hzs⟩ : ∃ zs, zs = bs ++ hs := ⟨_, rfl⟩
      rw [← hzs] at hfw
      have hzl : zs.length ≤ 40000 := by rw [hzs, hhs, List.length_append]; simp only [List.length_cons, List.length_nil]; omega
      have HFW := Aside0.mk hfw
      have HZS := Aside0.mk hzs
      have HHS := Aside0.mk hhs
      have HBL := Aside0.mk hbl
      have HZL := Aside0.mk hzl
      obtain ⟨ks, hks⟩ := same_f l (by have := HN.out; omega) (fun x hx => by have h_ := HK.out.2.2.2; rw [htk] at h_; have := h_ x hx; omega)
      have HKS := Aside0.mk hks
      clear hfw hzs hhs hzl hks htk hi hbl
      go_wp2_with fail
      refine (frame_New.calls _).mono ?_
      rintro e w1 ⟨rfl, hF, hb⟩
      have HF1 := Aside0.mk (FdX.fresh (base := w.heap.size) hF)
      have HFA := Aside0.mk hF
      have HB1 := Aside0.mk (below_step HBr.out hb)
      have HV1 := Aside0.mk (Kd.R_below HV.out hb)
      clear hF hb
      obtain ⟨W, hW⟩ : ∃ W, W = w1.alloc (.cells #[.int .u8 (n / 16777216 % 256), .int .u8 (n / 65536 % 256), .int .u8 (n / 256 % 256), .int .u8 (n % 256)] 5 (0, 0)) := ⟨_, rfl⟩
      have HBa := Aside0.mk (show Below w1.heap.size w1 W from by rw [hW]; exact below_alloc (Below.refl _ _) _)
      have HLC := Aside0.mk (show Kd.C (Kd.int .u8) W (some ⟨w1.heap.size, 0, none⟩) 4 hs from by
        have h_ := mk_C W w1.heap.size 5 hs (0, 0) (by rw [HHS.out]; exact (show 4 ≤ 9223372036854775807 by decide)) (by rw [hW, HHS.out]; exact heap_alloc_new w1 _)
        rw [show hs.length = 4 from by rw [HHS.out]; rfl] at h_
        exact h_)
      have HWW := Aside0.mk hW
      clear hW
      go_wp2_with (at_builtin; rw [← HWW.out]; refine Kd.R_append_rows (Kd.int .u8) (w0 := w) w.heap.size rfl (.tmp 63) (.tmp 75) 23 5 (.int .u8 0) 1 rfl Try.underlying23 info_u8 rfl (by decide) (by decide) u7 bs hs (some ⟨w1.heap.size, 0, none⟩) 4 4 (fun _ => True) (fun _ => False) rfl rfl (Kd.R_below HV1.out HBa.out) HLC.out (fun _ _ h => h) (fun _ h => h.elim) (fun _ _ => trivial) (below_step HB1.out HBa.out) (below_step HB1.out HBa.out).size ?aL ?_; (case aL => have := HBL.out; omega); intro vz w2 ho hb hg hat; rw [← HZS.out] at ho; have HFW1 := Aside0.mk (HF1.out.below HBa.out); have HFAW := Aside0.mk (HFA.out.keep (HBa.out.block _ HF1.out.lt)); have HF2 := Aside0.mk (HFW1.out.step (hg.block _ HFW1.out.lt (Kd.R_ne (Kd.R_below HV1.out HBa.out) HFAW.out (by decide))) (fun k h => by cases h)); have HFA2 := Aside0.mk (HFAW.out.keep (hg.block _ HFW1.out.lt (Kd.R_ne (Kd.R_below HV1.out HBa.out) HFAW.out (by decide)))); obtain ⟨Az, cz, ez⟩ := Kd.R_slice ho; subst ez; have HZ2 := Aside0.mk ho; have HB2 := Aside0.mk hb; clear ho hb hg hat HF1 HFA HV1 HB1 HBa HLC HWW HFW1 HFAW)
      refine (frame_Feed.calls wr.heap.size w.heap.size [] false _ Az cz zs w2 l [] true HBr.out.size HB2.out.size HF2.out (fun W hk => own_C2 HZ2.out hk (fun k h => ⟨fun e => Kd.R_ne HZ2.out HFA2.out (by decide) (by rw [← e]; exact h.symm), by simp [Value.ownBlock]⟩)) (Kd.R_reads' HZ2.out).2.1 (by have := HZL.out; simp only [List.length_nil]; omega) HFW.out).mono ?_
      rintro e w4 ⟨vx, vf, rfl, hox, hxf, huf, hbf, hkf⟩
      obtain ⟨Ax, cx, ex⟩ := Kd.R_slice hox
      subst ex
      have HX4 := Aside0.mk hox
      have HF4 := Aside0.mk hxf
      have HB4 := Aside0.mk (HB2.out.trans hbf)
      clear hox hxf huf hbf hkf HF2 HFA2 HZ2 HB2
      go_wp2_with fail
      refine (frame_Feed.calls wr.heap.size w.heap.size [] true vf A2 c2 m w4 [] [] true HBr.out.size HB4.out.size HF4.out (fun W hk => came_C HM.out HB4.out hk HBr.out.size (fun k h => (HF4.out.own k h).1)) HC2.out (by have := HN.out; simp only [List.length_nil]; omega) rfl).mono ?_
      rintro e w5 ⟨vy, vf5, rfl, hoy, hxf, huf, hbf, hkf⟩
      obtain ⟨Ay, cy, ey⟩ : ∃ A c, vy = .slice A 0 c := Kd.R_slice hoy
      subst ey
      have HX5 := Aside0.mk (told_step HX4.out HF4.out hkf huf)
      have HF5 := Aside0.mk hxf
      have HB5 := Aside0.mk (HB4.out.trans hbf)
      clear hoy hxf huf hbf hkf HF4 HB4 HX4
      have HL5 := Aside0.mk (Kd.C_below HR.out HB5.out)
      go_wp2_with fail
      refine (feed_nil _ w5).mono ?_
      rintro e w6 ⟨rfl, rfl⟩
      go_wp2_with fail
      refine (bollardlaw19_same.calls ks Ax cx l A c l true _ (Kd.R_reads' HX5.out).2.2 (Kd.R_reads' HX5.out).2.1 HL5.out HC.out HKS.out).mono ?_
      rintro e w7 ⟨rfl, ⟨q, rfl⟩⟩
      go_wp2_with fail
      refine ((HF5.out.below (pw_below_drewN (Below.refl _ _) q)).waiting (by decide)).mono ?_
      rintro e w8 ⟨rfl, m1, rfl⟩
      go_wp2_with fail
      refine (bollardlaw19_awake.calls _).mono ?_
      rintro e w9 ⟨rfl, hb9⟩
      have HB9 := Aside0.mk (below_step (pw_below_drewN HB5.out _) hb9)
      clear hb9
      go_wp2
      go_ret
      exact ⟨rfl, HB9.out⟩
set_option maxHeartbeats 1000000 in
set_option maxRecDepth 100000 in
theorem frameover_guard0 (A : Option Addr) (c : Nat) (l : List (List Int)) (n : Int) (A2 : Option Addr) (c2 : Nat) (m : List Int) (w : World) (h0 : 10 < l.length) :
    Calls Try.prog 8 #[.slice A l.length c, .int .u32 n, .slice A2 m.length c2] w fun e w' => e = .returned (.bool true) ∧ Below w.heap.size w w' := by
  have f0 : decide (10 < (l.length : Int)) = true := decide_eq_true (by omega)
  clear h0
  go_enter Try.func8, Try.ntmps8
  go_wp2_with fail
  refine (bollardlaw19_awake.calls _).mono ?_
  rintro e w9 ⟨rfl, hb9⟩
  have HB9 := Aside0.mk (hb9)
  clear hb9
  go_wp2
  go_ret
  exact ⟨rfl, HB9.out⟩
set_option maxHeartbeats 1000000 in
set_option maxRecDepth 100000 in
theorem frameover_guard1 (A : Option Addr) (c : Nat) (l : List (List Int)) (n : Int) (A2 : Option Addr) (c2 : Nat) (m : List Int) (w : World) (h0 : l.length ≤ 10) (h1 : n ≤ 8192) :
    Calls Try.prog 8 #[.slice A l.length c, .int .u32 n, .slice A2 m.length c2] w fun e w' => e = .returned (.bool true) ∧ Below w.heap.size w w' := by
  have f0 : decide (10 < (l.length : Int)) = false := decide_eq_false (by omega)
  have f1 : decide (n ≤ 8192) = true := decide_eq_true (by omega)
  clear h0 h1
  go_enter Try.func8, Try.ntmps8
  go_wp2_with fail
  refine (bollardlaw19_awake.calls _).mono ?_
  rintro e w9 ⟨rfl, hb9⟩
  have HB9 := Aside0.mk (hb9)
  clear hb9
  go_wp2
  go_ret
  exact ⟨rfl, HB9.out⟩
set_option maxHeartbeats 1000000 in
set_option maxRecDepth 100000 in
theorem frameover_guard2 (A : Option Addr) (c : Nat) (l : List (List Int)) (n : Int) (A2 : Option Addr) (c2 : Nat) (m : List Int) (w : World) (h0 : l.length ≤ 10) (h1 : 8192 < n) (h2 : 2000 < m.length) :
    Calls Try.prog 8 #[.slice A l.length c, .int .u32 n, .slice A2 m.length c2] w fun e w' => e = .returned (.bool true) ∧ Below w.heap.size w w' := by
  have f0 : decide (10 < (l.length : Int)) = false := decide_eq_false (by omega)
  have f1 : decide (n ≤ 8192) = false := decide_eq_false (by omega)
  have f2 : decide (2000 < (m.length : Int)) = true := decide_eq_true (by omega)
  clear h0 h1 h2
  go_enter Try.func8, Try.ntmps8
  go_wp2_with fail
  refine (bollardlaw19_awake.calls _).mono ?_
  rintro e w9 ⟨rfl, hb9⟩
  have HB9 := Aside0.mk (hb9)
  clear hb9
  go_wp2
  go_ret
  exact ⟨rfl, HB9.out⟩
def bollardlaw19_FrameOver.f (l : List (List Int)) (n : Int) (m : List Int) : Option Bool := if (∀ x ∈ l, x.length ≤ 140737488351232) ∧ n < 4294967296 then some true else none
theorem bollardlaw19_FrameOver.calls (A : Option Addr) (c : Nat) (l : List (List Int)) (n : Int) (A2 : Option Addr) (c2 : Nat) (m : List Int) (r : Bool) (w : World) (hr : kRow.C w A l.length l) (hc : l.length ≤ c) (hm : Kd.C (Kd.int .u8) w A2 m.length m) (hc2 : m.length ≤ c2) (h : bollardlaw19_FrameOver.f l n m = some r) :
    Calls Try.prog 8 #[.slice A l.length c, .int .u32 n, .slice A2 m.length c2] w fun e w' => e = .returned (.bool r) ∧ Below w.heap.size w w' := by
  unfold bollardlaw19_FrameOver.f at h
  split at h
  case isFalse => cases h
  rename_i hb
  obtain rfl := Option.some.inj h
  by_cases h0 : 10 < l.length
  case pos => exact frameover_guard0 A c l n A2 c2 m w (by omega)
  by_cases h1 : n ≤ 8192
  case pos => exact frameover_guard1 A c l n A2 c2 m w (by omega) (by omega)
  by_cases h2 : 2000 < m.length
  case pos => exact frameover_guard2 A c l n A2 c2 m w (by omega) (by omega) (by omega)
  exact frameover_main A c l n A2 c2 m w hb.1 hr hc hm hc2 hb.2 (by omega) (by omega) (by omega)

/-- THE ONE PURE STATEMENT of bollardlaw19_FrameOver: mine. -/
def bollardlaw19_FrameOver.Pure : Prop := ∀ (l0 : List (List Int)) (a1 : Int) (l2 : List Int), (l0.length * 24 ≤ 140737488351232 ∧ ∀ y0 ∈ l0, (y0.length * 1 ≤ 140737488351232 ∧ ∀ y1 ∈ y0, (Lit.int .u8 y1).wf = true)) → (Lit.int .u32 a1).wf = true → (l2.length * 1 ≤ 140737488351232 ∧ ∀ y0 ∈ l2, (Lit.int .u8 y0).wf = true) → bollardlaw19_FrameOver.f l0 a1 l2 = some true

end Go.Proofs.Ytgicdiblfcnelaa.PFr
