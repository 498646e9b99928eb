-- written by a program of this session (wip/tools/pr.py, over the kit's printer): not by hand
import Derived.Test.YtgmeellapjimgaaQPBmx1
import Derived.Test.YtgmeellapjimgaaQPBmx8
import Derived.Test.YtgmeellapjimgaaQPBmx9
namespace Go.Proofs.Ytgmeellapjimgaa.PBm
open Go.RowKit Go.Proofs.YtgmeellapjimgaaW.PrintWords Go.Proofs.YtgmeellapjimgaaW.PrintLast Go.Proofs.YtgmeellapjimgaaW.PrintMore
attribute [local go_sem] max2_int min2_int max_two min_two max_three min_three max_four min_four   -- for this text's walks alone
set_option linter.unusedVariables false
set_option linter.unusedSimpArgs false

/-! ### bollardref1_More: function 48 -/
def bollardref1_More.l0 : Nat → Int → List Int → Int → Option (Int)
  | 0, _, _, _ => none
  | k + 1, x0, x1, x5 => if x5 < (x1.length : Int) then (if 0 ≤ x5 then ((bollardref1_step.f k x0 (rd x1 x5)).bind fun t264 => (bollardref1_More.l0 k t264 x1 (wrap64 (x5 + 1)))) else (none)) else (some (Go.bits .xor .u32 4294967295 x0))
def bollardref1_More.f (k : Nat) (a0 : Int) (l1 : List Int) : Option (Int) := bollardref1_More.l0 k (Go.bits .xor .u32 4294967295 a0) l1 0
set_option maxRecDepth 100000 in
theorem bollardref1_More.mono_l : ∀ k, (∀ y0 y1 y2, LeO (bollardref1_More.l0 k y0 y1 y2) (bollardref1_More.l0 (k + 1) y0 y1 y2))
  | 0 => fun _ _ _ r h => by first | exact nomatch (show (none : Option _) = some r from h) | (rw [bollardref1_More.l0] at h; cases h; done) | (simp [bollardref1_More.l0] at h; done)
  | k + 1 => by
    have ih0 := bollardref1_More.mono_l k
    · intro y0 y1 y2
      unfold bollardref1_More.l0
      repeat' first
      | (with_reducible exact ih0 _ _ _)
      | (with_reducible exact bollardref1_step.mono _ _ _)
      | (with_reducible exact LeO.refl _)
      | (with_reducible exact LeO.none _)
      | (with_reducible refine LeO.ite ?_ ?_)
      | (with_reducible refine LeO.bind ?_ (fun _ => ?_))
      | exact ih0 _ _ _
      | exact bollardref1_step.mono _ _ _
      | exact LeO.none _
      | refine LeO.ite ?_ ?_
      | refine LeO.bind ?_ (fun _ => ?_)
theorem bollardref1_More.mono : ∀ a0 a1 k, LeO (bollardref1_More.f k a0 a1) (bollardref1_More.f (k + 1) a0 a1) := by
  intro a0 a1 k
  have ih0 := bollardref1_More.mono_l k
  unfold bollardref1_More.f
  repeat' first
      | (with_reducible exact ih0 _ _ _)
      | (with_reducible exact bollardref1_step.mono _ _ _)
      | (with_reducible exact LeO.refl _)
      | (with_reducible exact LeO.none _)
      | (with_reducible refine LeO.ite ?_ ?_)
      | (with_reducible refine LeO.bind ?_ (fun _ => ?_))
      | exact ih0 _ _ _
      | exact bollardref1_step.mono _ _ _
      | exact LeO.none _
      | refine LeO.ite ?_ ?_
      | refine LeO.bind ?_ (fun _ => ?_)
set_option maxHeartbeats 8000000 in
set_option maxRecDepth 100000 in
theorem bollardref1_More.calls (k : Nat) (a0 : Int) (A1 : Option Addr) (c1 : Nat) (l1 : List Int) (r : Int) (w : World) (hr1 : Kd.C (Kd.int .u8) w A1 l1.length l1) (hc1 : l1.length ≤ c1) (h : bollardref1_More.f k a0 l1 = some r) :
    Calls Try.prog 48 #[.int .u32 a0, .slice A1 l1.length c1] w fun e w' => e = .returned (.int .u32 r) ∧ Drawn0 w w' := by
  have HR1 := Aside0.mk hr1
  have HC1 := Aside0.mk hc1
  clear hr1 hc1
  have H : (bollardref1_More.l0 k (Go.bits .xor .u32 4294967295 a0) l1 0) = some r := h
  clear h
  have H' := Aside0.mk H
  clear H
  go_enter Try.func48, Try.ntmps48
  go_wp2
  go_loopg [0, 5] k (fun kq v0 v5 w' => ∃ (x0_1 : Int) (x5_1 : Int), v0 = .int .u32 x0_1 ∧ v5 = .int .i64 x5_1 ∧ Aside0 (bollardref1_More.l0 kq x0_1 l1 x5_1 = some r) ∧ Aside0 (kq ≤ k) ∧ Drawn0 w w')
  case atStart => exact ⟨(Go.bits .xor .u32 4294967295 a0), (0), (by first | rfl | (simp; done) | (simp [*]; done) | exact congrArg Value.bool (ne_empty _) | exact congrArg Value.bool (eq_empty _)), (by first | rfl | (simp; done) | (simp [*]; done) | exact congrArg Value.bool (ne_empty _) | exact congrArg Value.bool (eq_empty _)), H', ⟨Nat.le_refl _⟩, by repeat (first | exact Drawn0.refl _ | apply Drawn0.step)⟩
  case round =>
    clear H'
    try clear c1
    try clear p2
    obtain ⟨x0_1, x5_1, rfl, rfl, HA, HK1, ⟨m1, rfl⟩⟩ := hrel
    cases gk with
    | zero => exact absurd HA.out (by first | (intro h_; exact nomatch (show (none : Option _) = some r from h_)) | simp [bollardref1_More.l0])
    | succ k1 =>
      have H := HA.out
      clear HA
      simp only [bollardref1_More.l0] at H
      by_cases c3 : x5_1 < (l1.length : Int)
      · rw [if_pos c3] at H
        have c3b0 : decide (x5_1 < (l1.length : Int)) = true := decide_eq_true c3
        clear c3
        by_cases c4 : 0 ≤ x5_1
        · rw [if_pos c4] at H
          have c4b0 : decide (0 ≤ x5_1) = true := decide_eq_true c4
          clear c4
          replace H := Option.bind_eq_some_iff.mp H
          obtain ⟨t264, A50, H⟩ := H
          replace H : (bollardref1_More.l0 k1 t264 l1 (wrap64 (x5_1 + 1))) = some r := H
          have A5 := Aside0.mk A50
          clear A50
          have H' := Aside0.mk H
          clear H
          have p263 : 0 ≤ (x5_1 : Int) := of_decide_eq_true (by first | (with_reducible assumption) | assumption)
          have q263 : x5_1 < (l1.length : Int) := of_decide_eq_true (by first | (with_reducible assumption) | assumption)
          obtain ⟨ad263, e263, hx263_0⟩ := Kd.at_int HR1.out x5_1 p263 q263
          cases e263
          replace p263 := eq_true p263
          replace q263 := eq_true q263
          go_wp2_with (first | ((with_reducible refine gate_callee (f := 66) rfl ?_); refine goesL_ (some 19) rfl rfl Try.func66 (by kernel_rfl) rfl #[.int .u32 x0_1, .int .u8 (rd l1 x5_1)] rfl (by (try simp only [List.map_toArray, List.map_cons, List.map_nil]); first | done | rfl | (simp only [List.length_drop, List.length_take]; rfl)) ?_; (with_reducible refine (bollardref1_step.calls k1 x0_1 (rd l1 x5_1) t264 _ A5.out).mono ?_); rintro e w' ⟨rfl, ⟨nd, rfl⟩⟩; refine ⟨_, rfl, ?_⟩))
          go_roundg k1
          case measure => have := HK1.out; omega
          case rel => exact ⟨(t264), (wrap64 (x5_1 + 1)), (by first | rfl | (simp; done) | (simp [*]; done) | exact congrArg Value.bool (ne_empty _) | exact congrArg Value.bool (eq_empty _)), (by first | rfl | (simp; done) | (simp [*]; done) | exact congrArg Value.bool (ne_empty _) | exact congrArg Value.bool (eq_empty _)), H', ⟨by have := HK1.out; omega⟩, by repeat (first | exact Drawn0.refl _ | apply Drawn0.step)⟩
        · rw [if_neg c4] at H
          exact absurd H (by simp)
      · rw [if_neg c3] at H
        have c3b0 : decide (x5_1 < (l1.length : Int)) = false := decide_eq_false c3
        clear c3
        obtain rfl := Option.some.inj H
        go_wp2
        go_ret
        exact ⟨by first | rfl | (simp; done) | (simp [*]; done) | exact congrArg Value.bool (ne_empty _) | exact congrArg Value.bool (eq_empty _), by repeat (first | exact Drawn0.refl _ | apply Drawn0.step)⟩

/-! ### bollardref1_Sum: function 30 -/
def bollardref1_Sum.f (k : Nat) (l0 : List Int) : Option (Int) := (bollardref1_More.f k 0 l0).bind fun t265 => (some t265)
theorem bollardref1_Sum.mono : ∀ a0 k, LeO (bollardref1_Sum.f k a0) (bollardref1_Sum.f (k + 1) a0) := by
  intro a0 k
  unfold bollardref1_Sum.f
  repeat' first
      | (with_reducible exact bollardref1_More.mono _ _ _)
      | (with_reducible exact LeO.refl _)
      | (with_reducible exact LeO.none _)
      | (with_reducible refine LeO.ite ?_ ?_)
      | (with_reducible refine LeO.bind ?_ (fun _ => ?_))
      | exact bollardref1_More.mono _ _ _
      | exact LeO.none _
      | refine LeO.ite ?_ ?_
      | refine LeO.bind ?_ (fun _ => ?_)
set_option maxHeartbeats 8000000 in
set_option maxRecDepth 100000 in
theorem bollardref1_Sum.calls (k : Nat) (A0 : Option Addr) (c0 : Nat) (l0 : List Int) (r : Int) (w : World) (hr0 : Kd.C (Kd.int .u8) w A0 l0.length l0) (hc0 : l0.length ≤ c0) (h : bollardref1_Sum.f k l0 = some r) :
    Calls Try.prog 30 #[.slice A0 l0.length c0] w fun e w' => e = .returned (.int .u32 r) ∧ Drawn0 w w' := by
  have HR0 := Aside0.mk hr0
  have HC0 := Aside0.mk hc0
  clear hr0 hc0
  have H : ((bollardref1_More.f k 0 l0).bind fun t265 => (some t265)) = some r := h
  clear h
  replace H := Option.bind_eq_some_iff.mp H
  obtain ⟨t265, A20, H⟩ := H
  replace H : (some t265) = some r := H
  have A2 := Aside0.mk A20
  clear A20
  obtain rfl := Option.some.inj H
  go_enter Try.func30, Try.ntmps30
  go_wp2_with (first | ((with_reducible refine gate_callee (f := 48) rfl ?_); refine goesL_ (some 4) rfl rfl Try.func48 (by kernel_rfl) rfl #[.int .u32 0, .slice A0 l0.length c0] rfl (by (try simp only [List.map_toArray, List.map_cons, List.map_nil]); first | done | rfl | (simp only [List.length_drop, List.length_take]; rfl)) ?_; (with_reducible refine (bollardref1_More.calls k 0 _ _ l0 t265 _ ?side1 ?side2 A2.out).mono ?_); (case side1 => repeat (first | exact HR0.out | (with_reducible refine Kd.C_alloc ?_ _) | (with_reducible refine Kd.C_drewN ?_ _) | (with_reducible refine Kd.C_drew ?_))); (case side2 => exact HC0.out); rintro e w' ⟨rfl, ⟨nd, rfl⟩⟩; refine ⟨_, rfl, ?_⟩))
  go_ret
  exact ⟨by first | rfl | (simp; done) | (simp [*]; done) | exact congrArg Value.bool (ne_empty _) | exact congrArg Value.bool (eq_empty _), by repeat (first | exact Drawn0.refl _ | apply Drawn0.step)⟩

/-! ### bollardref12_EncodeBatch: function 14 -/
def bollardref12_EncodeBatch.f (k : Nat) (a0_0 : Int) (a0_1 : Int) (a0_2 : Int) (a0_3 : Int) (l0_4 : List (S45)) : Option (List Int × Int) := (bollardref12_CheckBatch.f k a0_0 a0_1 a0_2 a0_3 l0_4).bind fun t267 => (if t267 = 0 then ((bollardref12_body.f k a0_0 a0_1 a0_2 a0_3 l0_4).bind fun t268 => ((bollardref1_Lay.f k ([] : List Int) 8 (IntKind.u64.wrap (a0_0))).bind fun t271 => ((bollardref1_Lay.f k t271 4 (IntKind.u64.wrap (wrap64 ((t268.length : Int) + 4)))).bind fun t274 => ((bollardref1_Sum.f k t268).bind fun t277 => ((bollardref1_Lay.f k t274 4 (IntKind.u64.wrap (t277))).bind fun t278 => (if t278.length + t268.length < 140737488355328 then (some ((t278 ++ t268), 0)) else (none))))))) else (some (([] : List Int), t267)))
theorem bollardref12_EncodeBatch.mono : ∀ a0 a1 a2 a3 a4 k, LeO (bollardref12_EncodeBatch.f k a0 a1 a2 a3 a4) (bollardref12_EncodeBatch.f (k + 1) a0 a1 a2 a3 a4) := by
  intro a0 a1 a2 a3 a4 k
  unfold bollardref12_EncodeBatch.f
  repeat' first
      | (with_reducible exact bollardref12_CheckBatch.mono _ _ _ _ _ _)
      | (with_reducible exact bollardref12_body.mono _ _ _ _ _ _)
      | (with_reducible exact bollardref1_Lay.mono _ _ _ _)
      | (with_reducible exact bollardref1_Sum.mono _ _)
      | (with_reducible exact LeO.refl _)
      | (with_reducible exact LeO.none _)
      | (with_reducible refine LeO.ite ?_ ?_)
      | (with_reducible refine LeO.bind ?_ (fun _ => ?_))
      | exact bollardref12_CheckBatch.mono _ _ _ _ _ _
      | exact bollardref12_body.mono _ _ _ _ _ _
      | exact bollardref1_Lay.mono _ _ _ _
      | exact bollardref1_Sum.mono _ _
      | exact LeO.none _
      | refine LeO.ite ?_ ?_
      | refine LeO.bind ?_ (fun _ => ?_)
set_option maxHeartbeats 8000000 in
set_option maxRecDepth 100000 in
theorem bollardref12_EncodeBatch.calls (k : Nat) (a0_0 : Int) (a0_1 : Int) (a0_2 : Int) (a0_3 : Int) (A0_4 : Option Addr) (c0_4 : Nat) (l0_4 : List (S45)) (r1 : List Int) (r2 : Int) (w : World) (hr0_4 : Kd.C k45 w A0_4 l0_4.length l0_4) (hc0_4 : l0_4.length ≤ c0_4) (h : bollardref12_EncodeBatch.f k a0_0 a0_1 a0_2 a0_3 l0_4 = some (r1, r2)) :
    Calls Try.prog 14 #[.agg #[.int .i64 a0_0, .int .i64 a0_1, .int .i64 a0_2, .int .i64 a0_3, .slice A0_4 l0_4.length c0_4]] w fun e w' => ∃ v0_ : Value, e = .returned (.tuple #[v0_, .int .i64 r2]) ∧ Kd.R (Kd.int .u8) 5 w' w.heap.size (fun _ => True) v0_ r1 ∧ Below w.heap.size w w' := by
  have hu24 := Try.underlying24
  have HR0_4 := Aside0.mk hr0_4
  have HC0_4 := Aside0.mk hc0_4
  clear hr0_4 hc0_4
  have HB := Aside0.mk (Below.refl w.heap.size w)
  have H : ((bollardref12_CheckBatch.f k a0_0 a0_1 a0_2 a0_3 l0_4).bind fun t267 => (if t267 = 0 then ((bollardref12_body.f k a0_0 a0_1 a0_2 a0_3 l0_4).bind fun t268 => ((bollardref1_Lay.f k ([] : List Int) 8 (IntKind.u64.wrap (a0_0))).bind fun t271 => ((bollardref1_Lay.f k t271 4 (IntKind.u64.wrap (wrap64 ((t268.length : Int) + 4)))).bind fun t274 => ((bollardref1_Sum.f k t268).bind fun t277 => ((bollardref1_Lay.f k t274 4 (IntKind.u64.wrap (t277))).bind fun t278 => (if t278.length + t268.length < 140737488355328 then (some ((t278 ++ t268), 0)) else (none))))))) else (some (([] : List Int), t267)))) = some (r1, r2) := h
  clear h
  replace H := Option.bind_eq_some_iff.mp H
  obtain ⟨t267, A20, H⟩ := H
  replace H : (if t267 = 0 then ((bollardref12_body.f k a0_0 a0_1 a0_2 a0_3 l0_4).bind fun t268 => ((bollardref1_Lay.f k ([] : List Int) 8 (IntKind.u64.wrap (a0_0))).bind fun t271 => ((bollardref1_Lay.f k t271 4 (IntKind.u64.wrap (wrap64 ((t268.length : Int) + 4)))).bind fun t274 => ((bollardref1_Sum.f k t268).bind fun t277 => ((bollardref1_Lay.f k t274 4 (IntKind.u64.wrap (t277))).bind fun t278 => (if t278.length + t268.length < 140737488355328 then (some ((t278 ++ t268), 0)) else (none))))))) else (some (([] : List Int), t267))) = some (r1, r2) := H
  have A2 := Aside0.mk A20
  clear A20
  by_cases c3 : t267 = 0
  · rw [if_pos c3] at H
    have c3b0 : (t267 == 0) = true := beq_iff_eq.mpr c3
    have c3b1 : (t267 != 0) = false := bne_eq_false_iff_eq.mpr c3
    clear c3
    replace H := Option.bind_eq_some_iff.mp H
    obtain ⟨t268, A40, H⟩ := H
    replace H : ((bollardref1_Lay.f k ([] : List Int) 8 (IntKind.u64.wrap (a0_0))).bind fun t271 => ((bollardref1_Lay.f k t271 4 (IntKind.u64.wrap (wrap64 ((t268.length : Int) + 4)))).bind fun t274 => ((bollardref1_Sum.f k t268).bind fun t277 => ((bollardref1_Lay.f k t274 4 (IntKind.u64.wrap (t277))).bind fun t278 => (if t278.length + t268.length < 140737488355328 then (some ((t278 ++ t268), 0)) else (none)))))) = some (r1, r2) := H
    have A4 := Aside0.mk A40
    clear A40
    replace H := Option.bind_eq_some_iff.mp H
    obtain ⟨t271, A50, H⟩ := H
    replace H : ((bollardref1_Lay.f k t271 4 (IntKind.u64.wrap (wrap64 ((t268.length : Int) + 4)))).bind fun t274 => ((bollardref1_Sum.f k t268).bind fun t277 => ((bollardref1_Lay.f k t274 4 (IntKind.u64.wrap (t277))).bind fun t278 => (if t278.length + t268.length < 140737488355328 then (some ((t278 ++ t268), 0)) else (none))))) = some (r1, r2) := H
    have A5 := Aside0.mk A50
    clear A50
    replace H := Option.bind_eq_some_iff.mp H
    obtain ⟨t274, A60, H⟩ := H
    replace H : ((bollardref1_Sum.f k t268).bind fun t277 => ((bollardref1_Lay.f k t274 4 (IntKind.u64.wrap (t277))).bind fun t278 => (if t278.length + t268.length < 140737488355328 then (some ((t278 ++ t268), 0)) else (none)))) = some (r1, r2) := H
    have A6 := Aside0.mk A60
    clear A60
    replace H := Option.bind_eq_some_iff.mp H
    obtain ⟨t277, A70, H⟩ := H
    replace H : ((bollardref1_Lay.f k t274 4 (IntKind.u64.wrap (t277))).bind fun t278 => (if t278.length + t268.length < 140737488355328 then (some ((t278 ++ t268), 0)) else (none))) = some (r1, r2) := H
    have A7 := Aside0.mk A70
    clear A70
    replace H := Option.bind_eq_some_iff.mp H
    obtain ⟨t278, A80, H⟩ := H
    replace H : (if t278.length + t268.length < 140737488355328 then (some ((t278 ++ t268), 0)) else (none)) = some (r1, r2) := H
    have A8 := Aside0.mk A80
    clear A80
    by_cases c9 : t278.length + t268.length < 140737488355328
    · rw [if_pos c9] at H
      have LMc9 := Aside0.mk c9
      clear c9
      obtain ⟨y281, hy281⟩ : ∃ y_ : List Int, y_ = (t278 ++ t268) := ⟨_, rfl⟩
      replace H : (some (y281, 0)) = some (r1, r2) := by first | (rw [hy281]; with_reducible exact H) | (have H2_ := (Option.bind_some _ _).symm.trans H; rw [hy281]; with_reducible exact H2_) | (have H2_ := (Option.bind_some _ _).symm.trans H; with_reducible exact H2_) | with_reducible exact H | (rw [hy281]; exact H) | exact H
      have Ny281 := Aside0.mk hy281
      clear hy281
      simp only [Option.some.injEq, Prod.mk.injEq] at H
      obtain ⟨rfl, rfl⟩ := H
      go_enter Try.func14, Try.ntmps14
      go_wp2_with (first | ((with_reducible refine gate_dst (N := 1) rfl ?_); refine box_event ?hg (N := 1) ?hd (cs := #[.int .i64 a0_0, .int .i64 a0_1, .int .i64 a0_2, .int .i64 a0_3, .slice A0_4 l0_4.length c0_4]) (t := 24) ?hr ?_; (case hd => rfl); (case hg => rfl); (case hr => first | (go_simp; done) | (go_simp; rfl)); intro gb266 hg w10 hbox hb; have n0_ := Aside0.mk (below_step (by repeat (first | (with_reducible first | exact HB.out | apply below_alloc | apply pw_below_drewN | apply below_drew1) | exact HB.out)) hb); have n1_ := Aside0.mk (hbox); have n2_ := Aside0.mk ((by rw [hg]; exact (below_size (by repeat (first | (with_reducible first | exact HB.out | apply below_alloc | apply pw_below_drewN | apply below_drew1) | exact HB.out))) : w.heap.size ≤ gb266)); have n3_ := Aside0.mk ((by rw [hg]; exact (below_size (by repeat (first | (with_reducible first | exact HB.out | apply below_alloc | apply pw_below_drewN | apply below_drew1) | exact HB.out))) : w.heap.size ≤ gb266)); clear HB; have HB := n0_; have BK266 := n1_; have GW266 := n2_; have GE266 := n3_; clear n0_ n1_ n2_ n3_; clear hb hbox hg; have hcz11_0 : w10.cell? ⟨gb266, 0, none⟩ = some (.int .i64 a0_0) := (blk_cell BK266.out 0).trans rfl; have hcz11_1 : w10.cell? ⟨gb266, 1, none⟩ = some (.int .i64 a0_1) := (blk_cell BK266.out 1).trans rfl; have hcz11_2 : w10.cell? ⟨gb266, 2, none⟩ = some (.int .i64 a0_2) := (blk_cell BK266.out 2).trans rfl; have hcz11_3 : w10.cell? ⟨gb266, 3, none⟩ = some (.int .i64 a0_3) := (blk_cell BK266.out 3).trans rfl; have hcz11_4 : w10.cell? ⟨gb266, 4, none⟩ = some (.slice A0_4 l0_4.length c0_4) := (blk_cell BK266.out 4).trans rfl; have hfz11_0 := blk_frozen BK266.out 0; have hfz11_1 := blk_frozen BK266.out 1; have hfz11_2 := blk_frozen BK266.out 2; have hfz11_3 := blk_frozen BK266.out 3; have hfz11_4 := blk_frozen BK266.out 4) | ((with_reducible refine gate_callee (f := 17) rfl ?_); refine goesL_ (some 8) rfl rfl Try.func17 (by kernel_rfl) rfl #[.agg #[.int .i64 a0_0, .int .i64 a0_1, .int .i64 a0_2, .int .i64 a0_3, .slice A0_4 l0_4.length c0_4]] rfl (by (try simp only [List.map_toArray, List.map_cons, List.map_nil]); first | done | rfl | (simp only [List.length_drop, List.length_take]; rfl)) ?_; (with_reducible refine (bollardref12_CheckBatch.calls k a0_0 a0_1 a0_2 a0_3 _ _ l0_4 t267 _ ?side1 ?side2 A2.out).mono ?_); (case side1 => repeat (first | exact (Kd.C_below HR0_4.out HB.out) | (with_reducible refine Kd.C_alloc ?_ _) | (with_reducible refine Kd.C_drewN ?_ _) | (with_reducible refine Kd.C_drew ?_))); (case side2 => exact HC0_4.out); rintro e w12 ⟨rfl, hb⟩; refine ⟨_, rfl, ?_⟩; have n0_ := Aside0.mk (blk_below (g := gb266) (o := .cells #[.int .i64 a0_0, .int .i64 a0_1, .int .i64 a0_2, .int .i64 a0_3, .slice A0_4 l0_4.length c0_4] 24 (0, 0)) (by (with_reducible repeat (first | refine blk_drewN ?_ _ | refine blk_drew ?_ | refine blk_alloc ?_ _)); exact BK266.out) hb); have n1_ := Aside0.mk (below_step (by repeat (first | (with_reducible first | exact HB.out | apply below_alloc | apply pw_below_drewN | apply below_drew1 | refine below_set ?_ GE266.out) | exact HB.out)) hb); clear BK266; clear HB; have BK266 := n0_; have HB := n1_; clear n0_ n1_; (try clear hb); (try clear hb2); (try clear hk); (try clear hi); have hcz13_0 : w12.cell? ⟨gb266, 0, none⟩ = some (.int .i64 a0_0) := (blk_cell BK266.out 0).trans rfl; have hcz13_1 : w12.cell? ⟨gb266, 1, none⟩ = some (.int .i64 a0_1) := (blk_cell BK266.out 1).trans rfl; have hcz13_2 : w12.cell? ⟨gb266, 2, none⟩ = some (.int .i64 a0_2) := (blk_cell BK266.out 2).trans rfl; have hcz13_3 : w12.cell? ⟨gb266, 3, none⟩ = some (.int .i64 a0_3) := (blk_cell BK266.out 3).trans rfl; have hcz13_4 : w12.cell? ⟨gb266, 4, none⟩ = some (.slice A0_4 l0_4.length c0_4) := (blk_cell BK266.out 4).trans rfl; have hfz13_0 := blk_frozen BK266.out 0; have hfz13_1 := blk_frozen BK266.out 1; have hfz13_2 := blk_frozen BK266.out 2; have hfz13_3 := blk_frozen BK266.out 3; have hfz13_4 := blk_frozen BK266.out 4) | ((with_reducible refine gate_callee (f := 28) rfl ?_); refine goesL_ (some 13) rfl rfl Try.func28 (by kernel_rfl) rfl #[.agg #[.int .i64 a0_0, .int .i64 a0_1, .int .i64 a0_2, .int .i64 a0_3, .slice A0_4 l0_4.length c0_4]] rfl (by (try simp only [List.map_toArray, List.map_cons, List.map_nil]); first | done | rfl | (simp only [List.length_drop, List.length_take]; rfl)) ?_; (with_reducible refine (bollardref12_body.calls k a0_0 a0_1 a0_2 a0_3 _ _ l0_4 t268 _ ?side1 ?side2 A4.out).mono ?_); (case side1 => repeat (first | exact (Kd.C_below HR0_4.out HB.out) | (with_reducible refine Kd.C_alloc ?_ _) | (with_reducible refine Kd.C_drewN ?_ _) | (with_reducible refine Kd.C_drew ?_))); (case side2 => exact HC0_4.out); rintro e w14 ⟨v269, rfl, ho0, hb⟩; refine ⟨_, rfl, ?_⟩; have n0_ := Aside0.mk (Kd.R_lower ho0 (below_size (by repeat (first | (with_reducible first | exact HB.out | apply below_alloc | apply pw_below_drewN | apply below_drew1 | refine below_set ?_ GE266.out) | exact HB.out)))); have n1_ := Aside0.mk (blk_below (g := gb266) (o := .cells #[.int .i64 a0_0, .int .i64 a0_1, .int .i64 a0_2, .int .i64 a0_3, .slice A0_4 l0_4.length c0_4] 24 (0, 0)) (by (with_reducible repeat (first | refine blk_drewN ?_ _ | refine blk_drew ?_ | refine blk_alloc ?_ _)); exact BK266.out) hb); have n2_ := Aside0.mk (below_step (by repeat (first | (with_reducible first | exact HB.out | apply below_alloc | apply pw_below_drewN | apply below_drew1 | refine below_set ?_ GE266.out) | exact HB.out)) hb); clear BK266; clear HB; have HO270 := n0_; have BK266 := n1_; have HB := n2_; clear n0_ n1_ n2_; (try clear hb); (try clear hb2); (try clear hk); (try clear hi); (try clear ho0); have hcz15_0 : w14.cell? ⟨gb266, 0, none⟩ = some (.int .i64 a0_0) := (blk_cell BK266.out 0).trans rfl; have hcz15_1 : w14.cell? ⟨gb266, 1, none⟩ = some (.int .i64 a0_1) := (blk_cell BK266.out 1).trans rfl; have hcz15_2 : w14.cell? ⟨gb266, 2, none⟩ = some (.int .i64 a0_2) := (blk_cell BK266.out 2).trans rfl; have hcz15_3 : w14.cell? ⟨gb266, 3, none⟩ = some (.int .i64 a0_3) := (blk_cell BK266.out 3).trans rfl; have hcz15_4 : w14.cell? ⟨gb266, 4, none⟩ = some (.slice A0_4 l0_4.length c0_4) := (blk_cell BK266.out 4).trans rfl; have hfz15_0 := blk_frozen BK266.out 0; have hfz15_1 := blk_frozen BK266.out 1; have hfz15_2 := blk_frozen BK266.out 2; have hfz15_3 := blk_frozen BK266.out 3; have hfz15_4 := blk_frozen BK266.out 4) | ((with_reducible refine gate_callee (f := 29) rfl ?_); refine goesL_ (some 17) rfl rfl Try.func29 (by kernel_rfl) rfl #[.slice none 0 0, .int .i64 8, .int .u64 (IntKind.u64.wrap (a0_0))] rfl (by (try simp only [List.map_toArray, List.map_cons, List.map_nil]); first | done | rfl | (simp only [List.length_drop, List.length_take]; rfl)) ?_; (refine (bollardref1_Lay.calls k (fun k_ => some k_ = (.slice none 0 0 : Value).ownBlock) (.slice none 0 0) ([] : List Int) 8 (IntKind.u64.wrap (a0_0)) t271 w _ ?side1 ?side2 A5.out).mono ?_); (case side1 => repeat (first | (with_reducible first | exact HB.out | apply below_alloc | apply pw_below_drewN | apply below_drew1 | refine below_set ?_ GE266.out) | exact HB.out)); (case side2 => exact Kd.R_nil _ _ _ _ _); rintro e w16 ⟨v272, rfl, ho0, hb, hkp⟩; refine ⟨_, rfl, ?_⟩; have n0_ := Aside0.mk (blk_kept (by (with_reducible repeat (first | refine blk_drewN ?_ _ | refine blk_drew ?_ | refine blk_alloc ?_ _)); exact BK266.out) hkp (fun hs_ => (fun e_ => by simp [Value.ownBlock] at e_) hs_)); have n1_ := Aside0.mk (Kd.R_mono (ok' := fun k_ => some k_ ≠ (v272 : Value).ownBlock) (Kd.R_keptB (HO270.out) hkp (fun k_ hk_ hs_ => (fun e_ => by simp [Value.ownBlock] at e_) hs_)) (fun k_ hk_ => fun e_ => Or.elim (ho0.1 k_ e_.symm) (fun hs_ => hk_.2.1 hs_) (fun hn_ => Nat.not_le.2 hk_.2.2 hn_))); have n2_ := Aside0.mk (Kd.R_mono (ok' := fun k_ => some k_ ≠ (v269 : Value).ownBlock) ho0 (fun k_ hk_ => Or.elim hk_ (fun hs_ => absurd hs_ (by simp [Value.ownBlock])) (fun hn_ => (Kd.fresh' (Kd.R_lt (by (with_reducible repeat (first | apply Kd.R_alloc | apply Kd.R_drewN | apply Kd.R_drew)); exact HO270.out)) k_ hn_)))); have n3_ := Aside0.mk (hb); clear BK266; clear HO270; clear HB; have BK266 := n0_; have HO270 := n1_; have HO273 := n2_; have HB := n3_; clear n0_ n1_ n2_ n3_; (try clear hb); (try clear hkp); (try clear ho0); obtain ⟨Ao17, co17, eo17⟩ := Kd.R_slice HO270.out; subst eo17; obtain ⟨Ao18, co18, eo18⟩ := Kd.R_slice HO273.out; subst eo18) | ((with_reducible refine gate_callee (f := 29) rfl ?_); refine goesL_ (some 23) rfl rfl Try.func29 (by kernel_rfl) rfl #[.slice Ao18 t271.length co18, .int .i64 4, .int .u64 (IntKind.u64.wrap (wrap64 ((t268.length : Int) + 4)))] rfl (by (try simp only [List.map_toArray, List.map_cons, List.map_nil]); first | done | rfl | (simp only [List.length_drop, List.length_take]; rfl)) ?_; (with_reducible refine (bollardref1_Lay.calls k (fun k_ => some k_ = (.slice Ao18 t271.length co18 : Value).ownBlock) (.slice Ao18 t271.length co18) t271 4 (IntKind.u64.wrap (wrap64 ((t268.length : Int) + 4))) t274 w _ ?side1 ?side2 A6.out).mono ?_); (case side1 => repeat (first | (with_reducible first | exact HB.out | apply below_alloc | apply pw_below_drewN | apply below_drew1 | refine below_set ?_ GE266.out) | exact HB.out)); (case side2 => exact Kd.R_tight rfl HO273.out); rintro e w19 ⟨v275, rfl, ho0, hb, hkp⟩; refine ⟨_, rfl, ?_⟩; have n0_ := Aside0.mk (blk_kept (by (with_reducible repeat (first | refine blk_drewN ?_ _ | refine blk_drew ?_ | refine blk_alloc ?_ _)); exact BK266.out) hkp (fun hs_ => (fun e_ => (Kd.R_ne HO273.out BK266.out (by decide)) e_) hs_)); have n1_ := Aside0.mk (Kd.R_mono (ok' := fun k_ => some k_ ≠ (v275 : Value).ownBlock) (Kd.R_keptB (HO270.out) hkp (fun k_ hk_ hs_ => (hk_) hs_)) (fun k_ hk_ => fun e_ => Or.elim (ho0.1 k_ e_.symm) (fun hs_ => hk_.2.1 hs_) (fun hn_ => Nat.not_le.2 hk_.2.2 hn_))); have n2_ := Aside0.mk (Kd.R_mono (ok' := fun k_ => some k_ ≠ (.slice Ao17 t268.length co17 : Value).ownBlock) ho0 (fun k_ hk_ => Or.elim hk_ (fun hs_ => fun e_ => (((HO270.out).1 k_ e_.symm)) hs_) (fun hn_ => (Kd.fresh' (Kd.R_lt (by (with_reducible repeat (first | apply Kd.R_alloc | apply Kd.R_drewN | apply Kd.R_drew)); exact HO270.out)) k_ hn_)))); have n3_ := Aside0.mk (hb); clear BK266; clear HO270; clear HB; clear HO273; have BK266 := n0_; have HO270 := n1_; have HO276 := n2_; have HB := n3_; clear n0_ n1_ n2_ n3_; (try clear hb); (try clear hkp); (try clear ho0)) | ((with_reducible refine gate_callee (f := 30) rfl ?_); refine goesL_ (some 26) rfl rfl Try.func30 (by kernel_rfl) rfl #[.slice Ao17 t268.length co17] rfl (by (try simp only [List.map_toArray, List.map_cons, List.map_nil]); first | done | rfl | (simp only [List.length_drop, List.length_take]; rfl)) ?_; (with_reducible refine (bollardref1_Sum.calls k _ _ t268 t277 _ ?side1 ?side2 A7.out).mono ?_); (case side1 => repeat (first | exact (Kd.R_reads' HO270.out).2.2 | (with_reducible refine Kd.C_alloc ?_ _) | (with_reducible refine Kd.C_drewN ?_ _) | (with_reducible refine Kd.C_drew ?_))); (case side2 => exact (Kd.R_reads' HO270.out).2.1); rintro e w' ⟨rfl, ⟨nd, rfl⟩⟩; refine ⟨_, rfl, ?_⟩; obtain ⟨Ao20, co20, eo20⟩ := Kd.R_slice HO276.out; subst eo20) | ((with_reducible refine gate_callee (f := 29) rfl ?_); refine goesL_ (some 28) rfl rfl Try.func29 (by kernel_rfl) rfl #[.slice Ao20 t274.length co20, .int .i64 4, .int .u64 (IntKind.u64.wrap (t277))] rfl (by (try simp only [List.map_toArray, List.map_cons, List.map_nil]); first | done | rfl | (simp only [List.length_drop, List.length_take]; rfl)) ?_; (with_reducible refine (bollardref1_Lay.calls k (fun k_ => some k_ = (.slice Ao20 t274.length co20 : Value).ownBlock) (.slice Ao20 t274.length co20) t274 4 (IntKind.u64.wrap (t277)) t278 w _ ?side1 ?side2 A8.out).mono ?_); (case side1 => repeat (first | (with_reducible first | exact HB.out | apply below_alloc | apply pw_below_drewN | apply below_drew1 | refine below_set ?_ GE266.out) | exact HB.out)); (case side2 => exact Kd.R_tight rfl HO276.out); rintro e w21 ⟨v279, rfl, ho0, hb, hkp⟩; refine ⟨_, rfl, ?_⟩; have n0_ := Aside0.mk (blk_kept (by (with_reducible repeat (first | refine blk_drewN ?_ _ | refine blk_drew ?_ | refine blk_alloc ?_ _)); exact BK266.out) hkp (fun hs_ => (fun e_ => (Kd.R_ne HO276.out BK266.out (by decide)) e_) hs_)); have n1_ := Aside0.mk (Kd.R_mono (ok' := fun k_ => some k_ ≠ (v279 : Value).ownBlock) (Kd.R_keptB (HO270.out) hkp (fun k_ hk_ hs_ => (hk_) hs_)) (fun k_ hk_ => fun e_ => Or.elim (ho0.1 k_ e_.symm) (fun hs_ => hk_.2.1 hs_) (fun hn_ => Nat.not_le.2 hk_.2.2 hn_))); have n2_ := Aside0.mk (Kd.R_mono (ok' := fun k_ => some k_ ≠ (.slice Ao17 t268.length co17 : Value).ownBlock) ho0 (fun k_ hk_ => Or.elim hk_ (fun hs_ => fun e_ => (((HO270.out).1 k_ e_.symm)) hs_) (fun hn_ => (Kd.fresh' (Kd.R_lt (by (with_reducible repeat (first | apply Kd.R_alloc | apply Kd.R_drewN | apply Kd.R_drew)); exact HO270.out)) k_ hn_)))); have n3_ := Aside0.mk (hb); clear BK266; clear HO270; clear HB; clear HO276; have BK266 := n0_; have HO270 := n1_; have HO280 := n2_; have HB := n3_; clear n0_ n1_ n2_ n3_; (try clear hb); (try clear hkp); (try clear ho0)) | ((with_reducible refine gate_builtin (b := .append) (xs := #[.tmp 29, .tmp 30]) rfl ?_); at_builtin; refine Kd.R_append_rows (Kd.int .u8) (w0 := w) w.heap.size rfl (.tmp 29) (.tmp 30) 27 5 (.int .u8 0) 1 rfl Try.underlying27 info5 rfl (by decide) (by omega) v279 t278 t268 _ _ _ (fun k_ => some k_ ≠ (.slice Ao17 t268.length co17 : Value).ownBlock) (fun _ => False) rfl rfl ?aO ?aR (fun _ _ h => h) (fun _ h => h.elim) ?aF ?aB ?aS ?aL ?_; (case aR => repeat (first | exact (Kd.R_reads' HO270.out).2.2 | (with_reducible refine Kd.C_alloc ?_ _) | (with_reducible refine Kd.C_drewN ?_ _) | (with_reducible refine Kd.C_drew ?_))); (case aB => exact (by repeat (first | (with_reducible first | exact HB.out | apply below_alloc | apply pw_below_drewN | apply below_drew1 | refine below_set ?_ GE266.out) | exact HB.out))); (case aF => exact (fun k_ hk => Kd.fresh' (Kd.R_lt (by (with_reducible repeat (first | apply Kd.R_alloc | apply Kd.R_drewN | apply Kd.R_drew)); exact HO270.out)) k_ hk)); (case aO => exact (by (with_reducible repeat (first | apply Kd.R_alloc | apply Kd.R_drewN | apply Kd.R_drew)); exact HO280.out)); (case aS => exact (below_size (by repeat (first | (with_reducible first | exact HB.out | apply below_alloc | apply pw_below_drewN | apply below_drew1 | refine below_set ?_ GE266.out) | exact HB.out)))); (case aL => have := LMc9.out; omega); intro v282 w22 ho hb hg hat; rw [← Ny281.out] at ho; have n0_ := Aside0.mk (blk_grown (g := gb266) (o := .cells #[.int .i64 a0_0, .int .i64 a0_1, .int .i64 a0_2, .int .i64 a0_3, .slice A0_4 l0_4.length c0_4] 24 (0, 0)) (by (with_reducible repeat (first | refine blk_drewN ?_ _ | refine blk_drew ?_ | refine blk_alloc ?_ _)); exact BK266.out) hg (Kd.R_ne HO280.out BK266.out (by decide))); have n1_ := Aside0.mk (Kd.R_after (ok := (fun _ => True)) (by (with_reducible repeat (first | apply Kd.R_alloc | apply Kd.R_drewN | apply Kd.R_drew)); exact Kd.R_mono HO270.out (fun _ hk => ⟨trivial, hk⟩)) hg hat); have n2_ := Aside0.mk (hb); have n3_ := Aside0.mk (ho); clear BK266; clear HO270; clear HB; clear HO280; have BK266 := n0_; have HO270 := n1_; have HB := n2_; have HO283 := n3_; clear n0_ n1_ n2_ n3_; clear ho hb hg hat))
      go_ret2
      exact ⟨_, by first | rfl | (simp [errW_none, errW_some] <;> rfl) | (simp [*, errW_none, errW_some] <;> rfl), by (with_reducible repeat (first | apply Kd.R_alloc | apply Kd.R_drewN | apply Kd.R_drew)); exact Kd.R_mono HO283.out (fun _ hk => trivial), by repeat (first | (with_reducible first | exact HB.out | apply below_alloc | apply pw_below_drewN | apply below_drew1 | refine below_set ?_ GE266.out) | exact HB.out)⟩
    · rw [if_neg c9] at H
      exact absurd H (by simp)
  · rw [if_neg c3] at H
    have c3b0 : (t267 == 0) = false := beq_eq_false_iff_ne.mpr c3
    have c3b1 : (t267 != 0) = true := bne_iff_ne.mpr c3
    simp only [Option.some.injEq, Prod.mk.injEq] at H
    obtain ⟨rfl, rfl⟩ := H
    go_enter Try.func14, Try.ntmps14
    go_wp2_with (first | ((with_reducible refine gate_dst (N := 1) rfl ?_); refine box_event ?hg (N := 1) ?hd (cs := #[.int .i64 a0_0, .int .i64 a0_1, .int .i64 a0_2, .int .i64 a0_3, .slice A0_4 l0_4.length c0_4]) (t := 24) ?hr ?_; (case hd => rfl); (case hg => rfl); (case hr => first | (go_simp; done) | (go_simp; rfl)); intro gb266 hg w23 hbox hb; have n0_ := Aside0.mk (below_step (by repeat (first | (with_reducible first | exact HB.out | apply below_alloc | apply pw_below_drewN | apply below_drew1) | exact HB.out)) hb); have n1_ := Aside0.mk (hbox); have n2_ := Aside0.mk ((by rw [hg]; exact (below_size (by repeat (first | (with_reducible first | exact HB.out | apply below_alloc | apply pw_below_drewN | apply below_drew1) | exact HB.out))) : w.heap.size ≤ gb266)); have n3_ := Aside0.mk ((by rw [hg]; exact (below_size (by repeat (first | (with_reducible first | exact HB.out | apply below_alloc | apply pw_below_drewN | apply below_drew1) | exact HB.out))) : w.heap.size ≤ gb266)); clear HB; have HB := n0_; have BK266 := n1_; have GW266 := n2_; have GE266 := n3_; clear n0_ n1_ n2_ n3_; clear hb hbox hg; have hcz24_0 : w23.cell? ⟨gb266, 0, none⟩ = some (.int .i64 a0_0) := (blk_cell BK266.out 0).trans rfl; have hcz24_1 : w23.cell? ⟨gb266, 1, none⟩ = some (.int .i64 a0_1) := (blk_cell BK266.out 1).trans rfl; have hcz24_2 : w23.cell? ⟨gb266, 2, none⟩ = some (.int .i64 a0_2) := (blk_cell BK266.out 2).trans rfl; have hcz24_3 : w23.cell? ⟨gb266, 3, none⟩ = some (.int .i64 a0_3) := (blk_cell BK266.out 3).trans rfl; have hcz24_4 : w23.cell? ⟨gb266, 4, none⟩ = some (.slice A0_4 l0_4.length c0_4) := (blk_cell BK266.out 4).trans rfl; have hfz24_0 := blk_frozen BK266.out 0; have hfz24_1 := blk_frozen BK266.out 1; have hfz24_2 := blk_frozen BK266.out 2; have hfz24_3 := blk_frozen BK266.out 3; have hfz24_4 := blk_frozen BK266.out 4) | ((with_reducible refine gate_callee (f := 17) rfl ?_); refine goesL_ (some 8) rfl rfl Try.func17 (by kernel_rfl) rfl #[.agg #[.int .i64 a0_0, .int .i64 a0_1, .int .i64 a0_2, .int .i64 a0_3, .slice A0_4 l0_4.length c0_4]] rfl (by (try simp only [List.map_toArray, List.map_cons, List.map_nil]); first | done | rfl | (simp only [List.length_drop, List.length_take]; rfl)) ?_; (with_reducible refine (bollardref12_CheckBatch.calls k a0_0 a0_1 a0_2 a0_3 _ _ l0_4 t267 _ ?side1 ?side2 A2.out).mono ?_); (case side1 => repeat (first | exact (Kd.C_below HR0_4.out HB.out) | (with_reducible refine Kd.C_alloc ?_ _) | (with_reducible refine Kd.C_drewN ?_ _) | (with_reducible refine Kd.C_drew ?_))); (case side2 => exact HC0_4.out); rintro e w25 ⟨rfl, hb⟩; refine ⟨_, rfl, ?_⟩; have n0_ := Aside0.mk (blk_below (g := gb266) (o := .cells #[.int .i64 a0_0, .int .i64 a0_1, .int .i64 a0_2, .int .i64 a0_3, .slice A0_4 l0_4.length c0_4] 24 (0, 0)) (by (with_reducible repeat (first | refine blk_drewN ?_ _ | refine blk_drew ?_ | refine blk_alloc ?_ _)); exact BK266.out) hb); have n1_ := Aside0.mk (below_step (by repeat (first | (with_reducible first | exact HB.out | apply below_alloc | apply pw_below_drewN | apply below_drew1 | refine below_set ?_ GE266.out) | exact HB.out)) hb); clear BK266; clear HB; have BK266 := n0_; have HB := n1_; clear n0_ n1_; (try clear hb); (try clear hb2); (try clear hk); (try clear hi)))
    go_ret2
    exact ⟨_, by first | rfl | (simp [errW_none, errW_some] <;> rfl) | (simp [*, errW_none, errW_some] <;> rfl), by first | exact Kd.R_nil _ _ _ _ _ | exact Kd.N_nil _ _ _ _ _ | exact Kd.V_nil _ _ _ _ _ | exact Kd.Q_nil _ _ _ _ _ | exact Kd.S_nil _ _ _ _ _, by repeat (first | (with_reducible first | exact HB.out | apply below_alloc | apply pw_below_drewN | apply below_drew1 | refine below_set ?_ GE266.out) | exact HB.out)⟩

/-! ### bollardref1_Get: function 38 -/
mutual
def bollardref1_Get.j0 : Nat → List Int → Int → Int → Bool → Bool → Option (Int × Bool)
  | 0, _, _, _, _, _ => none
  | k + 1, x0, x1, x2, x3, x36 => if x36 = true then (some (0, false)) else (bollardref1_Get.l0 k x0 x1 x2 x3 0 0)
def bollardref1_Get.l0 : Nat → List Int → Int → Int → Bool → Int → Int → Option (Int × Bool)
  | 0, _, _, _, _, _, _ => none
  | k + 1, x0, x1, x2, x3, x10, x11 => if x11 < x2 then (if 0 ≤ (wrap64 (x1 + x11)) then (if (wrap64 (x1 + x11)) < (x0.length : Int) then (if x3 = true then (bollardref1_Get.l0 k x0 x1 x2 x3 (Go.bits .or .u64 (IntKind.u64.wrap (x10 * 256)) (IntKind.u64.wrap (rd x0 (wrap64 (x1 + x11))))) (wrap64 (x11 + 1))) else (if 0 ≤ (wrap64 (8 * x11)) then (bollardref1_Get.l0 k x0 x1 x2 x3 (Go.bits .or .u64 x10 (shl .u64 (IntKind.u64.wrap (rd x0 (wrap64 (x1 + x11)))) (wrap64 (8 * x11)))) (wrap64 (x11 + 1))) else (none))) else (none)) else (none)) else (some (x10, true))
end
def bollardref1_Get.f (k : Nat) (l0 : List Int) (a1 : Int) (a2 : Int) (a3 : Bool) : Option (Int × Bool) := if a2 < 1 then (bollardref1_Get.j0 k l0 a1 a2 a3 true) else (if a2 > 8 then (bollardref1_Get.j0 k l0 a1 a2 a3 true) else (if a1 < 0 then (bollardref1_Get.j0 k l0 a1 a2 a3 true) else (if a1 > (l0.length : Int) then (bollardref1_Get.j0 k l0 a1 a2 a3 true) else (bollardref1_Get.j0 k l0 a1 a2 a3 (decide (a2 > (wrap64 ((l0.length : Int) - a1))))))))
set_option maxRecDepth 100000 in
theorem bollardref1_Get.mono_l : ∀ k, (∀ y0 y1 y2 y3 y4, LeO (bollardref1_Get.j0 k y0 y1 y2 y3 y4) (bollardref1_Get.j0 (k + 1) y0 y1 y2 y3 y4)) ∧ (∀ y0 y1 y2 y3 y4 y5, LeO (bollardref1_Get.l0 k y0 y1 y2 y3 y4 y5) (bollardref1_Get.l0 (k + 1) y0 y1 y2 y3 y4 y5))
  | 0 => ⟨fun _ _ _ _ _ r h => by first | exact nomatch (show (none : Option _) = some r from h) | (rw [bollardref1_Get.j0] at h; cases h; done) | (simp [bollardref1_Get.j0] at h; done), fun _ _ _ _ _ _ r h => by first | exact nomatch (show (none : Option _) = some r from h) | (rw [bollardref1_Get.l0] at h; cases h; done) | (simp [bollardref1_Get.l0] at h; done)⟩
  | k + 1 => by
    obtain ⟨ih0, ih1⟩ := bollardref1_Get.mono_l k
    refine ⟨?_, ?_⟩
    · intro y0 y1 y2 y3 y4
      unfold bollardref1_Get.j0
      repeat' first
      | (with_reducible exact ih0 _ _ _ _ _)
      | (with_reducible exact ih1 _ _ _ _ _ _)
      | (with_reducible exact LeO.refl _)
      | (with_reducible exact LeO.none _)
      | (with_reducible refine LeO.ite ?_ ?_)
      | (with_reducible refine LeO.bind ?_ (fun _ => ?_))
      | exact ih0 _ _ _ _ _
      | exact ih1 _ _ _ _ _ _
      | exact LeO.none _
      | refine LeO.ite ?_ ?_
      | refine LeO.bind ?_ (fun _ => ?_)
    · intro y0 y1 y2 y3 y4 y5
      unfold bollardref1_Get.l0
      repeat' first
      | (with_reducible exact ih0 _ _ _ _ _)
      | (with_reducible exact ih1 _ _ _ _ _ _)
      | (with_reducible exact LeO.refl _)
      | (with_reducible exact LeO.none _)
      | (with_reducible refine LeO.ite ?_ ?_)
      | (with_reducible refine LeO.bind ?_ (fun _ => ?_))
      | exact ih0 _ _ _ _ _
      | exact ih1 _ _ _ _ _ _
      | exact LeO.none _
      | refine LeO.ite ?_ ?_
      | refine LeO.bind ?_ (fun _ => ?_)
theorem bollardref1_Get.mono : ∀ a0 a1 a2 a3 k, LeO (bollardref1_Get.f k a0 a1 a2 a3) (bollardref1_Get.f (k + 1) a0 a1 a2 a3) := by
  intro a0 a1 a2 a3 k
  obtain ⟨ih0, ih1⟩ := bollardref1_Get.mono_l k
  unfold bollardref1_Get.f
  repeat' first
      | (with_reducible exact ih0 _ _ _ _ _)
      | (with_reducible exact ih1 _ _ _ _ _ _)
      | (with_reducible exact LeO.refl _)
      | (with_reducible exact LeO.none _)
      | (with_reducible refine LeO.ite ?_ ?_)
      | (with_reducible refine LeO.bind ?_ (fun _ => ?_))
      | exact ih0 _ _ _ _ _
      | exact ih1 _ _ _ _ _ _
      | exact LeO.none _
      | refine LeO.ite ?_ ?_
      | refine LeO.bind ?_ (fun _ => ?_)
set_option maxHeartbeats 8000000 in
set_option maxRecDepth 100000 in
theorem bollardref1_Get.calls (k : Nat) (A0 : Option Addr) (c0 : Nat) (l0 : List Int) (a1 : Int) (a2 : Int) (a3 : Bool) (r1 : Int) (r2 : Bool) (w : World) (hr0 : Kd.C (Kd.int .u8) w A0 l0.length l0) (hc0 : l0.length ≤ c0) (h : bollardref1_Get.f k l0 a1 a2 a3 = some (r1, r2)) :
    Calls Try.prog 38 #[.slice A0 l0.length c0, .int .i64 a1, .int .i64 a2, .bool a3] w fun e w' => e = .returned (.tuple #[.int .u64 r1, .bool r2]) ∧ Drawn0 w w' := by
  have HR0 := Aside0.mk hr0
  have HC0 := Aside0.mk hc0
  clear hr0 hc0
  have H : (if a2 < 1 then (bollardref1_Get.j0 k l0 a1 a2 a3 true) else (if a2 > 8 then (bollardref1_Get.j0 k l0 a1 a2 a3 true) else (if a1 < 0 then (bollardref1_Get.j0 k l0 a1 a2 a3 true) else (if a1 > (l0.length : Int) then (bollardref1_Get.j0 k l0 a1 a2 a3 true) else (bollardref1_Get.j0 k l0 a1 a2 a3 (decide (a2 > (wrap64 ((l0.length : Int) - a1))))))))) = some (r1, r2) := h
  clear h
  have HC5 := Aside0.mk H
  clear H
  go_enter Try.func38, Try.ntmps38
  go_upto_region 1 with (fail)
  go_cut [36] (fun v36 wc => ∃ (kq : Nat) (x36_4 : Bool), v36 = .bool x36_4 ∧ Aside0 (bollardref1_Get.j0 kq l0 a1 a2 a3 x36_4 = some (r1, r2)) ∧ Aside0 (kq ≤ k) ∧ Drawn0 w wc)
  case first =>
    have H := HC5.out
    clear HC5
    by_cases c6 : a2 < 1
    · rw [if_pos c6] at H
      have c6b0 : decide (a2 < 1) = true := decide_eq_true c6
      clear c6
      (first | rw [c6b0] | (simp only [i64_w, i32_w]; rw [c6b0]) | skip)
      have H' := Aside0.mk H
      clear H
      go_wp2
      go_meet
      case rel => exact ⟨_, (true), (by first | rfl | (simp; done) | (simp [*]; done) | exact congrArg Value.bool (ne_empty _) | exact congrArg Value.bool (eq_empty _)), H', ⟨by first | omega | exact Nat.le_refl _⟩, by repeat (first | exact Drawn0.refl _ | apply Drawn0.step)⟩
    · rw [if_neg c6] at H
      have c6b0 : decide (a2 < 1) = false := decide_eq_false c6
      clear c6
      (first | rw [c6b0] | (simp only [i64_w, i32_w]; rw [c6b0]) | skip)
      by_cases c7 : a2 > 8
      · rw [if_pos c7] at H
        have c7b0 : decide (8 < a2) = true := decide_eq_true c7
        clear c7
        have H' := Aside0.mk H
        clear H
        go_wp2
        go_meet
        case rel => exact ⟨_, (true), (by first | rfl | (simp; done) | (simp [*]; done) | exact congrArg Value.bool (ne_empty _) | exact congrArg Value.bool (eq_empty _)), H', ⟨by first | omega | exact Nat.le_refl _⟩, by repeat (first | exact Drawn0.refl _ | apply Drawn0.step)⟩
      · rw [if_neg c7] at H
        have c7b0 : decide (8 < a2) = false := decide_eq_false c7
        clear c7
        by_cases c8 : a1 < 0
        · rw [if_pos c8] at H
          have c8b0 : decide (a1 < 0) = true := decide_eq_true c8
          clear c8
          have H' := Aside0.mk H
          clear H
          go_wp2
          go_meet
          case rel => exact ⟨_, (true), (by first | rfl | (simp; done) | (simp [*]; done) | exact congrArg Value.bool (ne_empty _) | exact congrArg Value.bool (eq_empty _)), H', ⟨by first | omega | exact Nat.le_refl _⟩, by repeat (first | exact Drawn0.refl _ | apply Drawn0.step)⟩
        · rw [if_neg c8] at H
          have c8b0 : decide (a1 < 0) = false := decide_eq_false c8
          clear c8
          by_cases c9 : a1 > (l0.length : Int)
          · rw [if_pos c9] at H
            have c9b0 : decide ((l0.length : Int) < a1) = true := decide_eq_true c9
            clear c9
            have H' := Aside0.mk H
            clear H
            go_wp2
            go_meet
            case rel => exact ⟨_, (true), (by first | rfl | (simp; done) | (simp [*]; done) | exact congrArg Value.bool (ne_empty _) | exact congrArg Value.bool (eq_empty _)), H', ⟨by first | omega | exact Nat.le_refl _⟩, by repeat (first | exact Drawn0.refl _ | apply Drawn0.step)⟩
          · rw [if_neg c9] at H
            have c9b0 : decide ((l0.length : Int) < a1) = false := decide_eq_false c9
            clear c9
            have H' := Aside0.mk H
            clear H
            go_wp2
            go_meet
            case rel => exact ⟨_, (decide (a2 > (wrap64 ((l0.length : Int) - a1)))), (by first | rfl | (simp; done) | (simp [*]; done) | exact congrArg Value.bool (ne_empty _) | exact congrArg Value.bool (eq_empty _)), H', ⟨by first | omega | exact Nat.le_refl _⟩, by repeat (first | exact Drawn0.refl _ | apply Drawn0.step)⟩
  case rest =>
    clear HC5
    try clear p2
    try clear c3
    try clear c6
    try clear c6b0
    try clear p6
    try clear c7
    try clear c7b0
    try clear c8
    try clear c8b0
    try clear c9
    try clear c9b0
    obtain ⟨kq, x36_4, rfl, HA, HJ4, ⟨mc4, rfl⟩⟩ := hcut
    cases kq with
    | zero => exact absurd HA.out (by first | (intro h_; exact nomatch (show (none : Option _) = some r from h_)) | simp [bollardref1_Get.j0])
    | succ kj4 =>
      have H := HA.out
      clear HA
      simp only [bollardref1_Get.j0] at H
      by_cases c10 : x36_4 = true
      · subst c10
        have H1 : (some (0, false)) = some (r1, r2) := by rw [if_pos rfl] at H; exact H
        clear H
        have H := H1
        clear H1
        simp only [Option.some.injEq, Prod.mk.injEq] at H
        obtain ⟨rfl, rfl⟩ := H
        go_wp2
        go_ret2
        exact ⟨by first | rfl | (simp; done) | (simp [*]; done) | exact congrArg Value.bool (ne_empty _) | exact congrArg Value.bool (eq_empty _), by repeat (first | exact Drawn0.refl _ | apply Drawn0.step)⟩
      · replace c10 := Bool.eq_false_iff.mpr c10
        subst c10
        have H1 : (bollardref1_Get.l0 kj4 l0 a1 a2 a3 0 0) = some (r1, r2) := by rw [if_neg (show ¬ (false = true) by decide)] at H; exact H
        clear H
        have H := H1
        clear H1
        have H' := Aside0.mk H
        clear H
        go_wp2
        go_loopg [10, 11] kj4 (fun kq v10 v11 w' => ∃ (x10_2 : Int) (x11_2 : Int), v10 = .int .u64 x10_2 ∧ v11 = .int .i64 x11_2 ∧ Aside0 (bollardref1_Get.l0 kq l0 a1 a2 a3 x10_2 x11_2 = some (r1, r2)) ∧ Aside0 (kq ≤ kj4) ∧ Drawn0 w w')
        case atStart => exact ⟨(0), (0), (by first | rfl | (simp; done) | (simp [*]; done) | exact congrArg Value.bool (ne_empty _) | exact congrArg Value.bool (eq_empty _)), (by first | rfl | (simp; done) | (simp [*]; done) | exact congrArg Value.bool (ne_empty _) | exact congrArg Value.bool (eq_empty _)), H', ⟨Nat.le_refl _⟩, by repeat (first | exact Drawn0.refl _ | apply Drawn0.step)⟩
        case round =>
          clear H'
          try clear c1
          try clear p2
          try clear c3
          try clear c4
          try clear c6
          try clear c6b0
          try clear p6
          try clear c7
          try clear c7b0
          try clear c8
          try clear c8b0
          try clear c9
          try clear c9b0
          try clear c10
          try clear p2
          try clear p6
          obtain ⟨x10_2, x11_2, rfl, rfl, HA, HK2, ⟨m2, rfl⟩⟩ := hrel
          cases gk with
          | zero => exact absurd HA.out (by first | (intro h_; exact nomatch (show (none : Option _) = some r from h_)) | simp [bollardref1_Get.l0])
          | succ k2 =>
            have H := HA.out
            clear HA
            simp only [bollardref1_Get.l0] at H
            by_cases c11 : x11_2 < a2
            · rw [if_pos c11] at H
              have c11b0 : decide (x11_2 < a2) = true := decide_eq_true c11
              clear c11
              obtain ⟨ji12, hji12⟩ : ∃ j_ : Int, (wrap64 (a1 + x11_2)) = j_ := ⟨_, rfl⟩
              replace H : (if 0 ≤ (ji12) then (if (ji12) < (l0.length : Int) then (if a3 = true then (bollardref1_Get.l0 k2 l0 a1 a2 a3 (Go.bits .or .u64 (IntKind.u64.wrap (x10_2 * 256)) (IntKind.u64.wrap (rd l0 (ji12)))) (wrap64 (x11_2 + 1))) else (if 0 ≤ (wrap64 (8 * x11_2)) then (bollardref1_Get.l0 k2 l0 a1 a2 a3 (Go.bits .or .u64 x10_2 (shl .u64 (IntKind.u64.wrap (rd l0 (ji12))) (wrap64 (8 * x11_2)))) (wrap64 (x11_2 + 1))) else (none))) else (none)) else (none)) = some (r1, r2) := by first | (rw [hji12] at H; exact H) | (simp only [hji12] at H ⊢; exact H)
              have hji12w : (IntKind.i64.wrap (a1 + x11_2)) = ji12 := (i64_w _).trans hji12
              by_cases c13 : 0 ≤ (ji12)
              · rw [if_pos c13] at H
                have c13b0 : decide (0 ≤ (ji12)) = true := decide_eq_true c13
                clear c13
                by_cases c14 : (ji12) < (l0.length : Int)
                · rw [if_pos c14] at H
                  have c14b0 : decide ((ji12) < (l0.length : Int)) = true := decide_eq_true c14
                  clear c14
                  by_cases c15 : a3 = true
                  · subst c15
                    have H1 : (bollardref1_Get.l0 k2 l0 a1 a2 true (Go.bits .or .u64 (IntKind.u64.wrap (x10_2 * 256)) (IntKind.u64.wrap (rd l0 (ji12)))) (wrap64 (x11_2 + 1))) = some (r1, r2) := by rw [if_pos rfl] at H; exact H
                    clear H
                    have H := H1
                    clear H1
                    have H' := Aside0.mk H
                    clear H
                    have p284 : 0 ≤ ((ji12) : Int) := of_decide_eq_true (by first | (with_reducible assumption) | assumption)
                    have q284 : (ji12) < (l0.length : Int) := of_decide_eq_true (by first | (with_reducible assumption) | assumption)
                    obtain ⟨ad284, e284, hx284_0⟩ := Kd.at_int HR0.out (ji12) p284 q284
                    cases e284
                    replace p284 := eq_true p284
                    replace q284 := eq_true q284
                    go_wp2
                    go_roundg k2
                    case measure => have := HJ4.out; have := HK2.out; omega
                    case rel => exact ⟨(Go.bits .or .u64 (IntKind.u64.wrap (x10_2 * 256)) (IntKind.u64.wrap (rd l0 (ji12)))), (wrap64 (x11_2 + 1)), (by first | rfl | (simp; done) | (simp only [← hji12] <;> (first | rfl | simp)) | (simp [*]; done)), (by first | rfl | (simp; done) | (simp [*]; done) | exact congrArg Value.bool (ne_empty _) | exact congrArg Value.bool (eq_empty _)), H', ⟨by have := HJ4.out; have := HK2.out; omega⟩, by repeat (first | exact Drawn0.refl _ | apply Drawn0.step)⟩
                  · replace c15 := Bool.eq_false_iff.mpr c15
                    subst c15
                    have H1 : (if 0 ≤ (wrap64 (8 * x11_2)) then (bollardref1_Get.l0 k2 l0 a1 a2 false (Go.bits .or .u64 x10_2 (shl .u64 (IntKind.u64.wrap (rd l0 (ji12))) (wrap64 (8 * x11_2)))) (wrap64 (x11_2 + 1))) else (none)) = some (r1, r2) := by rw [if_neg (show ¬ (false = true) by decide)] at H; exact H
                    clear H
                    have H := H1
                    clear H1
                    obtain ⟨ji16, hji16⟩ : ∃ j_ : Int, (wrap64 (8 * x11_2)) = j_ := ⟨_, rfl⟩
                    replace H : (if 0 ≤ (ji16) then (bollardref1_Get.l0 k2 l0 a1 a2 false (Go.bits .or .u64 x10_2 (shl .u64 (IntKind.u64.wrap (rd l0 (ji12))) (ji16))) (wrap64 (x11_2 + 1))) else (none)) = some (r1, r2) := by first | (rw [hji16] at H; exact H) | (simp only [hji16] at H ⊢; exact H)
                    have hji16w : (IntKind.i64.wrap (8 * x11_2)) = ji16 := (i64_w _).trans hji16
                    by_cases c17 : 0 ≤ (ji16)
                    · rw [if_pos c17] at H
                      have c17b0 := eq_true c17
                      have c17b1 : decide (0 ≤ (ji16)) = true := decide_eq_true c17
                      clear c17
                      obtain ⟨ji18, hji18⟩ : ∃ j_ : Int, (shl .u64 (IntKind.u64.wrap (rd l0 (ji12))) (ji16)) = j_ := ⟨_, rfl⟩
                      replace H : (bollardref1_Get.l0 k2 l0 a1 a2 false (Go.bits .or .u64 x10_2 (ji18)) (wrap64 (x11_2 + 1))) = some (r1, r2) := by first | (rw [hji18] at H; exact H) | (simp only [hji18] at H ⊢; exact H)
                      have hji18_ : (IntKind.u64.wrap ((IntKind.u64.wrap (rd l0 (ji12))) * 2 ^ min (ji16).toNat 64)) = ji18 := hji18
                      have hji18z : (ji16) ≤ 64 → (IntKind.u64.wrap ((IntKind.u64.wrap (rd l0 (ji12))) * 2 ^ (ji16).toNat)) = ji18 := shl_small hji18
                      have H' := Aside0.mk H
                      clear H
                      have p284 : 0 ≤ ((ji12) : Int) := of_decide_eq_true (by first | (with_reducible assumption) | assumption)
                      have q284 : (ji12) < (l0.length : Int) := of_decide_eq_true (by first | (with_reducible assumption) | assumption)
                      obtain ⟨ad284, e284, hx284_0⟩ := Kd.at_int HR0.out (ji12) p284 q284
                      cases e284
                      replace p284 := eq_true p284
                      replace q284 := eq_true q284
                      go_wp2
                      go_roundg k2
                      case measure => have := HJ4.out; have := HK2.out; omega
                      case rel => exact ⟨(Go.bits .or .u64 x10_2 (ji18)), (wrap64 (x11_2 + 1)), (by first | rfl | (simp; done) | (simp only [← hji18] <;> (first | rfl | simp)) | (simp [*]; done)), (by first | rfl | (simp; done) | (simp [*]; done) | exact congrArg Value.bool (ne_empty _) | exact congrArg Value.bool (eq_empty _)), H', ⟨by have := HJ4.out; have := HK2.out; omega⟩, by repeat (first | exact Drawn0.refl _ | apply Drawn0.step)⟩
                    · rw [if_neg c17] at H
                      exact absurd H (by simp)
                · rw [if_neg c14] at H
                  exact absurd H (by simp)
              · rw [if_neg c13] at H
                exact absurd H (by simp)
            · rw [if_neg c11] at H
              have c11b0 : decide (x11_2 < a2) = false := decide_eq_false c11
              clear c11
              simp only [Option.some.injEq, Prod.mk.injEq] at H
              obtain ⟨rfl, rfl⟩ := H
              go_wp2
              go_ret2
              exact ⟨by first | rfl | (simp; done) | (simp [*]; done) | exact congrArg Value.bool (ne_empty _) | exact congrArg Value.bool (eq_empty _), by repeat (first | exact Drawn0.refl _ | apply Drawn0.step)⟩

/-! ### bollardref1_Put: function 42 -/
def bollardref1_Put.l0 : Nat → Int → Int → Bool → Int → List Int → Int → Option (List Int × Bool)
  | 0, _, _, _, _, _, _ => none
  | k + 1, x1, x2, x3, x4, x14, x15 => if x15 < x2 then (if x3 = true then (if 0 ≤ (wrap64 (8 * (wrap64 ((wrap64 (x2 - 1)) - x15)))) then (if 0 ≤ (wrap64 (x1 + x15)) then (if (wrap64 (x1 + x15)) < (x14.length : Int) then (bollardref1_Put.l0 k x1 x2 x3 x4 (x14.set ((wrap64 (x1 + x15)) : Int).toNat ((shr .u64 x4 (wrap64 (8 * (wrap64 ((wrap64 (x2 - 1)) - x15))))) % 256)) (wrap64 (x15 + 1))) else (none)) else (none)) else (none)) else (if 0 ≤ (wrap64 (8 * x15)) then (if 0 ≤ (wrap64 (x1 + x15)) then (if (wrap64 (x1 + x15)) < (x14.length : Int) then (bollardref1_Put.l0 k x1 x2 x3 x4 (x14.set ((wrap64 (x1 + x15)) : Int).toNat ((shr .u64 x4 (wrap64 (8 * x15))) % 256)) (wrap64 (x15 + 1))) else (none)) else (none)) else (none))) else (some (x14, true))
def bollardref1_Put.f (k : Nat) (l0 : List Int) (a1 : Int) (a2 : Int) (a3 : Bool) (a4 : Int) : Option (List Int × Bool) := (bollardref1_Get.f k l0 a1 a2 a3).bind fun bt285 => (if bt285.2 = true then (if ([] : List Int).length + l0.length < 140737488355328 then (bollardref1_Put.l0 k a1 a2 a3 a4 (([] : List Int) ++ l0) 0) else (none)) else (some (([] : List Int), false)))
set_option maxRecDepth 100000 in
theorem bollardref1_Put.mono_l : ∀ k, (∀ y0 y1 y2 y3 y4 y5, LeO (bollardref1_Put.l0 k y0 y1 y2 y3 y4 y5) (bollardref1_Put.l0 (k + 1) y0 y1 y2 y3 y4 y5))
  | 0 => fun _ _ _ _ _ _ r h => by first | exact nomatch (show (none : Option _) = some r from h) | (rw [bollardref1_Put.l0] at h; cases h; done) | (simp [bollardref1_Put.l0] at h; done)
  | k + 1 => by
    have ih0 := bollardref1_Put.mono_l k
    · intro y0 y1 y2 y3 y4 y5
      unfold bollardref1_Put.l0
      repeat' first
      | (with_reducible exact ih0 _ _ _ _ _ _)
      | (with_reducible exact bollardref1_Get.mono _ _ _ _ _)
      | (with_reducible exact LeO.refl _)
      | (with_reducible exact LeO.none _)
      | (with_reducible refine LeO.ite ?_ ?_)
      | (with_reducible refine LeO.bind ?_ (fun _ => ?_))
      | exact ih0 _ _ _ _ _ _
      | exact bollardref1_Get.mono _ _ _ _ _
      | exact LeO.none _
      | refine LeO.ite ?_ ?_
      | refine LeO.bind ?_ (fun _ => ?_)
theorem bollardref1_Put.mono : ∀ a0 a1 a2 a3 a4 k, LeO (bollardref1_Put.f k a0 a1 a2 a3 a4) (bollardref1_Put.f (k + 1) a0 a1 a2 a3 a4) := by
  intro a0 a1 a2 a3 a4 k
  have ih0 := bollardref1_Put.mono_l k
  unfold bollardref1_Put.f
  repeat' first
      | (with_reducible exact ih0 _ _ _ _ _ _)
      | (with_reducible exact bollardref1_Get.mono _ _ _ _ _)
      | (with_reducible exact LeO.refl _)
      | (with_reducible exact LeO.none _)
      | (with_reducible refine LeO.ite ?_ ?_)
      | (with_reducible refine LeO.bind ?_ (fun _ => ?_))
      | exact ih0 _ _ _ _ _ _
      | exact bollardref1_Get.mono _ _ _ _ _
      | exact LeO.none _
      | refine LeO.ite ?_ ?_
      | refine LeO.bind ?_ (fun _ => ?_)
set_option maxHeartbeats 8000000 in
set_option maxRecDepth 100000 in
theorem bollardref1_Put.calls (k : Nat) (A0 : Option Addr) (c0 : Nat) (l0 : List Int) (a1 : Int) (a2 : Int) (a3 : Bool) (a4 : Int) (r1 : List Int) (r2 : Bool) (w : World) (hr0 : Kd.C (Kd.int .u8) w A0 l0.length l0) (hc0 : l0.length ≤ c0) (h : bollardref1_Put.f k l0 a1 a2 a3 a4 = some (r1, r2)) :
    Calls Try.prog 42 #[.slice A0 l0.length c0, .int .i64 a1, .int .i64 a2, .bool a3, .int .u64 a4] w fun e w' => ∃ v0_ : Value, e = .returned (.tuple #[v0_, .bool r2]) ∧ Kd.R (Kd.int .u8) 5 w' w.heap.size (fun _ => True) v0_ r1 ∧ Below w.heap.size w w' := by
  have HR0 := Aside0.mk hr0
  have HC0 := Aside0.mk hc0
  clear hr0 hc0
  have HB := Aside0.mk (Below.refl w.heap.size w)
  have H : ((bollardref1_Get.f k l0 a1 a2 a3).bind fun bt285 => (if bt285.2 = true then (if ([] : List Int).length + l0.length < 140737488355328 then (bollardref1_Put.l0 k a1 a2 a3 a4 (([] : List Int) ++ l0) 0) else (none)) else (some (([] : List Int), false)))) = some (r1, r2) := h
  clear h
  replace H := Option.bind_eq_some_iff.mp H
  obtain ⟨⟨t285, t286⟩, A60, H⟩ := H
  replace H : (if t286 = true then (if ([] : List Int).length + l0.length < 140737488355328 then (bollardref1_Put.l0 k a1 a2 a3 a4 (([] : List Int) ++ l0) 0) else (none)) else (some (([] : List Int), false))) = some (r1, r2) := H
  have A6 := Aside0.mk A60
  clear A60
  by_cases c7 : t286 = true
  · subst c7
    have H1 : (if ([] : List Int).length + l0.length < 140737488355328 then (bollardref1_Put.l0 k a1 a2 a3 a4 (([] : List Int) ++ l0) 0) else (none)) = some (r1, r2) := by rw [if_pos rfl] at H; exact H
    clear H
    have H := H1
    clear H1
    by_cases c8 : ([] : List Int).length + l0.length < 140737488355328
    · rw [if_pos c8] at H
      have LMc8 := Aside0.mk c8
      clear c8
      obtain ⟨y287, hy287⟩ : ∃ y_ : List Int, y_ = (([] : List Int) ++ l0) := ⟨_, rfl⟩
      replace H : (bollardref1_Put.l0 k a1 a2 a3 a4 y287 0) = some (r1, r2) := by first | (rw [hy287]; with_reducible exact H) | (have H2_ := (Option.bind_some _ _).symm.trans H; rw [hy287]; with_reducible exact H2_) | (have H2_ := (Option.bind_some _ _).symm.trans H; with_reducible exact H2_) | with_reducible exact H | (rw [hy287]; exact H) | exact H
      have Ny287 := Aside0.mk hy287
      clear hy287
      have H' := Aside0.mk H
      clear H
      go_enter Try.func42, Try.ntmps42
      go_wp2_with (first | ((with_reducible refine gate_callee (f := 38) rfl ?_); refine goesL_ (some 22) rfl rfl Try.func38 (by kernel_rfl) rfl #[.slice A0 l0.length c0, .int .i64 a1, .int .i64 a2, .bool a3] rfl (by (try simp only [List.map_toArray, List.map_cons, List.map_nil]); first | done | rfl | (simp only [List.length_drop, List.length_take]; rfl)) ?_; (with_reducible refine (bollardref1_Get.calls k _ _ l0 a1 a2 a3 t285 true _ ?side1 ?side2 A6.out).mono ?_); (case side1 => repeat (first | exact HR0.out | (with_reducible refine Kd.C_alloc ?_ _) | (with_reducible refine Kd.C_drewN ?_ _) | (with_reducible refine Kd.C_drew ?_))); (case side2 => exact HC0.out); rintro e w' ⟨rfl, ⟨nd, rfl⟩⟩; refine ⟨_, rfl, ?_⟩) | ((with_reducible refine gate_builtin (b := .append) (xs := #[.tmp 27, .tmp 28]) rfl ?_); at_builtin; refine Kd.R_append_rows (Kd.int .u8) (w0 := w) w.heap.size rfl (.tmp 27) (.tmp 28) 27 5 (.int .u8 0) 1 rfl Try.underlying27 info5 rfl (by decide) (by omega) (.slice none 0 0) ([] : List Int) l0 _ _ _ (fun _ => True) (fun _ => False) rfl rfl ?aO ?aR (fun _ _ h => h) (fun _ h => h.elim) ?aF ?aB ?aS ?aL ?_; (case aR => repeat (first | exact HR0.out | (with_reducible refine Kd.C_alloc ?_ _) | (with_reducible refine Kd.C_drewN ?_ _) | (with_reducible refine Kd.C_drew ?_))); (case aB => exact (by repeat (first | (with_reducible first | exact HB.out | apply below_alloc | apply pw_below_drewN | apply below_drew1) | exact HB.out))); (case aF => exact (fun _ _ => trivial)); (case aO => exact ((Kd.R_nil _ _ _ _ (fun _ => True)))); (case aS => exact (below_size (by repeat (first | (with_reducible first | exact HB.out | apply below_alloc | apply pw_below_drewN | apply below_drew1) | exact HB.out)))); (case aL => have := LMc8.out; omega); intro v288 w9 ho hb hg hat; rw [← Ny287.out] at ho; have n0_ := Aside0.mk (hb); have n1_ := Aside0.mk (ho); clear HB; have HB := n0_; have HO289 := n1_; clear n0_ n1_; clear ho hb hg hat))
      go_loopg [15] k (fun kq v15 w' => ∃ (x14_1 : List Int) (x15_1 : Int), v15 = .int .i64 x15_1 ∧ Aside0 (bollardref1_Put.l0 kq a1 a2 a3 a4 x14_1 x15_1 = some (r1, r2)) ∧ Aside0 (kq ≤ k) ∧ Aside0 (Kd.R (Kd.int .u8) 5 w' w.heap.size (fun _ => True) v288 x14_1) ∧ Aside0 (Below w.heap.size w w'))
      case atStart => exact ⟨(y287), (0), (by first | rfl | (simp; done) | (simp [*]; done) | exact congrArg Value.bool (ne_empty _) | exact congrArg Value.bool (eq_empty _)), H', ⟨Nat.le_refl _⟩, ⟨by (with_reducible repeat (first | apply Kd.R_alloc | apply Kd.R_drewN | apply Kd.R_drew)); exact HO289.out⟩, ⟨by repeat (first | (with_reducible first | exact HB.out | apply below_alloc | apply pw_below_drewN | apply below_drew1) | exact HB.out)⟩⟩
      case round =>
        clear H'
        try clear p2
        try clear c3
        try clear c4
        try clear c7
        try clear c8
        obtain ⟨x14_1, x15_1, rfl, HA, HK1, HO_14, HB⟩ := hrel
        cases gk with
        | zero => exact absurd HA.out (by first | (intro h_; exact nomatch (show (none : Option _) = some r from h_)) | simp [bollardref1_Put.l0])
        | succ k1 =>
          have H := HA.out
          clear HA
          simp only [bollardref1_Put.l0] at H
          by_cases c10 : x15_1 < a2
          · rw [if_pos c10] at H
            have c10b0 : decide (x15_1 < a2) = true := decide_eq_true c10
            clear c10
            by_cases c11 : a3 = true
            · subst c11
              have H1 : (if 0 ≤ (wrap64 (8 * (wrap64 ((wrap64 (a2 - 1)) - x15_1)))) then (if 0 ≤ (wrap64 (a1 + x15_1)) then (if (wrap64 (a1 + x15_1)) < (x14_1.length : Int) then (bollardref1_Put.l0 k1 a1 a2 true a4 (x14_1.set ((wrap64 (a1 + x15_1)) : Int).toNat ((shr .u64 a4 (wrap64 (8 * (wrap64 ((wrap64 (a2 - 1)) - x15_1))))) % 256)) (wrap64 (x15_1 + 1))) else (none)) else (none)) else (none)) = some (r1, r2) := by rw [if_pos rfl] at H; exact H
              clear H
              have H := H1
              clear H1
              obtain ⟨ji12, hji12⟩ : ∃ j_ : Int, (wrap64 (8 * (wrap64 ((wrap64 (a2 - 1)) - x15_1)))) = j_ := ⟨_, rfl⟩
              replace H : (if 0 ≤ (ji12) then (if 0 ≤ (wrap64 (a1 + x15_1)) then (if (wrap64 (a1 + x15_1)) < (x14_1.length : Int) then (bollardref1_Put.l0 k1 a1 a2 true a4 (x14_1.set ((wrap64 (a1 + x15_1)) : Int).toNat ((shr .u64 a4 (ji12)) % 256)) (wrap64 (x15_1 + 1))) else (none)) else (none)) else (none)) = some (r1, r2) := by first | (rw [hji12] at H; exact H) | (simp only [hji12] at H ⊢; exact H)
              have hji12w : (IntKind.i64.wrap (8 * (wrap64 ((wrap64 (a2 - 1)) - x15_1)))) = ji12 := (i64_w _).trans hji12
              by_cases c13 : 0 ≤ (ji12)
              · rw [if_pos c13] at H
                have c13b0 := eq_true c13
                have c13b1 : decide (0 ≤ (ji12)) = true := decide_eq_true c13
                clear c13
                obtain ⟨ji14, hji14⟩ : ∃ j_ : Int, (shr .u64 a4 (ji12)) = j_ := ⟨_, rfl⟩
                replace H : (if 0 ≤ (wrap64 (a1 + x15_1)) then (if (wrap64 (a1 + x15_1)) < (x14_1.length : Int) then (bollardref1_Put.l0 k1 a1 a2 true a4 (x14_1.set ((wrap64 (a1 + x15_1)) : Int).toNat ((ji14) % 256)) (wrap64 (x15_1 + 1))) else (none)) else (none)) = some (r1, r2) := by first | (rw [hji14] at H; exact H) | (simp only [hji14] at H ⊢; exact H)
                have hji14_ : (a4 / 2 ^ min (ji12).toNat 64) = ji14 := hji14
                have hji14z : (ji12) ≤ 64 → (a4 / 2 ^ (ji12).toNat) = ji14 := shr_small hji14
                obtain ⟨ji15, hji15⟩ : ∃ j_ : Int, (wrap64 (a1 + x15_1)) = j_ := ⟨_, rfl⟩
                replace H : (if 0 ≤ (ji15) then (if (ji15) < (x14_1.length : Int) then (bollardref1_Put.l0 k1 a1 a2 true a4 (x14_1.set ((ji15) : Int).toNat ((ji14) % 256)) (wrap64 (x15_1 + 1))) else (none)) else (none)) = some (r1, r2) := by first | (rw [hji15] at H; exact H) | (simp only [hji15] at H ⊢; exact H)
                have hji15w : (IntKind.i64.wrap (a1 + x15_1)) = ji15 := (i64_w _).trans hji15
                by_cases c16 : 0 ≤ (ji15)
                · rw [if_pos c16] at H
                  have c16b0 : decide (0 ≤ (ji15)) = true := decide_eq_true c16
                  clear c16
                  by_cases c17 : (ji15) < (x14_1.length : Int)
                  · rw [if_pos c17] at H
                    have c17b0 : decide ((ji15) < (x14_1.length : Int)) = true := decide_eq_true c17
                    clear c17
                    obtain ⟨y290, hy290⟩ : ∃ y_ : List Int, y_ = (x14_1.set ((ji15) : Int).toNat ((ji14) % 256)) := ⟨_, rfl⟩
                    replace H : (bollardref1_Put.l0 k1 a1 a2 true a4 y290 (wrap64 (x15_1 + 1))) = some (r1, r2) := by first | (rw [hy290]; with_reducible exact H) | (have H2_ := (Option.bind_some _ _).symm.trans H; rw [hy290]; with_reducible exact H2_) | (have H2_ := (Option.bind_some _ _).symm.trans H; with_reducible exact H2_) | with_reducible exact H | (rw [hy290]; exact H) | exact H
                    have Ny290 := Aside0.mk hy290
                    clear hy290
                    have H' := Aside0.mk H
                    clear H
                    have p18 : 0 ≤ ((ji15) : Int) := of_decide_eq_true (by first | (with_reducible assumption) | assumption)
                    have q18 : ((ji15) : Int) < ((x14_1.length : Int) : Int) := of_decide_eq_true (by first | (with_reducible assumption) | assumption)
                    obtain ⟨go18, co18, eo18, gb18, gl18, cl18, HG18⟩ := Kd.R_form HO_14.out (by omega)
                    (first | cases eo18 | (injection eo18 with ea_ en_ ec_; (first | subst ea_ | (injection ea_ with ea_; subst ea_)); subst ec_; clear en_))
                    have GB18 := Aside0.mk gb18
                    have GG18 := Aside0.mk HG18
                    clear gb18 gl18 HG18
                    obtain ⟨hx18_0, hf18_0⟩ := Kd.R_celln 0 HO_14.out ((ji15) : Int) p18 q18
                    replace p18 := eq_true p18
                    replace q18 := eq_true q18
                    have HP19 := Kd.R_putg HO_14.out ((ji15) : Int) ((ji14) % 256)
                    go_wp2_with (first | ((with_reducible refine gate_store (t := 5) (p := 51) rfl ?_); refine store_event (t := 5) (p := 51) (v := ?vo_w20) (w1 := (wr.setCell ⟨go18, ((ji15) : Int).toNat, none⟩ (.int .u8 ((ji14) % 256)))) ?hg ?ho ?hn ?hr ?_; (case ho => rfl); (case hg => rfl); (case hn => rfl); (case hr => first | (go_simp; done) | (go_simp; rfl)); intro w20 hw; have hg : wr.grownBy w20 (some go18) := (by rw [hw]; exact HP19.2); have hp_ : Kd.R (Kd.int .u8) 5 w20 w.heap.size (fun _ => True) (.slice (some ⟨go18, 0, none⟩) x14_1.length co18) y290 := (by rw [hw, Ny290.out]; exact HP19.1); clear HP19; have n0_ := Aside0.mk (hp_); have n1_ := Aside0.mk ((by rw [hw]; exact below_set (HB.out) GB18.out : Below w.heap.size w w20)); clear HO_14; clear HB; have HO_14 := n0_; have HB := n1_; clear n0_ n1_; clear hg hw hp_))
                    go_roundg k1
                    case measure => have := HK1.out; omega
                    case rel => exact ⟨(y290), (wrap64 (x15_1 + 1)), (by first | rfl | (simp; done) | (simp [*]; done) | exact congrArg Value.bool (ne_empty _) | exact congrArg Value.bool (eq_empty _)), H', ⟨by have := HK1.out; omega⟩, ⟨by (with_reducible repeat (first | apply Kd.R_alloc | apply Kd.R_drewN | apply Kd.R_drew)); exact HO_14.out⟩, ⟨by repeat (first | (with_reducible first | exact HB.out | apply below_alloc | apply pw_below_drewN | apply below_drew1) | exact HB.out)⟩⟩
                  · rw [if_neg c17] at H
                    exact absurd H (by simp)
                · rw [if_neg c16] at H
                  exact absurd H (by simp)
              · rw [if_neg c13] at H
                exact absurd H (by simp)
            · replace c11 := Bool.eq_false_iff.mpr c11
              subst c11
              have H1 : (if 0 ≤ (wrap64 (8 * x15_1)) then (if 0 ≤ (wrap64 (a1 + x15_1)) then (if (wrap64 (a1 + x15_1)) < (x14_1.length : Int) then (bollardref1_Put.l0 k1 a1 a2 false a4 (x14_1.set ((wrap64 (a1 + x15_1)) : Int).toNat ((shr .u64 a4 (wrap64 (8 * x15_1))) % 256)) (wrap64 (x15_1 + 1))) else (none)) else (none)) else (none)) = some (r1, r2) := by rw [if_neg (show ¬ (false = true) by decide)] at H; exact H
              clear H
              have H := H1
              clear H1
              obtain ⟨ji21, hji21⟩ : ∃ j_ : Int, (wrap64 (8 * x15_1)) = j_ := ⟨_, rfl⟩
              replace H : (if 0 ≤ (ji21) then (if 0 ≤ (wrap64 (a1 + x15_1)) then (if (wrap64 (a1 + x15_1)) < (x14_1.length : Int) then (bollardref1_Put.l0 k1 a1 a2 false a4 (x14_1.set ((wrap64 (a1 + x15_1)) : Int).toNat ((shr .u64 a4 (ji21)) % 256)) (wrap64 (x15_1 + 1))) else (none)) else (none)) else (none)) = some (r1, r2) := by first | (rw [hji21] at H; exact H) | (simp only [hji21] at H ⊢; exact H)
              have hji21w : (IntKind.i64.wrap (8 * x15_1)) = ji21 := (i64_w _).trans hji21
              by_cases c22 : 0 ≤ (ji21)
              · rw [if_pos c22] at H
                have c22b0 := eq_true c22
                have c22b1 : decide (0 ≤ (ji21)) = true := decide_eq_true c22
                clear c22
                obtain ⟨ji23, hji23⟩ : ∃ j_ : Int, (shr .u64 a4 (ji21)) = j_ := ⟨_, rfl⟩
                replace H : (if 0 ≤ (wrap64 (a1 + x15_1)) then (if (wrap64 (a1 + x15_1)) < (x14_1.length : Int) then (bollardref1_Put.l0 k1 a1 a2 false a4 (x14_1.set ((wrap64 (a1 + x15_1)) : Int).toNat ((ji23) % 256)) (wrap64 (x15_1 + 1))) else (none)) else (none)) = some (r1, r2) := by first | (rw [hji23] at H; exact H) | (simp only [hji23] at H ⊢; exact H)
                have hji23_ : (a4 / 2 ^ min (ji21).toNat 64) = ji23 := hji23
                have hji23z : (ji21) ≤ 64 → (a4 / 2 ^ (ji21).toNat) = ji23 := shr_small hji23
                obtain ⟨ji24, hji24⟩ : ∃ j_ : Int, (wrap64 (a1 + x15_1)) = j_ := ⟨_, rfl⟩
                replace H : (if 0 ≤ (ji24) then (if (ji24) < (x14_1.length : Int) then (bollardref1_Put.l0 k1 a1 a2 false a4 (x14_1.set ((ji24) : Int).toNat ((ji23) % 256)) (wrap64 (x15_1 + 1))) else (none)) else (none)) = some (r1, r2) := by first | (rw [hji24] at H; exact H) | (simp only [hji24] at H ⊢; exact H)
                have hji24w : (IntKind.i64.wrap (a1 + x15_1)) = ji24 := (i64_w _).trans hji24
                by_cases c25 : 0 ≤ (ji24)
                · rw [if_pos c25] at H
                  have c25b0 : decide (0 ≤ (ji24)) = true := decide_eq_true c25
                  clear c25
                  by_cases c26 : (ji24) < (x14_1.length : Int)
                  · rw [if_pos c26] at H
                    have c26b0 : decide ((ji24) < (x14_1.length : Int)) = true := decide_eq_true c26
                    clear c26
                    obtain ⟨y291, hy291⟩ : ∃ y_ : List Int, y_ = (x14_1.set ((ji24) : Int).toNat ((ji23) % 256)) := ⟨_, rfl⟩
                    replace H : (bollardref1_Put.l0 k1 a1 a2 false a4 y291 (wrap64 (x15_1 + 1))) = some (r1, r2) := by first | (rw [hy291]; with_reducible exact H) | (have H2_ := (Option.bind_some _ _).symm.trans H; rw [hy291]; with_reducible exact H2_) | (have H2_ := (Option.bind_some _ _).symm.trans H; with_reducible exact H2_) | with_reducible exact H | (rw [hy291]; exact H) | exact H
                    have Ny291 := Aside0.mk hy291
                    clear hy291
                    have H' := Aside0.mk H
                    clear H
                    have p27 : 0 ≤ ((ji24) : Int) := of_decide_eq_true (by first | (with_reducible assumption) | assumption)
                    have q27 : ((ji24) : Int) < ((x14_1.length : Int) : Int) := of_decide_eq_true (by first | (with_reducible assumption) | assumption)
                    obtain ⟨go27, co27, eo27, gb27, gl27, cl27, HG27⟩ := Kd.R_form HO_14.out (by omega)
                    (first | cases eo27 | (injection eo27 with ea_ en_ ec_; (first | subst ea_ | (injection ea_ with ea_; subst ea_)); subst ec_; clear en_))
                    have GB27 := Aside0.mk gb27
                    have GG27 := Aside0.mk HG27
                    clear gb27 gl27 HG27
                    obtain ⟨hx27_0, hf27_0⟩ := Kd.R_celln 0 HO_14.out ((ji24) : Int) p27 q27
                    replace p27 := eq_true p27
                    replace q27 := eq_true q27
                    have HP28 := Kd.R_putg HO_14.out ((ji24) : Int) ((ji23) % 256)
                    go_wp2_with (first | ((with_reducible refine gate_store (t := 5) (p := 51) rfl ?_); refine store_event (t := 5) (p := 51) (v := ?vo_w29) (w1 := (wr.setCell ⟨go27, ((ji24) : Int).toNat, none⟩ (.int .u8 ((ji23) % 256)))) ?hg ?ho ?hn ?hr ?_; (case ho => rfl); (case hg => rfl); (case hn => rfl); (case hr => first | (go_simp; done) | (go_simp; rfl)); intro w29 hw; have hg : wr.grownBy w29 (some go27) := (by rw [hw]; exact HP28.2); have hp_ : Kd.R (Kd.int .u8) 5 w29 w.heap.size (fun _ => True) (.slice (some ⟨go27, 0, none⟩) x14_1.length co27) y291 := (by rw [hw, Ny291.out]; exact HP28.1); clear HP28; have n0_ := Aside0.mk (hp_); have n1_ := Aside0.mk ((by rw [hw]; exact below_set (HB.out) GB27.out : Below w.heap.size w w29)); clear HO_14; clear HB; have HO_14 := n0_; have HB := n1_; clear n0_ n1_; clear hg hw hp_))
                    go_roundg k1
                    case measure => have := HK1.out; omega
                    case rel => exact ⟨(y291), (wrap64 (x15_1 + 1)), (by first | rfl | (simp; done) | (simp [*]; done) | exact congrArg Value.bool (ne_empty _) | exact congrArg Value.bool (eq_empty _)), H', ⟨by have := HK1.out; omega⟩, ⟨by (with_reducible repeat (first | apply Kd.R_alloc | apply Kd.R_drewN | apply Kd.R_drew)); exact HO_14.out⟩, ⟨by repeat (first | (with_reducible first | exact HB.out | apply below_alloc | apply pw_below_drewN | apply below_drew1) | exact HB.out)⟩⟩
                  · rw [if_neg c26] at H
                    exact absurd H (by simp)
                · rw [if_neg c25] at H
                  exact absurd H (by simp)
              · rw [if_neg c22] at H
                exact absurd H (by simp)
          · rw [if_neg c10] at H
            have c10b0 : decide (x15_1 < a2) = false := decide_eq_false c10
            clear c10
            simp only [Option.some.injEq, Prod.mk.injEq] at H
            obtain ⟨rfl, rfl⟩ := H
            go_wp2
            go_ret2
            exact ⟨_, by first | rfl | (simp [errW_none, errW_some] <;> rfl) | (simp [*, errW_none, errW_some] <;> rfl), by (with_reducible repeat (first | apply Kd.R_alloc | apply Kd.R_drewN | apply Kd.R_drew)); exact HO_14.out, by repeat (first | (with_reducible first | exact HB.out | apply below_alloc | apply pw_below_drewN | apply below_drew1) | exact HB.out)⟩
    · rw [if_neg c8] at H
      exact absurd H (by simp)
  · replace c7 := Bool.eq_false_iff.mpr c7
    subst c7
    have H1 : (some (([] : List Int), false)) = some (r1, r2) := by rw [if_neg (show ¬ (false = true) by decide)] at H; exact H
    clear H
    have H := H1
    clear H1
    simp only [Option.some.injEq, Prod.mk.injEq] at H
    obtain ⟨rfl, rfl⟩ := H
    go_enter Try.func42, Try.ntmps42
    go_wp2_with (first | ((with_reducible refine gate_callee (f := 38) rfl ?_); refine goesL_ (some 22) rfl rfl Try.func38 (by kernel_rfl) rfl #[.slice A0 l0.length c0, .int .i64 a1, .int .i64 a2, .bool a3] rfl (by (try simp only [List.map_toArray, List.map_cons, List.map_nil]); first | done | rfl | (simp only [List.length_drop, List.length_take]; rfl)) ?_; (with_reducible refine (bollardref1_Get.calls k _ _ l0 a1 a2 a3 t285 false _ ?side1 ?side2 A6.out).mono ?_); (case side1 => repeat (first | exact HR0.out | (with_reducible refine Kd.C_alloc ?_ _) | (with_reducible refine Kd.C_drewN ?_ _) | (with_reducible refine Kd.C_drew ?_))); (case side2 => exact HC0.out); rintro e w' ⟨rfl, ⟨nd, rfl⟩⟩; refine ⟨_, rfl, ?_⟩))
    go_ret2
    exact ⟨_, by first | rfl | (simp [errW_none, errW_some] <;> rfl) | (simp [*, errW_none, errW_some] <;> rfl), by first | exact Kd.R_nil _ _ _ _ _ | exact Kd.N_nil _ _ _ _ _ | exact Kd.V_nil _ _ _ _ _ | exact Kd.Q_nil _ _ _ _ _ | exact Kd.S_nil _ _ _ _ _, by repeat (first | (with_reducible first | exact HB.out | apply below_alloc | apply pw_below_drewN | apply below_drew1) | exact HB.out)⟩



end Go.Proofs.Ytgmeellapjimgaa.PBm

-- written by a program of this session (wip/tools/pr.py, over the kit's printer): not by hand
namespace Go.Proofs.Ytgmeellapjimgaa.PBm
open Go.RowKit Go.Proofs.YtgmeellapjimgaaW.PrintWords Go.Proofs.YtgmeellapjimgaaW.PrintLast Go.Proofs.YtgmeellapjimgaaW.PrintMore
attribute [local go_sem] max2_int min2_int max_two min_two max_three min_three max_four min_four   -- for this text's walks alone
set_option linter.unusedVariables false
set_option linter.unusedSimpArgs false

/-! ### bollardref1_Unvarint: function 55 -/
mutual
def bollardref1_Unvarint.l0 : Nat → List Int → Int → Int → Option (Int × Int)
  | 0, _, _, _ => none
  | k + 1, x0, x4, x5 => if x5 < 10 then (bollardref1_Unvarint.j1 k x0 x4 x5 (decide (x5 < (x0.length : Int)))) else (bollardref1_Unvarint.j1 k x0 x4 x5 false)
def bollardref1_Unvarint.j1 : Nat → List Int → Int → Int → Bool → Option (Int × Int)
  | 0, _, _, _, _ => none
  | k + 1, x0, x4, x5, x13 => if x13 = true then (if x5 = 9 then (if 0 ≤ x5 then (if x5 < (x0.length : Int) then (bollardref1_Unvarint.j2 k x0 x4 x5 (decide ((rd x0 x5) > 1))) else (none)) else (none)) else (bollardref1_Unvarint.j2 k x0 x4 x5 false)) else (some (0, 0))
def bollardref1_Unvarint.j2 : Nat → List Int → Int → Int → Bool → Option (Int × Int)
  | 0, _, _, _, _ => none
  | k + 1, x0, x4, x5, x24 => if x24 = true then (some (0, 0)) else (if 0 ≤ x5 then (if x5 < (x0.length : Int) then (if 0 ≤ (wrap64 (7 * x5)) then (if (rd x0 x5) < 128 then (if (rd x0 x5) = 0 then (if x5 > 0 then (some (0, 0)) else (some (Go.bits .or .u64 x4 (shl .u64 (IntKind.u64.wrap (Go.bits .and .u8 (rd x0 x5) 127)) (wrap64 (7 * x5))), wrap64 (x5 + 1)))) else (some (Go.bits .or .u64 x4 (shl .u64 (IntKind.u64.wrap (Go.bits .and .u8 (rd x0 x5) 127)) (wrap64 (7 * x5))), wrap64 (x5 + 1)))) else (bollardref1_Unvarint.l0 k x0 (Go.bits .or .u64 x4 (shl .u64 (IntKind.u64.wrap (Go.bits .and .u8 (rd x0 x5) 127)) (wrap64 (7 * x5)))) (wrap64 (x5 + 1)))) else (none)) else (none)) else (none))
end
def bollardref1_Unvarint.f (k : Nat) (l0 : List Int) : Option (Int × Int) := bollardref1_Unvarint.l0 k l0 0 0
set_option maxRecDepth 100000 in
theorem bollardref1_Unvarint.mono_l : ∀ k, (∀ y0 y1 y2, LeO (bollardref1_Unvarint.l0 k y0 y1 y2) (bollardref1_Unvarint.l0 (k + 1) y0 y1 y2)) ∧ (∀ y0 y1 y2 y3, LeO (bollardref1_Unvarint.j1 k y0 y1 y2 y3) (bollardref1_Unvarint.j1 (k + 1) y0 y1 y2 y3)) ∧ (∀ y0 y1 y2 y3, LeO (bollardref1_Unvarint.j2 k y0 y1 y2 y3) (bollardref1_Unvarint.j2 (k + 1) y0 y1 y2 y3))
  | 0 => ⟨fun _ _ _ r h => by first | exact nomatch (show (none : Option _) = some r from h) | (rw [bollardref1_Unvarint.l0] at h; cases h; done) | (simp [bollardref1_Unvarint.l0] at h; done), fun _ _ _ _ r h => by first | exact nomatch (show (none : Option _) = some r from h) | (rw [bollardref1_Unvarint.j1] at h; cases h; done) | (simp [bollardref1_Unvarint.j1] at h; done), fun _ _ _ _ r h => by first | exact nomatch (show (none : Option _) = some r from h) | (rw [bollardref1_Unvarint.j2] at h; cases h; done) | (simp [bollardref1_Unvarint.j2] at h; done)⟩
  | k + 1 => by
    obtain ⟨ih0, ih1, ih2⟩ := bollardref1_Unvarint.mono_l k
    refine ⟨?_, ?_, ?_⟩
    · intro y0 y1 y2
      unfold bollardref1_Unvarint.l0
      repeat' first
      | (with_reducible exact ih0 _ _ _)
      | (with_reducible exact ih1 _ _ _ _)
      | (with_reducible exact ih2 _ _ _ _)
      | (with_reducible exact LeO.refl _)
      | (with_reducible exact LeO.none _)
      | (with_reducible refine LeO.ite ?_ ?_)
      | (with_reducible refine LeO.bind ?_ (fun _ => ?_))
      | exact ih0 _ _ _
      | exact ih1 _ _ _ _
      | exact ih2 _ _ _ _
      | exact LeO.none _
      | refine LeO.ite ?_ ?_
      | refine LeO.bind ?_ (fun _ => ?_)
    · intro y0 y1 y2 y3
      unfold bollardref1_Unvarint.j1
      repeat' first
      | (with_reducible exact ih0 _ _ _)
      | (with_reducible exact ih1 _ _ _ _)
      | (with_reducible exact ih2 _ _ _ _)
      | (with_reducible exact LeO.refl _)
      | (with_reducible exact LeO.none _)
      | (with_reducible refine LeO.ite ?_ ?_)
      | (with_reducible refine LeO.bind ?_ (fun _ => ?_))
      | exact ih0 _ _ _
      | exact ih1 _ _ _ _
      | exact ih2 _ _ _ _
      | exact LeO.none _
      | refine LeO.ite ?_ ?_
      | refine LeO.bind ?_ (fun _ => ?_)
    · intro y0 y1 y2 y3
      unfold bollardref1_Unvarint.j2
      repeat' first
      | (with_reducible exact ih0 _ _ _)
      | (with_reducible exact ih1 _ _ _ _)
      | (with_reducible exact ih2 _ _ _ _)
      | (with_reducible exact LeO.refl _)
      | (with_reducible exact LeO.none _)
      | (with_reducible refine LeO.ite ?_ ?_)
      | (with_reducible refine LeO.bind ?_ (fun _ => ?_))
      | exact ih0 _ _ _
      | exact ih1 _ _ _ _
      | exact ih2 _ _ _ _
      | exact LeO.none _
      | refine LeO.ite ?_ ?_
      | refine LeO.bind ?_ (fun _ => ?_)
theorem bollardref1_Unvarint.mono : ∀ a0 k, LeO (bollardref1_Unvarint.f k a0) (bollardref1_Unvarint.f (k + 1) a0) := by
  intro a0 k
  obtain ⟨ih0, ih1, ih2⟩ := bollardref1_Unvarint.mono_l k
  unfold bollardref1_Unvarint.f
  repeat' first
      | (with_reducible exact ih0 _ _ _)
      | (with_reducible exact ih1 _ _ _ _)
      | (with_reducible exact ih2 _ _ _ _)
      | (with_reducible exact LeO.refl _)
      | (with_reducible exact LeO.none _)
      | (with_reducible refine LeO.ite ?_ ?_)
      | (with_reducible refine LeO.bind ?_ (fun _ => ?_))
      | exact ih0 _ _ _
      | exact ih1 _ _ _ _
      | exact ih2 _ _ _ _
      | exact LeO.none _
      | refine LeO.ite ?_ ?_
      | refine LeO.bind ?_ (fun _ => ?_)
set_option maxHeartbeats 8000000 in
set_option maxRecDepth 100000 in
theorem bollardref1_Unvarint.calls (k : Nat) (A0 : Option Addr) (c0 : Nat) (l0 : List Int) (r1 : Int) (r2 : Int) (w : World) (hr0 : Kd.C (Kd.int .u8) w A0 l0.length l0) (hc0 : l0.length ≤ c0) (h : bollardref1_Unvarint.f k l0 = some (r1, r2)) :
    Calls Try.prog 55 #[.slice A0 l0.length c0] w fun e w' => e = .returned (.tuple #[.int .u64 r1, .int .i64 r2]) ∧ Drawn0 w w' := by
  have HR0 := Aside0.mk hr0
  have HC0 := Aside0.mk hc0
  clear hr0 hc0
  have H : (bollardref1_Unvarint.l0 k l0 0 0) = some (r1, r2) := h
  clear h
  have H' := Aside0.mk H
  clear H
  go_enter Try.func55, Try.ntmps55
  go_wp2
  go_loopg [4, 5] k (fun kq v4 v5 w' => ∃ (x4_1 : Int) (x5_1 : Int), v4 = .int .u64 x4_1 ∧ v5 = .int .i64 x5_1 ∧ Aside0 (bollardref1_Unvarint.l0 kq l0 x4_1 x5_1 = some (r1, r2)) ∧ Aside0 (kq ≤ k) ∧ Drawn0 w w')
  case atStart => exact ⟨(0), (0), (by first | rfl | (simp; done) | (simp [*]; done) | exact congrArg Value.bool (ne_empty _) | exact congrArg Value.bool (eq_empty _)), (by first | rfl | (simp; done) | (simp [*]; done) | exact congrArg Value.bool (ne_empty _) | exact congrArg Value.bool (eq_empty _)), H', ⟨Nat.le_refl _⟩, by repeat (first | exact Drawn0.refl _ | apply Drawn0.step)⟩
  case round =>
    clear H'
    obtain ⟨x4_1, x5_1, rfl, rfl, HA, HK1, ⟨m1, rfl⟩⟩ := hrel
    cases gk with
    | zero => exact absurd HA.out (by first | (intro h_; exact nomatch (show (none : Option _) = some r from h_)) | simp [bollardref1_Unvarint.l0])
    | succ k1 =>
      have H := HA.out
      clear HA
      simp only [bollardref1_Unvarint.l0] at H
      have HC2 := Aside0.mk H
      clear H
      go_upto_region 3 with (fail)
      go_cut [13] (fun v13 wc => ∃ (kq : Nat) (x13_1 : Bool), v13 = .bool x13_1 ∧ Aside0 (bollardref1_Unvarint.j1 kq l0 x4_1 x5_1 x13_1 = some (r1, r2)) ∧ Aside0 (kq ≤ k1) ∧ Drawn0 w wc)
      case first =>
        have H := HC2.out
        clear HC2
        by_cases c3 : x5_1 < 10
        · rw [if_pos c3] at H
          have c3b0 : decide (x5_1 < 10) = true := decide_eq_true c3
          clear c3
          (first | rw [c3b0] | (simp only [i64_w, i32_w]; rw [c3b0]) | skip)
          have H' := Aside0.mk H
          clear H
          go_wp2
          go_meet
          case rel => exact ⟨_, (decide (x5_1 < (l0.length : Int))), (by first | rfl | (simp; done) | (simp [*]; done) | exact congrArg Value.bool (ne_empty _) | exact congrArg Value.bool (eq_empty _)), H', ⟨by have := HK1.out; first | omega | exact Nat.le_refl _⟩, by repeat (first | exact Drawn0.refl _ | apply Drawn0.step)⟩
        · rw [if_neg c3] at H
          have c3b0 : decide (x5_1 < 10) = false := decide_eq_false c3
          clear c3
          (first | rw [c3b0] | (simp only [i64_w, i32_w]; rw [c3b0]) | skip)
          have H' := Aside0.mk H
          clear H
          go_wp2
          go_meet
          case rel => exact ⟨_, (false), (by first | rfl | (simp; done) | (simp [*]; done) | exact congrArg Value.bool (ne_empty _) | exact congrArg Value.bool (eq_empty _)), H', ⟨by have := HK1.out; first | omega | exact Nat.le_refl _⟩, by repeat (first | exact Drawn0.refl _ | apply Drawn0.step)⟩
      case rest =>
        clear HC2
        try clear p2
        try clear c3
        try clear c3b0
        obtain ⟨kq, x13_1, rfl, HA, HJ1, ⟨mc1, rfl⟩⟩ := hcut
        cases kq with
        | zero => exact absurd HA.out (by first | (intro h_; exact nomatch (show (none : Option _) = some r from h_)) | simp [bollardref1_Unvarint.j1])
        | succ kj1 =>
          have H := HA.out
          clear HA
          simp only [bollardref1_Unvarint.j1] at H
          by_cases c4 : x13_1 = true
          · subst c4
            have H1 : (if x5_1 = 9 then (if 0 ≤ x5_1 then (if x5_1 < (l0.length : Int) then (bollardref1_Unvarint.j2 kj1 l0 x4_1 x5_1 (decide ((rd l0 x5_1) > 1))) else (none)) else (none)) else (bollardref1_Unvarint.j2 kj1 l0 x4_1 x5_1 false)) = some (r1, r2) := by rw [if_pos rfl] at H; exact H
            clear H
            have H := H1
            clear H1
            have HC5 := Aside0.mk H
            clear H
            go_upto_region 5 with (fail)
            go_cut [24] (fun v24 wc => ∃ (kq : Nat) (x24_4 : Bool), v24 = .bool x24_4 ∧ Aside0 (bollardref1_Unvarint.j2 kq l0 x4_1 x5_1 x24_4 = some (r1, r2)) ∧ Aside0 (kq ≤ kj1) ∧ Drawn0 w wc)
            case first =>
              have H := HC5.out
              clear HC5
              by_cases c6 : x5_1 = 9
              · rw [if_pos c6] at H
                have c6b0 : (x5_1 == 9) = true := beq_iff_eq.mpr c6
                have c6b1 : (x5_1 != 9) = false := bne_eq_false_iff_eq.mpr c6
                clear c6
                (first | rw [c6b0] | (simp only [i64_w, i32_w]; rw [c6b0]) | skip)
                by_cases c7 : 0 ≤ x5_1
                · rw [if_pos c7] at H
                  have c7b0 : decide (0 ≤ x5_1) = true := decide_eq_true c7
                  clear c7
                  by_cases c8 : x5_1 < (l0.length : Int)
                  · rw [if_pos c8] at H
                    have c8b0 : decide (x5_1 < (l0.length : Int)) = true := decide_eq_true c8
                    clear c8
                    have H' := Aside0.mk H
                    clear H
                    have p292 : 0 ≤ (x5_1 : Int) := of_decide_eq_true (by first | (with_reducible assumption) | assumption)
                    have q292 : x5_1 < (l0.length : Int) := of_decide_eq_true (by first | (with_reducible assumption) | assumption)
                    obtain ⟨ad292, e292, hx292_0⟩ := Kd.at_int HR0.out x5_1 p292 q292
                    cases e292
                    replace p292 := eq_true p292
                    replace q292 := eq_true q292
                    go_wp2
                    go_meet
                    case rel => exact ⟨_, (decide ((rd l0 x5_1) > 1)), (by first | rfl | (simp; done) | (simp [*]; done) | exact congrArg Value.bool (ne_empty _) | exact congrArg Value.bool (eq_empty _)), H', ⟨by have := HK1.out; have := HJ1.out; first | omega | exact Nat.le_refl _⟩, by repeat (first | exact Drawn0.refl _ | apply Drawn0.step)⟩
                  · rw [if_neg c8] at H
                    exact absurd H (by simp)
                · rw [if_neg c7] at H
                  exact absurd H (by simp)
              · rw [if_neg c6] at H
                have c6b0 : (x5_1 == 9) = false := beq_eq_false_iff_ne.mpr c6
                have c6b1 : (x5_1 != 9) = true := bne_iff_ne.mpr c6
                (first | rw [c6b0] | (simp only [i64_w, i32_w]; rw [c6b0]) | skip)
                have H' := Aside0.mk H
                clear H
                go_wp2
                go_meet
                case rel => exact ⟨_, (false), (by first | rfl | (simp; done) | (simp [*]; done) | exact congrArg Value.bool (ne_empty _) | exact congrArg Value.bool (eq_empty _)), H', ⟨by have := HK1.out; have := HJ1.out; first | omega | exact Nat.le_refl _⟩, by repeat (first | exact Drawn0.refl _ | apply Drawn0.step)⟩
            case rest =>
              clear HC5
              try clear c1
              try clear p2
              try clear q2
              try clear hx2
              try clear c3
              try clear c3b0
              try clear c4
              try clear c5
              try clear c6
              try clear c6b0
              try clear c6b1
              try clear c7
              try clear c7b0
              try clear c8
              try clear c8b0
              try clear hx292_0
              try clear p2
              try clear p292
              try clear q292
              obtain ⟨kq, x24_4, rfl, HA, HJ4, ⟨mc4, rfl⟩⟩ := hcut
              cases kq with
              | zero => exact absurd HA.out (by first | (intro h_; exact nomatch (show (none : Option _) = some r from h_)) | simp [bollardref1_Unvarint.j2])
              | succ kj4 =>
                have H := HA.out
                clear HA
                simp only [bollardref1_Unvarint.j2] at H
                by_cases c9 : x24_4 = true
                · subst c9
                  have H1 : (some (0, 0)) = some (r1, r2) := by rw [if_pos rfl] at H; exact H
                  clear H
                  have H := H1
                  clear H1
                  simp only [Option.some.injEq, Prod.mk.injEq] at H
                  obtain ⟨rfl, rfl⟩ := H
                  go_wp2
                  go_ret2
                  exact ⟨by first | rfl | (simp; done) | (simp [*]; done) | exact congrArg Value.bool (ne_empty _) | exact congrArg Value.bool (eq_empty _), by repeat (first | exact Drawn0.refl _ | apply Drawn0.step)⟩
                · replace c9 := Bool.eq_false_iff.mpr c9
                  subst c9
                  have H1 : (if 0 ≤ x5_1 then (if x5_1 < (l0.length : Int) then (if 0 ≤ (wrap64 (7 * x5_1)) then (if (rd l0 x5_1) < 128 then (if (rd l0 x5_1) = 0 then (if x5_1 > 0 then (some (0, 0)) else (some (Go.bits .or .u64 x4_1 (shl .u64 (IntKind.u64.wrap (Go.bits .and .u8 (rd l0 x5_1) 127)) (wrap64 (7 * x5_1))), wrap64 (x5_1 + 1)))) else (some (Go.bits .or .u64 x4_1 (shl .u64 (IntKind.u64.wrap (Go.bits .and .u8 (rd l0 x5_1) 127)) (wrap64 (7 * x5_1))), wrap64 (x5_1 + 1)))) else (bollardref1_Unvarint.l0 kj4 l0 (Go.bits .or .u64 x4_1 (shl .u64 (IntKind.u64.wrap (Go.bits .and .u8 (rd l0 x5_1) 127)) (wrap64 (7 * x5_1)))) (wrap64 (x5_1 + 1)))) else (none)) else (none)) else (none)) = some (r1, r2) := by rw [if_neg (show ¬ (false = true) by decide)] at H; exact H
                  clear H
                  have H := H1
                  clear H1
                  by_cases c10 : 0 ≤ x5_1
                  · rw [if_pos c10] at H
                    have c10b0 : decide (0 ≤ x5_1) = true := decide_eq_true c10
                    clear c10
                    by_cases c11 : x5_1 < (l0.length : Int)
                    · rw [if_pos c11] at H
                      have c11b0 : decide (x5_1 < (l0.length : Int)) = true := decide_eq_true c11
                      clear c11
                      obtain ⟨ji12, hji12⟩ : ∃ j_ : Int, (wrap64 (7 * x5_1)) = j_ := ⟨_, rfl⟩
                      replace H : (if 0 ≤ (ji12) then (if (rd l0 x5_1) < 128 then (if (rd l0 x5_1) = 0 then (if x5_1 > 0 then (some (0, 0)) else (some (Go.bits .or .u64 x4_1 (shl .u64 (IntKind.u64.wrap (Go.bits .and .u8 (rd l0 x5_1) 127)) (ji12)), wrap64 (x5_1 + 1)))) else (some (Go.bits .or .u64 x4_1 (shl .u64 (IntKind.u64.wrap (Go.bits .and .u8 (rd l0 x5_1) 127)) (ji12)), wrap64 (x5_1 + 1)))) else (bollardref1_Unvarint.l0 kj4 l0 (Go.bits .or .u64 x4_1 (shl .u64 (IntKind.u64.wrap (Go.bits .and .u8 (rd l0 x5_1) 127)) (ji12))) (wrap64 (x5_1 + 1)))) else (none)) = some (r1, r2) := by first | (rw [hji12] at H; exact H) | (simp only [hji12] at H ⊢; exact H)
                      have hji12w : (IntKind.i64.wrap (7 * x5_1)) = ji12 := (i64_w _).trans hji12
                      by_cases c13 : 0 ≤ (ji12)
                      · rw [if_pos c13] at H
                        have c13b0 := eq_true c13
                        have c13b1 : decide (0 ≤ (ji12)) = true := decide_eq_true c13
                        clear c13
                        obtain ⟨ji14, hji14⟩ : ∃ j_ : Int, (shl .u64 (IntKind.u64.wrap (Go.bits .and .u8 (rd l0 x5_1) 127)) (ji12)) = j_ := ⟨_, rfl⟩
                        replace H : (if (rd l0 x5_1) < 128 then (if (rd l0 x5_1) = 0 then (if x5_1 > 0 then (some (0, 0)) else (some (Go.bits .or .u64 x4_1 (ji14), wrap64 (x5_1 + 1)))) else (some (Go.bits .or .u64 x4_1 (ji14), wrap64 (x5_1 + 1)))) else (bollardref1_Unvarint.l0 kj4 l0 (Go.bits .or .u64 x4_1 (ji14)) (wrap64 (x5_1 + 1)))) = some (r1, r2) := by first | (rw [hji14] at H; exact H) | (simp only [hji14] at H ⊢; exact H)
                        have hji14_ : (IntKind.u64.wrap ((IntKind.u64.wrap (Go.bits .and .u8 (rd l0 x5_1) 127)) * 2 ^ min (ji12).toNat 64)) = ji14 := hji14
                        have hji14z : (ji12) ≤ 64 → (IntKind.u64.wrap ((IntKind.u64.wrap (Go.bits .and .u8 (rd l0 x5_1) 127)) * 2 ^ (ji12).toNat)) = ji14 := shl_small hji14
                        by_cases c15 : (rd l0 x5_1) < 128
                        · rw [if_pos c15] at H
                          have c15b0 : decide ((rd l0 x5_1) < 128) = true := decide_eq_true c15
                          clear c15
                          by_cases c16 : (rd l0 x5_1) = 0
                          · rw [if_pos c16] at H
                            have c16b0 : ((rd l0 x5_1) == 0) = true := beq_iff_eq.mpr c16
                            have c16b1 : ((rd l0 x5_1) != 0) = false := bne_eq_false_iff_eq.mpr c16
                            clear c16
                            by_cases c17 : x5_1 > 0
                            · rw [if_pos c17] at H
                              have c17b0 : decide (0 < x5_1) = true := decide_eq_true c17
                              clear c17
                              simp only [Option.some.injEq, Prod.mk.injEq] at H
                              obtain ⟨rfl, rfl⟩ := H
                              have p293 : 0 ≤ (x5_1 : Int) := of_decide_eq_true (by first | (with_reducible assumption) | assumption)
                              have q293 : x5_1 < (l0.length : Int) := of_decide_eq_true (by first | (with_reducible assumption) | assumption)
                              obtain ⟨ad293, e293, hx293_0⟩ := Kd.at_int HR0.out x5_1 p293 q293
                              cases e293
                              replace p293 := eq_true p293
                              replace q293 := eq_true q293
                              have p294 : 0 ≤ (x5_1 : Int) := of_decide_eq_true (by first | (with_reducible assumption) | assumption)
                              have q294 : x5_1 < (l0.length : Int) := of_decide_eq_true (by first | (with_reducible assumption) | assumption)
                              obtain ⟨ad294, e294, hx294_0⟩ := Kd.at_int HR0.out x5_1 p294 q294
                              obtain rfl : ad293 = ad294 := (by injection e294)
                              replace p294 := eq_true p294
                              replace q294 := eq_true q294
                              have p295 : 0 ≤ (x5_1 : Int) := of_decide_eq_true (by first | (with_reducible assumption) | assumption)
                              have q295 : x5_1 < (l0.length : Int) := of_decide_eq_true (by first | (with_reducible assumption) | assumption)
                              obtain ⟨ad295, e295, hx295_0⟩ := Kd.at_int HR0.out x5_1 p295 q295
                              obtain rfl : ad293 = ad295 := (by injection e295)
                              replace p295 := eq_true p295
                              replace q295 := eq_true q295
                              go_wp2
                              go_ret2
                              exact ⟨by first | rfl | (simp; done) | (simp only [← hji12, ← hji14] <;> (first | rfl | simp)) | (simp [*]; done), by repeat (first | exact Drawn0.refl _ | apply Drawn0.step)⟩
                            · rw [if_neg c17] at H
                              have c17b0 : decide (0 < x5_1) = false := decide_eq_false c17
                              clear c17
                              simp only [Option.some.injEq, Prod.mk.injEq] at H
                              obtain ⟨rfl, rfl⟩ := H
                              have p293 : 0 ≤ (x5_1 : Int) := of_decide_eq_true (by first | (with_reducible assumption) | assumption)
                              have q293 : x5_1 < (l0.length : Int) := of_decide_eq_true (by first | (with_reducible assumption) | assumption)
                              obtain ⟨ad293, e293, hx293_0⟩ := Kd.at_int HR0.out x5_1 p293 q293
                              cases e293
                              replace p293 := eq_true p293
                              replace q293 := eq_true q293
                              have p294 : 0 ≤ (x5_1 : Int) := of_decide_eq_true (by first | (with_reducible assumption) | assumption)
                              have q294 : x5_1 < (l0.length : Int) := of_decide_eq_true (by first | (with_reducible assumption) | assumption)
                              obtain ⟨ad294, e294, hx294_0⟩ := Kd.at_int HR0.out x5_1 p294 q294
                              obtain rfl : ad293 = ad294 := (by injection e294)
                              replace p294 := eq_true p294
                              replace q294 := eq_true q294
                              have p295 : 0 ≤ (x5_1 : Int) := of_decide_eq_true (by first | (with_reducible assumption) | assumption)
                              have q295 : x5_1 < (l0.length : Int) := of_decide_eq_true (by first | (with_reducible assumption) | assumption)
                              obtain ⟨ad295, e295, hx295_0⟩ := Kd.at_int HR0.out x5_1 p295 q295
                              obtain rfl : ad293 = ad295 := (by injection e295)
                              replace p295 := eq_true p295
                              replace q295 := eq_true q295
                              go_wp2
                              go_ret2
                              exact ⟨by first | rfl | (simp; done) | (simp only [← hji12, ← hji14] <;> (first | rfl | simp)) | (simp [*]; done), by repeat (first | exact Drawn0.refl _ | apply Drawn0.step)⟩
                          · rw [if_neg c16] at H
                            have c16b0 : ((rd l0 x5_1) == 0) = false := beq_eq_false_iff_ne.mpr c16
                            have c16b1 : ((rd l0 x5_1) != 0) = true := bne_iff_ne.mpr c16
                            simp only [Option.some.injEq, Prod.mk.injEq] at H
                            obtain ⟨rfl, rfl⟩ := H
                            have p293 : 0 ≤ (x5_1 : Int) := of_decide_eq_true (by first | (with_reducible assumption) | assumption)
                            have q293 : x5_1 < (l0.length : Int) := of_decide_eq_true (by first | (with_reducible assumption) | assumption)
                            obtain ⟨ad293, e293, hx293_0⟩ := Kd.at_int HR0.out x5_1 p293 q293
                            cases e293
                            replace p293 := eq_true p293
                            replace q293 := eq_true q293
                            have p294 : 0 ≤ (x5_1 : Int) := of_decide_eq_true (by first | (with_reducible assumption) | assumption)
                            have q294 : x5_1 < (l0.length : Int) := of_decide_eq_true (by first | (with_reducible assumption) | assumption)
                            obtain ⟨ad294, e294, hx294_0⟩ := Kd.at_int HR0.out x5_1 p294 q294
                            obtain rfl : ad293 = ad294 := (by injection e294)
                            replace p294 := eq_true p294
                            replace q294 := eq_true q294
                            have p295 : 0 ≤ (x5_1 : Int) := of_decide_eq_true (by first | (with_reducible assumption) | assumption)
                            have q295 : x5_1 < (l0.length : Int) := of_decide_eq_true (by first | (with_reducible assumption) | assumption)
                            obtain ⟨ad295, e295, hx295_0⟩ := Kd.at_int HR0.out x5_1 p295 q295
                            obtain rfl : ad293 = ad295 := (by injection e295)
                            replace p295 := eq_true p295
                            replace q295 := eq_true q295
                            go_wp2
                            go_ret2
                            exact ⟨by first | rfl | (simp; done) | (simp only [← hji12, ← hji14] <;> (first | rfl | simp)) | (simp [*]; done), by repeat (first | exact Drawn0.refl _ | apply Drawn0.step)⟩
                        · rw [if_neg c15] at H
                          have c15b0 : decide ((rd l0 x5_1) < 128) = false := decide_eq_false c15
                          clear c15
                          have H' := Aside0.mk H
                          clear H
                          have p293 : 0 ≤ (x5_1 : Int) := of_decide_eq_true (by first | (with_reducible assumption) | assumption)
                          have q293 : x5_1 < (l0.length : Int) := of_decide_eq_true (by first | (with_reducible assumption) | assumption)
                          obtain ⟨ad293, e293, hx293_0⟩ := Kd.at_int HR0.out x5_1 p293 q293
                          cases e293
                          replace p293 := eq_true p293
                          replace q293 := eq_true q293
                          have p294 : 0 ≤ (x5_1 : Int) := of_decide_eq_true (by first | (with_reducible assumption) | assumption)
                          have q294 : x5_1 < (l0.length : Int) := of_decide_eq_true (by first | (with_reducible assumption) | assumption)
                          obtain ⟨ad294, e294, hx294_0⟩ := Kd.at_int HR0.out x5_1 p294 q294
                          obtain rfl : ad293 = ad294 := (by injection e294)
                          replace p294 := eq_true p294
                          replace q294 := eq_true q294
                          go_wp2
                          go_roundg kj4
                          case measure => have := HK1.out; have := HJ1.out; have := HJ4.out; omega
                          case rel => exact ⟨(Go.bits .or .u64 x4_1 (ji14)), (wrap64 (x5_1 + 1)), (by first | rfl | (simp; done) | (simp only [← hji14] <;> (first | rfl | simp)) | (simp [*]; done)), (by first | rfl | (simp; done) | (simp [*]; done) | exact congrArg Value.bool (ne_empty _) | exact congrArg Value.bool (eq_empty _)), H', ⟨by have := HK1.out; have := HJ1.out; have := HJ4.out; omega⟩, by repeat (first | exact Drawn0.refl _ | apply Drawn0.step)⟩
                      · rw [if_neg c13] at H
                        exact absurd H (by simp)
                    · rw [if_neg c11] at H
                      exact absurd H (by simp)
                  · rw [if_neg c10] at H
                    exact absurd H (by simp)
          · replace c4 := Bool.eq_false_iff.mpr c4
            subst c4
            have H1 : (some (0, 0)) = some (r1, r2) := by rw [if_neg (show ¬ (false = true) by decide)] at H; exact H
            clear H
            have H := H1
            clear H1
            simp only [Option.some.injEq, Prod.mk.injEq] at H
            obtain ⟨rfl, rfl⟩ := H
            go_wp2
            go_ret2
            exact ⟨by first | rfl | (simp; done) | (simp [*]; done) | exact congrArg Value.bool (ne_empty _) | exact congrArg Value.bool (eq_empty _), by repeat (first | exact Drawn0.refl _ | apply Drawn0.step)⟩

/-! ### bollardref1_Zag: function 56 -/
def bollardref1_Zag.f (a0 : Int) : Option (Int) := some (Go.bits .xor .i64 (wrap64 (a0 / 2)) (wrap64 (-(wrap64 (Go.bits .and .u64 a0 1)))))
set_option maxHeartbeats 8000000 in
set_option maxRecDepth 100000 in
theorem bollardref1_Zag.calls (a0 : Int) (r : Int) (w : World) (h : bollardref1_Zag.f a0 = some r) :
    Calls Try.prog 56 #[.int .u64 a0] w fun e w' => e = .returned (.int .i64 r) ∧ Drawn0 w w' := by
  have H : (some (Go.bits .xor .i64 (wrap64 (a0 / 2)) (wrap64 (-(wrap64 (Go.bits .and .u64 a0 1)))))) = some r := h
  clear h
  obtain rfl := Option.some.inj H
  go_enter Try.func56, Try.ntmps56
  go_wp2
  go_ret
  exact ⟨by first | rfl | (simp; done) | (simp [*]; done) | exact congrArg Value.bool (ne_empty _) | exact congrArg Value.bool (eq_empty _), by repeat (first | exact Drawn0.refl _ | apply Drawn0.step)⟩

set_option maxHeartbeats 1000000 in
set_option maxRecDepth 100000 in
theorem reftext_no (k : Nat) (A : Option Addr) (c : Nat) (l : List Int) (i v n : Int) (w : World) (hr : Kd.C (Kd.int .u8) w A l.length l) (hc : l.length ≤ c) (hl : l.length ≤ 1000000000000000)
    (h0 : 0 ≤ i) (h1 : i ≤ (l.length : Int)) (hu : bollardref1_Unvarint.f k (l.drop i.toNat) = some (v, n)) (hv : 0 ≤ v) (hv2 : v < 18446744073709551616) (hn : 0 ≤ n) (hin : i + n ≤ (l.length : Int)) (hz : n = 0) :
    Calls Try.prog 57 #[.slice A l.length c, .int .i64 i] w fun e w' => e = .returned (.tuple #[.string ⟨#[]⟩, .int .i64 (-1)]) ∧ Drawn0 w w' := by
  have HU := Aside0.mk hu
  obtain ⟨i0, hi0, _, hsz, _⟩ := info_parts info5
  obtain ⟨A1, hcut, hA, hC⟩ := print_drop_of (P := Try.prog) (Value.int .u8) 0 27 5 .i64 Try.underlying27 hi0 hsz A c l i h0 h1 hc
  have HR := Aside0.mk (Kd.C_of_reads (h1 := fun _ => rfl) (hA _ (Kd.reads_of_C hr)))
  have HC := Aside0.mk hC
  have hcall : Calls Try.prog 55 #[.slice A1 (l.length - i.toNat) (c - i.toNat)] w fun e w' => e = .returned (.tuple #[.int .u64 v, .int .i64 n]) ∧ ∃ q, w' = w.drewN q := by
    have := bollardref1_Unvarint.calls k A1 _ (l.drop i.toNat) v n w HR.out HC.out HU.out
    rw [List.length_drop] at this
    exact this.mono fun _ _ h => ⟨h.1, h.2.out⟩
  have HK := Aside0.mk hcall
  have e0 : (n == 0) = true := by simpa using hz
  clear hA hC hi0 hsz hr hc hu hcall hz
  go_enter Try.func57, Try.ntmps57
  go_wp2_with (go_at_call 55; refine HK.out.mono ?_; rintro e w1 ⟨rfl, ⟨q, rfl⟩⟩)
  go_ret2
  exact ⟨rfl, ⟨⟨_, rfl⟩⟩⟩

set_option maxHeartbeats 1000000 in
set_option maxRecDepth 100000 in
theorem reftext_long (k : Nat) (A : Option Addr) (c : Nat) (l : List Int) (i v n : Int) (w : World) (hr : Kd.C (Kd.int .u8) w A l.length l) (hc : l.length ≤ c) (hl : l.length ≤ 1000000000000000)
    (h0 : 0 ≤ i) (h1 : i ≤ (l.length : Int)) (hu : bollardref1_Unvarint.f k (l.drop i.toNat) = some (v, n)) (hv : 0 ≤ v) (hv2 : v < 18446744073709551616) (hn : 0 ≤ n) (hin : i + n ≤ (l.length : Int)) (hz : n ≠ 0) (hb : 2000 < v) :
    Calls Try.prog 57 #[.slice A l.length c, .int .i64 i] w fun e w' => e = .returned (.tuple #[.string ⟨#[]⟩, .int .i64 (-1)]) ∧ Drawn0 w w' := by
  have HU := Aside0.mk hu
  obtain ⟨i0, hi0, _, hsz, _⟩ := info_parts info5
  obtain ⟨A1, hcut, hA, hC⟩ := print_drop_of (P := Try.prog) (Value.int .u8) 0 27 5 .i64 Try.underlying27 hi0 hsz A c l i h0 h1 hc
  have HR := Aside0.mk (Kd.C_of_reads (h1 := fun _ => rfl) (hA _ (Kd.reads_of_C hr)))
  have HC := Aside0.mk hC
  have hcall : Calls Try.prog 55 #[.slice A1 (l.length - i.toNat) (c - i.toNat)] w fun e w' => e = .returned (.tuple #[.int .u64 v, .int .i64 n]) ∧ ∃ q, w' = w.drewN q := by
    have := bollardref1_Unvarint.calls k A1 _ (l.drop i.toNat) v n w HR.out HC.out HU.out
    rw [List.length_drop] at this
    exact this.mono fun _ _ h => ⟨h.1, h.2.out⟩
  have HK := Aside0.mk hcall
  have e0 : (n == 0) = false := by simpa using hz
  have e1 : decide (2000 < v) = true := decide_eq_true hb
  clear hA hC hi0 hsz hr hc hu hcall hz hb
  go_enter Try.func57, Try.ntmps57
  go_wp2_with (go_at_call 55; refine HK.out.mono ?_; rintro e w1 ⟨rfl, ⟨q, rfl⟩⟩)
  go_ret2
  exact ⟨rfl, ⟨⟨_, rfl⟩⟩⟩

set_option maxHeartbeats 1000000 in
set_option maxRecDepth 100000 in
theorem reftext_cut (k : Nat) (A : Option Addr) (c : Nat) (l : List Int) (i v n : Int) (w : World) (hr : Kd.C (Kd.int .u8) w A l.length l) (hc : l.length ≤ c) (hl : l.length ≤ 1000000000000000)
    (h0 : 0 ≤ i) (h1 : i ≤ (l.length : Int)) (hu : bollardref1_Unvarint.f k (l.drop i.toNat) = some (v, n)) (hv : 0 ≤ v) (hv2 : v < 18446744073709551616) (hn : 0 ≤ n) (hin : i + n ≤ (l.length : Int)) (hz : n ≠ 0) (hb : v ≤ 2000) (hd : (l.length : Int) - i - n < v) :
    Calls Try.prog 57 #[.slice A l.length c, .int .i64 i] w fun e w' => e = .returned (.tuple #[.string ⟨#[]⟩, .int .i64 (-1)]) ∧ Drawn0 w w' := by
  have HU := Aside0.mk hu
  obtain ⟨i0, hi0, _, hsz, _⟩ := info_parts info5
  obtain ⟨A1, hcut, hA, hC⟩ := print_drop_of (P := Try.prog) (Value.int .u8) 0 27 5 .i64 Try.underlying27 hi0 hsz A c l i h0 h1 hc
  have HR := Aside0.mk (Kd.C_of_reads (h1 := fun _ => rfl) (hA _ (Kd.reads_of_C hr)))
  have HC := Aside0.mk hC
  have hcall : Calls Try.prog 55 #[.slice A1 (l.length - i.toNat) (c - i.toNat)] w fun e w' => e = .returned (.tuple #[.int .u64 v, .int .i64 n]) ∧ ∃ q, w' = w.drewN q := by
    have := bollardref1_Unvarint.calls k A1 _ (l.drop i.toNat) v n w HR.out HC.out HU.out
    rw [List.length_drop] at this
    exact this.mono fun _ _ h => ⟨h.1, h.2.out⟩
  have HK := Aside0.mk hcall
  have e0 : (n == 0) = false := by simpa using hz
  have e1 : decide (2000 < v) = false := decide_eq_false (by omega)
  have e2 : decide ((l.length : Int) - i - n < v) = true := decide_eq_true hd
  clear hA hC hi0 hsz hr hc hu hcall hz hd
  go_enter Try.func57, Try.ntmps57
  go_wp2_with (go_at_call 55; refine HK.out.mono ?_; rintro e w1 ⟨rfl, ⟨q, rfl⟩⟩)
  go_ret2
  exact ⟨rfl, ⟨⟨_, rfl⟩⟩⟩

set_option maxHeartbeats 1000000 in
set_option maxRecDepth 100000 in
theorem reftext_good (k : Nat) (A : Option Addr) (c : Nat) (l : List Int) (i v n : Int) (w : World) (hr : Kd.C (Kd.int .u8) w A l.length l) (hc : l.length ≤ c) (hl : l.length ≤ 1000000000000000)
    (h0 : 0 ≤ i) (h1 : i ≤ (l.length : Int)) (hu : bollardref1_Unvarint.f k (l.drop i.toNat) = some (v, n)) (hv : 0 ≤ v) (hv2 : v < 18446744073709551616) (hn : 0 ≤ n) (hin : i + n ≤ (l.length : Int)) (hz : n ≠ 0) (hb : v ≤ 2000) (hd : v ≤ (l.length : Int) - i - n) :
    Calls Try.prog 57 #[.slice A l.length c, .int .i64 i] w fun e w' => e = .returned (.tuple #[.string (strOfNums ((l.take (i + n + v).toNat).drop (i + n).toNat)), .int .i64 (i + n + v)]) ∧ Drawn0 w w' := by
  have HU := Aside0.mk hu
  obtain ⟨i0, hi0, _, hsz, _⟩ := info_parts info5
  obtain ⟨A1, hcut, hA, hC⟩ := print_drop_of (P := Try.prog) (Value.int .u8) 0 27 5 .i64 Try.underlying27 hi0 hsz A c l i h0 h1 hc
  have HR := Aside0.mk (Kd.C_of_reads (h1 := fun _ => rfl) (hA _ (Kd.reads_of_C hr)))
  have HC := Aside0.mk hC
  have hcall : Calls Try.prog 55 #[.slice A1 (l.length - i.toNat) (c - i.toNat)] w fun e w' => e = .returned (.tuple #[.int .u64 v, .int .i64 n]) ∧ ∃ q, w' = w.drewN q := by
    have := bollardref1_Unvarint.calls k A1 _ (l.drop i.toNat) v n w HR.out HC.out HU.out
    rw [List.length_drop] at this
    exact this.mono fun _ _ h => ⟨h.1, h.2.out⟩
  have HK := Aside0.mk hcall
  have e0 : (n == 0) = false := by simpa using hz
  have e1 : decide (2000 < v) = false := decide_eq_false (by omega)
  have e2 : decide ((l.length : Int) - i - n < v) = false := decide_eq_false (by omega)
  obtain ⟨A2, hcut2, hA2, hC2⟩ := print_mid_of (P := Try.prog) (Value.int .u8) 0 27 5 .i64 .i64 Try.underlying27 hi0 hsz A c l (i + n) (i + n + v) (by omega) (by omega) (by omega) hc
  have hlen : ((l.take (i + n + v).toNat).drop (i + n).toNat).length = (i + n + v).toNat - (i + n).toNat := by rw [List.length_drop, List.length_take]; omega
  have hcv : ∀ m, (convert 27 9 (.slice A2 ((i + n + v).toNat - (i + n).toNat) (c - (i + n).toNat))).run Try.prog (w.drewN m) = .ok (.string (strOfNums ((l.take (i + n + v).toNat).drop (i + n).toNat))) (w.drewN m) := fun m => Kd.C_string (P := Try.prog) (A := A2) (c := c - (i + n).toNat) Try.underlying27 Try.underlying5 Try.underlying9 (by rw [← hlen]; exact Kd.C_drewN (Kd.C_of_reads (h1 := fun _ => rfl) (hA2 _ (Kd.reads_of_C hr))) m)
  have b1 : 0 ≤ i + n := by omega
  have b2 : i + n ≤ i + n + v := by omega
  have b3 : i + n + v ≤ (l.length : Int) := by omega
  clear hlen hA2 hC2
  clear hA hC hi0 hsz hr hc hu hcall hz hd
  go_enter Try.func57, Try.ntmps57
  go_wp2_with (go_at_call 55; refine HK.out.mono ?_; rintro e w1 ⟨rfl, ⟨q, rfl⟩⟩)
  go_ret2
  exact ⟨rfl, ⟨⟨_, rfl⟩⟩⟩

/-! ### bollardref12_text -/
def bollardref12_text.f (k : Nat) (l0 : List Int) (a1 : Int) : Option (ByteArray × Int) :=
  if l0.length ≤ 1000000000000000 ∧ 0 ≤ a1 ∧ a1 ≤ (l0.length : Int) then (bollardref1_Unvarint.f k (l0.drop a1.toNat)).bind fun t =>
    if 0 ≤ t.1 ∧ t.1 < 18446744073709551616 ∧ 0 ≤ t.2 ∧ a1 + t.2 ≤ (l0.length : Int) then
      if t.2 = 0 then some (⟨#[]⟩, -1) else if 2000 < t.1 then some (⟨#[]⟩, -1) else if (l0.length : Int) - a1 - t.2 < t.1 then some (⟨#[]⟩, -1)
      else some (strOfNums ((l0.take (a1 + t.2 + t.1).toNat).drop (a1 + t.2).toNat), a1 + t.2 + t.1)
    else none
  else none
theorem bollardref12_text.mono : ∀ a0 a1 k, LeO (bollardref12_text.f k a0 a1) (bollardref12_text.f (k + 1) a0 a1) := by
  intro l i k
  unfold bollardref12_text.f
  exact LeO.ite (LeO.bind (bollardref1_Unvarint.mono _ _) (fun _ => LeO.refl _)) (LeO.refl _)
theorem bollardref12_text.calls (k : Nat) (A0 : Option Addr) (c0 : Nat) (l0 : List Int) (a1 : Int) (r1 : ByteArray) (r2 : Int) (w : World) (hr0 : Kd.C (Kd.int .u8) w A0 l0.length l0) (hc0 : l0.length ≤ c0) (h : bollardref12_text.f k l0 a1 = some (r1, r2)) :
    Calls Try.prog 57 #[.slice A0 l0.length c0, .int .i64 a1] w fun e w' => e = .returned (.tuple #[.string r1, .int .i64 r2]) ∧ Drawn0 w w' := by
  unfold bollardref12_text.f at h
  split at h
  case isFalse => cases h
  rename_i hb
  obtain ⟨⟨v, n⟩, hu, h⟩ := Option.bind_eq_some_iff.mp h
  dsimp only at h
  split at h
  case isFalse => cases h
  rename_i hc
  by_cases h1 : n = 0
  · rw [if_pos h1] at h
    obtain ⟨rfl, rfl⟩ := Prod.mk.inj (Option.some.inj h)
    exact reftext_no k A0 c0 l0 a1 v n w hr0 hc0 hb.1 hb.2.1 hb.2.2 hu hc.1 hc.2.1 hc.2.2.1 hc.2.2.2 h1
  rw [if_neg h1] at h
  by_cases h2 : 2000 < v
  · rw [if_pos h2] at h
    obtain ⟨rfl, rfl⟩ := Prod.mk.inj (Option.some.inj h)
    exact reftext_long k A0 c0 l0 a1 v n w hr0 hc0 hb.1 hb.2.1 hb.2.2 hu hc.1 hc.2.1 hc.2.2.1 hc.2.2.2 h1 h2
  rw [if_neg h2] at h
  by_cases h3 : (l0.length : Int) - a1 - n < v
  · rw [if_pos h3] at h
    obtain ⟨rfl, rfl⟩ := Prod.mk.inj (Option.some.inj h)
    exact reftext_cut k A0 c0 l0 a1 v n w hr0 hc0 hb.1 hb.2.1 hb.2.2 hu hc.1 hc.2.1 hc.2.2.1 hc.2.2.2 h1 (by omega) h3
  rw [if_neg h3] at h
  obtain ⟨rfl, rfl⟩ := Prod.mk.inj (Option.some.inj h)
  exact reftext_good k A0 c0 l0 a1 v n w hr0 hc0 hb.1 hb.2.1 hb.2.2 hu hc.1 hc.2.1 hc.2.2.1 hc.2.2.2 h1 (by omega) (by omega)

end Go.Proofs.Ytgmeellapjimgaa.PBm
