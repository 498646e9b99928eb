-- written by a program of this session (wip/tools/pr.py, over the kit's printer): not by hand
import Derived.Test.YtgmeellapjimgaaQPBax0
import Derived.Test.YtgmeellapjimgaaQPBax6
import Derived.Test.YtgmeellapjimgaaQPBax7
namespace Go.Proofs.Ytgmeellapjimgaa.PBa
open Go.RowKit Go.Proofs.YtgmeellapjimgaaW.PrintWords Go.Proofs.YtgmeellapjimgaaW.PrintLast Go.Proofs.YtgmeellapjimgaaW.PrintMore
attribute [local go_sem] max2_int min2_int max_two min_two max_three min_three max_four min_four   -- for this text's walks alone
set_option linter.unusedVariables false
set_option linter.unusedSimpArgs false

/-! ### bollardref12_body: function 28 -/
def bollardref12_body.l0 : Nat → List Int → Int → Int → Int → Int → Int → List (S45) → Option (List Int)
  | 0, _, _, _, _, _, _, _ => none
  | k + 1, x3, x4, x268000, x268001, x268002, x268003, x268004 => if x4 < (x268004.length : Int) then (if 0 ≤ x4 then (if 0 < (x268004.length : Int) then ((bollardref12_Encode.f k ((rd_T45 x268004 x4).f0) ((rd_T45 x268004 x4).f1) ((rd_T45 x268004 x4).f2) ((rd_T45 x268004 x4).f3) ((rd_T45 x268004 x4).f4) ((rd_T45 x268004 x4).f5) ((rd_T45 x268004 0).f4)).bind fun bt286 => (if x3.length + bt286.1.length < 140737488355328 then (bollardref12_body.l0 k (x3 ++ bt286.1) (wrap64 (x4 + 1)) x268000 x268001 x268002 x268003 x268004) else (none))) else (none)) else (none)) else (some x3)
def bollardref12_body.f (k : Nat) (a0_0 : Int) (a0_1 : Int) (a0_2 : Int) (a0_3 : Int) (l0_4 : List (S45)) : Option (List Int) := (bollardref1_Lay.f k ([] : List Int) 8 (IntKind.u64.wrap (a0_2))).bind fun t268 => ((bollardref1_Lay.f k t268 8 (IntKind.u64.wrap (a0_3))).bind fun t271 => ((bollardref1_Lay.f k t271 4 (IntKind.u64.wrap (a0_1))).bind fun t274 => ((bollardref1_Lay.f k t274 4 (IntKind.u64.wrap ((l0_4.length : Int)))).bind fun t277 => (if 0 < (l0_4.length : Int) then ((bollardref1_Lay.f k t277 8 (IntKind.u64.wrap ((rd_T45 l0_4 0).f4))).bind fun t281 => (bollardref12_body.l0 k t281 0 a0_0 a0_1 a0_2 a0_3 l0_4)) else (none)))))
set_option maxRecDepth 100000 in
theorem bollardref12_body.mono_l : ∀ k, (∀ y0 y1 y2 y3 y4 y5 y6, LeO (bollardref12_body.l0 k y0 y1 y2 y3 y4 y5 y6) (bollardref12_body.l0 (k + 1) y0 y1 y2 y3 y4 y5 y6))
  | 0 => fun _ _ _ _ _ _ _ r h => by first | exact nomatch (show (none : Option _) = some r from h) | (rw [bollardref12_body.l0] at h; cases h; done) | (simp [bollardref12_body.l0] at h; done)
  | k + 1 => by
    have ih0 := bollardref12_body.mono_l k
    · intro y0 y1 y2 y3 y4 y5 y6
      unfold bollardref12_body.l0
      repeat' first
      | (with_reducible exact ih0 _ _ _ _ _ _ _)
      | (with_reducible exact bollardref12_Encode.mono _ _ _ _ _ _ _ _)
      | (with_reducible exact bollardref1_Lay.mono _ _ _ _)
      | (with_reducible exact LeO.refl _)
      | (with_reducible exact LeO.none _)
      | (with_reducible refine LeO.ite ?_ ?_)
      | (with_reducible refine LeO.bind ?_ (fun _ => ?_))
      | exact ih0 _ _ _ _ _ _ _
      | exact bollardref12_Encode.mono _ _ _ _ _ _ _ _
      | exact bollardref1_Lay.mono _ _ _ _
      | exact LeO.none _
      | refine LeO.ite ?_ ?_
      | refine LeO.bind ?_ (fun _ => ?_)
theorem bollardref12_body.mono : ∀ a0 a1 a2 a3 a4 k, LeO (bollardref12_body.f k a0 a1 a2 a3 a4) (bollardref12_body.f (k + 1) a0 a1 a2 a3 a4) := by
  intro a0 a1 a2 a3 a4 k
  have ih0 := bollardref12_body.mono_l k
  unfold bollardref12_body.f
  repeat' first
      | (with_reducible exact ih0 _ _ _ _ _ _ _)
      | (with_reducible exact bollardref12_Encode.mono _ _ _ _ _ _ _ _)
      | (with_reducible exact bollardref1_Lay.mono _ _ _ _)
      | (with_reducible exact LeO.refl _)
      | (with_reducible exact LeO.none _)
      | (with_reducible refine LeO.ite ?_ ?_)
      | (with_reducible refine LeO.bind ?_ (fun _ => ?_))
      | exact ih0 _ _ _ _ _ _ _
      | exact bollardref12_Encode.mono _ _ _ _ _ _ _ _
      | exact bollardref1_Lay.mono _ _ _ _
      | exact LeO.none _
      | refine LeO.ite ?_ ?_
      | refine LeO.bind ?_ (fun _ => ?_)
def bollardref12_body.T9 : Bool × List (List Nat × List Nat) := (true, [([], []), ([0], [0]), ([], []), ([1, 2], [1, 2]), ([3], [3]), ([], []), ([5], [5]), ([6], [6]), ([7], [7]), ([8], [8]), ([4, 9], [4, 9]), ([10], [10]), ([11], [11]), ([11], [11]), ([12, 10, 0, 1, 2, 3, 4, 5, 6, 7, 8, 9, 10, 11, 12], [12]), ([13, 14, 0, 1, 2, 3, 4, 5, 6, 7, 8, 9, 10, 11, 12, 13, 14], [13])])
def bollardref12_body.B9 : List Nat := [0, 1, 0, 7, 15, 0, 32, 96, 224, 480, 1023, 2047, 4095, 4095, 8191, 32767]
theorem bollardref12_body.tab9 : rtab .any (opsOf Try.f28 9) = bollardref12_body.T9 := by kernel_rfl
theorem bollardref12_body.bits9 : waitsOk bollardref12_body.T9.2 bollardref12_body.B9 = true := by kernel_rfl
set_option maxHeartbeats 8000000 in
set_option maxRecDepth 100000 in
theorem bollardref12_body.calls (k : Nat) (a0_0 : Int) (a0_1 : Int) (a0_2 : Int) (a0_3 : Int) (A0_4 : Option Addr) (c0_4 : Nat) (l0_4 : List (S45)) (r : List Int) (w : World) (hr0_4 : Kd.C k45 w A0_4 l0_4.length l0_4) (hc0_4 : l0_4.length ≤ c0_4) (h : bollardref12_body.f k a0_0 a0_1 a0_2 a0_3 l0_4 = some r) :
    Calls Try.prog 28 #[.agg #[.int .i64 a0_0, .int .i64 a0_1, .int .i64 a0_2, .int .i64 a0_3, .slice A0_4 l0_4.length c0_4]] w fun e w' => ∃ v0_ : Value, e = .returned (v0_) ∧ Kd.R (Kd.int .u8) 5 w' w.heap.size (fun _ => True) v0_ r ∧ Below w.heap.size w w' := by
  have hu24 := Try.underlying24
  have hu45 := Try.underlying45
  have HR0_4 := Aside0.mk hr0_4
  have HC0_4 := Aside0.mk hc0_4
  clear hr0_4 hc0_4
  have HB := Aside0.mk (Below.refl w.heap.size w)
  have H : ((bollardref1_Lay.f k ([] : List Int) 8 (IntKind.u64.wrap (a0_2))).bind fun t268 => ((bollardref1_Lay.f k t268 8 (IntKind.u64.wrap (a0_3))).bind fun t271 => ((bollardref1_Lay.f k t271 4 (IntKind.u64.wrap (a0_1))).bind fun t274 => ((bollardref1_Lay.f k t274 4 (IntKind.u64.wrap ((l0_4.length : Int)))).bind fun t277 => (if 0 < (l0_4.length : Int) then ((bollardref1_Lay.f k t277 8 (IntKind.u64.wrap ((rd_T45 l0_4 0).f4))).bind fun t281 => (bollardref12_body.l0 k t281 0 a0_0 a0_1 a0_2 a0_3 l0_4)) else (none)))))) = some r := h
  clear h
  replace H := Option.bind_eq_some_iff.mp H
  obtain ⟨t268, A20, H⟩ := H
  replace H : ((bollardref1_Lay.f k t268 8 (IntKind.u64.wrap (a0_3))).bind fun t271 => ((bollardref1_Lay.f k t271 4 (IntKind.u64.wrap (a0_1))).bind fun t274 => ((bollardref1_Lay.f k t274 4 (IntKind.u64.wrap ((l0_4.length : Int)))).bind fun t277 => (if 0 < (l0_4.length : Int) then ((bollardref1_Lay.f k t277 8 (IntKind.u64.wrap ((rd_T45 l0_4 0).f4))).bind fun t281 => (bollardref12_body.l0 k t281 0 a0_0 a0_1 a0_2 a0_3 l0_4)) else (none))))) = some r := H
  have A2 := Aside0.mk A20
  clear A20
  replace H := Option.bind_eq_some_iff.mp H
  obtain ⟨t271, A30, H⟩ := H
  replace H : ((bollardref1_Lay.f k t271 4 (IntKind.u64.wrap (a0_1))).bind fun t274 => ((bollardref1_Lay.f k t274 4 (IntKind.u64.wrap ((l0_4.length : Int)))).bind fun t277 => (if 0 < (l0_4.length : Int) then ((bollardref1_Lay.f k t277 8 (IntKind.u64.wrap ((rd_T45 l0_4 0).f4))).bind fun t281 => (bollardref12_body.l0 k t281 0 a0_0 a0_1 a0_2 a0_3 l0_4)) else (none)))) = some r := H
  have A3 := Aside0.mk A30
  clear A30
  replace H := Option.bind_eq_some_iff.mp H
  obtain ⟨t274, A40, H⟩ := H
  replace H : ((bollardref1_Lay.f k t274 4 (IntKind.u64.wrap ((l0_4.length : Int)))).bind fun t277 => (if 0 < (l0_4.length : Int) then ((bollardref1_Lay.f k t277 8 (IntKind.u64.wrap ((rd_T45 l0_4 0).f4))).bind fun t281 => (bollardref12_body.l0 k t281 0 a0_0 a0_1 a0_2 a0_3 l0_4)) else (none))) = some r := H
  have A4 := Aside0.mk A40
  clear A40
  replace H := Option.bind_eq_some_iff.mp H
  obtain ⟨t277, A50, H⟩ := H
  replace H : (if 0 < (l0_4.length : Int) then ((bollardref1_Lay.f k t277 8 (IntKind.u64.wrap ((rd_T45 l0_4 0).f4))).bind fun t281 => (bollardref12_body.l0 k t281 0 a0_0 a0_1 a0_2 a0_3 l0_4)) else (none)) = some r := H
  have A5 := Aside0.mk A50
  clear A50
  by_cases c6 : 0 < (l0_4.length : Int)
  · rw [if_pos c6] at H
    have c6b0 : decide (0 < (l0_4.length : Int)) = true := decide_eq_true c6
    have c6b1 : decide (0 < l0_4.length) = true := decide_eq_true (by omega)
    clear c6
    replace H := Option.bind_eq_some_iff.mp H
    obtain ⟨t281, A70, H⟩ := H
    replace H : (bollardref12_body.l0 k t281 0 a0_0 a0_1 a0_2 a0_3 l0_4) = some r := H
    have A7 := Aside0.mk A70
    clear A70
    have H' := Aside0.mk H
    clear H
    go_enter Try.func28, Try.ntmps28
    go_wp2_with (first | ((with_reducible refine gate_dst (N := 1) rfl ?_); refine box_event ?hg (N := 1) ?hd (cs := #[.int .i64 a0_0, .int .i64 a0_1, .int .i64 a0_2, .int .i64 a0_3, .slice A0_4 l0_4.length c0_4]) (t := 24) ?hr ?_; (case hd => rfl); (case hg => rfl); (case hr => first | (go_simp; done) | (go_simp; rfl)); intro gb267 hg w8 hbox hb; have n0_ := Aside0.mk (below_step (by repeat (first | (with_reducible first | exact HB.out | apply below_alloc | apply pw_below_drewN | apply below_drew1) | exact HB.out)) hb); have n1_ := Aside0.mk (hbox); have n2_ := Aside0.mk ((by rw [hg]; exact (below_size (by repeat (first | (with_reducible first | exact HB.out | apply below_alloc | apply pw_below_drewN | apply below_drew1) | exact HB.out))) : w.heap.size ≤ gb267)); have n3_ := Aside0.mk ((by rw [hg]; exact (below_size (by repeat (first | (with_reducible first | exact HB.out | apply below_alloc | apply pw_below_drewN | apply below_drew1) | exact HB.out))) : w.heap.size ≤ gb267)); clear HB; have HB := n0_; have BK267 := n1_; have GW267 := n2_; have GE267 := n3_; clear n0_ n1_ n2_ n3_; clear hb hbox hg; have hcz9_0 : w8.cell? ⟨gb267, 0, none⟩ = some (.int .i64 a0_0) := (blk_cell BK267.out 0).trans rfl; have hcz9_1 : w8.cell? ⟨gb267, 1, none⟩ = some (.int .i64 a0_1) := (blk_cell BK267.out 1).trans rfl; have hcz9_2 : w8.cell? ⟨gb267, 2, none⟩ = some (.int .i64 a0_2) := (blk_cell BK267.out 2).trans rfl; have hcz9_3 : w8.cell? ⟨gb267, 3, none⟩ = some (.int .i64 a0_3) := (blk_cell BK267.out 3).trans rfl; have hcz9_4 : w8.cell? ⟨gb267, 4, none⟩ = some (.slice A0_4 l0_4.length c0_4) := (blk_cell BK267.out 4).trans rfl; have hfz9_0 := blk_frozen BK267.out 0; have hfz9_1 := blk_frozen BK267.out 1; have hfz9_2 := blk_frozen BK267.out 2; have hfz9_3 := blk_frozen BK267.out 3; have hfz9_4 := blk_frozen BK267.out 4) | ((with_reducible refine gate_callee (f := 29) rfl ?_); refine goesL_ (some 10) rfl rfl Try.func29 (by kernel_rfl) rfl #[.slice none 0 0, .int .i64 8, .int .u64 (IntKind.u64.wrap (a0_2))] rfl (by (try simp only [List.map_toArray, List.map_cons, List.map_nil]); first | done | rfl | (simp only [List.length_drop, List.length_take]; rfl)) ?_; (refine (bollardref1_Lay.calls k (fun k_ => some k_ = (.slice none 0 0 : Value).ownBlock) (.slice none 0 0) ([] : List Int) 8 (IntKind.u64.wrap (a0_2)) t268 w _ ?side1 ?side2 A2.out).mono ?_); (case side1 => repeat (first | (with_reducible first | exact HB.out | apply below_alloc | apply pw_below_drewN | apply below_drew1 | refine below_set ?_ GE267.out) | exact HB.out)); (case side2 => exact Kd.R_nil _ _ _ _ _); rintro e w10 ⟨v269, rfl, ho0, hb, hkp⟩; refine ⟨_, rfl, ?_⟩; have n0_ := Aside0.mk (blk_kept (by (with_reducible repeat (first | refine blk_drewN ?_ _ | refine blk_drew ?_ | refine blk_alloc ?_ _)); exact BK267.out) hkp (fun hs_ => (fun e_ => by simp [Value.ownBlock] at e_) hs_)); have n1_ := Aside0.mk (Kd.R_mono (ok' := fun k_ => True) ho0 (fun k_ hk_ => trivial)); have n2_ := Aside0.mk (hb); clear BK267; clear HB; have BK267 := n0_; have HO270 := n1_; have HB := n2_; clear n0_ n1_ n2_; (try clear hb); (try clear hkp); (try clear ho0); have hcz11_0 : w10.cell? ⟨gb267, 0, none⟩ = some (.int .i64 a0_0) := (blk_cell BK267.out 0).trans rfl; have hcz11_1 : w10.cell? ⟨gb267, 1, none⟩ = some (.int .i64 a0_1) := (blk_cell BK267.out 1).trans rfl; have hcz11_2 : w10.cell? ⟨gb267, 2, none⟩ = some (.int .i64 a0_2) := (blk_cell BK267.out 2).trans rfl; have hcz11_3 : w10.cell? ⟨gb267, 3, none⟩ = some (.int .i64 a0_3) := (blk_cell BK267.out 3).trans rfl; have hcz11_4 : w10.cell? ⟨gb267, 4, none⟩ = some (.slice A0_4 l0_4.length c0_4) := (blk_cell BK267.out 4).trans rfl; have hfz11_0 := blk_frozen BK267.out 0; have hfz11_1 := blk_frozen BK267.out 1; have hfz11_2 := blk_frozen BK267.out 2; have hfz11_3 := blk_frozen BK267.out 3; have hfz11_4 := blk_frozen BK267.out 4; obtain ⟨Ao12, co12, eo12⟩ := Kd.R_slice HO270.out; subst eo12) | ((with_reducible refine gate_callee (f := 29) rfl ?_); refine goesL_ (some 15) rfl rfl Try.func29 (by kernel_rfl) rfl #[.slice Ao12 t268.length co12, .int .i64 8, .int .u64 (IntKind.u64.wrap (a0_3))] rfl (by (try simp only [List.map_toArray, List.map_cons, List.map_nil]); first | done | rfl | (simp only [List.length_drop, List.length_take]; rfl)) ?_; (with_reducible refine (bollardref1_Lay.calls k (fun k_ => some k_ = (.slice Ao12 t268.length co12 : Value).ownBlock) (.slice Ao12 t268.length co12) t268 8 (IntKind.u64.wrap (a0_3)) t271 w _ ?side1 ?side2 A3.out).mono ?_); (case side1 => repeat (first | (with_reducible first | exact HB.out | apply below_alloc | apply pw_below_drewN | apply below_drew1 | refine below_set ?_ GE267.out) | exact HB.out)); (case side2 => exact Kd.R_tight rfl HO270.out); rintro e w13 ⟨v272, rfl, ho0, hb, hkp⟩; refine ⟨_, rfl, ?_⟩; have n0_ := Aside0.mk (blk_kept (by (with_reducible repeat (first | refine blk_drewN ?_ _ | refine blk_drew ?_ | refine blk_alloc ?_ _)); exact BK267.out) hkp (fun hs_ => (fun e_ => (Kd.R_ne HO270.out BK267.out (by decide)) e_) hs_)); have n1_ := Aside0.mk (Kd.R_mono (ok' := fun k_ => True) ho0 (fun k_ hk_ => trivial)); have n2_ := Aside0.mk (hb); clear BK267; clear HB; clear HO270; have BK267 := n0_; have HO273 := n1_; have HB := n2_; clear n0_ n1_ n2_; (try clear hb); (try clear hkp); (try clear ho0); have hcz14_0 : w13.cell? ⟨gb267, 0, none⟩ = some (.int .i64 a0_0) := (blk_cell BK267.out 0).trans rfl; have hcz14_1 : w13.cell? ⟨gb267, 1, none⟩ = some (.int .i64 a0_1) := (blk_cell BK267.out 1).trans rfl; have hcz14_2 : w13.cell? ⟨gb267, 2, none⟩ = some (.int .i64 a0_2) := (blk_cell BK267.out 2).trans rfl; have hcz14_3 : w13.cell? ⟨gb267, 3, none⟩ = some (.int .i64 a0_3) := (blk_cell BK267.out 3).trans rfl; have hcz14_4 : w13.cell? ⟨gb267, 4, none⟩ = some (.slice A0_4 l0_4.length c0_4) := (blk_cell BK267.out 4).trans rfl; have hfz14_0 := blk_frozen BK267.out 0; have hfz14_1 := blk_frozen BK267.out 1; have hfz14_2 := blk_frozen BK267.out 2; have hfz14_3 := blk_frozen BK267.out 3; have hfz14_4 := blk_frozen BK267.out 4; obtain ⟨Ao15, co15, eo15⟩ := Kd.R_slice HO273.out; subst eo15) | ((with_reducible refine gate_callee (f := 29) rfl ?_); refine goesL_ (some 20) rfl rfl Try.func29 (by kernel_rfl) rfl #[.slice Ao15 t271.length co15, .int .i64 4, .int .u64 (IntKind.u64.wrap (a0_1))] rfl (by (try simp only [List.map_toArray, List.map_cons, List.map_nil]); first | done | rfl | (simp only [List.length_drop, List.length_take]; rfl)) ?_; (with_reducible refine (bollardref1_Lay.calls k (fun k_ => some k_ = (.slice Ao15 t271.length co15 : Value).ownBlock) (.slice Ao15 t271.length co15) t271 4 (IntKind.u64.wrap (a0_1)) t274 w _ ?side1 ?side2 A4.out).mono ?_); (case side1 => repeat (first | (with_reducible first | exact HB.out | apply below_alloc | apply pw_below_drewN | apply below_drew1 | refine below_set ?_ GE267.out) | exact HB.out)); (case side2 => exact Kd.R_tight rfl HO273.out); rintro e w16 ⟨v275, rfl, ho0, hb, hkp⟩; refine ⟨_, rfl, ?_⟩; have n0_ := Aside0.mk (blk_kept (by (with_reducible repeat (first | refine blk_drewN ?_ _ | refine blk_drew ?_ | refine blk_alloc ?_ _)); exact BK267.out) hkp (fun hs_ => (fun e_ => (Kd.R_ne HO273.out BK267.out (by decide)) e_) hs_)); have n1_ := Aside0.mk (Kd.R_mono (ok' := fun k_ => True) ho0 (fun k_ hk_ => trivial)); have n2_ := Aside0.mk (hb); clear BK267; clear HB; clear HO273; have BK267 := n0_; have HO276 := n1_; have HB := n2_; clear n0_ n1_ n2_; (try clear hb); (try clear hkp); (try clear ho0); have hcz17_0 : w16.cell? ⟨gb267, 0, none⟩ = some (.int .i64 a0_0) := (blk_cell BK267.out 0).trans rfl; have hcz17_1 : w16.cell? ⟨gb267, 1, none⟩ = some (.int .i64 a0_1) := (blk_cell BK267.out 1).trans rfl; have hcz17_2 : w16.cell? ⟨gb267, 2, none⟩ = some (.int .i64 a0_2) := (blk_cell BK267.out 2).trans rfl; have hcz17_3 : w16.cell? ⟨gb267, 3, none⟩ = some (.int .i64 a0_3) := (blk_cell BK267.out 3).trans rfl; have hcz17_4 : w16.cell? ⟨gb267, 4, none⟩ = some (.slice A0_4 l0_4.length c0_4) := (blk_cell BK267.out 4).trans rfl; have hfz17_0 := blk_frozen BK267.out 0; have hfz17_1 := blk_frozen BK267.out 1; have hfz17_2 := blk_frozen BK267.out 2; have hfz17_3 := blk_frozen BK267.out 3; have hfz17_4 := blk_frozen BK267.out 4; obtain ⟨Ao18, co18, eo18⟩ := Kd.R_slice HO276.out; subst eo18) | ((with_reducible refine gate_callee (f := 29) rfl ?_); refine goesL_ (some 26) rfl rfl Try.func29 (by kernel_rfl) rfl #[.slice Ao18 t274.length co18, .int .i64 4, .int .u64 (IntKind.u64.wrap ((l0_4.length : Int)))] rfl (by (try simp only [List.map_toArray, List.map_cons, List.map_nil]); first | done | rfl | (simp only [List.length_drop, List.length_take]; rfl)) ?_; (with_reducible refine (bollardref1_Lay.calls k (fun k_ => some k_ = (.slice Ao18 t274.length co18 : Value).ownBlock) (.slice Ao18 t274.length co18) t274 4 (IntKind.u64.wrap ((l0_4.length : Int))) t277 w _ ?side1 ?side2 A5.out).mono ?_); (case side1 => repeat (first | (with_reducible first | exact HB.out | apply below_alloc | apply pw_below_drewN | apply below_drew1 | refine below_set ?_ GE267.out) | exact HB.out)); (case side2 => exact Kd.R_tight rfl HO276.out); rintro e w19 ⟨v278, rfl, ho0, hb, hkp⟩; refine ⟨_, rfl, ?_⟩; have n0_ := Aside0.mk (blk_kept (by (with_reducible repeat (first | refine blk_drewN ?_ _ | refine blk_drew ?_ | refine blk_alloc ?_ _)); exact BK267.out) hkp (fun hs_ => (fun e_ => (Kd.R_ne HO276.out BK267.out (by decide)) e_) hs_)); have n1_ := Aside0.mk (Kd.R_mono (ok' := fun k_ => True) ho0 (fun k_ hk_ => trivial)); have n2_ := Aside0.mk (hb); clear BK267; clear HB; clear HO276; have BK267 := n0_; have HO279 := n1_; have HB := n2_; clear n0_ n1_ n2_; (try clear hb); (try clear hkp); (try clear ho0); have hcz20_0 : w19.cell? ⟨gb267, 0, none⟩ = some (.int .i64 a0_0) := (blk_cell BK267.out 0).trans rfl; have hcz20_1 : w19.cell? ⟨gb267, 1, none⟩ = some (.int .i64 a0_1) := (blk_cell BK267.out 1).trans rfl; have hcz20_2 : w19.cell? ⟨gb267, 2, none⟩ = some (.int .i64 a0_2) := (blk_cell BK267.out 2).trans rfl; have hcz20_3 : w19.cell? ⟨gb267, 3, none⟩ = some (.int .i64 a0_3) := (blk_cell BK267.out 3).trans rfl; have hcz20_4 : w19.cell? ⟨gb267, 4, none⟩ = some (.slice A0_4 l0_4.length c0_4) := (blk_cell BK267.out 4).trans rfl; have hfz20_0 := blk_frozen BK267.out 0; have hfz20_1 := blk_frozen BK267.out 1; have hfz20_2 := blk_frozen BK267.out 2; have hfz20_3 := blk_frozen BK267.out 3; have hfz20_4 := blk_frozen BK267.out 4; have p280 : 0 ≤ (0 : Int) := (by omega); have q280 : 0 < (l0_4.length : Int) := of_decide_eq_true (by first | (with_reducible assumption) | assumption); obtain ⟨ad280, e280, hx280_0, hx280_1, hx280_2, hx280_3, hx280_4, hx280_5⟩ := at_T45 HR0_4.out 0 p280 q280; cases e280; have qi280 : (0 < l0_4.length) = True := eq_true (by omega); (try rw [show ((0 : Int)).toNat = 0 from rfl] at hx280_0); (try rw [show 0 * 6 = 0 from rfl] at hx280_0); (try rw [Addr.add_zero'] at hx280_0); (try rw [show ((0 : Int)).toNat = 0 from rfl] at hx280_1); (try rw [show 0 * 6 = 0 from rfl] at hx280_1); (try rw [Addr.add_zero'] at hx280_1); (try rw [show ((0 : Int)).toNat = 0 from rfl] at hx280_2); (try rw [show 0 * 6 = 0 from rfl] at hx280_2); (try rw [Addr.add_zero'] at hx280_2); (try rw [show ((0 : Int)).toNat = 0 from rfl] at hx280_3); (try rw [show 0 * 6 = 0 from rfl] at hx280_3); (try rw [Addr.add_zero'] at hx280_3); (try rw [show ((0 : Int)).toNat = 0 from rfl] at hx280_4); (try rw [show 0 * 6 = 0 from rfl] at hx280_4); (try rw [Addr.add_zero'] at hx280_4); (try rw [show ((0 : Int)).toNat = 0 from rfl] at hx280_5); (try rw [show 0 * 6 = 0 from rfl] at hx280_5); (try rw [Addr.add_zero'] at hx280_5); replace hx280_0 := (HB.out.cell (World.block_lt_of_cell? w _ hx280_0)).trans hx280_0; replace hx280_1 := (HB.out.cell (World.block_lt_of_cell? w _ hx280_1)).trans hx280_1; replace hx280_2 := (HB.out.cell (World.block_lt_of_cell? w _ hx280_2)).trans hx280_2; replace hx280_3 := (HB.out.cell (World.block_lt_of_cell? w _ hx280_3)).trans hx280_3; replace hx280_4 := (HB.out.cell (World.block_lt_of_cell? w _ hx280_4)).trans hx280_4; replace hx280_5 := (HB.out.cell (World.block_lt_of_cell? w _ hx280_5)).trans hx280_5; replace p280 := eq_true p280; replace q280 := eq_true q280; obtain ⟨Ao21, co21, eo21⟩ := Kd.R_slice HO279.out; subst eo21) | ((with_reducible refine gate_callee (f := 29) rfl ?_); refine goesL_ (some 34) rfl rfl Try.func29 (by kernel_rfl) rfl #[.slice Ao21 t277.length co21, .int .i64 8, .int .u64 (IntKind.u64.wrap ((rd_T45 l0_4 0).f4))] rfl (by (try simp only [List.map_toArray, List.map_cons, List.map_nil]); first | done | rfl | (simp only [List.length_drop, List.length_take]; rfl)) ?_; (with_reducible refine (bollardref1_Lay.calls k (fun k_ => some k_ = (.slice Ao21 t277.length co21 : Value).ownBlock) (.slice Ao21 t277.length co21) t277 8 (IntKind.u64.wrap ((rd_T45 l0_4 0).f4)) t281 w _ ?side1 ?side2 A7.out).mono ?_); (case side1 => repeat (first | (with_reducible first | exact HB.out | apply below_alloc | apply pw_below_drewN | apply below_drew1 | refine below_set ?_ GE267.out) | exact HB.out)); (case side2 => exact Kd.R_tight rfl HO279.out); rintro e w22 ⟨v282, rfl, ho0, hb, hkp⟩; refine ⟨_, rfl, ?_⟩; have n0_ := Aside0.mk (blk_kept (by (with_reducible repeat (first | refine blk_drewN ?_ _ | refine blk_drew ?_ | refine blk_alloc ?_ _)); exact BK267.out) hkp (fun hs_ => (fun e_ => (Kd.R_ne HO279.out BK267.out (by decide)) e_) hs_)); have n1_ := Aside0.mk (Kd.R_mono (ok' := fun k_ => True) ho0 (fun k_ hk_ => trivial)); have n2_ := Aside0.mk (hb); clear BK267; clear HB; clear HO279; have BK267 := n0_; have HO283 := n1_; have HB := n2_; clear n0_ n1_ n2_; (try clear hb); (try clear hkp); (try clear ho0)))
    go_loopg [3, 4] k (fun kq v3 v4 w' => ∃ (x3_1 : List Int) (x4_1 : Int), v4 = .int .i64 x4_1 ∧ Aside0 (bollardref12_body.l0 kq x3_1 x4_1 a0_0 a0_1 a0_2 a0_3 l0_4 = some r) ∧ Aside0 (kq ≤ k) ∧ Aside0 (Kd.R (Kd.int .u8) 5 w' w.heap.size (fun _ => True) v3 x3_1) ∧ Aside0 (w'.heap[gb267]? = some (.cells #[.int .i64 a0_0, .int .i64 a0_1, .int .i64 a0_2, .int .i64 a0_3, (.slice (some ad280) l0_4.length c0_4)] 24 (0, 0))) ∧ Aside0 (Below w.heap.size w w'))
    case atStart => exact ⟨(t281), (0), (by first | rfl | (simp; done) | (simp [*]; done) | exact congrArg Value.bool (ne_empty _) | exact congrArg Value.bool (eq_empty _)), H', ⟨Nat.le_refl _⟩, ⟨by (with_reducible repeat (first | apply Kd.R_alloc | apply Kd.R_drewN | apply Kd.R_drew)); exact HO283.out⟩, ⟨by (with_reducible repeat (first | refine blk_drewN ?_ _ | refine blk_drew ?_ | refine blk_alloc ?_ _)); exact BK267.out⟩, ⟨by repeat (first | (with_reducible first | exact HB.out | apply below_alloc | apply pw_below_drewN | apply below_drew1 | refine below_set ?_ GE267.out) | exact HB.out)⟩⟩
    case round =>
      clear H'
      try clear c2
      try clear p2
      try clear q2
      try clear hx2
      try clear qi2
      try clear c6
      try clear c6b0
      try clear c6b1
      try clear hcz11_0
      try clear hcz11_1
      try clear hcz11_2
      try clear hcz11_3
      try clear hcz11_4
      try clear hcz14_0
      try clear hcz14_1
      try clear hcz14_2
      try clear hcz14_3
      try clear hcz14_4
      try clear hcz17_0
      try clear hcz17_1
      try clear hcz17_2
      try clear hcz17_3
      try clear hcz17_4
      try clear hcz20_0
      try clear hcz20_1
      try clear hcz20_2
      try clear hcz20_3
      try clear hcz20_4
      try clear hcz9_0
      try clear hcz9_1
      try clear hcz9_2
      try clear hcz9_3
      try clear hcz9_4
      try clear hfz11_0
      try clear hfz11_1
      try clear hfz11_2
      try clear hfz11_3
      try clear hfz11_4
      try clear hfz14_0
      try clear hfz14_1
      try clear hfz14_2
      try clear hfz14_3
      try clear hfz14_4
      try clear hfz17_0
      try clear hfz17_1
      try clear hfz17_2
      try clear hfz17_3
      try clear hfz17_4
      try clear hfz20_0
      try clear hfz20_1
      try clear hfz20_2
      try clear hfz20_3
      try clear hfz20_4
      try clear hfz9_0
      try clear hfz9_1
      try clear hfz9_2
      try clear hfz9_3
      try clear hfz9_4
      try clear hx280_0
      try clear hx280_1
      try clear hx280_2
      try clear hx280_3
      try clear hx280_4
      try clear hx280_5
      try clear p280
      try clear q280
      obtain ⟨x3_1, x4_1, rfl, HA, HK1, HO_3, BK267, HB⟩ := hrel
      cases gk with
      | zero => exact absurd HA.out (by first | (intro h_; exact nomatch (show (none : Option _) = some r from h_)) | simp [bollardref12_body.l0])
      | succ k1 =>
        have H := HA.out
        clear HA
        simp only [bollardref12_body.l0] at H
        by_cases c23 : x4_1 < (l0_4.length : Int)
        · rw [if_pos c23] at H
          have c23b0 : decide (x4_1 < (l0_4.length : Int)) = true := decide_eq_true c23
          clear c23
          by_cases c24 : 0 ≤ x4_1
          · rw [if_pos c24] at H
            have c24b0 : decide (0 ≤ x4_1) = true := decide_eq_true c24
            clear c24
            by_cases c25 : 0 < (l0_4.length : Int)
            · rw [if_pos c25] at H
              have c25b0 : decide (0 < (l0_4.length : Int)) = true := decide_eq_true c25
              have c25b1 : decide (0 < l0_4.length) = true := decide_eq_true (by omega)
              clear c25
              replace H := Option.bind_eq_some_iff.mp H
              obtain ⟨⟨t286, t289⟩, A260, H⟩ := H
              replace H : (if x3_1.length + t286.length < 140737488355328 then (bollardref12_body.l0 k1 (x3_1 ++ t286) (wrap64 (x4_1 + 1)) a0_0 a0_1 a0_2 a0_3 l0_4) else (none)) = some r := H
              have A26 := Aside0.mk A260
              clear A260
              by_cases c27 : x3_1.length + t286.length < 140737488355328
              · rw [if_pos c27] at H
                have LMc27 := Aside0.mk c27
                clear c27
                obtain ⟨y290, hy290⟩ : ∃ y_ : List Int, y_ = (x3_1 ++ t286) := ⟨_, rfl⟩
                replace H : (bollardref12_body.l0 k1 y290 (wrap64 (x4_1 + 1)) a0_0 a0_1 a0_2 a0_3 l0_4) = some r := by first | (rw [hy290]; with_reducible exact H) | (have H2_ := (Option.bind_some _ _).symm.trans H; rw [hy290]; with_reducible exact H2_) | (have H2_ := (Option.bind_some _ _).symm.trans H; with_reducible exact H2_) | with_reducible exact H | (rw [hy290]; exact H) | exact H
                have Ny290 := Aside0.mk hy290
                clear hy290
                have H' := Aside0.mk H
                clear H
                have hcz28_0 : wr.cell? ⟨gb267, 0, none⟩ = some (.int .i64 a0_0) := (blk_cell BK267.out 0).trans rfl
                have hcz28_1 : wr.cell? ⟨gb267, 1, none⟩ = some (.int .i64 a0_1) := (blk_cell BK267.out 1).trans rfl
                have hcz28_2 : wr.cell? ⟨gb267, 2, none⟩ = some (.int .i64 a0_2) := (blk_cell BK267.out 2).trans rfl
                have hcz28_3 : wr.cell? ⟨gb267, 3, none⟩ = some (.int .i64 a0_3) := (blk_cell BK267.out 3).trans rfl
                have hcz28_4 : wr.cell? ⟨gb267, 4, none⟩ = some (.slice (some ad280) l0_4.length c0_4) := (blk_cell BK267.out 4).trans rfl
                have hfz28_0 := blk_frozen BK267.out 0
                have hfz28_1 := blk_frozen BK267.out 1
                have hfz28_2 := blk_frozen BK267.out 2
                have hfz28_3 := blk_frozen BK267.out 3
                have hfz28_4 := blk_frozen BK267.out 4
                try go_wp2
                have n0_ := Aside0.mk (Kd.R_drew HO_3.out)
                have n1_ := Aside0.mk (blk_drew BK267.out)
                have n2_ := Aside0.mk (below_drew1 HB.out)
                clear HO_3
                clear BK267
                clear HB
                have HO_3 := n0_
                have BK267 := n1_
                have HB := n2_
                clear n0_ n1_ n2_
                have p284 : 0 ≤ (x4_1 : Int) := of_decide_eq_true (by first | (with_reducible assumption) | assumption)
                have q284 : x4_1 < (l0_4.length : Int) := of_decide_eq_true (by first | (with_reducible assumption) | assumption)
                obtain ⟨ad284, e284, hx284_0, hx284_1, hx284_2, hx284_3, hx284_4, hx284_5⟩ := at_T45 HR0_4.out x4_1 p284 q284
                have hw284_5 := hx284_5
                have hw284_4 := hx284_4
                have hw284_3 := hx284_3
                have hw284_2 := hx284_2
                have hw284_1 := hx284_1
                have hw284_0 := hx284_0
                obtain rfl : ad280 = ad284 := (by injection e284)
                replace hx284_0 := (HB.out.cell (World.block_lt_of_cell? w _ hx284_0)).trans hx284_0
                replace hx284_1 := (HB.out.cell (World.block_lt_of_cell? w _ hx284_1)).trans hx284_1
                replace hx284_2 := (HB.out.cell (World.block_lt_of_cell? w _ hx284_2)).trans hx284_2
                replace hx284_3 := (HB.out.cell (World.block_lt_of_cell? w _ hx284_3)).trans hx284_3
                replace hx284_4 := (HB.out.cell (World.block_lt_of_cell? w _ hx284_4)).trans hx284_4
                replace hx284_5 := (HB.out.cell (World.block_lt_of_cell? w _ hx284_5)).trans hx284_5
                replace p284 := eq_true p284
                replace q284 := eq_true q284
                have p285 : 0 ≤ (0 : Int) := (by omega)
                have q285 : 0 < (l0_4.length : Int) := of_decide_eq_true (by first | (with_reducible assumption) | assumption)
                obtain ⟨ad285, e285, hx285_0, hx285_1, hx285_2, hx285_3, hx285_4, hx285_5⟩ := at_T45 HR0_4.out 0 p285 q285
                have hw285_5 := hx285_5
                (try rw [show ((0 : Int)).toNat = 0 from rfl] at hw285_5)
                (try rw [show 0 * 6 = 0 from rfl] at hw285_5)
                (try rw [Addr.add_zero'] at hw285_5)
                have hw285_4 := hx285_4
                (try rw [show ((0 : Int)).toNat = 0 from rfl] at hw285_4)
                (try rw [show 0 * 6 = 0 from rfl] at hw285_4)
                (try rw [Addr.add_zero'] at hw285_4)
                have hw285_3 := hx285_3
                (try rw [show ((0 : Int)).toNat = 0 from rfl] at hw285_3)
                (try rw [show 0 * 6 = 0 from rfl] at hw285_3)
                (try rw [Addr.add_zero'] at hw285_3)
                have hw285_2 := hx285_2
                (try rw [show ((0 : Int)).toNat = 0 from rfl] at hw285_2)
                (try rw [show 0 * 6 = 0 from rfl] at hw285_2)
                (try rw [Addr.add_zero'] at hw285_2)
                have hw285_1 := hx285_1
                (try rw [show ((0 : Int)).toNat = 0 from rfl] at hw285_1)
                (try rw [show 0 * 6 = 0 from rfl] at hw285_1)
                (try rw [Addr.add_zero'] at hw285_1)
                have hw285_0 := hx285_0
                (try rw [show ((0 : Int)).toNat = 0 from rfl] at hw285_0)
                (try rw [show 0 * 6 = 0 from rfl] at hw285_0)
                (try rw [Addr.add_zero'] at hw285_0)
                obtain rfl : ad280 = ad285 := (by injection e285)
                have qi285 : (0 < l0_4.length) = True := eq_true (by omega)
                (try rw [show ((0 : Int)).toNat = 0 from rfl] at hx285_0)
                (try rw [show 0 * 6 = 0 from rfl] at hx285_0)
                (try rw [Addr.add_zero'] at hx285_0)
                (try rw [show ((0 : Int)).toNat = 0 from rfl] at hx285_1)
                (try rw [show 0 * 6 = 0 from rfl] at hx285_1)
                (try rw [Addr.add_zero'] at hx285_1)
                (try rw [show ((0 : Int)).toNat = 0 from rfl] at hx285_2)
                (try rw [show 0 * 6 = 0 from rfl] at hx285_2)
                (try rw [Addr.add_zero'] at hx285_2)
                (try rw [show ((0 : Int)).toNat = 0 from rfl] at hx285_3)
                (try rw [show 0 * 6 = 0 from rfl] at hx285_3)
                (try rw [Addr.add_zero'] at hx285_3)
                (try rw [show ((0 : Int)).toNat = 0 from rfl] at hx285_4)
                (try rw [show 0 * 6 = 0 from rfl] at hx285_4)
                (try rw [Addr.add_zero'] at hx285_4)
                (try rw [show ((0 : Int)).toNat = 0 from rfl] at hx285_5)
                (try rw [show 0 * 6 = 0 from rfl] at hx285_5)
                (try rw [Addr.add_zero'] at hx285_5)
                replace hx285_0 := (HB.out.cell (World.block_lt_of_cell? w _ hx285_0)).trans hx285_0
                replace hx285_1 := (HB.out.cell (World.block_lt_of_cell? w _ hx285_1)).trans hx285_1
                replace hx285_2 := (HB.out.cell (World.block_lt_of_cell? w _ hx285_2)).trans hx285_2
                replace hx285_3 := (HB.out.cell (World.block_lt_of_cell? w _ hx285_3)).trans hx285_3
                replace hx285_4 := (HB.out.cell (World.block_lt_of_cell? w _ hx285_4)).trans hx285_4
                replace hx285_5 := (HB.out.cell (World.block_lt_of_cell? w _ hx285_5)).trans hx285_5
                replace p285 := eq_true p285
                replace q285 := eq_true q285
                refine start_ (n := 16) (S := fun w' => w'.cell? ⟨gb267, 0, none⟩ = some (.int .i64 a0_0) ∧ w'.cell? ⟨gb267, 1, none⟩ = some (.int .i64 a0_1) ∧ w'.cell? ⟨gb267, 2, none⟩ = some (.int .i64 a0_2) ∧ w'.cell? ⟨gb267, 3, none⟩ = some (.int .i64 a0_3) ∧ w'.cell? ⟨gb267, 4, none⟩ = some (.slice (some ad280) l0_4.length c0_4) ∧ w'.cell? (ad280.add ((x4_1).toNat * 6)) = some (.bool ((rd_T45 l0_4 x4_1).f0)) ∧ w'.cell? ⟨(ad280.add ((x4_1).toNat * 6)).block, (ad280.add ((x4_1).toNat * 6)).off + 1, none⟩ = some (.string ((rd_T45 l0_4 x4_1).f1)) ∧ w'.cell? ⟨(ad280.add ((x4_1).toNat * 6)).block, (ad280.add ((x4_1).toNat * 6)).off + 2, none⟩ = some (.bool ((rd_T45 l0_4 x4_1).f2)) ∧ w'.cell? ⟨(ad280.add ((x4_1).toNat * 6)).block, (ad280.add ((x4_1).toNat * 6)).off + 3, none⟩ = some (.string ((rd_T45 l0_4 x4_1).f3)) ∧ w'.cell? ⟨(ad280.add ((x4_1).toNat * 6)).block, (ad280.add ((x4_1).toNat * 6)).off + 4, none⟩ = some (.int .i64 ((rd_T45 l0_4 x4_1).f4)) ∧ w'.cell? ⟨(ad280.add ((x4_1).toNat * 6)).block, (ad280.add ((x4_1).toNat * 6)).off + 5, none⟩ = some (.int .i64 ((rd_T45 l0_4 x4_1).f5)) ∧ w'.cell? ad280 = some (.bool ((rd_T45 l0_4 0).f0)) ∧ w'.cell? ⟨ad280.block, ad280.off + 1, none⟩ = some (.string ((rd_T45 l0_4 0).f1)) ∧ w'.cell? ⟨ad280.block, ad280.off + 2, none⟩ = some (.bool ((rd_T45 l0_4 0).f2)) ∧ w'.cell? ⟨ad280.block, ad280.off + 3, none⟩ = some (.string ((rd_T45 l0_4 0).f3)) ∧ w'.cell? ⟨ad280.block, ad280.off + 4, none⟩ = some (.int .i64 ((rd_T45 l0_4 0).f4)) ∧ w'.cell? ⟨ad280.block, ad280.off + 5, none⟩ = some (.int .i64 ((rd_T45 l0_4 0).f5))) (ds := []) #[false, false, false, false, false, false, false, false, false, false, false, false, false, false, false, false] (by kernel_rfl) rfl rfl ⟨(blk_cell BK267.out 0).trans rfl, (blk_cell BK267.out 1).trans rfl, (blk_cell BK267.out 2).trans rfl, (blk_cell BK267.out 3).trans rfl, (blk_cell BK267.out 4).trans rfl, ((HB.out.cell (World.block_lt_of_cell? w _ hw284_0)).trans hw284_0), ((HB.out.cell (World.block_lt_of_cell? w _ hw284_1)).trans hw284_1), ((HB.out.cell (World.block_lt_of_cell? w _ hw284_2)).trans hw284_2), ((HB.out.cell (World.block_lt_of_cell? w _ hw284_3)).trans hw284_3), ((HB.out.cell (World.block_lt_of_cell? w _ hw284_4)).trans hw284_4), ((HB.out.cell (World.block_lt_of_cell? w _ hw284_5)).trans hw284_5), ((HB.out.cell (World.block_lt_of_cell? w _ hw285_0)).trans hw285_0), ((HB.out.cell (World.block_lt_of_cell? w _ hw285_1)).trans hw285_1), ((HB.out.cell (World.block_lt_of_cell? w _ hw285_2)).trans hw285_2), ((HB.out.cell (World.block_lt_of_cell? w _ hw285_3)).trans hw285_3), ((HB.out.cell (World.block_lt_of_cell? w _ hw285_4)).trans hw285_4), ((HB.out.cell (World.block_lt_of_cell? w _ hw285_5)).trans hw285_5)⟩ (fun hHeld => ?_); refine with_tabW bollardref12_body.tab9 bollardref12_body.bits9 (fun HT_ HW_ => ?_)
                generalize wr.drew = w29 at HO_3 BK267 HB hx284_0 hx284_1 hx284_2 hx284_3 hx284_4 hx284_5 hx285_0 hx285_1 hx285_2 hx285_3 hx285_4 hx285_5 hHeld ⊢
                refine pure_ (i := 0) (N := some 43) (v := ?_) (a' := ?_) #[true, false, false, false, false, false, false, false, false, false, false, false, false, false, false, false] rfl rfl (any_of HT_.out (by kernel_rfl)) (fun _ _ _ h => h) (Or.inl ⟨by rfl, ?_⟩) ?_ ?_
                rotate_left
                · intro w'
                  go_simp
                  with_reducible rfl
                rotate_left
                · simp only [Act.put, List.setIfInBounds_toArray, List.set_cons_zero, List.set_cons_succ, i64_w, i32_w]
                  rfl
                refine pure_ (i := 2) (N := some 45) (v := ?_) (a' := ?_) #[true, false, true, false, false, false, false, false, false, false, false, false, false, false, false, false] rfl rfl (any_of HT_.out (by kernel_rfl)) (fun _ _ _ h => h) (Or.inl ⟨by rfl, ?_⟩) ?_ ?_
                rotate_left
                · intro w'
                  go_simp
                  with_reducible rfl
                rotate_left
                · simp only [Act.put, List.setIfInBounds_toArray, List.set_cons_zero, List.set_cons_succ, i64_w, i32_w]
                  rfl
                refine pure_ (i := 5) (N := some 48) (v := ?_) (a' := ?_) #[true, false, true, false, false, true, false, false, false, false, false, false, false, false, false, false] rfl rfl (any_of HT_.out (by kernel_rfl)) (fun _ _ _ h => h) (Or.inl ⟨by rfl, ?_⟩) ?_ ?_
                rotate_left
                · intro w'
                  go_simp
                  with_reducible rfl
                rotate_left
                · simp only [Act.put, List.setIfInBounds_toArray, List.set_cons_zero, List.set_cons_succ, i64_w, i32_w]
                  rfl
                refine take_ (i := 1) (N := some 44) (v := ?_) (a' := ?_) #[true, true, true, false, false, true, false, false, false, false, false, false, false, false, false, false] rfl rfl (take_ofW HT_.out HW_.out (by kernel_rfl)) (fun _ _ _ h => h) (Or.inl ⟨by rfl, ?_⟩) hHeld ?_ ?_
                rotate_left
                · rintro w' ⟨s0, s1, s2, s3, s4, s5, s6, s7, s8, s9, s10, s11, s12, s13, s14, s15, s16⟩
                  go_simp
                  with_reducible rfl
                rotate_left
                · simp only [Act.put, List.setIfInBounds_toArray, List.set_cons_zero, List.set_cons_succ, i64_w, i32_w]
                  rfl
                refine pure_ (i := 3) (N := some 46) (v := ?_) (a' := ?_) #[true, true, true, true, false, true, false, false, false, false, false, false, false, false, false, false] rfl rfl (any_of HT_.out (by kernel_rfl)) (fun _ _ _ h => h) (Or.inl ⟨by rfl, ?_⟩) ?_ ?_
                rotate_left
                · intro w'
                  go_simp
                  with_reducible rfl
                rotate_left
                · simp only [Act.put, List.setIfInBounds_toArray, List.set_cons_zero, List.set_cons_succ, i64_w, i32_w]
                  rfl
                refine take_ (i := 4) (N := some 47) (v := ?_) (a' := ?_) #[true, true, true, true, true, true, false, false, false, false, false, false, false, false, false, false] rfl rfl (take_ofW HT_.out HW_.out (by kernel_rfl)) (fun _ _ _ h => h) (Or.inl ⟨by rfl, ?_⟩) hHeld ?_ ?_
                rotate_left
                · rintro w' ⟨s0, s1, s2, s3, s4, s5, s6, s7, s8, s9, s10, s11, s12, s13, s14, s15, s16⟩
                  go_simp
                  with_reducible rfl
                rotate_left
                · simp only [Act.put, List.setIfInBounds_toArray, List.set_cons_zero, List.set_cons_succ, i64_w, i32_w]
                  rfl
                refine take_ (i := 6) (N := some 49) (v := ?_) (a' := ?_) #[true, true, true, true, true, true, true, false, false, false, false, false, false, false, false, false] rfl rfl (take_ofW HT_.out HW_.out (by kernel_rfl)) (fun _ _ _ h => h) (Or.inl ⟨by rfl, ?_⟩) hHeld ?_ ?_
                rotate_left
                · rintro w' ⟨s0, s1, s2, s3, s4, s5, s6, s7, s8, s9, s10, s11, s12, s13, s14, s15, s16⟩
                  go_simp
                  with_reducible rfl
                rotate_left
                · simp only [Act.put, List.setIfInBounds_toArray, List.set_cons_zero, List.set_cons_succ, i64_w, i32_w]
                  rfl
                refine pure_ (i := 7) (N := some 50) (v := ?_) (a' := ?_) #[true, true, true, true, true, true, true, true, false, false, false, false, false, false, false, false] rfl rfl (any_of HT_.out (by kernel_rfl)) (fun _ _ _ h => h) (Or.inl ⟨by rfl, ?_⟩) ?_ ?_
                rotate_left
                · intro w'
                  go_simp
                  with_reducible rfl
                rotate_left
                · simp only [Act.put, List.setIfInBounds_toArray, List.set_cons_zero, List.set_cons_succ, i64_w, i32_w]
                  rfl
                refine pure_ (i := 8) (N := some 51) (v := ?_) (a' := ?_) #[true, true, true, true, true, true, true, true, true, false, false, false, false, false, false, false] rfl rfl (any_of HT_.out (by kernel_rfl)) (fun _ _ _ h => h) (Or.inl ⟨by rfl, ?_⟩) ?_ ?_
                rotate_left
                · intro w'
                  go_simp
                  with_reducible rfl
                rotate_left
                · simp only [Act.put, List.setIfInBounds_toArray, List.set_cons_zero, List.set_cons_succ, i64_w, i32_w]
                  rfl
                refine take_ (i := 9) (N := some 52) (v := ?_) (a' := ?_) #[true, true, true, true, true, true, true, true, true, true, false, false, false, false, false, false] rfl rfl (take_ofW HT_.out HW_.out (by kernel_rfl)) (fun _ _ _ h => h) (Or.inl ⟨by rfl, ?_⟩) hHeld ?_ ?_
                rotate_left
                · rintro w' ⟨s0, s1, s2, s3, s4, s5, s6, s7, s8, s9, s10, s11, s12, s13, s14, s15, s16⟩
                  go_simp
                  with_reducible rfl
                rotate_left
                · simp only [Act.put, List.setIfInBounds_toArray, List.set_cons_zero, List.set_cons_succ, i64_w, i32_w]
                  rfl
                refine one_ (i := 10) (N := some 53) #[true, true, true, true, true, true, true, true, true, true, true, false, false, false, false, false] rfl rfl (one_of HT_.out (by kernel_rfl)) (by decide) (fun K hK => ?_)
                refine goes_ Try.func47 (by kernel_rfl) rfl #[.agg #[.bool ((rd_T45 l0_4 x4_1).f0), .string ((rd_T45 l0_4 x4_1).f1), .bool ((rd_T45 l0_4 x4_1).f2), .string ((rd_T45 l0_4 x4_1).f3), .int .i64 ((rd_T45 l0_4 x4_1).f4), .int .i64 ((rd_T45 l0_4 x4_1).f5)], .int .i64 ((rd_T45 l0_4 0).f4)] (by rfl) rfl rfl (by (try simp only [List.map_toArray, List.map_cons, List.map_nil]); first | done | rfl | (simp only [List.length_drop, List.length_take]; rfl)) ?_
                with_reducible refine (bollardref12_Encode.calls k1 ((rd_T45 l0_4 x4_1).f0) ((rd_T45 l0_4 x4_1).f1) ((rd_T45 l0_4 x4_1).f2) ((rd_T45 l0_4 x4_1).f3) ((rd_T45 l0_4 x4_1).f4) ((rd_T45 l0_4 x4_1).f5) ((rd_T45 l0_4 0).f4) t286 t289 _ A26.out).mono ?_
                rintro e w30 ⟨v287, rfl, ho0, hb⟩
                refine ⟨_, rfl, ?_⟩
                have n0_ := Aside0.mk (Kd.R_elder' (by (with_reducible repeat (first | apply Kd.R_alloc | apply Kd.R_drewN | apply Kd.R_drew)); exact HO_3.out) (Kd.R_base ho0) hb)
                have n1_ := Aside0.mk (Kd.R_lower (Kd.R_new' ho0 (Kd.R_lt (by (with_reducible repeat (first | apply Kd.R_alloc | apply Kd.R_drewN | apply Kd.R_drew)); exact HO_3.out))) (below_size (by repeat (first | (with_reducible first | exact HB.out | apply below_alloc | apply pw_below_drewN | apply below_drew1 | refine below_set ?_ GE267.out) | exact HB.out))))
                have n2_ := Aside0.mk (blk_below (g := gb267) (o := .cells #[.int .i64 a0_0, .int .i64 a0_1, .int .i64 a0_2, .int .i64 a0_3, .slice (some ad280) l0_4.length c0_4] 24 (0, 0)) (by (with_reducible repeat (first | refine blk_drewN ?_ _ | refine blk_drew ?_ | refine blk_alloc ?_ _)); exact BK267.out) hb)
                have n3_ := Aside0.mk (below_step (by repeat (first | (with_reducible first | exact HB.out | apply below_alloc | apply pw_below_drewN | apply below_drew1 | refine below_set ?_ GE267.out) | exact HB.out)) hb)
                clear HO_3
                clear BK267
                clear HB
                have HO_3 := n0_
                have HO288 := n1_
                have BK267 := n2_
                have HB := n3_
                clear n0_ n1_ n2_ n3_
                (try clear hb)
                (try clear hb2)
                (try clear hk)
                (try clear hi)
                (try clear ho0)
                refine hK.out _ _ ⟨(blk_cell BK267.out 0).trans rfl, (blk_cell BK267.out 1).trans rfl, (blk_cell BK267.out 2).trans rfl, (blk_cell BK267.out 3).trans rfl, (blk_cell BK267.out 4).trans rfl, ((HB.out.cell (World.block_lt_of_cell? w _ hw284_0)).trans hw284_0), ((HB.out.cell (World.block_lt_of_cell? w _ hw284_1)).trans hw284_1), ((HB.out.cell (World.block_lt_of_cell? w _ hw284_2)).trans hw284_2), ((HB.out.cell (World.block_lt_of_cell? w _ hw284_3)).trans hw284_3), ((HB.out.cell (World.block_lt_of_cell? w _ hw284_4)).trans hw284_4), ((HB.out.cell (World.block_lt_of_cell? w _ hw284_5)).trans hw284_5), ((HB.out.cell (World.block_lt_of_cell? w _ hw285_0)).trans hw285_0), ((HB.out.cell (World.block_lt_of_cell? w _ hw285_1)).trans hw285_1), ((HB.out.cell (World.block_lt_of_cell? w _ hw285_2)).trans hw285_2), ((HB.out.cell (World.block_lt_of_cell? w _ hw285_3)).trans hw285_3), ((HB.out.cell (World.block_lt_of_cell? w _ hw285_4)).trans hw285_4), ((HB.out.cell (World.block_lt_of_cell? w _ hw285_5)).trans hw285_5)⟩ (fun hHeld => ?_)
                clear hK K
                refine norm_ (a' := ?_) ?_ ?_
                rotate_left
                · show Act.put _ (some 53) _ = _
                  simp only [Act.put, List.setIfInBounds_toArray, List.set_cons_zero, List.set_cons_succ, i64_w, i32_w]
                  rfl
                refine pure_ (i := 11) (N := some 42) (v := ?_) (a' := ?_) #[true, true, true, true, true, true, true, true, true, true, true, true, false, false, false, false] rfl rfl (any_of HT_.out (by kernel_rfl)) (fun _ _ _ h => h) (Or.inl ⟨by rfl, ?_⟩) ?_ ?_
                rotate_left
                · intro w'
                  go_simp
                  with_reducible rfl
                rotate_left
                · simp only [Act.put, List.setIfInBounds_toArray, List.set_cons_zero, List.set_cons_succ, i64_w, i32_w]
                  rfl
                refine pure_ (i := 12) (N := some 54) (v := ?_) (a' := ?_) #[true, true, true, true, true, true, true, true, true, true, true, true, true, false, false, false] rfl rfl (any_of HT_.out (by kernel_rfl)) (fun _ _ _ h => h) (Or.inl ⟨by rfl, ?_⟩) ?_ ?_
                rotate_left
                · intro w'
                  go_simp
                  with_reducible rfl
                rotate_left
                · simp only [Act.put, List.setIfInBounds_toArray, List.set_cons_zero, List.set_cons_succ, i64_w, i32_w]
                  rfl
                refine pure_ (i := 13) (N := some 55) (v := ?_) (a' := ?_) #[true, true, true, true, true, true, true, true, true, true, true, true, true, true, false, false] rfl rfl (any_of HT_.out (by kernel_rfl)) (fun _ _ _ h => h) (Or.inl ⟨by rfl, ?_⟩) ?_ ?_
                rotate_left
                · intro w'
                  go_simp
                  with_reducible rfl
                rotate_left
                · simp only [Act.put, List.setIfInBounds_toArray, List.set_cons_zero, List.set_cons_succ, i64_w, i32_w]
                  rfl
                refine pure_ (i := 14) (N := some 5) (v := ?_) (a' := ?_) #[true, true, true, true, true, true, true, true, true, true, true, true, true, true, true, false] rfl rfl (any_of HT_.out (by kernel_rfl)) (fun _ _ _ h => h) (Or.inl ⟨by rfl, ?_⟩) ?_ ?_
                rotate_left
                · intro w'
                  go_simp
                  with_reducible rfl
                rotate_left
                · simp only [Act.put, List.setIfInBounds_toArray, List.set_cons_zero, List.set_cons_succ, i64_w, i32_w]
                  rfl
                refine pure_ (i := 15) (N := some 6) (v := ?_) (a' := ?_) #[true, true, true, true, true, true, true, true, true, true, true, true, true, true, true, true] rfl rfl (any_of HT_.out (by kernel_rfl)) (fun _ _ _ h => h) (Or.inl ⟨by rfl, ?_⟩) ?_ ?_
                rotate_left
                · intro w'
                  go_simp
                  with_reducible rfl
                rotate_left
                · simp only [Act.put, List.setIfInBounds_toArray, List.set_cons_zero, List.set_cons_succ, i64_w, i32_w]
                  rfl
                refine done_ (done_of HT_.out (by kernel_rfl)) ?_
                obtain ⟨Ao32, co32, eo32⟩ := Kd.R_slice HO288.out
                subst eo32
                try go_wp2_with (first | ((with_reducible refine gate_builtin (b := .append) (xs := #[.tmp 56, .tmp 57]) rfl ?_); at_builtin; refine Kd.R_append_rows (Kd.int .u8) (w0 := w) w.heap.size rfl (.tmp 56) (.tmp 57) 27 5 (.int .u8 0) 1 rfl Try.underlying27 info5 rfl (by decide) (by omega) u3 x3_1 t286 _ _ _ (fun k_ => some k_ ≠ (.slice Ao32 t286.length co32 : Value).ownBlock) (fun _ => False) rfl rfl ?aO ?aR (fun _ _ h => h) (fun _ h => h.elim) ?aF ?aB ?aS ?aL ?_; (case aR => repeat (first | exact (Kd.R_reads' HO288.out).2.2 | (with_reducible refine Kd.C_alloc ?_ _) | (with_reducible refine Kd.C_drewN ?_ _) | (with_reducible refine Kd.C_drew ?_))); (case aB => exact (by repeat (first | (with_reducible first | exact HB.out | apply below_alloc | apply pw_below_drewN | apply below_drew1 | refine below_set ?_ GE267.out) | exact HB.out))); (case aF => exact (fun k_ hk => Kd.fresh' (Kd.R_lt (by (with_reducible repeat (first | apply Kd.R_alloc | apply Kd.R_drewN | apply Kd.R_drew)); exact HO288.out)) k_ hk)); (case aO => exact (by (with_reducible repeat (first | apply Kd.R_alloc | apply Kd.R_drewN | apply Kd.R_drew)); exact Kd.R_mono HO_3.out (fun _ hk => hk.2))); (case aS => exact (below_size (by repeat (first | (with_reducible first | exact HB.out | apply below_alloc | apply pw_below_drewN | apply below_drew1 | refine below_set ?_ GE267.out) | exact HB.out)))); (case aL => have := LMc27.out; omega); intro v291 w31 ho hb hg hat; rw [← Ny290.out] at ho; have n0_ := Aside0.mk (blk_grown (g := gb267) (o := .cells #[.int .i64 a0_0, .int .i64 a0_1, .int .i64 a0_2, .int .i64 a0_3, .slice (some ad280) l0_4.length c0_4] 24 (0, 0)) (by (with_reducible repeat (first | refine blk_drewN ?_ _ | refine blk_drew ?_ | refine blk_alloc ?_ _)); exact BK267.out) hg (Kd.R_ne HO_3.out BK267.out (by decide))); have n1_ := Aside0.mk (Kd.R_after (ok := (fun _ => True)) (by (with_reducible repeat (first | apply Kd.R_alloc | apply Kd.R_drewN | apply Kd.R_drew)); exact HO288.out) hg hat); have n2_ := Aside0.mk (hb); have n3_ := Aside0.mk (ho); clear BK267; clear HO288; clear HB; clear HO_3; have BK267 := n0_; have HO288 := n1_; have HB := n2_; have HO292 := n3_; clear n0_ n1_ n2_ n3_; clear ho hb hg hat))
                go_roundg k1
                case measure => have := HK1.out; omega
                case rel => exact ⟨(y290), (wrap64 (x4_1 + 1)), (by first | rfl | (simp; done) | (simp [*]; done) | exact congrArg Value.bool (ne_empty _) | exact congrArg Value.bool (eq_empty _)), H', ⟨by have := HK1.out; omega⟩, ⟨by (with_reducible repeat (first | apply Kd.R_alloc | apply Kd.R_drewN | apply Kd.R_drew)); exact Kd.R_mono HO292.out (fun _ hk => trivial)⟩, ⟨by (with_reducible repeat (first | refine blk_drewN ?_ _ | refine blk_drew ?_ | refine blk_alloc ?_ _)); exact BK267.out⟩, ⟨by repeat (first | (with_reducible first | exact HB.out | apply below_alloc | apply pw_below_drewN | apply below_drew1 | refine below_set ?_ GE267.out) | exact HB.out)⟩⟩
              · rw [if_neg c27] at H
                exact absurd H (by simp)
            · rw [if_neg c25] at H
              exact absurd H (by simp)
          · rw [if_neg c24] at H
            exact absurd H (by simp)
        · rw [if_neg c23] at H
          have c23b0 : decide (x4_1 < (l0_4.length : Int)) = false := decide_eq_false c23
          clear c23
          obtain rfl := Option.some.inj H
          have hcz33_0 : wr.cell? ⟨gb267, 0, none⟩ = some (.int .i64 a0_0) := (blk_cell BK267.out 0).trans rfl
          have hcz33_1 : wr.cell? ⟨gb267, 1, none⟩ = some (.int .i64 a0_1) := (blk_cell BK267.out 1).trans rfl
          have hcz33_2 : wr.cell? ⟨gb267, 2, none⟩ = some (.int .i64 a0_2) := (blk_cell BK267.out 2).trans rfl
          have hcz33_3 : wr.cell? ⟨gb267, 3, none⟩ = some (.int .i64 a0_3) := (blk_cell BK267.out 3).trans rfl
          have hcz33_4 : wr.cell? ⟨gb267, 4, none⟩ = some (.slice (some ad280) l0_4.length c0_4) := (blk_cell BK267.out 4).trans rfl
          have hfz33_0 := blk_frozen BK267.out 0
          have hfz33_1 := blk_frozen BK267.out 1
          have hfz33_2 := blk_frozen BK267.out 2
          have hfz33_3 := blk_frozen BK267.out 3
          have hfz33_4 := blk_frozen BK267.out 4
          go_wp2
          go_ret
          exact ⟨_, by first | rfl | (simp [errW_none, errW_some] <;> rfl) | (simp [*, errW_none, errW_some] <;> rfl), by (with_reducible repeat (first | apply Kd.R_alloc | apply Kd.R_drewN | apply Kd.R_drew)); exact HO_3.out, by repeat (first | (with_reducible first | exact HB.out | apply below_alloc | apply pw_below_drewN | apply below_drew1 | refine below_set ?_ GE267.out) | exact HB.out)⟩
  · rw [if_neg c6] at H
    exact absurd H (by simp)

end Go.Proofs.Ytgmeellapjimgaa.PBa
