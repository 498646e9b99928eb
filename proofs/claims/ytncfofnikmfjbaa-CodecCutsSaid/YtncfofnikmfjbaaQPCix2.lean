-- written by a program of this session (wip/tools/pr.py, over the kit's printer): not by hand
import Derived.Test.YtncfofnikmfjbaaQPCix7
namespace Go.Proofs.Ytncfofnikmfjbaa.PCi
open Go.RowKit Go.Proofs.YtncfofnikmfjbaaW.PrintWords Go.Proofs.YtncfofnikmfjbaaW.PrintLast Go.Proofs.YtncfofnikmfjbaaW.PrintMore
attribute [local go_sem] max2_int min2_int max_two min_two max_three min_three max_four min_four   -- for this text's walks alone
set_option linter.unusedVariables false
set_option linter.unusedSimpArgs false

/-! ### bollardref12_body: function 81 -/
def bollardref12_body.l0 : Nat → List Int → Int → Int → Int → Int → Int → List (S98) → Option (List Int)
  | 0, _, _, _, _, _, _, _ => none
  | k + 1, x3, x4, x193000, x193001, x193002, x193003, x193004 => if x4 < (x193004.length : Int) then (if 0 ≤ x4 then (if 0 < (x193004.length : Int) then ((bollardref12_Encode.f k ((rd_T98 x193004 x4).f0) ((rd_T98 x193004 x4).f1) ((rd_T98 x193004 x4).f2) ((rd_T98 x193004 x4).f3) ((rd_T98 x193004 x4).f4) ((rd_T98 x193004 x4).f5) ((rd_T98 x193004 0).f4)).bind fun bt211 => (if x3.length + bt211.1.length < 140737488355328 then (bollardref12_body.l0 k (x3 ++ bt211.1) (wrap64 (x4 + 1)) x193000 x193001 x193002 x193003 x193004) else (none))) else (none)) else (none)) else (some x3)
def bollardref12_body.f (k : Nat) (a0_0 : Int) (a0_1 : Int) (a0_2 : Int) (a0_3 : Int) (l0_4 : List (S98)) : Option (List Int) := (bollardref1_Lay.f k ([] : List Int) 8 (IntKind.u64.wrap (a0_2))).bind fun t193 => ((bollardref1_Lay.f k t193 8 (IntKind.u64.wrap (a0_3))).bind fun t196 => ((bollardref1_Lay.f k t196 4 (IntKind.u64.wrap (a0_1))).bind fun t199 => ((bollardref1_Lay.f k t199 4 (IntKind.u64.wrap ((l0_4.length : Int)))).bind fun t202 => (if 0 < (l0_4.length : Int) then ((bollardref1_Lay.f k t202 8 (IntKind.u64.wrap ((rd_T98 l0_4 0).f4))).bind fun t206 => (bollardref12_body.l0 k t206 0 a0_0 a0_1 a0_2 a0_3 l0_4)) else (none)))))
set_option maxRecDepth 100000 in
theorem bollardref12_body.mono_l : ∀ k, (∀ y0 y1 y2 y3 y4 y5 y6, LeO (bollardref12_body.l0 k y0 y1 y2 y3 y4 y5 y6) (bollardref12_body.l0 (k + 1) y0 y1 y2 y3 y4 y5 y6))
  | 0 => fun _ _ _ _ _ _ _ r h => by first | exact nomatch (show (none : Option _) = some r from h) | (rw [bollardref12_body.l0] at h; cases h; done) | (simp [bollardref12_body.l0] at h; done)
  | k + 1 => by
    have ih0 := bollardref12_body.mono_l k
    · intro y0 y1 y2 y3 y4 y5 y6
      unfold bollardref12_body.l0
      repeat' first
      | (with_reducible exact ih0 _ _ _ _ _ _ _)
      | (with_reducible exact bollardref12_Encode.mono _ _ _ _ _ _ _ _)
      | (with_reducible exact bollardref1_Lay.mono _ _ _ _)
      | (with_reducible exact LeO.refl _)
      | (with_reducible exact LeO.none _)
      | (with_reducible refine LeO.ite ?_ ?_)
      | (with_reducible refine LeO.bind ?_ (fun _ => ?_))
      | exact ih0 _ _ _ _ _ _ _
      | exact bollardref12_Encode.mono _ _ _ _ _ _ _ _
      | exact bollardref1_Lay.mono _ _ _ _
      | exact LeO.none _
      | refine LeO.ite ?_ ?_
      | refine LeO.bind ?_ (fun _ => ?_)
theorem bollardref12_body.mono : ∀ a0 a1 a2 a3 a4 k, LeO (bollardref12_body.f k a0 a1 a2 a3 a4) (bollardref12_body.f (k + 1) a0 a1 a2 a3 a4) := by
  intro a0 a1 a2 a3 a4 k
  have ih0 := bollardref12_body.mono_l k
  unfold bollardref12_body.f
  repeat' first
      | (with_reducible exact ih0 _ _ _ _ _ _ _)
      | (with_reducible exact bollardref12_Encode.mono _ _ _ _ _ _ _ _)
      | (with_reducible exact bollardref1_Lay.mono _ _ _ _)
      | (with_reducible exact LeO.refl _)
      | (with_reducible exact LeO.none _)
      | (with_reducible refine LeO.ite ?_ ?_)
      | (with_reducible refine LeO.bind ?_ (fun _ => ?_))
      | exact ih0 _ _ _ _ _ _ _
      | exact bollardref12_Encode.mono _ _ _ _ _ _ _ _
      | exact bollardref1_Lay.mono _ _ _ _
      | exact LeO.none _
      | refine LeO.ite ?_ ?_
      | refine LeO.bind ?_ (fun _ => ?_)
def bollardref12_body.T9 : Bool × List (List Nat × List Nat) := (true, [([], []), ([0], [0]), ([], []), ([1, 2], [1, 2]), ([3], [3]), ([], []), ([5], [5]), ([6], [6]), ([7], [7]), ([8], [8]), ([4, 9], [4, 9]), ([10], [10]), ([11], [11]), ([11], [11]), ([12, 10, 0, 1, 2, 3, 4, 5, 6, 7, 8, 9, 10, 11, 12], [12]), ([13, 14, 0, 1, 2, 3, 4, 5, 6, 7, 8, 9, 10, 11, 12, 13, 14], [13])])
def bollardref12_body.B9 : List Nat := [0, 1, 0, 7, 15, 0, 32, 96, 224, 480, 1023, 2047, 4095, 4095, 8191, 32767]
theorem bollardref12_body.tab9 : rtab .any (opsOf Try.f81 9) = bollardref12_body.T9 := by kernel_rfl
theorem bollardref12_body.bits9 : waitsOk bollardref12_body.T9.2 bollardref12_body.B9 = true := by kernel_rfl
set_option maxHeartbeats 8000000 in
set_option maxRecDepth 100000 in
theorem bollardref12_body.calls (k : Nat) (a0_0 : Int) (a0_1 : Int) (a0_2 : Int) (a0_3 : Int) (A0_4 : Option Addr) (c0_4 : Nat) (l0_4 : List (S98)) (r : List Int) (w : World) (hr0_4 : Kd.C k98 w A0_4 l0_4.length l0_4) (hc0_4 : l0_4.length ≤ c0_4) (h : bollardref12_body.f k a0_0 a0_1 a0_2 a0_3 l0_4 = some r) :
    Calls Try.prog 81 #[.agg #[.int .i64 a0_0, .int .i64 a0_1, .int .i64 a0_2, .int .i64 a0_3, .slice A0_4 l0_4.length c0_4]] w fun e w' => ∃ v0_ : Value, e = .returned (v0_) ∧ Kd.R (Kd.int .u8) 5 w' w.heap.size (fun _ => True) v0_ r ∧ Below w.heap.size w w' := by
  have hu101 := Try.underlying101
  have hu98 := Try.underlying98
  have HR0_4 := Aside0.mk hr0_4
  have HC0_4 := Aside0.mk hc0_4
  clear hr0_4 hc0_4
  have HB := Aside0.mk (Below.refl w.heap.size w)
  have H : ((bollardref1_Lay.f k ([] : List Int) 8 (IntKind.u64.wrap (a0_2))).bind fun t193 => ((bollardref1_Lay.f k t193 8 (IntKind.u64.wrap (a0_3))).bind fun t196 => ((bollardref1_Lay.f k t196 4 (IntKind.u64.wrap (a0_1))).bind fun t199 => ((bollardref1_Lay.f k t199 4 (IntKind.u64.wrap ((l0_4.length : Int)))).bind fun t202 => (if 0 < (l0_4.length : Int) then ((bollardref1_Lay.f k t202 8 (IntKind.u64.wrap ((rd_T98 l0_4 0).f4))).bind fun t206 => (bollardref12_body.l0 k t206 0 a0_0 a0_1 a0_2 a0_3 l0_4)) else (none)))))) = some r := h
  clear h
  replace H := Option.bind_eq_some_iff.mp H
  obtain ⟨t193, A20, H⟩ := H
  replace H : ((bollardref1_Lay.f k t193 8 (IntKind.u64.wrap (a0_3))).bind fun t196 => ((bollardref1_Lay.f k t196 4 (IntKind.u64.wrap (a0_1))).bind fun t199 => ((bollardref1_Lay.f k t199 4 (IntKind.u64.wrap ((l0_4.length : Int)))).bind fun t202 => (if 0 < (l0_4.length : Int) then ((bollardref1_Lay.f k t202 8 (IntKind.u64.wrap ((rd_T98 l0_4 0).f4))).bind fun t206 => (bollardref12_body.l0 k t206 0 a0_0 a0_1 a0_2 a0_3 l0_4)) else (none))))) = some r := H
  have A2 := Aside0.mk A20
  clear A20
  replace H := Option.bind_eq_some_iff.mp H
  obtain ⟨t196, A30, H⟩ := H
  replace H : ((bollardref1_Lay.f k t196 4 (IntKind.u64.wrap (a0_1))).bind fun t199 => ((bollardref1_Lay.f k t199 4 (IntKind.u64.wrap ((l0_4.length : Int)))).bind fun t202 => (if 0 < (l0_4.length : Int) then ((bollardref1_Lay.f k t202 8 (IntKind.u64.wrap ((rd_T98 l0_4 0).f4))).bind fun t206 => (bollardref12_body.l0 k t206 0 a0_0 a0_1 a0_2 a0_3 l0_4)) else (none)))) = some r := H
  have A3 := Aside0.mk A30
  clear A30
  replace H := Option.bind_eq_some_iff.mp H
  obtain ⟨t199, A40, H⟩ := H
  replace H : ((bollardref1_Lay.f k t199 4 (IntKind.u64.wrap ((l0_4.length : Int)))).bind fun t202 => (if 0 < (l0_4.length : Int) then ((bollardref1_Lay.f k t202 8 (IntKind.u64.wrap ((rd_T98 l0_4 0).f4))).bind fun t206 => (bollardref12_body.l0 k t206 0 a0_0 a0_1 a0_2 a0_3 l0_4)) else (none))) = some r := H
  have A4 := Aside0.mk A40
  clear A40
  replace H := Option.bind_eq_some_iff.mp H
  obtain ⟨t202, A50, H⟩ := H
  replace H : (if 0 < (l0_4.length : Int) then ((bollardref1_Lay.f k t202 8 (IntKind.u64.wrap ((rd_T98 l0_4 0).f4))).bind fun t206 => (bollardref12_body.l0 k t206 0 a0_0 a0_1 a0_2 a0_3 l0_4)) else (none)) = some r := H
  have A5 := Aside0.mk A50
  clear A50
  by_cases c6 : 0 < (l0_4.length : Int)
  · rw [if_pos c6] at H
    have c6b0 : decide (0 < (l0_4.length : Int)) = true := decide_eq_true c6
    have c6b1 : decide (0 < l0_4.length) = true := decide_eq_true (by omega)
    clear c6
    replace H := Option.bind_eq_some_iff.mp H
    obtain ⟨t206, A70, H⟩ := H
    replace H : (bollardref12_body.l0 k t206 0 a0_0 a0_1 a0_2 a0_3 l0_4) = some r := H
    have A7 := Aside0.mk A70
    clear A70
    have H' := Aside0.mk H
    clear H
    go_enter Try.func81, Try.ntmps81
    go_wp2_with (first | ((with_reducible refine gate_dst (N := 1) rfl ?_); refine box_event ?hg (N := 1) ?hd (cs := #[.int .i64 a0_0, .int .i64 a0_1, .int .i64 a0_2, .int .i64 a0_3, .slice A0_4 l0_4.length c0_4]) (t := 101) ?hr ?_; (case hd => rfl); (case hg => rfl); (case hr => first | (go_simp; done) | (go_simp; rfl)); intro gb192 hg w8 hbox hb; have n0_ := Aside0.mk (below_step (by repeat (first | (with_reducible first | exact HB.out | apply below_alloc | apply pw_below_drewN | apply below_drew1) | exact HB.out)) hb); have n1_ := Aside0.mk (hbox); have n2_ := Aside0.mk ((by rw [hg]; exact (below_size (by repeat (first | (with_reducible first | exact HB.out | apply below_alloc | apply pw_below_drewN | apply below_drew1) | exact HB.out))) : w.heap.size ≤ gb192)); have n3_ := Aside0.mk ((by rw [hg]; exact (below_size (by repeat (first | (with_reducible first | exact HB.out | apply below_alloc | apply pw_below_drewN | apply below_drew1) | exact HB.out))) : w.heap.size ≤ gb192)); clear HB; have HB := n0_; have BK192 := n1_; have GW192 := n2_; have GE192 := n3_; clear n0_ n1_ n2_ n3_; clear hb hbox hg; have hcz9_0 : w8.cell? ⟨gb192, 0, none⟩ = some (.int .i64 a0_0) := (blk_cell BK192.out 0).trans rfl; have hcz9_1 : w8.cell? ⟨gb192, 1, none⟩ = some (.int .i64 a0_1) := (blk_cell BK192.out 1).trans rfl; have hcz9_2 : w8.cell? ⟨gb192, 2, none⟩ = some (.int .i64 a0_2) := (blk_cell BK192.out 2).trans rfl; have hcz9_3 : w8.cell? ⟨gb192, 3, none⟩ = some (.int .i64 a0_3) := (blk_cell BK192.out 3).trans rfl; have hcz9_4 : w8.cell? ⟨gb192, 4, none⟩ = some (.slice A0_4 l0_4.length c0_4) := (blk_cell BK192.out 4).trans rfl; have hfz9_0 := blk_frozen BK192.out 0; have hfz9_1 := blk_frozen BK192.out 1; have hfz9_2 := blk_frozen BK192.out 2; have hfz9_3 := blk_frozen BK192.out 3; have hfz9_4 := blk_frozen BK192.out 4) | ((with_reducible refine gate_callee (f := 33) rfl ?_); refine goesL_ (some 10) rfl rfl Try.func33 (by kernel_rfl) rfl #[.slice none 0 0, .int .i64 8, .int .u64 (IntKind.u64.wrap (a0_2))] rfl (by (try simp only [List.map_toArray, List.map_cons, List.map_nil]); first | done | rfl | (simp only [List.length_drop, List.length_take]; rfl)) ?_; (refine (bollardref1_Lay.calls k (fun k_ => some k_ = (.slice none 0 0 : Value).ownBlock) (.slice none 0 0) ([] : List Int) 8 (IntKind.u64.wrap (a0_2)) t193 w _ ?side1 ?side2 A2.out).mono ?_); (case side1 => repeat (first | (with_reducible first | exact HB.out | apply below_alloc | apply pw_below_drewN | apply below_drew1 | refine below_set ?_ GE192.out) | exact HB.out)); (case side2 => exact Kd.R_nil _ _ _ _ _); rintro e w10 ⟨v194, rfl, ho0, hb, hkp⟩; refine ⟨_, rfl, ?_⟩; have n0_ := Aside0.mk (blk_kept (by (with_reducible repeat (first | refine blk_drewN ?_ _ | refine blk_drew ?_ | refine blk_alloc ?_ _)); exact BK192.out) hkp (fun hs_ => (fun e_ => by simp [Value.ownBlock] at e_) hs_)); have n1_ := Aside0.mk (Kd.R_mono (ok' := fun k_ => True) ho0 (fun k_ hk_ => trivial)); have n2_ := Aside0.mk (hb); clear BK192; clear HB; have BK192 := n0_; have HO195 := n1_; have HB := n2_; clear n0_ n1_ n2_; (try clear hb); (try clear hkp); (try clear ho0); have hcz11_0 : w10.cell? ⟨gb192, 0, none⟩ = some (.int .i64 a0_0) := (blk_cell BK192.out 0).trans rfl; have hcz11_1 : w10.cell? ⟨gb192, 1, none⟩ = some (.int .i64 a0_1) := (blk_cell BK192.out 1).trans rfl; have hcz11_2 : w10.cell? ⟨gb192, 2, none⟩ = some (.int .i64 a0_2) := (blk_cell BK192.out 2).trans rfl; have hcz11_3 : w10.cell? ⟨gb192, 3, none⟩ = some (.int .i64 a0_3) := (blk_cell BK192.out 3).trans rfl; have hcz11_4 : w10.cell? ⟨gb192, 4, none⟩ = some (.slice A0_4 l0_4.length c0_4) := (blk_cell BK192.out 4).trans rfl; have hfz11_0 := blk_frozen BK192.out 0; have hfz11_1 := blk_frozen BK192.out 1; have hfz11_2 := blk_frozen BK192.out 2; have hfz11_3 := blk_frozen BK192.out 3; have hfz11_4 := blk_frozen BK192.out 4; obtain ⟨Ao12, co12, eo12⟩ := Kd.R_slice HO195.out; subst eo12) | ((with_reducible refine gate_callee (f := 33) rfl ?_); refine goesL_ (some 15) rfl rfl Try.func33 (by kernel_rfl) rfl #[.slice Ao12 t193.length co12, .int .i64 8, .int .u64 (IntKind.u64.wrap (a0_3))] rfl (by (try simp only [List.map_toArray, List.map_cons, List.map_nil]); first | done | rfl | (simp only [List.length_drop, List.length_take]; rfl)) ?_; (with_reducible refine (bollardref1_Lay.calls k (fun k_ => some k_ = (.slice Ao12 t193.length co12 : Value).ownBlock) (.slice Ao12 t193.length co12) t193 8 (IntKind.u64.wrap (a0_3)) t196 w _ ?side1 ?side2 A3.out).mono ?_); (case side1 => repeat (first | (with_reducible first | exact HB.out | apply below_alloc | apply pw_below_drewN | apply below_drew1 | refine below_set ?_ GE192.out) | exact HB.out)); (case side2 => exact Kd.R_tight rfl HO195.out); rintro e w13 ⟨v197, rfl, ho0, hb, hkp⟩; refine ⟨_, rfl, ?_⟩; have n0_ := Aside0.mk (blk_kept (by (with_reducible repeat (first | refine blk_drewN ?_ _ | refine blk_drew ?_ | refine blk_alloc ?_ _)); exact BK192.out) hkp (fun hs_ => (fun e_ => (Kd.R_ne HO195.out BK192.out (by decide)) e_) hs_)); have n1_ := Aside0.mk (Kd.R_mono (ok' := fun k_ => True) ho0 (fun k_ hk_ => trivial)); have n2_ := Aside0.mk (hb); clear BK192; clear HB; clear HO195; have BK192 := n0_; have HO198 := n1_; have HB := n2_; clear n0_ n1_ n2_; (try clear hb); (try clear hkp); (try clear ho0); have hcz14_0 : w13.cell? ⟨gb192, 0, none⟩ = some (.int .i64 a0_0) := (blk_cell BK192.out 0).trans rfl; have hcz14_1 : w13.cell? ⟨gb192, 1, none⟩ = some (.int .i64 a0_1) := (blk_cell BK192.out 1).trans rfl; have hcz14_2 : w13.cell? ⟨gb192, 2, none⟩ = some (.int .i64 a0_2) := (blk_cell BK192.out 2).trans rfl; have hcz14_3 : w13.cell? ⟨gb192, 3, none⟩ = some (.int .i64 a0_3) := (blk_cell BK192.out 3).trans rfl; have hcz14_4 : w13.cell? ⟨gb192, 4, none⟩ = some (.slice A0_4 l0_4.length c0_4) := (blk_cell BK192.out 4).trans rfl; have hfz14_0 := blk_frozen BK192.out 0; have hfz14_1 := blk_frozen BK192.out 1; have hfz14_2 := blk_frozen BK192.out 2; have hfz14_3 := blk_frozen BK192.out 3; have hfz14_4 := blk_frozen BK192.out 4; obtain ⟨Ao15, co15, eo15⟩ := Kd.R_slice HO198.out; subst eo15) | ((with_reducible refine gate_callee (f := 33) rfl ?_); refine goesL_ (some 20) rfl rfl Try.func33 (by kernel_rfl) rfl #[.slice Ao15 t196.length co15, .int .i64 4, .int .u64 (IntKind.u64.wrap (a0_1))] rfl (by (try simp only [List.map_toArray, List.map_cons, List.map_nil]); first | done | rfl | (simp only [List.length_drop, List.length_take]; rfl)) ?_; (with_reducible refine (bollardref1_Lay.calls k (fun k_ => some k_ = (.slice Ao15 t196.length co15 : Value).ownBlock) (.slice Ao15 t196.length co15) t196 4 (IntKind.u64.wrap (a0_1)) t199 w _ ?side1 ?side2 A4.out).mono ?_); (case side1 => repeat (first | (with_reducible first | exact HB.out | apply below_alloc | apply pw_below_drewN | apply below_drew1 | refine below_set ?_ GE192.out) | exact HB.out)); (case side2 => exact Kd.R_tight rfl HO198.out); rintro e w16 ⟨v200, rfl, ho0, hb, hkp⟩; refine ⟨_, rfl, ?_⟩; have n0_ := Aside0.mk (blk_kept (by (with_reducible repeat (first | refine blk_drewN ?_ _ | refine blk_drew ?_ | refine blk_alloc ?_ _)); exact BK192.out) hkp (fun hs_ => (fun e_ => (Kd.R_ne HO198.out BK192.out (by decide)) e_) hs_)); have n1_ := Aside0.mk (Kd.R_mono (ok' := fun k_ => True) ho0 (fun k_ hk_ => trivial)); have n2_ := Aside0.mk (hb); clear BK192; clear HB; clear HO198; have BK192 := n0_; have HO201 := n1_; have HB := n2_; clear n0_ n1_ n2_; (try clear hb); (try clear hkp); (try clear ho0); have hcz17_0 : w16.cell? ⟨gb192, 0, none⟩ = some (.int .i64 a0_0) := (blk_cell BK192.out 0).trans rfl; have hcz17_1 : w16.cell? ⟨gb192, 1, none⟩ = some (.int .i64 a0_1) := (blk_cell BK192.out 1).trans rfl; have hcz17_2 : w16.cell? ⟨gb192, 2, none⟩ = some (.int .i64 a0_2) := (blk_cell BK192.out 2).trans rfl; have hcz17_3 : w16.cell? ⟨gb192, 3, none⟩ = some (.int .i64 a0_3) := (blk_cell BK192.out 3).trans rfl; have hcz17_4 : w16.cell? ⟨gb192, 4, none⟩ = some (.slice A0_4 l0_4.length c0_4) := (blk_cell BK192.out 4).trans rfl; have hfz17_0 := blk_frozen BK192.out 0; have hfz17_1 := blk_frozen BK192.out 1; have hfz17_2 := blk_frozen BK192.out 2; have hfz17_3 := blk_frozen BK192.out 3; have hfz17_4 := blk_frozen BK192.out 4; obtain ⟨Ao18, co18, eo18⟩ := Kd.R_slice HO201.out; subst eo18) | ((with_reducible refine gate_callee (f := 33) rfl ?_); refine goesL_ (some 26) rfl rfl Try.func33 (by kernel_rfl) rfl #[.slice Ao18 t199.length co18, .int .i64 4, .int .u64 (IntKind.u64.wrap ((l0_4.length : Int)))] rfl (by (try simp only [List.map_toArray, List.map_cons, List.map_nil]); first | done | rfl | (simp only [List.length_drop, List.length_take]; rfl)) ?_; (with_reducible refine (bollardref1_Lay.calls k (fun k_ => some k_ = (.slice Ao18 t199.length co18 : Value).ownBlock) (.slice Ao18 t199.length co18) t199 4 (IntKind.u64.wrap ((l0_4.length : Int))) t202 w _ ?side1 ?side2 A5.out).mono ?_); (case side1 => repeat (first | (with_reducible first | exact HB.out | apply below_alloc | apply pw_below_drewN | apply below_drew1 | refine below_set ?_ GE192.out) | exact HB.out)); (case side2 => exact Kd.R_tight rfl HO201.out); rintro e w19 ⟨v203, rfl, ho0, hb, hkp⟩; refine ⟨_, rfl, ?_⟩; have n0_ := Aside0.mk (blk_kept (by (with_reducible repeat (first | refine blk_drewN ?_ _ | refine blk_drew ?_ | refine blk_alloc ?_ _)); exact BK192.out) hkp (fun hs_ => (fun e_ => (Kd.R_ne HO201.out BK192.out (by decide)) e_) hs_)); have n1_ := Aside0.mk (Kd.R_mono (ok' := fun k_ => True) ho0 (fun k_ hk_ => trivial)); have n2_ := Aside0.mk (hb); clear BK192; clear HB; clear HO201; have BK192 := n0_; have HO204 := n1_; have HB := n2_; clear n0_ n1_ n2_; (try clear hb); (try clear hkp); (try clear ho0); have hcz20_0 : w19.cell? ⟨gb192, 0, none⟩ = some (.int .i64 a0_0) := (blk_cell BK192.out 0).trans rfl; have hcz20_1 : w19.cell? ⟨gb192, 1, none⟩ = some (.int .i64 a0_1) := (blk_cell BK192.out 1).trans rfl; have hcz20_2 : w19.cell? ⟨gb192, 2, none⟩ = some (.int .i64 a0_2) := (blk_cell BK192.out 2).trans rfl; have hcz20_3 : w19.cell? ⟨gb192, 3, none⟩ = some (.int .i64 a0_3) := (blk_cell BK192.out 3).trans rfl; have hcz20_4 : w19.cell? ⟨gb192, 4, none⟩ = some (.slice A0_4 l0_4.length c0_4) := (blk_cell BK192.out 4).trans rfl; have hfz20_0 := blk_frozen BK192.out 0; have hfz20_1 := blk_frozen BK192.out 1; have hfz20_2 := blk_frozen BK192.out 2; have hfz20_3 := blk_frozen BK192.out 3; have hfz20_4 := blk_frozen BK192.out 4; have p205 : 0 ≤ (0 : Int) := (by omega); have q205 : 0 < (l0_4.length : Int) := of_decide_eq_true (by first | (with_reducible assumption) | assumption); obtain ⟨ad205, e205, hx205_0, hx205_1, hx205_2, hx205_3, hx205_4, hx205_5⟩ := at_T98 HR0_4.out 0 p205 q205; cases e205; have qi205 : (0 < l0_4.length) = True := eq_true (by omega); (try rw [show ((0 : Int)).toNat = 0 from rfl] at hx205_0); (try rw [show 0 * 6 = 0 from rfl] at hx205_0); (try rw [Addr.add_zero'] at hx205_0); (try rw [show ((0 : Int)).toNat = 0 from rfl] at hx205_1); (try rw [show 0 * 6 = 0 from rfl] at hx205_1); (try rw [Addr.add_zero'] at hx205_1); (try rw [show ((0 : Int)).toNat = 0 from rfl] at hx205_2); (try rw [show 0 * 6 = 0 from rfl] at hx205_2); (try rw [Addr.add_zero'] at hx205_2); (try rw [show ((0 : Int)).toNat = 0 from rfl] at hx205_3); (try rw [show 0 * 6 = 0 from rfl] at hx205_3); (try rw [Addr.add_zero'] at hx205_3); (try rw [show ((0 : Int)).toNat = 0 from rfl] at hx205_4); (try rw [show 0 * 6 = 0 from rfl] at hx205_4); (try rw [Addr.add_zero'] at hx205_4); (try rw [show ((0 : Int)).toNat = 0 from rfl] at hx205_5); (try rw [show 0 * 6 = 0 from rfl] at hx205_5); (try rw [Addr.add_zero'] at hx205_5); replace hx205_0 := (HB.out.cell (World.block_lt_of_cell? w _ hx205_0)).trans hx205_0; replace hx205_1 := (HB.out.cell (World.block_lt_of_cell? w _ hx205_1)).trans hx205_1; replace hx205_2 := (HB.out.cell (World.block_lt_of_cell? w _ hx205_2)).trans hx205_2; replace hx205_3 := (HB.out.cell (World.block_lt_of_cell? w _ hx205_3)).trans hx205_3; replace hx205_4 := (HB.out.cell (World.block_lt_of_cell? w _ hx205_4)).trans hx205_4; replace hx205_5 := (HB.out.cell (World.block_lt_of_cell? w _ hx205_5)).trans hx205_5; replace p205 := eq_true p205; replace q205 := eq_true q205; obtain ⟨Ao21, co21, eo21⟩ := Kd.R_slice HO204.out; subst eo21) | ((with_reducible refine gate_callee (f := 33) rfl ?_); refine goesL_ (some 34) rfl rfl Try.func33 (by kernel_rfl) rfl #[.slice Ao21 t202.length co21, .int .i64 8, .int .u64 (IntKind.u64.wrap ((rd_T98 l0_4 0).f4))] rfl (by (try simp only [List.map_toArray, List.map_cons, List.map_nil]); first | done | rfl | (simp only [List.length_drop, List.length_take]; rfl)) ?_; (with_reducible refine (bollardref1_Lay.calls k (fun k_ => some k_ = (.slice Ao21 t202.length co21 : Value).ownBlock) (.slice Ao21 t202.length co21) t202 8 (IntKind.u64.wrap ((rd_T98 l0_4 0).f4)) t206 w _ ?side1 ?side2 A7.out).mono ?_); (case side1 => repeat (first | (with_reducible first | exact HB.out | apply below_alloc | apply pw_below_drewN | apply below_drew1 | refine below_set ?_ GE192.out) | exact HB.out)); (case side2 => exact Kd.R_tight rfl HO204.out); rintro e w22 ⟨v207, rfl, ho0, hb, hkp⟩; refine ⟨_, rfl, ?_⟩; have n0_ := Aside0.mk (blk_kept (by (with_reducible repeat (first | refine blk_drewN ?_ _ | refine blk_drew ?_ | refine blk_alloc ?_ _)); exact BK192.out) hkp (fun hs_ => (fun e_ => (Kd.R_ne HO204.out BK192.out (by decide)) e_) hs_)); have n1_ := Aside0.mk (Kd.R_mono (ok' := fun k_ => True) ho0 (fun k_ hk_ => trivial)); have n2_ := Aside0.mk (hb); clear BK192; clear HB; clear HO204; have BK192 := n0_; have HO208 := n1_; have HB := n2_; clear n0_ n1_ n2_; (try clear hb); (try clear hkp); (try clear ho0)))
    go_loopg [3, 4] k (fun kq v3 v4 w' => ∃ (x3_1 : List Int) (x4_1 : Int), v4 = .int .i64 x4_1 ∧ Aside0 (bollardref12_body.l0 kq x3_1 x4_1 a0_0 a0_1 a0_2 a0_3 l0_4 = some r) ∧ Aside0 (kq ≤ k) ∧ Aside0 (Kd.R (Kd.int .u8) 5 w' w.heap.size (fun _ => True) v3 x3_1) ∧ Aside0 (w'.heap[gb192]? = some (.cells #[.int .i64 a0_0, .int .i64 a0_1, .int .i64 a0_2, .int .i64 a0_3, (.slice (some ad205) l0_4.length c0_4)] 101 (0, 0))) ∧ Aside0 (Below w.heap.size w w'))
    case atStart => exact ⟨(t206), (0), (by first | rfl | (simp; done) | (simp [*]; done) | exact congrArg Value.bool (ne_empty _) | exact congrArg Value.bool (eq_empty _)), H', ⟨Nat.le_refl _⟩, ⟨by (with_reducible repeat (first | apply Kd.R_alloc | apply Kd.R_drewN | apply Kd.R_drew)); exact HO208.out⟩, ⟨by (with_reducible repeat (first | refine blk_drewN ?_ _ | refine blk_drew ?_ | refine blk_alloc ?_ _)); exact BK192.out⟩, ⟨by repeat (first | (with_reducible first | exact HB.out | apply below_alloc | apply pw_below_drewN | apply below_drew1 | refine below_set ?_ GE192.out) | exact HB.out)⟩⟩
    case round =>
      clear H'
      try clear p2
      try clear q2
      try clear hx2
      try clear qi2
      try clear c3
      try clear c6
      try clear c6b0
      try clear c6b1
      try clear c8
      try clear p20
      try clear q20
      try clear hx20
      try clear qi20
      try clear hcz11_0
      try clear hcz11_1
      try clear hcz11_2
      try clear hcz11_3
      try clear hcz11_4
      try clear hcz14_0
      try clear hcz14_1
      try clear hcz14_2
      try clear hcz14_3
      try clear hcz14_4
      try clear hcz17_0
      try clear hcz17_1
      try clear hcz17_2
      try clear hcz17_3
      try clear hcz17_4
      try clear hcz20_0
      try clear hcz20_1
      try clear hcz20_2
      try clear hcz20_3
      try clear hcz20_4
      try clear hcz9_0
      try clear hcz9_1
      try clear hcz9_2
      try clear hcz9_3
      try clear hcz9_4
      try clear hfz11_0
      try clear hfz11_1
      try clear hfz11_2
      try clear hfz11_3
      try clear hfz11_4
      try clear hfz14_0
      try clear hfz14_1
      try clear hfz14_2
      try clear hfz14_3
      try clear hfz14_4
      try clear hfz17_0
      try clear hfz17_1
      try clear hfz17_2
      try clear hfz17_3
      try clear hfz17_4
      try clear hfz20_0
      try clear hfz20_1
      try clear hfz20_2
      try clear hfz20_3
      try clear hfz20_4
      try clear hfz9_0
      try clear hfz9_1
      try clear hfz9_2
      try clear hfz9_3
      try clear hfz9_4
      try clear hx205_0
      try clear hx205_1
      try clear hx205_2
      try clear hx205_3
      try clear hx205_4
      try clear hx205_5
      try clear p205
      try clear q205
      obtain ⟨x3_1, x4_1, rfl, HA, HK1, HO_3, BK192, HB⟩ := hrel
      cases gk with
      | zero => exact absurd HA.out (by first | (intro h_; exact nomatch (show (none : Option _) = some r from h_)) | simp [bollardref12_body.l0])
      | succ k1 =>
        have H := HA.out
        clear HA
        simp only [bollardref12_body.l0] at H
        by_cases c23 : x4_1 < (l0_4.length : Int)
        · rw [if_pos c23] at H
          have c23b0 : decide (x4_1 < (l0_4.length : Int)) = true := decide_eq_true c23
          clear c23
          by_cases c24 : 0 ≤ x4_1
          · rw [if_pos c24] at H
            have c24b0 : decide (0 ≤ x4_1) = true := decide_eq_true c24
            clear c24
            by_cases c25 : 0 < (l0_4.length : Int)
            · rw [if_pos c25] at H
              have c25b0 : decide (0 < (l0_4.length : Int)) = true := decide_eq_true c25
              have c25b1 : decide (0 < l0_4.length) = true := decide_eq_true (by omega)
              clear c25
              replace H := Option.bind_eq_some_iff.mp H
              obtain ⟨⟨t211, t214⟩, A260, H⟩ := H
              replace H : (if x3_1.length + t211.length < 140737488355328 then (bollardref12_body.l0 k1 (x3_1 ++ t211) (wrap64 (x4_1 + 1)) a0_0 a0_1 a0_2 a0_3 l0_4) else (none)) = some r := H
              have A26 := Aside0.mk A260
              clear A260
              by_cases c27 : x3_1.length + t211.length < 140737488355328
              · rw [if_pos c27] at H
                have LMc27 := Aside0.mk c27
                clear c27
                obtain ⟨y215, hy215⟩ : ∃ y_ : List Int, y_ = (x3_1 ++ t211) := ⟨_, rfl⟩
                replace H : (bollardref12_body.l0 k1 y215 (wrap64 (x4_1 + 1)) a0_0 a0_1 a0_2 a0_3 l0_4) = some r := by first | (rw [hy215]; with_reducible exact H) | (have H2_ := (Option.bind_some _ _).symm.trans H; rw [hy215]; with_reducible exact H2_) | (have H2_ := (Option.bind_some _ _).symm.trans H; with_reducible exact H2_) | with_reducible exact H | (rw [hy215]; exact H) | exact H
                have Ny215 := Aside0.mk hy215
                clear hy215
                have H' := Aside0.mk H
                clear H
                have hcz28_0 : wr.cell? ⟨gb192, 0, none⟩ = some (.int .i64 a0_0) := (blk_cell BK192.out 0).trans rfl
                have hcz28_1 : wr.cell? ⟨gb192, 1, none⟩ = some (.int .i64 a0_1) := (blk_cell BK192.out 1).trans rfl
                have hcz28_2 : wr.cell? ⟨gb192, 2, none⟩ = some (.int .i64 a0_2) := (blk_cell BK192.out 2).trans rfl
                have hcz28_3 : wr.cell? ⟨gb192, 3, none⟩ = some (.int .i64 a0_3) := (blk_cell BK192.out 3).trans rfl
                have hcz28_4 : wr.cell? ⟨gb192, 4, none⟩ = some (.slice (some ad205) l0_4.length c0_4) := (blk_cell BK192.out 4).trans rfl
                have hfz28_0 := blk_frozen BK192.out 0
                have hfz28_1 := blk_frozen BK192.out 1
                have hfz28_2 := blk_frozen BK192.out 2
                have hfz28_3 := blk_frozen BK192.out 3
                have hfz28_4 := blk_frozen BK192.out 4
                try go_wp2
                have n0_ := Aside0.mk (Kd.R_drew HO_3.out)
                have n1_ := Aside0.mk (blk_drew BK192.out)
                have n2_ := Aside0.mk (below_drew1 HB.out)
                clear HO_3
                clear BK192
                clear HB
                have HO_3 := n0_
                have BK192 := n1_
                have HB := n2_
                clear n0_ n1_ n2_
                have p209 : 0 ≤ (x4_1 : Int) := of_decide_eq_true (by first | (with_reducible assumption) | assumption)
                have q209 : x4_1 < (l0_4.length : Int) := of_decide_eq_true (by first | (with_reducible assumption) | assumption)
                obtain ⟨ad209, e209, hx209_0, hx209_1, hx209_2, hx209_3, hx209_4, hx209_5⟩ := at_T98 HR0_4.out x4_1 p209 q209
                have hw209_5 := hx209_5
                have hw209_4 := hx209_4
                have hw209_3 := hx209_3
                have hw209_2 := hx209_2
                have hw209_1 := hx209_1
                have hw209_0 := hx209_0
                obtain rfl : ad205 = ad209 := (by injection e209)
                replace hx209_0 := (HB.out.cell (World.block_lt_of_cell? w _ hx209_0)).trans hx209_0
                replace hx209_1 := (HB.out.cell (World.block_lt_of_cell? w _ hx209_1)).trans hx209_1
                replace hx209_2 := (HB.out.cell (World.block_lt_of_cell? w _ hx209_2)).trans hx209_2
                replace hx209_3 := (HB.out.cell (World.block_lt_of_cell? w _ hx209_3)).trans hx209_3
                replace hx209_4 := (HB.out.cell (World.block_lt_of_cell? w _ hx209_4)).trans hx209_4
                replace hx209_5 := (HB.out.cell (World.block_lt_of_cell? w _ hx209_5)).trans hx209_5
                replace p209 := eq_true p209
                replace q209 := eq_true q209
                have p210 : 0 ≤ (0 : Int) := (by omega)
                have q210 : 0 < (l0_4.length : Int) := of_decide_eq_true (by first | (with_reducible assumption) | assumption)
                obtain ⟨ad210, e210, hx210_0, hx210_1, hx210_2, hx210_3, hx210_4, hx210_5⟩ := at_T98 HR0_4.out 0 p210 q210
                have hw210_5 := hx210_5
                (try rw [show ((0 : Int)).toNat = 0 from rfl] at hw210_5)
                (try rw [show 0 * 6 = 0 from rfl] at hw210_5)
                (try rw [Addr.add_zero'] at hw210_5)
                have hw210_4 := hx210_4
                (try rw [show ((0 : Int)).toNat = 0 from rfl] at hw210_4)
                (try rw [show 0 * 6 = 0 from rfl] at hw210_4)
                (try rw [Addr.add_zero'] at hw210_4)
                have hw210_3 := hx210_3
                (try rw [show ((0 : Int)).toNat = 0 from rfl] at hw210_3)
                (try rw [show 0 * 6 = 0 from rfl] at hw210_3)
                (try rw [Addr.add_zero'] at hw210_3)
                have hw210_2 := hx210_2
                (try rw [show ((0 : Int)).toNat = 0 from rfl] at hw210_2)
                (try rw [show 0 * 6 = 0 from rfl] at hw210_2)
                (try rw [Addr.add_zero'] at hw210_2)
                have hw210_1 := hx210_1
                (try rw [show ((0 : Int)).toNat = 0 from rfl] at hw210_1)
                (try rw [show 0 * 6 = 0 from rfl] at hw210_1)
                (try rw [Addr.add_zero'] at hw210_1)
                have hw210_0 := hx210_0
                (try rw [show ((0 : Int)).toNat = 0 from rfl] at hw210_0)
                (try rw [show 0 * 6 = 0 from rfl] at hw210_0)
                (try rw [Addr.add_zero'] at hw210_0)
                obtain rfl : ad205 = ad210 := (by injection e210)
                have qi210 : (0 < l0_4.length) = True := eq_true (by omega)
                (try rw [show ((0 : Int)).toNat = 0 from rfl] at hx210_0)
                (try rw [show 0 * 6 = 0 from rfl] at hx210_0)
                (try rw [Addr.add_zero'] at hx210_0)
                (try rw [show ((0 : Int)).toNat = 0 from rfl] at hx210_1)
                (try rw [show 0 * 6 = 0 from rfl] at hx210_1)
                (try rw [Addr.add_zero'] at hx210_1)
                (try rw [show ((0 : Int)).toNat = 0 from rfl] at hx210_2)
                (try rw [show 0 * 6 = 0 from rfl] at hx210_2)
                (try rw [Addr.add_zero'] at hx210_2)
                (try rw [show ((0 : Int)).toNat = 0 from rfl] at hx210_3)
                (try rw [show 0 * 6 = 0 from rfl] at hx210_3)
                (try rw [Addr.add_zero'] at hx210_3)
                (try rw [show ((0 : Int)).toNat = 0 from rfl] at hx210_4)
                (try rw [show 0 * 6 = 0 from rfl] at hx210_4)
                (try rw [Addr.add_zero'] at hx210_4)
                (try rw [show ((0 : Int)).toNat = 0 from rfl] at hx210_5)
                (try rw [show 0 * 6 = 0 from rfl] at hx210_5)
                (try rw [Addr.add_zero'] at hx210_5)
                replace hx210_0 := (HB.out.cell (World.block_lt_of_cell? w _ hx210_0)).trans hx210_0
                replace hx210_1 := (HB.out.cell (World.block_lt_of_cell? w _ hx210_1)).trans hx210_1
                replace hx210_2 := (HB.out.cell (World.block_lt_of_cell? w _ hx210_2)).trans hx210_2
                replace hx210_3 := (HB.out.cell (World.block_lt_of_cell? w _ hx210_3)).trans hx210_3
                replace hx210_4 := (HB.out.cell (World.block_lt_of_cell? w _ hx210_4)).trans hx210_4
                replace hx210_5 := (HB.out.cell (World.block_lt_of_cell? w _ hx210_5)).trans hx210_5
                replace p210 := eq_true p210
                replace q210 := eq_true q210
                refine start_ (n := 16) (S := fun w' => w'.cell? ⟨gb192, 0, none⟩ = some (.int .i64 a0_0) ∧ w'.cell? ⟨gb192, 1, none⟩ = some (.int .i64 a0_1) ∧ w'.cell? ⟨gb192, 2, none⟩ = some (.int .i64 a0_2) ∧ w'.cell? ⟨gb192, 3, none⟩ = some (.int .i64 a0_3) ∧ w'.cell? ⟨gb192, 4, none⟩ = some (.slice (some ad205) l0_4.length c0_4) ∧ w'.cell? (ad205.add ((x4_1).toNat * 6)) = some (.bool ((rd_T98 l0_4 x4_1).f0)) ∧ w'.cell? ⟨(ad205.add ((x4_1).toNat * 6)).block, (ad205.add ((x4_1).toNat * 6)).off + 1, none⟩ = some (.string ((rd_T98 l0_4 x4_1).f1)) ∧ w'.cell? ⟨(ad205.add ((x4_1).toNat * 6)).block, (ad205.add ((x4_1).toNat * 6)).off + 2, none⟩ = some (.bool ((rd_T98 l0_4 x4_1).f2)) ∧ w'.cell? ⟨(ad205.add ((x4_1).toNat * 6)).block, (ad205.add ((x4_1).toNat * 6)).off + 3, none⟩ = some (.string ((rd_T98 l0_4 x4_1).f3)) ∧ w'.cell? ⟨(ad205.add ((x4_1).toNat * 6)).block, (ad205.add ((x4_1).toNat * 6)).off + 4, none⟩ = some (.int .i64 ((rd_T98 l0_4 x4_1).f4)) ∧ w'.cell? ⟨(ad205.add ((x4_1).toNat * 6)).block, (ad205.add ((x4_1).toNat * 6)).off + 5, none⟩ = some (.int .i64 ((rd_T98 l0_4 x4_1).f5)) ∧ w'.cell? ad205 = some (.bool ((rd_T98 l0_4 0).f0)) ∧ w'.cell? ⟨ad205.block, ad205.off + 1, none⟩ = some (.string ((rd_T98 l0_4 0).f1)) ∧ w'.cell? ⟨ad205.block, ad205.off + 2, none⟩ = some (.bool ((rd_T98 l0_4 0).f2)) ∧ w'.cell? ⟨ad205.block, ad205.off + 3, none⟩ = some (.string ((rd_T98 l0_4 0).f3)) ∧ w'.cell? ⟨ad205.block, ad205.off + 4, none⟩ = some (.int .i64 ((rd_T98 l0_4 0).f4)) ∧ w'.cell? ⟨ad205.block, ad205.off + 5, none⟩ = some (.int .i64 ((rd_T98 l0_4 0).f5))) (ds := []) #[false, false, false, false, false, false, false, false, false, false, false, false, false, false, false, false] (by kernel_rfl) rfl rfl ⟨(blk_cell BK192.out 0).trans rfl, (blk_cell BK192.out 1).trans rfl, (blk_cell BK192.out 2).trans rfl, (blk_cell BK192.out 3).trans rfl, (blk_cell BK192.out 4).trans rfl, ((HB.out.cell (World.block_lt_of_cell? w _ hw209_0)).trans hw209_0), ((HB.out.cell (World.block_lt_of_cell? w _ hw209_1)).trans hw209_1), ((HB.out.cell (World.block_lt_of_cell? w _ hw209_2)).trans hw209_2), ((HB.out.cell (World.block_lt_of_cell? w _ hw209_3)).trans hw209_3), ((HB.out.cell (World.block_lt_of_cell? w _ hw209_4)).trans hw209_4), ((HB.out.cell (World.block_lt_of_cell? w _ hw209_5)).trans hw209_5), ((HB.out.cell (World.block_lt_of_cell? w _ hw210_0)).trans hw210_0), ((HB.out.cell (World.block_lt_of_cell? w _ hw210_1)).trans hw210_1), ((HB.out.cell (World.block_lt_of_cell? w _ hw210_2)).trans hw210_2), ((HB.out.cell (World.block_lt_of_cell? w _ hw210_3)).trans hw210_3), ((HB.out.cell (World.block_lt_of_cell? w _ hw210_4)).trans hw210_4), ((HB.out.cell (World.block_lt_of_cell? w _ hw210_5)).trans hw210_5)⟩ (fun hHeld => ?_); refine with_tabW bollardref12_body.tab9 bollardref12_body.bits9 (fun HT_ HW_ => ?_)
                generalize wr.drew = w29 at HO_3 BK192 HB hx209_0 hx209_1 hx209_2 hx209_3 hx209_4 hx209_5 hx210_0 hx210_1 hx210_2 hx210_3 hx210_4 hx210_5 hHeld ⊢
                refine pure_ (i := 0) (N := some 43) (v := ?_) (a' := ?_) #[true, false, false, false, false, false, false, false, false, false, false, false, false, false, false, false] rfl rfl (any_of HT_.out (by kernel_rfl)) (fun _ _ _ h => h) (Or.inl ⟨by rfl, ?_⟩) ?_ ?_
                rotate_left
                · intro w'
                  go_simp
                  with_reducible rfl
                rotate_left
                · simp only [Act.put, List.setIfInBounds_toArray, List.set_cons_zero, List.set_cons_succ, i64_w, i32_w]
                  rfl
                refine pure_ (i := 2) (N := some 45) (v := ?_) (a' := ?_) #[true, false, true, false, false, false, false, false, false, false, false, false, false, false, false, false] rfl rfl (any_of HT_.out (by kernel_rfl)) (fun _ _ _ h => h) (Or.inl ⟨by rfl, ?_⟩) ?_ ?_
                rotate_left
                · intro w'
                  go_simp
                  with_reducible rfl
                rotate_left
                · simp only [Act.put, List.setIfInBounds_toArray, List.set_cons_zero, List.set_cons_succ, i64_w, i32_w]
                  rfl
                refine pure_ (i := 5) (N := some 48) (v := ?_) (a' := ?_) #[true, false, true, false, false, true, false, false, false, false, false, false, false, false, false, false] rfl rfl (any_of HT_.out (by kernel_rfl)) (fun _ _ _ h => h) (Or.inl ⟨by rfl, ?_⟩) ?_ ?_
                rotate_left
                · intro w'
                  go_simp
                  with_reducible rfl
                rotate_left
                · simp only [Act.put, List.setIfInBounds_toArray, List.set_cons_zero, List.set_cons_succ, i64_w, i32_w]
                  rfl
                refine take_ (i := 1) (N := some 44) (v := ?_) (a' := ?_) #[true, true, true, false, false, true, false, false, false, false, false, false, false, false, false, false] rfl rfl (take_ofW HT_.out HW_.out (by kernel_rfl)) (fun _ _ _ h => h) (Or.inl ⟨by rfl, ?_⟩) hHeld ?_ ?_
                rotate_left
                · rintro w' ⟨s0, s1, s2, s3, s4, s5, s6, s7, s8, s9, s10, s11, s12, s13, s14, s15, s16⟩
                  go_simp
                  with_reducible rfl
                rotate_left
                · simp only [Act.put, List.setIfInBounds_toArray, List.set_cons_zero, List.set_cons_succ, i64_w, i32_w]
                  rfl
                refine pure_ (i := 3) (N := some 46) (v := ?_) (a' := ?_) #[true, true, true, true, false, true, false, false, false, false, false, false, false, false, false, false] rfl rfl (any_of HT_.out (by kernel_rfl)) (fun _ _ _ h => h) (Or.inl ⟨by rfl, ?_⟩) ?_ ?_
                rotate_left
                · intro w'
                  go_simp
                  with_reducible rfl
                rotate_left
                · simp only [Act.put, List.setIfInBounds_toArray, List.set_cons_zero, List.set_cons_succ, i64_w, i32_w]
                  rfl
                refine take_ (i := 4) (N := some 47) (v := ?_) (a' := ?_) #[true, true, true, true, true, true, false, false, false, false, false, false, false, false, false, false] rfl rfl (take_ofW HT_.out HW_.out (by kernel_rfl)) (fun _ _ _ h => h) (Or.inl ⟨by rfl, ?_⟩) hHeld ?_ ?_
                rotate_left
                · rintro w' ⟨s0, s1, s2, s3, s4, s5, s6, s7, s8, s9, s10, s11, s12, s13, s14, s15, s16⟩
                  go_simp
                  with_reducible rfl
                rotate_left
                · simp only [Act.put, List.setIfInBounds_toArray, List.set_cons_zero, List.set_cons_succ, i64_w, i32_w]
                  rfl
                refine take_ (i := 6) (N := some 49) (v := ?_) (a' := ?_) #[true, true, true, true, true, true, true, false, false, false, false, false, false, false, false, false] rfl rfl (take_ofW HT_.out HW_.out (by kernel_rfl)) (fun _ _ _ h => h) (Or.inl ⟨by rfl, ?_⟩) hHeld ?_ ?_
                rotate_left
                · rintro w' ⟨s0, s1, s2, s3, s4, s5, s6, s7, s8, s9, s10, s11, s12, s13, s14, s15, s16⟩
                  go_simp
                  with_reducible rfl
                rotate_left
                · simp only [Act.put, List.setIfInBounds_toArray, List.set_cons_zero, List.set_cons_succ, i64_w, i32_w]
                  rfl
                refine pure_ (i := 7) (N := some 50) (v := ?_) (a' := ?_) #[true, true, true, true, true, true, true, true, false, false, false, false, false, false, false, false] rfl rfl (any_of HT_.out (by kernel_rfl)) (fun _ _ _ h => h) (Or.inl ⟨by rfl, ?_⟩) ?_ ?_
                rotate_left
                · intro w'
                  go_simp
                  with_reducible rfl
                rotate_left
                · simp only [Act.put, List.setIfInBounds_toArray, List.set_cons_zero, List.set_cons_succ, i64_w, i32_w]
                  rfl
                refine pure_ (i := 8) (N := some 51) (v := ?_) (a' := ?_) #[true, true, true, true, true, true, true, true, true, false, false, false, false, false, false, false] rfl rfl (any_of HT_.out (by kernel_rfl)) (fun _ _ _ h => h) (Or.inl ⟨by rfl, ?_⟩) ?_ ?_
                rotate_left
                · intro w'
                  go_simp
                  with_reducible rfl
                rotate_left
                · simp only [Act.put, List.setIfInBounds_toArray, List.set_cons_zero, List.set_cons_succ, i64_w, i32_w]
                  rfl
                refine take_ (i := 9) (N := some 52) (v := ?_) (a' := ?_) #[true, true, true, true, true, true, true, true, true, true, false, false, false, false, false, false] rfl rfl (take_ofW HT_.out HW_.out (by kernel_rfl)) (fun _ _ _ h => h) (Or.inl ⟨by rfl, ?_⟩) hHeld ?_ ?_
                rotate_left
                · rintro w' ⟨s0, s1, s2, s3, s4, s5, s6, s7, s8, s9, s10, s11, s12, s13, s14, s15, s16⟩
                  go_simp
                  with_reducible rfl
                rotate_left
                · simp only [Act.put, List.setIfInBounds_toArray, List.set_cons_zero, List.set_cons_succ, i64_w, i32_w]
                  rfl
                refine one_ (i := 10) (N := some 53) #[true, true, true, true, true, true, true, true, true, true, true, false, false, false, false, false] rfl rfl (one_of HT_.out (by kernel_rfl)) (by decide) (fun K hK => ?_)
                refine goes_ Try.func88 (by kernel_rfl) rfl #[.agg #[.bool ((rd_T98 l0_4 x4_1).f0), .string ((rd_T98 l0_4 x4_1).f1), .bool ((rd_T98 l0_4 x4_1).f2), .string ((rd_T98 l0_4 x4_1).f3), .int .i64 ((rd_T98 l0_4 x4_1).f4), .int .i64 ((rd_T98 l0_4 x4_1).f5)], .int .i64 ((rd_T98 l0_4 0).f4)] (by rfl) rfl rfl (by (try simp only [List.map_toArray, List.map_cons, List.map_nil]); first | done | rfl | (simp only [List.length_drop, List.length_take]; rfl)) ?_
                with_reducible refine (bollardref12_Encode.calls k1 ((rd_T98 l0_4 x4_1).f0) ((rd_T98 l0_4 x4_1).f1) ((rd_T98 l0_4 x4_1).f2) ((rd_T98 l0_4 x4_1).f3) ((rd_T98 l0_4 x4_1).f4) ((rd_T98 l0_4 x4_1).f5) ((rd_T98 l0_4 0).f4) t211 t214 _ A26.out).mono ?_
                rintro e w30 ⟨v212, rfl, ho0, hb⟩
                refine ⟨_, rfl, ?_⟩
                have n0_ := Aside0.mk (Kd.R_elder' (by (with_reducible repeat (first | apply Kd.R_alloc | apply Kd.R_drewN | apply Kd.R_drew)); exact HO_3.out) (Kd.R_base ho0) hb)
                have n1_ := Aside0.mk (Kd.R_lower (Kd.R_new' ho0 (Kd.R_lt (by (with_reducible repeat (first | apply Kd.R_alloc | apply Kd.R_drewN | apply Kd.R_drew)); exact HO_3.out))) (below_size (by repeat (first | (with_reducible first | exact HB.out | apply below_alloc | apply pw_below_drewN | apply below_drew1 | refine below_set ?_ GE192.out) | exact HB.out))))
                have n2_ := Aside0.mk (blk_below (g := gb192) (o := .cells #[.int .i64 a0_0, .int .i64 a0_1, .int .i64 a0_2, .int .i64 a0_3, .slice (some ad205) l0_4.length c0_4] 101 (0, 0)) (by (with_reducible repeat (first | refine blk_drewN ?_ _ | refine blk_drew ?_ | refine blk_alloc ?_ _)); exact BK192.out) hb)
                have n3_ := Aside0.mk (below_step (by repeat (first | (with_reducible first | exact HB.out | apply below_alloc | apply pw_below_drewN | apply below_drew1 | refine below_set ?_ GE192.out) | exact HB.out)) hb)
                clear HO_3
                clear BK192
                clear HB
                have HO_3 := n0_
                have HO213 := n1_
                have BK192 := n2_
                have HB := n3_
                clear n0_ n1_ n2_ n3_
                (try clear hb)
                (try clear hb2)
                (try clear hk)
                (try clear hi)
                (try clear ho0)
                refine hK.out _ _ ⟨(blk_cell BK192.out 0).trans rfl, (blk_cell BK192.out 1).trans rfl, (blk_cell BK192.out 2).trans rfl, (blk_cell BK192.out 3).trans rfl, (blk_cell BK192.out 4).trans rfl, ((HB.out.cell (World.block_lt_of_cell? w _ hw209_0)).trans hw209_0), ((HB.out.cell (World.block_lt_of_cell? w _ hw209_1)).trans hw209_1), ((HB.out.cell (World.block_lt_of_cell? w _ hw209_2)).trans hw209_2), ((HB.out.cell (World.block_lt_of_cell? w _ hw209_3)).trans hw209_3), ((HB.out.cell (World.block_lt_of_cell? w _ hw209_4)).trans hw209_4), ((HB.out.cell (World.block_lt_of_cell? w _ hw209_5)).trans hw209_5), ((HB.out.cell (World.block_lt_of_cell? w _ hw210_0)).trans hw210_0), ((HB.out.cell (World.block_lt_of_cell? w _ hw210_1)).trans hw210_1), ((HB.out.cell (World.block_lt_of_cell? w _ hw210_2)).trans hw210_2), ((HB.out.cell (World.block_lt_of_cell? w _ hw210_3)).trans hw210_3), ((HB.out.cell (World.block_lt_of_cell? w _ hw210_4)).trans hw210_4), ((HB.out.cell (World.block_lt_of_cell? w _ hw210_5)).trans hw210_5)⟩ (fun hHeld => ?_)
                clear hK K
                refine norm_ (a' := ?_) ?_ ?_
                rotate_left
                · show Act.put _ (some 53) _ = _
                  simp only [Act.put, List.setIfInBounds_toArray, List.set_cons_zero, List.set_cons_succ, i64_w, i32_w]
                  rfl
                refine pure_ (i := 11) (N := some 42) (v := ?_) (a' := ?_) #[true, true, true, true, true, true, true, true, true, true, true, true, false, false, false, false] rfl rfl (any_of HT_.out (by kernel_rfl)) (fun _ _ _ h => h) (Or.inl ⟨by rfl, ?_⟩) ?_ ?_
                rotate_left
                · intro w'
                  go_simp
                  with_reducible rfl
                rotate_left
                · simp only [Act.put, List.setIfInBounds_toArray, List.set_cons_zero, List.set_cons_succ, i64_w, i32_w]
                  rfl
                refine pure_ (i := 12) (N := some 54) (v := ?_) (a' := ?_) #[true, true, true, true, true, true, true, true, true, true, true, true, true, false, false, false] rfl rfl (any_of HT_.out (by kernel_rfl)) (fun _ _ _ h => h) (Or.inl ⟨by rfl, ?_⟩) ?_ ?_
                rotate_left
                · intro w'
                  go_simp
                  with_reducible rfl
                rotate_left
                · simp only [Act.put, List.setIfInBounds_toArray, List.set_cons_zero, List.set_cons_succ, i64_w, i32_w]
                  rfl
                refine pure_ (i := 13) (N := some 55) (v := ?_) (a' := ?_) #[true, true, true, true, true, true, true, true, true, true, true, true, true, true, false, false] rfl rfl (any_of HT_.out (by kernel_rfl)) (fun _ _ _ h => h) (Or.inl ⟨by rfl, ?_⟩) ?_ ?_
                rotate_left
                · intro w'
                  go_simp
                  with_reducible rfl
                rotate_left
                · simp only [Act.put, List.setIfInBounds_toArray, List.set_cons_zero, List.set_cons_succ, i64_w, i32_w]
                  rfl
                refine pure_ (i := 14) (N := some 5) (v := ?_) (a' := ?_) #[true, true, true, true, true, true, true, true, true, true, true, true, true, true, true, false] rfl rfl (any_of HT_.out (by kernel_rfl)) (fun _ _ _ h => h) (Or.inl ⟨by rfl, ?_⟩) ?_ ?_
                rotate_left
                · intro w'
                  go_simp
                  with_reducible rfl
                rotate_left
                · simp only [Act.put, List.setIfInBounds_toArray, List.set_cons_zero, List.set_cons_succ, i64_w, i32_w]
                  rfl
                refine pure_ (i := 15) (N := some 6) (v := ?_) (a' := ?_) #[true, true, true, true, true, true, true, true, true, true, true, true, true, true, true, true] rfl rfl (any_of HT_.out (by kernel_rfl)) (fun _ _ _ h => h) (Or.inl ⟨by rfl, ?_⟩) ?_ ?_
                rotate_left
                · intro w'
                  go_simp
                  with_reducible rfl
                rotate_left
                · simp only [Act.put, List.setIfInBounds_toArray, List.set_cons_zero, List.set_cons_succ, i64_w, i32_w]
                  rfl
                refine done_ (done_of HT_.out (by kernel_rfl)) ?_
                obtain ⟨Ao32, co32, eo32⟩ := Kd.R_slice HO213.out
                subst eo32
                try go_wp2_with (first | ((with_reducible refine gate_builtin (b := .append) (xs := #[.tmp 56, .tmp 57]) rfl ?_); at_builtin; refine Kd.R_append_rows (Kd.int .u8) (w0 := w) w.heap.size rfl (.tmp 56) (.tmp 57) 29 5 (.int .u8 0) 1 rfl Try.underlying29 info5 rfl (by decide) (by omega) u3 x3_1 t211 _ _ _ (fun k_ => some k_ ≠ (.slice Ao32 t211.length co32 : Value).ownBlock) (fun _ => False) rfl rfl ?aO ?aR (fun _ _ h => h) (fun _ h => h.elim) ?aF ?aB ?aS ?aL ?_; (case aR => repeat (first | exact (Kd.R_reads' HO213.out).2.2 | (with_reducible refine Kd.C_alloc ?_ _) | (with_reducible refine Kd.C_drewN ?_ _) | (with_reducible refine Kd.C_drew ?_))); (case aB => exact (by repeat (first | (with_reducible first | exact HB.out | apply below_alloc | apply pw_below_drewN | apply below_drew1 | refine below_set ?_ GE192.out) | exact HB.out))); (case aF => exact (fun k_ hk => Kd.fresh' (Kd.R_lt (by (with_reducible repeat (first | apply Kd.R_alloc | apply Kd.R_drewN | apply Kd.R_drew)); exact HO213.out)) k_ hk)); (case aO => exact (by (with_reducible repeat (first | apply Kd.R_alloc | apply Kd.R_drewN | apply Kd.R_drew)); exact Kd.R_mono HO_3.out (fun _ hk => hk.2))); (case aS => exact (below_size (by repeat (first | (with_reducible first | exact HB.out | apply below_alloc | apply pw_below_drewN | apply below_drew1 | refine below_set ?_ GE192.out) | exact HB.out)))); (case aL => have := LMc27.out; omega); intro v216 w31 ho hb hg hat; rw [← Ny215.out] at ho; have n0_ := Aside0.mk (blk_grown (g := gb192) (o := .cells #[.int .i64 a0_0, .int .i64 a0_1, .int .i64 a0_2, .int .i64 a0_3, .slice (some ad205) l0_4.length c0_4] 101 (0, 0)) (by (with_reducible repeat (first | refine blk_drewN ?_ _ | refine blk_drew ?_ | refine blk_alloc ?_ _)); exact BK192.out) hg (Kd.R_ne HO_3.out BK192.out (by decide))); have n1_ := Aside0.mk (Kd.R_after (ok := (fun _ => True)) (by (with_reducible repeat (first | apply Kd.R_alloc | apply Kd.R_drewN | apply Kd.R_drew)); exact HO213.out) hg hat); have n2_ := Aside0.mk (hb); have n3_ := Aside0.mk (ho); clear BK192; clear HO213; clear HB; clear HO_3; have BK192 := n0_; have HO213 := n1_; have HB := n2_; have HO217 := n3_; clear n0_ n1_ n2_ n3_; clear ho hb hg hat))
                go_roundg k1
                case measure => have := HK1.out; omega
                case rel => exact ⟨(y215), (wrap64 (x4_1 + 1)), (by first | rfl | (simp; done) | (simp [*]; done) | exact congrArg Value.bool (ne_empty _) | exact congrArg Value.bool (eq_empty _)), H', ⟨by have := HK1.out; omega⟩, ⟨by (with_reducible repeat (first | apply Kd.R_alloc | apply Kd.R_drewN | apply Kd.R_drew)); exact Kd.R_mono HO217.out (fun _ hk => trivial)⟩, ⟨by (with_reducible repeat (first | refine blk_drewN ?_ _ | refine blk_drew ?_ | refine blk_alloc ?_ _)); exact BK192.out⟩, ⟨by repeat (first | (with_reducible first | exact HB.out | apply below_alloc | apply pw_below_drewN | apply below_drew1 | refine below_set ?_ GE192.out) | exact HB.out)⟩⟩
              · rw [if_neg c27] at H
                exact absurd H (by simp)
            · rw [if_neg c25] at H
              exact absurd H (by simp)
          · rw [if_neg c24] at H
            exact absurd H (by simp)
        · rw [if_neg c23] at H
          have c23b0 : decide (x4_1 < (l0_4.length : Int)) = false := decide_eq_false c23
          clear c23
          obtain rfl := Option.some.inj H
          have hcz33_0 : wr.cell? ⟨gb192, 0, none⟩ = some (.int .i64 a0_0) := (blk_cell BK192.out 0).trans rfl
          have hcz33_1 : wr.cell? ⟨gb192, 1, none⟩ = some (.int .i64 a0_1) := (blk_cell BK192.out 1).trans rfl
          have hcz33_2 : wr.cell? ⟨gb192, 2, none⟩ = some (.int .i64 a0_2) := (blk_cell BK192.out 2).trans rfl
          have hcz33_3 : wr.cell? ⟨gb192, 3, none⟩ = some (.int .i64 a0_3) := (blk_cell BK192.out 3).trans rfl
          have hcz33_4 : wr.cell? ⟨gb192, 4, none⟩ = some (.slice (some ad205) l0_4.length c0_4) := (blk_cell BK192.out 4).trans rfl
          have hfz33_0 := blk_frozen BK192.out 0
          have hfz33_1 := blk_frozen BK192.out 1
          have hfz33_2 := blk_frozen BK192.out 2
          have hfz33_3 := blk_frozen BK192.out 3
          have hfz33_4 := blk_frozen BK192.out 4
          go_wp2
          go_ret
          exact ⟨_, by first | rfl | (simp [errW_none, errW_some] <;> rfl) | (simp [*, errW_none, errW_some] <;> rfl), by (with_reducible repeat (first | apply Kd.R_alloc | apply Kd.R_drewN | apply Kd.R_drew)); exact HO_3.out, by repeat (first | (with_reducible first | exact HB.out | apply below_alloc | apply pw_below_drewN | apply below_drew1 | refine below_set ?_ GE192.out) | exact HB.out)⟩
  · rw [if_neg c6] at H
    exact absurd H (by simp)

/-! ### bollardref12_CheckBatch -/
def cbEarly (b s p q : Int) (l : List S98) : Bool := decide (b < 0) || (decide (1125899906842624 < b) || (decide (s < 1) || (decide (100 < s) || (decide (p < 0) || (decide (q < 0) || decide (l.length = 0))))))
def cbOff (s : Int) : Int → List S98 → Bool
  | _, [] => true
  | last, x :: l => if x.f5 ≤ last then false else if s ≤ x.f5 then false else cbOff s x.f5 l
def chkR (x : S98) : Int := chkC x.f0 x.f1 x.f2 x.f3 x.f4 x.f5
def cbSum : Int → List S98 → Int × Int
  | n, [] => (0, n)
  | n, x :: l => if chkR x = 0 then cbSum (IntKind.i64.wrap (IntKind.i64.wrap (n + (x.f1.size : Int)) + (x.f3.size : Int))) l else (chkR x, 0)
def bollardref12_CheckBatch.f (k : Nat) (b s p q : Int) (l : List S98) : Option Int := if cbEarly b s p q l = true then some 1 else if cbOff s (-1) l = true then (if (cbSum 0 l).1 = 0 then (if 6000 < (cbSum 0 l).2 then some 2 else (bollardref12_body.f k b s p q l).bind fun x => if x.length ≤ 1000000000 then some (if 6000 < (x.length : Int) + 16 then 2 else 0) else none) else some (cbSum 0 l).1) else some 1
theorem bollardref12_CheckBatch.mono : ∀ a0 a1 a2 a3 a4 k, LeO (bollardref12_CheckBatch.f k a0 a1 a2 a3 a4) (bollardref12_CheckBatch.f (k + 1) a0 a1 a2 a3 a4) := by
  intro b s p q l k
  unfold bollardref12_CheckBatch.f
  exact LeO.ite (LeO.refl _) (LeO.ite (LeO.ite (LeO.ite (LeO.refl _) (LeO.bind (bollardref12_body.mono _ _ _ _ _ _) (fun _ => LeO.refl _))) (LeO.refl _)) (LeO.refl _))
theorem cb_drop {l : List S98} {i : Int} (h0 : 0 ≤ i) (h : i < (l.length : Int)) : l.drop i.toNat = rd_T98 l i :: l.drop (i + 1).toNat := by
  have e : (i + 1).toNat = i.toNat + 1 := by omega
  have hl : i.toNat < l.length := by omega
  rw [List.drop_eq_getElem_cons hl, e]
  congr 1
  unfold rd_T98
  rw [List.getD_eq_getElem?_getD, List.getElem?_eq_getElem hl]
  rfl
def CbSt (w W : World) (b s p q : Int) (A : Option Addr) (c : Nat) (l : List S98) : Prop := Below w.heap.size w W ∧ W.heap[w.heap.size]? = some (.cells #[.int .i64 b, .int .i64 s, .int .i64 p, .int .i64 q, .slice A l.length c] 101 (0, 0))
theorem CbSt.below {w W W2 : World} {b s p q : Int} {A : Option Addr} {c : Nat} {l : List S98} (h : CbSt w W b s p q A c l) (hb : Below W.heap.size W W2) : CbSt w W2 b s p q A c l := ⟨below_step h.1 hb, blk_below h.2 hb⟩
theorem CbSt.c {w W : World} {b s p q : Int} {A : Option Addr} {c : Nat} {l : List S98} (h : CbSt w W b s p q A c l) : W.cell? ⟨w.heap.size, 0, none⟩ = some (.int .i64 b) ∧ W.cell? ⟨w.heap.size, 1, none⟩ = some (.int .i64 s) ∧ W.cell? ⟨w.heap.size, 2, none⟩ = some (.int .i64 p) ∧ W.cell? ⟨w.heap.size, 3, none⟩ = some (.int .i64 q) ∧ W.cell? ⟨w.heap.size, 4, none⟩ = some (.slice A l.length c) :=
  ⟨(blk_cell h.2 0).trans rfl, (blk_cell h.2 1).trans rfl, (blk_cell h.2 2).trans rfl, (blk_cell h.2 3).trans rfl, (blk_cell h.2 4).trans rfl⟩
set_option maxHeartbeats 4000000 in
set_option maxRecDepth 100000 in
theorem bollardref12_CheckBatch.calls (k : Nat) (b s p q : Int) (A : Option Addr) (c : Nat) (l : List S98) (r : Int) (w : World) (hr : Kd.C k98 w A l.length l) (hc : l.length ≤ c) (h : bollardref12_CheckBatch.f k b s p q l = some r) :
    Calls Try.prog 80 #[.agg #[.int .i64 b, .int .i64 s, .int .i64 p, .int .i64 q, .slice A l.length c]] w fun e w' => e = .returned (.int .i64 r) ∧ Below w.heap.size w w' := by
  unfold bollardref12_CheckBatch.f at h
  have HR := Aside0.mk hr
  have HC := Aside0.mk hc
  have HLM := Aside0.mk hr.2.1
  have HH := Aside0.mk h
  obtain ⟨b1, hb1⟩ : ∃ x, x = cbEarly b s p q l := ⟨_, rfl⟩
  have HB1 := Aside0.mk hb1
  clear hr hc h hb1
  go_enter Try.func80, Try.ntmps80
  go_upto_region 1 with (fail)
  (try simp only [Act.put, List.setIfInBounds_toArray, List.set_cons_zero, List.set_cons_succ])
  have S0 := Aside0.mk (show CbSt w (w.alloc (.cells #[.int .i64 b, .int .i64 s, .int .i64 p, .int .i64 q, .slice A l.length c] 101)) b s p q A c l from ⟨below_alloc (Below.refl _ _) _, heap_alloc_new w _⟩)
  generalize w.alloc (.cells #[.int .i64 b, .int .i64 s, .int .i64 p, .int .i64 q, .slice A l.length c] 101) = W0 at S0 ⊢
  obtain ⟨y0, y1, y2, y3, y4⟩ := S0.out.c
  go_cut [42] (fun v42 wc => v42 = .bool b1 ∧ Aside0 (CbSt w wc b s p q A c l))
  case first =>
    by_cases h0 : l.length = 0
    case pos =>
      have g0 : ((l.length : Int) == 0) = true := by rw [h0]; rfl
      have H0 := Aside0.mk h0
      clear h0
      go_wp2
      all_goals
        go_meet
        case rel => exact ⟨congrArg Value.bool (by rw [HB1.out]; have h0 := H0.out; unfold cbEarly; first | (simp [*]; done) | (simp [*, Bool.or_assoc]; done)), S0⟩
    have g0 : ((l.length : Int) == 0) = false := by simpa using h0
    have H0 := Aside0.mk h0
    clear h0
    go_wp2
    all_goals
      go_meet
      case rel => exact ⟨congrArg Value.bool (by rw [HB1.out]; have h0 := H0.out; unfold cbEarly; first | (simp [*]; done) | (simp [*, Bool.or_assoc]; done)), S0⟩
  clear S0 y0 y1 y2 y3 y4
  obtain ⟨rfl, S0⟩ := hcut
  obtain ⟨y0, y1, y2, y3, y4⟩ := S0.out.c
  cases b1 with
  | true =>
    have H := HH.out
    rw [if_pos HB1.out.symm] at H
    obtain rfl := Option.some.inj H
    go_wp2
    go_ret
    exact ⟨rfl, S0.out.1⟩
  | false =>
    have H := HH.out
    rw [if_neg (by rw [← HB1.out]; simp)] at H
    have hn := HB1.out.symm
    unfold cbEarly at hn
    simp only [Bool.or_eq_false_iff, decide_eq_false_iff_not] at hn
    have hp : 0 < l.length := Nat.pos_of_ne_zero hn.2.2.2.2.2.2
    obtain ⟨ob, hob⟩ : ∃ x, x = cbOff s (-1) l := ⟨_, rfl⟩
    obtain ⟨es, hes⟩ : ∃ x, x = cbSum 0 l := ⟨_, rfl⟩
    rw [← hob, ← hes] at H
    have HH2 := Aside0.mk H
    have HOB := Aside0.mk hob.symm
    have HES := Aside0.mk hes.symm
    obtain ⟨ad, rfl, -⟩ := at_T98 HR.out 0 (by omega) (by omega)
    clear H HH HB1 hn hob hes hp
    go_wp2_with fail
    go_loopg [3, 4] (l.length + 1) (fun kq v3 v4 w' => ∃ (last i : Int), v3 = .int .i64 last ∧ v4 = .int .i64 i ∧ Aside0 (0 ≤ i ∧ i ≤ (l.length : Int) ∧ kq + i.toNat = l.length + 1) ∧ Aside0 (cbOff s last (l.drop i.toNat) = ob) ∧ Aside0 (CbSt w w' b s p q (some ad) c l))
    case atStart => exact ⟨-1, 0, rfl, rfl, ⟨by omega, by omega, by omega⟩, HOB, S0⟩
    case round =>
      clear HOB S0 y0 y1 y2 y3 y4
      obtain ⟨last, i, rfl, rfl, HI, HO, S1⟩ := hrel
      obtain ⟨y0, y1, y2, y3, y4⟩ := S1.out.c
      have b0 := HI.out.1
      have bm : i ≤ 9223372036854775806 ∨ i = (l.length : Int) := by have := HI.out; have := HLM.out; omega
      by_cases e1 : i < (l.length : Int)
      · have d1 : decide (i < (l.length : Int)) = true := decide_eq_true e1
        have p1 := eq_true e1
        have p0 := eq_true b0
        have bi : i < 9223372036854775807 := by have := HLM.out; omega
        have HD := HO.out
        rw [cb_drop b0 e1] at HD
        unfold cbOff at HD
        obtain ⟨x, hx⟩ : ∃ x, x = rd_T98 l i := ⟨_, rfl⟩
        obtain ⟨ad2, ea, x0, x1, x2, x3, x4, x5⟩ := at_T98 (Kd.C_below HR.out S1.out.1) i b0 e1
        injection ea with ea
        subst ea
        rw [← hx] at HD x0 x1 x2 x3 x4 x5
        have HD := Aside0.mk HD
        have S2 := Aside0.mk (S1.out.below (below_alloc (Below.refl _ _) (.cells #[.bool x.f0, .string x.f1, .bool x.f2, .string x.f3, .int .i64 x.f4, .int .i64 x.f5] 98)))
        have z1 : (wr.alloc (.cells #[.bool x.f0, .string x.f1, .bool x.f2, .string x.f3, .int .i64 x.f4, .int .i64 x.f5] 98)).cell? ⟨w.heap.size, 1, none⟩ = some (.int .i64 s) := S2.out.c.2.1
        clear hx HO e1 b0 bm
        by_cases e2 : x.f5 ≤ last
        · have H := HD.out
          rw [if_pos e2] at H
          subst H
          have d2 : decide (x.f5 ≤ last) = true := decide_eq_true e2
          obtain rfl := Option.some.inj (show some 1 = some r from by have h_ := HH2.out; rwa [if_neg (by decide)] at h_)
          go_wp2
          go_ret
          exact ⟨rfl, S2.out.1⟩
        · have H := HD.out
          rw [if_neg e2] at H
          have d2 : decide (x.f5 ≤ last) = false := decide_eq_false e2
          by_cases e3 : s ≤ x.f5
          · rw [if_pos e3] at H
            subst H
            have d3 : decide (s ≤ x.f5) = true := decide_eq_true e3
            obtain rfl := Option.some.inj (show some 1 = some r from by have h_ := HH2.out; rwa [if_neg (by decide)] at h_)
            go_wp2
            go_ret
            exact ⟨rfl, S2.out.1⟩
          · rw [if_neg e3] at H
            have d3 : decide (s ≤ x.f5) = false := decide_eq_false e3
            have HO := Aside0.mk H
            clear H HD
            go_wp2_with fail
            go_roundg (l.length + 1 - (i + 1).toNat)
            case measure => have := HI.out; omega
            case rel => exact ⟨x.f5, i + 1, rfl, congrArg (Value.int .i64) (by have := HI.out.1; unfold wrap64; omega), ⟨by have := HI.out; omega, by have := of_decide_eq_true d1; omega, by have := HI.out; have := of_decide_eq_true d1; omega⟩, HO, S2⟩
      · have d1 : decide (i < (l.length : Int)) = false := decide_eq_false e1
        obtain rfl : ob = true := by
          have h_ := HO.out
          rw [List.drop_eq_nil_of_le (by omega)] at h_
          exact h_.symm
        have H := HH2.out
        rw [if_pos rfl] at H
        have HH3 := Aside0.mk H
        clear H HO HI HH2 bm e1 b0
        go_wp2_with fail
        clear y0 y1 y2 y3 y4
        go_loopg [6, 7] (l.length + 1) (fun kq v6 v7 w' => ∃ (n i : Int), v6 = .int .i64 n ∧ v7 = .int .i64 i ∧ Aside0 (0 ≤ i ∧ i ≤ (l.length : Int) ∧ kq + i.toNat = l.length + 1) ∧ Aside0 (cbSum n (l.drop i.toNat) = es) ∧ Aside0 (CbSt w w' b s p q (some ad) c l))
        case atStart => exact ⟨0, 0, rfl, rfl, ⟨by omega, by omega, by omega⟩, HES, S1⟩
        case round =>
          clear HES S1
          obtain ⟨n, i, rfl, rfl, HI, HO, S1⟩ := hrel
          obtain ⟨y0, y1, y2, y3, y4⟩ := S1.out.c
          have b0 := HI.out.1
          have bm : i ≤ 9223372036854775806 ∨ i = (l.length : Int) := by have := HI.out; have := HLM.out; omega
          by_cases e1 : i < (l.length : Int)
          · have d1 : decide (i < (l.length : Int)) = true := decide_eq_true e1
            have p1 := eq_true e1
            have p0 := eq_true b0
            have bi : i < 9223372036854775807 := by have := HLM.out; omega
            have HD := HO.out
            rw [cb_drop b0 e1] at HD
            unfold cbSum at HD
            obtain ⟨x, hx⟩ : ∃ x, x = rd_T98 l i := ⟨_, rfl⟩
            obtain ⟨ad2, ea, x0, x1, x2, x3, x4, x5⟩ := at_T98 (Kd.C_below HR.out S1.out.1) i b0 e1
            injection ea with ea
            subst ea
            rw [← hx] at HD x0 x1 x2 x3 x4 x5
            obtain ⟨cv, hcv⟩ : ∃ y, y = chkR x := ⟨_, rfl⟩
            rw [← hcv] at HD
            have HD := Aside0.mk HD
            have HX := Aside0.mk hx
            have E1 := Aside0.mk e1
            have HCV := Aside0.mk hcv
            clear hx hcv HO e1 b0 bm
            go_wp2_with fail
            refine (bollardref12_Check.calls x.f0 x.f1 x.f2 x.f3 x.f4 x.f5 cv _ (congrArg some HCV.out.symm)).mono ?_
            rintro e w3 ⟨rfl, hb⟩
            have S2 := Aside0.mk (S1.out.below hb)
            clear hb S1 y0 y1 y2 y3 y4 x0 x1 x2 x3 x4 x5
            obtain ⟨y0, y1, y2, y3, y4⟩ := S2.out.c
            by_cases cv0 : cv = 0
            · have H := HD.out
              rw [if_pos cv0] at H
              subst cv0
              obtain ⟨n1, hn1⟩ : ∃ y, y = IntKind.i64.wrap (n + (x.f1.size : Int)) := ⟨_, rfl⟩
              obtain ⟨n2, hn2⟩ : ∃ y, y = IntKind.i64.wrap (n1 + (x.f3.size : Int)) := ⟨_, rfl⟩
              rw [← hn1, ← hn2] at H
              have HO := Aside0.mk H
              clear H HD
              obtain ⟨ad2, ea, x0, x1, x2, x3, x4, x5⟩ := at_T98 (Kd.C_below HR.out S2.out.1) i HI.out.1 E1.out
              injection ea with ea
              subst ea
              rw [← HX.out] at x0 x1 x2 x3 x4 x5
              have HN1 := Aside0.mk hn1.symm
              have HN2 := Aside0.mk hn2.symm
              clear hn1 hn2
              go_wp2_with fail
              have hn1 := HN1.out
              have hn2 := HN2.out
              go_quiet (fail)
              have S3 := Aside0.mk (S2.out.below (pw_below_drewN (Below.refl _ _) nq))
              obtain ⟨y0, y1, y2, y3, y4⟩ := S3.out.c
              clear hn1 hn2 x0 x1 x2 x3 x4 x5
              go_wp2_with fail
              go_roundg (l.length + 1 - (i + 1).toNat)
              case measure => have := HI.out; omega
              case rel => exact ⟨n2, i + 1, rfl, congrArg (Value.int .i64) (by have := HI.out.1; unfold wrap64; omega), ⟨by have := HI.out; omega, by have := E1.out; omega, by have := HI.out; have := E1.out; omega⟩, HO, S3⟩
            · have H := HD.out
              rw [if_neg cv0] at H
              subst H
              obtain rfl := Option.some.inj (show some cv = some r from by have h_ := HH3.out; rwa [if_neg cv0] at h_)
              have g0 : (cv == 0) = false := by simpa using cv0
              clear cv0 HD HCV HH3
              go_wp2_with fail
              go_ret
              exact ⟨rfl, S2.out.1⟩
          · have d1 : decide (i < (l.length : Int)) = false := decide_eq_false e1
            obtain rfl : (0, n) = es := by
              have h_ := HO.out
              rw [List.drop_eq_nil_of_le (by omega)] at h_
              exact h_
            have H := HH3.out
            rw [if_pos rfl] at H
            clear HO HI HH3 bm e1 b0
            by_cases c1 : 6000 < n
            · rw [if_pos c1] at H
              obtain rfl := Option.some.inj H
              have g1 : decide (6000 < n) = true := decide_eq_true c1
              go_wp2_with fail
              go_ret
              exact ⟨rfl, S1.out.1⟩
            · rw [if_neg c1] at H
              obtain ⟨x, hx, H⟩ := Option.bind_eq_some_iff.mp H
              by_cases c2 : x.length ≤ 1000000000
              case neg => rw [if_neg c2] at H; cases H
              rw [if_pos c2] at H
              have HX := Aside0.mk hx
              have HR2 := Aside0.mk (Option.some.inj H)
              have C2 := Aside0.mk c2
              have g1 : decide (6000 < n) = false := decide_eq_false c1
              clear H hx c2 c1
              go_wp2_with fail
              refine (bollardref12_body.calls k b s p q (some ad) c l x _ (Kd.C_below HR.out S1.out.1) HC.out HX.out).mono ?_
              rintro e w2 ⟨v, rfl, ho, hb⟩
              obtain ⟨A1, x1, e1⟩ := Kd.R_slice ho
              subst e1
              have S3 := Aside0.mk (S1.out.below hb)
              have eW : IntKind.i64.wrap ((x.length : Int) + 16) = (x.length : Int) + 16 := (i64_w _).trans (by have := C2.out; unfold wrap64; omega)
              have eW2 : wrap64 ((x.length : Int) + 16) = (x.length : Int) + 16 := by have := C2.out; unfold wrap64; omega
              clear ho hb
              by_cases c3 : 6000 < (x.length : Int) + 16
              · have g3 : decide (6000 < (x.length : Int) + 16) = true := decide_eq_true c3
                have HR3 := HR2.out
                rw [if_pos c3] at HR3
                subst HR3
                clear c3
                go_wp2_with fail
                go_ret
                exact ⟨rfl, S3.out.1⟩
              · have g3 : decide (6000 < (x.length : Int) + 16) = false := decide_eq_false c3
                have HR3 := HR2.out
                rw [if_neg c3] at HR3
                subst HR3
                clear c3
                go_wp2_with fail
                go_ret
                exact ⟨rfl, S3.out.1⟩

/-! ### bollardref1_step: function 106 -/
def bollardref1_step.l0 : Nat → Int → Int → Option (Int)
  | 0, _, _ => none
  | k + 1, x0, x5 => if x5 < 8 then (if (Go.bits .and .u32 x0 1) = 1 then (bollardref1_step.l0 k (Go.bits .xor .u32 (x0 / 2) 2197175160) (wrap64 (x5 + 1))) else (bollardref1_step.l0 k (x0 / 2) (wrap64 (x5 + 1)))) else (some x0)
def bollardref1_step.f (k : Nat) (a0 : Int) (a1 : Int) : Option (Int) := bollardref1_step.l0 k (Go.bits .xor .u32 a0 ((a1) % 4294967296)) 0
set_option maxRecDepth 100000 in
theorem bollardref1_step.mono_l : ∀ k, (∀ y0 y1, LeO (bollardref1_step.l0 k y0 y1) (bollardref1_step.l0 (k + 1) y0 y1))
  | 0 => fun _ _ r h => by first | exact nomatch (show (none : Option _) = some r from h) | (rw [bollardref1_step.l0] at h; cases h; done) | (simp [bollardref1_step.l0] at h; done)
  | k + 1 => by
    have ih0 := bollardref1_step.mono_l k
    · intro y0 y1
      unfold bollardref1_step.l0
      repeat' first
      | (with_reducible exact ih0 _ _)
      | (with_reducible exact LeO.refl _)
      | (with_reducible exact LeO.none _)
      | (with_reducible refine LeO.ite ?_ ?_)
      | (with_reducible refine LeO.bind ?_ (fun _ => ?_))
      | exact ih0 _ _
      | exact LeO.none _
      | refine LeO.ite ?_ ?_
      | refine LeO.bind ?_ (fun _ => ?_)
theorem bollardref1_step.mono : ∀ a0 a1 k, LeO (bollardref1_step.f k a0 a1) (bollardref1_step.f (k + 1) a0 a1) := by
  intro a0 a1 k
  have ih0 := bollardref1_step.mono_l k
  unfold bollardref1_step.f
  repeat' first
      | (with_reducible exact ih0 _ _)
      | (with_reducible exact LeO.refl _)
      | (with_reducible exact LeO.none _)
      | (with_reducible refine LeO.ite ?_ ?_)
      | (with_reducible refine LeO.bind ?_ (fun _ => ?_))
      | exact ih0 _ _
      | exact LeO.none _
      | refine LeO.ite ?_ ?_
      | refine LeO.bind ?_ (fun _ => ?_)
set_option maxHeartbeats 8000000 in
set_option maxRecDepth 100000 in
theorem bollardref1_step.calls (k : Nat) (a0 : Int) (a1 : Int) (r : Int) (w : World) (h : bollardref1_step.f k a0 a1 = some r) :
    Calls Try.prog 106 #[.int .u32 a0, .int .u8 a1] w fun e w' => e = .returned (.int .u32 r) ∧ Drawn0 w w' := by
  have H : (bollardref1_step.l0 k (Go.bits .xor .u32 a0 ((a1) % 4294967296)) 0) = some r := h
  clear h
  have H' := Aside0.mk H
  clear H
  go_enter Try.func106, Try.ntmps106
  go_wp2
  go_loopg [0, 5] k (fun kq v0 v5 w' => ∃ (x0_1 : Int) (x5_1 : Int), v0 = .int .u32 x0_1 ∧ v5 = .int .i64 x5_1 ∧ Aside0 (bollardref1_step.l0 kq x0_1 x5_1 = some r) ∧ Aside0 (kq ≤ k) ∧ Drawn0 w w')
  case atStart => exact ⟨(Go.bits .xor .u32 a0 ((a1) % 4294967296)), (0), (by first | rfl | (simp; done) | (simp [*]; done) | exact congrArg Value.bool (ne_empty _) | exact congrArg Value.bool (eq_empty _)), (by first | rfl | (simp; done) | (simp [*]; done) | exact congrArg Value.bool (ne_empty _) | exact congrArg Value.bool (eq_empty _)), H', ⟨Nat.le_refl _⟩, by repeat (first | exact Drawn0.refl _ | apply Drawn0.step)⟩
  case round =>
    clear H'
    try clear c1
    try clear p2
    obtain ⟨x0_1, x5_1, rfl, rfl, HA, HK1, ⟨m1, rfl⟩⟩ := hrel
    cases gk with
    | zero => exact absurd HA.out (by first | (intro h_; exact nomatch (show (none : Option _) = some r from h_)) | simp [bollardref1_step.l0])
    | succ k1 =>
      have H := HA.out
      clear HA
      simp only [bollardref1_step.l0] at H
      by_cases c3 : x5_1 < 8
      · rw [if_pos c3] at H
        have c3b0 : decide (x5_1 < 8) = true := decide_eq_true c3
        clear c3
        by_cases c4 : (Go.bits .and .u32 x0_1 1) = 1
        · rw [if_pos c4] at H
          have c4b0 : ((Go.bits .and .u32 x0_1 1) == 1) = true := beq_iff_eq.mpr c4
          have c4b1 : ((Go.bits .and .u32 x0_1 1) != 1) = false := bne_eq_false_iff_eq.mpr c4
          clear c4
          have H' := Aside0.mk H
          clear H
          go_wp2
          go_roundg k1
          case measure => have := HK1.out; omega
          case rel => exact ⟨(Go.bits .xor .u32 (x0_1 / 2) 2197175160), (wrap64 (x5_1 + 1)), (by first | rfl | (simp; done) | (simp [*]; done) | exact congrArg Value.bool (ne_empty _) | exact congrArg Value.bool (eq_empty _)), (by first | rfl | (simp; done) | (simp [*]; done) | exact congrArg Value.bool (ne_empty _) | exact congrArg Value.bool (eq_empty _)), H', ⟨by have := HK1.out; omega⟩, by repeat (first | exact Drawn0.refl _ | apply Drawn0.step)⟩
        · rw [if_neg c4] at H
          have c4b0 : ((Go.bits .and .u32 x0_1 1) == 1) = false := beq_eq_false_iff_ne.mpr c4
          have c4b1 : ((Go.bits .and .u32 x0_1 1) != 1) = true := bne_iff_ne.mpr c4
          have H' := Aside0.mk H
          clear H
          go_wp2
          go_roundg k1
          case measure => have := HK1.out; omega
          case rel => exact ⟨(x0_1 / 2), (wrap64 (x5_1 + 1)), (by first | rfl | (simp; done) | (simp [*]; done) | exact congrArg Value.bool (ne_empty _) | exact congrArg Value.bool (eq_empty _)), (by first | rfl | (simp; done) | (simp [*]; done) | exact congrArg Value.bool (ne_empty _) | exact congrArg Value.bool (eq_empty _)), H', ⟨by have := HK1.out; omega⟩, by repeat (first | exact Drawn0.refl _ | apply Drawn0.step)⟩
      · rw [if_neg c3] at H
        have c3b0 : decide (x5_1 < 8) = false := decide_eq_false c3
        clear c3
        obtain rfl := Option.some.inj H
        go_wp2
        go_ret
        exact ⟨by first | rfl | (simp; done) | (simp [*]; done) | exact congrArg Value.bool (ne_empty _) | exact congrArg Value.bool (eq_empty _), by repeat (first | exact Drawn0.refl _ | apply Drawn0.step)⟩

end Go.Proofs.Ytncfofnikmfjbaa.PCi

-- written by a program of this session (wip/tools/pr.py, over the kit's printer): not by hand
namespace Go.Proofs.Ytncfofnikmfjbaa.PCi
open Go.RowKit Go.Proofs.YtncfofnikmfjbaaW.PrintWords Go.Proofs.YtncfofnikmfjbaaW.PrintLast Go.Proofs.YtncfofnikmfjbaaW.PrintMore
attribute [local go_sem] max2_int min2_int max_two min_two max_three min_three max_four min_four   -- for this text's walks alone
set_option linter.unusedVariables false
set_option linter.unusedSimpArgs false

/-! ### bollardref1_More: function 89 -/
def bollardref1_More.l0 : Nat → Int → List Int → Int → Option (Int)
  | 0, _, _, _ => none
  | k + 1, x0, x1, x5 => if x5 < (x1.length : Int) then (if 0 ≤ x5 then ((bollardref1_step.f k x0 (rd x1 x5)).bind fun t219 => (bollardref1_More.l0 k t219 x1 (wrap64 (x5 + 1)))) else (none)) else (some (Go.bits .xor .u32 4294967295 x0))
def bollardref1_More.f (k : Nat) (a0 : Int) (l1 : List Int) : Option (Int) := bollardref1_More.l0 k (Go.bits .xor .u32 4294967295 a0) l1 0
set_option maxRecDepth 100000 in
theorem bollardref1_More.mono_l : ∀ k, (∀ y0 y1 y2, LeO (bollardref1_More.l0 k y0 y1 y2) (bollardref1_More.l0 (k + 1) y0 y1 y2))
  | 0 => fun _ _ _ r h => by first | exact nomatch (show (none : Option _) = some r from h) | (rw [bollardref1_More.l0] at h; cases h; done) | (simp [bollardref1_More.l0] at h; done)
  | k + 1 => by
    have ih0 := bollardref1_More.mono_l k
    · intro y0 y1 y2
      unfold bollardref1_More.l0
      repeat' first
      | (with_reducible exact ih0 _ _ _)
      | (with_reducible exact bollardref1_step.mono _ _ _)
      | (with_reducible exact LeO.refl _)
      | (with_reducible exact LeO.none _)
      | (with_reducible refine LeO.ite ?_ ?_)
      | (with_reducible refine LeO.bind ?_ (fun _ => ?_))
      | exact ih0 _ _ _
      | exact bollardref1_step.mono _ _ _
      | exact LeO.none _
      | refine LeO.ite ?_ ?_
      | refine LeO.bind ?_ (fun _ => ?_)
theorem bollardref1_More.mono : ∀ a0 a1 k, LeO (bollardref1_More.f k a0 a1) (bollardref1_More.f (k + 1) a0 a1) := by
  intro a0 a1 k
  have ih0 := bollardref1_More.mono_l k
  unfold bollardref1_More.f
  repeat' first
      | (with_reducible exact ih0 _ _ _)
      | (with_reducible exact bollardref1_step.mono _ _ _)
      | (with_reducible exact LeO.refl _)
      | (with_reducible exact LeO.none _)
      | (with_reducible refine LeO.ite ?_ ?_)
      | (with_reducible refine LeO.bind ?_ (fun _ => ?_))
      | exact ih0 _ _ _
      | exact bollardref1_step.mono _ _ _
      | exact LeO.none _
      | refine LeO.ite ?_ ?_
      | refine LeO.bind ?_ (fun _ => ?_)
set_option maxHeartbeats 8000000 in
set_option maxRecDepth 100000 in
theorem bollardref1_More.calls (k : Nat) (a0 : Int) (A1 : Option Addr) (c1 : Nat) (l1 : List Int) (r : Int) (w : World) (hr1 : Kd.C (Kd.int .u8) w A1 l1.length l1) (hc1 : l1.length ≤ c1) (h : bollardref1_More.f k a0 l1 = some r) :
    Calls Try.prog 89 #[.int .u32 a0, .slice A1 l1.length c1] w fun e w' => e = .returned (.int .u32 r) ∧ Drawn0 w w' := by
  have HR1 := Aside0.mk hr1
  have HC1 := Aside0.mk hc1
  clear hr1 hc1
  have H : (bollardref1_More.l0 k (Go.bits .xor .u32 4294967295 a0) l1 0) = some r := h
  clear h
  have H' := Aside0.mk H
  clear H
  go_enter Try.func89, Try.ntmps89
  go_wp2
  go_loopg [0, 5] k (fun kq v0 v5 w' => ∃ (x0_1 : Int) (x5_1 : Int), v0 = .int .u32 x0_1 ∧ v5 = .int .i64 x5_1 ∧ Aside0 (bollardref1_More.l0 kq x0_1 l1 x5_1 = some r) ∧ Aside0 (kq ≤ k) ∧ Drawn0 w w')
  case atStart => exact ⟨(Go.bits .xor .u32 4294967295 a0), (0), (by first | rfl | (simp; done) | (simp [*]; done) | exact congrArg Value.bool (ne_empty _) | exact congrArg Value.bool (eq_empty _)), (by first | rfl | (simp; done) | (simp [*]; done) | exact congrArg Value.bool (ne_empty _) | exact congrArg Value.bool (eq_empty _)), H', ⟨Nat.le_refl _⟩, by repeat (first | exact Drawn0.refl _ | apply Drawn0.step)⟩
  case round =>
    clear H'
    try clear c1
    try clear p2
    obtain ⟨x0_1, x5_1, rfl, rfl, HA, HK1, ⟨m1, rfl⟩⟩ := hrel
    cases gk with
    | zero => exact absurd HA.out (by first | (intro h_; exact nomatch (show (none : Option _) = some r from h_)) | simp [bollardref1_More.l0])
    | succ k1 =>
      have H := HA.out
      clear HA
      simp only [bollardref1_More.l0] at H
      by_cases c3 : x5_1 < (l1.length : Int)
      · rw [if_pos c3] at H
        have c3b0 : decide (x5_1 < (l1.length : Int)) = true := decide_eq_true c3
        clear c3
        by_cases c4 : 0 ≤ x5_1
        · rw [if_pos c4] at H
          have c4b0 : decide (0 ≤ x5_1) = true := decide_eq_true c4
          clear c4
          replace H := Option.bind_eq_some_iff.mp H
          obtain ⟨t219, A50, H⟩ := H
          replace H : (bollardref1_More.l0 k1 t219 l1 (wrap64 (x5_1 + 1))) = some r := H
          have A5 := Aside0.mk A50
          clear A50
          have H' := Aside0.mk H
          clear H
          have p218 : 0 ≤ (x5_1 : Int) := of_decide_eq_true (by first | (with_reducible assumption) | assumption)
          have q218 : x5_1 < (l1.length : Int) := of_decide_eq_true (by first | (with_reducible assumption) | assumption)
          obtain ⟨ad218, e218, hx218_0⟩ := Kd.at_int HR1.out x5_1 p218 q218
          cases e218
          replace p218 := eq_true p218
          replace q218 := eq_true q218
          go_wp2_with (first | ((with_reducible refine gate_callee (f := 106) rfl ?_); refine goesL_ (some 19) rfl rfl Try.func106 (by kernel_rfl) rfl #[.int .u32 x0_1, .int .u8 (rd l1 x5_1)] rfl (by (try simp only [List.map_toArray, List.map_cons, List.map_nil]); first | done | rfl | (simp only [List.length_drop, List.length_take]; rfl)) ?_; (with_reducible refine (bollardref1_step.calls k1 x0_1 (rd l1 x5_1) t219 _ A5.out).mono ?_); rintro e w' ⟨rfl, ⟨nd, rfl⟩⟩; refine ⟨_, rfl, ?_⟩))
          go_roundg k1
          case measure => have := HK1.out; omega
          case rel => exact ⟨(t219), (wrap64 (x5_1 + 1)), (by first | rfl | (simp; done) | (simp [*]; done) | exact congrArg Value.bool (ne_empty _) | exact congrArg Value.bool (eq_empty _)), (by first | rfl | (simp; done) | (simp [*]; done) | exact congrArg Value.bool (ne_empty _) | exact congrArg Value.bool (eq_empty _)), H', ⟨by have := HK1.out; omega⟩, by repeat (first | exact Drawn0.refl _ | apply Drawn0.step)⟩
        · rw [if_neg c4] at H
          exact absurd H (by simp)
      · rw [if_neg c3] at H
        have c3b0 : decide (x5_1 < (l1.length : Int)) = false := decide_eq_false c3
        clear c3
        obtain rfl := Option.some.inj H
        go_wp2
        go_ret
        exact ⟨by first | rfl | (simp; done) | (simp [*]; done) | exact congrArg Value.bool (ne_empty _) | exact congrArg Value.bool (eq_empty _), by repeat (first | exact Drawn0.refl _ | apply Drawn0.step)⟩

/-! ### bollardref1_Sum: function 82 -/
def bollardref1_Sum.f (k : Nat) (l0 : List Int) : Option (Int) := (bollardref1_More.f k 0 l0).bind fun t220 => (some t220)
theorem bollardref1_Sum.mono : ∀ a0 k, LeO (bollardref1_Sum.f k a0) (bollardref1_Sum.f (k + 1) a0) := by
  intro a0 k
  unfold bollardref1_Sum.f
  repeat' first
      | (with_reducible exact bollardref1_More.mono _ _ _)
      | (with_reducible exact LeO.refl _)
      | (with_reducible exact LeO.none _)
      | (with_reducible refine LeO.ite ?_ ?_)
      | (with_reducible refine LeO.bind ?_ (fun _ => ?_))
      | exact bollardref1_More.mono _ _ _
      | exact LeO.none _
      | refine LeO.ite ?_ ?_
      | refine LeO.bind ?_ (fun _ => ?_)
set_option maxHeartbeats 8000000 in
set_option maxRecDepth 100000 in
theorem bollardref1_Sum.calls (k : Nat) (A0 : Option Addr) (c0 : Nat) (l0 : List Int) (r : Int) (w : World) (hr0 : Kd.C (Kd.int .u8) w A0 l0.length l0) (hc0 : l0.length ≤ c0) (h : bollardref1_Sum.f k l0 = some r) :
    Calls Try.prog 82 #[.slice A0 l0.length c0] w fun e w' => e = .returned (.int .u32 r) ∧ Drawn0 w w' := by
  have HR0 := Aside0.mk hr0
  have HC0 := Aside0.mk hc0
  clear hr0 hc0
  have H : ((bollardref1_More.f k 0 l0).bind fun t220 => (some t220)) = some r := h
  clear h
  replace H := Option.bind_eq_some_iff.mp H
  obtain ⟨t220, A20, H⟩ := H
  replace H : (some t220) = some r := H
  have A2 := Aside0.mk A20
  clear A20
  obtain rfl := Option.some.inj H
  go_enter Try.func82, Try.ntmps82
  go_wp2_with (first | ((with_reducible refine gate_callee (f := 89) rfl ?_); refine goesL_ (some 4) rfl rfl Try.func89 (by kernel_rfl) rfl #[.int .u32 0, .slice A0 l0.length c0] rfl (by (try simp only [List.map_toArray, List.map_cons, List.map_nil]); first | done | rfl | (simp only [List.length_drop, List.length_take]; rfl)) ?_; (with_reducible refine (bollardref1_More.calls k 0 _ _ l0 t220 _ ?side1 ?side2 A2.out).mono ?_); (case side1 => repeat (first | exact HR0.out | (with_reducible refine Kd.C_alloc ?_ _) | (with_reducible refine Kd.C_drewN ?_ _) | (with_reducible refine Kd.C_drew ?_))); (case side2 => exact HC0.out); rintro e w' ⟨rfl, ⟨nd, rfl⟩⟩; refine ⟨_, rfl, ?_⟩))
  go_ret
  exact ⟨by first | rfl | (simp; done) | (simp [*]; done) | exact congrArg Value.bool (ne_empty _) | exact congrArg Value.bool (eq_empty _), by repeat (first | exact Drawn0.refl _ | apply Drawn0.step)⟩

/-! ### bollardref12_EncodeBatch: function 61 -/
def bollardref12_EncodeBatch.f (k : Nat) (a0_0 : Int) (a0_1 : Int) (a0_2 : Int) (a0_3 : Int) (l0_4 : List (S98)) : Option (List Int × Int) := (bollardref12_CheckBatch.f k a0_0 a0_1 a0_2 a0_3 l0_4).bind fun t222 => (if t222 = 0 then ((bollardref12_body.f k a0_0 a0_1 a0_2 a0_3 l0_4).bind fun t223 => ((bollardref1_Lay.f k ([] : List Int) 8 (IntKind.u64.wrap (a0_0))).bind fun t226 => ((bollardref1_Lay.f k t226 4 (IntKind.u64.wrap (wrap64 ((t223.length : Int) + 4)))).bind fun t229 => ((bollardref1_Sum.f k t223).bind fun t232 => ((bollardref1_Lay.f k t229 4 (IntKind.u64.wrap (t232))).bind fun t233 => (if t233.length + t223.length < 140737488355328 then (some ((t233 ++ t223), 0)) else (none))))))) else (some (([] : List Int), t222)))
theorem bollardref12_EncodeBatch.mono : ∀ a0 a1 a2 a3 a4 k, LeO (bollardref12_EncodeBatch.f k a0 a1 a2 a3 a4) (bollardref12_EncodeBatch.f (k + 1) a0 a1 a2 a3 a4) := by
  intro a0 a1 a2 a3 a4 k
  unfold bollardref12_EncodeBatch.f
  repeat' first
      | (with_reducible exact bollardref12_CheckBatch.mono _ _ _ _ _ _)
      | (with_reducible exact bollardref12_body.mono _ _ _ _ _ _)
      | (with_reducible exact bollardref1_Lay.mono _ _ _ _)
      | (with_reducible exact bollardref1_Sum.mono _ _)
      | (with_reducible exact LeO.refl _)
      | (with_reducible exact LeO.none _)
      | (with_reducible refine LeO.ite ?_ ?_)
      | (with_reducible refine LeO.bind ?_ (fun _ => ?_))
      | exact bollardref12_CheckBatch.mono _ _ _ _ _ _
      | exact bollardref12_body.mono _ _ _ _ _ _
      | exact bollardref1_Lay.mono _ _ _ _
      | exact bollardref1_Sum.mono _ _
      | exact LeO.none _
      | refine LeO.ite ?_ ?_
      | refine LeO.bind ?_ (fun _ => ?_)
set_option maxHeartbeats 8000000 in
set_option maxRecDepth 100000 in
theorem bollardref12_EncodeBatch.calls (k : Nat) (a0_0 : Int) (a0_1 : Int) (a0_2 : Int) (a0_3 : Int) (A0_4 : Option Addr) (c0_4 : Nat) (l0_4 : List (S98)) (r1 : List Int) (r2 : Int) (w : World) (hr0_4 : Kd.C k98 w A0_4 l0_4.length l0_4) (hc0_4 : l0_4.length ≤ c0_4) (h : bollardref12_EncodeBatch.f k a0_0 a0_1 a0_2 a0_3 l0_4 = some (r1, r2)) :
    Calls Try.prog 61 #[.agg #[.int .i64 a0_0, .int .i64 a0_1, .int .i64 a0_2, .int .i64 a0_3, .slice A0_4 l0_4.length c0_4]] w fun e w' => ∃ v0_ : Value, e = .returned (.tuple #[v0_, .int .i64 r2]) ∧ Kd.R (Kd.int .u8) 5 w' w.heap.size (fun _ => True) v0_ r1 ∧ Below w.heap.size w w' := by
  have hu101 := Try.underlying101
  have HR0_4 := Aside0.mk hr0_4
  have HC0_4 := Aside0.mk hc0_4
  clear hr0_4 hc0_4
  have HB := Aside0.mk (Below.refl w.heap.size w)
  have H : ((bollardref12_CheckBatch.f k a0_0 a0_1 a0_2 a0_3 l0_4).bind fun t222 => (if t222 = 0 then ((bollardref12_body.f k a0_0 a0_1 a0_2 a0_3 l0_4).bind fun t223 => ((bollardref1_Lay.f k ([] : List Int) 8 (IntKind.u64.wrap (a0_0))).bind fun t226 => ((bollardref1_Lay.f k t226 4 (IntKind.u64.wrap (wrap64 ((t223.length : Int) + 4)))).bind fun t229 => ((bollardref1_Sum.f k t223).bind fun t232 => ((bollardref1_Lay.f k t229 4 (IntKind.u64.wrap (t232))).bind fun t233 => (if t233.length + t223.length < 140737488355328 then (some ((t233 ++ t223), 0)) else (none))))))) else (some (([] : List Int), t222)))) = some (r1, r2) := h
  clear h
  replace H := Option.bind_eq_some_iff.mp H
  obtain ⟨t222, A20, H⟩ := H
  replace H : (if t222 = 0 then ((bollardref12_body.f k a0_0 a0_1 a0_2 a0_3 l0_4).bind fun t223 => ((bollardref1_Lay.f k ([] : List Int) 8 (IntKind.u64.wrap (a0_0))).bind fun t226 => ((bollardref1_Lay.f k t226 4 (IntKind.u64.wrap (wrap64 ((t223.length : Int) + 4)))).bind fun t229 => ((bollardref1_Sum.f k t223).bind fun t232 => ((bollardref1_Lay.f k t229 4 (IntKind.u64.wrap (t232))).bind fun t233 => (if t233.length + t223.length < 140737488355328 then (some ((t233 ++ t223), 0)) else (none))))))) else (some (([] : List Int), t222))) = some (r1, r2) := H
  have A2 := Aside0.mk A20
  clear A20
  by_cases c3 : t222 = 0
  · rw [if_pos c3] at H
    have c3b0 : (t222 == 0) = true := beq_iff_eq.mpr c3
    have c3b1 : (t222 != 0) = false := bne_eq_false_iff_eq.mpr c3
    clear c3
    replace H := Option.bind_eq_some_iff.mp H
    obtain ⟨t223, A40, H⟩ := H
    replace H : ((bollardref1_Lay.f k ([] : List Int) 8 (IntKind.u64.wrap (a0_0))).bind fun t226 => ((bollardref1_Lay.f k t226 4 (IntKind.u64.wrap (wrap64 ((t223.length : Int) + 4)))).bind fun t229 => ((bollardref1_Sum.f k t223).bind fun t232 => ((bollardref1_Lay.f k t229 4 (IntKind.u64.wrap (t232))).bind fun t233 => (if t233.length + t223.length < 140737488355328 then (some ((t233 ++ t223), 0)) else (none)))))) = some (r1, r2) := H
    have A4 := Aside0.mk A40
    clear A40
    replace H := Option.bind_eq_some_iff.mp H
    obtain ⟨t226, A50, H⟩ := H
    replace H : ((bollardref1_Lay.f k t226 4 (IntKind.u64.wrap (wrap64 ((t223.length : Int) + 4)))).bind fun t229 => ((bollardref1_Sum.f k t223).bind fun t232 => ((bollardref1_Lay.f k t229 4 (IntKind.u64.wrap (t232))).bind fun t233 => (if t233.length + t223.length < 140737488355328 then (some ((t233 ++ t223), 0)) else (none))))) = some (r1, r2) := H
    have A5 := Aside0.mk A50
    clear A50
    replace H := Option.bind_eq_some_iff.mp H
    obtain ⟨t229, A60, H⟩ := H
    replace H : ((bollardref1_Sum.f k t223).bind fun t232 => ((bollardref1_Lay.f k t229 4 (IntKind.u64.wrap (t232))).bind fun t233 => (if t233.length + t223.length < 140737488355328 then (some ((t233 ++ t223), 0)) else (none)))) = some (r1, r2) := H
    have A6 := Aside0.mk A60
    clear A60
    replace H := Option.bind_eq_some_iff.mp H
    obtain ⟨t232, A70, H⟩ := H
    replace H : ((bollardref1_Lay.f k t229 4 (IntKind.u64.wrap (t232))).bind fun t233 => (if t233.length + t223.length < 140737488355328 then (some ((t233 ++ t223), 0)) else (none))) = some (r1, r2) := H
    have A7 := Aside0.mk A70
    clear A70
    replace H := Option.bind_eq_some_iff.mp H
    obtain ⟨t233, A80, H⟩ := H
    replace H : (if t233.length + t223.length < 140737488355328 then (some ((t233 ++ t223), 0)) else (none)) = some (r1, r2) := H
    have A8 := Aside0.mk A80
    clear A80
    by_cases c9 : t233.length + t223.length < 140737488355328
    · rw [if_pos c9] at H
      have LMc9 := Aside0.mk c9
      clear c9
      obtain ⟨y236, hy236⟩ : ∃ y_ : List Int, y_ = (t233 ++ t223) := ⟨_, rfl⟩
      replace H : (some (y236, 0)) = some (r1, r2) := by first | (rw [hy236]; with_reducible exact H) | (have H2_ := (Option.bind_some _ _).symm.trans H; rw [hy236]; with_reducible exact H2_) | (have H2_ := (Option.bind_some _ _).symm.trans H; with_reducible exact H2_) | with_reducible exact H | (rw [hy236]; exact H) | exact H
      have Ny236 := Aside0.mk hy236
      clear hy236
      simp only [Option.some.injEq, Prod.mk.injEq] at H
      obtain ⟨rfl, rfl⟩ := H
      go_enter Try.func61, Try.ntmps61
      go_wp2_with (first | ((with_reducible refine gate_dst (N := 1) rfl ?_); refine box_event ?hg (N := 1) ?hd (cs := #[.int .i64 a0_0, .int .i64 a0_1, .int .i64 a0_2, .int .i64 a0_3, .slice A0_4 l0_4.length c0_4]) (t := 101) ?hr ?_; (case hd => rfl); (case hg => rfl); (case hr => first | (go_simp; done) | (go_simp; rfl)); intro gb221 hg w10 hbox hb; have n0_ := Aside0.mk (below_step (by repeat (first | (with_reducible first | exact HB.out | apply below_alloc | apply pw_below_drewN | apply below_drew1) | exact HB.out)) hb); have n1_ := Aside0.mk (hbox); have n2_ := Aside0.mk ((by rw [hg]; exact (below_size (by repeat (first | (with_reducible first | exact HB.out | apply below_alloc | apply pw_below_drewN | apply below_drew1) | exact HB.out))) : w.heap.size ≤ gb221)); have n3_ := Aside0.mk ((by rw [hg]; exact (below_size (by repeat (first | (with_reducible first | exact HB.out | apply below_alloc | apply pw_below_drewN | apply below_drew1) | exact HB.out))) : w.heap.size ≤ gb221)); clear HB; have HB := n0_; have BK221 := n1_; have GW221 := n2_; have GE221 := n3_; clear n0_ n1_ n2_ n3_; clear hb hbox hg; have hcz11_0 : w10.cell? ⟨gb221, 0, none⟩ = some (.int .i64 a0_0) := (blk_cell BK221.out 0).trans rfl; have hcz11_1 : w10.cell? ⟨gb221, 1, none⟩ = some (.int .i64 a0_1) := (blk_cell BK221.out 1).trans rfl; have hcz11_2 : w10.cell? ⟨gb221, 2, none⟩ = some (.int .i64 a0_2) := (blk_cell BK221.out 2).trans rfl; have hcz11_3 : w10.cell? ⟨gb221, 3, none⟩ = some (.int .i64 a0_3) := (blk_cell BK221.out 3).trans rfl; have hcz11_4 : w10.cell? ⟨gb221, 4, none⟩ = some (.slice A0_4 l0_4.length c0_4) := (blk_cell BK221.out 4).trans rfl; have hfz11_0 := blk_frozen BK221.out 0; have hfz11_1 := blk_frozen BK221.out 1; have hfz11_2 := blk_frozen BK221.out 2; have hfz11_3 := blk_frozen BK221.out 3; have hfz11_4 := blk_frozen BK221.out 4) | ((with_reducible refine gate_callee (f := 80) rfl ?_); refine goesL_ (some 8) rfl rfl Try.func80 (by kernel_rfl) rfl #[.agg #[.int .i64 a0_0, .int .i64 a0_1, .int .i64 a0_2, .int .i64 a0_3, .slice A0_4 l0_4.length c0_4]] rfl (by (try simp only [List.map_toArray, List.map_cons, List.map_nil]); first | done | rfl | (simp only [List.length_drop, List.length_take]; rfl)) ?_; (with_reducible refine (bollardref12_CheckBatch.calls k a0_0 a0_1 a0_2 a0_3 _ _ l0_4 t222 _ ?side1 ?side2 A2.out).mono ?_); (case side1 => repeat (first | exact (Kd.C_below HR0_4.out HB.out) | (with_reducible refine Kd.C_alloc ?_ _) | (with_reducible refine Kd.C_drewN ?_ _) | (with_reducible refine Kd.C_drew ?_))); (case side2 => exact HC0_4.out); rintro e w12 ⟨rfl, hb⟩; refine ⟨_, rfl, ?_⟩; have n0_ := Aside0.mk (blk_below (g := gb221) (o := .cells #[.int .i64 a0_0, .int .i64 a0_1, .int .i64 a0_2, .int .i64 a0_3, .slice A0_4 l0_4.length c0_4] 101 (0, 0)) (by (with_reducible repeat (first | refine blk_drewN ?_ _ | refine blk_drew ?_ | refine blk_alloc ?_ _)); exact BK221.out) hb); have n1_ := Aside0.mk (below_step (by repeat (first | (with_reducible first | exact HB.out | apply below_alloc | apply pw_below_drewN | apply below_drew1 | refine below_set ?_ GE221.out) | exact HB.out)) hb); clear BK221; clear HB; have BK221 := n0_; have HB := n1_; clear n0_ n1_; (try clear hb); (try clear hb2); (try clear hk); (try clear hi); have hcz13_0 : w12.cell? ⟨gb221, 0, none⟩ = some (.int .i64 a0_0) := (blk_cell BK221.out 0).trans rfl; have hcz13_1 : w12.cell? ⟨gb221, 1, none⟩ = some (.int .i64 a0_1) := (blk_cell BK221.out 1).trans rfl; have hcz13_2 : w12.cell? ⟨gb221, 2, none⟩ = some (.int .i64 a0_2) := (blk_cell BK221.out 2).trans rfl; have hcz13_3 : w12.cell? ⟨gb221, 3, none⟩ = some (.int .i64 a0_3) := (blk_cell BK221.out 3).trans rfl; have hcz13_4 : w12.cell? ⟨gb221, 4, none⟩ = some (.slice A0_4 l0_4.length c0_4) := (blk_cell BK221.out 4).trans rfl; have hfz13_0 := blk_frozen BK221.out 0; have hfz13_1 := blk_frozen BK221.out 1; have hfz13_2 := blk_frozen BK221.out 2; have hfz13_3 := blk_frozen BK221.out 3; have hfz13_4 := blk_frozen BK221.out 4) | ((with_reducible refine gate_callee (f := 81) rfl ?_); refine goesL_ (some 13) rfl rfl Try.func81 (by kernel_rfl) rfl #[.agg #[.int .i64 a0_0, .int .i64 a0_1, .int .i64 a0_2, .int .i64 a0_3, .slice A0_4 l0_4.length c0_4]] rfl (by (try simp only [List.map_toArray, List.map_cons, List.map_nil]); first | done | rfl | (simp only [List.length_drop, List.length_take]; rfl)) ?_; (with_reducible refine (bollardref12_body.calls k a0_0 a0_1 a0_2 a0_3 _ _ l0_4 t223 _ ?side1 ?side2 A4.out).mono ?_); (case side1 => repeat (first | exact (Kd.C_below HR0_4.out HB.out) | (with_reducible refine Kd.C_alloc ?_ _) | (with_reducible refine Kd.C_drewN ?_ _) | (with_reducible refine Kd.C_drew ?_))); (case side2 => exact HC0_4.out); rintro e w14 ⟨v224, rfl, ho0, hb⟩; refine ⟨_, rfl, ?_⟩; have n0_ := Aside0.mk (Kd.R_lower ho0 (below_size (by repeat (first | (with_reducible first | exact HB.out | apply below_alloc | apply pw_below_drewN | apply below_drew1 | refine below_set ?_ GE221.out) | exact HB.out)))); have n1_ := Aside0.mk (blk_below (g := gb221) (o := .cells #[.int .i64 a0_0, .int .i64 a0_1, .int .i64 a0_2, .int .i64 a0_3, .slice A0_4 l0_4.length c0_4] 101 (0, 0)) (by (with_reducible repeat (first | refine blk_drewN ?_ _ | refine blk_drew ?_ | refine blk_alloc ?_ _)); exact BK221.out) hb); have n2_ := Aside0.mk (below_step (by repeat (first | (with_reducible first | exact HB.out | apply below_alloc | apply pw_below_drewN | apply below_drew1 | refine below_set ?_ GE221.out) | exact HB.out)) hb); clear BK221; clear HB; have HO225 := n0_; have BK221 := n1_; have HB := n2_; clear n0_ n1_ n2_; (try clear hb); (try clear hb2); (try clear hk); (try clear hi); (try clear ho0); have hcz15_0 : w14.cell? ⟨gb221, 0, none⟩ = some (.int .i64 a0_0) := (blk_cell BK221.out 0).trans rfl; have hcz15_1 : w14.cell? ⟨gb221, 1, none⟩ = some (.int .i64 a0_1) := (blk_cell BK221.out 1).trans rfl; have hcz15_2 : w14.cell? ⟨gb221, 2, none⟩ = some (.int .i64 a0_2) := (blk_cell BK221.out 2).trans rfl; have hcz15_3 : w14.cell? ⟨gb221, 3, none⟩ = some (.int .i64 a0_3) := (blk_cell BK221.out 3).trans rfl; have hcz15_4 : w14.cell? ⟨gb221, 4, none⟩ = some (.slice A0_4 l0_4.length c0_4) := (blk_cell BK221.out 4).trans rfl; have hfz15_0 := blk_frozen BK221.out 0; have hfz15_1 := blk_frozen BK221.out 1; have hfz15_2 := blk_frozen BK221.out 2; have hfz15_3 := blk_frozen BK221.out 3; have hfz15_4 := blk_frozen BK221.out 4) | ((with_reducible refine gate_callee (f := 33) rfl ?_); refine goesL_ (some 17) rfl rfl Try.func33 (by kernel_rfl) rfl #[.slice none 0 0, .int .i64 8, .int .u64 (IntKind.u64.wrap (a0_0))] rfl (by (try simp only [List.map_toArray, List.map_cons, List.map_nil]); first | done | rfl | (simp only [List.length_drop, List.length_take]; rfl)) ?_; (refine (bollardref1_Lay.calls k (fun k_ => some k_ = (.slice none 0 0 : Value).ownBlock) (.slice none 0 0) ([] : List Int) 8 (IntKind.u64.wrap (a0_0)) t226 w _ ?side1 ?side2 A5.out).mono ?_); (case side1 => repeat (first | (with_reducible first | exact HB.out | apply below_alloc | apply pw_below_drewN | apply below_drew1 | refine below_set ?_ GE221.out) | exact HB.out)); (case side2 => exact Kd.R_nil _ _ _ _ _); rintro e w16 ⟨v227, rfl, ho0, hb, hkp⟩; refine ⟨_, rfl, ?_⟩; have n0_ := Aside0.mk (blk_kept (by (with_reducible repeat (first | refine blk_drewN ?_ _ | refine blk_drew ?_ | refine blk_alloc ?_ _)); exact BK221.out) hkp (fun hs_ => (fun e_ => by simp [Value.ownBlock] at e_) hs_)); have n1_ := Aside0.mk (Kd.R_mono (ok' := fun k_ => some k_ ≠ (v227 : Value).ownBlock) (Kd.R_keptB (HO225.out) hkp (fun k_ hk_ hs_ => (fun e_ => by simp [Value.ownBlock] at e_) hs_)) (fun k_ hk_ => fun e_ => Or.elim (ho0.1 k_ e_.symm) (fun hs_ => hk_.2.1 hs_) (fun hn_ => Nat.not_le.2 hk_.2.2 hn_))); have n2_ := Aside0.mk (Kd.R_mono (ok' := fun k_ => some k_ ≠ (v224 : Value).ownBlock) ho0 (fun k_ hk_ => Or.elim hk_ (fun hs_ => absurd hs_ (by simp [Value.ownBlock])) (fun hn_ => (Kd.fresh' (Kd.R_lt (by (with_reducible repeat (first | apply Kd.R_alloc | apply Kd.R_drewN | apply Kd.R_drew)); exact HO225.out)) k_ hn_)))); have n3_ := Aside0.mk (hb); clear BK221; clear HO225; clear HB; have BK221 := n0_; have HO225 := n1_; have HO228 := n2_; have HB := n3_; clear n0_ n1_ n2_ n3_; (try clear hb); (try clear hkp); (try clear ho0); obtain ⟨Ao17, co17, eo17⟩ := Kd.R_slice HO225.out; subst eo17; obtain ⟨Ao18, co18, eo18⟩ := Kd.R_slice HO228.out; subst eo18) | ((with_reducible refine gate_callee (f := 33) rfl ?_); refine goesL_ (some 23) rfl rfl Try.func33 (by kernel_rfl) rfl #[.slice Ao18 t226.length co18, .int .i64 4, .int .u64 (IntKind.u64.wrap (wrap64 ((t223.length : Int) + 4)))] rfl (by (try simp only [List.map_toArray, List.map_cons, List.map_nil]); first | done | rfl | (simp only [List.length_drop, List.length_take]; rfl)) ?_; (with_reducible refine (bollardref1_Lay.calls k (fun k_ => some k_ = (.slice Ao18 t226.length co18 : Value).ownBlock) (.slice Ao18 t226.length co18) t226 4 (IntKind.u64.wrap (wrap64 ((t223.length : Int) + 4))) t229 w _ ?side1 ?side2 A6.out).mono ?_); (case side1 => repeat (first | (with_reducible first | exact HB.out | apply below_alloc | apply pw_below_drewN | apply below_drew1 | refine below_set ?_ GE221.out) | exact HB.out)); (case side2 => exact Kd.R_tight rfl HO228.out); rintro e w19 ⟨v230, rfl, ho0, hb, hkp⟩; refine ⟨_, rfl, ?_⟩; have n0_ := Aside0.mk (blk_kept (by (with_reducible repeat (first | refine blk_drewN ?_ _ | refine blk_drew ?_ | refine blk_alloc ?_ _)); exact BK221.out) hkp (fun hs_ => (fun e_ => (Kd.R_ne HO228.out BK221.out (by decide)) e_) hs_)); have n1_ := Aside0.mk (Kd.R_mono (ok' := fun k_ => some k_ ≠ (v230 : Value).ownBlock) (Kd.R_keptB (HO225.out) hkp (fun k_ hk_ hs_ => (hk_) hs_)) (fun k_ hk_ => fun e_ => Or.elim (ho0.1 k_ e_.symm) (fun hs_ => hk_.2.1 hs_) (fun hn_ => Nat.not_le.2 hk_.2.2 hn_))); have n2_ := Aside0.mk (Kd.R_mono (ok' := fun k_ => some k_ ≠ (.slice Ao17 t223.length co17 : Value).ownBlock) ho0 (fun k_ hk_ => Or.elim hk_ (fun hs_ => fun e_ => (((HO225.out).1 k_ e_.symm)) hs_) (fun hn_ => (Kd.fresh' (Kd.R_lt (by (with_reducible repeat (first | apply Kd.R_alloc | apply Kd.R_drewN | apply Kd.R_drew)); exact HO225.out)) k_ hn_)))); have n3_ := Aside0.mk (hb); clear BK221; clear HO225; clear HB; clear HO228; have BK221 := n0_; have HO225 := n1_; have HO231 := n2_; have HB := n3_; clear n0_ n1_ n2_ n3_; (try clear hb); (try clear hkp); (try clear ho0)) | ((with_reducible refine gate_callee (f := 82) rfl ?_); refine goesL_ (some 26) rfl rfl Try.func82 (by kernel_rfl) rfl #[.slice Ao17 t223.length co17] rfl (by (try simp only [List.map_toArray, List.map_cons, List.map_nil]); first | done | rfl | (simp only [List.length_drop, List.length_take]; rfl)) ?_; (with_reducible refine (bollardref1_Sum.calls k _ _ t223 t232 _ ?side1 ?side2 A7.out).mono ?_); (case side1 => repeat (first | exact (Kd.R_reads' HO225.out).2.2 | (with_reducible refine Kd.C_alloc ?_ _) | (with_reducible refine Kd.C_drewN ?_ _) | (with_reducible refine Kd.C_drew ?_))); (case side2 => exact (Kd.R_reads' HO225.out).2.1); rintro e w' ⟨rfl, ⟨nd, rfl⟩⟩; refine ⟨_, rfl, ?_⟩; obtain ⟨Ao20, co20, eo20⟩ := Kd.R_slice HO231.out; subst eo20) | ((with_reducible refine gate_callee (f := 33) rfl ?_); refine goesL_ (some 28) rfl rfl Try.func33 (by kernel_rfl) rfl #[.slice Ao20 t229.length co20, .int .i64 4, .int .u64 (IntKind.u64.wrap (t232))] rfl (by (try simp only [List.map_toArray, List.map_cons, List.map_nil]); first | done | rfl | (simp only [List.length_drop, List.length_take]; rfl)) ?_; (with_reducible refine (bollardref1_Lay.calls k (fun k_ => some k_ = (.slice Ao20 t229.length co20 : Value).ownBlock) (.slice Ao20 t229.length co20) t229 4 (IntKind.u64.wrap (t232)) t233 w _ ?side1 ?side2 A8.out).mono ?_); (case side1 => repeat (first | (with_reducible first | exact HB.out | apply below_alloc | apply pw_below_drewN | apply below_drew1 | refine below_set ?_ GE221.out) | exact HB.out)); (case side2 => exact Kd.R_tight rfl HO231.out); rintro e w21 ⟨v234, rfl, ho0, hb, hkp⟩; refine ⟨_, rfl, ?_⟩; have n0_ := Aside0.mk (blk_kept (by (with_reducible repeat (first | refine blk_drewN ?_ _ | refine blk_drew ?_ | refine blk_alloc ?_ _)); exact BK221.out) hkp (fun hs_ => (fun e_ => (Kd.R_ne HO231.out BK221.out (by decide)) e_) hs_)); have n1_ := Aside0.mk (Kd.R_mono (ok' := fun k_ => some k_ ≠ (v234 : Value).ownBlock) (Kd.R_keptB (HO225.out) hkp (fun k_ hk_ hs_ => (hk_) hs_)) (fun k_ hk_ => fun e_ => Or.elim (ho0.1 k_ e_.symm) (fun hs_ => hk_.2.1 hs_) (fun hn_ => Nat.not_le.2 hk_.2.2 hn_))); have n2_ := Aside0.mk (Kd.R_mono (ok' := fun k_ => some k_ ≠ (.slice Ao17 t223.length co17 : Value).ownBlock) ho0 (fun k_ hk_ => Or.elim hk_ (fun hs_ => fun e_ => (((HO225.out).1 k_ e_.symm)) hs_) (fun hn_ => (Kd.fresh' (Kd.R_lt (by (with_reducible repeat (first | apply Kd.R_alloc | apply Kd.R_drewN | apply Kd.R_drew)); exact HO225.out)) k_ hn_)))); have n3_ := Aside0.mk (hb); clear BK221; clear HO225; clear HB; clear HO231; have BK221 := n0_; have HO225 := n1_; have HO235 := n2_; have HB := n3_; clear n0_ n1_ n2_ n3_; (try clear hb); (try clear hkp); (try clear ho0)) | ((with_reducible refine gate_builtin (b := .append) (xs := #[.tmp 29, .tmp 30]) rfl ?_); at_builtin; refine Kd.R_append_rows (Kd.int .u8) (w0 := w) w.heap.size rfl (.tmp 29) (.tmp 30) 29 5 (.int .u8 0) 1 rfl Try.underlying29 info5 rfl (by decide) (by omega) v234 t233 t223 _ _ _ (fun k_ => some k_ ≠ (.slice Ao17 t223.length co17 : Value).ownBlock) (fun _ => False) rfl rfl ?aO ?aR (fun _ _ h => h) (fun _ h => h.elim) ?aF ?aB ?aS ?aL ?_; (case aR => repeat (first | exact (Kd.R_reads' HO225.out).2.2 | (with_reducible refine Kd.C_alloc ?_ _) | (with_reducible refine Kd.C_drewN ?_ _) | (with_reducible refine Kd.C_drew ?_))); (case aB => exact (by repeat (first | (with_reducible first | exact HB.out | apply below_alloc | apply pw_below_drewN | apply below_drew1 | refine below_set ?_ GE221.out) | exact HB.out))); (case aF => exact (fun k_ hk => Kd.fresh' (Kd.R_lt (by (with_reducible repeat (first | apply Kd.R_alloc | apply Kd.R_drewN | apply Kd.R_drew)); exact HO225.out)) k_ hk)); (case aO => exact (by (with_reducible repeat (first | apply Kd.R_alloc | apply Kd.R_drewN | apply Kd.R_drew)); exact HO235.out)); (case aS => exact (below_size (by repeat (first | (with_reducible first | exact HB.out | apply below_alloc | apply pw_below_drewN | apply below_drew1 | refine below_set ?_ GE221.out) | exact HB.out)))); (case aL => have := LMc9.out; omega); intro v237 w22 ho hb hg hat; rw [← Ny236.out] at ho; have n0_ := Aside0.mk (blk_grown (g := gb221) (o := .cells #[.int .i64 a0_0, .int .i64 a0_1, .int .i64 a0_2, .int .i64 a0_3, .slice A0_4 l0_4.length c0_4] 101 (0, 0)) (by (with_reducible repeat (first | refine blk_drewN ?_ _ | refine blk_drew ?_ | refine blk_alloc ?_ _)); exact BK221.out) hg (Kd.R_ne HO235.out BK221.out (by decide))); have n1_ := Aside0.mk (Kd.R_after (ok := (fun _ => True)) (by (with_reducible repeat (first | apply Kd.R_alloc | apply Kd.R_drewN | apply Kd.R_drew)); exact Kd.R_mono HO225.out (fun _ hk => ⟨trivial, hk⟩)) hg hat); have n2_ := Aside0.mk (hb); have n3_ := Aside0.mk (ho); clear BK221; clear HO225; clear HB; clear HO235; have BK221 := n0_; have HO225 := n1_; have HB := n2_; have HO238 := n3_; clear n0_ n1_ n2_ n3_; clear ho hb hg hat))
      go_ret2
      exact ⟨_, by first | rfl | (simp [errW_none, errW_some] <;> rfl) | (simp [*, errW_none, errW_some] <;> rfl), by (with_reducible repeat (first | apply Kd.R_alloc | apply Kd.R_drewN | apply Kd.R_drew)); exact Kd.R_mono HO238.out (fun _ hk => trivial), by repeat (first | (with_reducible first | exact HB.out | apply below_alloc | apply pw_below_drewN | apply below_drew1 | refine below_set ?_ GE221.out) | exact HB.out)⟩
    · rw [if_neg c9] at H
      exact absurd H (by simp)
  · rw [if_neg c3] at H
    have c3b0 : (t222 == 0) = false := beq_eq_false_iff_ne.mpr c3
    have c3b1 : (t222 != 0) = true := bne_iff_ne.mpr c3
    simp only [Option.some.injEq, Prod.mk.injEq] at H
    obtain ⟨rfl, rfl⟩ := H
    go_enter Try.func61, Try.ntmps61
    go_wp2_with (first | ((with_reducible refine gate_dst (N := 1) rfl ?_); refine box_event ?hg (N := 1) ?hd (cs := #[.int .i64 a0_0, .int .i64 a0_1, .int .i64 a0_2, .int .i64 a0_3, .slice A0_4 l0_4.length c0_4]) (t := 101) ?hr ?_; (case hd => rfl); (case hg => rfl); (case hr => first | (go_simp; done) | (go_simp; rfl)); intro gb221 hg w23 hbox hb; have n0_ := Aside0.mk (below_step (by repeat (first | (with_reducible first | exact HB.out | apply below_alloc | apply pw_below_drewN | apply below_drew1) | exact HB.out)) hb); have n1_ := Aside0.mk (hbox); have n2_ := Aside0.mk ((by rw [hg]; exact (below_size (by repeat (first | (with_reducible first | exact HB.out | apply below_alloc | apply pw_below_drewN | apply below_drew1) | exact HB.out))) : w.heap.size ≤ gb221)); have n3_ := Aside0.mk ((by rw [hg]; exact (below_size (by repeat (first | (with_reducible first | exact HB.out | apply below_alloc | apply pw_below_drewN | apply below_drew1) | exact HB.out))) : w.heap.size ≤ gb221)); clear HB; have HB := n0_; have BK221 := n1_; have GW221 := n2_; have GE221 := n3_; clear n0_ n1_ n2_ n3_; clear hb hbox hg; have hcz24_0 : w23.cell? ⟨gb221, 0, none⟩ = some (.int .i64 a0_0) := (blk_cell BK221.out 0).trans rfl; have hcz24_1 : w23.cell? ⟨gb221, 1, none⟩ = some (.int .i64 a0_1) := (blk_cell BK221.out 1).trans rfl; have hcz24_2 : w23.cell? ⟨gb221, 2, none⟩ = some (.int .i64 a0_2) := (blk_cell BK221.out 2).trans rfl; have hcz24_3 : w23.cell? ⟨gb221, 3, none⟩ = some (.int .i64 a0_3) := (blk_cell BK221.out 3).trans rfl; have hcz24_4 : w23.cell? ⟨gb221, 4, none⟩ = some (.slice A0_4 l0_4.length c0_4) := (blk_cell BK221.out 4).trans rfl; have hfz24_0 := blk_frozen BK221.out 0; have hfz24_1 := blk_frozen BK221.out 1; have hfz24_2 := blk_frozen BK221.out 2; have hfz24_3 := blk_frozen BK221.out 3; have hfz24_4 := blk_frozen BK221.out 4) | ((with_reducible refine gate_callee (f := 80) rfl ?_); refine goesL_ (some 8) rfl rfl Try.func80 (by kernel_rfl) rfl #[.agg #[.int .i64 a0_0, .int .i64 a0_1, .int .i64 a0_2, .int .i64 a0_3, .slice A0_4 l0_4.length c0_4]] rfl (by (try simp only [List.map_toArray, List.map_cons, List.map_nil]); first | done | rfl | (simp only [List.length_drop, List.length_take]; rfl)) ?_; (with_reducible refine (bollardref12_CheckBatch.calls k a0_0 a0_1 a0_2 a0_3 _ _ l0_4 t222 _ ?side1 ?side2 A2.out).mono ?_); (case side1 => repeat (first | exact (Kd.C_below HR0_4.out HB.out) | (with_reducible refine Kd.C_alloc ?_ _) | (with_reducible refine Kd.C_drewN ?_ _) | (with_reducible refine Kd.C_drew ?_))); (case side2 => exact HC0_4.out); rintro e w25 ⟨rfl, hb⟩; refine ⟨_, rfl, ?_⟩; have n0_ := Aside0.mk (blk_below (g := gb221) (o := .cells #[.int .i64 a0_0, .int .i64 a0_1, .int .i64 a0_2, .int .i64 a0_3, .slice A0_4 l0_4.length c0_4] 101 (0, 0)) (by (with_reducible repeat (first | refine blk_drewN ?_ _ | refine blk_drew ?_ | refine blk_alloc ?_ _)); exact BK221.out) hb); have n1_ := Aside0.mk (below_step (by repeat (first | (with_reducible first | exact HB.out | apply below_alloc | apply pw_below_drewN | apply below_drew1 | refine below_set ?_ GE221.out) | exact HB.out)) hb); clear BK221; clear HB; have BK221 := n0_; have HB := n1_; clear n0_ n1_; (try clear hb); (try clear hb2); (try clear hk); (try clear hi)))
    go_ret2
    exact ⟨_, by first | rfl | (simp [errW_none, errW_some] <;> rfl) | (simp [*, errW_none, errW_some] <;> rfl), by first | exact Kd.R_nil _ _ _ _ _ | exact Kd.N_nil _ _ _ _ _ | exact Kd.V_nil _ _ _ _ _ | exact Kd.Q_nil _ _ _ _ _ | exact Kd.S_nil _ _ _ _ _, by repeat (first | (with_reducible first | exact HB.out | apply below_alloc | apply pw_below_drewN | apply below_drew1 | refine below_set ?_ GE221.out) | exact HB.out)⟩

-- NOT PRINTED: function 34 (bollardref20_Pen_field)

-- NOT PRINTED: function 35 (bollardref20_unbag)

-- NOT PRINTED: function 14 (bollardref20_Request)

-- NOT PRINTED: function 3 (bollardlaw20_CodecRequests)

/-! ### bollardalike_Round: function 17 -/
def bollardalike_Round.f (a0 : Int) (a1 : Int) : Option (Int) := if a1 = 0 then (none) else (if (Int.tmod a0 a1) < 0 then (some (wrap64 ((Int.tmod a0 a1) + a1))) else (some (Int.tmod a0 a1)))
set_option maxHeartbeats 8000000 in
set_option maxRecDepth 100000 in
theorem bollardalike_Round.calls (a0 : Int) (a1 : Int) (r : Int) (w : World) (h : bollardalike_Round.f a0 a1 = some r) :
    Calls Try.prog 17 #[.int .i64 a0, .int .i64 a1] w fun e w' => e = .returned (.int .i64 r) ∧ Drawn0 w w' := by
  have H : (if a1 = 0 then (none) else (if (Int.tmod a0 a1) < 0 then (some (wrap64 ((Int.tmod a0 a1) + a1))) else (some (Int.tmod a0 a1)))) = some r := h
  clear h
  by_cases c3 : a1 = 0
  · rw [if_pos c3] at H
    exact absurd H (by simp)
  · rw [if_neg c3] at H
    have c3b0 : (a1 == 0) = false := beq_eq_false_iff_ne.mpr c3
    have c3b1 : (a1 != 0) = true := bne_iff_ne.mpr c3
    by_cases c4 : (Int.tmod a0 a1) < 0
    · rw [if_pos c4] at H
      have c4b0 : decide ((Int.tmod a0 a1) < 0) = true := decide_eq_true c4
      clear c4
      obtain rfl := Option.some.inj H
      go_enter Try.func17, Try.ntmps17
      go_wp2
      go_ret
      exact ⟨by first | rfl | (simp; done) | (simp [*]; done) | exact congrArg Value.bool (ne_empty _) | exact congrArg Value.bool (eq_empty _), by repeat (first | exact Drawn0.refl _ | apply Drawn0.step)⟩
    · rw [if_neg c4] at H
      have c4b0 : decide ((Int.tmod a0 a1) < 0) = false := decide_eq_false c4
      clear c4
      obtain rfl := Option.some.inj H
      go_enter Try.func17, Try.ntmps17
      go_wp2
      go_ret
      exact ⟨by first | rfl | (simp; done) | (simp [*]; done) | exact congrArg Value.bool (ne_empty _) | exact congrArg Value.bool (eq_empty _), by repeat (first | exact Drawn0.refl _ | apply Drawn0.step)⟩

/-! ### bollardlaw20_CodecCuts -/
open Classical in
noncomputable def bollardlaw20_CodecCuts.f (_ : Nat) (a0_0 : Int) (a0_1 : Int) (a0_2 : ByteArray) (a0_3 : Int) (a0_4 : Int) (a0_5 : Int) (a0_6 : Int) (a0_7 : Int) (a0_8 : Bool) (a0_9 : Int) (a0_10 : Int) (a0_11 : Int) (l0_12 : List (S98)) (a0_13 : Int) (a0_14 : Int) (a0_15 : Int) (a0_16 : ByteArray) (a1 : Int) : Option Bool := if ((Lit.int .i64 a0_0).wf = true) ∧ ((Lit.int .i64 a0_1).wf = true) ∧ (a0_2.size ≤ 140737488351232) ∧ ((Lit.int .i64 a0_3).wf = true) ∧ ((Lit.int .i64 a0_4).wf = true) ∧ ((Lit.int .i64 a0_5).wf = true) ∧ ((Lit.int .i64 a0_6).wf = true) ∧ ((Lit.int .i64 a0_7).wf = true) ∧ ((Lit.int .i64 a0_9).wf = true) ∧ ((Lit.int .i64 a0_10).wf = true) ∧ ((Lit.int .i64 a0_11).wf = true) ∧ ((l0_12.length * 64 ≤ 140737488351232 ∧ ∀ y0 ∈ l0_12, (True ∧ (y0.f1.size ≤ 140737488351232 ∧ (True ∧ (y0.f3.size ≤ 140737488351232 ∧ ((Lit.int .i64 y0.f4).wf = true ∧ (Lit.int .i64 y0.f5).wf = true))))))) ∧ ((Lit.int .i64 a0_13).wf = true) ∧ ((Lit.int .i64 a0_14).wf = true) ∧ ((Lit.int .i64 a0_15).wf = true) ∧ (a0_16.size ≤ 140737488351232) ∧ ((Lit.int .i64 a1).wf = true) then some true else none

/-- THE ONE PURE STATEMENT of bollardlaw20_CodecCuts: mine. -/
def bollardlaw20_CodecCuts.Pure : Prop := ∀ (a0_0 : Int) (a0_1 : Int) (a0_2 : ByteArray) (a0_3 : Int) (a0_4 : Int) (a0_5 : Int) (a0_6 : Int) (a0_7 : Int) (a0_8 : Bool) (a0_9 : Int) (a0_10 : Int) (a0_11 : Int) (l0_12 : List (S98)) (a0_13 : Int) (a0_14 : Int) (a0_15 : Int) (a0_16 : ByteArray) (a1 : Int), (Lit.int .i64 a0_0).wf = true → (Lit.int .i64 a0_1).wf = true → a0_2.size ≤ 140737488351232 → (Lit.int .i64 a0_3).wf = true → (Lit.int .i64 a0_4).wf = true → (Lit.int .i64 a0_5).wf = true → (Lit.int .i64 a0_6).wf = true → (Lit.int .i64 a0_7).wf = true → (Lit.int .i64 a0_9).wf = true → (Lit.int .i64 a0_10).wf = true → (Lit.int .i64 a0_11).wf = true → (l0_12.length * 64 ≤ 140737488351232 ∧ ∀ y0 ∈ l0_12, (True ∧ (y0.f1.size ≤ 140737488351232 ∧ (True ∧ (y0.f3.size ≤ 140737488351232 ∧ ((Lit.int .i64 y0.f4).wf = true ∧ (Lit.int .i64 y0.f5).wf = true)))))) → (Lit.int .i64 a0_13).wf = true → (Lit.int .i64 a0_14).wf = true → (Lit.int .i64 a0_15).wf = true → a0_16.size ≤ 140737488351232 → (Lit.int .i64 a1).wf = true → ∃ k, bollardlaw20_CodecCuts.f k a0_0 a0_1 a0_2 a0_3 a0_4 a0_5 a0_6 a0_7 a0_8 a0_9 a0_10 a0_11 l0_12 a0_13 a0_14 a0_15 a0_16 a1 = some true

end Go.Proofs.Ytncfofnikmfjbaa.PCi

-- written by a program of this session (wip/tools/pr.py, over the kit's printer): not by hand
namespace Go.Proofs.Ytncfofnikmfjbaa.PCi
open Go.RowKit Go.Proofs.YtncfofnikmfjbaaW.PrintWords Go.Proofs.YtncfofnikmfjbaaW.PrintLast Go.Proofs.YtncfofnikmfjbaaW.PrintMore
attribute [local go_sem] max2_int min2_int max_two min_two max_three min_three max_four min_four   -- for this text's walks alone
set_option linter.unusedVariables false
set_option linter.unusedSimpArgs false

theorem eqA98 (d : Nat) (w : World) (x0 y0 : Bool) (x1 y1 : ByteArray) (x2 y2 : Bool) (x3 y3 : ByteArray) (x4 y4 : Int) (x5 y5 : Int) :
    (Op.equalIn (d + 2) 98 (.agg #[.bool x0, .string x1, .bool x2, .string x3, .int .i64 x4, .int .i64 x5]) (.agg #[.bool y0, .string y1, .bool y2, .string y3, .int .i64 y4, .int .i64 y5])).run Try.prog w = .ok (x0 == y0 && (x1.toList == y1.toList && (x2 == y2 && (x3.toList == y3.toList && (x4 == y4 && (x5 == y5)))))) w := by
  refine eqA_of Try.underlying98 (by kernel_rfl) ?_
  refine eqf_cons (by rfl) (by go_simp; rfl) (by go_simp; rfl) (by go_simp) ?_
  refine eqf_cons (by rfl) (by go_simp; rfl) (by go_simp; rfl) (by go_simp) ?_
  refine eqf_cons (by rfl) (by go_simp; rfl) (by go_simp; rfl) (by go_simp) ?_
  refine eqf_cons (by rfl) (by go_simp; rfl) (by go_simp; rfl) (by go_simp) ?_
  refine eqf_cons (by rfl) (by go_simp; rfl) (by go_simp; rfl) (by go_simp) ?_
  exact eqf_last (by rfl) (by go_simp; rfl) (by go_simp; rfl) (by go_simp)
end Go.Proofs.Ytncfofnikmfjbaa.PCi
