-- written by a program of this session (wip/tools/pr.py, over the kit's printer): not by hand
import Derived.Test.YtnfoknnbolgfjaaPLbx0
import Derived.Test.YtnfoknnbolgfjaaPLbx1
import Derived.Test.YtnfoknnbolgfjaaPLbx2
import Derived.Test.YtnfoknnbolgfjaaPLbx3
namespace Go.Proofs.Ytnfoknnbolgfjaa.PLb
open Go.RowKit Go.Proofs.YtnfoknnbolgfjaaW.PrintWords Go.Proofs.YtnfoknnbolgfjaaW.PrintLast Go.Proofs.YtnfoknnbolgfjaaW.PrintMore
attribute [local go_sem] max2_int min2_int max_two min_two max_three min_three max_four min_four   -- for this text's walks alone
set_option linter.unusedVariables false
set_option linter.unusedSimpArgs false

attribute [local go_sem high] eqA32
/-! ### bollardalike_Round: function 26 -/
def bollardalike_Round.f (a0 : Int) (a1 : Int) : Option (Int) := if a1 = 0 then (none) else (if (Int.tmod a0 a1) < 0 then (some (wrap64 ((Int.tmod a0 a1) + a1))) else (some (Int.tmod a0 a1)))
set_option maxHeartbeats 8000000 in
set_option maxRecDepth 100000 in
theorem bollardalike_Round.calls (a0 : Int) (a1 : Int) (r : Int) (w : World) (h : bollardalike_Round.f a0 a1 = some r) :
    Calls Try.prog 26 #[.int .i64 a0, .int .i64 a1] w fun e w' => e = .returned (.int .i64 r) ∧ Drawn0 w w' := by
  have H : (if a1 = 0 then (none) else (if (Int.tmod a0 a1) < 0 then (some (wrap64 ((Int.tmod a0 a1) + a1))) else (some (Int.tmod a0 a1)))) = some r := h
  clear h
  by_cases c3 : a1 = 0
  · rw [if_pos c3] at H
    exact absurd H (by simp)
  · rw [if_neg c3] at H
    have c3b0 : (a1 == 0) = false := beq_eq_false_iff_ne.mpr c3
    have c3b1 : (a1 != 0) = true := bne_iff_ne.mpr c3
    by_cases c4 : (Int.tmod a0 a1) < 0
    · rw [if_pos c4] at H
      have c4b0 : decide ((Int.tmod a0 a1) < 0) = true := decide_eq_true c4
      clear c4
      obtain rfl := Option.some.inj H
      go_enter Try.func26, Try.ntmps26
      go_wp2
      go_ret
      exact ⟨by first | rfl | (simp; done) | (simp [*]; done) | exact congrArg Value.bool (ne_empty _) | exact congrArg Value.bool (eq_empty _), by repeat (first | exact Drawn0.refl _ | apply Drawn0.step)⟩
    · rw [if_neg c4] at H
      have c4b0 : decide ((Int.tmod a0 a1) < 0) = false := decide_eq_false c4
      clear c4
      obtain rfl := Option.some.inj H
      go_enter Try.func26, Try.ntmps26
      go_wp2
      go_ret
      exact ⟨by first | rfl | (simp; done) | (simp [*]; done) | exact congrArg Value.bool (ne_empty _) | exact congrArg Value.bool (eq_empty _), by repeat (first | exact Drawn0.refl _ | apply Drawn0.step)⟩

/-! ### bollardlaw6_LayoutBack: function 11 -/
def bollardlaw6_LayoutBack.j0 : Nat → Int → Int → List Int → Bool → Option (Bool)
  | 0, _, _, _, _ => none
  | k + 1, x2, x3, x11, x48 => if x48 = true then (some false) else ((bollardalike_Round.f x2 512).bind fun t247 => ((bollardalike_Round.f x2 512).bind fun t248 => (if 0 ≤ t248 then (if t248 < (x11.length : Int) then ((bollardalike_Round.f x3 255).bind fun t250 => (if 0 ≤ t247 then (if t247 < (x11.length : Int) then ((layout_Decode.f k (x11.set (t247 : Int).toNat (Go.bits .xor .u8 (rd x11 t248) ((wrap64 (t250 + 1)) % 256)))).bind fun bt252 => (if bt252.2.2.2.2.2.2.2 = 10 then ((bollardlaw6_awake.f).bind fun t261 => (some t261)) else (some false))) else (none)) else (none))) else (none)) else (none))))
def bollardlaw6_LayoutBack.f (k : Nat) (a0 : Int) (a1 : Int) (a2 : Int) (a3 : Int) : Option (Bool) := (layout_Make.f a0 a1).bind fun bt225 => (if bt225.2.2.2.2.2.2.2 = 0 then ((layout_Encode.f k bt225.1 bt225.2.1 bt225.2.2.1 bt225.2.2.2.1 bt225.2.2.2.2.1 bt225.2.2.2.2.2.1 bt225.2.2.2.2.2.2.1).bind fun t235 => ((layout_Decode.f k t235).bind fun bt238 => (if bt238.2.2.2.2.2.2.2 = 0 then (if (!(bt238.1 == bt225.1) || (!(bt238.2.1 == bt225.2.1) || (!(bt238.2.2.1 == bt225.2.2.1) || (!(bt238.2.2.2.1 == bt225.2.2.2.1) || (!(bt238.2.2.2.2.1 == bt225.2.2.2.2.1) || (!(bt238.2.2.2.2.2.1 == bt225.2.2.2.2.2.1) || (!(bt238.2.2.2.2.2.2.1 == bt225.2.2.2.2.2.2.1)))))))) = true then (bollardlaw6_LayoutBack.j0 k a2 a3 t235 true) else (bollardlaw6_LayoutBack.j0 k a2 a3 t235 ((t235.length : Int) != 512))) else (bollardlaw6_LayoutBack.j0 k a2 a3 t235 true)))) else (if (bt225.1 == 0 && (bt225.2.1 == 0 && (bt225.2.2.1 == 0 && (bt225.2.2.2.1 == 0 && (bt225.2.2.2.2.1 == 0 && (bt225.2.2.2.2.2.1 == 0 && (bt225.2.2.2.2.2.2.1 == 0))))))) = true then ((bollardlaw6_awake.f).bind fun t234 => (some t234)) else (some false)))
set_option maxRecDepth 100000 in
theorem bollardlaw6_LayoutBack.mono_l : ∀ k, (∀ y0 y1 y2 y3, LeO (bollardlaw6_LayoutBack.j0 k y0 y1 y2 y3) (bollardlaw6_LayoutBack.j0 (k + 1) y0 y1 y2 y3))
  | 0 => fun _ _ _ _ r h => by first | exact nomatch (show (none : Option _) = some r from h) | (rw [bollardlaw6_LayoutBack.j0] at h; cases h; done) | (simp [bollardlaw6_LayoutBack.j0] at h; done)
  | k + 1 => by
    have ih0 := bollardlaw6_LayoutBack.mono_l k
    · intro y0 y1 y2 y3
      unfold bollardlaw6_LayoutBack.j0
      repeat' first
      | (with_reducible exact ih0 _ _ _ _)
      | (with_reducible exact layout_Decode.mono _ _)
      | (with_reducible exact layout_Encode.mono _ _ _ _ _ _ _ _)
      | (with_reducible exact LeO.refl _)
      | (with_reducible exact LeO.none _)
      | (with_reducible refine LeO.ite ?_ ?_)
      | (with_reducible refine LeO.bind ?_ (fun _ => ?_))
      | exact ih0 _ _ _ _
      | exact layout_Decode.mono _ _
      | exact layout_Encode.mono _ _ _ _ _ _ _ _
      | exact LeO.none _
      | refine LeO.ite ?_ ?_
      | refine LeO.bind ?_ (fun _ => ?_)
theorem bollardlaw6_LayoutBack.mono : ∀ a0 a1 a2 a3 k, LeO (bollardlaw6_LayoutBack.f k a0 a1 a2 a3) (bollardlaw6_LayoutBack.f (k + 1) a0 a1 a2 a3) := by
  intro a0 a1 a2 a3 k
  have ih0 := bollardlaw6_LayoutBack.mono_l k
  unfold bollardlaw6_LayoutBack.f
  repeat' first
      | (with_reducible exact ih0 _ _ _ _)
      | (with_reducible exact layout_Decode.mono _ _)
      | (with_reducible exact layout_Encode.mono _ _ _ _ _ _ _ _)
      | (with_reducible exact LeO.refl _)
      | (with_reducible exact LeO.none _)
      | (with_reducible refine LeO.ite ?_ ?_)
      | (with_reducible refine LeO.bind ?_ (fun _ => ?_))
      | exact ih0 _ _ _ _
      | exact layout_Decode.mono _ _
      | exact layout_Encode.mono _ _ _ _ _ _ _ _
      | exact LeO.none _
      | refine LeO.ite ?_ ?_
      | refine LeO.bind ?_ (fun _ => ?_)
def bollardlaw6_LayoutBack.T8 : Bool × List (List Nat × List Nat) := (true, [([], []), ([], []), ([1], [1]), ([], []), ([], []), ([4, 2], [4]), ([3, 5], [3, 5]), ([6], [6]), ([], []), ([8, 5], [8]), ([9], [9]), ([10], [10]), ([7, 11], [7, 11]), ([0, 2, 0, 1, 2, 3, 4, 5, 6, 7, 8, 9, 10, 11, 12], [0, 2]), ([13, 12, 9, 0, 1, 2, 3, 4, 5, 6, 7, 8, 9, 10, 11, 12], [12, 13])])
def bollardlaw6_LayoutBack.B8 : List Nat := [0, 0, 2, 0, 0, 22, 62, 126, 0, 310, 822, 1846, 4094, 8191, 16383]
theorem bollardlaw6_LayoutBack.tab8 : rtab .any (opsOf Try.f11 8) = bollardlaw6_LayoutBack.T8 := by kernel_rfl
theorem bollardlaw6_LayoutBack.bits8 : waitsOk bollardlaw6_LayoutBack.T8.2 bollardlaw6_LayoutBack.B8 = true := by kernel_rfl
set_option maxHeartbeats 8000000 in
set_option maxRecDepth 100000 in
theorem bollardlaw6_LayoutBack.calls (k : Nat) (a0 : Int) (a1 : Int) (a2 : Int) (a3 : Int) (r : Bool) (w : World) (h : bollardlaw6_LayoutBack.f k a0 a1 a2 a3 = some r) :
    Calls Try.prog 11 #[.int .i64 a0, .int .i64 a1, .int .i64 a2, .int .i64 a3] w fun e w' => e = .returned (.bool r) ∧ Below w.heap.size w w' := by
  have hu32 := Try.underlying32
  have HB := Aside0.mk (Below.refl w.heap.size w)
  have H : ((layout_Make.f a0 a1).bind fun bt225 => (if bt225.2.2.2.2.2.2.2 = 0 then ((layout_Encode.f k bt225.1 bt225.2.1 bt225.2.2.1 bt225.2.2.2.1 bt225.2.2.2.2.1 bt225.2.2.2.2.2.1 bt225.2.2.2.2.2.2.1).bind fun t235 => ((layout_Decode.f k t235).bind fun bt238 => (if bt238.2.2.2.2.2.2.2 = 0 then (if (!(bt238.1 == bt225.1) || (!(bt238.2.1 == bt225.2.1) || (!(bt238.2.2.1 == bt225.2.2.1) || (!(bt238.2.2.2.1 == bt225.2.2.2.1) || (!(bt238.2.2.2.2.1 == bt225.2.2.2.2.1) || (!(bt238.2.2.2.2.2.1 == bt225.2.2.2.2.2.1) || (!(bt238.2.2.2.2.2.2.1 == bt225.2.2.2.2.2.2.1)))))))) = true then (bollardlaw6_LayoutBack.j0 k a2 a3 t235 true) else (bollardlaw6_LayoutBack.j0 k a2 a3 t235 ((t235.length : Int) != 512))) else (bollardlaw6_LayoutBack.j0 k a2 a3 t235 true)))) else (if (bt225.1 == 0 && (bt225.2.1 == 0 && (bt225.2.2.1 == 0 && (bt225.2.2.2.1 == 0 && (bt225.2.2.2.2.1 == 0 && (bt225.2.2.2.2.2.1 == 0 && (bt225.2.2.2.2.2.2.1 == 0))))))) = true then ((bollardlaw6_awake.f).bind fun t234 => (some t234)) else (some false)))) = some r := h
  clear h
  replace H := Option.bind_eq_some_iff.mp H
  obtain ⟨⟨t225, t226, t227, t228, t229, t230, t231, t232⟩, A50, H⟩ := H
  replace H : (if t232 = 0 then ((layout_Encode.f k t225 t226 t227 t228 t229 t230 t231).bind fun t235 => ((layout_Decode.f k t235).bind fun bt238 => (if bt238.2.2.2.2.2.2.2 = 0 then (if (!(bt238.1 == t225) || (!(bt238.2.1 == t226) || (!(bt238.2.2.1 == t227) || (!(bt238.2.2.2.1 == t228) || (!(bt238.2.2.2.2.1 == t229) || (!(bt238.2.2.2.2.2.1 == t230) || (!(bt238.2.2.2.2.2.2.1 == t231)))))))) = true then (bollardlaw6_LayoutBack.j0 k a2 a3 t235 true) else (bollardlaw6_LayoutBack.j0 k a2 a3 t235 ((t235.length : Int) != 512))) else (bollardlaw6_LayoutBack.j0 k a2 a3 t235 true)))) else (if (t225 == 0 && (t226 == 0 && (t227 == 0 && (t228 == 0 && (t229 == 0 && (t230 == 0 && (t231 == 0))))))) = true then ((bollardlaw6_awake.f).bind fun t234 => (some t234)) else (some false))) = some r := H
  have A5 := Aside0.mk A50
  clear A50
  by_cases c6 : t232 = 0
  · rw [if_pos c6] at H
    have c6b0 : (t232 == 0) = true := beq_iff_eq.mpr c6
    have c6b1 : (t232 != 0) = false := bne_eq_false_iff_eq.mpr c6
    clear c6
    replace H := Option.bind_eq_some_iff.mp H
    obtain ⟨t235, A70, H⟩ := H
    replace H : ((layout_Decode.f k t235).bind fun bt238 => (if bt238.2.2.2.2.2.2.2 = 0 then (if (!(bt238.1 == t225) || (!(bt238.2.1 == t226) || (!(bt238.2.2.1 == t227) || (!(bt238.2.2.2.1 == t228) || (!(bt238.2.2.2.2.1 == t229) || (!(bt238.2.2.2.2.2.1 == t230) || (!(bt238.2.2.2.2.2.2.1 == t231)))))))) = true then (bollardlaw6_LayoutBack.j0 k a2 a3 t235 true) else (bollardlaw6_LayoutBack.j0 k a2 a3 t235 ((t235.length : Int) != 512))) else (bollardlaw6_LayoutBack.j0 k a2 a3 t235 true))) = some r := H
    have A7 := Aside0.mk A70
    clear A70
    replace H := Option.bind_eq_some_iff.mp H
    obtain ⟨⟨t238, t239, t240, t241, t242, t243, t244, t245⟩, A80, H⟩ := H
    replace H : (if t245 = 0 then (if (!(t238 == t225) || (!(t239 == t226) || (!(t240 == t227) || (!(t241 == t228) || (!(t242 == t229) || (!(t243 == t230) || (!(t244 == t231)))))))) = true then (bollardlaw6_LayoutBack.j0 k a2 a3 t235 true) else (bollardlaw6_LayoutBack.j0 k a2 a3 t235 ((t235.length : Int) != 512))) else (bollardlaw6_LayoutBack.j0 k a2 a3 t235 true)) = some r := H
    have A8 := Aside0.mk A80
    clear A80
    have HC9 := Aside0.mk H
    clear H
    go_enter Try.func11, Try.ntmps11
    go_upto_region 6 with (first | ((with_reducible refine gate_callee (f := 18) rfl ?_); refine goesL_ (some 19) rfl rfl Try.func18 (by kernel_rfl) rfl #[.int .i64 a0, .int .i64 a1] rfl (by (try simp only [List.map_toArray, List.map_cons, List.map_nil]); first | done | rfl | (simp only [List.length_drop, List.length_take]; rfl)) ?_; (with_reducible refine (layout_Make.calls a0 a1 t225 t226 t227 t228 t229 t230 t231 t232 _ A5.out).mono ?_); rintro e w10 ⟨rfl, hb⟩; refine ⟨_, rfl, ?_⟩; have n0_ := Aside0.mk (below_step (by repeat (first | (with_reducible first | exact HB.out | apply below_alloc | apply pw_below_drewN | apply below_drew1) | exact HB.out)) hb); clear HB; have HB := n0_; clear n0_; (try clear hb); (try clear hb2); (try clear hk); (try clear hi)) | ((with_reducible refine gate_dst (N := 9) rfl ?_); (try (refine gate_guard (by rfl) ?_; dsimp only)); refine box_event ?hg (N := 9) ?hd (cs := #[.int .i64 0, .int .i64 0, .int .i64 0, .int .i64 0, .int .i64 0, .int .i64 0, .int .i64 0]) (t := 32) ?hr ?_; (case hd => rfl); (case hg => rfl); (case hr => first | (go_simp; done) | (go_simp; rfl)); intro gb233 hg w11 hbox hb; have n0_ := Aside0.mk (below_step (by repeat (first | (with_reducible first | exact HB.out | apply below_alloc | apply pw_below_drewN | apply below_drew1) | exact HB.out)) hb); have n1_ := Aside0.mk (hbox); have n2_ := Aside0.mk ((by rw [hg]; exact (below_size (by repeat (first | (with_reducible first | exact HB.out | apply below_alloc | apply pw_below_drewN | apply below_drew1) | exact HB.out))) : w.heap.size ≤ gb233)); have n3_ := Aside0.mk ((by rw [hg]; exact (below_size (by repeat (first | (with_reducible first | exact HB.out | apply below_alloc | apply pw_below_drewN | apply below_drew1) | exact HB.out))) : w.heap.size ≤ gb233)); clear HB; have HB := n0_; have BK233 := n1_; have GW233 := n2_; have GE233 := n3_; clear n0_ n1_ n2_ n3_; clear hb hbox hg; have hcz12_0 : w11.cell? ⟨gb233, 0, none⟩ = some (.int .i64 0) := (blk_cell BK233.out 0).trans rfl; have hcz12_1 : w11.cell? ⟨gb233, 1, none⟩ = some (.int .i64 0) := (blk_cell BK233.out 1).trans rfl; have hcz12_2 : w11.cell? ⟨gb233, 2, none⟩ = some (.int .i64 0) := (blk_cell BK233.out 2).trans rfl; have hcz12_3 : w11.cell? ⟨gb233, 3, none⟩ = some (.int .i64 0) := (blk_cell BK233.out 3).trans rfl; have hcz12_4 : w11.cell? ⟨gb233, 4, none⟩ = some (.int .i64 0) := (blk_cell BK233.out 4).trans rfl; have hcz12_5 : w11.cell? ⟨gb233, 5, none⟩ = some (.int .i64 0) := (blk_cell BK233.out 5).trans rfl; have hcz12_6 : w11.cell? ⟨gb233, 6, none⟩ = some (.int .i64 0) := (blk_cell BK233.out 6).trans rfl; have hfz12_0 := blk_frozen BK233.out 0; have hfz12_1 := blk_frozen BK233.out 1; have hfz12_2 := blk_frozen BK233.out 2; have hfz12_3 := blk_frozen BK233.out 3; have hfz12_4 := blk_frozen BK233.out 4; have hfz12_5 := blk_frozen BK233.out 5; have hfz12_6 := blk_frozen BK233.out 6) | ((with_reducible refine gate_callee (f := 24) rfl ?_); refine goesL_ (some 31) rfl rfl Try.func24 (by kernel_rfl) rfl #[.agg #[.int .i64 t225, .int .i64 t226, .int .i64 t227, .int .i64 t228, .int .i64 t229, .int .i64 t230, .int .i64 t231]] rfl (by (try simp only [List.map_toArray, List.map_cons, List.map_nil]); first | done | rfl | (simp only [List.length_drop, List.length_take]; rfl)) ?_; (with_reducible refine (layout_Encode.calls k t225 t226 t227 t228 t229 t230 t231 t235 _ A7.out).mono ?_); rintro e w13 ⟨v236, rfl, ho0, hb⟩; refine ⟨_, rfl, ?_⟩; have n0_ := Aside0.mk (Kd.R_lower ho0 (below_size (by repeat (first | (with_reducible first | exact HB.out | apply below_alloc | apply pw_below_drewN | apply below_drew1 | refine below_set ?_ GE233.out) | exact HB.out)))); have n1_ := Aside0.mk (blk_below (g := gb233) (o := .cells #[.int .i64 t225, .int .i64 t226, .int .i64 t227, .int .i64 t228, .int .i64 t229, .int .i64 t230, .int .i64 t231] 32 (0, 0)) (by (with_reducible repeat (first | refine blk_drewN ?_ _ | refine blk_drew ?_ | refine blk_alloc ?_ _)); refine blk_put (cs := #[.int .i64 t225, .int .i64 t226, .int .i64 t227, .int .i64 t228, .int .i64 t229, .int .i64 t230, .int .i64 0]) ?_ 6 _ (by first | rfl | (simp only [*, List.setIfInBounds_toArray, List.set_cons_zero, List.set_cons_succ]; done) | (simp [*]; done)); (with_reducible repeat (first | refine blk_drewN ?_ _ | refine blk_drew ?_ | refine blk_alloc ?_ _)); refine blk_put (cs := #[.int .i64 t225, .int .i64 t226, .int .i64 t227, .int .i64 t228, .int .i64 t229, .int .i64 0, .int .i64 0]) ?_ 5 _ (by first | rfl | (simp only [*, List.setIfInBounds_toArray, List.set_cons_zero, List.set_cons_succ]; done) | (simp [*]; done)); (with_reducible repeat (first | refine blk_drewN ?_ _ | refine blk_drew ?_ | refine blk_alloc ?_ _)); refine blk_put (cs := #[.int .i64 t225, .int .i64 t226, .int .i64 t227, .int .i64 t228, .int .i64 0, .int .i64 0, .int .i64 0]) ?_ 4 _ (by first | rfl | (simp only [*, List.setIfInBounds_toArray, List.set_cons_zero, List.set_cons_succ]; done) | (simp [*]; done)); (with_reducible repeat (first | refine blk_drewN ?_ _ | refine blk_drew ?_ | refine blk_alloc ?_ _)); refine blk_put (cs := #[.int .i64 t225, .int .i64 t226, .int .i64 t227, .int .i64 0, .int .i64 0, .int .i64 0, .int .i64 0]) ?_ 3 _ (by first | rfl | (simp only [*, List.setIfInBounds_toArray, List.set_cons_zero, List.set_cons_succ]; done) | (simp [*]; done)); (with_reducible repeat (first | refine blk_drewN ?_ _ | refine blk_drew ?_ | refine blk_alloc ?_ _)); refine blk_put (cs := #[.int .i64 t225, .int .i64 t226, .int .i64 0, .int .i64 0, .int .i64 0, .int .i64 0, .int .i64 0]) ?_ 2 _ (by first | rfl | (simp only [*, List.setIfInBounds_toArray, List.set_cons_zero, List.set_cons_succ]; done) | (simp [*]; done)); (with_reducible repeat (first | refine blk_drewN ?_ _ | refine blk_drew ?_ | refine blk_alloc ?_ _)); refine blk_put (cs := #[.int .i64 t225, .int .i64 0, .int .i64 0, .int .i64 0, .int .i64 0, .int .i64 0, .int .i64 0]) ?_ 1 _ (by first | rfl | (simp only [*, List.setIfInBounds_toArray, List.set_cons_zero, List.set_cons_succ]; done) | (simp [*]; done)); (with_reducible repeat (first | refine blk_drewN ?_ _ | refine blk_drew ?_ | refine blk_alloc ?_ _)); refine blk_put (cs := #[.int .i64 0, .int .i64 0, .int .i64 0, .int .i64 0, .int .i64 0, .int .i64 0, .int .i64 0]) ?_ 0 _ (by first | rfl | (simp only [*, List.setIfInBounds_toArray, List.set_cons_zero, List.set_cons_succ]; done) | (simp [*]; done)); (with_reducible repeat (first | refine blk_drewN ?_ _ | refine blk_drew ?_ | refine blk_alloc ?_ _)); exact BK233.out) hb); have n2_ := Aside0.mk (below_step (by repeat (first | (with_reducible first | exact HB.out | apply below_alloc | apply pw_below_drewN | apply below_drew1 | refine below_set ?_ GE233.out) | exact HB.out)) hb); clear BK233; clear HB; have HO237 := n0_; have BK233 := n1_; have HB := n2_; clear n0_ n1_ n2_; (try clear hb); (try clear hb2); (try clear hk); (try clear hi); (try clear ho0); obtain ⟨Ao14, co14, eo14⟩ := Kd.R_slice HO237.out; subst eo14) | ((with_reducible refine gate_callee (f := 21) rfl ?_); refine goesL_ (some 34) rfl rfl Try.func21 (by kernel_rfl) rfl #[.slice Ao14 t235.length co14] rfl (by (try simp only [List.map_toArray, List.map_cons, List.map_nil]); first | done | rfl | (simp only [List.length_drop, List.length_take]; rfl)) ?_; (with_reducible refine (layout_Decode.calls k _ _ t235 t238 t239 t240 t241 t242 t243 t244 t245 _ ?side1 ?side2 A8.out).mono ?_); (case side1 => repeat (first | exact (Kd.R_reads' HO237.out).2.2 | (with_reducible refine Kd.C_alloc ?_ _) | (with_reducible refine Kd.C_drewN ?_ _) | (with_reducible refine Kd.C_drew ?_))); (case side2 => exact (Kd.R_reads' HO237.out).2.1); rintro e w15 ⟨rfl, hb⟩; refine ⟨_, rfl, ?_⟩; have n0_ := Aside0.mk (Kd.R_below (by (with_reducible repeat (first | apply Kd.R_alloc | apply Kd.R_drewN | apply Kd.R_drew)); exact HO237.out) hb); have n1_ := Aside0.mk (blk_below (g := gb233) (o := .cells #[.int .i64 t225, .int .i64 t226, .int .i64 t227, .int .i64 t228, .int .i64 t229, .int .i64 t230, .int .i64 t231] 32 (0, 0)) (by (with_reducible repeat (first | refine blk_drewN ?_ _ | refine blk_drew ?_ | refine blk_alloc ?_ _)); exact BK233.out) hb); have n2_ := Aside0.mk (below_step (by repeat (first | (with_reducible first | exact HB.out | apply below_alloc | apply pw_below_drewN | apply below_drew1 | refine below_set ?_ GE233.out) | exact HB.out)) hb); clear HO237; clear BK233; clear HB; have HO237 := n0_; have BK233 := n1_; have HB := n2_; clear n0_ n1_ n2_; (try clear hb); (try clear hb2); (try clear hk); (try clear hi)) | ((with_reducible refine gate_dst (N := 12) rfl ?_); (try (refine gate_guard (by rfl) ?_; dsimp only)); refine box_event ?hg (N := 12) ?hd (cs := #[.int .i64 0, .int .i64 0, .int .i64 0, .int .i64 0, .int .i64 0, .int .i64 0, .int .i64 0]) (t := 32) ?hr ?_; (case hd => rfl); (case hg => rfl); (case hr => first | (go_simp; done) | (go_simp; rfl)); intro gb246 hg w16 hbox hb; have n0_ := Aside0.mk (Kd.R_below (by (with_reducible repeat (first | apply Kd.R_alloc | apply Kd.R_drewN | apply Kd.R_drew)); exact HO237.out) hb); have n1_ := Aside0.mk (blk_below (g := gb233) (o := .cells #[.int .i64 t225, .int .i64 t226, .int .i64 t227, .int .i64 t228, .int .i64 t229, .int .i64 t230, .int .i64 t231] 32 (0, 0)) (by (with_reducible repeat (first | refine blk_drewN ?_ _ | refine blk_drew ?_ | refine blk_alloc ?_ _)); exact BK233.out) hb); have n2_ := Aside0.mk (below_step (by repeat (first | (with_reducible first | exact HB.out | apply below_alloc | apply pw_below_drewN | apply below_drew1 | refine below_set ?_ GE233.out) | exact HB.out)) hb); have n3_ := Aside0.mk (hbox); have n4_ := Aside0.mk ((by rw [hg]; exact (below_size (by repeat (first | (with_reducible first | exact HB.out | apply below_alloc | apply pw_below_drewN | apply below_drew1 | refine below_set ?_ GE233.out) | exact HB.out))) : w.heap.size ≤ gb246)); have n5_ := Aside0.mk ((by rw [hg]; exact (below_size (by repeat (first | (with_reducible first | exact HB.out | apply below_alloc | apply pw_below_drewN | apply below_drew1 | refine below_set ?_ GE233.out) | exact HB.out))) : w.heap.size ≤ gb246)); have n6_ := Aside0.mk ((by rw [hg]; exact Nat.ne_of_lt (blk_lt (g := gb233) (o := .cells #[.int .i64 t225, .int .i64 t226, .int .i64 t227, .int .i64 t228, .int .i64 t229, .int .i64 t230, .int .i64 t231] 32 (0, 0)) (by (with_reducible repeat (first | refine blk_drewN ?_ _ | refine blk_drew ?_ | refine blk_alloc ?_ _)); exact BK233.out)) : gb233 ≠ gb246)); have n7_ := Aside0.mk ((by rw [hg]; exact Nat.ne_of_gt (blk_lt (g := gb233) (o := .cells #[.int .i64 t225, .int .i64 t226, .int .i64 t227, .int .i64 t228, .int .i64 t229, .int .i64 t230, .int .i64 t231] 32 (0, 0)) (by (with_reducible repeat (first | refine blk_drewN ?_ _ | refine blk_drew ?_ | refine blk_alloc ?_ _)); exact BK233.out)) : gb246 ≠ gb233)); clear HO237; clear BK233; clear HB; have HO237 := n0_; have BK233 := n1_; have HB := n2_; have BK246 := n3_; have GW246 := n4_; have GE246 := n5_; have NB233_246 := n6_; have NB246_233 := n7_; clear n0_ n1_ n2_ n3_ n4_ n5_ n6_ n7_; clear hb hbox hg; have hnb17 := NB246_233.out; have hnc17 := NB233_246.out; have hcz18_0 : w16.cell? ⟨gb246, 0, none⟩ = some (.int .i64 0) := (blk_cell BK246.out 0).trans rfl; have hcz18_1 : w16.cell? ⟨gb246, 1, none⟩ = some (.int .i64 0) := (blk_cell BK246.out 1).trans rfl; have hcz18_2 : w16.cell? ⟨gb246, 2, none⟩ = some (.int .i64 0) := (blk_cell BK246.out 2).trans rfl; have hcz18_3 : w16.cell? ⟨gb246, 3, none⟩ = some (.int .i64 0) := (blk_cell BK246.out 3).trans rfl; have hcz18_4 : w16.cell? ⟨gb246, 4, none⟩ = some (.int .i64 0) := (blk_cell BK246.out 4).trans rfl; have hcz18_5 : w16.cell? ⟨gb246, 5, none⟩ = some (.int .i64 0) := (blk_cell BK246.out 5).trans rfl; have hcz18_6 : w16.cell? ⟨gb246, 6, none⟩ = some (.int .i64 0) := (blk_cell BK246.out 6).trans rfl; have hfz18_0 := blk_frozen BK246.out 0; have hfz18_1 := blk_frozen BK246.out 1; have hfz18_2 := blk_frozen BK246.out 2; have hfz18_3 := blk_frozen BK246.out 3; have hfz18_4 := blk_frozen BK246.out 4; have hfz18_5 := blk_frozen BK246.out 5; have hfz18_6 := blk_frozen BK246.out 6))
    (try simp only [Act.put, List.setIfInBounds_toArray, List.set_cons_zero, List.set_cons_succ])
    go_cut [48] (fun v48 wc => ∃ (kq : Nat) (x48_8 : Bool), v48 = .bool x48_8 ∧ Aside0 (bollardlaw6_LayoutBack.j0 kq a2 a3 t235 x48_8 = some r) ∧ Aside0 (kq ≤ k) ∧ Aside0 (Kd.R (Kd.int .u8) 5 wc w.heap.size (fun _ => True) (.slice Ao14 t235.length co14) t235) ∧ Aside0 (wc.heap[gb233]? = some (.cells #[.int .i64 t225, .int .i64 t226, .int .i64 t227, .int .i64 t228, .int .i64 t229, .int .i64 t230, .int .i64 t231] 32 (0, 0))) ∧ Aside0 (wc.heap[gb246]? = some (.cells #[.int .i64 t238, .int .i64 t239, .int .i64 t240, .int .i64 t241, .int .i64 t242, .int .i64 t243, .int .i64 t244] 32 (0, 0))) ∧ Aside0 (Below w.heap.size w wc))
    case first =>
      have H := HC9.out
      clear HC9
      by_cases c19 : t245 = 0
      · rw [if_pos c19] at H
        have c19b0 : (t245 == 0) = true := beq_iff_eq.mpr c19
        have c19b1 : (t245 != 0) = false := bne_eq_false_iff_eq.mpr c19
        clear c19
        (first | rw [c19b0] | (simp only [i64_w, i32_w]; rw [c19b0]) | skip)
        by_cases c20 : (!(t238 == t225) || (!(t239 == t226) || (!(t240 == t227) || (!(t241 == t228) || (!(t242 == t229) || (!(t243 == t230) || (!(t244 == t231)))))))) = true
        · rw [if_pos c20] at H
          have c20b0 : (!(t238 == t225) || (!(t239 == t226) || (!(t240 == t227) || (!(t241 == t228) || (!(t242 == t229) || (!(t243 == t230) || (!(t244 == t231)))))))) = true := c20
          clear c20
          have H' := Aside0.mk H
          clear H
          have hnb21 := NB246_233.out
          have hnc21 := NB233_246.out
          have hcz22_0 : w16.cell? ⟨gb246, 0, none⟩ = some (.int .i64 0) := (blk_cell BK246.out 0).trans rfl
          have hcz22_1 : w16.cell? ⟨gb246, 1, none⟩ = some (.int .i64 0) := (blk_cell BK246.out 1).trans rfl
          have hcz22_2 : w16.cell? ⟨gb246, 2, none⟩ = some (.int .i64 0) := (blk_cell BK246.out 2).trans rfl
          have hcz22_3 : w16.cell? ⟨gb246, 3, none⟩ = some (.int .i64 0) := (blk_cell BK246.out 3).trans rfl
          have hcz22_4 : w16.cell? ⟨gb246, 4, none⟩ = some (.int .i64 0) := (blk_cell BK246.out 4).trans rfl
          have hcz22_5 : w16.cell? ⟨gb246, 5, none⟩ = some (.int .i64 0) := (blk_cell BK246.out 5).trans rfl
          have hcz22_6 : w16.cell? ⟨gb246, 6, none⟩ = some (.int .i64 0) := (blk_cell BK246.out 6).trans rfl
          have hfz22_0 := blk_frozen BK246.out 0
          have hfz22_1 := blk_frozen BK246.out 1
          have hfz22_2 := blk_frozen BK246.out 2
          have hfz22_3 := blk_frozen BK246.out 3
          have hfz22_4 := blk_frozen BK246.out 4
          have hfz22_5 := blk_frozen BK246.out 5
          have hfz22_6 := blk_frozen BK246.out 6
          have hcz23_0 : w16.cell? ⟨gb233, 0, none⟩ = some (.int .i64 t225) := (blk_cell BK233.out 0).trans rfl
          have hcz23_1 : w16.cell? ⟨gb233, 1, none⟩ = some (.int .i64 t226) := (blk_cell BK233.out 1).trans rfl
          have hcz23_2 : w16.cell? ⟨gb233, 2, none⟩ = some (.int .i64 t227) := (blk_cell BK233.out 2).trans rfl
          have hcz23_3 : w16.cell? ⟨gb233, 3, none⟩ = some (.int .i64 t228) := (blk_cell BK233.out 3).trans rfl
          have hcz23_4 : w16.cell? ⟨gb233, 4, none⟩ = some (.int .i64 t229) := (blk_cell BK233.out 4).trans rfl
          have hcz23_5 : w16.cell? ⟨gb233, 5, none⟩ = some (.int .i64 t230) := (blk_cell BK233.out 5).trans rfl
          have hcz23_6 : w16.cell? ⟨gb233, 6, none⟩ = some (.int .i64 t231) := (blk_cell BK233.out 6).trans rfl
          have hfz23_0 := blk_frozen BK233.out 0
          have hfz23_1 := blk_frozen BK233.out 1
          have hfz23_2 := blk_frozen BK233.out 2
          have hfz23_3 := blk_frozen BK233.out 3
          have hfz23_4 := blk_frozen BK233.out 4
          have hfz23_5 := blk_frozen BK233.out 5
          have hfz23_6 := blk_frozen BK233.out 6
          go_wp2
          go_meet
          case rel => exact ⟨_, (true), (by first | rfl | (simp; done) | (simp [*]; done) | exact congrArg Value.bool (ne_empty _) | exact congrArg Value.bool (eq_empty _)), H', ⟨by first | omega | exact Nat.le_refl _⟩, ⟨by (with_reducible repeat (first | apply Kd.R_alloc | apply Kd.R_drewN | apply Kd.R_drew)); exact Kd.R_mono (Kd.R_far (p := ⟨gb246, 6, none⟩) (Kd.R_far (p := ⟨gb246, 5, none⟩) (Kd.R_far (p := ⟨gb246, 4, none⟩) (Kd.R_far (p := ⟨gb246, 3, none⟩) (Kd.R_far (p := ⟨gb246, 2, none⟩) (Kd.R_far (p := ⟨gb246, 1, none⟩) (Kd.R_far (p := ⟨gb246, 0, none⟩) (Kd.R_types HO237.out BK246.out (by decide)) (fun _ hk => hk.2) (.int .i64 t238)) (fun _ hk => hk.2) (.int .i64 t239)) (fun _ hk => hk.2) (.int .i64 t240)) (fun _ hk => hk.2) (.int .i64 t241)) (fun _ hk => hk.2) (.int .i64 t242)) (fun _ hk => hk.2) (.int .i64 t243)) (fun _ hk => hk.2) (.int .i64 t244)) (fun _ hk => trivial)⟩, ⟨by (with_reducible repeat (first | refine blk_drewN ?_ _ | refine blk_drew ?_ | refine blk_alloc ?_ _)); refine blk_far ?_ NB233_246.out _; (with_reducible repeat (first | refine blk_drewN ?_ _ | refine blk_drew ?_ | refine blk_alloc ?_ _)); refine blk_far ?_ NB233_246.out _; (with_reducible repeat (first | refine blk_drewN ?_ _ | refine blk_drew ?_ | refine blk_alloc ?_ _)); refine blk_far ?_ NB233_246.out _; (with_reducible repeat (first | refine blk_drewN ?_ _ | refine blk_drew ?_ | refine blk_alloc ?_ _)); refine blk_far ?_ NB233_246.out _; (with_reducible repeat (first | refine blk_drewN ?_ _ | refine blk_drew ?_ | refine blk_alloc ?_ _)); refine blk_far ?_ NB233_246.out _; (with_reducible repeat (first | refine blk_drewN ?_ _ | refine blk_drew ?_ | refine blk_alloc ?_ _)); refine blk_far ?_ NB233_246.out _; (with_reducible repeat (first | refine blk_drewN ?_ _ | refine blk_drew ?_ | refine blk_alloc ?_ _)); refine blk_far ?_ NB233_246.out _; (with_reducible repeat (first | refine blk_drewN ?_ _ | refine blk_drew ?_ | refine blk_alloc ?_ _)); exact BK233.out⟩, ⟨by (with_reducible repeat (first | refine blk_drewN ?_ _ | refine blk_drew ?_ | refine blk_alloc ?_ _)); refine blk_put (cs := #[.int .i64 t238, .int .i64 t239, .int .i64 t240, .int .i64 t241, .int .i64 t242, .int .i64 t243, .int .i64 0]) ?_ 6 _ (by first | rfl | (simp only [*, List.setIfInBounds_toArray, List.set_cons_zero, List.set_cons_succ]; done) | (simp [*]; done)); (with_reducible repeat (first | refine blk_drewN ?_ _ | refine blk_drew ?_ | refine blk_alloc ?_ _)); refine blk_put (cs := #[.int .i64 t238, .int .i64 t239, .int .i64 t240, .int .i64 t241, .int .i64 t242, .int .i64 0, .int .i64 0]) ?_ 5 _ (by first | rfl | (simp only [*, List.setIfInBounds_toArray, List.set_cons_zero, List.set_cons_succ]; done) | (simp [*]; done)); (with_reducible repeat (first | refine blk_drewN ?_ _ | refine blk_drew ?_ | refine blk_alloc ?_ _)); refine blk_put (cs := #[.int .i64 t238, .int .i64 t239, .int .i64 t240, .int .i64 t241, .int .i64 0, .int .i64 0, .int .i64 0]) ?_ 4 _ (by first | rfl | (simp only [*, List.setIfInBounds_toArray, List.set_cons_zero, List.set_cons_succ]; done) | (simp [*]; done)); (with_reducible repeat (first | refine blk_drewN ?_ _ | refine blk_drew ?_ | refine blk_alloc ?_ _)); refine blk_put (cs := #[.int .i64 t238, .int .i64 t239, .int .i64 t240, .int .i64 0, .int .i64 0, .int .i64 0, .int .i64 0]) ?_ 3 _ (by first | rfl | (simp only [*, List.setIfInBounds_toArray, List.set_cons_zero, List.set_cons_succ]; done) | (simp [*]; done)); (with_reducible repeat (first | refine blk_drewN ?_ _ | refine blk_drew ?_ | refine blk_alloc ?_ _)); refine blk_put (cs := #[.int .i64 t238, .int .i64 t239, .int .i64 0, .int .i64 0, .int .i64 0, .int .i64 0, .int .i64 0]) ?_ 2 _ (by first | rfl | (simp only [*, List.setIfInBounds_toArray, List.set_cons_zero, List.set_cons_succ]; done) | (simp [*]; done)); (with_reducible repeat (first | refine blk_drewN ?_ _ | refine blk_drew ?_ | refine blk_alloc ?_ _)); refine blk_put (cs := #[.int .i64 t238, .int .i64 0, .int .i64 0, .int .i64 0, .int .i64 0, .int .i64 0, .int .i64 0]) ?_ 1 _ (by first | rfl | (simp only [*, List.setIfInBounds_toArray, List.set_cons_zero, List.set_cons_succ]; done) | (simp [*]; done)); (with_reducible repeat (first | refine blk_drewN ?_ _ | refine blk_drew ?_ | refine blk_alloc ?_ _)); refine blk_put (cs := #[.int .i64 0, .int .i64 0, .int .i64 0, .int .i64 0, .int .i64 0, .int .i64 0, .int .i64 0]) ?_ 0 _ (by first | rfl | (simp only [*, List.setIfInBounds_toArray, List.set_cons_zero, List.set_cons_succ]; done) | (simp [*]; done)); (with_reducible repeat (first | refine blk_drewN ?_ _ | refine blk_drew ?_ | refine blk_alloc ?_ _)); exact BK246.out⟩, ⟨by repeat (first | (with_reducible first | exact HB.out | apply below_alloc | apply pw_below_drewN | apply below_drew1 | refine below_set ?_ GE233.out | refine below_set ?_ GE246.out) | exact HB.out)⟩⟩
        · rw [if_neg c20] at H
          have c20b0 : (!(t238 == t225) || (!(t239 == t226) || (!(t240 == t227) || (!(t241 == t228) || (!(t242 == t229) || (!(t243 == t230) || (!(t244 == t231)))))))) = false := by simpa using c20
          clear c20
          have H' := Aside0.mk H
          clear H
          have hnb24 := NB246_233.out
          have hnc24 := NB233_246.out
          have hcz25_0 : w16.cell? ⟨gb246, 0, none⟩ = some (.int .i64 0) := (blk_cell BK246.out 0).trans rfl
          have hcz25_1 : w16.cell? ⟨gb246, 1, none⟩ = some (.int .i64 0) := (blk_cell BK246.out 1).trans rfl
          have hcz25_2 : w16.cell? ⟨gb246, 2, none⟩ = some (.int .i64 0) := (blk_cell BK246.out 2).trans rfl
          have hcz25_3 : w16.cell? ⟨gb246, 3, none⟩ = some (.int .i64 0) := (blk_cell BK246.out 3).trans rfl
          have hcz25_4 : w16.cell? ⟨gb246, 4, none⟩ = some (.int .i64 0) := (blk_cell BK246.out 4).trans rfl
          have hcz25_5 : w16.cell? ⟨gb246, 5, none⟩ = some (.int .i64 0) := (blk_cell BK246.out 5).trans rfl
          have hcz25_6 : w16.cell? ⟨gb246, 6, none⟩ = some (.int .i64 0) := (blk_cell BK246.out 6).trans rfl
          have hfz25_0 := blk_frozen BK246.out 0
          have hfz25_1 := blk_frozen BK246.out 1
          have hfz25_2 := blk_frozen BK246.out 2
          have hfz25_3 := blk_frozen BK246.out 3
          have hfz25_4 := blk_frozen BK246.out 4
          have hfz25_5 := blk_frozen BK246.out 5
          have hfz25_6 := blk_frozen BK246.out 6
          have hcz26_0 : w16.cell? ⟨gb233, 0, none⟩ = some (.int .i64 t225) := (blk_cell BK233.out 0).trans rfl
          have hcz26_1 : w16.cell? ⟨gb233, 1, none⟩ = some (.int .i64 t226) := (blk_cell BK233.out 1).trans rfl
          have hcz26_2 : w16.cell? ⟨gb233, 2, none⟩ = some (.int .i64 t227) := (blk_cell BK233.out 2).trans rfl
          have hcz26_3 : w16.cell? ⟨gb233, 3, none⟩ = some (.int .i64 t228) := (blk_cell BK233.out 3).trans rfl
          have hcz26_4 : w16.cell? ⟨gb233, 4, none⟩ = some (.int .i64 t229) := (blk_cell BK233.out 4).trans rfl
          have hcz26_5 : w16.cell? ⟨gb233, 5, none⟩ = some (.int .i64 t230) := (blk_cell BK233.out 5).trans rfl
          have hcz26_6 : w16.cell? ⟨gb233, 6, none⟩ = some (.int .i64 t231) := (blk_cell BK233.out 6).trans rfl
          have hfz26_0 := blk_frozen BK233.out 0
          have hfz26_1 := blk_frozen BK233.out 1
          have hfz26_2 := blk_frozen BK233.out 2
          have hfz26_3 := blk_frozen BK233.out 3
          have hfz26_4 := blk_frozen BK233.out 4
          have hfz26_5 := blk_frozen BK233.out 5
          have hfz26_6 := blk_frozen BK233.out 6
          go_wp2
          go_meet
          case rel => exact ⟨_, (((t235.length : Int) != 512)), (by first | rfl | (simp; done) | (simp [*]; done) | exact congrArg Value.bool (ne_empty _) | exact congrArg Value.bool (eq_empty _)), H', ⟨by first | omega | exact Nat.le_refl _⟩, ⟨by (with_reducible repeat (first | apply Kd.R_alloc | apply Kd.R_drewN | apply Kd.R_drew)); exact Kd.R_mono (Kd.R_far (p := ⟨gb246, 6, none⟩) (Kd.R_far (p := ⟨gb246, 5, none⟩) (Kd.R_far (p := ⟨gb246, 4, none⟩) (Kd.R_far (p := ⟨gb246, 3, none⟩) (Kd.R_far (p := ⟨gb246, 2, none⟩) (Kd.R_far (p := ⟨gb246, 1, none⟩) (Kd.R_far (p := ⟨gb246, 0, none⟩) (Kd.R_types HO237.out BK246.out (by decide)) (fun _ hk => hk.2) (.int .i64 t238)) (fun _ hk => hk.2) (.int .i64 t239)) (fun _ hk => hk.2) (.int .i64 t240)) (fun _ hk => hk.2) (.int .i64 t241)) (fun _ hk => hk.2) (.int .i64 t242)) (fun _ hk => hk.2) (.int .i64 t243)) (fun _ hk => hk.2) (.int .i64 t244)) (fun _ hk => trivial)⟩, ⟨by (with_reducible repeat (first | refine blk_drewN ?_ _ | refine blk_drew ?_ | refine blk_alloc ?_ _)); refine blk_far ?_ NB233_246.out _; (with_reducible repeat (first | refine blk_drewN ?_ _ | refine blk_drew ?_ | refine blk_alloc ?_ _)); refine blk_far ?_ NB233_246.out _; (with_reducible repeat (first | refine blk_drewN ?_ _ | refine blk_drew ?_ | refine blk_alloc ?_ _)); refine blk_far ?_ NB233_246.out _; (with_reducible repeat (first | refine blk_drewN ?_ _ | refine blk_drew ?_ | refine blk_alloc ?_ _)); refine blk_far ?_ NB233_246.out _; (with_reducible repeat (first | refine blk_drewN ?_ _ | refine blk_drew ?_ | refine blk_alloc ?_ _)); refine blk_far ?_ NB233_246.out _; (with_reducible repeat (first | refine blk_drewN ?_ _ | refine blk_drew ?_ | refine blk_alloc ?_ _)); refine blk_far ?_ NB233_246.out _; (with_reducible repeat (first | refine blk_drewN ?_ _ | refine blk_drew ?_ | refine blk_alloc ?_ _)); refine blk_far ?_ NB233_246.out _; (with_reducible repeat (first | refine blk_drewN ?_ _ | refine blk_drew ?_ | refine blk_alloc ?_ _)); exact BK233.out⟩, ⟨by (with_reducible repeat (first | refine blk_drewN ?_ _ | refine blk_drew ?_ | refine blk_alloc ?_ _)); refine blk_put (cs := #[.int .i64 t238, .int .i64 t239, .int .i64 t240, .int .i64 t241, .int .i64 t242, .int .i64 t243, .int .i64 0]) ?_ 6 _ (by first | rfl | (simp only [*, List.setIfInBounds_toArray, List.set_cons_zero, List.set_cons_succ]; done) | (simp [*]; done)); (with_reducible repeat (first | refine blk_drewN ?_ _ | refine blk_drew ?_ | refine blk_alloc ?_ _)); refine blk_put (cs := #[.int .i64 t238, .int .i64 t239, .int .i64 t240, .int .i64 t241, .int .i64 t242, .int .i64 0, .int .i64 0]) ?_ 5 _ (by first | rfl | (simp only [*, List.setIfInBounds_toArray, List.set_cons_zero, List.set_cons_succ]; done) | (simp [*]; done)); (with_reducible repeat (first | refine blk_drewN ?_ _ | refine blk_drew ?_ | refine blk_alloc ?_ _)); refine blk_put (cs := #[.int .i64 t238, .int .i64 t239, .int .i64 t240, .int .i64 t241, .int .i64 0, .int .i64 0, .int .i64 0]) ?_ 4 _ (by first | rfl | (simp only [*, List.setIfInBounds_toArray, List.set_cons_zero, List.set_cons_succ]; done) | (simp [*]; done)); (with_reducible repeat (first | refine blk_drewN ?_ _ | refine blk_drew ?_ | refine blk_alloc ?_ _)); refine blk_put (cs := #[.int .i64 t238, .int .i64 t239, .int .i64 t240, .int .i64 0, .int .i64 0, .int .i64 0, .int .i64 0]) ?_ 3 _ (by first | rfl | (simp only [*, List.setIfInBounds_toArray, List.set_cons_zero, List.set_cons_succ]; done) | (simp [*]; done)); (with_reducible repeat (first | refine blk_drewN ?_ _ | refine blk_drew ?_ | refine blk_alloc ?_ _)); refine blk_put (cs := #[.int .i64 t238, .int .i64 t239, .int .i64 0, .int .i64 0, .int .i64 0, .int .i64 0, .int .i64 0]) ?_ 2 _ (by first | rfl | (simp only [*, List.setIfInBounds_toArray, List.set_cons_zero, List.set_cons_succ]; done) | (simp [*]; done)); (with_reducible repeat (first | refine blk_drewN ?_ _ | refine blk_drew ?_ | refine blk_alloc ?_ _)); refine blk_put (cs := #[.int .i64 t238, .int .i64 0, .int .i64 0, .int .i64 0, .int .i64 0, .int .i64 0, .int .i64 0]) ?_ 1 _ (by first | rfl | (simp only [*, List.setIfInBounds_toArray, List.set_cons_zero, List.set_cons_succ]; done) | (simp [*]; done)); (with_reducible repeat (first | refine blk_drewN ?_ _ | refine blk_drew ?_ | refine blk_alloc ?_ _)); refine blk_put (cs := #[.int .i64 0, .int .i64 0, .int .i64 0, .int .i64 0, .int .i64 0, .int .i64 0, .int .i64 0]) ?_ 0 _ (by first | rfl | (simp only [*, List.setIfInBounds_toArray, List.set_cons_zero, List.set_cons_succ]; done) | (simp [*]; done)); (with_reducible repeat (first | refine blk_drewN ?_ _ | refine blk_drew ?_ | refine blk_alloc ?_ _)); exact BK246.out⟩, ⟨by repeat (first | (with_reducible first | exact HB.out | apply below_alloc | apply pw_below_drewN | apply below_drew1 | refine below_set ?_ GE233.out | refine below_set ?_ GE246.out) | exact HB.out)⟩⟩
      · rw [if_neg c19] at H
        have c19b0 : (t245 == 0) = false := beq_eq_false_iff_ne.mpr c19
        have c19b1 : (t245 != 0) = true := bne_iff_ne.mpr c19
        (first | rw [c19b0] | (simp only [i64_w, i32_w]; rw [c19b0]) | skip)
        have H' := Aside0.mk H
        clear H
        go_wp2
        go_meet
        case rel => exact ⟨_, (true), (by first | rfl | (simp; done) | (simp [*]; done) | exact congrArg Value.bool (ne_empty _) | exact congrArg Value.bool (eq_empty _)), H', ⟨by first | omega | exact Nat.le_refl _⟩, ⟨by (with_reducible repeat (first | apply Kd.R_alloc | apply Kd.R_drewN | apply Kd.R_drew)); exact Kd.R_mono (Kd.R_far (p := ⟨gb246, 6, none⟩) (Kd.R_far (p := ⟨gb246, 5, none⟩) (Kd.R_far (p := ⟨gb246, 4, none⟩) (Kd.R_far (p := ⟨gb246, 3, none⟩) (Kd.R_far (p := ⟨gb246, 2, none⟩) (Kd.R_far (p := ⟨gb246, 1, none⟩) (Kd.R_far (p := ⟨gb246, 0, none⟩) (Kd.R_types HO237.out BK246.out (by decide)) (fun _ hk => hk.2) (.int .i64 t238)) (fun _ hk => hk.2) (.int .i64 t239)) (fun _ hk => hk.2) (.int .i64 t240)) (fun _ hk => hk.2) (.int .i64 t241)) (fun _ hk => hk.2) (.int .i64 t242)) (fun _ hk => hk.2) (.int .i64 t243)) (fun _ hk => hk.2) (.int .i64 t244)) (fun _ hk => trivial)⟩, ⟨by (with_reducible repeat (first | refine blk_drewN ?_ _ | refine blk_drew ?_ | refine blk_alloc ?_ _)); refine blk_far ?_ NB233_246.out _; (with_reducible repeat (first | refine blk_drewN ?_ _ | refine blk_drew ?_ | refine blk_alloc ?_ _)); refine blk_far ?_ NB233_246.out _; (with_reducible repeat (first | refine blk_drewN ?_ _ | refine blk_drew ?_ | refine blk_alloc ?_ _)); refine blk_far ?_ NB233_246.out _; (with_reducible repeat (first | refine blk_drewN ?_ _ | refine blk_drew ?_ | refine blk_alloc ?_ _)); refine blk_far ?_ NB233_246.out _; (with_reducible repeat (first | refine blk_drewN ?_ _ | refine blk_drew ?_ | refine blk_alloc ?_ _)); refine blk_far ?_ NB233_246.out _; (with_reducible repeat (first | refine blk_drewN ?_ _ | refine blk_drew ?_ | refine blk_alloc ?_ _)); refine blk_far ?_ NB233_246.out _; (with_reducible repeat (first | refine blk_drewN ?_ _ | refine blk_drew ?_ | refine blk_alloc ?_ _)); refine blk_far ?_ NB233_246.out _; (with_reducible repeat (first | refine blk_drewN ?_ _ | refine blk_drew ?_ | refine blk_alloc ?_ _)); exact BK233.out⟩, ⟨by (with_reducible repeat (first | refine blk_drewN ?_ _ | refine blk_drew ?_ | refine blk_alloc ?_ _)); refine blk_put (cs := #[.int .i64 t238, .int .i64 t239, .int .i64 t240, .int .i64 t241, .int .i64 t242, .int .i64 t243, .int .i64 0]) ?_ 6 _ (by first | rfl | (simp only [*, List.setIfInBounds_toArray, List.set_cons_zero, List.set_cons_succ]; done) | (simp [*]; done)); (with_reducible repeat (first | refine blk_drewN ?_ _ | refine blk_drew ?_ | refine blk_alloc ?_ _)); refine blk_put (cs := #[.int .i64 t238, .int .i64 t239, .int .i64 t240, .int .i64 t241, .int .i64 t242, .int .i64 0, .int .i64 0]) ?_ 5 _ (by first | rfl | (simp only [*, List.setIfInBounds_toArray, List.set_cons_zero, List.set_cons_succ]; done) | (simp [*]; done)); (with_reducible repeat (first | refine blk_drewN ?_ _ | refine blk_drew ?_ | refine blk_alloc ?_ _)); refine blk_put (cs := #[.int .i64 t238, .int .i64 t239, .int .i64 t240, .int .i64 t241, .int .i64 0, .int .i64 0, .int .i64 0]) ?_ 4 _ (by first | rfl | (simp only [*, List.setIfInBounds_toArray, List.set_cons_zero, List.set_cons_succ]; done) | (simp [*]; done)); (with_reducible repeat (first | refine blk_drewN ?_ _ | refine blk_drew ?_ | refine blk_alloc ?_ _)); refine blk_put (cs := #[.int .i64 t238, .int .i64 t239, .int .i64 t240, .int .i64 0, .int .i64 0, .int .i64 0, .int .i64 0]) ?_ 3 _ (by first | rfl | (simp only [*, List.setIfInBounds_toArray, List.set_cons_zero, List.set_cons_succ]; done) | (simp [*]; done)); (with_reducible repeat (first | refine blk_drewN ?_ _ | refine blk_drew ?_ | refine blk_alloc ?_ _)); refine blk_put (cs := #[.int .i64 t238, .int .i64 t239, .int .i64 0, .int .i64 0, .int .i64 0, .int .i64 0, .int .i64 0]) ?_ 2 _ (by first | rfl | (simp only [*, List.setIfInBounds_toArray, List.set_cons_zero, List.set_cons_succ]; done) | (simp [*]; done)); (with_reducible repeat (first | refine blk_drewN ?_ _ | refine blk_drew ?_ | refine blk_alloc ?_ _)); refine blk_put (cs := #[.int .i64 t238, .int .i64 0, .int .i64 0, .int .i64 0, .int .i64 0, .int .i64 0, .int .i64 0]) ?_ 1 _ (by first | rfl | (simp only [*, List.setIfInBounds_toArray, List.set_cons_zero, List.set_cons_succ]; done) | (simp [*]; done)); (with_reducible repeat (first | refine blk_drewN ?_ _ | refine blk_drew ?_ | refine blk_alloc ?_ _)); refine blk_put (cs := #[.int .i64 0, .int .i64 0, .int .i64 0, .int .i64 0, .int .i64 0, .int .i64 0, .int .i64 0]) ?_ 0 _ (by first | rfl | (simp only [*, List.setIfInBounds_toArray, List.set_cons_zero, List.set_cons_succ]; done) | (simp [*]; done)); (with_reducible repeat (first | refine blk_drewN ?_ _ | refine blk_drew ?_ | refine blk_alloc ?_ _)); exact BK246.out⟩, ⟨by repeat (first | (with_reducible first | exact HB.out | apply below_alloc | apply pw_below_drewN | apply below_drew1 | refine below_set ?_ GE233.out | refine below_set ?_ GE246.out) | exact HB.out)⟩⟩
    case rest =>
      clear HC9
      try clear c1
      try clear c2
      try clear p2
      try clear c6
      try clear c6b0
      try clear c6b1
      try clear c11
      try clear c17
      try clear c18
      try clear c19
      try clear c19b0
      try clear c19b1
      try clear c20
      try clear c20b0
      try clear c21
      try clear c24
      try clear hcz12_0
      try clear hcz12_1
      try clear hcz12_2
      try clear hcz12_3
      try clear hcz12_4
      try clear hcz12_5
      try clear hcz12_6
      try clear hcz18_0
      try clear hcz18_1
      try clear hcz18_2
      try clear hcz18_3
      try clear hcz18_4
      try clear hcz18_5
      try clear hcz18_6
      try clear hcz22_0
      try clear hcz22_1
      try clear hcz22_2
      try clear hcz22_3
      try clear hcz22_4
      try clear hcz22_5
      try clear hcz22_6
      try clear hcz23_0
      try clear hcz23_1
      try clear hcz23_2
      try clear hcz23_3
      try clear hcz23_4
      try clear hcz23_5
      try clear hcz23_6
      try clear hcz25_0
      try clear hcz25_1
      try clear hcz25_2
      try clear hcz25_3
      try clear hcz25_4
      try clear hcz25_5
      try clear hcz25_6
      try clear hcz26_0
      try clear hcz26_1
      try clear hcz26_2
      try clear hcz26_3
      try clear hcz26_4
      try clear hcz26_5
      try clear hcz26_6
      try clear hfz12_0
      try clear hfz12_1
      try clear hfz12_2
      try clear hfz12_3
      try clear hfz12_4
      try clear hfz12_5
      try clear hfz12_6
      try clear hfz18_0
      try clear hfz18_1
      try clear hfz18_2
      try clear hfz18_3
      try clear hfz18_4
      try clear hfz18_5
      try clear hfz18_6
      try clear hfz22_0
      try clear hfz22_1
      try clear hfz22_2
      try clear hfz22_3
      try clear hfz22_4
      try clear hfz22_5
      try clear hfz22_6
      try clear hfz23_0
      try clear hfz23_1
      try clear hfz23_2
      try clear hfz23_3
      try clear hfz23_4
      try clear hfz23_5
      try clear hfz23_6
      try clear hfz25_0
      try clear hfz25_1
      try clear hfz25_2
      try clear hfz25_3
      try clear hfz25_4
      try clear hfz25_5
      try clear hfz25_6
      try clear hfz26_0
      try clear hfz26_1
      try clear hfz26_2
      try clear hfz26_3
      try clear hfz26_4
      try clear hfz26_5
      try clear hfz26_6
      obtain ⟨kq, x48_8, rfl, HA, HJ8, HO_11, BK233, BK246, HB⟩ := hcut
      cases kq with
      | zero => exact absurd HA.out (by first | (intro h_; exact nomatch (show (none : Option _) = some r from h_)) | simp [bollardlaw6_LayoutBack.j0])
      | succ kj8 =>
        have H := HA.out
        clear HA
        simp only [bollardlaw6_LayoutBack.j0] at H
        by_cases c27 : x48_8 = true
        · subst c27
          have H1 : (some false) = some r := by rw [if_pos rfl] at H; exact H
          clear H
          have H := H1
          clear H1
          obtain rfl := Option.some.inj H
          go_wp2
          go_ret
          exact ⟨by first | rfl | (simp [errW_none, errW_some] <;> rfl) | (simp [*, errW_none, errW_some] <;> rfl), by repeat (first | (with_reducible first | exact HB.out | apply below_alloc | apply pw_below_drewN | apply below_drew1 | refine below_set ?_ GE233.out | refine below_set ?_ GE246.out) | exact HB.out)⟩
        · replace c27 := Bool.eq_false_iff.mpr c27
          subst c27
          have H1 : ((bollardalike_Round.f a2 512).bind fun t247 => ((bollardalike_Round.f a2 512).bind fun t248 => (if 0 ≤ t248 then (if t248 < (t235.length : Int) then ((bollardalike_Round.f a3 255).bind fun t250 => (if 0 ≤ t247 then (if t247 < (t235.length : Int) then ((layout_Decode.f kj8 (t235.set (t247 : Int).toNat (Go.bits .xor .u8 (rd t235 t248) ((wrap64 (t250 + 1)) % 256)))).bind fun bt252 => (if bt252.2.2.2.2.2.2.2 = 10 then ((bollardlaw6_awake.f).bind fun t261 => (some t261)) else (some false))) else (none)) else (none))) else (none)) else (none)))) = some r := by rw [if_neg (show ¬ (false = true) by decide)] at H; exact H
          clear H
          have H := H1
          clear H1
          replace H := Option.bind_eq_some_iff.mp H
          obtain ⟨t247, A280, H⟩ := H
          replace H : ((bollardalike_Round.f a2 512).bind fun t248 => (if 0 ≤ t248 then (if t248 < (t235.length : Int) then ((bollardalike_Round.f a3 255).bind fun t250 => (if 0 ≤ t247 then (if t247 < (t235.length : Int) then ((layout_Decode.f kj8 (t235.set (t247 : Int).toNat (Go.bits .xor .u8 (rd t235 t248) ((wrap64 (t250 + 1)) % 256)))).bind fun bt252 => (if bt252.2.2.2.2.2.2.2 = 10 then ((bollardlaw6_awake.f).bind fun t261 => (some t261)) else (some false))) else (none)) else (none))) else (none)) else (none))) = some r := H
          have A28 := Aside0.mk A280
          clear A280
          replace H := Option.bind_eq_some_iff.mp H
          obtain ⟨t248, A290, H⟩ := H
          replace H : (if 0 ≤ t248 then (if t248 < (t235.length : Int) then ((bollardalike_Round.f a3 255).bind fun t250 => (if 0 ≤ t247 then (if t247 < (t235.length : Int) then ((layout_Decode.f kj8 (t235.set (t247 : Int).toNat (Go.bits .xor .u8 (rd t235 t248) ((wrap64 (t250 + 1)) % 256)))).bind fun bt252 => (if bt252.2.2.2.2.2.2.2 = 10 then ((bollardlaw6_awake.f).bind fun t261 => (some t261)) else (some false))) else (none)) else (none))) else (none)) else (none)) = some r := H
          have A29 := Aside0.mk A290
          clear A290
          by_cases c30 : 0 ≤ t248
          · rw [if_pos c30] at H
            have c30b0 : decide (0 ≤ t248) = true := decide_eq_true c30
            clear c30
            by_cases c31 : t248 < (t235.length : Int)
            · rw [if_pos c31] at H
              have c31b0 : decide (t248 < (t235.length : Int)) = true := decide_eq_true c31
              clear c31
              replace H := Option.bind_eq_some_iff.mp H
              obtain ⟨t250, A320, H⟩ := H
              replace H : (if 0 ≤ t247 then (if t247 < (t235.length : Int) then ((layout_Decode.f kj8 (t235.set (t247 : Int).toNat (Go.bits .xor .u8 (rd t235 t248) ((wrap64 (t250 + 1)) % 256)))).bind fun bt252 => (if bt252.2.2.2.2.2.2.2 = 10 then ((bollardlaw6_awake.f).bind fun t261 => (some t261)) else (some false))) else (none)) else (none)) = some r := H
              have A32 := Aside0.mk A320
              clear A320
              by_cases c33 : 0 ≤ t247
              · rw [if_pos c33] at H
                have c33b0 : decide (0 ≤ t247) = true := decide_eq_true c33
                clear c33
                by_cases c34 : t247 < (t235.length : Int)
                · rw [if_pos c34] at H
                  have c34b0 : decide (t247 < (t235.length : Int)) = true := decide_eq_true c34
                  clear c34
                  obtain ⟨y251, hy251⟩ : ∃ y_ : List Int, y_ = (t235.set (t247 : Int).toNat (Go.bits .xor .u8 (rd t235 t248) ((wrap64 (t250 + 1)) % 256))) := ⟨_, rfl⟩
                  replace H : ((layout_Decode.f kj8 y251).bind fun bt252 => (if bt252.2.2.2.2.2.2.2 = 10 then ((bollardlaw6_awake.f).bind fun t261 => (some t261)) else (some false))) = some r := by first | (rw [hy251]; with_reducible exact H) | (have H2_ := (Option.bind_some _ _).symm.trans H; rw [hy251]; with_reducible exact H2_) | (have H2_ := (Option.bind_some _ _).symm.trans H; with_reducible exact H2_) | with_reducible exact H | (rw [hy251]; exact H) | exact H
                  have Ny251 := Aside0.mk hy251
                  clear hy251
                  replace H := Option.bind_eq_some_iff.mp H
                  obtain ⟨⟨t252, t253, t254, t255, t256, t257, t258, t259⟩, A360, H⟩ := H
                  replace H : (if t259 = 10 then ((bollardlaw6_awake.f).bind fun t261 => (some t261)) else (some false)) = some r := H
                  have A36 := Aside0.mk A360
                  clear A360
                  by_cases c37 : t259 = 10
                  · rw [if_pos c37] at H
                    have c37b0 : (t259 == 10) = true := beq_iff_eq.mpr c37
                    have c37b1 : (t259 != 10) = false := bne_eq_false_iff_eq.mpr c37
                    clear c37
                    replace H := Option.bind_eq_some_iff.mp H
                    obtain ⟨t261, A380, H⟩ := H
                    replace H : (some t261) = some r := H
                    have A38 := Aside0.mk A380
                    clear A380
                    obtain rfl := Option.some.inj H
                    try go_wp2
                    have n0_ := Aside0.mk (Kd.R_drew HO_11.out)
                    have n1_ := Aside0.mk (blk_drew BK233.out)
                    have n2_ := Aside0.mk (blk_drew BK246.out)
                    have n3_ := Aside0.mk (below_drew1 HB.out)
                    clear HO_11
                    clear BK233
                    clear BK246
                    clear HB
                    have HO_11 := n0_
                    have BK233 := n1_
                    have BK246 := n2_
                    have HB := n3_
                    clear n0_ n1_ n2_ n3_
                    have p249 : 0 ≤ (t248 : Int) := of_decide_eq_true (by first | (with_reducible assumption) | assumption)
                    have q249 : t248 < (t235.length : Int) := of_decide_eq_true (by first | (with_reducible assumption) | assumption)
                    obtain ⟨ad249, e249, hx249_0⟩ := Kd.at_int (Kd.R_reads' HO_11.out).2.2 t248 p249 q249
                    cases e249
                    replace p249 := eq_true p249
                    replace q249 := eq_true q249
                    refine start_ (n := 15) (S := fun w' => w'.cell? (ad249.add (t248).toNat) = some (.int .u8 (rd t235 t248))) (ds := [14]) #[false, false, false, false, false, false, false, false, false, false, false, false, false, false, false] (by kernel_rfl) rfl rfl (hx249_0) (fun hHeld => ?_); refine with_tabW bollardlaw6_LayoutBack.tab8 bollardlaw6_LayoutBack.bits8 (fun HT_ HW_ => ?_)
                    generalize wc.drew = w39 at HO_11 BK233 BK246 HB hx249_0 hHeld ⊢
                    refine pure_ (i := 0) (N := some 49) (v := ?_) (a' := ?_) #[true, false, false, false, false, false, false, false, false, false, false, false, false, false, false] rfl rfl (any_of HT_.out (by kernel_rfl)) (fun _ _ _ h => h) (Or.inl ⟨by rfl, ?_⟩) ?_ ?_
                    rotate_left
                    · intro w'
                      go_simp
                      with_reducible rfl
                    rotate_left
                    · simp only [Act.put, List.setIfInBounds_toArray, List.set_cons_zero, List.set_cons_succ, i64_w, i32_w]
                      rfl
                    refine pure_ (i := 1) (N := some 50) (v := ?_) (a' := ?_) #[true, true, false, false, false, false, false, false, false, false, false, false, false, false, false] rfl rfl (any_of HT_.out (by kernel_rfl)) (fun _ _ _ h => h) (Or.inl ⟨by rfl, ?_⟩) ?_ ?_
                    rotate_left
                    · intro w'
                      go_simp
                      with_reducible rfl
                    rotate_left
                    · simp only [Act.put, List.setIfInBounds_toArray, List.set_cons_zero, List.set_cons_succ, i64_w, i32_w]
                      rfl
                    refine pure_ (i := 3) (N := some 52) (v := ?_) (a' := ?_) #[true, true, false, true, false, false, false, false, false, false, false, false, false, false, false] rfl rfl (any_of HT_.out (by kernel_rfl)) (fun _ _ _ h => h) (Or.inl ⟨by rfl, ?_⟩) ?_ ?_
                    rotate_left
                    · intro w'
                      go_simp
                      with_reducible rfl
                    rotate_left
                    · simp only [Act.put, List.setIfInBounds_toArray, List.set_cons_zero, List.set_cons_succ, i64_w, i32_w]
                      rfl
                    refine pure_ (i := 4) (N := some 53) (v := ?_) (a' := ?_) #[true, true, false, true, true, false, false, false, false, false, false, false, false, false, false] rfl rfl (any_of HT_.out (by kernel_rfl)) (fun _ _ _ h => h) (Or.inl ⟨by rfl, ?_⟩) ?_ ?_
                    rotate_left
                    · intro w'
                      go_simp
                      with_reducible rfl
                    rotate_left
                    · simp only [Act.put, List.setIfInBounds_toArray, List.set_cons_zero, List.set_cons_succ, i64_w, i32_w]
                      rfl
                    refine pure_ (i := 8) (N := some 57) (v := ?_) (a' := ?_) #[true, true, false, true, true, false, false, false, true, false, false, false, false, false, false] rfl rfl (any_of HT_.out (by kernel_rfl)) (fun _ _ _ h => h) (Or.inl ⟨by rfl, ?_⟩) ?_ ?_
                    rotate_left
                    · intro w'
                      go_simp
                      with_reducible rfl
                    rotate_left
                    · simp only [Act.put, List.setIfInBounds_toArray, List.set_cons_zero, List.set_cons_succ, i64_w, i32_w]
                      rfl
                    refine one_ (i := 2) (N := some 51) #[true, true, true, true, true, false, false, false, true, false, false, false, false, false, false] rfl rfl (one_of HT_.out (by kernel_rfl)) (by decide) (fun K hK => ?_)
                    refine goes_ Try.func26 (by kernel_rfl) rfl #[.int .i64 a2, .int .i64 512] (by rfl) rfl rfl (by (try simp only [List.map_toArray, List.map_cons, List.map_nil]); first | done | rfl | (simp only [List.length_drop, List.length_take]; rfl)) ?_
                    with_reducible refine (bollardalike_Round.calls a2 512 t247 _ A28.out).mono ?_
                    rintro e w' ⟨rfl, ⟨nd1_, rfl⟩⟩
                    refine ⟨_, rfl, ?_⟩
                    refine hK.out _ _ (hHeld) (fun hHeld => ?_)
                    clear hK K
                    refine norm_ (a' := ?_) ?_ ?_
                    rotate_left
                    · show Act.put _ (some 51) _ = _
                      simp only [Act.put, List.setIfInBounds_toArray, List.set_cons_zero, List.set_cons_succ, i64_w, i32_w]
                      rfl
                    refine one_ (i := 5) (N := some 54) #[true, true, true, true, true, true, false, false, true, false, false, false, false, false, false] rfl rfl (one_of HT_.out (by kernel_rfl)) (by decide) (fun K hK => ?_)
                    refine goes_ Try.func26 (by kernel_rfl) rfl #[.int .i64 a2, .int .i64 512] (by rfl) rfl rfl (by (try simp only [List.map_toArray, List.map_cons, List.map_nil]); first | done | rfl | (simp only [List.length_drop, List.length_take]; rfl)) ?_
                    with_reducible refine (bollardalike_Round.calls a2 512 t248 _ A29.out).mono ?_
                    rintro e w' ⟨rfl, ⟨nd2_, rfl⟩⟩
                    refine ⟨_, rfl, ?_⟩
                    refine hK.out _ _ (hHeld) (fun hHeld => ?_)
                    clear hK K
                    refine norm_ (a' := ?_) ?_ ?_
                    rotate_left
                    · show Act.put _ (some 54) _ = _
                      simp only [Act.put, List.setIfInBounds_toArray, List.set_cons_zero, List.set_cons_succ, i64_w, i32_w]
                      rfl
                    refine pure_ (i := 6) (N := some 55) (v := ?_) (a' := ?_) #[true, true, true, true, true, true, true, false, true, false, false, false, false, false, false] rfl rfl (any_of HT_.out (by kernel_rfl)) (fun _ _ _ h => h) (Or.inl ⟨by rfl, ?_⟩) ?_ ?_
                    rotate_left
                    · intro w'
                      go_simp
                      with_reducible rfl
                    rotate_left
                    · simp only [Act.put, List.setIfInBounds_toArray, List.set_cons_zero, List.set_cons_succ, i64_w, i32_w]
                      rfl
                    refine take_ (i := 7) (N := some 56) (v := ?_) (a' := ?_) #[true, true, true, true, true, true, true, true, true, false, false, false, false, false, false] rfl rfl (take_ofW HT_.out HW_.out (by kernel_rfl)) (fun _ _ _ h => h) (Or.inl ⟨by rfl, ?_⟩) hHeld ?_ ?_
                    rotate_left
                    · intro w' s0
                      go_simp
                      with_reducible rfl
                    rotate_left
                    · simp only [Act.put, List.setIfInBounds_toArray, List.set_cons_zero, List.set_cons_succ, i64_w, i32_w]
                      rfl
                    refine one_ (i := 9) (N := some 58) #[true, true, true, true, true, true, true, true, true, true, false, false, false, false, false] rfl rfl (one_of HT_.out (by kernel_rfl)) (by decide) (fun K hK => ?_)
                    refine goes_ Try.func26 (by kernel_rfl) rfl #[.int .i64 a3, .int .i64 255] (by rfl) rfl rfl (by (try simp only [List.map_toArray, List.map_cons, List.map_nil]); first | done | rfl | (simp only [List.length_drop, List.length_take]; rfl)) ?_
                    with_reducible refine (bollardalike_Round.calls a3 255 t250 _ A32.out).mono ?_
                    rintro e w' ⟨rfl, ⟨nd3_, rfl⟩⟩
                    refine ⟨_, rfl, ?_⟩
                    have p35 : 0 ≤ (t247 : Int) := of_decide_eq_true (by first | (with_reducible assumption) | assumption)
                    have q35 : (t247 : Int) < ((t235.length : Int) : Int) := of_decide_eq_true (by first | (with_reducible assumption) | assumption)
                    obtain ⟨go35, co35, eo35, gb35, gl35, cl35, HG35⟩ := Kd.R_form HO_11.out (by omega)
                    (first | cases eo35 | (injection eo35 with ea_ en_ ec_; (first | subst ea_ | (injection ea_ with ea_; subst ea_)); subst ec_; clear en_))
                    have GB35 := Aside0.mk gb35
                    have GG35 := Aside0.mk HG35
                    clear gb35 gl35 HG35
                    (first | simp only [add_plain] at hx249_0 | skip)
                    obtain ⟨hx35_0, hf35_0⟩ := Kd.R_celln 0 HO_11.out (t247 : Int) p35 q35
                    replace p35 := eq_true p35
                    replace q35 := eq_true q35
                    have HP40 := Kd.R_putn HO_11.out (t247 : Int) (Go.bits .xor .u8 (rd t235 t248) ((wrap64 (t250 + 1)) % 256))
                    rw [← Ny251.out] at HP40
                    have HQ40 := Aside0.mk HP40
                    clear HP40
                    refine hK.out _ _ (hHeld) (fun hHeld => ?_)
                    clear hK K
                    refine norm_ (a' := ?_) ?_ ?_
                    rotate_left
                    · show Act.put _ (some 58) _ = _
                      simp only [Act.put, List.setIfInBounds_toArray, List.set_cons_zero, List.set_cons_succ, i64_w, i32_w]
                      rfl
                    refine pure_ (i := 10) (N := some 59) (v := ?_) (a' := ?_) #[true, true, true, true, true, true, true, true, true, true, true, false, false, false, false] rfl rfl (any_of HT_.out (by kernel_rfl)) (fun _ _ _ h => h) (Or.inl ⟨by rfl, ?_⟩) ?_ ?_
                    rotate_left
                    · intro w'
                      go_simp
                      with_reducible rfl
                    rotate_left
                    · simp only [Act.put, List.setIfInBounds_toArray, List.set_cons_zero, List.set_cons_succ, i64_w, i32_w]
                      rfl
                    refine pure_ (i := 11) (N := some 60) (v := ?_) (a' := ?_) #[true, true, true, true, true, true, true, true, true, true, true, true, false, false, false] rfl rfl (any_of HT_.out (by kernel_rfl)) (fun _ _ _ h => h) (Or.inl ⟨by rfl, ?_⟩) ?_ ?_
                    rotate_left
                    · intro w'
                      go_simp
                      with_reducible rfl
                    rotate_left
                    · simp only [Act.put, List.setIfInBounds_toArray, List.set_cons_zero, List.set_cons_succ, i64_w, i32_w]
                      rfl
                    refine pure_ (i := 12) (N := some 61) (v := ?_) (a' := ?_) #[true, true, true, true, true, true, true, true, true, true, true, true, true, false, false] rfl rfl (any_of HT_.out (by kernel_rfl)) (fun _ _ _ h => h) (Or.inl ⟨by rfl, ?_⟩) ?_ ?_
                    rotate_left
                    · intro w'
                      go_simp
                      with_reducible rfl
                    rotate_left
                    · simp only [Act.put, List.setIfInBounds_toArray, List.set_cons_zero, List.set_cons_succ, i64_w, i32_w]
                      rfl
                    refine pure_ (i := 13) (N := some 62) (v := ?_) (a' := ?_) #[true, true, true, true, true, true, true, true, true, true, true, true, true, true, false] rfl rfl (any_of HT_.out (by kernel_rfl)) (fun _ _ _ h => h) (Or.inl ⟨by rfl, ?_⟩) ?_ ?_
                    rotate_left
                    · intro w'
                      go_simp
                      with_reducible rfl
                    rotate_left
                    · simp only [Act.put, List.setIfInBounds_toArray, List.set_cons_zero, List.set_cons_succ, i64_w, i32_w]
                      rfl
                    refine last_ (i := 14) (N := none) #[true, true, true, true, true, true, true, true, true, true, true, true, true, true, true] rfl rfl (one_of HT_.out (by kernel_rfl)) (by decide) (fun K hK => ?_)
                    refine skip_ (w1 := ?_) (by rfl) rfl ?_ ?_
                    rotate_left
                    · go_simp
                      rfl
                    refine hK.out _ _ ?_
                    clear hK K
                    refine done_ (done_of HT_.out (by kernel_rfl)) ?_
                    have n0_ : Aside0 (Kd.R (Kd.int .u8) 5 ((w39.drewN (nd1_ + nd2_ + nd3_)).setCell ⟨go35, (t247 : Int).toNat, none⟩ (.int .u8 (Go.bits .xor .u8 (rd t235 t248) ((wrap64 (t250 + 1)) % 256)))) w.heap.size (fun _ => True) (.slice (some ⟨go35, 0, none⟩) t235.length co14) y251) := ⟨by (with_reducible repeat (first | apply Kd.R_alloc | apply Kd.R_drewN | apply Kd.R_drew)); exact HQ40.out⟩
                    have n1_ : Aside0 (((w39.drewN (nd1_ + nd2_ + nd3_)).setCell ⟨go35, (t247 : Int).toNat, none⟩ (.int .u8 (Go.bits .xor .u8 (rd t235 t248) ((wrap64 (t250 + 1)) % 256)))).heap[gb233]? = some (.cells #[.int .i64 t225, .int .i64 t226, .int .i64 t227, .int .i64 t228, .int .i64 t229, .int .i64 t230, .int .i64 t231] 32 (0, 0))) := ⟨by (with_reducible repeat (first | refine blk_drewN ?_ _ | refine blk_drew ?_ | refine blk_alloc ?_ _)); refine blk_far ?_ (by have h_ := Kd.R_ne HO_11.out BK233.out (by decide); intro e_; exact h_ (by rw [e_]; rfl)) _; (with_reducible repeat (first | refine blk_drewN ?_ _ | refine blk_drew ?_ | refine blk_alloc ?_ _)); exact BK233.out⟩
                    have n2_ : Aside0 (((w39.drewN (nd1_ + nd2_ + nd3_)).setCell ⟨go35, (t247 : Int).toNat, none⟩ (.int .u8 (Go.bits .xor .u8 (rd t235 t248) ((wrap64 (t250 + 1)) % 256)))).heap[gb246]? = some (.cells #[.int .i64 t238, .int .i64 t239, .int .i64 t240, .int .i64 t241, .int .i64 t242, .int .i64 t243, .int .i64 t244] 32 (0, 0))) := ⟨by (with_reducible repeat (first | refine blk_drewN ?_ _ | refine blk_drew ?_ | refine blk_alloc ?_ _)); refine blk_far ?_ (by have h_ := Kd.R_ne HO_11.out BK246.out (by decide); intro e_; exact h_ (by rw [e_]; rfl)) _; (with_reducible repeat (first | refine blk_drewN ?_ _ | refine blk_drew ?_ | refine blk_alloc ?_ _)); exact BK246.out⟩
                    have n3_ : Aside0 (Below w.heap.size w ((w39.drewN (nd1_ + nd2_ + nd3_)).setCell ⟨go35, (t247 : Int).toNat, none⟩ (.int .u8 (Go.bits .xor .u8 (rd t235 t248) ((wrap64 (t250 + 1)) % 256))))) := ⟨by repeat (first | (with_reducible first | exact HB.out | apply below_alloc | apply pw_below_drewN | apply below_drew1 | refine below_set ?_ GB35.out | refine below_set ?_ GE233.out | refine below_set ?_ GE246.out) | exact HB.out)⟩
                    (try clear HO_11)
                    (try clear BK233)
                    (try clear BK246)
                    (try clear HB)
                    (try (simp only [show ∀ x : Int, IntKind.u8.wrap x = x % 256 from fun _ => rfl]))
                    generalize ((w39.drewN (nd1_ + nd2_ + nd3_)).setCell ⟨go35, (t247 : Int).toNat, none⟩ (.int .u8 (Go.bits .xor .u8 (rd t235 t248) ((wrap64 (t250 + 1)) % 256)))) = w41 at n0_ n1_ n2_ n3_ ⊢
                    have HO_11 := n0_
                    have BK233 := n1_
                    have BK246 := n2_
                    have HB := n3_
                    clear n0_ n1_ n2_ n3_
                    go_wp2_with fail
                    have hq := layout_Decode.calls kj8 (some ⟨go35, 0, none⟩) co14 y251 t252 t253 t254 t255 t256 t257 t258 t259 _ ((Kd.R_reads' HO_11.out).2.2) (by rw [show y251.length = t235.length from (Kd.R_reads' HO_11.out).1.symm]; exact (Kd.R_reads' HO_11.out).2.1) A36.out
                    rw [show y251.length = t235.length from (Kd.R_reads' HO_11.out).1.symm] at hq
                    refine hq.mono ?_
                    clear hq
                    rintro e w42 ⟨rfl, hb⟩
                    have n0_ := Aside0.mk (Kd.R_below (by (with_reducible repeat (first | apply Kd.R_alloc | apply Kd.R_drewN | apply Kd.R_drew)); exact HO_11.out) hb); have n1_ := Aside0.mk (blk_below (g := gb233) (o := .cells #[.int .i64 t225, .int .i64 t226, .int .i64 t227, .int .i64 t228, .int .i64 t229, .int .i64 t230, .int .i64 t231] 32 (0, 0)) (by (with_reducible repeat (first | refine blk_drewN ?_ _ | refine blk_drew ?_ | refine blk_alloc ?_ _)); exact BK233.out) hb); have n2_ := Aside0.mk (blk_below (g := gb246) (o := .cells #[.int .i64 t238, .int .i64 t239, .int .i64 t240, .int .i64 t241, .int .i64 t242, .int .i64 t243, .int .i64 t244] 32 (0, 0)) (by (with_reducible repeat (first | refine blk_drewN ?_ _ | refine blk_drew ?_ | refine blk_alloc ?_ _)); exact BK246.out) hb); have n3_ := Aside0.mk (below_step (by repeat (first | (with_reducible first | exact HB.out | apply below_alloc | apply pw_below_drewN | apply below_drew1 | refine below_set ?_ GE233.out | refine below_set ?_ GE246.out) | exact HB.out)) hb); clear HO_11; clear BK233; clear BK246; clear HB; have HO_11 := n0_; have BK233 := n1_; have BK246 := n2_; have HB := n3_; clear n0_ n1_ n2_ n3_; (try clear hb); (try clear hb2); (try clear hk); (try clear hi)
                    try go_wp2_with (first | ((with_reducible refine gate_dst (N := 14) rfl ?_); (try (refine gate_guard (by rfl) ?_; dsimp only)); refine box_event ?hg (N := 14) ?hd (cs := #[.int .i64 0, .int .i64 0, .int .i64 0, .int .i64 0, .int .i64 0, .int .i64 0, .int .i64 0]) (t := 32) ?hr ?_; (case hd => rfl); (case hg => rfl); (case hr => first | (go_simp; done) | (go_simp; rfl)); intro gb260 hg w43 hbox hb; have n0_ := Aside0.mk (Kd.R_below (by (with_reducible repeat (first | apply Kd.R_alloc | apply Kd.R_drewN | apply Kd.R_drew)); exact HO_11.out) hb); have n1_ := Aside0.mk (blk_below (g := gb233) (o := .cells #[.int .i64 t225, .int .i64 t226, .int .i64 t227, .int .i64 t228, .int .i64 t229, .int .i64 t230, .int .i64 t231] 32 (0, 0)) (by (with_reducible repeat (first | refine blk_drewN ?_ _ | refine blk_drew ?_ | refine blk_alloc ?_ _)); exact BK233.out) hb); have n2_ := Aside0.mk (blk_below (g := gb246) (o := .cells #[.int .i64 t238, .int .i64 t239, .int .i64 t240, .int .i64 t241, .int .i64 t242, .int .i64 t243, .int .i64 t244] 32 (0, 0)) (by (with_reducible repeat (first | refine blk_drewN ?_ _ | refine blk_drew ?_ | refine blk_alloc ?_ _)); exact BK246.out) hb); have n3_ := Aside0.mk (below_step (by repeat (first | (with_reducible first | exact HB.out | apply below_alloc | apply pw_below_drewN | apply below_drew1 | refine below_set ?_ GE233.out | refine below_set ?_ GE246.out) | exact HB.out)) hb); have n4_ := Aside0.mk (hbox); have n5_ := Aside0.mk ((by rw [hg]; exact (below_size (by repeat (first | (with_reducible first | exact HB.out | apply below_alloc | apply pw_below_drewN | apply below_drew1 | refine below_set ?_ GE233.out | refine below_set ?_ GE246.out) | exact HB.out))) : w.heap.size ≤ gb260)); have n6_ := Aside0.mk ((by rw [hg]; exact (below_size (by repeat (first | (with_reducible first | exact HB.out | apply below_alloc | apply pw_below_drewN | apply below_drew1 | refine below_set ?_ GE233.out | refine below_set ?_ GE246.out) | exact HB.out))) : w.heap.size ≤ gb260)); have n7_ := Aside0.mk ((by rw [hg]; exact Nat.ne_of_lt (blk_lt (g := gb233) (o := .cells #[.int .i64 t225, .int .i64 t226, .int .i64 t227, .int .i64 t228, .int .i64 t229, .int .i64 t230, .int .i64 t231] 32 (0, 0)) (by (with_reducible repeat (first | refine blk_drewN ?_ _ | refine blk_drew ?_ | refine blk_alloc ?_ _)); exact BK233.out)) : gb233 ≠ gb260)); have n8_ := Aside0.mk ((by rw [hg]; exact Nat.ne_of_gt (blk_lt (g := gb233) (o := .cells #[.int .i64 t225, .int .i64 t226, .int .i64 t227, .int .i64 t228, .int .i64 t229, .int .i64 t230, .int .i64 t231] 32 (0, 0)) (by (with_reducible repeat (first | refine blk_drewN ?_ _ | refine blk_drew ?_ | refine blk_alloc ?_ _)); exact BK233.out)) : gb260 ≠ gb233)); have n9_ := Aside0.mk ((by rw [hg]; exact Nat.ne_of_lt (blk_lt (g := gb246) (o := .cells #[.int .i64 t238, .int .i64 t239, .int .i64 t240, .int .i64 t241, .int .i64 t242, .int .i64 t243, .int .i64 t244] 32 (0, 0)) (by (with_reducible repeat (first | refine blk_drewN ?_ _ | refine blk_drew ?_ | refine blk_alloc ?_ _)); exact BK246.out)) : gb246 ≠ gb260)); have n10_ := Aside0.mk ((by rw [hg]; exact Nat.ne_of_gt (blk_lt (g := gb246) (o := .cells #[.int .i64 t238, .int .i64 t239, .int .i64 t240, .int .i64 t241, .int .i64 t242, .int .i64 t243, .int .i64 t244] 32 (0, 0)) (by (with_reducible repeat (first | refine blk_drewN ?_ _ | refine blk_drew ?_ | refine blk_alloc ?_ _)); exact BK246.out)) : gb260 ≠ gb246)); clear HO_11; clear BK233; clear BK246; clear HB; have HO_11 := n0_; have BK233 := n1_; have BK246 := n2_; have HB := n3_; have BK260 := n4_; have GW260 := n5_; have GE260 := n6_; have NB233_260 := n7_; have NB260_233 := n8_; have NB246_260 := n9_; have NB260_246 := n10_; clear n0_ n1_ n2_ n3_ n4_ n5_ n6_ n7_ n8_ n9_ n10_; clear hb hbox hg; have hnb44 := NB260_233.out; have hnc44 := NB233_260.out; have hnb45 := NB260_246.out; have hnc45 := NB246_260.out; have hcz46_0 : w43.cell? ⟨gb260, 0, none⟩ = some (.int .i64 0) := (blk_cell BK260.out 0).trans rfl; have hcz46_1 : w43.cell? ⟨gb260, 1, none⟩ = some (.int .i64 0) := (blk_cell BK260.out 1).trans rfl; have hcz46_2 : w43.cell? ⟨gb260, 2, none⟩ = some (.int .i64 0) := (blk_cell BK260.out 2).trans rfl; have hcz46_3 : w43.cell? ⟨gb260, 3, none⟩ = some (.int .i64 0) := (blk_cell BK260.out 3).trans rfl; have hcz46_4 : w43.cell? ⟨gb260, 4, none⟩ = some (.int .i64 0) := (blk_cell BK260.out 4).trans rfl; have hcz46_5 : w43.cell? ⟨gb260, 5, none⟩ = some (.int .i64 0) := (blk_cell BK260.out 5).trans rfl; have hcz46_6 : w43.cell? ⟨gb260, 6, none⟩ = some (.int .i64 0) := (blk_cell BK260.out 6).trans rfl; have hfz46_0 := blk_frozen BK260.out 0; have hfz46_1 := blk_frozen BK260.out 1; have hfz46_2 := blk_frozen BK260.out 2; have hfz46_3 := blk_frozen BK260.out 3; have hfz46_4 := blk_frozen BK260.out 4; have hfz46_5 := blk_frozen BK260.out 5; have hfz46_6 := blk_frozen BK260.out 6) | (go_at_call 20; (with_reducible refine (bollardlaw6_awake.calls  t261 _ A38.out).mono ?_); rintro e w47 ⟨rfl, hb⟩; have n0_ := Aside0.mk (Kd.R_below (by (with_reducible repeat (first | apply Kd.R_alloc | apply Kd.R_drewN | apply Kd.R_drew)); exact (Kd.R_mono (Kd.R_far (p := ⟨gb260, 6, none⟩) (Kd.R_far (p := ⟨gb260, 5, none⟩) (Kd.R_far (p := ⟨gb260, 4, none⟩) (Kd.R_far (p := ⟨gb260, 3, none⟩) (Kd.R_far (p := ⟨gb260, 2, none⟩) (Kd.R_far (p := ⟨gb260, 1, none⟩) (Kd.R_far (p := ⟨gb260, 0, none⟩) (Kd.R_types HO_11.out BK260.out (by decide)) (fun _ hk => hk.2) (.int .i64 t252)) (fun _ hk => hk.2) (.int .i64 t253)) (fun _ hk => hk.2) (.int .i64 t254)) (fun _ hk => hk.2) (.int .i64 t255)) (fun _ hk => hk.2) (.int .i64 t256)) (fun _ hk => hk.2) (.int .i64 t257)) (fun _ hk => hk.2) (.int .i64 t258)) (fun _ h_ => h_.1))) hb); have n1_ := Aside0.mk (blk_below (g := gb233) (o := .cells #[.int .i64 t225, .int .i64 t226, .int .i64 t227, .int .i64 t228, .int .i64 t229, .int .i64 t230, .int .i64 t231] 32 (0, 0)) (by (with_reducible repeat (first | refine blk_drewN ?_ _ | refine blk_drew ?_ | refine blk_alloc ?_ _)); refine blk_far ?_ NB233_260.out _; (with_reducible repeat (first | refine blk_drewN ?_ _ | refine blk_drew ?_ | refine blk_alloc ?_ _)); refine blk_far ?_ NB233_260.out _; (with_reducible repeat (first | refine blk_drewN ?_ _ | refine blk_drew ?_ | refine blk_alloc ?_ _)); refine blk_far ?_ NB233_260.out _; (with_reducible repeat (first | refine blk_drewN ?_ _ | refine blk_drew ?_ | refine blk_alloc ?_ _)); refine blk_far ?_ NB233_260.out _; (with_reducible repeat (first | refine blk_drewN ?_ _ | refine blk_drew ?_ | refine blk_alloc ?_ _)); refine blk_far ?_ NB233_260.out _; (with_reducible repeat (first | refine blk_drewN ?_ _ | refine blk_drew ?_ | refine blk_alloc ?_ _)); refine blk_far ?_ NB233_260.out _; (with_reducible repeat (first | refine blk_drewN ?_ _ | refine blk_drew ?_ | refine blk_alloc ?_ _)); refine blk_far ?_ NB233_260.out _; (with_reducible repeat (first | refine blk_drewN ?_ _ | refine blk_drew ?_ | refine blk_alloc ?_ _)); exact BK233.out) hb); have n2_ := Aside0.mk (blk_below (g := gb246) (o := .cells #[.int .i64 t238, .int .i64 t239, .int .i64 t240, .int .i64 t241, .int .i64 t242, .int .i64 t243, .int .i64 t244] 32 (0, 0)) (by (with_reducible repeat (first | refine blk_drewN ?_ _ | refine blk_drew ?_ | refine blk_alloc ?_ _)); refine blk_far ?_ NB246_260.out _; (with_reducible repeat (first | refine blk_drewN ?_ _ | refine blk_drew ?_ | refine blk_alloc ?_ _)); refine blk_far ?_ NB246_260.out _; (with_reducible repeat (first | refine blk_drewN ?_ _ | refine blk_drew ?_ | refine blk_alloc ?_ _)); refine blk_far ?_ NB246_260.out _; (with_reducible repeat (first | refine blk_drewN ?_ _ | refine blk_drew ?_ | refine blk_alloc ?_ _)); refine blk_far ?_ NB246_260.out _; (with_reducible repeat (first | refine blk_drewN ?_ _ | refine blk_drew ?_ | refine blk_alloc ?_ _)); refine blk_far ?_ NB246_260.out _; (with_reducible repeat (first | refine blk_drewN ?_ _ | refine blk_drew ?_ | refine blk_alloc ?_ _)); refine blk_far ?_ NB246_260.out _; (with_reducible repeat (first | refine blk_drewN ?_ _ | refine blk_drew ?_ | refine blk_alloc ?_ _)); refine blk_far ?_ NB246_260.out _; (with_reducible repeat (first | refine blk_drewN ?_ _ | refine blk_drew ?_ | refine blk_alloc ?_ _)); exact BK246.out) hb); have n3_ := Aside0.mk (blk_below (g := gb260) (o := .cells #[.int .i64 t252, .int .i64 t253, .int .i64 t254, .int .i64 t255, .int .i64 t256, .int .i64 t257, .int .i64 t258] 32 (0, 0)) (by (with_reducible repeat (first | refine blk_drewN ?_ _ | refine blk_drew ?_ | refine blk_alloc ?_ _)); refine blk_put (cs := #[.int .i64 t252, .int .i64 t253, .int .i64 t254, .int .i64 t255, .int .i64 t256, .int .i64 t257, .int .i64 0]) ?_ 6 _ (by first | rfl | (simp only [*, List.setIfInBounds_toArray, List.set_cons_zero, List.set_cons_succ]; done) | (simp [*]; done)); (with_reducible repeat (first | refine blk_drewN ?_ _ | refine blk_drew ?_ | refine blk_alloc ?_ _)); refine blk_put (cs := #[.int .i64 t252, .int .i64 t253, .int .i64 t254, .int .i64 t255, .int .i64 t256, .int .i64 0, .int .i64 0]) ?_ 5 _ (by first | rfl | (simp only [*, List.setIfInBounds_toArray, List.set_cons_zero, List.set_cons_succ]; done) | (simp [*]; done)); (with_reducible repeat (first | refine blk_drewN ?_ _ | refine blk_drew ?_ | refine blk_alloc ?_ _)); refine blk_put (cs := #[.int .i64 t252, .int .i64 t253, .int .i64 t254, .int .i64 t255, .int .i64 0, .int .i64 0, .int .i64 0]) ?_ 4 _ (by first | rfl | (simp only [*, List.setIfInBounds_toArray, List.set_cons_zero, List.set_cons_succ]; done) | (simp [*]; done)); (with_reducible repeat (first | refine blk_drewN ?_ _ | refine blk_drew ?_ | refine blk_alloc ?_ _)); refine blk_put (cs := #[.int .i64 t252, .int .i64 t253, .int .i64 t254, .int .i64 0, .int .i64 0, .int .i64 0, .int .i64 0]) ?_ 3 _ (by first | rfl | (simp only [*, List.setIfInBounds_toArray, List.set_cons_zero, List.set_cons_succ]; done) | (simp [*]; done)); (with_reducible repeat (first | refine blk_drewN ?_ _ | refine blk_drew ?_ | refine blk_alloc ?_ _)); refine blk_put (cs := #[.int .i64 t252, .int .i64 t253, .int .i64 0, .int .i64 0, .int .i64 0, .int .i64 0, .int .i64 0]) ?_ 2 _ (by first | rfl | (simp only [*, List.setIfInBounds_toArray, List.set_cons_zero, List.set_cons_succ]; done) | (simp [*]; done)); (with_reducible repeat (first | refine blk_drewN ?_ _ | refine blk_drew ?_ | refine blk_alloc ?_ _)); refine blk_put (cs := #[.int .i64 t252, .int .i64 0, .int .i64 0, .int .i64 0, .int .i64 0, .int .i64 0, .int .i64 0]) ?_ 1 _ (by first | rfl | (simp only [*, List.setIfInBounds_toArray, List.set_cons_zero, List.set_cons_succ]; done) | (simp [*]; done)); (with_reducible repeat (first | refine blk_drewN ?_ _ | refine blk_drew ?_ | refine blk_alloc ?_ _)); refine blk_put (cs := #[.int .i64 0, .int .i64 0, .int .i64 0, .int .i64 0, .int .i64 0, .int .i64 0, .int .i64 0]) ?_ 0 _ (by first | rfl | (simp only [*, List.setIfInBounds_toArray, List.set_cons_zero, List.set_cons_succ]; done) | (simp [*]; done)); (with_reducible repeat (first | refine blk_drewN ?_ _ | refine blk_drew ?_ | refine blk_alloc ?_ _)); exact BK260.out) hb); have n4_ := Aside0.mk (below_step (by repeat (first | (with_reducible first | exact HB.out | apply below_alloc | apply pw_below_drewN | apply below_drew1 | refine below_set ?_ GE233.out | refine below_set ?_ GE246.out | refine below_set ?_ GE260.out) | exact HB.out)) hb); clear HO_11; clear BK233; clear BK246; clear BK260; clear HB; have HO_11 := n0_; have BK233 := n1_; have BK246 := n2_; have BK260 := n3_; have HB := n4_; clear n0_ n1_ n2_ n3_ n4_; (try clear hb); (try clear hb2); (try clear hk); (try clear hi)))
                    go_ret
                    exact ⟨by first | rfl | (simp [errW_none, errW_some] <;> rfl) | (simp [*, errW_none, errW_some] <;> rfl), by repeat (first | (with_reducible first | exact HB.out | apply below_alloc | apply pw_below_drewN | apply below_drew1 | refine below_set ?_ GE233.out | refine below_set ?_ GE246.out | refine below_set ?_ GE260.out) | exact HB.out)⟩
                  · rw [if_neg c37] at H
                    have c37b0 : (t259 == 10) = false := beq_eq_false_iff_ne.mpr c37
                    have c37b1 : (t259 != 10) = true := bne_iff_ne.mpr c37
                    obtain rfl := Option.some.inj H
                    try go_wp2
                    have n0_ := Aside0.mk (Kd.R_drew HO_11.out)
                    have n1_ := Aside0.mk (blk_drew BK233.out)
                    have n2_ := Aside0.mk (blk_drew BK246.out)
                    have n3_ := Aside0.mk (below_drew1 HB.out)
                    clear HO_11
                    clear BK233
                    clear BK246
                    clear HB
                    have HO_11 := n0_
                    have BK233 := n1_
                    have BK246 := n2_
                    have HB := n3_
                    clear n0_ n1_ n2_ n3_
                    have p249 : 0 ≤ (t248 : Int) := of_decide_eq_true (by first | (with_reducible assumption) | assumption)
                    have q249 : t248 < (t235.length : Int) := of_decide_eq_true (by first | (with_reducible assumption) | assumption)
                    obtain ⟨ad249, e249, hx249_0⟩ := Kd.at_int (Kd.R_reads' HO_11.out).2.2 t248 p249 q249
                    cases e249
                    replace p249 := eq_true p249
                    replace q249 := eq_true q249
                    refine start_ (n := 15) (S := fun w' => w'.cell? (ad249.add (t248).toNat) = some (.int .u8 (rd t235 t248))) (ds := [14]) #[false, false, false, false, false, false, false, false, false, false, false, false, false, false, false] (by kernel_rfl) rfl rfl (hx249_0) (fun hHeld => ?_); refine with_tabW bollardlaw6_LayoutBack.tab8 bollardlaw6_LayoutBack.bits8 (fun HT_ HW_ => ?_)
                    generalize wc.drew = w48 at HO_11 BK233 BK246 HB hx249_0 hHeld ⊢
                    refine pure_ (i := 0) (N := some 49) (v := ?_) (a' := ?_) #[true, false, false, false, false, false, false, false, false, false, false, false, false, false, false] rfl rfl (any_of HT_.out (by kernel_rfl)) (fun _ _ _ h => h) (Or.inl ⟨by rfl, ?_⟩) ?_ ?_
                    rotate_left
                    · intro w'
                      go_simp
                      with_reducible rfl
                    rotate_left
                    · simp only [Act.put, List.setIfInBounds_toArray, List.set_cons_zero, List.set_cons_succ, i64_w, i32_w]
                      rfl
                    refine pure_ (i := 1) (N := some 50) (v := ?_) (a' := ?_) #[true, true, false, false, false, false, false, false, false, false, false, false, false, false, false] rfl rfl (any_of HT_.out (by kernel_rfl)) (fun _ _ _ h => h) (Or.inl ⟨by rfl, ?_⟩) ?_ ?_
                    rotate_left
                    · intro w'
                      go_simp
                      with_reducible rfl
                    rotate_left
                    · simp only [Act.put, List.setIfInBounds_toArray, List.set_cons_zero, List.set_cons_succ, i64_w, i32_w]
                      rfl
                    refine pure_ (i := 3) (N := some 52) (v := ?_) (a' := ?_) #[true, true, false, true, false, false, false, false, false, false, false, false, false, false, false] rfl rfl (any_of HT_.out (by kernel_rfl)) (fun _ _ _ h => h) (Or.inl ⟨by rfl, ?_⟩) ?_ ?_
                    rotate_left
                    · intro w'
                      go_simp
                      with_reducible rfl
                    rotate_left
                    · simp only [Act.put, List.setIfInBounds_toArray, List.set_cons_zero, List.set_cons_succ, i64_w, i32_w]
                      rfl
                    refine pure_ (i := 4) (N := some 53) (v := ?_) (a' := ?_) #[true, true, false, true, true, false, false, false, false, false, false, false, false, false, false] rfl rfl (any_of HT_.out (by kernel_rfl)) (fun _ _ _ h => h) (Or.inl ⟨by rfl, ?_⟩) ?_ ?_
                    rotate_left
                    · intro w'
                      go_simp
                      with_reducible rfl
                    rotate_left
                    · simp only [Act.put, List.setIfInBounds_toArray, List.set_cons_zero, List.set_cons_succ, i64_w, i32_w]
                      rfl
                    refine pure_ (i := 8) (N := some 57) (v := ?_) (a' := ?_) #[true, true, false, true, true, false, false, false, true, false, false, false, false, false, false] rfl rfl (any_of HT_.out (by kernel_rfl)) (fun _ _ _ h => h) (Or.inl ⟨by rfl, ?_⟩) ?_ ?_
                    rotate_left
                    · intro w'
                      go_simp
                      with_reducible rfl
                    rotate_left
                    · simp only [Act.put, List.setIfInBounds_toArray, List.set_cons_zero, List.set_cons_succ, i64_w, i32_w]
                      rfl
                    refine one_ (i := 2) (N := some 51) #[true, true, true, true, true, false, false, false, true, false, false, false, false, false, false] rfl rfl (one_of HT_.out (by kernel_rfl)) (by decide) (fun K hK => ?_)
                    refine goes_ Try.func26 (by kernel_rfl) rfl #[.int .i64 a2, .int .i64 512] (by rfl) rfl rfl (by (try simp only [List.map_toArray, List.map_cons, List.map_nil]); first | done | rfl | (simp only [List.length_drop, List.length_take]; rfl)) ?_
                    with_reducible refine (bollardalike_Round.calls a2 512 t247 _ A28.out).mono ?_
                    rintro e w' ⟨rfl, ⟨nd1_, rfl⟩⟩
                    refine ⟨_, rfl, ?_⟩
                    refine hK.out _ _ (hHeld) (fun hHeld => ?_)
                    clear hK K
                    refine norm_ (a' := ?_) ?_ ?_
                    rotate_left
                    · show Act.put _ (some 51) _ = _
                      simp only [Act.put, List.setIfInBounds_toArray, List.set_cons_zero, List.set_cons_succ, i64_w, i32_w]
                      rfl
                    refine one_ (i := 5) (N := some 54) #[true, true, true, true, true, true, false, false, true, false, false, false, false, false, false] rfl rfl (one_of HT_.out (by kernel_rfl)) (by decide) (fun K hK => ?_)
                    refine goes_ Try.func26 (by kernel_rfl) rfl #[.int .i64 a2, .int .i64 512] (by rfl) rfl rfl (by (try simp only [List.map_toArray, List.map_cons, List.map_nil]); first | done | rfl | (simp only [List.length_drop, List.length_take]; rfl)) ?_
                    with_reducible refine (bollardalike_Round.calls a2 512 t248 _ A29.out).mono ?_
                    rintro e w' ⟨rfl, ⟨nd2_, rfl⟩⟩
                    refine ⟨_, rfl, ?_⟩
                    refine hK.out _ _ (hHeld) (fun hHeld => ?_)
                    clear hK K
                    refine norm_ (a' := ?_) ?_ ?_
                    rotate_left
                    · show Act.put _ (some 54) _ = _
                      simp only [Act.put, List.setIfInBounds_toArray, List.set_cons_zero, List.set_cons_succ, i64_w, i32_w]
                      rfl
                    refine pure_ (i := 6) (N := some 55) (v := ?_) (a' := ?_) #[true, true, true, true, true, true, true, false, true, false, false, false, false, false, false] rfl rfl (any_of HT_.out (by kernel_rfl)) (fun _ _ _ h => h) (Or.inl ⟨by rfl, ?_⟩) ?_ ?_
                    rotate_left
                    · intro w'
                      go_simp
                      with_reducible rfl
                    rotate_left
                    · simp only [Act.put, List.setIfInBounds_toArray, List.set_cons_zero, List.set_cons_succ, i64_w, i32_w]
                      rfl
                    refine take_ (i := 7) (N := some 56) (v := ?_) (a' := ?_) #[true, true, true, true, true, true, true, true, true, false, false, false, false, false, false] rfl rfl (take_ofW HT_.out HW_.out (by kernel_rfl)) (fun _ _ _ h => h) (Or.inl ⟨by rfl, ?_⟩) hHeld ?_ ?_
                    rotate_left
                    · intro w' s0
                      go_simp
                      with_reducible rfl
                    rotate_left
                    · simp only [Act.put, List.setIfInBounds_toArray, List.set_cons_zero, List.set_cons_succ, i64_w, i32_w]
                      rfl
                    refine one_ (i := 9) (N := some 58) #[true, true, true, true, true, true, true, true, true, true, false, false, false, false, false] rfl rfl (one_of HT_.out (by kernel_rfl)) (by decide) (fun K hK => ?_)
                    refine goes_ Try.func26 (by kernel_rfl) rfl #[.int .i64 a3, .int .i64 255] (by rfl) rfl rfl (by (try simp only [List.map_toArray, List.map_cons, List.map_nil]); first | done | rfl | (simp only [List.length_drop, List.length_take]; rfl)) ?_
                    with_reducible refine (bollardalike_Round.calls a3 255 t250 _ A32.out).mono ?_
                    rintro e w' ⟨rfl, ⟨nd3_, rfl⟩⟩
                    refine ⟨_, rfl, ?_⟩
                    have p35 : 0 ≤ (t247 : Int) := of_decide_eq_true (by first | (with_reducible assumption) | assumption)
                    have q35 : (t247 : Int) < ((t235.length : Int) : Int) := of_decide_eq_true (by first | (with_reducible assumption) | assumption)
                    obtain ⟨go35, co35, eo35, gb35, gl35, cl35, HG35⟩ := Kd.R_form HO_11.out (by omega)
                    (first | cases eo35 | (injection eo35 with ea_ en_ ec_; (first | subst ea_ | (injection ea_ with ea_; subst ea_)); subst ec_; clear en_))
                    have GB35 := Aside0.mk gb35
                    have GG35 := Aside0.mk HG35
                    clear gb35 gl35 HG35
                    (first | simp only [add_plain] at hx249_0 | skip)
                    obtain ⟨hx35_0, hf35_0⟩ := Kd.R_celln 0 HO_11.out (t247 : Int) p35 q35
                    replace p35 := eq_true p35
                    replace q35 := eq_true q35
                    have HP49 := Kd.R_putn HO_11.out (t247 : Int) (Go.bits .xor .u8 (rd t235 t248) ((wrap64 (t250 + 1)) % 256))
                    rw [← Ny251.out] at HP49
                    have HQ49 := Aside0.mk HP49
                    clear HP49
                    refine hK.out _ _ (hHeld) (fun hHeld => ?_)
                    clear hK K
                    refine norm_ (a' := ?_) ?_ ?_
                    rotate_left
                    · show Act.put _ (some 58) _ = _
                      simp only [Act.put, List.setIfInBounds_toArray, List.set_cons_zero, List.set_cons_succ, i64_w, i32_w]
                      rfl
                    refine pure_ (i := 10) (N := some 59) (v := ?_) (a' := ?_) #[true, true, true, true, true, true, true, true, true, true, true, false, false, false, false] rfl rfl (any_of HT_.out (by kernel_rfl)) (fun _ _ _ h => h) (Or.inl ⟨by rfl, ?_⟩) ?_ ?_
                    rotate_left
                    · intro w'
                      go_simp
                      with_reducible rfl
                    rotate_left
                    · simp only [Act.put, List.setIfInBounds_toArray, List.set_cons_zero, List.set_cons_succ, i64_w, i32_w]
                      rfl
                    refine pure_ (i := 11) (N := some 60) (v := ?_) (a' := ?_) #[true, true, true, true, true, true, true, true, true, true, true, true, false, false, false] rfl rfl (any_of HT_.out (by kernel_rfl)) (fun _ _ _ h => h) (Or.inl ⟨by rfl, ?_⟩) ?_ ?_
                    rotate_left
                    · intro w'
                      go_simp
                      with_reducible rfl
                    rotate_left
                    · simp only [Act.put, List.setIfInBounds_toArray, List.set_cons_zero, List.set_cons_succ, i64_w, i32_w]
                      rfl
                    refine pure_ (i := 12) (N := some 61) (v := ?_) (a' := ?_) #[true, true, true, true, true, true, true, true, true, true, true, true, true, false, false] rfl rfl (any_of HT_.out (by kernel_rfl)) (fun _ _ _ h => h) (Or.inl ⟨by rfl, ?_⟩) ?_ ?_
                    rotate_left
                    · intro w'
                      go_simp
                      with_reducible rfl
                    rotate_left
                    · simp only [Act.put, List.setIfInBounds_toArray, List.set_cons_zero, List.set_cons_succ, i64_w, i32_w]
                      rfl
                    refine pure_ (i := 13) (N := some 62) (v := ?_) (a' := ?_) #[true, true, true, true, true, true, true, true, true, true, true, true, true, true, false] rfl rfl (any_of HT_.out (by kernel_rfl)) (fun _ _ _ h => h) (Or.inl ⟨by rfl, ?_⟩) ?_ ?_
                    rotate_left
                    · intro w'
                      go_simp
                      with_reducible rfl
                    rotate_left
                    · simp only [Act.put, List.setIfInBounds_toArray, List.set_cons_zero, List.set_cons_succ, i64_w, i32_w]
                      rfl
                    refine last_ (i := 14) (N := none) #[true, true, true, true, true, true, true, true, true, true, true, true, true, true, true] rfl rfl (one_of HT_.out (by kernel_rfl)) (by decide) (fun K hK => ?_)
                    refine skip_ (w1 := ?_) (by rfl) rfl ?_ ?_
                    rotate_left
                    · go_simp
                      rfl
                    refine hK.out _ _ ?_
                    clear hK K
                    refine done_ (done_of HT_.out (by kernel_rfl)) ?_
                    have n0_ : Aside0 (Kd.R (Kd.int .u8) 5 ((w48.drewN (nd1_ + nd2_ + nd3_)).setCell ⟨go35, (t247 : Int).toNat, none⟩ (.int .u8 (Go.bits .xor .u8 (rd t235 t248) ((wrap64 (t250 + 1)) % 256)))) w.heap.size (fun _ => True) (.slice (some ⟨go35, 0, none⟩) t235.length co14) y251) := ⟨by (with_reducible repeat (first | apply Kd.R_alloc | apply Kd.R_drewN | apply Kd.R_drew)); exact HQ49.out⟩
                    have n1_ : Aside0 (((w48.drewN (nd1_ + nd2_ + nd3_)).setCell ⟨go35, (t247 : Int).toNat, none⟩ (.int .u8 (Go.bits .xor .u8 (rd t235 t248) ((wrap64 (t250 + 1)) % 256)))).heap[gb233]? = some (.cells #[.int .i64 t225, .int .i64 t226, .int .i64 t227, .int .i64 t228, .int .i64 t229, .int .i64 t230, .int .i64 t231] 32 (0, 0))) := ⟨by (with_reducible repeat (first | refine blk_drewN ?_ _ | refine blk_drew ?_ | refine blk_alloc ?_ _)); refine blk_far ?_ (by have h_ := Kd.R_ne HO_11.out BK233.out (by decide); intro e_; exact h_ (by rw [e_]; rfl)) _; (with_reducible repeat (first | refine blk_drewN ?_ _ | refine blk_drew ?_ | refine blk_alloc ?_ _)); exact BK233.out⟩
                    have n2_ : Aside0 (((w48.drewN (nd1_ + nd2_ + nd3_)).setCell ⟨go35, (t247 : Int).toNat, none⟩ (.int .u8 (Go.bits .xor .u8 (rd t235 t248) ((wrap64 (t250 + 1)) % 256)))).heap[gb246]? = some (.cells #[.int .i64 t238, .int .i64 t239, .int .i64 t240, .int .i64 t241, .int .i64 t242, .int .i64 t243, .int .i64 t244] 32 (0, 0))) := ⟨by (with_reducible repeat (first | refine blk_drewN ?_ _ | refine blk_drew ?_ | refine blk_alloc ?_ _)); refine blk_far ?_ (by have h_ := Kd.R_ne HO_11.out BK246.out (by decide); intro e_; exact h_ (by rw [e_]; rfl)) _; (with_reducible repeat (first | refine blk_drewN ?_ _ | refine blk_drew ?_ | refine blk_alloc ?_ _)); exact BK246.out⟩
                    have n3_ : Aside0 (Below w.heap.size w ((w48.drewN (nd1_ + nd2_ + nd3_)).setCell ⟨go35, (t247 : Int).toNat, none⟩ (.int .u8 (Go.bits .xor .u8 (rd t235 t248) ((wrap64 (t250 + 1)) % 256))))) := ⟨by repeat (first | (with_reducible first | exact HB.out | apply below_alloc | apply pw_below_drewN | apply below_drew1 | refine below_set ?_ GB35.out | refine below_set ?_ GE233.out | refine below_set ?_ GE246.out) | exact HB.out)⟩
                    (try clear HO_11)
                    (try clear BK233)
                    (try clear BK246)
                    (try clear HB)
                    (try (simp only [show ∀ x : Int, IntKind.u8.wrap x = x % 256 from fun _ => rfl]))
                    generalize ((w48.drewN (nd1_ + nd2_ + nd3_)).setCell ⟨go35, (t247 : Int).toNat, none⟩ (.int .u8 (Go.bits .xor .u8 (rd t235 t248) ((wrap64 (t250 + 1)) % 256)))) = w50 at n0_ n1_ n2_ n3_ ⊢
                    have HO_11 := n0_
                    have BK233 := n1_
                    have BK246 := n2_
                    have HB := n3_
                    clear n0_ n1_ n2_ n3_
                    go_wp2_with fail
                    have hq := layout_Decode.calls kj8 (some ⟨go35, 0, none⟩) co14 y251 t252 t253 t254 t255 t256 t257 t258 t259 _ ((Kd.R_reads' HO_11.out).2.2) (by rw [show y251.length = t235.length from (Kd.R_reads' HO_11.out).1.symm]; exact (Kd.R_reads' HO_11.out).2.1) A36.out
                    rw [show y251.length = t235.length from (Kd.R_reads' HO_11.out).1.symm] at hq
                    refine hq.mono ?_
                    clear hq
                    rintro e w51 ⟨rfl, hb⟩
                    have n0_ := Aside0.mk (Kd.R_below (by (with_reducible repeat (first | apply Kd.R_alloc | apply Kd.R_drewN | apply Kd.R_drew)); exact HO_11.out) hb); have n1_ := Aside0.mk (blk_below (g := gb233) (o := .cells #[.int .i64 t225, .int .i64 t226, .int .i64 t227, .int .i64 t228, .int .i64 t229, .int .i64 t230, .int .i64 t231] 32 (0, 0)) (by (with_reducible repeat (first | refine blk_drewN ?_ _ | refine blk_drew ?_ | refine blk_alloc ?_ _)); exact BK233.out) hb); have n2_ := Aside0.mk (blk_below (g := gb246) (o := .cells #[.int .i64 t238, .int .i64 t239, .int .i64 t240, .int .i64 t241, .int .i64 t242, .int .i64 t243, .int .i64 t244] 32 (0, 0)) (by (with_reducible repeat (first | refine blk_drewN ?_ _ | refine blk_drew ?_ | refine blk_alloc ?_ _)); exact BK246.out) hb); have n3_ := Aside0.mk (below_step (by repeat (first | (with_reducible first | exact HB.out | apply below_alloc | apply pw_below_drewN | apply below_drew1 | refine below_set ?_ GE233.out | refine below_set ?_ GE246.out) | exact HB.out)) hb); clear HO_11; clear BK233; clear BK246; clear HB; have HO_11 := n0_; have BK233 := n1_; have BK246 := n2_; have HB := n3_; clear n0_ n1_ n2_ n3_; (try clear hb); (try clear hb2); (try clear hk); (try clear hi)
                    try go_wp2_with (first | ((with_reducible refine gate_dst (N := 14) rfl ?_); (try (refine gate_guard (by rfl) ?_; dsimp only)); refine box_event ?hg (N := 14) ?hd (cs := #[.int .i64 0, .int .i64 0, .int .i64 0, .int .i64 0, .int .i64 0, .int .i64 0, .int .i64 0]) (t := 32) ?hr ?_; (case hd => rfl); (case hg => rfl); (case hr => first | (go_simp; done) | (go_simp; rfl)); intro gb260 hg w52 hbox hb; have n0_ := Aside0.mk (Kd.R_below (by (with_reducible repeat (first | apply Kd.R_alloc | apply Kd.R_drewN | apply Kd.R_drew)); exact HO_11.out) hb); have n1_ := Aside0.mk (blk_below (g := gb233) (o := .cells #[.int .i64 t225, .int .i64 t226, .int .i64 t227, .int .i64 t228, .int .i64 t229, .int .i64 t230, .int .i64 t231] 32 (0, 0)) (by (with_reducible repeat (first | refine blk_drewN ?_ _ | refine blk_drew ?_ | refine blk_alloc ?_ _)); exact BK233.out) hb); have n2_ := Aside0.mk (blk_below (g := gb246) (o := .cells #[.int .i64 t238, .int .i64 t239, .int .i64 t240, .int .i64 t241, .int .i64 t242, .int .i64 t243, .int .i64 t244] 32 (0, 0)) (by (with_reducible repeat (first | refine blk_drewN ?_ _ | refine blk_drew ?_ | refine blk_alloc ?_ _)); exact BK246.out) hb); have n3_ := Aside0.mk (below_step (by repeat (first | (with_reducible first | exact HB.out | apply below_alloc | apply pw_below_drewN | apply below_drew1 | refine below_set ?_ GE233.out | refine below_set ?_ GE246.out) | exact HB.out)) hb); have n4_ := Aside0.mk (hbox); have n5_ := Aside0.mk ((by rw [hg]; exact (below_size (by repeat (first | (with_reducible first | exact HB.out | apply below_alloc | apply pw_below_drewN | apply below_drew1 | refine below_set ?_ GE233.out | refine below_set ?_ GE246.out) | exact HB.out))) : w.heap.size ≤ gb260)); have n6_ := Aside0.mk ((by rw [hg]; exact (below_size (by repeat (first | (with_reducible first | exact HB.out | apply below_alloc | apply pw_below_drewN | apply below_drew1 | refine below_set ?_ GE233.out | refine below_set ?_ GE246.out) | exact HB.out))) : w.heap.size ≤ gb260)); have n7_ := Aside0.mk ((by rw [hg]; exact Nat.ne_of_lt (blk_lt (g := gb233) (o := .cells #[.int .i64 t225, .int .i64 t226, .int .i64 t227, .int .i64 t228, .int .i64 t229, .int .i64 t230, .int .i64 t231] 32 (0, 0)) (by (with_reducible repeat (first | refine blk_drewN ?_ _ | refine blk_drew ?_ | refine blk_alloc ?_ _)); exact BK233.out)) : gb233 ≠ gb260)); have n8_ := Aside0.mk ((by rw [hg]; exact Nat.ne_of_gt (blk_lt (g := gb233) (o := .cells #[.int .i64 t225, .int .i64 t226, .int .i64 t227, .int .i64 t228, .int .i64 t229, .int .i64 t230, .int .i64 t231] 32 (0, 0)) (by (with_reducible repeat (first | refine blk_drewN ?_ _ | refine blk_drew ?_ | refine blk_alloc ?_ _)); exact BK233.out)) : gb260 ≠ gb233)); have n9_ := Aside0.mk ((by rw [hg]; exact Nat.ne_of_lt (blk_lt (g := gb246) (o := .cells #[.int .i64 t238, .int .i64 t239, .int .i64 t240, .int .i64 t241, .int .i64 t242, .int .i64 t243, .int .i64 t244] 32 (0, 0)) (by (with_reducible repeat (first | refine blk_drewN ?_ _ | refine blk_drew ?_ | refine blk_alloc ?_ _)); exact BK246.out)) : gb246 ≠ gb260)); have n10_ := Aside0.mk ((by rw [hg]; exact Nat.ne_of_gt (blk_lt (g := gb246) (o := .cells #[.int .i64 t238, .int .i64 t239, .int .i64 t240, .int .i64 t241, .int .i64 t242, .int .i64 t243, .int .i64 t244] 32 (0, 0)) (by (with_reducible repeat (first | refine blk_drewN ?_ _ | refine blk_drew ?_ | refine blk_alloc ?_ _)); exact BK246.out)) : gb260 ≠ gb246)); clear HO_11; clear BK233; clear BK246; clear HB; have HO_11 := n0_; have BK233 := n1_; have BK246 := n2_; have HB := n3_; have BK260 := n4_; have GW260 := n5_; have GE260 := n6_; have NB233_260 := n7_; have NB260_233 := n8_; have NB246_260 := n9_; have NB260_246 := n10_; clear n0_ n1_ n2_ n3_ n4_ n5_ n6_ n7_ n8_ n9_ n10_; clear hb hbox hg; have hnb53 := NB260_233.out; have hnc53 := NB233_260.out; have hnb54 := NB260_246.out; have hnc54 := NB246_260.out; have hcz55_0 : w52.cell? ⟨gb260, 0, none⟩ = some (.int .i64 0) := (blk_cell BK260.out 0).trans rfl; have hcz55_1 : w52.cell? ⟨gb260, 1, none⟩ = some (.int .i64 0) := (blk_cell BK260.out 1).trans rfl; have hcz55_2 : w52.cell? ⟨gb260, 2, none⟩ = some (.int .i64 0) := (blk_cell BK260.out 2).trans rfl; have hcz55_3 : w52.cell? ⟨gb260, 3, none⟩ = some (.int .i64 0) := (blk_cell BK260.out 3).trans rfl; have hcz55_4 : w52.cell? ⟨gb260, 4, none⟩ = some (.int .i64 0) := (blk_cell BK260.out 4).trans rfl; have hcz55_5 : w52.cell? ⟨gb260, 5, none⟩ = some (.int .i64 0) := (blk_cell BK260.out 5).trans rfl; have hcz55_6 : w52.cell? ⟨gb260, 6, none⟩ = some (.int .i64 0) := (blk_cell BK260.out 6).trans rfl; have hfz55_0 := blk_frozen BK260.out 0; have hfz55_1 := blk_frozen BK260.out 1; have hfz55_2 := blk_frozen BK260.out 2; have hfz55_3 := blk_frozen BK260.out 3; have hfz55_4 := blk_frozen BK260.out 4; have hfz55_5 := blk_frozen BK260.out 5; have hfz55_6 := blk_frozen BK260.out 6))
                    go_ret
                    exact ⟨by first | rfl | (simp [errW_none, errW_some] <;> rfl) | (simp [*, errW_none, errW_some] <;> rfl), by repeat (first | (with_reducible first | exact HB.out | apply below_alloc | apply pw_below_drewN | apply below_drew1 | refine below_set ?_ GE233.out | refine below_set ?_ GE246.out | refine below_set ?_ GE260.out) | exact HB.out)⟩
                · rw [if_neg c34] at H
                  exact absurd H (by simp)
              · rw [if_neg c33] at H
                exact absurd H (by simp)
            · rw [if_neg c31] at H
              exact absurd H (by simp)
          · rw [if_neg c30] at H
            exact absurd H (by simp)
  · rw [if_neg c6] at H
    have c6b0 : (t232 == 0) = false := beq_eq_false_iff_ne.mpr c6
    have c6b1 : (t232 != 0) = true := bne_iff_ne.mpr c6
    by_cases c56 : (t225 == 0 && (t226 == 0 && (t227 == 0 && (t228 == 0 && (t229 == 0 && (t230 == 0 && (t231 == 0))))))) = true
    · rw [if_pos c56] at H
      have c56b0 : (t225 == 0 && (t226 == 0 && (t227 == 0 && (t228 == 0 && (t229 == 0 && (t230 == 0 && (t231 == 0))))))) = true := c56
      (try (have c56b1 : decide (t225 = 0 && (t226 == 0 && (t227 == 0 && (t228 == 0 && (t229 == 0 && (t230 == 0 && (t231 == 0))))))) = true := by simpa using c56))
      (try (have c56b2 : (t225 == 0 && (t226 == 0 && (t227 == 0 && (t228 == 0 && (t229 == 0 && (t230 == 0 && (t231 == 0))))))) = true := by simpa using c56))
      clear c56
      replace H := Option.bind_eq_some_iff.mp H
      obtain ⟨t234, A570, H⟩ := H
      replace H : (some t234) = some r := H
      have A57 := Aside0.mk A570
      clear A570
      obtain rfl := Option.some.inj H
      go_enter Try.func11, Try.ntmps11
      go_wp2_with (first | ((with_reducible refine gate_callee (f := 18) rfl ?_); refine goesL_ (some 19) rfl rfl Try.func18 (by kernel_rfl) rfl #[.int .i64 a0, .int .i64 a1] rfl (by (try simp only [List.map_toArray, List.map_cons, List.map_nil]); first | done | rfl | (simp only [List.length_drop, List.length_take]; rfl)) ?_; (with_reducible refine (layout_Make.calls a0 a1 t225 t226 t227 t228 t229 t230 t231 t232 _ A5.out).mono ?_); rintro e w58 ⟨rfl, hb⟩; refine ⟨_, rfl, ?_⟩; have n0_ := Aside0.mk (below_step (by repeat (first | (with_reducible first | exact HB.out | apply below_alloc | apply pw_below_drewN | apply below_drew1) | exact HB.out)) hb); clear HB; have HB := n0_; clear n0_; (try clear hb); (try clear hb2); (try clear hk); (try clear hi)) | ((with_reducible refine gate_dst (N := 9) rfl ?_); (try (refine gate_guard (by rfl) ?_; dsimp only)); refine box_event ?hg (N := 9) ?hd (cs := #[.int .i64 0, .int .i64 0, .int .i64 0, .int .i64 0, .int .i64 0, .int .i64 0, .int .i64 0]) (t := 32) ?hr ?_; (case hd => rfl); (case hg => rfl); (case hr => first | (go_simp; done) | (go_simp; rfl)); intro gb233 hg w59 hbox hb; have n0_ := Aside0.mk (below_step (by repeat (first | (with_reducible first | exact HB.out | apply below_alloc | apply pw_below_drewN | apply below_drew1) | exact HB.out)) hb); have n1_ := Aside0.mk (hbox); have n2_ := Aside0.mk ((by rw [hg]; exact (below_size (by repeat (first | (with_reducible first | exact HB.out | apply below_alloc | apply pw_below_drewN | apply below_drew1) | exact HB.out))) : w.heap.size ≤ gb233)); have n3_ := Aside0.mk ((by rw [hg]; exact (below_size (by repeat (first | (with_reducible first | exact HB.out | apply below_alloc | apply pw_below_drewN | apply below_drew1) | exact HB.out))) : w.heap.size ≤ gb233)); clear HB; have HB := n0_; have BK233 := n1_; have GW233 := n2_; have GE233 := n3_; clear n0_ n1_ n2_ n3_; clear hb hbox hg; have hcz60_0 : w59.cell? ⟨gb233, 0, none⟩ = some (.int .i64 0) := (blk_cell BK233.out 0).trans rfl; have hcz60_1 : w59.cell? ⟨gb233, 1, none⟩ = some (.int .i64 0) := (blk_cell BK233.out 1).trans rfl; have hcz60_2 : w59.cell? ⟨gb233, 2, none⟩ = some (.int .i64 0) := (blk_cell BK233.out 2).trans rfl; have hcz60_3 : w59.cell? ⟨gb233, 3, none⟩ = some (.int .i64 0) := (blk_cell BK233.out 3).trans rfl; have hcz60_4 : w59.cell? ⟨gb233, 4, none⟩ = some (.int .i64 0) := (blk_cell BK233.out 4).trans rfl; have hcz60_5 : w59.cell? ⟨gb233, 5, none⟩ = some (.int .i64 0) := (blk_cell BK233.out 5).trans rfl; have hcz60_6 : w59.cell? ⟨gb233, 6, none⟩ = some (.int .i64 0) := (blk_cell BK233.out 6).trans rfl; have hfz60_0 := blk_frozen BK233.out 0; have hfz60_1 := blk_frozen BK233.out 1; have hfz60_2 := blk_frozen BK233.out 2; have hfz60_3 := blk_frozen BK233.out 3; have hfz60_4 := blk_frozen BK233.out 4; have hfz60_5 := blk_frozen BK233.out 5; have hfz60_6 := blk_frozen BK233.out 6) | (go_at_call 20; (with_reducible refine (bollardlaw6_awake.calls  t234 _ A57.out).mono ?_); rintro e w61 ⟨rfl, hb⟩; have n0_ := Aside0.mk (blk_below (g := gb233) (o := .cells #[.int .i64 t225, .int .i64 t226, .int .i64 t227, .int .i64 t228, .int .i64 t229, .int .i64 t230, .int .i64 t231] 32 (0, 0)) (by (with_reducible repeat (first | refine blk_drewN ?_ _ | refine blk_drew ?_ | refine blk_alloc ?_ _)); refine blk_put (cs := #[.int .i64 t225, .int .i64 t226, .int .i64 t227, .int .i64 t228, .int .i64 t229, .int .i64 t230, .int .i64 0]) ?_ 6 _ (by first | rfl | (simp only [*, List.setIfInBounds_toArray, List.set_cons_zero, List.set_cons_succ]; done) | (simp [*]; done)); (with_reducible repeat (first | refine blk_drewN ?_ _ | refine blk_drew ?_ | refine blk_alloc ?_ _)); refine blk_put (cs := #[.int .i64 t225, .int .i64 t226, .int .i64 t227, .int .i64 t228, .int .i64 t229, .int .i64 0, .int .i64 0]) ?_ 5 _ (by first | rfl | (simp only [*, List.setIfInBounds_toArray, List.set_cons_zero, List.set_cons_succ]; done) | (simp [*]; done)); (with_reducible repeat (first | refine blk_drewN ?_ _ | refine blk_drew ?_ | refine blk_alloc ?_ _)); refine blk_put (cs := #[.int .i64 t225, .int .i64 t226, .int .i64 t227, .int .i64 t228, .int .i64 0, .int .i64 0, .int .i64 0]) ?_ 4 _ (by first | rfl | (simp only [*, List.setIfInBounds_toArray, List.set_cons_zero, List.set_cons_succ]; done) | (simp [*]; done)); (with_reducible repeat (first | refine blk_drewN ?_ _ | refine blk_drew ?_ | refine blk_alloc ?_ _)); refine blk_put (cs := #[.int .i64 t225, .int .i64 t226, .int .i64 t227, .int .i64 0, .int .i64 0, .int .i64 0, .int .i64 0]) ?_ 3 _ (by first | rfl | (simp only [*, List.setIfInBounds_toArray, List.set_cons_zero, List.set_cons_succ]; done) | (simp [*]; done)); (with_reducible repeat (first | refine blk_drewN ?_ _ | refine blk_drew ?_ | refine blk_alloc ?_ _)); refine blk_put (cs := #[.int .i64 t225, .int .i64 t226, .int .i64 0, .int .i64 0, .int .i64 0, .int .i64 0, .int .i64 0]) ?_ 2 _ (by first | rfl | (simp only [*, List.setIfInBounds_toArray, List.set_cons_zero, List.set_cons_succ]; done) | (simp [*]; done)); (with_reducible repeat (first | refine blk_drewN ?_ _ | refine blk_drew ?_ | refine blk_alloc ?_ _)); refine blk_put (cs := #[.int .i64 t225, .int .i64 0, .int .i64 0, .int .i64 0, .int .i64 0, .int .i64 0, .int .i64 0]) ?_ 1 _ (by first | rfl | (simp only [*, List.setIfInBounds_toArray, List.set_cons_zero, List.set_cons_succ]; done) | (simp [*]; done)); (with_reducible repeat (first | refine blk_drewN ?_ _ | refine blk_drew ?_ | refine blk_alloc ?_ _)); refine blk_put (cs := #[.int .i64 0, .int .i64 0, .int .i64 0, .int .i64 0, .int .i64 0, .int .i64 0, .int .i64 0]) ?_ 0 _ (by first | rfl | (simp only [*, List.setIfInBounds_toArray, List.set_cons_zero, List.set_cons_succ]; done) | (simp [*]; done)); (with_reducible repeat (first | refine blk_drewN ?_ _ | refine blk_drew ?_ | refine blk_alloc ?_ _)); exact BK233.out) hb); have n1_ := Aside0.mk (below_step (by repeat (first | (with_reducible first | exact HB.out | apply below_alloc | apply pw_below_drewN | apply below_drew1 | refine below_set ?_ GE233.out) | exact HB.out)) hb); clear BK233; clear HB; have BK233 := n0_; have HB := n1_; clear n0_ n1_; (try clear hb); (try clear hb2); (try clear hk); (try clear hi)))
      go_ret
      exact ⟨by first | rfl | (simp [errW_none, errW_some] <;> rfl) | (simp [*, errW_none, errW_some] <;> rfl), by repeat (first | (with_reducible first | exact HB.out | apply below_alloc | apply pw_below_drewN | apply below_drew1 | refine below_set ?_ GE233.out) | exact HB.out)⟩
    · rw [if_neg c56] at H
      have c56b0 : (t225 == 0 && (t226 == 0 && (t227 == 0 && (t228 == 0 && (t229 == 0 && (t230 == 0 && (t231 == 0))))))) = false := by simpa using c56
      (try (have c56b1 : decide (t225 = 0 && (t226 == 0 && (t227 == 0 && (t228 == 0 && (t229 == 0 && (t230 == 0 && (t231 == 0))))))) = false := by simpa using c56))
      (try (have c56b2 : (t225 == 0 && (t226 == 0 && (t227 == 0 && (t228 == 0 && (t229 == 0 && (t230 == 0 && (t231 == 0))))))) = false := by simpa using c56))
      (try (have c56b3 : ¬ (t225 = 0 && (t226 == 0 && (t227 == 0 && (t228 == 0 && (t229 == 0 && (t230 == 0 && (t231 == 0))))))) := by simpa using c56))
      clear c56
      obtain rfl := Option.some.inj H
      go_enter Try.func11, Try.ntmps11
      go_wp2_with (first | ((with_reducible refine gate_callee (f := 18) rfl ?_); refine goesL_ (some 19) rfl rfl Try.func18 (by kernel_rfl) rfl #[.int .i64 a0, .int .i64 a1] rfl (by (try simp only [List.map_toArray, List.map_cons, List.map_nil]); first | done | rfl | (simp only [List.length_drop, List.length_take]; rfl)) ?_; (with_reducible refine (layout_Make.calls a0 a1 t225 t226 t227 t228 t229 t230 t231 t232 _ A5.out).mono ?_); rintro e w62 ⟨rfl, hb⟩; refine ⟨_, rfl, ?_⟩; have n0_ := Aside0.mk (below_step (by repeat (first | (with_reducible first | exact HB.out | apply below_alloc | apply pw_below_drewN | apply below_drew1) | exact HB.out)) hb); clear HB; have HB := n0_; clear n0_; (try clear hb); (try clear hb2); (try clear hk); (try clear hi)) | ((with_reducible refine gate_dst (N := 9) rfl ?_); (try (refine gate_guard (by rfl) ?_; dsimp only)); refine box_event ?hg (N := 9) ?hd (cs := #[.int .i64 0, .int .i64 0, .int .i64 0, .int .i64 0, .int .i64 0, .int .i64 0, .int .i64 0]) (t := 32) ?hr ?_; (case hd => rfl); (case hg => rfl); (case hr => first | (go_simp; done) | (go_simp; rfl)); intro gb233 hg w63 hbox hb; have n0_ := Aside0.mk (below_step (by repeat (first | (with_reducible first | exact HB.out | apply below_alloc | apply pw_below_drewN | apply below_drew1) | exact HB.out)) hb); have n1_ := Aside0.mk (hbox); have n2_ := Aside0.mk ((by rw [hg]; exact (below_size (by repeat (first | (with_reducible first | exact HB.out | apply below_alloc | apply pw_below_drewN | apply below_drew1) | exact HB.out))) : w.heap.size ≤ gb233)); have n3_ := Aside0.mk ((by rw [hg]; exact (below_size (by repeat (first | (with_reducible first | exact HB.out | apply below_alloc | apply pw_below_drewN | apply below_drew1) | exact HB.out))) : w.heap.size ≤ gb233)); clear HB; have HB := n0_; have BK233 := n1_; have GW233 := n2_; have GE233 := n3_; clear n0_ n1_ n2_ n3_; clear hb hbox hg; have hcz64_0 : w63.cell? ⟨gb233, 0, none⟩ = some (.int .i64 0) := (blk_cell BK233.out 0).trans rfl; have hcz64_1 : w63.cell? ⟨gb233, 1, none⟩ = some (.int .i64 0) := (blk_cell BK233.out 1).trans rfl; have hcz64_2 : w63.cell? ⟨gb233, 2, none⟩ = some (.int .i64 0) := (blk_cell BK233.out 2).trans rfl; have hcz64_3 : w63.cell? ⟨gb233, 3, none⟩ = some (.int .i64 0) := (blk_cell BK233.out 3).trans rfl; have hcz64_4 : w63.cell? ⟨gb233, 4, none⟩ = some (.int .i64 0) := (blk_cell BK233.out 4).trans rfl; have hcz64_5 : w63.cell? ⟨gb233, 5, none⟩ = some (.int .i64 0) := (blk_cell BK233.out 5).trans rfl; have hcz64_6 : w63.cell? ⟨gb233, 6, none⟩ = some (.int .i64 0) := (blk_cell BK233.out 6).trans rfl; have hfz64_0 := blk_frozen BK233.out 0; have hfz64_1 := blk_frozen BK233.out 1; have hfz64_2 := blk_frozen BK233.out 2; have hfz64_3 := blk_frozen BK233.out 3; have hfz64_4 := blk_frozen BK233.out 4; have hfz64_5 := blk_frozen BK233.out 5; have hfz64_6 := blk_frozen BK233.out 6))
      go_ret
      exact ⟨by first | rfl | (simp [errW_none, errW_some] <;> rfl) | (simp [*, errW_none, errW_some] <;> rfl), by repeat (first | (with_reducible first | exact HB.out | apply below_alloc | apply pw_below_drewN | apply below_drew1 | refine below_set ?_ GE233.out) | exact HB.out)⟩

/-- THE ONE PURE STATEMENT of bollardlaw6_LayoutBack: yours. -/
def bollardlaw6_LayoutBack.Pure : Prop := ∀ (a0 : Int) (a1 : Int) (a2 : Int) (a3 : Int), (Lit.int .i64 a0).wf = true → (Lit.int .i64 a1).wf = true → (Lit.int .i64 a2).wf = true → (Lit.int .i64 a3).wf = true → ∃ k, bollardlaw6_LayoutBack.f k a0 a1 a2 a3 = some true
theorem bollardlaw6_LayoutBack.walk (P : bollardlaw6_LayoutBack.Pure) (a0 : Int) (a1 : Int) (a2 : Int) (a3 : Int) (w : World) (w0 : (Lit.int .i64 a0).wf = true) (w1 : (Lit.int .i64 a1).wf = true) (w2 : (Lit.int .i64 a2).wf = true) (w3 : (Lit.int .i64 a3).wf = true) :
    Calls Try.prog 11 #[.int .i64 a0, .int .i64 a1, .int .i64 a2, .int .i64 a3] w fun e w' => e = .returned (.bool true) ∧ Below w.heap.size w w' := by
  obtain ⟨k, h⟩ := P a0 a1 a2 a3 w0 w1 w2 w3
  refine (bollardlaw6_LayoutBack.calls k a0 a1 a2 a3 true w h).mono ?_
  rintro e w' ⟨rfl, hd⟩
  exact ⟨rfl, hd⟩

end Go.Proofs.Ytnfoknnbolgfjaa.PLb
