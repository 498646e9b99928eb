-- written by a program of this session (wip/tools/pr.py, over the kit's printer): not by hand
import Derived.Test.YtgmeellapjimgaaQPBax0
import Derived.Test.YtgmeellapjimgaaQPBax6
namespace Go.Proofs.Ytgmeellapjimgaa.PBa
open Go.RowKit Go.Proofs.YtgmeellapjimgaaW.PrintWords Go.Proofs.YtgmeellapjimgaaW.PrintLast Go.Proofs.YtgmeellapjimgaaW.PrintMore
attribute [local go_sem] max2_int min2_int max_two min_two max_three min_three max_four min_four   -- for this text's walks alone
set_option linter.unusedVariables false
set_option linter.unusedSimpArgs false

/-! ### bollardref12_Encode: function 47 -/
mutual
def bollardref12_Encode.j0 : Nat → Int → Bool → Bool → ByteArray → Bool → ByteArray → Int → Int → Option (List Int × Int)
  | 0, _, _, _, _, _, _, _, _ => none
  | k + 1, x1, x19, x223000, x223001, x223002, x223003, x223004, x223005 => if x19 = true then (some (([] : List Int), 1)) else (if x223000 = true then (bollardref12_Encode.j1 k x1 1 x223000 x223001 x223002 x223003 x223004 x223005) else (bollardref12_Encode.j1 k x1 0 x223000 x223001 x223002 x223003 x223004 x223005))
def bollardref12_Encode.j1 : Nat → Int → Int → Bool → ByteArray → Bool → ByteArray → Int → Int → Option (List Int × Int)
  | 0, _, _, _, _, _, _, _, _ => none
  | k + 1, x1, x7, x223000, x223001, x223002, x223003, x223004, x223005 => if x223002 = true then (bollardref12_Encode.j2 k x1 (Go.bits .or .u8 x7 2) x223000 x223001 x223002 x223003 x223004 x223005) else (bollardref12_Encode.j2 k x1 x7 x223000 x223001 x223002 x223003 x223004 x223005)
def bollardref12_Encode.j2 : Nat → Int → Int → Bool → ByteArray → Bool → ByteArray → Int → Int → Option (List Int × Int)
  | 0, _, _, _, _, _, _, _, _ => none
  | k + 1, x1, x7, x223000, x223001, x223002, x223003, x223004, x223005 => (some (([x7] : List Int) : List Int)).bind fun y224 => ((bollardref1_Varint.f k (IntKind.u64.wrap (x223005))).bind fun t227 => (if y224.length + t227.length < 140737488355328 then ((some (y224 ++ t227 : List Int)).bind fun y230 => ((bollardref1_Zig.f (wrap64 (x223004 - x1))).bind fun t233 => ((bollardref1_Varint.f k t233).bind fun t234 => (if y230.length + t234.length < 140737488355328 then ((some (y230 ++ t234 : List Int)).bind fun y237 => (if x223000 = true then ((bollardref1_Varint.f k (IntKind.u64.wrap ((x223001.size : Int)))).bind fun t240 => (if y237.length + t240.length < 140737488355328 then ((some (y237 ++ t240 : List Int)).bind fun y243 => (if y243.length + x223001.size < 140737488355328 then ((some (y243 ++ bytesOf x223001 : List Int)).bind fun y246 => (if x223002 = true then ((bollardref1_Varint.f k (IntKind.u64.wrap ((x223003.size : Int)))).bind fun t249 => (if y246.length + t249.length < 140737488355328 then ((some (y246 ++ t249 : List Int)).bind fun y252 => (if y252.length + x223003.size < 140737488355328 then (some ((y252 ++ bytesOf x223003), 0)) else (none))) else (none))) else (some (y246, 0)))) else (none))) else (none))) else (if x223002 = true then ((bollardref1_Varint.f k (IntKind.u64.wrap ((x223003.size : Int)))).bind fun t258 => (if y237.length + t258.length < 140737488355328 then ((some (y237 ++ t258 : List Int)).bind fun y261 => (if y261.length + x223003.size < 140737488355328 then (some ((y261 ++ bytesOf x223003), 0)) else (none))) else (none))) else (some (y237, 0))))) else (none))))) else (none)))
end
def bollardref12_Encode.f (k : Nat) (a0_0 : Bool) (a0_1 : ByteArray) (a0_2 : Bool) (a0_3 : ByteArray) (a0_4 : Int) (a0_5 : Int) (a1 : Int) : Option (List Int × Int) := (bollardref12_Check.f a0_0 a0_1 a0_2 a0_3 a0_4 a0_5).bind fun t223 => (if t223 = 0 then (if a1 < 0 then (bollardref12_Encode.j0 k a1 true a0_0 a0_1 a0_2 a0_3 a0_4 a0_5) else (bollardref12_Encode.j0 k a1 (decide (a1 > 1125899906842624)) a0_0 a0_1 a0_2 a0_3 a0_4 a0_5)) else (some (([] : List Int), t223)))
set_option maxRecDepth 100000 in
theorem bollardref12_Encode.mono_l : ∀ k, (∀ y0 y1 y2 y3 y4 y5 y6 y7, LeO (bollardref12_Encode.j0 k y0 y1 y2 y3 y4 y5 y6 y7) (bollardref12_Encode.j0 (k + 1) y0 y1 y2 y3 y4 y5 y6 y7)) ∧ (∀ y0 y1 y2 y3 y4 y5 y6 y7, LeO (bollardref12_Encode.j1 k y0 y1 y2 y3 y4 y5 y6 y7) (bollardref12_Encode.j1 (k + 1) y0 y1 y2 y3 y4 y5 y6 y7)) ∧ (∀ y0 y1 y2 y3 y4 y5 y6 y7, LeO (bollardref12_Encode.j2 k y0 y1 y2 y3 y4 y5 y6 y7) (bollardref12_Encode.j2 (k + 1) y0 y1 y2 y3 y4 y5 y6 y7))
  | 0 => ⟨fun _ _ _ _ _ _ _ _ r h => by first | exact nomatch (show (none : Option _) = some r from h) | (rw [bollardref12_Encode.j0] at h; cases h; done) | (simp [bollardref12_Encode.j0] at h; done), fun _ _ _ _ _ _ _ _ r h => by first | exact nomatch (show (none : Option _) = some r from h) | (rw [bollardref12_Encode.j1] at h; cases h; done) | (simp [bollardref12_Encode.j1] at h; done), fun _ _ _ _ _ _ _ _ r h => by first | exact nomatch (show (none : Option _) = some r from h) | (rw [bollardref12_Encode.j2] at h; cases h; done) | (simp [bollardref12_Encode.j2] at h; done)⟩
  | k + 1 => by
    obtain ⟨ih0, ih1, ih2⟩ := bollardref12_Encode.mono_l k
    refine ⟨?_, ?_, ?_⟩
    · intro y0 y1 y2 y3 y4 y5 y6 y7
      unfold bollardref12_Encode.j0
      repeat' first
      | (with_reducible exact ih0 _ _ _ _ _ _ _ _)
      | (with_reducible exact ih1 _ _ _ _ _ _ _ _)
      | (with_reducible exact ih2 _ _ _ _ _ _ _ _)
      | (with_reducible exact bollardref1_Varint.mono _ _)
      | (with_reducible exact LeO.refl _)
      | (with_reducible exact LeO.none _)
      | (with_reducible refine LeO.ite ?_ ?_)
      | (with_reducible refine LeO.bind ?_ (fun _ => ?_))
      | exact ih0 _ _ _ _ _ _ _ _
      | exact ih1 _ _ _ _ _ _ _ _
      | exact ih2 _ _ _ _ _ _ _ _
      | exact bollardref1_Varint.mono _ _
      | exact LeO.none _
      | refine LeO.ite ?_ ?_
      | refine LeO.bind ?_ (fun _ => ?_)
    · intro y0 y1 y2 y3 y4 y5 y6 y7
      unfold bollardref12_Encode.j1
      repeat' first
      | (with_reducible exact ih0 _ _ _ _ _ _ _ _)
      | (with_reducible exact ih1 _ _ _ _ _ _ _ _)
      | (with_reducible exact ih2 _ _ _ _ _ _ _ _)
      | (with_reducible exact bollardref1_Varint.mono _ _)
      | (with_reducible exact LeO.refl _)
      | (with_reducible exact LeO.none _)
      | (with_reducible refine LeO.ite ?_ ?_)
      | (with_reducible refine LeO.bind ?_ (fun _ => ?_))
      | exact ih0 _ _ _ _ _ _ _ _
      | exact ih1 _ _ _ _ _ _ _ _
      | exact ih2 _ _ _ _ _ _ _ _
      | exact bollardref1_Varint.mono _ _
      | exact LeO.none _
      | refine LeO.ite ?_ ?_
      | refine LeO.bind ?_ (fun _ => ?_)
    · intro y0 y1 y2 y3 y4 y5 y6 y7
      unfold bollardref12_Encode.j2
      repeat' first
      | (with_reducible exact ih0 _ _ _ _ _ _ _ _)
      | (with_reducible exact ih1 _ _ _ _ _ _ _ _)
      | (with_reducible exact ih2 _ _ _ _ _ _ _ _)
      | (with_reducible exact bollardref1_Varint.mono _ _)
      | (with_reducible exact LeO.refl _)
      | (with_reducible exact LeO.none _)
      | (with_reducible refine LeO.ite ?_ ?_)
      | (with_reducible refine LeO.bind ?_ (fun _ => ?_))
      | exact ih0 _ _ _ _ _ _ _ _
      | exact ih1 _ _ _ _ _ _ _ _
      | exact ih2 _ _ _ _ _ _ _ _
      | exact bollardref1_Varint.mono _ _
      | exact LeO.none _
      | refine LeO.ite ?_ ?_
      | refine LeO.bind ?_ (fun _ => ?_)
theorem bollardref12_Encode.mono : ∀ a0 a1 a2 a3 a4 a5 a6 k, LeO (bollardref12_Encode.f k a0 a1 a2 a3 a4 a5 a6) (bollardref12_Encode.f (k + 1) a0 a1 a2 a3 a4 a5 a6) := by
  intro a0 a1 a2 a3 a4 a5 a6 k
  obtain ⟨ih0, ih1, ih2⟩ := bollardref12_Encode.mono_l k
  unfold bollardref12_Encode.f
  repeat' first
      | (with_reducible exact ih0 _ _ _ _ _ _ _ _)
      | (with_reducible exact ih1 _ _ _ _ _ _ _ _)
      | (with_reducible exact ih2 _ _ _ _ _ _ _ _)
      | (with_reducible exact bollardref1_Varint.mono _ _)
      | (with_reducible exact LeO.refl _)
      | (with_reducible exact LeO.none _)
      | (with_reducible refine LeO.ite ?_ ?_)
      | (with_reducible refine LeO.bind ?_ (fun _ => ?_))
      | exact ih0 _ _ _ _ _ _ _ _
      | exact ih1 _ _ _ _ _ _ _ _
      | exact ih2 _ _ _ _ _ _ _ _
      | exact bollardref1_Varint.mono _ _
      | exact LeO.none _
      | refine LeO.ite ?_ ?_
      | refine LeO.bind ?_ (fun _ => ?_)
def bollardref12_Encode.T14 : Bool × List (List Nat × List Nat) := (true, [([], []), ([], []), ([1], [1]), ([2], [2]), ([3], [3]), ([4], [4]), ([0, 5, 5], [0, 5]), ([], []), ([7], [7]), ([6, 8, 6], [6, 8]), ([9, 9, 0, 1, 2, 3, 4, 5, 6, 7, 8, 9], [0, 9])])
def bollardref12_Encode.B14 : List Nat := [0, 0, 2, 6, 14, 30, 63, 0, 128, 511, 1023]
theorem bollardref12_Encode.tab14 : rtab .any (opsOf Try.f47 14) = bollardref12_Encode.T14 := by kernel_rfl
theorem bollardref12_Encode.bits14 : waitsOk bollardref12_Encode.T14.2 bollardref12_Encode.B14 = true := by kernel_rfl
def bollardref12_Encode.T16 : Bool × List (List Nat × List Nat) := (true, [([], []), ([], []), ([1], [1]), ([2], [2]), ([3], [3]), ([4], [4]), ([0, 5, 5], [0, 5]), ([], []), ([7], [7]), ([6, 8, 6], [6, 8]), ([9, 9, 0, 1, 2, 3, 4, 5, 6, 7, 8, 9], [0, 9])])
def bollardref12_Encode.B16 : List Nat := [0, 0, 2, 6, 14, 30, 63, 0, 128, 511, 1023]
theorem bollardref12_Encode.tab16 : rtab .any (opsOf Try.f47 16) = bollardref12_Encode.T16 := by kernel_rfl
theorem bollardref12_Encode.bits16 : waitsOk bollardref12_Encode.T16.2 bollardref12_Encode.B16 = true := by kernel_rfl
set_option maxHeartbeats 8000000 in
set_option maxRecDepth 100000 in
theorem bollardref12_Encode.calls (k : Nat) (a0_0 : Bool) (a0_1 : ByteArray) (a0_2 : Bool) (a0_3 : ByteArray) (a0_4 : Int) (a0_5 : Int) (a1 : Int) (r1 : List Int) (r2 : Int) (w : World) (h : bollardref12_Encode.f k a0_0 a0_1 a0_2 a0_3 a0_4 a0_5 a1 = some (r1, r2)) :
    Calls Try.prog 47 #[.agg #[.bool a0_0, .string a0_1, .bool a0_2, .string a0_3, .int .i64 a0_4, .int .i64 a0_5], .int .i64 a1] w fun e w' => ∃ v0_ : Value, e = .returned (.tuple #[v0_, .int .i64 r2]) ∧ Kd.R (Kd.int .u8) 5 w' w.heap.size (fun _ => True) v0_ r1 ∧ Below w.heap.size w w' := by
  have hu45 := Try.underlying45
  have HB := Aside0.mk (Below.refl w.heap.size w)
  have H : ((bollardref12_Check.f a0_0 a0_1 a0_2 a0_3 a0_4 a0_5).bind fun t223 => (if t223 = 0 then (if a1 < 0 then (bollardref12_Encode.j0 k a1 true a0_0 a0_1 a0_2 a0_3 a0_4 a0_5) else (bollardref12_Encode.j0 k a1 (decide (a1 > 1125899906842624)) a0_0 a0_1 a0_2 a0_3 a0_4 a0_5)) else (some (([] : List Int), t223)))) = some (r1, r2) := h
  clear h
  replace H := Option.bind_eq_some_iff.mp H
  obtain ⟨t223, A30, H⟩ := H
  replace H : (if t223 = 0 then (if a1 < 0 then (bollardref12_Encode.j0 k a1 true a0_0 a0_1 a0_2 a0_3 a0_4 a0_5) else (bollardref12_Encode.j0 k a1 (decide (a1 > 1125899906842624)) a0_0 a0_1 a0_2 a0_3 a0_4 a0_5)) else (some (([] : List Int), t223))) = some (r1, r2) := H
  have A3 := Aside0.mk A30
  clear A30
  by_cases c4 : t223 = 0
  · rw [if_pos c4] at H
    have c4b0 : (t223 == 0) = true := beq_iff_eq.mpr c4
    have c4b1 : (t223 != 0) = false := bne_eq_false_iff_eq.mpr c4
    clear c4
    have HC5 := Aside0.mk H
    clear H
    go_enter Try.func47, Try.ntmps47
    go_upto_region 4 with (first | ((with_reducible refine gate_dst (N := 2) rfl ?_); refine box_event ?hg (N := 2) ?hd (cs := #[.bool a0_0, .string a0_1, .bool a0_2, .string a0_3, .int .i64 a0_4, .int .i64 a0_5]) (t := 45) ?hr ?_; (case hd => rfl); (case hg => rfl); (case hr => first | (go_simp; done) | (go_simp; rfl)); intro gb222 hg w6 hbox hb; have n0_ := Aside0.mk (below_step (by repeat (first | (with_reducible first | exact HB.out | apply below_alloc | apply pw_below_drewN | apply below_drew1) | exact HB.out)) hb); have n1_ := Aside0.mk (hbox); have n2_ := Aside0.mk ((by rw [hg]; exact (below_size (by repeat (first | (with_reducible first | exact HB.out | apply below_alloc | apply pw_below_drewN | apply below_drew1) | exact HB.out))) : w.heap.size ≤ gb222)); have n3_ := Aside0.mk ((by rw [hg]; exact (below_size (by repeat (first | (with_reducible first | exact HB.out | apply below_alloc | apply pw_below_drewN | apply below_drew1) | exact HB.out))) : w.heap.size ≤ gb222)); clear HB; have HB := n0_; have BK222 := n1_; have GW222 := n2_; have GE222 := n3_; clear n0_ n1_ n2_ n3_; clear hb hbox hg; have hcz7_0 : w6.cell? ⟨gb222, 0, none⟩ = some (.bool a0_0) := (blk_cell BK222.out 0).trans rfl; have hcz7_1 : w6.cell? ⟨gb222, 1, none⟩ = some (.string a0_1) := (blk_cell BK222.out 1).trans rfl; have hcz7_2 : w6.cell? ⟨gb222, 2, none⟩ = some (.bool a0_2) := (blk_cell BK222.out 2).trans rfl; have hcz7_3 : w6.cell? ⟨gb222, 3, none⟩ = some (.string a0_3) := (blk_cell BK222.out 3).trans rfl; have hcz7_4 : w6.cell? ⟨gb222, 4, none⟩ = some (.int .i64 a0_4) := (blk_cell BK222.out 4).trans rfl; have hcz7_5 : w6.cell? ⟨gb222, 5, none⟩ = some (.int .i64 a0_5) := (blk_cell BK222.out 5).trans rfl; have hfz7_0 := blk_frozen BK222.out 0; have hfz7_1 := blk_frozen BK222.out 1; have hfz7_2 := blk_frozen BK222.out 2; have hfz7_3 := blk_frozen BK222.out 3; have hfz7_4 := blk_frozen BK222.out 4; have hfz7_5 := blk_frozen BK222.out 5) | ((with_reducible refine gate_callee (f := 31) rfl ?_); refine goesL_ (some 10) rfl rfl Try.func31 (by kernel_rfl) rfl #[.agg #[.bool a0_0, .string a0_1, .bool a0_2, .string a0_3, .int .i64 a0_4, .int .i64 a0_5]] rfl (by (try simp only [List.map_toArray, List.map_cons, List.map_nil]); first | done | rfl | (simp only [List.length_drop, List.length_take]; rfl)) ?_; (with_reducible refine (bollardref12_Check.calls a0_0 a0_1 a0_2 a0_3 a0_4 a0_5 t223 _ A3.out).mono ?_); rintro e w8 ⟨rfl, hb⟩; refine ⟨_, rfl, ?_⟩; have n0_ := Aside0.mk (blk_below (g := gb222) (o := .cells #[.bool a0_0, .string a0_1, .bool a0_2, .string a0_3, .int .i64 a0_4, .int .i64 a0_5] 45 (0, 0)) (by (with_reducible repeat (first | refine blk_drewN ?_ _ | refine blk_drew ?_ | refine blk_alloc ?_ _)); exact BK222.out) hb); have n1_ := Aside0.mk (below_step (by repeat (first | (with_reducible first | exact HB.out | apply below_alloc | apply pw_below_drewN | apply below_drew1 | refine below_set ?_ GE222.out) | exact HB.out)) hb); clear BK222; clear HB; have BK222 := n0_; have HB := n1_; clear n0_ n1_; (try clear hb); (try clear hb2); (try clear hk); (try clear hi)))
    (try simp only [Act.put, List.setIfInBounds_toArray, List.set_cons_zero, List.set_cons_succ])
    go_cut [19] (fun v19 wc => ∃ (kq : Nat) (x19_4 : Bool), v19 = .bool x19_4 ∧ Aside0 (bollardref12_Encode.j0 kq a1 x19_4 a0_0 a0_1 a0_2 a0_3 a0_4 a0_5 = some (r1, r2)) ∧ Aside0 (kq ≤ k) ∧ Aside0 (wc.heap[gb222]? = some (.cells #[.bool a0_0, .string a0_1, .bool a0_2, .string a0_3, .int .i64 a0_4, .int .i64 a0_5] 45 (0, 0))) ∧ Aside0 (Below w.heap.size w wc))
    case first =>
      have H := HC5.out
      clear HC5
      by_cases c9 : a1 < 0
      · rw [if_pos c9] at H
        have c9b0 : decide (a1 < 0) = true := decide_eq_true c9
        clear c9
        (first | rw [c9b0] | (simp only [i64_w, i32_w]; rw [c9b0]) | skip)
        have H' := Aside0.mk H
        clear H
        go_wp2
        go_meet
        case rel => exact ⟨_, (true), (by first | rfl | (simp; done) | (simp [*]; done) | exact congrArg Value.bool (ne_empty _) | exact congrArg Value.bool (eq_empty _)), H', ⟨by first | omega | exact Nat.le_refl _⟩, ⟨by (with_reducible repeat (first | refine blk_drewN ?_ _ | refine blk_drew ?_ | refine blk_alloc ?_ _)); exact BK222.out⟩, ⟨by repeat (first | (with_reducible first | exact HB.out | apply below_alloc | apply pw_below_drewN | apply below_drew1 | refine below_set ?_ GE222.out) | exact HB.out)⟩⟩
      · rw [if_neg c9] at H
        have c9b0 : decide (a1 < 0) = false := decide_eq_false c9
        clear c9
        (first | rw [c9b0] | (simp only [i64_w, i32_w]; rw [c9b0]) | skip)
        have H' := Aside0.mk H
        clear H
        go_wp2
        go_meet
        case rel => exact ⟨_, (decide (a1 > 1125899906842624)), (by first | rfl | (simp; done) | (simp [*]; done) | exact congrArg Value.bool (ne_empty _) | exact congrArg Value.bool (eq_empty _)), H', ⟨by first | omega | exact Nat.le_refl _⟩, ⟨by (with_reducible repeat (first | refine blk_drewN ?_ _ | refine blk_drew ?_ | refine blk_alloc ?_ _)); exact BK222.out⟩, ⟨by repeat (first | (with_reducible first | exact HB.out | apply below_alloc | apply pw_below_drewN | apply below_drew1 | refine below_set ?_ GE222.out) | exact HB.out)⟩⟩
    case rest =>
      clear HC5
      try clear p2
      try clear c3
      try clear c4
      try clear c4b0
      try clear c4b1
      try clear c9
      try clear c9b0
      try clear hcz7_0
      try clear hcz7_1
      try clear hcz7_2
      try clear hcz7_3
      try clear hcz7_4
      try clear hcz7_5
      try clear hfz7_0
      try clear hfz7_1
      try clear hfz7_2
      try clear hfz7_3
      try clear hfz7_4
      try clear hfz7_5
      obtain ⟨kq, x19_4, rfl, HA, HJ4, BK222, HB⟩ := hcut
      cases kq with
      | zero => exact absurd HA.out (by first | (intro h_; exact nomatch (show (none : Option _) = some r from h_)) | simp [bollardref12_Encode.j0])
      | succ kj4 =>
        have H := HA.out
        clear HA
        simp only [bollardref12_Encode.j0] at H
        by_cases c10 : x19_4 = true
        · subst c10
          have H1 : (some (([] : List Int), 1)) = some (r1, r2) := by rw [if_pos rfl] at H; exact H
          clear H
          have H := H1
          clear H1
          simp only [Option.some.injEq, Prod.mk.injEq] at H
          obtain ⟨rfl, rfl⟩ := H
          go_wp2
          go_ret2
          exact ⟨_, by first | rfl | (simp [errW_none, errW_some] <;> rfl) | (simp [*, errW_none, errW_some] <;> rfl), by first | exact Kd.R_nil _ _ _ _ _ | exact Kd.N_nil _ _ _ _ _ | exact Kd.V_nil _ _ _ _ _ | exact Kd.Q_nil _ _ _ _ _ | exact Kd.S_nil _ _ _ _ _, by repeat (first | (with_reducible first | exact HB.out | apply below_alloc | apply pw_below_drewN | apply below_drew1 | refine below_set ?_ GE222.out) | exact HB.out)⟩
        · replace c10 := Bool.eq_false_iff.mpr c10
          subst c10
          have H1 : (if a0_0 = true then (bollardref12_Encode.j1 kj4 a1 1 a0_0 a0_1 a0_2 a0_3 a0_4 a0_5) else (bollardref12_Encode.j1 kj4 a1 0 a0_0 a0_1 a0_2 a0_3 a0_4 a0_5)) = some (r1, r2) := by rw [if_neg (show ¬ (false = true) by decide)] at H; exact H
          clear H
          have H := H1
          clear H1
          have HC11 := Aside0.mk H
          clear H
          have hcz12_0 : wc.cell? ⟨gb222, 0, none⟩ = some (.bool a0_0) := (blk_cell BK222.out 0).trans rfl
          have hcz12_1 : wc.cell? ⟨gb222, 1, none⟩ = some (.string a0_1) := (blk_cell BK222.out 1).trans rfl
          have hcz12_2 : wc.cell? ⟨gb222, 2, none⟩ = some (.bool a0_2) := (blk_cell BK222.out 2).trans rfl
          have hcz12_3 : wc.cell? ⟨gb222, 3, none⟩ = some (.string a0_3) := (blk_cell BK222.out 3).trans rfl
          have hcz12_4 : wc.cell? ⟨gb222, 4, none⟩ = some (.int .i64 a0_4) := (blk_cell BK222.out 4).trans rfl
          have hcz12_5 : wc.cell? ⟨gb222, 5, none⟩ = some (.int .i64 a0_5) := (blk_cell BK222.out 5).trans rfl
          have hfz12_0 := blk_frozen BK222.out 0
          have hfz12_1 := blk_frozen BK222.out 1
          have hfz12_2 := blk_frozen BK222.out 2
          have hfz12_3 := blk_frozen BK222.out 3
          have hfz12_4 := blk_frozen BK222.out 4
          have hfz12_5 := blk_frozen BK222.out 5
          go_upto_if 21 with (fail)
          go_cut [7] (fun v7 wc => ∃ (kq : Nat) (x7_10 : Int), v7 = .int .u8 x7_10 ∧ Aside0 (bollardref12_Encode.j1 kq a1 x7_10 a0_0 a0_1 a0_2 a0_3 a0_4 a0_5 = some (r1, r2)) ∧ Aside0 (kq ≤ kj4) ∧ Aside0 (wc.heap[gb222]? = some (.cells #[.bool a0_0, .string a0_1, .bool a0_2, .string a0_3, .int .i64 a0_4, .int .i64 a0_5] 45 (0, 0))) ∧ Aside0 (Below w.heap.size w wc))
          case first =>
            have H := HC11.out
            clear HC11
            by_cases c13 : a0_0 = true
            · subst c13
              have H1 : (bollardref12_Encode.j1 kj4 a1 1 true a0_1 a0_2 a0_3 a0_4 a0_5) = some (r1, r2) := by rw [if_pos rfl] at H; exact H
              clear H
              have H := H1
              clear H1
              have H' := Aside0.mk H
              clear H
              go_wp2
              go_meet
              case rel => exact ⟨_, (1), (by first | rfl | (simp; done) | (simp [*]; done) | exact congrArg Value.bool (ne_empty _) | exact congrArg Value.bool (eq_empty _)), H', ⟨by have := HJ4.out; first | omega | exact Nat.le_refl _⟩, ⟨by (with_reducible repeat (first | refine blk_drewN ?_ _ | refine blk_drew ?_ | refine blk_alloc ?_ _)); exact BK222.out⟩, ⟨by repeat (first | (with_reducible first | exact HB.out | apply below_alloc | apply pw_below_drewN | apply below_drew1 | refine below_set ?_ GE222.out) | exact HB.out)⟩⟩
            · replace c13 := Bool.eq_false_iff.mpr c13
              subst c13
              have H1 : (bollardref12_Encode.j1 kj4 a1 0 false a0_1 a0_2 a0_3 a0_4 a0_5) = some (r1, r2) := by rw [if_neg (show ¬ (false = true) by decide)] at H; exact H
              clear H
              have H := H1
              clear H1
              have H' := Aside0.mk H
              clear H
              go_wp2
              go_meet
              case rel => exact ⟨_, (0), (by first | rfl | (simp; done) | (simp [*]; done) | exact congrArg Value.bool (ne_empty _) | exact congrArg Value.bool (eq_empty _)), H', ⟨by have := HJ4.out; first | omega | exact Nat.le_refl _⟩, ⟨by (with_reducible repeat (first | refine blk_drewN ?_ _ | refine blk_drew ?_ | refine blk_alloc ?_ _)); exact BK222.out⟩, ⟨by repeat (first | (with_reducible first | exact HB.out | apply below_alloc | apply pw_below_drewN | apply below_drew1 | refine below_set ?_ GE222.out) | exact HB.out)⟩⟩
          case rest =>
            clear HC11
            try clear c1
            try clear p2
            try clear c3
            try clear c4
            try clear c4b0
            try clear c4b1
            try clear c9
            try clear c9b0
            try clear c10
            try clear c13
            try clear hcz12_0
            try clear hcz12_1
            try clear hcz12_2
            try clear hcz12_3
            try clear hcz12_4
            try clear hcz12_5
            try clear hcz7_0
            try clear hcz7_1
            try clear hcz7_2
            try clear hcz7_3
            try clear hcz7_4
            try clear hcz7_5
            try clear hfz12_0
            try clear hfz12_1
            try clear hfz12_2
            try clear hfz12_3
            try clear hfz12_4
            try clear hfz12_5
            try clear hfz7_0
            try clear hfz7_1
            try clear hfz7_2
            try clear hfz7_3
            try clear hfz7_4
            try clear hfz7_5
            try clear p2
            obtain ⟨kq, x7_10, rfl, HA, HJ10, BK222, HB⟩ := hcut
            cases kq with
            | zero => exact absurd HA.out (by first | (intro h_; exact nomatch (show (none : Option _) = some r from h_)) | simp [bollardref12_Encode.j1])
            | succ kj10 =>
              have H := HA.out
              clear HA
              simp only [bollardref12_Encode.j1] at H
              have HC14 := Aside0.mk H
              clear H
              have hcz15_0 : wc.cell? ⟨gb222, 0, none⟩ = some (.bool a0_0) := (blk_cell BK222.out 0).trans rfl
              have hcz15_1 : wc.cell? ⟨gb222, 1, none⟩ = some (.string a0_1) := (blk_cell BK222.out 1).trans rfl
              have hcz15_2 : wc.cell? ⟨gb222, 2, none⟩ = some (.bool a0_2) := (blk_cell BK222.out 2).trans rfl
              have hcz15_3 : wc.cell? ⟨gb222, 3, none⟩ = some (.string a0_3) := (blk_cell BK222.out 3).trans rfl
              have hcz15_4 : wc.cell? ⟨gb222, 4, none⟩ = some (.int .i64 a0_4) := (blk_cell BK222.out 4).trans rfl
              have hcz15_5 : wc.cell? ⟨gb222, 5, none⟩ = some (.int .i64 a0_5) := (blk_cell BK222.out 5).trans rfl
              have hfz15_0 := blk_frozen BK222.out 0
              have hfz15_1 := blk_frozen BK222.out 1
              have hfz15_2 := blk_frozen BK222.out 2
              have hfz15_3 := blk_frozen BK222.out 3
              have hfz15_4 := blk_frozen BK222.out 4
              have hfz15_5 := blk_frozen BK222.out 5
              go_upto_if 23 with (fail)
              go_cut [7] (fun v7 wc => ∃ (kq : Nat) (x7_13 : Int), v7 = .int .u8 x7_13 ∧ Aside0 (bollardref12_Encode.j2 kq a1 x7_13 a0_0 a0_1 a0_2 a0_3 a0_4 a0_5 = some (r1, r2)) ∧ Aside0 (kq ≤ kj10) ∧ Aside0 (wc.heap[gb222]? = some (.cells #[.bool a0_0, .string a0_1, .bool a0_2, .string a0_3, .int .i64 a0_4, .int .i64 a0_5] 45 (0, 0))) ∧ Aside0 (Below w.heap.size w wc))
              case first =>
                have H := HC14.out
                clear HC14
                by_cases c16 : a0_2 = true
                · subst c16
                  have H1 : (bollardref12_Encode.j2 kj10 a1 (Go.bits .or .u8 x7_10 2) a0_0 a0_1 true a0_3 a0_4 a0_5) = some (r1, r2) := by rw [if_pos rfl] at H; exact H
                  clear H
                  have H := H1
                  clear H1
                  have H' := Aside0.mk H
                  clear H
                  go_wp2
                  go_meet
                  case rel => exact ⟨_, (Go.bits .or .u8 x7_10 2), (by first | rfl | (simp; done) | (simp [*]; done) | exact congrArg Value.bool (ne_empty _) | exact congrArg Value.bool (eq_empty _)), H', ⟨by have := HJ4.out; have := HJ10.out; first | omega | exact Nat.le_refl _⟩, ⟨by (with_reducible repeat (first | refine blk_drewN ?_ _ | refine blk_drew ?_ | refine blk_alloc ?_ _)); exact BK222.out⟩, ⟨by repeat (first | (with_reducible first | exact HB.out | apply below_alloc | apply pw_below_drewN | apply below_drew1 | refine below_set ?_ GE222.out) | exact HB.out)⟩⟩
                · replace c16 := Bool.eq_false_iff.mpr c16
                  subst c16
                  have H1 : (bollardref12_Encode.j2 kj10 a1 x7_10 a0_0 a0_1 false a0_3 a0_4 a0_5) = some (r1, r2) := by rw [if_neg (show ¬ (false = true) by decide)] at H; exact H
                  clear H
                  have H := H1
                  clear H1
                  have H' := Aside0.mk H
                  clear H
                  go_wp2
                  go_meet
                  case rel => exact ⟨_, (x7_10), (by first | rfl | (simp; done) | (simp [*]; done) | exact congrArg Value.bool (ne_empty _) | exact congrArg Value.bool (eq_empty _)), H', ⟨by have := HJ4.out; have := HJ10.out; first | omega | exact Nat.le_refl _⟩, ⟨by (with_reducible repeat (first | refine blk_drewN ?_ _ | refine blk_drew ?_ | refine blk_alloc ?_ _)); exact BK222.out⟩, ⟨by repeat (first | (with_reducible first | exact HB.out | apply below_alloc | apply pw_below_drewN | apply below_drew1 | refine below_set ?_ GE222.out) | exact HB.out)⟩⟩
              case rest =>
                clear HC14
                try clear c1
                try clear p2
                try clear c3
                try clear c4
                try clear c4b0
                try clear c4b1
                try clear c9
                try clear c9b0
                try clear c10
                try clear c13
                try clear c16
                try clear hcz12_0
                try clear hcz12_1
                try clear hcz12_2
                try clear hcz12_3
                try clear hcz12_4
                try clear hcz12_5
                try clear hcz15_0
                try clear hcz15_1
                try clear hcz15_2
                try clear hcz15_3
                try clear hcz15_4
                try clear hcz15_5
                try clear hcz7_0
                try clear hcz7_1
                try clear hcz7_2
                try clear hcz7_3
                try clear hcz7_4
                try clear hcz7_5
                try clear hfz12_0
                try clear hfz12_1
                try clear hfz12_2
                try clear hfz12_3
                try clear hfz12_4
                try clear hfz12_5
                try clear hfz15_0
                try clear hfz15_1
                try clear hfz15_2
                try clear hfz15_3
                try clear hfz15_4
                try clear hfz15_5
                try clear hfz7_0
                try clear hfz7_1
                try clear hfz7_2
                try clear hfz7_3
                try clear hfz7_4
                try clear hfz7_5
                try clear p2
                obtain ⟨kq, x7_13, rfl, HA, HJ13, BK222, HB⟩ := hcut
                cases kq with
                | zero => exact absurd HA.out (by first | (intro h_; exact nomatch (show (none : Option _) = some r from h_)) | simp [bollardref12_Encode.j2])
                | succ kj13 =>
                  have H := HA.out
                  clear HA
                  simp only [bollardref12_Encode.j2] at H
                  obtain ⟨y224, hy224⟩ : ∃ y_ : List Int, y_ = (([x7_13] : List Int)) := ⟨_, rfl⟩
                  replace H : ((bollardref1_Varint.f kj13 (IntKind.u64.wrap (a0_5))).bind fun t227 => (if y224.length + t227.length < 140737488355328 then ((some (y224 ++ t227 : List Int)).bind fun y230 => ((bollardref1_Zig.f (wrap64 (a0_4 - a1))).bind fun t233 => ((bollardref1_Varint.f kj13 t233).bind fun t234 => (if y230.length + t234.length < 140737488355328 then ((some (y230 ++ t234 : List Int)).bind fun y237 => (if a0_0 = true then ((bollardref1_Varint.f kj13 (IntKind.u64.wrap ((a0_1.size : Int)))).bind fun t240 => (if y237.length + t240.length < 140737488355328 then ((some (y237 ++ t240 : List Int)).bind fun y243 => (if y243.length + a0_1.size < 140737488355328 then ((some (y243 ++ bytesOf a0_1 : List Int)).bind fun y246 => (if a0_2 = true then ((bollardref1_Varint.f kj13 (IntKind.u64.wrap ((a0_3.size : Int)))).bind fun t249 => (if y246.length + t249.length < 140737488355328 then ((some (y246 ++ t249 : List Int)).bind fun y252 => (if y252.length + a0_3.size < 140737488355328 then (some ((y252 ++ bytesOf a0_3), 0)) else (none))) else (none))) else (some (y246, 0)))) else (none))) else (none))) else (if a0_2 = true then ((bollardref1_Varint.f kj13 (IntKind.u64.wrap ((a0_3.size : Int)))).bind fun t258 => (if y237.length + t258.length < 140737488355328 then ((some (y237 ++ t258 : List Int)).bind fun y261 => (if y261.length + a0_3.size < 140737488355328 then (some ((y261 ++ bytesOf a0_3), 0)) else (none))) else (none))) else (some (y237, 0))))) else (none))))) else (none))) = some (r1, r2) := by first | (rw [hy224]; with_reducible exact H) | (have H2_ := (Option.bind_some _ _).symm.trans H; rw [hy224]; with_reducible exact H2_) | (have H2_ := (Option.bind_some _ _).symm.trans H; with_reducible exact H2_) | with_reducible exact H | (rw [hy224]; exact H) | exact H
                  have Ny224 := Aside0.mk hy224
                  clear hy224
                  replace H := Option.bind_eq_some_iff.mp H
                  obtain ⟨t227, A170, H⟩ := H
                  replace H : (if y224.length + t227.length < 140737488355328 then ((some (y224 ++ t227 : List Int)).bind fun y230 => ((bollardref1_Zig.f (wrap64 (a0_4 - a1))).bind fun t233 => ((bollardref1_Varint.f kj13 t233).bind fun t234 => (if y230.length + t234.length < 140737488355328 then ((some (y230 ++ t234 : List Int)).bind fun y237 => (if a0_0 = true then ((bollardref1_Varint.f kj13 (IntKind.u64.wrap ((a0_1.size : Int)))).bind fun t240 => (if y237.length + t240.length < 140737488355328 then ((some (y237 ++ t240 : List Int)).bind fun y243 => (if y243.length + a0_1.size < 140737488355328 then ((some (y243 ++ bytesOf a0_1 : List Int)).bind fun y246 => (if a0_2 = true then ((bollardref1_Varint.f kj13 (IntKind.u64.wrap ((a0_3.size : Int)))).bind fun t249 => (if y246.length + t249.length < 140737488355328 then ((some (y246 ++ t249 : List Int)).bind fun y252 => (if y252.length + a0_3.size < 140737488355328 then (some ((y252 ++ bytesOf a0_3), 0)) else (none))) else (none))) else (some (y246, 0)))) else (none))) else (none))) else (if a0_2 = true then ((bollardref1_Varint.f kj13 (IntKind.u64.wrap ((a0_3.size : Int)))).bind fun t258 => (if y237.length + t258.length < 140737488355328 then ((some (y237 ++ t258 : List Int)).bind fun y261 => (if y261.length + a0_3.size < 140737488355328 then (some ((y261 ++ bytesOf a0_3), 0)) else (none))) else (none))) else (some (y237, 0))))) else (none))))) else (none)) = some (r1, r2) := H
                  have A17 := Aside0.mk A170
                  clear A170
                  by_cases c18 : y224.length + t227.length < 140737488355328
                  · rw [if_pos c18] at H
                    have LMc18 := Aside0.mk c18
                    clear c18
                    obtain ⟨y230, hy230⟩ : ∃ y_ : List Int, y_ = (y224 ++ t227) := ⟨_, rfl⟩
                    replace H : ((bollardref1_Zig.f (wrap64 (a0_4 - a1))).bind fun t233 => ((bollardref1_Varint.f kj13 t233).bind fun t234 => (if y230.length + t234.length < 140737488355328 then ((some (y230 ++ t234 : List Int)).bind fun y237 => (if a0_0 = true then ((bollardref1_Varint.f kj13 (IntKind.u64.wrap ((a0_1.size : Int)))).bind fun t240 => (if y237.length + t240.length < 140737488355328 then ((some (y237 ++ t240 : List Int)).bind fun y243 => (if y243.length + a0_1.size < 140737488355328 then ((some (y243 ++ bytesOf a0_1 : List Int)).bind fun y246 => (if a0_2 = true then ((bollardref1_Varint.f kj13 (IntKind.u64.wrap ((a0_3.size : Int)))).bind fun t249 => (if y246.length + t249.length < 140737488355328 then ((some (y246 ++ t249 : List Int)).bind fun y252 => (if y252.length + a0_3.size < 140737488355328 then (some ((y252 ++ bytesOf a0_3), 0)) else (none))) else (none))) else (some (y246, 0)))) else (none))) else (none))) else (if a0_2 = true then ((bollardref1_Varint.f kj13 (IntKind.u64.wrap ((a0_3.size : Int)))).bind fun t258 => (if y237.length + t258.length < 140737488355328 then ((some (y237 ++ t258 : List Int)).bind fun y261 => (if y261.length + a0_3.size < 140737488355328 then (some ((y261 ++ bytesOf a0_3), 0)) else (none))) else (none))) else (some (y237, 0))))) else (none)))) = some (r1, r2) := by first | (rw [hy230]; with_reducible exact H) | (have H2_ := (Option.bind_some _ _).symm.trans H; rw [hy230]; with_reducible exact H2_) | (have H2_ := (Option.bind_some _ _).symm.trans H; with_reducible exact H2_) | with_reducible exact H | (rw [hy230]; exact H) | exact H
                    have Ny230 := Aside0.mk hy230
                    clear hy230
                    replace H := Option.bind_eq_some_iff.mp H
                    obtain ⟨t233, A190, H⟩ := H
                    replace H : ((bollardref1_Varint.f kj13 t233).bind fun t234 => (if y230.length + t234.length < 140737488355328 then ((some (y230 ++ t234 : List Int)).bind fun y237 => (if a0_0 = true then ((bollardref1_Varint.f kj13 (IntKind.u64.wrap ((a0_1.size : Int)))).bind fun t240 => (if y237.length + t240.length < 140737488355328 then ((some (y237 ++ t240 : List Int)).bind fun y243 => (if y243.length + a0_1.size < 140737488355328 then ((some (y243 ++ bytesOf a0_1 : List Int)).bind fun y246 => (if a0_2 = true then ((bollardref1_Varint.f kj13 (IntKind.u64.wrap ((a0_3.size : Int)))).bind fun t249 => (if y246.length + t249.length < 140737488355328 then ((some (y246 ++ t249 : List Int)).bind fun y252 => (if y252.length + a0_3.size < 140737488355328 then (some ((y252 ++ bytesOf a0_3), 0)) else (none))) else (none))) else (some (y246, 0)))) else (none))) else (none))) else (if a0_2 = true then ((bollardref1_Varint.f kj13 (IntKind.u64.wrap ((a0_3.size : Int)))).bind fun t258 => (if y237.length + t258.length < 140737488355328 then ((some (y237 ++ t258 : List Int)).bind fun y261 => (if y261.length + a0_3.size < 140737488355328 then (some ((y261 ++ bytesOf a0_3), 0)) else (none))) else (none))) else (some (y237, 0))))) else (none))) = some (r1, r2) := H
                    have A19 := Aside0.mk A190
                    clear A190
                    replace H := Option.bind_eq_some_iff.mp H
                    obtain ⟨t234, A200, H⟩ := H
                    replace H : (if y230.length + t234.length < 140737488355328 then ((some (y230 ++ t234 : List Int)).bind fun y237 => (if a0_0 = true then ((bollardref1_Varint.f kj13 (IntKind.u64.wrap ((a0_1.size : Int)))).bind fun t240 => (if y237.length + t240.length < 140737488355328 then ((some (y237 ++ t240 : List Int)).bind fun y243 => (if y243.length + a0_1.size < 140737488355328 then ((some (y243 ++ bytesOf a0_1 : List Int)).bind fun y246 => (if a0_2 = true then ((bollardref1_Varint.f kj13 (IntKind.u64.wrap ((a0_3.size : Int)))).bind fun t249 => (if y246.length + t249.length < 140737488355328 then ((some (y246 ++ t249 : List Int)).bind fun y252 => (if y252.length + a0_3.size < 140737488355328 then (some ((y252 ++ bytesOf a0_3), 0)) else (none))) else (none))) else (some (y246, 0)))) else (none))) else (none))) else (if a0_2 = true then ((bollardref1_Varint.f kj13 (IntKind.u64.wrap ((a0_3.size : Int)))).bind fun t258 => (if y237.length + t258.length < 140737488355328 then ((some (y237 ++ t258 : List Int)).bind fun y261 => (if y261.length + a0_3.size < 140737488355328 then (some ((y261 ++ bytesOf a0_3), 0)) else (none))) else (none))) else (some (y237, 0))))) else (none)) = some (r1, r2) := H
                    have A20 := Aside0.mk A200
                    clear A200
                    by_cases c21 : y230.length + t234.length < 140737488355328
                    · rw [if_pos c21] at H
                      have LMc21 := Aside0.mk c21
                      clear c21
                      obtain ⟨y237, hy237⟩ : ∃ y_ : List Int, y_ = (y230 ++ t234) := ⟨_, rfl⟩
                      replace H : (if a0_0 = true then ((bollardref1_Varint.f kj13 (IntKind.u64.wrap ((a0_1.size : Int)))).bind fun t240 => (if y237.length + t240.length < 140737488355328 then ((some (y237 ++ t240 : List Int)).bind fun y243 => (if y243.length + a0_1.size < 140737488355328 then ((some (y243 ++ bytesOf a0_1 : List Int)).bind fun y246 => (if a0_2 = true then ((bollardref1_Varint.f kj13 (IntKind.u64.wrap ((a0_3.size : Int)))).bind fun t249 => (if y246.length + t249.length < 140737488355328 then ((some (y246 ++ t249 : List Int)).bind fun y252 => (if y252.length + a0_3.size < 140737488355328 then (some ((y252 ++ bytesOf a0_3), 0)) else (none))) else (none))) else (some (y246, 0)))) else (none))) else (none))) else (if a0_2 = true then ((bollardref1_Varint.f kj13 (IntKind.u64.wrap ((a0_3.size : Int)))).bind fun t258 => (if y237.length + t258.length < 140737488355328 then ((some (y237 ++ t258 : List Int)).bind fun y261 => (if y261.length + a0_3.size < 140737488355328 then (some ((y261 ++ bytesOf a0_3), 0)) else (none))) else (none))) else (some (y237, 0)))) = some (r1, r2) := by first | (rw [hy237]; with_reducible exact H) | (have H2_ := (Option.bind_some _ _).symm.trans H; rw [hy237]; with_reducible exact H2_) | (have H2_ := (Option.bind_some _ _).symm.trans H; with_reducible exact H2_) | with_reducible exact H | (rw [hy237]; exact H) | exact H
                      have Ny237 := Aside0.mk hy237
                      clear hy237
                      by_cases c22 : a0_0 = true
                      · subst c22
                        have H1 : ((bollardref1_Varint.f kj13 (IntKind.u64.wrap ((a0_1.size : Int)))).bind fun t240 => (if y237.length + t240.length < 140737488355328 then ((some (y237 ++ t240 : List Int)).bind fun y243 => (if y243.length + a0_1.size < 140737488355328 then ((some (y243 ++ bytesOf a0_1 : List Int)).bind fun y246 => (if a0_2 = true then ((bollardref1_Varint.f kj13 (IntKind.u64.wrap ((a0_3.size : Int)))).bind fun t249 => (if y246.length + t249.length < 140737488355328 then ((some (y246 ++ t249 : List Int)).bind fun y252 => (if y252.length + a0_3.size < 140737488355328 then (some ((y252 ++ bytesOf a0_3), 0)) else (none))) else (none))) else (some (y246, 0)))) else (none))) else (none))) = some (r1, r2) := by rw [if_pos rfl] at H; exact H
                        clear H
                        have H := H1
                        clear H1
                        replace H := Option.bind_eq_some_iff.mp H
                        obtain ⟨t240, A230, H⟩ := H
                        replace H : (if y237.length + t240.length < 140737488355328 then ((some (y237 ++ t240 : List Int)).bind fun y243 => (if y243.length + a0_1.size < 140737488355328 then ((some (y243 ++ bytesOf a0_1 : List Int)).bind fun y246 => (if a0_2 = true then ((bollardref1_Varint.f kj13 (IntKind.u64.wrap ((a0_3.size : Int)))).bind fun t249 => (if y246.length + t249.length < 140737488355328 then ((some (y246 ++ t249 : List Int)).bind fun y252 => (if y252.length + a0_3.size < 140737488355328 then (some ((y252 ++ bytesOf a0_3), 0)) else (none))) else (none))) else (some (y246, 0)))) else (none))) else (none)) = some (r1, r2) := H
                        have A23 := Aside0.mk A230
                        clear A230
                        by_cases c24 : y237.length + t240.length < 140737488355328
                        · rw [if_pos c24] at H
                          have LMc24 := Aside0.mk c24
                          clear c24
                          obtain ⟨y243, hy243⟩ : ∃ y_ : List Int, y_ = (y237 ++ t240) := ⟨_, rfl⟩
                          replace H : (if y243.length + a0_1.size < 140737488355328 then ((some (y243 ++ bytesOf a0_1 : List Int)).bind fun y246 => (if a0_2 = true then ((bollardref1_Varint.f kj13 (IntKind.u64.wrap ((a0_3.size : Int)))).bind fun t249 => (if y246.length + t249.length < 140737488355328 then ((some (y246 ++ t249 : List Int)).bind fun y252 => (if y252.length + a0_3.size < 140737488355328 then (some ((y252 ++ bytesOf a0_3), 0)) else (none))) else (none))) else (some (y246, 0)))) else (none)) = some (r1, r2) := by first | (rw [hy243]; with_reducible exact H) | (have H2_ := (Option.bind_some _ _).symm.trans H; rw [hy243]; with_reducible exact H2_) | (have H2_ := (Option.bind_some _ _).symm.trans H; with_reducible exact H2_) | with_reducible exact H | (rw [hy243]; exact H) | exact H
                          have Ny243 := Aside0.mk hy243
                          clear hy243
                          by_cases c25 : y243.length + a0_1.size < 140737488355328
                          · rw [if_pos c25] at H
                            have LMc25 := Aside0.mk c25
                            clear c25
                            obtain ⟨y246, hy246⟩ : ∃ y_ : List Int, y_ = (y243 ++ bytesOf a0_1) := ⟨_, rfl⟩
                            replace H : (if a0_2 = true then ((bollardref1_Varint.f kj13 (IntKind.u64.wrap ((a0_3.size : Int)))).bind fun t249 => (if y246.length + t249.length < 140737488355328 then ((some (y246 ++ t249 : List Int)).bind fun y252 => (if y252.length + a0_3.size < 140737488355328 then (some ((y252 ++ bytesOf a0_3), 0)) else (none))) else (none))) else (some (y246, 0))) = some (r1, r2) := by first | (rw [hy246]; with_reducible exact H) | (have H2_ := (Option.bind_some _ _).symm.trans H; rw [hy246]; with_reducible exact H2_) | (have H2_ := (Option.bind_some _ _).symm.trans H; with_reducible exact H2_) | with_reducible exact H | (rw [hy246]; exact H) | exact H
                            have Ny246 := Aside0.mk hy246
                            clear hy246
                            by_cases c26 : a0_2 = true
                            · subst c26
                              have H1 : ((bollardref1_Varint.f kj13 (IntKind.u64.wrap ((a0_3.size : Int)))).bind fun t249 => (if y246.length + t249.length < 140737488355328 then ((some (y246 ++ t249 : List Int)).bind fun y252 => (if y252.length + a0_3.size < 140737488355328 then (some ((y252 ++ bytesOf a0_3), 0)) else (none))) else (none))) = some (r1, r2) := by rw [if_pos rfl] at H; exact H
                              clear H
                              have H := H1
                              clear H1
                              replace H := Option.bind_eq_some_iff.mp H
                              obtain ⟨t249, A270, H⟩ := H
                              replace H : (if y246.length + t249.length < 140737488355328 then ((some (y246 ++ t249 : List Int)).bind fun y252 => (if y252.length + a0_3.size < 140737488355328 then (some ((y252 ++ bytesOf a0_3), 0)) else (none))) else (none)) = some (r1, r2) := H
                              have A27 := Aside0.mk A270
                              clear A270
                              by_cases c28 : y246.length + t249.length < 140737488355328
                              · rw [if_pos c28] at H
                                have LMc28 := Aside0.mk c28
                                clear c28
                                obtain ⟨y252, hy252⟩ : ∃ y_ : List Int, y_ = (y246 ++ t249) := ⟨_, rfl⟩
                                replace H : (if y252.length + a0_3.size < 140737488355328 then (some ((y252 ++ bytesOf a0_3), 0)) else (none)) = some (r1, r2) := by first | (rw [hy252]; with_reducible exact H) | (have H2_ := (Option.bind_some _ _).symm.trans H; rw [hy252]; with_reducible exact H2_) | (have H2_ := (Option.bind_some _ _).symm.trans H; with_reducible exact H2_) | with_reducible exact H | (rw [hy252]; exact H) | exact H
                                have Ny252 := Aside0.mk hy252
                                clear hy252
                                by_cases c29 : y252.length + a0_3.size < 140737488355328
                                · rw [if_pos c29] at H
                                  have LMc29 := Aside0.mk c29
                                  clear c29
                                  obtain ⟨y255, hy255⟩ : ∃ y_ : List Int, y_ = (y252 ++ bytesOf a0_3) := ⟨_, rfl⟩
                                  replace H : (some (y255, 0)) = some (r1, r2) := by first | (rw [hy255]; with_reducible exact H) | (have H2_ := (Option.bind_some _ _).symm.trans H; rw [hy255]; with_reducible exact H2_) | (have H2_ := (Option.bind_some _ _).symm.trans H; with_reducible exact H2_) | with_reducible exact H | (rw [hy255]; exact H) | exact H
                                  have Ny255 := Aside0.mk hy255
                                  clear hy255
                                  simp only [Option.some.injEq, Prod.mk.injEq] at H
                                  obtain ⟨rfl, rfl⟩ := H
                                  try go_wp2_with (first | ((with_reducible refine gate_dst (N := 27) rfl ?_); refine Kd.R_lit (Kd.int .u8) _ 5 ?hg (N := 27) ?hd (xs := ([x7_13] : List Int)) (inner := [.int .u8 x7_13]) (ok := fun _ => True) (okp := fun _ => True) ?hr ?hp (fun _ hk => hk) trivial (Below.refl _ _) (Nat.le_refl _) (by simp) ?_; (case hd => rfl); (case hg => rfl); (case hr => first | (go_simp; done) | (go_simp; rfl)); (case hp => exact (Reps.one (show Kd.M (Kd.int .u8) _ _ _ x7_13 [.int .u8 x7_13] from rfl) (Reps.none _ _))); intro v225 w30 ho31 hb hg_ hnew_; clear hg_ hnew_; (first | rw [← Ny224.out] at ho31 | (simp only [Int.reduceToNat] at ho31; rw [← Ny224.out] at ho31)); have n0_ := Aside0.mk (Kd.R_lower ho31 (below_size (by repeat (first | (with_reducible first | exact HB.out | apply below_alloc | apply pw_below_drewN | apply below_drew1 | refine below_set ?_ GE222.out) | exact HB.out)))); have n1_ := Aside0.mk (blk_below (g := gb222) (o := .cells #[.bool true, .string a0_1, .bool true, .string a0_3, .int .i64 a0_4, .int .i64 a0_5] 45 (0, 0)) (by (with_reducible repeat (first | refine blk_drewN ?_ _ | refine blk_drew ?_ | refine blk_alloc ?_ _)); exact BK222.out) hb); have n2_ := Aside0.mk (below_step (by repeat (first | (with_reducible first | exact HB.out | apply below_alloc | apply pw_below_drewN | apply below_drew1 | refine below_set ?_ GE222.out) | exact HB.out)) hb); clear BK222; clear HB; have HO226 := n0_; have BK222 := n1_; have HB := n2_; clear n0_ n1_ n2_; clear hb ho31; have hcz32_0 : w30.cell? ⟨gb222, 0, none⟩ = some (.bool true) := (blk_cell BK222.out 0).trans rfl; have hcz32_1 : w30.cell? ⟨gb222, 1, none⟩ = some (.string a0_1) := (blk_cell BK222.out 1).trans rfl; have hcz32_2 : w30.cell? ⟨gb222, 2, none⟩ = some (.bool true) := (blk_cell BK222.out 2).trans rfl; have hcz32_3 : w30.cell? ⟨gb222, 3, none⟩ = some (.string a0_3) := (blk_cell BK222.out 3).trans rfl; have hcz32_4 : w30.cell? ⟨gb222, 4, none⟩ = some (.int .i64 a0_4) := (blk_cell BK222.out 4).trans rfl; have hcz32_5 : w30.cell? ⟨gb222, 5, none⟩ = some (.int .i64 a0_5) := (blk_cell BK222.out 5).trans rfl; have hfz32_0 := blk_frozen BK222.out 0; have hfz32_1 := blk_frozen BK222.out 1; have hfz32_2 := blk_frozen BK222.out 2; have hfz32_3 := blk_frozen BK222.out 3; have hfz32_4 := blk_frozen BK222.out 4; have hfz32_5 := blk_frozen BK222.out 5) | ((with_reducible refine gate_callee (f := 64) rfl ?_); refine goesL_ (some 31) rfl rfl Try.func64 (by kernel_rfl) rfl #[.int .u64 (IntKind.u64.wrap (a0_5))] rfl (by (try simp only [List.map_toArray, List.map_cons, List.map_nil]); first | done | rfl | (simp only [List.length_drop, List.length_take]; rfl)) ?_; (with_reducible refine (bollardref1_Varint.calls kj13 (IntKind.u64.wrap (a0_5)) t227 _ A17.out).mono ?_); rintro e w33 ⟨v228, rfl, ho0, hb⟩; refine ⟨_, rfl, ?_⟩; have n0_ := Aside0.mk (Kd.R_elder' (by (with_reducible repeat (first | apply Kd.R_alloc | apply Kd.R_drewN | apply Kd.R_drew)); exact HO226.out) (Kd.R_base ho0) hb); have n1_ := Aside0.mk (Kd.R_lower (Kd.R_new' ho0 (Kd.R_lt (by (with_reducible repeat (first | apply Kd.R_alloc | apply Kd.R_drewN | apply Kd.R_drew)); exact HO226.out))) (below_size (by repeat (first | (with_reducible first | exact HB.out | apply below_alloc | apply pw_below_drewN | apply below_drew1 | refine below_set ?_ GE222.out) | exact HB.out)))); have n2_ := Aside0.mk (blk_below (g := gb222) (o := .cells #[.bool true, .string a0_1, .bool true, .string a0_3, .int .i64 a0_4, .int .i64 a0_5] 45 (0, 0)) (by (with_reducible repeat (first | refine blk_drewN ?_ _ | refine blk_drew ?_ | refine blk_alloc ?_ _)); exact BK222.out) hb); have n3_ := Aside0.mk (below_step (by repeat (first | (with_reducible first | exact HB.out | apply below_alloc | apply pw_below_drewN | apply below_drew1 | refine below_set ?_ GE222.out) | exact HB.out)) hb); clear HO226; clear BK222; clear HB; have HO226 := n0_; have HO229 := n1_; have BK222 := n2_; have HB := n3_; clear n0_ n1_ n2_ n3_; (try clear hb); (try clear hb2); (try clear hk); (try clear hi); (try clear ho0); obtain ⟨Ao35, co35, eo35⟩ := Kd.R_slice HO229.out; subst eo35) | ((with_reducible refine gate_builtin (b := .append) (xs := #[.tmp 27, .tmp 31]) rfl ?_); at_builtin; refine Kd.R_append_rows (Kd.int .u8) (w0 := w) w.heap.size rfl (.tmp 27) (.tmp 31) 27 5 (.int .u8 0) 1 rfl Try.underlying27 info5 rfl (by decide) (by omega) v225 y224 t227 _ _ _ (fun k_ => some k_ ≠ (.slice Ao35 t227.length co35 : Value).ownBlock) (fun _ => False) rfl rfl ?aO ?aR (fun _ _ h => h) (fun _ h => h.elim) ?aF ?aB ?aS ?aL ?_; (case aR => repeat (first | exact (Kd.R_reads' HO229.out).2.2 | (with_reducible refine Kd.C_alloc ?_ _) | (with_reducible refine Kd.C_drewN ?_ _) | (with_reducible refine Kd.C_drew ?_))); (case aB => exact (by repeat (first | (with_reducible first | exact HB.out | apply below_alloc | apply pw_below_drewN | apply below_drew1 | refine below_set ?_ GE222.out) | exact HB.out))); (case aF => exact (fun k_ hk => Kd.fresh' (Kd.R_lt (by (with_reducible repeat (first | apply Kd.R_alloc | apply Kd.R_drewN | apply Kd.R_drew)); exact HO229.out)) k_ hk)); (case aO => exact (by (with_reducible repeat (first | apply Kd.R_alloc | apply Kd.R_drewN | apply Kd.R_drew)); exact Kd.R_mono HO226.out (fun _ hk => hk.2))); (case aS => exact (below_size (by repeat (first | (with_reducible first | exact HB.out | apply below_alloc | apply pw_below_drewN | apply below_drew1 | refine below_set ?_ GE222.out) | exact HB.out)))); (case aL => have := LMc18.out; omega); intro v231 w34 ho hb hg hat; rw [← Ny230.out] at ho; have n0_ := Aside0.mk (blk_grown (g := gb222) (o := .cells #[.bool true, .string a0_1, .bool true, .string a0_3, .int .i64 a0_4, .int .i64 a0_5] 45 (0, 0)) (by (with_reducible repeat (first | refine blk_drewN ?_ _ | refine blk_drew ?_ | refine blk_alloc ?_ _)); exact BK222.out) hg (Kd.R_ne HO226.out BK222.out (by decide))); have n1_ := Aside0.mk (Kd.R_after (ok := (fun _ => True)) (by (with_reducible repeat (first | apply Kd.R_alloc | apply Kd.R_drewN | apply Kd.R_drew)); exact HO229.out) hg hat); have n2_ := Aside0.mk (hb); have n3_ := Aside0.mk (ho); clear BK222; clear HO229; clear HB; clear HO226; have BK222 := n0_; have HO229 := n1_; have HB := n2_; have HO232 := n3_; clear n0_ n1_ n2_ n3_; clear ho hb hg hat; have hcz36_0 : w34.cell? ⟨gb222, 0, none⟩ = some (.bool true) := (blk_cell BK222.out 0).trans rfl; have hcz36_1 : w34.cell? ⟨gb222, 1, none⟩ = some (.string a0_1) := (blk_cell BK222.out 1).trans rfl; have hcz36_2 : w34.cell? ⟨gb222, 2, none⟩ = some (.bool true) := (blk_cell BK222.out 2).trans rfl; have hcz36_3 : w34.cell? ⟨gb222, 3, none⟩ = some (.string a0_3) := (blk_cell BK222.out 3).trans rfl; have hcz36_4 : w34.cell? ⟨gb222, 4, none⟩ = some (.int .i64 a0_4) := (blk_cell BK222.out 4).trans rfl; have hcz36_5 : w34.cell? ⟨gb222, 5, none⟩ = some (.int .i64 a0_5) := (blk_cell BK222.out 5).trans rfl; have hfz36_0 := blk_frozen BK222.out 0; have hfz36_1 := blk_frozen BK222.out 1; have hfz36_2 := blk_frozen BK222.out 2; have hfz36_3 := blk_frozen BK222.out 3; have hfz36_4 := blk_frozen BK222.out 4; have hfz36_5 := blk_frozen BK222.out 5) | ((with_reducible refine gate_callee (f := 65) rfl ?_); refine goesL_ (some 38) rfl rfl Try.func65 (by kernel_rfl) rfl #[.int .i64 (wrap64 (a0_4 - a1))] rfl (by (try simp only [List.map_toArray, List.map_cons, List.map_nil]); first | done | rfl | (simp only [List.length_drop, List.length_take]; rfl)) ?_; (with_reducible refine (bollardref1_Zig.calls (wrap64 (a0_4 - a1)) t233 _ A19.out).mono ?_); rintro e w' ⟨rfl, ⟨nd, rfl⟩⟩; refine ⟨_, rfl, ?_⟩) | ((with_reducible refine gate_callee (f := 64) rfl ?_); refine goesL_ (some 39) rfl rfl Try.func64 (by kernel_rfl) rfl #[.int .u64 t233] rfl (by (try simp only [List.map_toArray, List.map_cons, List.map_nil]); first | done | rfl | (simp only [List.length_drop, List.length_take]; rfl)) ?_; (with_reducible refine (bollardref1_Varint.calls kj13 t233 t234 _ A20.out).mono ?_); rintro e w37 ⟨v235, rfl, ho0, hb⟩; refine ⟨_, rfl, ?_⟩; have n0_ := Aside0.mk (Kd.R_elder' (by (with_reducible repeat (first | apply Kd.R_alloc | apply Kd.R_drewN | apply Kd.R_drew)); exact HO229.out) (Kd.R_base ho0) hb); have n1_ := Aside0.mk (Kd.R_elder' (by (with_reducible repeat (first | apply Kd.R_alloc | apply Kd.R_drewN | apply Kd.R_drew)); exact HO232.out) (Kd.R_base ho0) hb); have n2_ := Aside0.mk (Kd.R_lower (Kd.R_new' (Kd.R_new' ho0 (Kd.R_lt (by (with_reducible repeat (first | apply Kd.R_alloc | apply Kd.R_drewN | apply Kd.R_drew)); exact HO229.out))) (Kd.R_lt (by (with_reducible repeat (first | apply Kd.R_alloc | apply Kd.R_drewN | apply Kd.R_drew)); exact HO232.out))) (below_size (by repeat (first | (with_reducible first | exact HB.out | apply below_alloc | apply pw_below_drewN | apply below_drew1 | refine below_set ?_ GE222.out) | exact HB.out)))); have n3_ := Aside0.mk (blk_below (g := gb222) (o := .cells #[.bool true, .string a0_1, .bool true, .string a0_3, .int .i64 a0_4, .int .i64 a0_5] 45 (0, 0)) (by (with_reducible repeat (first | refine blk_drewN ?_ _ | refine blk_drew ?_ | refine blk_alloc ?_ _)); exact BK222.out) hb); have n4_ := Aside0.mk (below_step (by repeat (first | (with_reducible first | exact HB.out | apply below_alloc | apply pw_below_drewN | apply below_drew1 | refine below_set ?_ GE222.out) | exact HB.out)) hb); clear HO229; clear HO232; clear BK222; clear HB; have HO229 := n0_; have HO232 := n1_; have HO236 := n2_; have BK222 := n3_; have HB := n4_; clear n0_ n1_ n2_ n3_ n4_; (try clear hb); (try clear hb2); (try clear hk); (try clear hi); (try clear ho0); obtain ⟨Ao39, co39, eo39⟩ := Kd.R_slice HO236.out; subst eo39) | ((with_reducible refine gate_builtin (b := .append) (xs := #[.tmp 33, .tmp 39]) rfl ?_); at_builtin; refine Kd.R_append_rows (Kd.int .u8) (w0 := w) w.heap.size rfl (.tmp 33) (.tmp 39) 27 5 (.int .u8 0) 1 rfl Try.underlying27 info5 rfl (by decide) (by omega) v231 y230 t234 _ _ _ (fun k_ => some k_ ≠ (.slice Ao35 t227.length co35 : Value).ownBlock ∧ some k_ ≠ (.slice Ao39 t234.length co39 : Value).ownBlock) (fun _ => False) rfl rfl ?aO ?aR (fun _ _ h => h) (fun _ h => h.elim) ?aF ?aB ?aS ?aL ?_; (case aR => repeat (first | exact (Kd.R_reads' HO236.out).2.2 | (with_reducible refine Kd.C_alloc ?_ _) | (with_reducible refine Kd.C_drewN ?_ _) | (with_reducible refine Kd.C_drew ?_))); (case aB => exact (by repeat (first | (with_reducible first | exact HB.out | apply below_alloc | apply pw_below_drewN | apply below_drew1 | refine below_set ?_ GE222.out) | exact HB.out))); (case aF => exact (fun k_ hk => ⟨Kd.fresh' (Kd.R_lt (by (with_reducible repeat (first | apply Kd.R_alloc | apply Kd.R_drewN | apply Kd.R_drew)); exact HO229.out)) k_ hk, Kd.fresh' (Kd.R_lt (by (with_reducible repeat (first | apply Kd.R_alloc | apply Kd.R_drewN | apply Kd.R_drew)); exact HO236.out)) k_ hk⟩)); (case aO => exact (by (with_reducible repeat (first | apply Kd.R_alloc | apply Kd.R_drewN | apply Kd.R_drew)); exact HO232.out)); (case aS => exact (below_size (by repeat (first | (with_reducible first | exact HB.out | apply below_alloc | apply pw_below_drewN | apply below_drew1 | refine below_set ?_ GE222.out) | exact HB.out)))); (case aL => have := LMc21.out; omega); intro v238 w38 ho hb hg hat; rw [← Ny237.out] at ho; have n0_ := Aside0.mk (blk_grown (g := gb222) (o := .cells #[.bool true, .string a0_1, .bool true, .string a0_3, .int .i64 a0_4, .int .i64 a0_5] 45 (0, 0)) (by (with_reducible repeat (first | refine blk_drewN ?_ _ | refine blk_drew ?_ | refine blk_alloc ?_ _)); exact BK222.out) hg (Kd.R_ne HO232.out BK222.out (by decide))); have n1_ := Aside0.mk (Kd.R_after (ok := (fun k_ => some k_ ≠ (.slice Ao39 t234.length co39 : Value).ownBlock)) (by (with_reducible repeat (first | apply Kd.R_alloc | apply Kd.R_drewN | apply Kd.R_drew)); exact Kd.R_mono HO229.out (fun _ hk => ⟨hk.2, hk.1.2⟩)) hg hat); have n2_ := Aside0.mk (Kd.R_after (ok := (fun k_ => some k_ ≠ (.slice Ao35 t227.length co35 : Value).ownBlock)) (by (with_reducible repeat (first | apply Kd.R_alloc | apply Kd.R_drewN | apply Kd.R_drew)); exact Kd.R_mono HO236.out (fun _ hk => ⟨hk.1.2, hk.2⟩)) hg hat); have n3_ := Aside0.mk (hb); have n4_ := Aside0.mk (ho); clear BK222; clear HO229; clear HO236; clear HB; clear HO232; have BK222 := n0_; have HO229 := n1_; have HO236 := n2_; have HB := n3_; have HO239 := n4_; clear n0_ n1_ n2_ n3_ n4_; clear ho hb hg hat; have hcz40_0 : w38.cell? ⟨gb222, 0, none⟩ = some (.bool true) := (blk_cell BK222.out 0).trans rfl; have hcz40_1 : w38.cell? ⟨gb222, 1, none⟩ = some (.string a0_1) := (blk_cell BK222.out 1).trans rfl; have hcz40_2 : w38.cell? ⟨gb222, 2, none⟩ = some (.bool true) := (blk_cell BK222.out 2).trans rfl; have hcz40_3 : w38.cell? ⟨gb222, 3, none⟩ = some (.string a0_3) := (blk_cell BK222.out 3).trans rfl; have hcz40_4 : w38.cell? ⟨gb222, 4, none⟩ = some (.int .i64 a0_4) := (blk_cell BK222.out 4).trans rfl; have hcz40_5 : w38.cell? ⟨gb222, 5, none⟩ = some (.int .i64 a0_5) := (blk_cell BK222.out 5).trans rfl; have hfz40_0 := blk_frozen BK222.out 0; have hfz40_1 := blk_frozen BK222.out 1; have hfz40_2 := blk_frozen BK222.out 2; have hfz40_3 := blk_frozen BK222.out 3; have hfz40_4 := blk_frozen BK222.out 4; have hfz40_5 := blk_frozen BK222.out 5))
                                  have n0_ := Aside0.mk (Kd.R_drew HO229.out)
                                  have n1_ := Aside0.mk (Kd.R_drew HO236.out)
                                  have n2_ := Aside0.mk (Kd.R_drew HO239.out)
                                  have n3_ := Aside0.mk (blk_drew BK222.out)
                                  have n4_ := Aside0.mk (below_drew1 HB.out)
                                  clear HO229
                                  clear HO236
                                  clear HO239
                                  clear BK222
                                  clear HB
                                  have HO229 := n0_
                                  have HO236 := n1_
                                  have HO239 := n2_
                                  have BK222 := n3_
                                  have HB := n4_
                                  clear n0_ n1_ n2_ n3_ n4_
                                  refine start_ (n := 11) (S := fun w' => w'.cell? ⟨gb222, 0, none⟩ = some (.bool true) ∧ w'.cell? ⟨gb222, 1, none⟩ = some (.string a0_1) ∧ w'.cell? ⟨gb222, 2, none⟩ = some (.bool true) ∧ w'.cell? ⟨gb222, 3, none⟩ = some (.string a0_3) ∧ w'.cell? ⟨gb222, 4, none⟩ = some (.int .i64 a0_4) ∧ w'.cell? ⟨gb222, 5, none⟩ = some (.int .i64 a0_5)) (ds := []) #[false, false, false, false, false, false, false, false, false, false, false] (by kernel_rfl) rfl rfl ⟨(blk_cell BK222.out 0).trans rfl, (blk_cell BK222.out 1).trans rfl, (blk_cell BK222.out 2).trans rfl, (blk_cell BK222.out 3).trans rfl, (blk_cell BK222.out 4).trans rfl, (blk_cell BK222.out 5).trans rfl⟩ (fun hHeld => ?_); refine with_tabW bollardref12_Encode.tab14 bollardref12_Encode.bits14 (fun HT_ HW_ => ?_)
                                  generalize w38.drew = w41 at HO229 HO236 HO239 BK222 HB hHeld ⊢
                                  refine pure_ (i := 0) (N := some 43) (v := ?_) (a' := ?_) #[true, false, false, false, false, false, false, false, false, false, false] rfl rfl (any_of HT_.out (by kernel_rfl)) (fun _ _ _ h => h) (Or.inl ⟨by rfl, ?_⟩) ?_ ?_
                                  rotate_left
                                  · intro w'
                                    go_simp
                                    with_reducible rfl
                                  rotate_left
                                  · simp only [Act.put, List.setIfInBounds_toArray, List.set_cons_zero, List.set_cons_succ, i64_w, i32_w]
                                    rfl
                                  refine pure_ (i := 1) (N := some 44) (v := ?_) (a' := ?_) #[true, true, false, false, false, false, false, false, false, false, false] rfl rfl (any_of HT_.out (by kernel_rfl)) (fun _ _ _ h => h) (Or.inl ⟨by rfl, ?_⟩) ?_ ?_
                                  rotate_left
                                  · intro w'
                                    go_simp
                                    with_reducible rfl
                                  rotate_left
                                  · simp only [Act.put, List.setIfInBounds_toArray, List.set_cons_zero, List.set_cons_succ, i64_w, i32_w]
                                    rfl
                                  refine pure_ (i := 7) (N := some 50) (v := ?_) (a' := ?_) #[true, true, false, false, false, false, false, true, false, false, false] rfl rfl (any_of HT_.out (by kernel_rfl)) (fun _ _ _ h => h) (Or.inl ⟨by rfl, ?_⟩) ?_ ?_
                                  rotate_left
                                  · intro w'
                                    go_simp
                                    with_reducible rfl
                                  rotate_left
                                  · simp only [Act.put, List.setIfInBounds_toArray, List.set_cons_zero, List.set_cons_succ, i64_w, i32_w]
                                    rfl
                                  refine take_ (i := 2) (N := some 45) (v := ?_) (a' := ?_) #[true, true, true, false, false, false, false, true, false, false, false] rfl rfl (take_ofW HT_.out HW_.out (by kernel_rfl)) (fun _ _ _ h => h) (Or.inl ⟨by rfl, ?_⟩) hHeld ?_ ?_
                                  rotate_left
                                  · rintro w' ⟨s0, s1, s2, s3, s4, s5⟩
                                    go_simp
                                    with_reducible rfl
                                  rotate_left
                                  · simp only [Act.put, List.setIfInBounds_toArray, List.set_cons_zero, List.set_cons_succ, i64_w, i32_w]
                                    rfl
                                  refine pure_ (i := 3) (N := some 46) (v := ?_) (a' := ?_) #[true, true, true, true, false, false, false, true, false, false, false] rfl rfl (any_of HT_.out (by kernel_rfl)) (fun _ _ _ h => h) (Or.inl ⟨by rfl, ?_⟩) ?_ ?_
                                  rotate_left
                                  · intro w'
                                    go_simp
                                    with_reducible rfl
                                  rotate_left
                                  · simp only [Act.put, List.setIfInBounds_toArray, List.set_cons_zero, List.set_cons_succ, i64_w, i32_w]
                                    rfl
                                  refine pure_ (i := 4) (N := some 47) (v := ?_) (a' := ?_) #[true, true, true, true, true, false, false, true, false, false, false] rfl rfl (any_of HT_.out (by kernel_rfl)) (fun _ _ _ h => h) (Or.inl ⟨by rfl, ?_⟩) ?_ ?_
                                  rotate_left
                                  · intro w'
                                    go_simp
                                    with_reducible rfl
                                  rotate_left
                                  · simp only [Act.put, List.setIfInBounds_toArray, List.set_cons_zero, List.set_cons_succ, i64_w, i32_w]
                                    rfl
                                  refine take_ (i := 8) (N := some 51) (v := ?_) (a' := ?_) #[true, true, true, true, true, false, false, true, true, false, false] rfl rfl (take_ofW HT_.out HW_.out (by kernel_rfl)) (fun _ _ _ h => h) (Or.inl ⟨by rfl, ?_⟩) hHeld ?_ ?_
                                  rotate_left
                                  · rintro w' ⟨s0, s1, s2, s3, s4, s5⟩
                                    go_simp
                                    with_reducible rfl
                                  rotate_left
                                  · simp only [Act.put, List.setIfInBounds_toArray, List.set_cons_zero, List.set_cons_succ, i64_w, i32_w]
                                    rfl
                                  refine one_ (i := 5) (N := some 48) #[true, true, true, true, true, true, false, true, true, false, false] rfl rfl (one_of HT_.out (by kernel_rfl)) (by decide) (fun K hK => ?_)
                                  refine goes_ Try.func64 (by kernel_rfl) rfl #[.int .u64 (IntKind.u64.wrap ((a0_1.size : Int)))] (by rfl) rfl rfl (by (try simp only [List.map_toArray, List.map_cons, List.map_nil]); first | done | rfl | (simp only [List.length_drop, List.length_take]; rfl)) ?_
                                  with_reducible refine (bollardref1_Varint.calls kj13 (IntKind.u64.wrap ((a0_1.size : Int))) t240 _ A23.out).mono ?_
                                  rintro e w42 ⟨v241, rfl, ho0, hb⟩
                                  refine ⟨_, rfl, ?_⟩
                                  have n0_ := Aside0.mk (Kd.R_elder' (by (with_reducible repeat (first | apply Kd.R_alloc | apply Kd.R_drewN | apply Kd.R_drew)); exact HO229.out) (Kd.R_base ho0) hb)
                                  have n1_ := Aside0.mk (Kd.R_elder' (by (with_reducible repeat (first | apply Kd.R_alloc | apply Kd.R_drewN | apply Kd.R_drew)); exact HO236.out) (Kd.R_base ho0) hb)
                                  have n2_ := Aside0.mk (Kd.R_elder' (by (with_reducible repeat (first | apply Kd.R_alloc | apply Kd.R_drewN | apply Kd.R_drew)); exact HO239.out) (Kd.R_base ho0) hb)
                                  have n3_ := Aside0.mk (Kd.R_lower (Kd.R_new' (Kd.R_new' (Kd.R_new' ho0 (Kd.R_lt (by (with_reducible repeat (first | apply Kd.R_alloc | apply Kd.R_drewN | apply Kd.R_drew)); exact HO229.out))) (Kd.R_lt (by (with_reducible repeat (first | apply Kd.R_alloc | apply Kd.R_drewN | apply Kd.R_drew)); exact HO236.out))) (Kd.R_lt (by (with_reducible repeat (first | apply Kd.R_alloc | apply Kd.R_drewN | apply Kd.R_drew)); exact HO239.out))) (below_size (by repeat (first | (with_reducible first | exact HB.out | apply below_alloc | apply pw_below_drewN | apply below_drew1 | refine below_set ?_ GE222.out) | exact HB.out))))
                                  have n4_ := Aside0.mk (blk_below (g := gb222) (o := .cells #[.bool true, .string a0_1, .bool true, .string a0_3, .int .i64 a0_4, .int .i64 a0_5] 45 (0, 0)) (by (with_reducible repeat (first | refine blk_drewN ?_ _ | refine blk_drew ?_ | refine blk_alloc ?_ _)); exact BK222.out) hb)
                                  have n5_ := Aside0.mk (below_step (by repeat (first | (with_reducible first | exact HB.out | apply below_alloc | apply pw_below_drewN | apply below_drew1 | refine below_set ?_ GE222.out) | exact HB.out)) hb)
                                  clear HO229
                                  clear HO236
                                  clear HO239
                                  clear BK222
                                  clear HB
                                  have HO229 := n0_
                                  have HO236 := n1_
                                  have HO239 := n2_
                                  have HO242 := n3_
                                  have BK222 := n4_
                                  have HB := n5_
                                  clear n0_ n1_ n2_ n3_ n4_ n5_
                                  (try clear hb)
                                  (try clear hb2)
                                  (try clear hk)
                                  (try clear hi)
                                  (try clear ho0)
                                  obtain ⟨Ao44, co44, eo44⟩ := Kd.R_slice HO242.out
                                  (first | subst eo44 | (injection eo44 with f1_ f2_ f3_; have f4_ := f1_.symm; have f5_ := f3_.symm; clear f1_ f2_ f3_; subst f4_; subst f5_))
                                  refine hK.out _ _ ⟨(blk_cell BK222.out 0).trans rfl, (blk_cell BK222.out 1).trans rfl, (blk_cell BK222.out 2).trans rfl, (blk_cell BK222.out 3).trans rfl, (blk_cell BK222.out 4).trans rfl, (blk_cell BK222.out 5).trans rfl⟩ (fun hHeld => ?_)
                                  clear hK K
                                  refine norm_ (a' := ?_) ?_ ?_
                                  rotate_left
                                  · show Act.put _ (some 48) _ = _
                                    simp only [Act.put, List.setIfInBounds_toArray, List.set_cons_zero, List.set_cons_succ, i64_w, i32_w]
                                    rfl
                                  refine one_ (i := 6) (N := some 49) #[true, true, true, true, true, true, true, true, true, false, false] rfl rfl (one_of HT_.out (by kernel_rfl)) (by decide) (fun K hK => ?_)
                                  refine Kd.R_append_rows_step (Kd.int .u8) (w0 := w) w.heap.size (by rfl) (.tmp 43) (.tmp 48) 27 5 (.int .u8 0) 1 rfl Try.underlying27 info5 rfl (by decide) (by omega) v238 y237 t240 _ _ _ (fun k_ => some k_ ≠ (.slice Ao35 t227.length co35 : Value).ownBlock ∧ some k_ ≠ (.slice Ao39 t234.length co39 : Value).ownBlock ∧ some k_ ≠ (.slice Ao44 t240.length co44 : Value).ownBlock) (fun _ => False) rfl rfl ?aO ?aR (fun _ _ h => h) (fun _ h => h.elim) ?aF ?aB ?aS ?aL ?_
                                  (case aR => repeat (first | exact (Kd.R_reads' HO242.out).2.2 | (with_reducible refine Kd.C_alloc ?_ _) | (with_reducible refine Kd.C_drewN ?_ _) | (with_reducible refine Kd.C_drew ?_)))
                                  (case aB => exact (by repeat (first | (with_reducible first | exact HB.out | apply below_alloc | apply pw_below_drewN | apply below_drew1 | refine below_set ?_ GE222.out) | exact HB.out)))
                                  (case aF => exact (fun k_ hk => ⟨Kd.fresh' (Kd.R_lt (by (with_reducible repeat (first | apply Kd.R_alloc | apply Kd.R_drewN | apply Kd.R_drew)); exact HO229.out)) k_ hk, Kd.fresh' (Kd.R_lt (by (with_reducible repeat (first | apply Kd.R_alloc | apply Kd.R_drewN | apply Kd.R_drew)); exact HO236.out)) k_ hk, Kd.fresh' (Kd.R_lt (by (with_reducible repeat (first | apply Kd.R_alloc | apply Kd.R_drewN | apply Kd.R_drew)); exact HO242.out)) k_ hk⟩))
                                  (case aO => exact (by (with_reducible repeat (first | apply Kd.R_alloc | apply Kd.R_drewN | apply Kd.R_drew)); exact Kd.R_mono HO239.out (fun _ hk => ⟨hk.1.1, ⟨hk.1.2, hk.2⟩⟩)))
                                  (case aS => exact (below_size (by repeat (first | (with_reducible first | exact HB.out | apply below_alloc | apply pw_below_drewN | apply below_drew1 | refine below_set ?_ GE222.out) | exact HB.out))))
                                  (case aL => have := LMc24.out; omega)
                                  intro v244 w43 ho hb hg hat
                                  rw [← Ny243.out] at ho
                                  have n0_ := Aside0.mk (blk_grown (g := gb222) (o := .cells #[.bool true, .string a0_1, .bool true, .string a0_3, .int .i64 a0_4, .int .i64 a0_5] 45 (0, 0)) (by (with_reducible repeat (first | refine blk_drewN ?_ _ | refine blk_drew ?_ | refine blk_alloc ?_ _)); exact BK222.out) hg (Kd.R_ne HO239.out BK222.out (by decide)))
                                  have n1_ := Aside0.mk (Kd.R_after (ok := (fun k_ => some k_ ≠ (.slice Ao39 t234.length co39 : Value).ownBlock ∧ some k_ ≠ (.slice Ao44 t240.length co44 : Value).ownBlock)) (by (with_reducible repeat (first | apply Kd.R_alloc | apply Kd.R_drewN | apply Kd.R_drew)); exact Kd.R_mono HO229.out (fun _ hk => ⟨⟨hk.1.1, hk.2⟩, hk.1.2⟩)) hg hat)
                                  have n2_ := Aside0.mk (Kd.R_after (ok := (fun k_ => some k_ ≠ (.slice Ao35 t227.length co35 : Value).ownBlock ∧ some k_ ≠ (.slice Ao44 t240.length co44 : Value).ownBlock)) (by (with_reducible repeat (first | apply Kd.R_alloc | apply Kd.R_drewN | apply Kd.R_drew)); exact Kd.R_mono HO236.out (fun _ hk => ⟨⟨hk.1.1, hk.2⟩, hk.1.2⟩)) hg hat)
                                  have n3_ := Aside0.mk (Kd.R_after (ok := (fun k_ => some k_ ≠ (.slice Ao35 t227.length co35 : Value).ownBlock ∧ some k_ ≠ (.slice Ao39 t234.length co39 : Value).ownBlock)) (by (with_reducible repeat (first | apply Kd.R_alloc | apply Kd.R_drewN | apply Kd.R_drew)); exact Kd.R_mono HO242.out (fun _ hk => ⟨⟨hk.1.1.2, hk.1.2⟩, hk.2⟩)) hg hat)
                                  have n4_ := Aside0.mk (hb)
                                  have n5_ := Aside0.mk (ho)
                                  clear BK222
                                  clear HO229
                                  clear HO236
                                  clear HO242
                                  clear HB
                                  clear HO239
                                  have BK222 := n0_
                                  have HO229 := n1_
                                  have HO236 := n2_
                                  have HO242 := n3_
                                  have HB := n4_
                                  have HO245 := n5_
                                  clear n0_ n1_ n2_ n3_ n4_ n5_
                                  clear ho hb hg hat
                                  refine hK.out _ _ ⟨(blk_cell BK222.out 0).trans rfl, (blk_cell BK222.out 1).trans rfl, (blk_cell BK222.out 2).trans rfl, (blk_cell BK222.out 3).trans rfl, (blk_cell BK222.out 4).trans rfl, (blk_cell BK222.out 5).trans rfl⟩ (fun hHeld => ?_)
                                  clear hK K
                                  refine norm_ (a' := ?_) ?_ ?_
                                  rotate_left
                                  · show Act.put _ (some 49) _ = _
                                    simp only [Act.put, List.setIfInBounds_toArray, List.set_cons_zero, List.set_cons_succ, i64_w, i32_w]
                                    rfl
                                  refine one_ (i := 9) (N := some 52) #[true, true, true, true, true, true, true, true, true, true, false] rfl rfl (one_of HT_.out (by kernel_rfl)) (by decide) (fun K hK => ?_)
                                  refine Kd.R_append_str_step (w0 := w) w.heap.size (by rfl) (.tmp 49) _ 27 9 5 rfl Try.underlying27 Try.underlying9 info5 v244 y243 a0_1 (fun k_ => some k_ ≠ (.slice Ao35 t227.length co35 : Value).ownBlock ∧ some k_ ≠ (.slice Ao39 t234.length co39 : Value).ownBlock ∧ some k_ ≠ (.slice Ao44 t240.length co44 : Value).ownBlock) rfl rfl ?aF ?aO ?aB ?aS ?aL ?_
                                  (case aB => exact (by repeat (first | (with_reducible first | exact HB.out | apply below_alloc | apply pw_below_drewN | apply below_drew1 | refine below_set ?_ GE222.out) | exact HB.out)))
                                  (case aF => exact (fun k_ hk => ⟨Kd.fresh' (Kd.R_lt (by (with_reducible repeat (first | apply Kd.R_alloc | apply Kd.R_drewN | apply Kd.R_drew)); exact HO229.out)) k_ hk, Kd.fresh' (Kd.R_lt (by (with_reducible repeat (first | apply Kd.R_alloc | apply Kd.R_drewN | apply Kd.R_drew)); exact HO236.out)) k_ hk, Kd.fresh' (Kd.R_lt (by (with_reducible repeat (first | apply Kd.R_alloc | apply Kd.R_drewN | apply Kd.R_drew)); exact HO242.out)) k_ hk⟩))
                                  (case aO => exact (by (with_reducible repeat (first | apply Kd.R_alloc | apply Kd.R_drewN | apply Kd.R_drew)); exact HO245.out))
                                  (case aS => exact (below_size (by repeat (first | (with_reducible first | exact HB.out | apply below_alloc | apply pw_below_drewN | apply below_drew1 | refine below_set ?_ GE222.out) | exact HB.out))))
                                  (case aL => have := LMc25.out; omega)
                                  intro v247 w45 ho hb hg hat
                                  rw [← Ny246.out] at ho
                                  have n0_ := Aside0.mk (blk_grown (g := gb222) (o := .cells #[.bool true, .string a0_1, .bool true, .string a0_3, .int .i64 a0_4, .int .i64 a0_5] 45 (0, 0)) (by (with_reducible repeat (first | refine blk_drewN ?_ _ | refine blk_drew ?_ | refine blk_alloc ?_ _)); exact BK222.out) hg (Kd.R_ne HO245.out BK222.out (by decide)))
                                  have n1_ := Aside0.mk (Kd.R_after (ok := (fun k_ => some k_ ≠ (.slice Ao39 t234.length co39 : Value).ownBlock ∧ some k_ ≠ (.slice Ao44 t240.length co44 : Value).ownBlock)) (by (with_reducible repeat (first | apply Kd.R_alloc | apply Kd.R_drewN | apply Kd.R_drew)); exact HO229.out) hg hat)
                                  have n2_ := Aside0.mk (Kd.R_after (ok := (fun k_ => some k_ ≠ (.slice Ao35 t227.length co35 : Value).ownBlock ∧ some k_ ≠ (.slice Ao44 t240.length co44 : Value).ownBlock)) (by (with_reducible repeat (first | apply Kd.R_alloc | apply Kd.R_drewN | apply Kd.R_drew)); exact HO236.out) hg hat)
                                  have n3_ := Aside0.mk (Kd.R_after (ok := (fun k_ => some k_ ≠ (.slice Ao35 t227.length co35 : Value).ownBlock ∧ some k_ ≠ (.slice Ao39 t234.length co39 : Value).ownBlock)) (by (with_reducible repeat (first | apply Kd.R_alloc | apply Kd.R_drewN | apply Kd.R_drew)); exact HO242.out) hg hat)
                                  have n4_ := Aside0.mk (hb)
                                  have n5_ := Aside0.mk (ho)
                                  clear BK222
                                  clear HO229
                                  clear HO236
                                  clear HO242
                                  clear HB
                                  clear HO245
                                  have BK222 := n0_
                                  have HO229 := n1_
                                  have HO236 := n2_
                                  have HO242 := n3_
                                  have HB := n4_
                                  have HO248 := n5_
                                  clear n0_ n1_ n2_ n3_ n4_ n5_
                                  clear ho hb hg hat
                                  refine hK.out _ _ ⟨(blk_cell BK222.out 0).trans rfl, (blk_cell BK222.out 1).trans rfl, (blk_cell BK222.out 2).trans rfl, (blk_cell BK222.out 3).trans rfl, (blk_cell BK222.out 4).trans rfl, (blk_cell BK222.out 5).trans rfl⟩ (fun hHeld => ?_)
                                  clear hK K
                                  refine norm_ (a' := ?_) ?_ ?_
                                  rotate_left
                                  · show Act.put _ (some 52) _ = _
                                    simp only [Act.put, List.setIfInBounds_toArray, List.set_cons_zero, List.set_cons_succ, i64_w, i32_w]
                                    rfl
                                  refine pure_ (i := 10) (N := some 8) (v := ?_) (a' := ?_) #[true, true, true, true, true, true, true, true, true, true, true] rfl rfl (any_of HT_.out (by kernel_rfl)) (fun _ _ _ h => h) (Or.inl ⟨by rfl, ?_⟩) ?_ ?_
                                  rotate_left
                                  · intro w'
                                    go_simp
                                    with_reducible rfl
                                  rotate_left
                                  · simp only [Act.put, List.setIfInBounds_toArray, List.set_cons_zero, List.set_cons_succ, i64_w, i32_w]
                                    rfl
                                  refine done_ (done_of HT_.out (by kernel_rfl)) ?_
                                  have hcz46_0 : w45.cell? ⟨gb222, 0, none⟩ = some (.bool true) := (blk_cell BK222.out 0).trans rfl
                                  have hcz46_1 : w45.cell? ⟨gb222, 1, none⟩ = some (.string a0_1) := (blk_cell BK222.out 1).trans rfl
                                  have hcz46_2 : w45.cell? ⟨gb222, 2, none⟩ = some (.bool true) := (blk_cell BK222.out 2).trans rfl
                                  have hcz46_3 : w45.cell? ⟨gb222, 3, none⟩ = some (.string a0_3) := (blk_cell BK222.out 3).trans rfl
                                  have hcz46_4 : w45.cell? ⟨gb222, 4, none⟩ = some (.int .i64 a0_4) := (blk_cell BK222.out 4).trans rfl
                                  have hcz46_5 : w45.cell? ⟨gb222, 5, none⟩ = some (.int .i64 a0_5) := (blk_cell BK222.out 5).trans rfl
                                  have hfz46_0 := blk_frozen BK222.out 0
                                  have hfz46_1 := blk_frozen BK222.out 1
                                  have hfz46_2 := blk_frozen BK222.out 2
                                  have hfz46_3 := blk_frozen BK222.out 3
                                  have hfz46_4 := blk_frozen BK222.out 4
                                  have hfz46_5 := blk_frozen BK222.out 5
                                  try go_wp2
                                  have n0_ := Aside0.mk (Kd.R_drew HO229.out)
                                  have n1_ := Aside0.mk (Kd.R_drew HO236.out)
                                  have n2_ := Aside0.mk (Kd.R_drew HO242.out)
                                  have n3_ := Aside0.mk (Kd.R_drew HO248.out)
                                  have n4_ := Aside0.mk (blk_drew BK222.out)
                                  have n5_ := Aside0.mk (below_drew1 HB.out)
                                  clear HO229
                                  clear HO236
                                  clear HO242
                                  clear HO248
                                  clear BK222
                                  clear HB
                                  have HO229 := n0_
                                  have HO236 := n1_
                                  have HO242 := n2_
                                  have HO248 := n3_
                                  have BK222 := n4_
                                  have HB := n5_
                                  clear n0_ n1_ n2_ n3_ n4_ n5_
                                  refine start_ (n := 11) (S := fun w' => w'.cell? ⟨gb222, 0, none⟩ = some (.bool true) ∧ w'.cell? ⟨gb222, 1, none⟩ = some (.string a0_1) ∧ w'.cell? ⟨gb222, 2, none⟩ = some (.bool true) ∧ w'.cell? ⟨gb222, 3, none⟩ = some (.string a0_3) ∧ w'.cell? ⟨gb222, 4, none⟩ = some (.int .i64 a0_4) ∧ w'.cell? ⟨gb222, 5, none⟩ = some (.int .i64 a0_5)) (ds := []) #[false, false, false, false, false, false, false, false, false, false, false] (by kernel_rfl) rfl rfl ⟨(blk_cell BK222.out 0).trans rfl, (blk_cell BK222.out 1).trans rfl, (blk_cell BK222.out 2).trans rfl, (blk_cell BK222.out 3).trans rfl, (blk_cell BK222.out 4).trans rfl, (blk_cell BK222.out 5).trans rfl⟩ (fun hHeld => ?_); refine with_tabW bollardref12_Encode.tab16 bollardref12_Encode.bits16 (fun HT_ HW_ => ?_)
                                  generalize w45.drew = w47 at HO229 HO236 HO242 HO248 BK222 HB hHeld ⊢
                                  refine pure_ (i := 0) (N := some 55) (v := ?_) (a' := ?_) #[true, false, false, false, false, false, false, false, false, false, false] rfl rfl (any_of HT_.out (by kernel_rfl)) (fun _ _ _ h => h) (Or.inl ⟨by rfl, ?_⟩) ?_ ?_
                                  rotate_left
                                  · intro w'
                                    go_simp
                                    with_reducible rfl
                                  rotate_left
                                  · simp only [Act.put, List.setIfInBounds_toArray, List.set_cons_zero, List.set_cons_succ, i64_w, i32_w]
                                    rfl
                                  refine pure_ (i := 1) (N := some 56) (v := ?_) (a' := ?_) #[true, true, false, false, false, false, false, false, false, false, false] rfl rfl (any_of HT_.out (by kernel_rfl)) (fun _ _ _ h => h) (Or.inl ⟨by rfl, ?_⟩) ?_ ?_
                                  rotate_left
                                  · intro w'
                                    go_simp
                                    with_reducible rfl
                                  rotate_left
                                  · simp only [Act.put, List.setIfInBounds_toArray, List.set_cons_zero, List.set_cons_succ, i64_w, i32_w]
                                    rfl
                                  refine pure_ (i := 7) (N := some 62) (v := ?_) (a' := ?_) #[true, true, false, false, false, false, false, true, false, false, false] rfl rfl (any_of HT_.out (by kernel_rfl)) (fun _ _ _ h => h) (Or.inl ⟨by rfl, ?_⟩) ?_ ?_
                                  rotate_left
                                  · intro w'
                                    go_simp
                                    with_reducible rfl
                                  rotate_left
                                  · simp only [Act.put, List.setIfInBounds_toArray, List.set_cons_zero, List.set_cons_succ, i64_w, i32_w]
                                    rfl
                                  refine take_ (i := 2) (N := some 57) (v := ?_) (a' := ?_) #[true, true, true, false, false, false, false, true, false, false, false] rfl rfl (take_ofW HT_.out HW_.out (by kernel_rfl)) (fun _ _ _ h => h) (Or.inl ⟨by rfl, ?_⟩) hHeld ?_ ?_
                                  rotate_left
                                  · rintro w' ⟨s0, s1, s2, s3, s4, s5⟩
                                    go_simp
                                    with_reducible rfl
                                  rotate_left
                                  · simp only [Act.put, List.setIfInBounds_toArray, List.set_cons_zero, List.set_cons_succ, i64_w, i32_w]
                                    rfl
                                  refine pure_ (i := 3) (N := some 58) (v := ?_) (a' := ?_) #[true, true, true, true, false, false, false, true, false, false, false] rfl rfl (any_of HT_.out (by kernel_rfl)) (fun _ _ _ h => h) (Or.inl ⟨by rfl, ?_⟩) ?_ ?_
                                  rotate_left
                                  · intro w'
                                    go_simp
                                    with_reducible rfl
                                  rotate_left
                                  · simp only [Act.put, List.setIfInBounds_toArray, List.set_cons_zero, List.set_cons_succ, i64_w, i32_w]
                                    rfl
                                  refine pure_ (i := 4) (N := some 59) (v := ?_) (a' := ?_) #[true, true, true, true, true, false, false, true, false, false, false] rfl rfl (any_of HT_.out (by kernel_rfl)) (fun _ _ _ h => h) (Or.inl ⟨by rfl, ?_⟩) ?_ ?_
                                  rotate_left
                                  · intro w'
                                    go_simp
                                    with_reducible rfl
                                  rotate_left
                                  · simp only [Act.put, List.setIfInBounds_toArray, List.set_cons_zero, List.set_cons_succ, i64_w, i32_w]
                                    rfl
                                  refine take_ (i := 8) (N := some 63) (v := ?_) (a' := ?_) #[true, true, true, true, true, false, false, true, true, false, false] rfl rfl (take_ofW HT_.out HW_.out (by kernel_rfl)) (fun _ _ _ h => h) (Or.inl ⟨by rfl, ?_⟩) hHeld ?_ ?_
                                  rotate_left
                                  · rintro w' ⟨s0, s1, s2, s3, s4, s5⟩
                                    go_simp
                                    with_reducible rfl
                                  rotate_left
                                  · simp only [Act.put, List.setIfInBounds_toArray, List.set_cons_zero, List.set_cons_succ, i64_w, i32_w]
                                    rfl
                                  refine one_ (i := 5) (N := some 60) #[true, true, true, true, true, true, false, true, true, false, false] rfl rfl (one_of HT_.out (by kernel_rfl)) (by decide) (fun K hK => ?_)
                                  refine goes_ Try.func64 (by kernel_rfl) rfl #[.int .u64 (IntKind.u64.wrap ((a0_3.size : Int)))] (by rfl) rfl rfl (by (try simp only [List.map_toArray, List.map_cons, List.map_nil]); first | done | rfl | (simp only [List.length_drop, List.length_take]; rfl)) ?_
                                  with_reducible refine (bollardref1_Varint.calls kj13 (IntKind.u64.wrap ((a0_3.size : Int))) t249 _ A27.out).mono ?_
                                  rintro e w48 ⟨v250, rfl, ho0, hb⟩
                                  refine ⟨_, rfl, ?_⟩
                                  have n0_ := Aside0.mk (Kd.R_elder' (by (with_reducible repeat (first | apply Kd.R_alloc | apply Kd.R_drewN | apply Kd.R_drew)); exact HO229.out) (Kd.R_base ho0) hb)
                                  have n1_ := Aside0.mk (Kd.R_elder' (by (with_reducible repeat (first | apply Kd.R_alloc | apply Kd.R_drewN | apply Kd.R_drew)); exact HO236.out) (Kd.R_base ho0) hb)
                                  have n2_ := Aside0.mk (Kd.R_elder' (by (with_reducible repeat (first | apply Kd.R_alloc | apply Kd.R_drewN | apply Kd.R_drew)); exact HO242.out) (Kd.R_base ho0) hb)
                                  have n3_ := Aside0.mk (Kd.R_elder' (by (with_reducible repeat (first | apply Kd.R_alloc | apply Kd.R_drewN | apply Kd.R_drew)); exact HO248.out) (Kd.R_base ho0) hb)
                                  have n4_ := Aside0.mk (Kd.R_lower (Kd.R_new' (Kd.R_new' (Kd.R_new' (Kd.R_new' ho0 (Kd.R_lt (by (with_reducible repeat (first | apply Kd.R_alloc | apply Kd.R_drewN | apply Kd.R_drew)); exact HO229.out))) (Kd.R_lt (by (with_reducible repeat (first | apply Kd.R_alloc | apply Kd.R_drewN | apply Kd.R_drew)); exact HO236.out))) (Kd.R_lt (by (with_reducible repeat (first | apply Kd.R_alloc | apply Kd.R_drewN | apply Kd.R_drew)); exact HO242.out))) (Kd.R_lt (by (with_reducible repeat (first | apply Kd.R_alloc | apply Kd.R_drewN | apply Kd.R_drew)); exact HO248.out))) (below_size (by repeat (first | (with_reducible first | exact HB.out | apply below_alloc | apply pw_below_drewN | apply below_drew1 | refine below_set ?_ GE222.out) | exact HB.out))))
                                  have n5_ := Aside0.mk (blk_below (g := gb222) (o := .cells #[.bool true, .string a0_1, .bool true, .string a0_3, .int .i64 a0_4, .int .i64 a0_5] 45 (0, 0)) (by (with_reducible repeat (first | refine blk_drewN ?_ _ | refine blk_drew ?_ | refine blk_alloc ?_ _)); exact BK222.out) hb)
                                  have n6_ := Aside0.mk (below_step (by repeat (first | (with_reducible first | exact HB.out | apply below_alloc | apply pw_below_drewN | apply below_drew1 | refine below_set ?_ GE222.out) | exact HB.out)) hb)
                                  clear HO229
                                  clear HO236
                                  clear HO242
                                  clear HO248
                                  clear BK222
                                  clear HB
                                  have HO229 := n0_
                                  have HO236 := n1_
                                  have HO242 := n2_
                                  have HO248 := n3_
                                  have HO251 := n4_
                                  have BK222 := n5_
                                  have HB := n6_
                                  clear n0_ n1_ n2_ n3_ n4_ n5_ n6_
                                  (try clear hb)
                                  (try clear hb2)
                                  (try clear hk)
                                  (try clear hi)
                                  (try clear ho0)
                                  obtain ⟨Ao50, co50, eo50⟩ := Kd.R_slice HO251.out
                                  (first | subst eo50 | (injection eo50 with f1_ f2_ f3_; have f4_ := f1_.symm; have f5_ := f3_.symm; clear f1_ f2_ f3_; subst f4_; subst f5_))
                                  refine hK.out _ _ ⟨(blk_cell BK222.out 0).trans rfl, (blk_cell BK222.out 1).trans rfl, (blk_cell BK222.out 2).trans rfl, (blk_cell BK222.out 3).trans rfl, (blk_cell BK222.out 4).trans rfl, (blk_cell BK222.out 5).trans rfl⟩ (fun hHeld => ?_)
                                  clear hK K
                                  refine norm_ (a' := ?_) ?_ ?_
                                  rotate_left
                                  · show Act.put _ (some 60) _ = _
                                    simp only [Act.put, List.setIfInBounds_toArray, List.set_cons_zero, List.set_cons_succ, i64_w, i32_w]
                                    rfl
                                  refine one_ (i := 6) (N := some 61) #[true, true, true, true, true, true, true, true, true, false, false] rfl rfl (one_of HT_.out (by kernel_rfl)) (by decide) (fun K hK => ?_)
                                  refine Kd.R_append_rows_step (Kd.int .u8) (w0 := w) w.heap.size (by rfl) (.tmp 55) (.tmp 60) 27 5 (.int .u8 0) 1 rfl Try.underlying27 info5 rfl (by decide) (by omega) v247 y246 t249 _ _ _ (fun k_ => some k_ ≠ (.slice Ao35 t227.length co35 : Value).ownBlock ∧ some k_ ≠ (.slice Ao39 t234.length co39 : Value).ownBlock ∧ some k_ ≠ (.slice Ao44 t240.length co44 : Value).ownBlock ∧ some k_ ≠ (.slice Ao50 t249.length co50 : Value).ownBlock) (fun _ => False) rfl rfl ?aO ?aR (fun _ _ h => h) (fun _ h => h.elim) ?aF ?aB ?aS ?aL ?_
                                  (case aR => repeat (first | exact (Kd.R_reads' HO251.out).2.2 | (with_reducible refine Kd.C_alloc ?_ _) | (with_reducible refine Kd.C_drewN ?_ _) | (with_reducible refine Kd.C_drew ?_)))
                                  (case aB => exact (by repeat (first | (with_reducible first | exact HB.out | apply below_alloc | apply pw_below_drewN | apply below_drew1 | refine below_set ?_ GE222.out) | exact HB.out)))
                                  (case aF => exact (fun k_ hk => ⟨Kd.fresh' (Kd.R_lt (by (with_reducible repeat (first | apply Kd.R_alloc | apply Kd.R_drewN | apply Kd.R_drew)); exact HO229.out)) k_ hk, Kd.fresh' (Kd.R_lt (by (with_reducible repeat (first | apply Kd.R_alloc | apply Kd.R_drewN | apply Kd.R_drew)); exact HO236.out)) k_ hk, Kd.fresh' (Kd.R_lt (by (with_reducible repeat (first | apply Kd.R_alloc | apply Kd.R_drewN | apply Kd.R_drew)); exact HO242.out)) k_ hk, Kd.fresh' (Kd.R_lt (by (with_reducible repeat (first | apply Kd.R_alloc | apply Kd.R_drewN | apply Kd.R_drew)); exact HO251.out)) k_ hk⟩))
                                  (case aO => exact (by (with_reducible repeat (first | apply Kd.R_alloc | apply Kd.R_drewN | apply Kd.R_drew)); exact Kd.R_mono HO248.out (fun _ hk => ⟨hk.1.1, ⟨hk.1.2.1, ⟨hk.1.2.2, hk.2⟩⟩⟩)))
                                  (case aS => exact (below_size (by repeat (first | (with_reducible first | exact HB.out | apply below_alloc | apply pw_below_drewN | apply below_drew1 | refine below_set ?_ GE222.out) | exact HB.out))))
                                  (case aL => have := LMc28.out; omega)
                                  intro v253 w49 ho hb hg hat
                                  rw [← Ny252.out] at ho
                                  have n0_ := Aside0.mk (blk_grown (g := gb222) (o := .cells #[.bool true, .string a0_1, .bool true, .string a0_3, .int .i64 a0_4, .int .i64 a0_5] 45 (0, 0)) (by (with_reducible repeat (first | refine blk_drewN ?_ _ | refine blk_drew ?_ | refine blk_alloc ?_ _)); exact BK222.out) hg (Kd.R_ne HO248.out BK222.out (by decide)))
                                  have n1_ := Aside0.mk (Kd.R_after (ok := (fun k_ => some k_ ≠ (.slice Ao39 t234.length co39 : Value).ownBlock ∧ some k_ ≠ (.slice Ao44 t240.length co44 : Value).ownBlock ∧ some k_ ≠ (.slice Ao50 t249.length co50 : Value).ownBlock)) (by (with_reducible repeat (first | apply Kd.R_alloc | apply Kd.R_drewN | apply Kd.R_drew)); exact Kd.R_mono HO229.out (fun _ hk => ⟨⟨hk.1.1.1, ⟨hk.1.1.2, hk.2⟩⟩, hk.1.2⟩)) hg hat)
                                  have n2_ := Aside0.mk (Kd.R_after (ok := (fun k_ => some k_ ≠ (.slice Ao35 t227.length co35 : Value).ownBlock ∧ some k_ ≠ (.slice Ao44 t240.length co44 : Value).ownBlock ∧ some k_ ≠ (.slice Ao50 t249.length co50 : Value).ownBlock)) (by (with_reducible repeat (first | apply Kd.R_alloc | apply Kd.R_drewN | apply Kd.R_drew)); exact Kd.R_mono HO236.out (fun _ hk => ⟨⟨hk.1.1.1, ⟨hk.1.1.2, hk.2⟩⟩, hk.1.2⟩)) hg hat)
                                  have n3_ := Aside0.mk (Kd.R_after (ok := (fun k_ => some k_ ≠ (.slice Ao35 t227.length co35 : Value).ownBlock ∧ some k_ ≠ (.slice Ao39 t234.length co39 : Value).ownBlock ∧ some k_ ≠ (.slice Ao50 t249.length co50 : Value).ownBlock)) (by (with_reducible repeat (first | apply Kd.R_alloc | apply Kd.R_drewN | apply Kd.R_drew)); exact Kd.R_mono HO242.out (fun _ hk => ⟨⟨hk.1.1.1, ⟨hk.1.1.2, hk.2⟩⟩, hk.1.2⟩)) hg hat)
                                  have n4_ := Aside0.mk (Kd.R_after (ok := (fun k_ => some k_ ≠ (.slice Ao35 t227.length co35 : Value).ownBlock ∧ some k_ ≠ (.slice Ao39 t234.length co39 : Value).ownBlock ∧ some k_ ≠ (.slice Ao44 t240.length co44 : Value).ownBlock)) (by (with_reducible repeat (first | apply Kd.R_alloc | apply Kd.R_drewN | apply Kd.R_drew)); exact Kd.R_mono HO251.out (fun _ hk => ⟨⟨hk.1.1.1.2, ⟨hk.1.1.2, hk.1.2⟩⟩, hk.2⟩)) hg hat)
                                  have n5_ := Aside0.mk (hb)
                                  have n6_ := Aside0.mk (ho)
                                  clear BK222
                                  clear HO229
                                  clear HO236
                                  clear HO242
                                  clear HO251
                                  clear HB
                                  clear HO248
                                  have BK222 := n0_
                                  have HO229 := n1_
                                  have HO236 := n2_
                                  have HO242 := n3_
                                  have HO251 := n4_
                                  have HB := n5_
                                  have HO254 := n6_
                                  clear n0_ n1_ n2_ n3_ n4_ n5_ n6_
                                  clear ho hb hg hat
                                  refine hK.out _ _ ⟨(blk_cell BK222.out 0).trans rfl, (blk_cell BK222.out 1).trans rfl, (blk_cell BK222.out 2).trans rfl, (blk_cell BK222.out 3).trans rfl, (blk_cell BK222.out 4).trans rfl, (blk_cell BK222.out 5).trans rfl⟩ (fun hHeld => ?_)
                                  clear hK K
                                  refine norm_ (a' := ?_) ?_ ?_
                                  rotate_left
                                  · show Act.put _ (some 61) _ = _
                                    simp only [Act.put, List.setIfInBounds_toArray, List.set_cons_zero, List.set_cons_succ, i64_w, i32_w]
                                    rfl
                                  refine one_ (i := 9) (N := some 64) #[true, true, true, true, true, true, true, true, true, true, false] rfl rfl (one_of HT_.out (by kernel_rfl)) (by decide) (fun K hK => ?_)
                                  refine Kd.R_append_str_step (w0 := w) w.heap.size (by rfl) (.tmp 61) _ 27 9 5 rfl Try.underlying27 Try.underlying9 info5 v253 y252 a0_3 (fun k_ => some k_ ≠ (.slice Ao35 t227.length co35 : Value).ownBlock ∧ some k_ ≠ (.slice Ao39 t234.length co39 : Value).ownBlock ∧ some k_ ≠ (.slice Ao44 t240.length co44 : Value).ownBlock ∧ some k_ ≠ (.slice Ao50 t249.length co50 : Value).ownBlock) rfl rfl ?aF ?aO ?aB ?aS ?aL ?_
                                  (case aB => exact (by repeat (first | (with_reducible first | exact HB.out | apply below_alloc | apply pw_below_drewN | apply below_drew1 | refine below_set ?_ GE222.out) | exact HB.out)))
                                  (case aF => exact (fun k_ hk => ⟨Kd.fresh' (Kd.R_lt (by (with_reducible repeat (first | apply Kd.R_alloc | apply Kd.R_drewN | apply Kd.R_drew)); exact HO229.out)) k_ hk, Kd.fresh' (Kd.R_lt (by (with_reducible repeat (first | apply Kd.R_alloc | apply Kd.R_drewN | apply Kd.R_drew)); exact HO236.out)) k_ hk, Kd.fresh' (Kd.R_lt (by (with_reducible repeat (first | apply Kd.R_alloc | apply Kd.R_drewN | apply Kd.R_drew)); exact HO242.out)) k_ hk, Kd.fresh' (Kd.R_lt (by (with_reducible repeat (first | apply Kd.R_alloc | apply Kd.R_drewN | apply Kd.R_drew)); exact HO251.out)) k_ hk⟩))
                                  (case aO => exact (by (with_reducible repeat (first | apply Kd.R_alloc | apply Kd.R_drewN | apply Kd.R_drew)); exact HO254.out))
                                  (case aS => exact (below_size (by repeat (first | (with_reducible first | exact HB.out | apply below_alloc | apply pw_below_drewN | apply below_drew1 | refine below_set ?_ GE222.out) | exact HB.out))))
                                  (case aL => have := LMc29.out; omega)
                                  intro v256 w51 ho hb hg hat
                                  rw [← Ny255.out] at ho
                                  have n0_ := Aside0.mk (blk_grown (g := gb222) (o := .cells #[.bool true, .string a0_1, .bool true, .string a0_3, .int .i64 a0_4, .int .i64 a0_5] 45 (0, 0)) (by (with_reducible repeat (first | refine blk_drewN ?_ _ | refine blk_drew ?_ | refine blk_alloc ?_ _)); exact BK222.out) hg (Kd.R_ne HO254.out BK222.out (by decide)))
                                  have n1_ := Aside0.mk (Kd.R_after (ok := (fun k_ => some k_ ≠ (.slice Ao39 t234.length co39 : Value).ownBlock ∧ some k_ ≠ (.slice Ao44 t240.length co44 : Value).ownBlock ∧ some k_ ≠ (.slice Ao50 t249.length co50 : Value).ownBlock)) (by (with_reducible repeat (first | apply Kd.R_alloc | apply Kd.R_drewN | apply Kd.R_drew)); exact HO229.out) hg hat)
                                  have n2_ := Aside0.mk (Kd.R_after (ok := (fun k_ => some k_ ≠ (.slice Ao35 t227.length co35 : Value).ownBlock ∧ some k_ ≠ (.slice Ao44 t240.length co44 : Value).ownBlock ∧ some k_ ≠ (.slice Ao50 t249.length co50 : Value).ownBlock)) (by (with_reducible repeat (first | apply Kd.R_alloc | apply Kd.R_drewN | apply Kd.R_drew)); exact HO236.out) hg hat)
                                  have n3_ := Aside0.mk (Kd.R_after (ok := (fun k_ => some k_ ≠ (.slice Ao35 t227.length co35 : Value).ownBlock ∧ some k_ ≠ (.slice Ao39 t234.length co39 : Value).ownBlock ∧ some k_ ≠ (.slice Ao50 t249.length co50 : Value).ownBlock)) (by (with_reducible repeat (first | apply Kd.R_alloc | apply Kd.R_drewN | apply Kd.R_drew)); exact HO242.out) hg hat)
                                  have n4_ := Aside0.mk (Kd.R_after (ok := (fun k_ => some k_ ≠ (.slice Ao35 t227.length co35 : Value).ownBlock ∧ some k_ ≠ (.slice Ao39 t234.length co39 : Value).ownBlock ∧ some k_ ≠ (.slice Ao44 t240.length co44 : Value).ownBlock)) (by (with_reducible repeat (first | apply Kd.R_alloc | apply Kd.R_drewN | apply Kd.R_drew)); exact HO251.out) hg hat)
                                  have n5_ := Aside0.mk (hb)
                                  have n6_ := Aside0.mk (ho)
                                  clear BK222
                                  clear HO229
                                  clear HO236
                                  clear HO242
                                  clear HO251
                                  clear HB
                                  clear HO254
                                  have BK222 := n0_
                                  have HO229 := n1_
                                  have HO236 := n2_
                                  have HO242 := n3_
                                  have HO251 := n4_
                                  have HB := n5_
                                  have HO257 := n6_
                                  clear n0_ n1_ n2_ n3_ n4_ n5_ n6_
                                  clear ho hb hg hat
                                  refine hK.out _ _ ⟨(blk_cell BK222.out 0).trans rfl, (blk_cell BK222.out 1).trans rfl, (blk_cell BK222.out 2).trans rfl, (blk_cell BK222.out 3).trans rfl, (blk_cell BK222.out 4).trans rfl, (blk_cell BK222.out 5).trans rfl⟩ (fun hHeld => ?_)
                                  clear hK K
                                  refine norm_ (a' := ?_) ?_ ?_
                                  rotate_left
                                  · show Act.put _ (some 64) _ = _
                                    simp only [Act.put, List.setIfInBounds_toArray, List.set_cons_zero, List.set_cons_succ, i64_w, i32_w]
                                    rfl
                                  refine pure_ (i := 10) (N := some 8) (v := ?_) (a' := ?_) #[true, true, true, true, true, true, true, true, true, true, true] rfl rfl (any_of HT_.out (by kernel_rfl)) (fun _ _ _ h => h) (Or.inl ⟨by rfl, ?_⟩) ?_ ?_
                                  rotate_left
                                  · intro w'
                                    go_simp
                                    with_reducible rfl
                                  rotate_left
                                  · simp only [Act.put, List.setIfInBounds_toArray, List.set_cons_zero, List.set_cons_succ, i64_w, i32_w]
                                    rfl
                                  refine done_ (done_of HT_.out (by kernel_rfl)) ?_
                                  try go_wp2
                                  go_ret2
                                  exact ⟨_, by first | rfl | (simp [errW_none, errW_some] <;> rfl) | (simp [*, errW_none, errW_some] <;> rfl), by (with_reducible repeat (first | apply Kd.R_alloc | apply Kd.R_drewN | apply Kd.R_drew)); exact Kd.R_mono HO257.out (fun _ hk => trivial), by repeat (first | (with_reducible first | exact HB.out | apply below_alloc | apply pw_below_drewN | apply below_drew1 | refine below_set ?_ GE222.out) | exact HB.out)⟩
                                · rw [if_neg c29] at H
                                  exact absurd H (by simp)
                              · rw [if_neg c28] at H
                                exact absurd H (by simp)
                            · replace c26 := Bool.eq_false_iff.mpr c26
                              subst c26
                              have H1 : (some (y246, 0)) = some (r1, r2) := by rw [if_neg (show ¬ (false = true) by decide)] at H; exact H
                              clear H
                              have H := H1
                              clear H1
                              simp only [Option.some.injEq, Prod.mk.injEq] at H
                              obtain ⟨rfl, rfl⟩ := H
                              try go_wp2_with (first | ((with_reducible refine gate_dst (N := 27) rfl ?_); refine Kd.R_lit (Kd.int .u8) _ 5 ?hg (N := 27) ?hd (xs := ([x7_13] : List Int)) (inner := [.int .u8 x7_13]) (ok := fun _ => True) (okp := fun _ => True) ?hr ?hp (fun _ hk => hk) trivial (Below.refl _ _) (Nat.le_refl _) (by simp) ?_; (case hd => rfl); (case hg => rfl); (case hr => first | (go_simp; done) | (go_simp; rfl)); (case hp => exact (Reps.one (show Kd.M (Kd.int .u8) _ _ _ x7_13 [.int .u8 x7_13] from rfl) (Reps.none _ _))); intro v225 w52 ho53 hb hg_ hnew_; clear hg_ hnew_; (first | rw [← Ny224.out] at ho53 | (simp only [Int.reduceToNat] at ho53; rw [← Ny224.out] at ho53)); have n0_ := Aside0.mk (Kd.R_lower ho53 (below_size (by repeat (first | (with_reducible first | exact HB.out | apply below_alloc | apply pw_below_drewN | apply below_drew1 | refine below_set ?_ GE222.out) | exact HB.out)))); have n1_ := Aside0.mk (blk_below (g := gb222) (o := .cells #[.bool true, .string a0_1, .bool false, .string a0_3, .int .i64 a0_4, .int .i64 a0_5] 45 (0, 0)) (by (with_reducible repeat (first | refine blk_drewN ?_ _ | refine blk_drew ?_ | refine blk_alloc ?_ _)); exact BK222.out) hb); have n2_ := Aside0.mk (below_step (by repeat (first | (with_reducible first | exact HB.out | apply below_alloc | apply pw_below_drewN | apply below_drew1 | refine below_set ?_ GE222.out) | exact HB.out)) hb); clear BK222; clear HB; have HO226 := n0_; have BK222 := n1_; have HB := n2_; clear n0_ n1_ n2_; clear hb ho53; have hcz54_0 : w52.cell? ⟨gb222, 0, none⟩ = some (.bool true) := (blk_cell BK222.out 0).trans rfl; have hcz54_1 : w52.cell? ⟨gb222, 1, none⟩ = some (.string a0_1) := (blk_cell BK222.out 1).trans rfl; have hcz54_2 : w52.cell? ⟨gb222, 2, none⟩ = some (.bool false) := (blk_cell BK222.out 2).trans rfl; have hcz54_3 : w52.cell? ⟨gb222, 3, none⟩ = some (.string a0_3) := (blk_cell BK222.out 3).trans rfl; have hcz54_4 : w52.cell? ⟨gb222, 4, none⟩ = some (.int .i64 a0_4) := (blk_cell BK222.out 4).trans rfl; have hcz54_5 : w52.cell? ⟨gb222, 5, none⟩ = some (.int .i64 a0_5) := (blk_cell BK222.out 5).trans rfl; have hfz54_0 := blk_frozen BK222.out 0; have hfz54_1 := blk_frozen BK222.out 1; have hfz54_2 := blk_frozen BK222.out 2; have hfz54_3 := blk_frozen BK222.out 3; have hfz54_4 := blk_frozen BK222.out 4; have hfz54_5 := blk_frozen BK222.out 5) | ((with_reducible refine gate_callee (f := 64) rfl ?_); refine goesL_ (some 31) rfl rfl Try.func64 (by kernel_rfl) rfl #[.int .u64 (IntKind.u64.wrap (a0_5))] rfl (by (try simp only [List.map_toArray, List.map_cons, List.map_nil]); first | done | rfl | (simp only [List.length_drop, List.length_take]; rfl)) ?_; (with_reducible refine (bollardref1_Varint.calls kj13 (IntKind.u64.wrap (a0_5)) t227 _ A17.out).mono ?_); rintro e w55 ⟨v228, rfl, ho0, hb⟩; refine ⟨_, rfl, ?_⟩; have n0_ := Aside0.mk (Kd.R_elder' (by (with_reducible repeat (first | apply Kd.R_alloc | apply Kd.R_drewN | apply Kd.R_drew)); exact HO226.out) (Kd.R_base ho0) hb); have n1_ := Aside0.mk (Kd.R_lower (Kd.R_new' ho0 (Kd.R_lt (by (with_reducible repeat (first | apply Kd.R_alloc | apply Kd.R_drewN | apply Kd.R_drew)); exact HO226.out))) (below_size (by repeat (first | (with_reducible first | exact HB.out | apply below_alloc | apply pw_below_drewN | apply below_drew1 | refine below_set ?_ GE222.out) | exact HB.out)))); have n2_ := Aside0.mk (blk_below (g := gb222) (o := .cells #[.bool true, .string a0_1, .bool false, .string a0_3, .int .i64 a0_4, .int .i64 a0_5] 45 (0, 0)) (by (with_reducible repeat (first | refine blk_drewN ?_ _ | refine blk_drew ?_ | refine blk_alloc ?_ _)); exact BK222.out) hb); have n3_ := Aside0.mk (below_step (by repeat (first | (with_reducible first | exact HB.out | apply below_alloc | apply pw_below_drewN | apply below_drew1 | refine below_set ?_ GE222.out) | exact HB.out)) hb); clear HO226; clear BK222; clear HB; have HO226 := n0_; have HO229 := n1_; have BK222 := n2_; have HB := n3_; clear n0_ n1_ n2_ n3_; (try clear hb); (try clear hb2); (try clear hk); (try clear hi); (try clear ho0); obtain ⟨Ao57, co57, eo57⟩ := Kd.R_slice HO229.out; subst eo57) | ((with_reducible refine gate_builtin (b := .append) (xs := #[.tmp 27, .tmp 31]) rfl ?_); at_builtin; refine Kd.R_append_rows (Kd.int .u8) (w0 := w) w.heap.size rfl (.tmp 27) (.tmp 31) 27 5 (.int .u8 0) 1 rfl Try.underlying27 info5 rfl (by decide) (by omega) v225 y224 t227 _ _ _ (fun k_ => some k_ ≠ (.slice Ao57 t227.length co57 : Value).ownBlock) (fun _ => False) rfl rfl ?aO ?aR (fun _ _ h => h) (fun _ h => h.elim) ?aF ?aB ?aS ?aL ?_; (case aR => repeat (first | exact (Kd.R_reads' HO229.out).2.2 | (with_reducible refine Kd.C_alloc ?_ _) | (with_reducible refine Kd.C_drewN ?_ _) | (with_reducible refine Kd.C_drew ?_))); (case aB => exact (by repeat (first | (with_reducible first | exact HB.out | apply below_alloc | apply pw_below_drewN | apply below_drew1 | refine below_set ?_ GE222.out) | exact HB.out))); (case aF => exact (fun k_ hk => Kd.fresh' (Kd.R_lt (by (with_reducible repeat (first | apply Kd.R_alloc | apply Kd.R_drewN | apply Kd.R_drew)); exact HO229.out)) k_ hk)); (case aO => exact (by (with_reducible repeat (first | apply Kd.R_alloc | apply Kd.R_drewN | apply Kd.R_drew)); exact Kd.R_mono HO226.out (fun _ hk => hk.2))); (case aS => exact (below_size (by repeat (first | (with_reducible first | exact HB.out | apply below_alloc | apply pw_below_drewN | apply below_drew1 | refine below_set ?_ GE222.out) | exact HB.out)))); (case aL => have := LMc18.out; omega); intro v231 w56 ho hb hg hat; rw [← Ny230.out] at ho; have n0_ := Aside0.mk (blk_grown (g := gb222) (o := .cells #[.bool true, .string a0_1, .bool false, .string a0_3, .int .i64 a0_4, .int .i64 a0_5] 45 (0, 0)) (by (with_reducible repeat (first | refine blk_drewN ?_ _ | refine blk_drew ?_ | refine blk_alloc ?_ _)); exact BK222.out) hg (Kd.R_ne HO226.out BK222.out (by decide))); have n1_ := Aside0.mk (Kd.R_after (ok := (fun _ => True)) (by (with_reducible repeat (first | apply Kd.R_alloc | apply Kd.R_drewN | apply Kd.R_drew)); exact HO229.out) hg hat); have n2_ := Aside0.mk (hb); have n3_ := Aside0.mk (ho); clear BK222; clear HO229; clear HB; clear HO226; have BK222 := n0_; have HO229 := n1_; have HB := n2_; have HO232 := n3_; clear n0_ n1_ n2_ n3_; clear ho hb hg hat; have hcz58_0 : w56.cell? ⟨gb222, 0, none⟩ = some (.bool true) := (blk_cell BK222.out 0).trans rfl; have hcz58_1 : w56.cell? ⟨gb222, 1, none⟩ = some (.string a0_1) := (blk_cell BK222.out 1).trans rfl; have hcz58_2 : w56.cell? ⟨gb222, 2, none⟩ = some (.bool false) := (blk_cell BK222.out 2).trans rfl; have hcz58_3 : w56.cell? ⟨gb222, 3, none⟩ = some (.string a0_3) := (blk_cell BK222.out 3).trans rfl; have hcz58_4 : w56.cell? ⟨gb222, 4, none⟩ = some (.int .i64 a0_4) := (blk_cell BK222.out 4).trans rfl; have hcz58_5 : w56.cell? ⟨gb222, 5, none⟩ = some (.int .i64 a0_5) := (blk_cell BK222.out 5).trans rfl; have hfz58_0 := blk_frozen BK222.out 0; have hfz58_1 := blk_frozen BK222.out 1; have hfz58_2 := blk_frozen BK222.out 2; have hfz58_3 := blk_frozen BK222.out 3; have hfz58_4 := blk_frozen BK222.out 4; have hfz58_5 := blk_frozen BK222.out 5) | ((with_reducible refine gate_callee (f := 65) rfl ?_); refine goesL_ (some 38) rfl rfl Try.func65 (by kernel_rfl) rfl #[.int .i64 (wrap64 (a0_4 - a1))] rfl (by (try simp only [List.map_toArray, List.map_cons, List.map_nil]); first | done | rfl | (simp only [List.length_drop, List.length_take]; rfl)) ?_; (with_reducible refine (bollardref1_Zig.calls (wrap64 (a0_4 - a1)) t233 _ A19.out).mono ?_); rintro e w' ⟨rfl, ⟨nd, rfl⟩⟩; refine ⟨_, rfl, ?_⟩) | ((with_reducible refine gate_callee (f := 64) rfl ?_); refine goesL_ (some 39) rfl rfl Try.func64 (by kernel_rfl) rfl #[.int .u64 t233] rfl (by (try simp only [List.map_toArray, List.map_cons, List.map_nil]); first | done | rfl | (simp only [List.length_drop, List.length_take]; rfl)) ?_; (with_reducible refine (bollardref1_Varint.calls kj13 t233 t234 _ A20.out).mono ?_); rintro e w59 ⟨v235, rfl, ho0, hb⟩; refine ⟨_, rfl, ?_⟩; have n0_ := Aside0.mk (Kd.R_elder' (by (with_reducible repeat (first | apply Kd.R_alloc | apply Kd.R_drewN | apply Kd.R_drew)); exact HO229.out) (Kd.R_base ho0) hb); have n1_ := Aside0.mk (Kd.R_elder' (by (with_reducible repeat (first | apply Kd.R_alloc | apply Kd.R_drewN | apply Kd.R_drew)); exact HO232.out) (Kd.R_base ho0) hb); have n2_ := Aside0.mk (Kd.R_lower (Kd.R_new' (Kd.R_new' ho0 (Kd.R_lt (by (with_reducible repeat (first | apply Kd.R_alloc | apply Kd.R_drewN | apply Kd.R_drew)); exact HO229.out))) (Kd.R_lt (by (with_reducible repeat (first | apply Kd.R_alloc | apply Kd.R_drewN | apply Kd.R_drew)); exact HO232.out))) (below_size (by repeat (first | (with_reducible first | exact HB.out | apply below_alloc | apply pw_below_drewN | apply below_drew1 | refine below_set ?_ GE222.out) | exact HB.out)))); have n3_ := Aside0.mk (blk_below (g := gb222) (o := .cells #[.bool true, .string a0_1, .bool false, .string a0_3, .int .i64 a0_4, .int .i64 a0_5] 45 (0, 0)) (by (with_reducible repeat (first | refine blk_drewN ?_ _ | refine blk_drew ?_ | refine blk_alloc ?_ _)); exact BK222.out) hb); have n4_ := Aside0.mk (below_step (by repeat (first | (with_reducible first | exact HB.out | apply below_alloc | apply pw_below_drewN | apply below_drew1 | refine below_set ?_ GE222.out) | exact HB.out)) hb); clear HO229; clear HO232; clear BK222; clear HB; have HO229 := n0_; have HO232 := n1_; have HO236 := n2_; have BK222 := n3_; have HB := n4_; clear n0_ n1_ n2_ n3_ n4_; (try clear hb); (try clear hb2); (try clear hk); (try clear hi); (try clear ho0); obtain ⟨Ao61, co61, eo61⟩ := Kd.R_slice HO236.out; subst eo61) | ((with_reducible refine gate_builtin (b := .append) (xs := #[.tmp 33, .tmp 39]) rfl ?_); at_builtin; refine Kd.R_append_rows (Kd.int .u8) (w0 := w) w.heap.size rfl (.tmp 33) (.tmp 39) 27 5 (.int .u8 0) 1 rfl Try.underlying27 info5 rfl (by decide) (by omega) v231 y230 t234 _ _ _ (fun k_ => some k_ ≠ (.slice Ao57 t227.length co57 : Value).ownBlock ∧ some k_ ≠ (.slice Ao61 t234.length co61 : Value).ownBlock) (fun _ => False) rfl rfl ?aO ?aR (fun _ _ h => h) (fun _ h => h.elim) ?aF ?aB ?aS ?aL ?_; (case aR => repeat (first | exact (Kd.R_reads' HO236.out).2.2 | (with_reducible refine Kd.C_alloc ?_ _) | (with_reducible refine Kd.C_drewN ?_ _) | (with_reducible refine Kd.C_drew ?_))); (case aB => exact (by repeat (first | (with_reducible first | exact HB.out | apply below_alloc | apply pw_below_drewN | apply below_drew1 | refine below_set ?_ GE222.out) | exact HB.out))); (case aF => exact (fun k_ hk => ⟨Kd.fresh' (Kd.R_lt (by (with_reducible repeat (first | apply Kd.R_alloc | apply Kd.R_drewN | apply Kd.R_drew)); exact HO229.out)) k_ hk, Kd.fresh' (Kd.R_lt (by (with_reducible repeat (first | apply Kd.R_alloc | apply Kd.R_drewN | apply Kd.R_drew)); exact HO236.out)) k_ hk⟩)); (case aO => exact (by (with_reducible repeat (first | apply Kd.R_alloc | apply Kd.R_drewN | apply Kd.R_drew)); exact HO232.out)); (case aS => exact (below_size (by repeat (first | (with_reducible first | exact HB.out | apply below_alloc | apply pw_below_drewN | apply below_drew1 | refine below_set ?_ GE222.out) | exact HB.out)))); (case aL => have := LMc21.out; omega); intro v238 w60 ho hb hg hat; rw [← Ny237.out] at ho; have n0_ := Aside0.mk (blk_grown (g := gb222) (o := .cells #[.bool true, .string a0_1, .bool false, .string a0_3, .int .i64 a0_4, .int .i64 a0_5] 45 (0, 0)) (by (with_reducible repeat (first | refine blk_drewN ?_ _ | refine blk_drew ?_ | refine blk_alloc ?_ _)); exact BK222.out) hg (Kd.R_ne HO232.out BK222.out (by decide))); have n1_ := Aside0.mk (Kd.R_after (ok := (fun k_ => some k_ ≠ (.slice Ao61 t234.length co61 : Value).ownBlock)) (by (with_reducible repeat (first | apply Kd.R_alloc | apply Kd.R_drewN | apply Kd.R_drew)); exact Kd.R_mono HO229.out (fun _ hk => ⟨hk.2, hk.1.2⟩)) hg hat); have n2_ := Aside0.mk (Kd.R_after (ok := (fun k_ => some k_ ≠ (.slice Ao57 t227.length co57 : Value).ownBlock)) (by (with_reducible repeat (first | apply Kd.R_alloc | apply Kd.R_drewN | apply Kd.R_drew)); exact Kd.R_mono HO236.out (fun _ hk => ⟨hk.1.2, hk.2⟩)) hg hat); have n3_ := Aside0.mk (hb); have n4_ := Aside0.mk (ho); clear BK222; clear HO229; clear HO236; clear HB; clear HO232; have BK222 := n0_; have HO229 := n1_; have HO236 := n2_; have HB := n3_; have HO239 := n4_; clear n0_ n1_ n2_ n3_ n4_; clear ho hb hg hat; have hcz62_0 : w60.cell? ⟨gb222, 0, none⟩ = some (.bool true) := (blk_cell BK222.out 0).trans rfl; have hcz62_1 : w60.cell? ⟨gb222, 1, none⟩ = some (.string a0_1) := (blk_cell BK222.out 1).trans rfl; have hcz62_2 : w60.cell? ⟨gb222, 2, none⟩ = some (.bool false) := (blk_cell BK222.out 2).trans rfl; have hcz62_3 : w60.cell? ⟨gb222, 3, none⟩ = some (.string a0_3) := (blk_cell BK222.out 3).trans rfl; have hcz62_4 : w60.cell? ⟨gb222, 4, none⟩ = some (.int .i64 a0_4) := (blk_cell BK222.out 4).trans rfl; have hcz62_5 : w60.cell? ⟨gb222, 5, none⟩ = some (.int .i64 a0_5) := (blk_cell BK222.out 5).trans rfl; have hfz62_0 := blk_frozen BK222.out 0; have hfz62_1 := blk_frozen BK222.out 1; have hfz62_2 := blk_frozen BK222.out 2; have hfz62_3 := blk_frozen BK222.out 3; have hfz62_4 := blk_frozen BK222.out 4; have hfz62_5 := blk_frozen BK222.out 5))
                              have n0_ := Aside0.mk (Kd.R_drew HO229.out)
                              have n1_ := Aside0.mk (Kd.R_drew HO236.out)
                              have n2_ := Aside0.mk (Kd.R_drew HO239.out)
                              have n3_ := Aside0.mk (blk_drew BK222.out)
                              have n4_ := Aside0.mk (below_drew1 HB.out)
                              clear HO229
                              clear HO236
                              clear HO239
                              clear BK222
                              clear HB
                              have HO229 := n0_
                              have HO236 := n1_
                              have HO239 := n2_
                              have BK222 := n3_
                              have HB := n4_
                              clear n0_ n1_ n2_ n3_ n4_
                              refine start_ (n := 11) (S := fun w' => w'.cell? ⟨gb222, 0, none⟩ = some (.bool true) ∧ w'.cell? ⟨gb222, 1, none⟩ = some (.string a0_1) ∧ w'.cell? ⟨gb222, 2, none⟩ = some (.bool false) ∧ w'.cell? ⟨gb222, 3, none⟩ = some (.string a0_3) ∧ w'.cell? ⟨gb222, 4, none⟩ = some (.int .i64 a0_4) ∧ w'.cell? ⟨gb222, 5, none⟩ = some (.int .i64 a0_5)) (ds := []) #[false, false, false, false, false, false, false, false, false, false, false] (by kernel_rfl) rfl rfl ⟨(blk_cell BK222.out 0).trans rfl, (blk_cell BK222.out 1).trans rfl, (blk_cell BK222.out 2).trans rfl, (blk_cell BK222.out 3).trans rfl, (blk_cell BK222.out 4).trans rfl, (blk_cell BK222.out 5).trans rfl⟩ (fun hHeld => ?_); refine with_tabW bollardref12_Encode.tab14 bollardref12_Encode.bits14 (fun HT_ HW_ => ?_)
                              generalize w60.drew = w63 at HO229 HO236 HO239 BK222 HB hHeld ⊢
                              refine pure_ (i := 0) (N := some 43) (v := ?_) (a' := ?_) #[true, false, false, false, false, false, false, false, false, false, false] rfl rfl (any_of HT_.out (by kernel_rfl)) (fun _ _ _ h => h) (Or.inl ⟨by rfl, ?_⟩) ?_ ?_
                              rotate_left
                              · intro w'
                                go_simp
                                with_reducible rfl
                              rotate_left
                              · simp only [Act.put, List.setIfInBounds_toArray, List.set_cons_zero, List.set_cons_succ, i64_w, i32_w]
                                rfl
                              refine pure_ (i := 1) (N := some 44) (v := ?_) (a' := ?_) #[true, true, false, false, false, false, false, false, false, false, false] rfl rfl (any_of HT_.out (by kernel_rfl)) (fun _ _ _ h => h) (Or.inl ⟨by rfl, ?_⟩) ?_ ?_
                              rotate_left
                              · intro w'
                                go_simp
                                with_reducible rfl
                              rotate_left
                              · simp only [Act.put, List.setIfInBounds_toArray, List.set_cons_zero, List.set_cons_succ, i64_w, i32_w]
                                rfl
                              refine pure_ (i := 7) (N := some 50) (v := ?_) (a' := ?_) #[true, true, false, false, false, false, false, true, false, false, false] rfl rfl (any_of HT_.out (by kernel_rfl)) (fun _ _ _ h => h) (Or.inl ⟨by rfl, ?_⟩) ?_ ?_
                              rotate_left
                              · intro w'
                                go_simp
                                with_reducible rfl
                              rotate_left
                              · simp only [Act.put, List.setIfInBounds_toArray, List.set_cons_zero, List.set_cons_succ, i64_w, i32_w]
                                rfl
                              refine take_ (i := 2) (N := some 45) (v := ?_) (a' := ?_) #[true, true, true, false, false, false, false, true, false, false, false] rfl rfl (take_ofW HT_.out HW_.out (by kernel_rfl)) (fun _ _ _ h => h) (Or.inl ⟨by rfl, ?_⟩) hHeld ?_ ?_
                              rotate_left
                              · rintro w' ⟨s0, s1, s2, s3, s4, s5⟩
                                go_simp
                                with_reducible rfl
                              rotate_left
                              · simp only [Act.put, List.setIfInBounds_toArray, List.set_cons_zero, List.set_cons_succ, i64_w, i32_w]
                                rfl
                              refine pure_ (i := 3) (N := some 46) (v := ?_) (a' := ?_) #[true, true, true, true, false, false, false, true, false, false, false] rfl rfl (any_of HT_.out (by kernel_rfl)) (fun _ _ _ h => h) (Or.inl ⟨by rfl, ?_⟩) ?_ ?_
                              rotate_left
                              · intro w'
                                go_simp
                                with_reducible rfl
                              rotate_left
                              · simp only [Act.put, List.setIfInBounds_toArray, List.set_cons_zero, List.set_cons_succ, i64_w, i32_w]
                                rfl
                              refine pure_ (i := 4) (N := some 47) (v := ?_) (a' := ?_) #[true, true, true, true, true, false, false, true, false, false, false] rfl rfl (any_of HT_.out (by kernel_rfl)) (fun _ _ _ h => h) (Or.inl ⟨by rfl, ?_⟩) ?_ ?_
                              rotate_left
                              · intro w'
                                go_simp
                                with_reducible rfl
                              rotate_left
                              · simp only [Act.put, List.setIfInBounds_toArray, List.set_cons_zero, List.set_cons_succ, i64_w, i32_w]
                                rfl
                              refine take_ (i := 8) (N := some 51) (v := ?_) (a' := ?_) #[true, true, true, true, true, false, false, true, true, false, false] rfl rfl (take_ofW HT_.out HW_.out (by kernel_rfl)) (fun _ _ _ h => h) (Or.inl ⟨by rfl, ?_⟩) hHeld ?_ ?_
                              rotate_left
                              · rintro w' ⟨s0, s1, s2, s3, s4, s5⟩
                                go_simp
                                with_reducible rfl
                              rotate_left
                              · simp only [Act.put, List.setIfInBounds_toArray, List.set_cons_zero, List.set_cons_succ, i64_w, i32_w]
                                rfl
                              refine one_ (i := 5) (N := some 48) #[true, true, true, true, true, true, false, true, true, false, false] rfl rfl (one_of HT_.out (by kernel_rfl)) (by decide) (fun K hK => ?_)
                              refine goes_ Try.func64 (by kernel_rfl) rfl #[.int .u64 (IntKind.u64.wrap ((a0_1.size : Int)))] (by rfl) rfl rfl (by (try simp only [List.map_toArray, List.map_cons, List.map_nil]); first | done | rfl | (simp only [List.length_drop, List.length_take]; rfl)) ?_
                              with_reducible refine (bollardref1_Varint.calls kj13 (IntKind.u64.wrap ((a0_1.size : Int))) t240 _ A23.out).mono ?_
                              rintro e w64 ⟨v241, rfl, ho0, hb⟩
                              refine ⟨_, rfl, ?_⟩
                              have n0_ := Aside0.mk (Kd.R_elder' (by (with_reducible repeat (first | apply Kd.R_alloc | apply Kd.R_drewN | apply Kd.R_drew)); exact HO229.out) (Kd.R_base ho0) hb)
                              have n1_ := Aside0.mk (Kd.R_elder' (by (with_reducible repeat (first | apply Kd.R_alloc | apply Kd.R_drewN | apply Kd.R_drew)); exact HO236.out) (Kd.R_base ho0) hb)
                              have n2_ := Aside0.mk (Kd.R_elder' (by (with_reducible repeat (first | apply Kd.R_alloc | apply Kd.R_drewN | apply Kd.R_drew)); exact HO239.out) (Kd.R_base ho0) hb)
                              have n3_ := Aside0.mk (Kd.R_lower (Kd.R_new' (Kd.R_new' (Kd.R_new' ho0 (Kd.R_lt (by (with_reducible repeat (first | apply Kd.R_alloc | apply Kd.R_drewN | apply Kd.R_drew)); exact HO229.out))) (Kd.R_lt (by (with_reducible repeat (first | apply Kd.R_alloc | apply Kd.R_drewN | apply Kd.R_drew)); exact HO236.out))) (Kd.R_lt (by (with_reducible repeat (first | apply Kd.R_alloc | apply Kd.R_drewN | apply Kd.R_drew)); exact HO239.out))) (below_size (by repeat (first | (with_reducible first | exact HB.out | apply below_alloc | apply pw_below_drewN | apply below_drew1 | refine below_set ?_ GE222.out) | exact HB.out))))
                              have n4_ := Aside0.mk (blk_below (g := gb222) (o := .cells #[.bool true, .string a0_1, .bool false, .string a0_3, .int .i64 a0_4, .int .i64 a0_5] 45 (0, 0)) (by (with_reducible repeat (first | refine blk_drewN ?_ _ | refine blk_drew ?_ | refine blk_alloc ?_ _)); exact BK222.out) hb)
                              have n5_ := Aside0.mk (below_step (by repeat (first | (with_reducible first | exact HB.out | apply below_alloc | apply pw_below_drewN | apply below_drew1 | refine below_set ?_ GE222.out) | exact HB.out)) hb)
                              clear HO229
                              clear HO236
                              clear HO239
                              clear BK222
                              clear HB
                              have HO229 := n0_
                              have HO236 := n1_
                              have HO239 := n2_
                              have HO242 := n3_
                              have BK222 := n4_
                              have HB := n5_
                              clear n0_ n1_ n2_ n3_ n4_ n5_
                              (try clear hb)
                              (try clear hb2)
                              (try clear hk)
                              (try clear hi)
                              (try clear ho0)
                              obtain ⟨Ao66, co66, eo66⟩ := Kd.R_slice HO242.out
                              (first | subst eo66 | (injection eo66 with f1_ f2_ f3_; have f4_ := f1_.symm; have f5_ := f3_.symm; clear f1_ f2_ f3_; subst f4_; subst f5_))
                              refine hK.out _ _ ⟨(blk_cell BK222.out 0).trans rfl, (blk_cell BK222.out 1).trans rfl, (blk_cell BK222.out 2).trans rfl, (blk_cell BK222.out 3).trans rfl, (blk_cell BK222.out 4).trans rfl, (blk_cell BK222.out 5).trans rfl⟩ (fun hHeld => ?_)
                              clear hK K
                              refine norm_ (a' := ?_) ?_ ?_
                              rotate_left
                              · show Act.put _ (some 48) _ = _
                                simp only [Act.put, List.setIfInBounds_toArray, List.set_cons_zero, List.set_cons_succ, i64_w, i32_w]
                                rfl
                              refine one_ (i := 6) (N := some 49) #[true, true, true, true, true, true, true, true, true, false, false] rfl rfl (one_of HT_.out (by kernel_rfl)) (by decide) (fun K hK => ?_)
                              refine Kd.R_append_rows_step (Kd.int .u8) (w0 := w) w.heap.size (by rfl) (.tmp 43) (.tmp 48) 27 5 (.int .u8 0) 1 rfl Try.underlying27 info5 rfl (by decide) (by omega) v238 y237 t240 _ _ _ (fun k_ => some k_ ≠ (.slice Ao57 t227.length co57 : Value).ownBlock ∧ some k_ ≠ (.slice Ao61 t234.length co61 : Value).ownBlock ∧ some k_ ≠ (.slice Ao66 t240.length co66 : Value).ownBlock) (fun _ => False) rfl rfl ?aO ?aR (fun _ _ h => h) (fun _ h => h.elim) ?aF ?aB ?aS ?aL ?_
                              (case aR => repeat (first | exact (Kd.R_reads' HO242.out).2.2 | (with_reducible refine Kd.C_alloc ?_ _) | (with_reducible refine Kd.C_drewN ?_ _) | (with_reducible refine Kd.C_drew ?_)))
                              (case aB => exact (by repeat (first | (with_reducible first | exact HB.out | apply below_alloc | apply pw_below_drewN | apply below_drew1 | refine below_set ?_ GE222.out) | exact HB.out)))
                              (case aF => exact (fun k_ hk => ⟨Kd.fresh' (Kd.R_lt (by (with_reducible repeat (first | apply Kd.R_alloc | apply Kd.R_drewN | apply Kd.R_drew)); exact HO229.out)) k_ hk, Kd.fresh' (Kd.R_lt (by (with_reducible repeat (first | apply Kd.R_alloc | apply Kd.R_drewN | apply Kd.R_drew)); exact HO236.out)) k_ hk, Kd.fresh' (Kd.R_lt (by (with_reducible repeat (first | apply Kd.R_alloc | apply Kd.R_drewN | apply Kd.R_drew)); exact HO242.out)) k_ hk⟩))
                              (case aO => exact (by (with_reducible repeat (first | apply Kd.R_alloc | apply Kd.R_drewN | apply Kd.R_drew)); exact Kd.R_mono HO239.out (fun _ hk => ⟨hk.1.1, ⟨hk.1.2, hk.2⟩⟩)))
                              (case aS => exact (below_size (by repeat (first | (with_reducible first | exact HB.out | apply below_alloc | apply pw_below_drewN | apply below_drew1 | refine below_set ?_ GE222.out) | exact HB.out))))
                              (case aL => have := LMc24.out; omega)
                              intro v244 w65 ho hb hg hat
                              rw [← Ny243.out] at ho
                              have n0_ := Aside0.mk (blk_grown (g := gb222) (o := .cells #[.bool true, .string a0_1, .bool false, .string a0_3, .int .i64 a0_4, .int .i64 a0_5] 45 (0, 0)) (by (with_reducible repeat (first | refine blk_drewN ?_ _ | refine blk_drew ?_ | refine blk_alloc ?_ _)); exact BK222.out) hg (Kd.R_ne HO239.out BK222.out (by decide)))
                              have n1_ := Aside0.mk (Kd.R_after (ok := (fun k_ => some k_ ≠ (.slice Ao61 t234.length co61 : Value).ownBlock ∧ some k_ ≠ (.slice Ao66 t240.length co66 : Value).ownBlock)) (by (with_reducible repeat (first | apply Kd.R_alloc | apply Kd.R_drewN | apply Kd.R_drew)); exact Kd.R_mono HO229.out (fun _ hk => ⟨⟨hk.1.1, hk.2⟩, hk.1.2⟩)) hg hat)
                              have n2_ := Aside0.mk (Kd.R_after (ok := (fun k_ => some k_ ≠ (.slice Ao57 t227.length co57 : Value).ownBlock ∧ some k_ ≠ (.slice Ao66 t240.length co66 : Value).ownBlock)) (by (with_reducible repeat (first | apply Kd.R_alloc | apply Kd.R_drewN | apply Kd.R_drew)); exact Kd.R_mono HO236.out (fun _ hk => ⟨⟨hk.1.1, hk.2⟩, hk.1.2⟩)) hg hat)
                              have n3_ := Aside0.mk (Kd.R_after (ok := (fun k_ => some k_ ≠ (.slice Ao57 t227.length co57 : Value).ownBlock ∧ some k_ ≠ (.slice Ao61 t234.length co61 : Value).ownBlock)) (by (with_reducible repeat (first | apply Kd.R_alloc | apply Kd.R_drewN | apply Kd.R_drew)); exact Kd.R_mono HO242.out (fun _ hk => ⟨⟨hk.1.1.2, hk.1.2⟩, hk.2⟩)) hg hat)
                              have n4_ := Aside0.mk (hb)
                              have n5_ := Aside0.mk (ho)
                              clear BK222
                              clear HO229
                              clear HO236
                              clear HO242
                              clear HB
                              clear HO239
                              have BK222 := n0_
                              have HO229 := n1_
                              have HO236 := n2_
                              have HO242 := n3_
                              have HB := n4_
                              have HO245 := n5_
                              clear n0_ n1_ n2_ n3_ n4_ n5_
                              clear ho hb hg hat
                              refine hK.out _ _ ⟨(blk_cell BK222.out 0).trans rfl, (blk_cell BK222.out 1).trans rfl, (blk_cell BK222.out 2).trans rfl, (blk_cell BK222.out 3).trans rfl, (blk_cell BK222.out 4).trans rfl, (blk_cell BK222.out 5).trans rfl⟩ (fun hHeld => ?_)
                              clear hK K
                              refine norm_ (a' := ?_) ?_ ?_
                              rotate_left
                              · show Act.put _ (some 49) _ = _
                                simp only [Act.put, List.setIfInBounds_toArray, List.set_cons_zero, List.set_cons_succ, i64_w, i32_w]
                                rfl
                              refine one_ (i := 9) (N := some 52) #[true, true, true, true, true, true, true, true, true, true, false] rfl rfl (one_of HT_.out (by kernel_rfl)) (by decide) (fun K hK => ?_)
                              refine Kd.R_append_str_step (w0 := w) w.heap.size (by rfl) (.tmp 49) _ 27 9 5 rfl Try.underlying27 Try.underlying9 info5 v244 y243 a0_1 (fun k_ => some k_ ≠ (.slice Ao57 t227.length co57 : Value).ownBlock ∧ some k_ ≠ (.slice Ao61 t234.length co61 : Value).ownBlock ∧ some k_ ≠ (.slice Ao66 t240.length co66 : Value).ownBlock) rfl rfl ?aF ?aO ?aB ?aS ?aL ?_
                              (case aB => exact (by repeat (first | (with_reducible first | exact HB.out | apply below_alloc | apply pw_below_drewN | apply below_drew1 | refine below_set ?_ GE222.out) | exact HB.out)))
                              (case aF => exact (fun k_ hk => ⟨Kd.fresh' (Kd.R_lt (by (with_reducible repeat (first | apply Kd.R_alloc | apply Kd.R_drewN | apply Kd.R_drew)); exact HO229.out)) k_ hk, Kd.fresh' (Kd.R_lt (by (with_reducible repeat (first | apply Kd.R_alloc | apply Kd.R_drewN | apply Kd.R_drew)); exact HO236.out)) k_ hk, Kd.fresh' (Kd.R_lt (by (with_reducible repeat (first | apply Kd.R_alloc | apply Kd.R_drewN | apply Kd.R_drew)); exact HO242.out)) k_ hk⟩))
                              (case aO => exact (by (with_reducible repeat (first | apply Kd.R_alloc | apply Kd.R_drewN | apply Kd.R_drew)); exact HO245.out))
                              (case aS => exact (below_size (by repeat (first | (with_reducible first | exact HB.out | apply below_alloc | apply pw_below_drewN | apply below_drew1 | refine below_set ?_ GE222.out) | exact HB.out))))
                              (case aL => have := LMc25.out; omega)
                              intro v247 w67 ho hb hg hat
                              rw [← Ny246.out] at ho
                              have n0_ := Aside0.mk (blk_grown (g := gb222) (o := .cells #[.bool true, .string a0_1, .bool false, .string a0_3, .int .i64 a0_4, .int .i64 a0_5] 45 (0, 0)) (by (with_reducible repeat (first | refine blk_drewN ?_ _ | refine blk_drew ?_ | refine blk_alloc ?_ _)); exact BK222.out) hg (Kd.R_ne HO245.out BK222.out (by decide)))
                              have n1_ := Aside0.mk (Kd.R_after (ok := (fun k_ => some k_ ≠ (.slice Ao61 t234.length co61 : Value).ownBlock ∧ some k_ ≠ (.slice Ao66 t240.length co66 : Value).ownBlock)) (by (with_reducible repeat (first | apply Kd.R_alloc | apply Kd.R_drewN | apply Kd.R_drew)); exact HO229.out) hg hat)
                              have n2_ := Aside0.mk (Kd.R_after (ok := (fun k_ => some k_ ≠ (.slice Ao57 t227.length co57 : Value).ownBlock ∧ some k_ ≠ (.slice Ao66 t240.length co66 : Value).ownBlock)) (by (with_reducible repeat (first | apply Kd.R_alloc | apply Kd.R_drewN | apply Kd.R_drew)); exact HO236.out) hg hat)
                              have n3_ := Aside0.mk (Kd.R_after (ok := (fun k_ => some k_ ≠ (.slice Ao57 t227.length co57 : Value).ownBlock ∧ some k_ ≠ (.slice Ao61 t234.length co61 : Value).ownBlock)) (by (with_reducible repeat (first | apply Kd.R_alloc | apply Kd.R_drewN | apply Kd.R_drew)); exact HO242.out) hg hat)
                              have n4_ := Aside0.mk (hb)
                              have n5_ := Aside0.mk (ho)
                              clear BK222
                              clear HO229
                              clear HO236
                              clear HO242
                              clear HB
                              clear HO245
                              have BK222 := n0_
                              have HO229 := n1_
                              have HO236 := n2_
                              have HO242 := n3_
                              have HB := n4_
                              have HO248 := n5_
                              clear n0_ n1_ n2_ n3_ n4_ n5_
                              clear ho hb hg hat
                              refine hK.out _ _ ⟨(blk_cell BK222.out 0).trans rfl, (blk_cell BK222.out 1).trans rfl, (blk_cell BK222.out 2).trans rfl, (blk_cell BK222.out 3).trans rfl, (blk_cell BK222.out 4).trans rfl, (blk_cell BK222.out 5).trans rfl⟩ (fun hHeld => ?_)
                              clear hK K
                              refine norm_ (a' := ?_) ?_ ?_
                              rotate_left
                              · show Act.put _ (some 52) _ = _
                                simp only [Act.put, List.setIfInBounds_toArray, List.set_cons_zero, List.set_cons_succ, i64_w, i32_w]
                                rfl
                              refine pure_ (i := 10) (N := some 8) (v := ?_) (a' := ?_) #[true, true, true, true, true, true, true, true, true, true, true] rfl rfl (any_of HT_.out (by kernel_rfl)) (fun _ _ _ h => h) (Or.inl ⟨by rfl, ?_⟩) ?_ ?_
                              rotate_left
                              · intro w'
                                go_simp
                                with_reducible rfl
                              rotate_left
                              · simp only [Act.put, List.setIfInBounds_toArray, List.set_cons_zero, List.set_cons_succ, i64_w, i32_w]
                                rfl
                              refine done_ (done_of HT_.out (by kernel_rfl)) ?_
                              have hcz68_0 : w67.cell? ⟨gb222, 0, none⟩ = some (.bool true) := (blk_cell BK222.out 0).trans rfl
                              have hcz68_1 : w67.cell? ⟨gb222, 1, none⟩ = some (.string a0_1) := (blk_cell BK222.out 1).trans rfl
                              have hcz68_2 : w67.cell? ⟨gb222, 2, none⟩ = some (.bool false) := (blk_cell BK222.out 2).trans rfl
                              have hcz68_3 : w67.cell? ⟨gb222, 3, none⟩ = some (.string a0_3) := (blk_cell BK222.out 3).trans rfl
                              have hcz68_4 : w67.cell? ⟨gb222, 4, none⟩ = some (.int .i64 a0_4) := (blk_cell BK222.out 4).trans rfl
                              have hcz68_5 : w67.cell? ⟨gb222, 5, none⟩ = some (.int .i64 a0_5) := (blk_cell BK222.out 5).trans rfl
                              have hfz68_0 := blk_frozen BK222.out 0
                              have hfz68_1 := blk_frozen BK222.out 1
                              have hfz68_2 := blk_frozen BK222.out 2
                              have hfz68_3 := blk_frozen BK222.out 3
                              have hfz68_4 := blk_frozen BK222.out 4
                              have hfz68_5 := blk_frozen BK222.out 5
                              try go_wp2
                              go_ret2
                              exact ⟨_, by first | rfl | (simp [errW_none, errW_some] <;> rfl) | (simp [*, errW_none, errW_some] <;> rfl), by (with_reducible repeat (first | apply Kd.R_alloc | apply Kd.R_drewN | apply Kd.R_drew)); exact Kd.R_mono HO248.out (fun _ hk => trivial), by repeat (first | (with_reducible first | exact HB.out | apply below_alloc | apply pw_below_drewN | apply below_drew1 | refine below_set ?_ GE222.out) | exact HB.out)⟩
                          · rw [if_neg c25] at H
                            exact absurd H (by simp)
                        · rw [if_neg c24] at H
                          exact absurd H (by simp)
                      · replace c22 := Bool.eq_false_iff.mpr c22
                        subst c22
                        have H1 : (if a0_2 = true then ((bollardref1_Varint.f kj13 (IntKind.u64.wrap ((a0_3.size : Int)))).bind fun t258 => (if y237.length + t258.length < 140737488355328 then ((some (y237 ++ t258 : List Int)).bind fun y261 => (if y261.length + a0_3.size < 140737488355328 then (some ((y261 ++ bytesOf a0_3), 0)) else (none))) else (none))) else (some (y237, 0))) = some (r1, r2) := by rw [if_neg (show ¬ (false = true) by decide)] at H; exact H
                        clear H
                        have H := H1
                        clear H1
                        by_cases c69 : a0_2 = true
                        · subst c69
                          have H1 : ((bollardref1_Varint.f kj13 (IntKind.u64.wrap ((a0_3.size : Int)))).bind fun t258 => (if y237.length + t258.length < 140737488355328 then ((some (y237 ++ t258 : List Int)).bind fun y261 => (if y261.length + a0_3.size < 140737488355328 then (some ((y261 ++ bytesOf a0_3), 0)) else (none))) else (none))) = some (r1, r2) := by rw [if_pos rfl] at H; exact H
                          clear H
                          have H := H1
                          clear H1
                          replace H := Option.bind_eq_some_iff.mp H
                          obtain ⟨t258, A700, H⟩ := H
                          replace H : (if y237.length + t258.length < 140737488355328 then ((some (y237 ++ t258 : List Int)).bind fun y261 => (if y261.length + a0_3.size < 140737488355328 then (some ((y261 ++ bytesOf a0_3), 0)) else (none))) else (none)) = some (r1, r2) := H
                          have A70 := Aside0.mk A700
                          clear A700
                          by_cases c71 : y237.length + t258.length < 140737488355328
                          · rw [if_pos c71] at H
                            have LMc71 := Aside0.mk c71
                            clear c71
                            obtain ⟨y261, hy261⟩ : ∃ y_ : List Int, y_ = (y237 ++ t258) := ⟨_, rfl⟩
                            replace H : (if y261.length + a0_3.size < 140737488355328 then (some ((y261 ++ bytesOf a0_3), 0)) else (none)) = some (r1, r2) := by first | (rw [hy261]; with_reducible exact H) | (have H2_ := (Option.bind_some _ _).symm.trans H; rw [hy261]; with_reducible exact H2_) | (have H2_ := (Option.bind_some _ _).symm.trans H; with_reducible exact H2_) | with_reducible exact H | (rw [hy261]; exact H) | exact H
                            have Ny261 := Aside0.mk hy261
                            clear hy261
                            by_cases c72 : y261.length + a0_3.size < 140737488355328
                            · rw [if_pos c72] at H
                              have LMc72 := Aside0.mk c72
                              clear c72
                              obtain ⟨y264, hy264⟩ : ∃ y_ : List Int, y_ = (y261 ++ bytesOf a0_3) := ⟨_, rfl⟩
                              replace H : (some (y264, 0)) = some (r1, r2) := by first | (rw [hy264]; with_reducible exact H) | (have H2_ := (Option.bind_some _ _).symm.trans H; rw [hy264]; with_reducible exact H2_) | (have H2_ := (Option.bind_some _ _).symm.trans H; with_reducible exact H2_) | with_reducible exact H | (rw [hy264]; exact H) | exact H
                              have Ny264 := Aside0.mk hy264
                              clear hy264
                              simp only [Option.some.injEq, Prod.mk.injEq] at H
                              obtain ⟨rfl, rfl⟩ := H
                              try go_wp2_with (first | ((with_reducible refine gate_dst (N := 27) rfl ?_); refine Kd.R_lit (Kd.int .u8) _ 5 ?hg (N := 27) ?hd (xs := ([x7_13] : List Int)) (inner := [.int .u8 x7_13]) (ok := fun _ => True) (okp := fun _ => True) ?hr ?hp (fun _ hk => hk) trivial (Below.refl _ _) (Nat.le_refl _) (by simp) ?_; (case hd => rfl); (case hg => rfl); (case hr => first | (go_simp; done) | (go_simp; rfl)); (case hp => exact (Reps.one (show Kd.M (Kd.int .u8) _ _ _ x7_13 [.int .u8 x7_13] from rfl) (Reps.none _ _))); intro v225 w73 ho74 hb hg_ hnew_; clear hg_ hnew_; (first | rw [← Ny224.out] at ho74 | (simp only [Int.reduceToNat] at ho74; rw [← Ny224.out] at ho74)); have n0_ := Aside0.mk (Kd.R_lower ho74 (below_size (by repeat (first | (with_reducible first | exact HB.out | apply below_alloc | apply pw_below_drewN | apply below_drew1 | refine below_set ?_ GE222.out) | exact HB.out)))); have n1_ := Aside0.mk (blk_below (g := gb222) (o := .cells #[.bool false, .string a0_1, .bool true, .string a0_3, .int .i64 a0_4, .int .i64 a0_5] 45 (0, 0)) (by (with_reducible repeat (first | refine blk_drewN ?_ _ | refine blk_drew ?_ | refine blk_alloc ?_ _)); exact BK222.out) hb); have n2_ := Aside0.mk (below_step (by repeat (first | (with_reducible first | exact HB.out | apply below_alloc | apply pw_below_drewN | apply below_drew1 | refine below_set ?_ GE222.out) | exact HB.out)) hb); clear BK222; clear HB; have HO226 := n0_; have BK222 := n1_; have HB := n2_; clear n0_ n1_ n2_; clear hb ho74; have hcz75_0 : w73.cell? ⟨gb222, 0, none⟩ = some (.bool false) := (blk_cell BK222.out 0).trans rfl; have hcz75_1 : w73.cell? ⟨gb222, 1, none⟩ = some (.string a0_1) := (blk_cell BK222.out 1).trans rfl; have hcz75_2 : w73.cell? ⟨gb222, 2, none⟩ = some (.bool true) := (blk_cell BK222.out 2).trans rfl; have hcz75_3 : w73.cell? ⟨gb222, 3, none⟩ = some (.string a0_3) := (blk_cell BK222.out 3).trans rfl; have hcz75_4 : w73.cell? ⟨gb222, 4, none⟩ = some (.int .i64 a0_4) := (blk_cell BK222.out 4).trans rfl; have hcz75_5 : w73.cell? ⟨gb222, 5, none⟩ = some (.int .i64 a0_5) := (blk_cell BK222.out 5).trans rfl; have hfz75_0 := blk_frozen BK222.out 0; have hfz75_1 := blk_frozen BK222.out 1; have hfz75_2 := blk_frozen BK222.out 2; have hfz75_3 := blk_frozen BK222.out 3; have hfz75_4 := blk_frozen BK222.out 4; have hfz75_5 := blk_frozen BK222.out 5) | ((with_reducible refine gate_callee (f := 64) rfl ?_); refine goesL_ (some 31) rfl rfl Try.func64 (by kernel_rfl) rfl #[.int .u64 (IntKind.u64.wrap (a0_5))] rfl (by (try simp only [List.map_toArray, List.map_cons, List.map_nil]); first | done | rfl | (simp only [List.length_drop, List.length_take]; rfl)) ?_; (with_reducible refine (bollardref1_Varint.calls kj13 (IntKind.u64.wrap (a0_5)) t227 _ A17.out).mono ?_); rintro e w76 ⟨v228, rfl, ho0, hb⟩; refine ⟨_, rfl, ?_⟩; have n0_ := Aside0.mk (Kd.R_elder' (by (with_reducible repeat (first | apply Kd.R_alloc | apply Kd.R_drewN | apply Kd.R_drew)); exact HO226.out) (Kd.R_base ho0) hb); have n1_ := Aside0.mk (Kd.R_lower (Kd.R_new' ho0 (Kd.R_lt (by (with_reducible repeat (first | apply Kd.R_alloc | apply Kd.R_drewN | apply Kd.R_drew)); exact HO226.out))) (below_size (by repeat (first | (with_reducible first | exact HB.out | apply below_alloc | apply pw_below_drewN | apply below_drew1 | refine below_set ?_ GE222.out) | exact HB.out)))); have n2_ := Aside0.mk (blk_below (g := gb222) (o := .cells #[.bool false, .string a0_1, .bool true, .string a0_3, .int .i64 a0_4, .int .i64 a0_5] 45 (0, 0)) (by (with_reducible repeat (first | refine blk_drewN ?_ _ | refine blk_drew ?_ | refine blk_alloc ?_ _)); exact BK222.out) hb); have n3_ := Aside0.mk (below_step (by repeat (first | (with_reducible first | exact HB.out | apply below_alloc | apply pw_below_drewN | apply below_drew1 | refine below_set ?_ GE222.out) | exact HB.out)) hb); clear HO226; clear BK222; clear HB; have HO226 := n0_; have HO229 := n1_; have BK222 := n2_; have HB := n3_; clear n0_ n1_ n2_ n3_; (try clear hb); (try clear hb2); (try clear hk); (try clear hi); (try clear ho0); obtain ⟨Ao78, co78, eo78⟩ := Kd.R_slice HO229.out; subst eo78) | ((with_reducible refine gate_builtin (b := .append) (xs := #[.tmp 27, .tmp 31]) rfl ?_); at_builtin; refine Kd.R_append_rows (Kd.int .u8) (w0 := w) w.heap.size rfl (.tmp 27) (.tmp 31) 27 5 (.int .u8 0) 1 rfl Try.underlying27 info5 rfl (by decide) (by omega) v225 y224 t227 _ _ _ (fun k_ => some k_ ≠ (.slice Ao78 t227.length co78 : Value).ownBlock) (fun _ => False) rfl rfl ?aO ?aR (fun _ _ h => h) (fun _ h => h.elim) ?aF ?aB ?aS ?aL ?_; (case aR => repeat (first | exact (Kd.R_reads' HO229.out).2.2 | (with_reducible refine Kd.C_alloc ?_ _) | (with_reducible refine Kd.C_drewN ?_ _) | (with_reducible refine Kd.C_drew ?_))); (case aB => exact (by repeat (first | (with_reducible first | exact HB.out | apply below_alloc | apply pw_below_drewN | apply below_drew1 | refine below_set ?_ GE222.out) | exact HB.out))); (case aF => exact (fun k_ hk => Kd.fresh' (Kd.R_lt (by (with_reducible repeat (first | apply Kd.R_alloc | apply Kd.R_drewN | apply Kd.R_drew)); exact HO229.out)) k_ hk)); (case aO => exact (by (with_reducible repeat (first | apply Kd.R_alloc | apply Kd.R_drewN | apply Kd.R_drew)); exact Kd.R_mono HO226.out (fun _ hk => hk.2))); (case aS => exact (below_size (by repeat (first | (with_reducible first | exact HB.out | apply below_alloc | apply pw_below_drewN | apply below_drew1 | refine below_set ?_ GE222.out) | exact HB.out)))); (case aL => have := LMc18.out; omega); intro v231 w77 ho hb hg hat; rw [← Ny230.out] at ho; have n0_ := Aside0.mk (blk_grown (g := gb222) (o := .cells #[.bool false, .string a0_1, .bool true, .string a0_3, .int .i64 a0_4, .int .i64 a0_5] 45 (0, 0)) (by (with_reducible repeat (first | refine blk_drewN ?_ _ | refine blk_drew ?_ | refine blk_alloc ?_ _)); exact BK222.out) hg (Kd.R_ne HO226.out BK222.out (by decide))); have n1_ := Aside0.mk (Kd.R_after (ok := (fun _ => True)) (by (with_reducible repeat (first | apply Kd.R_alloc | apply Kd.R_drewN | apply Kd.R_drew)); exact HO229.out) hg hat); have n2_ := Aside0.mk (hb); have n3_ := Aside0.mk (ho); clear BK222; clear HO229; clear HB; clear HO226; have BK222 := n0_; have HO229 := n1_; have HB := n2_; have HO232 := n3_; clear n0_ n1_ n2_ n3_; clear ho hb hg hat; have hcz79_0 : w77.cell? ⟨gb222, 0, none⟩ = some (.bool false) := (blk_cell BK222.out 0).trans rfl; have hcz79_1 : w77.cell? ⟨gb222, 1, none⟩ = some (.string a0_1) := (blk_cell BK222.out 1).trans rfl; have hcz79_2 : w77.cell? ⟨gb222, 2, none⟩ = some (.bool true) := (blk_cell BK222.out 2).trans rfl; have hcz79_3 : w77.cell? ⟨gb222, 3, none⟩ = some (.string a0_3) := (blk_cell BK222.out 3).trans rfl; have hcz79_4 : w77.cell? ⟨gb222, 4, none⟩ = some (.int .i64 a0_4) := (blk_cell BK222.out 4).trans rfl; have hcz79_5 : w77.cell? ⟨gb222, 5, none⟩ = some (.int .i64 a0_5) := (blk_cell BK222.out 5).trans rfl; have hfz79_0 := blk_frozen BK222.out 0; have hfz79_1 := blk_frozen BK222.out 1; have hfz79_2 := blk_frozen BK222.out 2; have hfz79_3 := blk_frozen BK222.out 3; have hfz79_4 := blk_frozen BK222.out 4; have hfz79_5 := blk_frozen BK222.out 5) | ((with_reducible refine gate_callee (f := 65) rfl ?_); refine goesL_ (some 38) rfl rfl Try.func65 (by kernel_rfl) rfl #[.int .i64 (wrap64 (a0_4 - a1))] rfl (by (try simp only [List.map_toArray, List.map_cons, List.map_nil]); first | done | rfl | (simp only [List.length_drop, List.length_take]; rfl)) ?_; (with_reducible refine (bollardref1_Zig.calls (wrap64 (a0_4 - a1)) t233 _ A19.out).mono ?_); rintro e w' ⟨rfl, ⟨nd, rfl⟩⟩; refine ⟨_, rfl, ?_⟩) | ((with_reducible refine gate_callee (f := 64) rfl ?_); refine goesL_ (some 39) rfl rfl Try.func64 (by kernel_rfl) rfl #[.int .u64 t233] rfl (by (try simp only [List.map_toArray, List.map_cons, List.map_nil]); first | done | rfl | (simp only [List.length_drop, List.length_take]; rfl)) ?_; (with_reducible refine (bollardref1_Varint.calls kj13 t233 t234 _ A20.out).mono ?_); rintro e w80 ⟨v235, rfl, ho0, hb⟩; refine ⟨_, rfl, ?_⟩; have n0_ := Aside0.mk (Kd.R_elder' (by (with_reducible repeat (first | apply Kd.R_alloc | apply Kd.R_drewN | apply Kd.R_drew)); exact HO229.out) (Kd.R_base ho0) hb); have n1_ := Aside0.mk (Kd.R_elder' (by (with_reducible repeat (first | apply Kd.R_alloc | apply Kd.R_drewN | apply Kd.R_drew)); exact HO232.out) (Kd.R_base ho0) hb); have n2_ := Aside0.mk (Kd.R_lower (Kd.R_new' (Kd.R_new' ho0 (Kd.R_lt (by (with_reducible repeat (first | apply Kd.R_alloc | apply Kd.R_drewN | apply Kd.R_drew)); exact HO229.out))) (Kd.R_lt (by (with_reducible repeat (first | apply Kd.R_alloc | apply Kd.R_drewN | apply Kd.R_drew)); exact HO232.out))) (below_size (by repeat (first | (with_reducible first | exact HB.out | apply below_alloc | apply pw_below_drewN | apply below_drew1 | refine below_set ?_ GE222.out) | exact HB.out)))); have n3_ := Aside0.mk (blk_below (g := gb222) (o := .cells #[.bool false, .string a0_1, .bool true, .string a0_3, .int .i64 a0_4, .int .i64 a0_5] 45 (0, 0)) (by (with_reducible repeat (first | refine blk_drewN ?_ _ | refine blk_drew ?_ | refine blk_alloc ?_ _)); exact BK222.out) hb); have n4_ := Aside0.mk (below_step (by repeat (first | (with_reducible first | exact HB.out | apply below_alloc | apply pw_below_drewN | apply below_drew1 | refine below_set ?_ GE222.out) | exact HB.out)) hb); clear HO229; clear HO232; clear BK222; clear HB; have HO229 := n0_; have HO232 := n1_; have HO236 := n2_; have BK222 := n3_; have HB := n4_; clear n0_ n1_ n2_ n3_ n4_; (try clear hb); (try clear hb2); (try clear hk); (try clear hi); (try clear ho0); obtain ⟨Ao82, co82, eo82⟩ := Kd.R_slice HO236.out; subst eo82) | ((with_reducible refine gate_builtin (b := .append) (xs := #[.tmp 33, .tmp 39]) rfl ?_); at_builtin; refine Kd.R_append_rows (Kd.int .u8) (w0 := w) w.heap.size rfl (.tmp 33) (.tmp 39) 27 5 (.int .u8 0) 1 rfl Try.underlying27 info5 rfl (by decide) (by omega) v231 y230 t234 _ _ _ (fun k_ => some k_ ≠ (.slice Ao78 t227.length co78 : Value).ownBlock ∧ some k_ ≠ (.slice Ao82 t234.length co82 : Value).ownBlock) (fun _ => False) rfl rfl ?aO ?aR (fun _ _ h => h) (fun _ h => h.elim) ?aF ?aB ?aS ?aL ?_; (case aR => repeat (first | exact (Kd.R_reads' HO236.out).2.2 | (with_reducible refine Kd.C_alloc ?_ _) | (with_reducible refine Kd.C_drewN ?_ _) | (with_reducible refine Kd.C_drew ?_))); (case aB => exact (by repeat (first | (with_reducible first | exact HB.out | apply below_alloc | apply pw_below_drewN | apply below_drew1 | refine below_set ?_ GE222.out) | exact HB.out))); (case aF => exact (fun k_ hk => ⟨Kd.fresh' (Kd.R_lt (by (with_reducible repeat (first | apply Kd.R_alloc | apply Kd.R_drewN | apply Kd.R_drew)); exact HO229.out)) k_ hk, Kd.fresh' (Kd.R_lt (by (with_reducible repeat (first | apply Kd.R_alloc | apply Kd.R_drewN | apply Kd.R_drew)); exact HO236.out)) k_ hk⟩)); (case aO => exact (by (with_reducible repeat (first | apply Kd.R_alloc | apply Kd.R_drewN | apply Kd.R_drew)); exact HO232.out)); (case aS => exact (below_size (by repeat (first | (with_reducible first | exact HB.out | apply below_alloc | apply pw_below_drewN | apply below_drew1 | refine below_set ?_ GE222.out) | exact HB.out)))); (case aL => have := LMc21.out; omega); intro v238 w81 ho hb hg hat; rw [← Ny237.out] at ho; have n0_ := Aside0.mk (blk_grown (g := gb222) (o := .cells #[.bool false, .string a0_1, .bool true, .string a0_3, .int .i64 a0_4, .int .i64 a0_5] 45 (0, 0)) (by (with_reducible repeat (first | refine blk_drewN ?_ _ | refine blk_drew ?_ | refine blk_alloc ?_ _)); exact BK222.out) hg (Kd.R_ne HO232.out BK222.out (by decide))); have n1_ := Aside0.mk (Kd.R_after (ok := (fun k_ => some k_ ≠ (.slice Ao82 t234.length co82 : Value).ownBlock)) (by (with_reducible repeat (first | apply Kd.R_alloc | apply Kd.R_drewN | apply Kd.R_drew)); exact Kd.R_mono HO229.out (fun _ hk => ⟨hk.2, hk.1.2⟩)) hg hat); have n2_ := Aside0.mk (Kd.R_after (ok := (fun k_ => some k_ ≠ (.slice Ao78 t227.length co78 : Value).ownBlock)) (by (with_reducible repeat (first | apply Kd.R_alloc | apply Kd.R_drewN | apply Kd.R_drew)); exact Kd.R_mono HO236.out (fun _ hk => ⟨hk.1.2, hk.2⟩)) hg hat); have n3_ := Aside0.mk (hb); have n4_ := Aside0.mk (ho); clear BK222; clear HO229; clear HO236; clear HB; clear HO232; have BK222 := n0_; have HO229 := n1_; have HO236 := n2_; have HB := n3_; have HO239 := n4_; clear n0_ n1_ n2_ n3_ n4_; clear ho hb hg hat; have hcz83_0 : w81.cell? ⟨gb222, 0, none⟩ = some (.bool false) := (blk_cell BK222.out 0).trans rfl; have hcz83_1 : w81.cell? ⟨gb222, 1, none⟩ = some (.string a0_1) := (blk_cell BK222.out 1).trans rfl; have hcz83_2 : w81.cell? ⟨gb222, 2, none⟩ = some (.bool true) := (blk_cell BK222.out 2).trans rfl; have hcz83_3 : w81.cell? ⟨gb222, 3, none⟩ = some (.string a0_3) := (blk_cell BK222.out 3).trans rfl; have hcz83_4 : w81.cell? ⟨gb222, 4, none⟩ = some (.int .i64 a0_4) := (blk_cell BK222.out 4).trans rfl; have hcz83_5 : w81.cell? ⟨gb222, 5, none⟩ = some (.int .i64 a0_5) := (blk_cell BK222.out 5).trans rfl; have hfz83_0 := blk_frozen BK222.out 0; have hfz83_1 := blk_frozen BK222.out 1; have hfz83_2 := blk_frozen BK222.out 2; have hfz83_3 := blk_frozen BK222.out 3; have hfz83_4 := blk_frozen BK222.out 4; have hfz83_5 := blk_frozen BK222.out 5))
                              have n0_ := Aside0.mk (Kd.R_drew HO229.out)
                              have n1_ := Aside0.mk (Kd.R_drew HO236.out)
                              have n2_ := Aside0.mk (Kd.R_drew HO239.out)
                              have n3_ := Aside0.mk (blk_drew BK222.out)
                              have n4_ := Aside0.mk (below_drew1 HB.out)
                              clear HO229
                              clear HO236
                              clear HO239
                              clear BK222
                              clear HB
                              have HO229 := n0_
                              have HO236 := n1_
                              have HO239 := n2_
                              have BK222 := n3_
                              have HB := n4_
                              clear n0_ n1_ n2_ n3_ n4_
                              refine start_ (n := 11) (S := fun w' => w'.cell? ⟨gb222, 0, none⟩ = some (.bool false) ∧ w'.cell? ⟨gb222, 1, none⟩ = some (.string a0_1) ∧ w'.cell? ⟨gb222, 2, none⟩ = some (.bool true) ∧ w'.cell? ⟨gb222, 3, none⟩ = some (.string a0_3) ∧ w'.cell? ⟨gb222, 4, none⟩ = some (.int .i64 a0_4) ∧ w'.cell? ⟨gb222, 5, none⟩ = some (.int .i64 a0_5)) (ds := []) #[false, false, false, false, false, false, false, false, false, false, false] (by kernel_rfl) rfl rfl ⟨(blk_cell BK222.out 0).trans rfl, (blk_cell BK222.out 1).trans rfl, (blk_cell BK222.out 2).trans rfl, (blk_cell BK222.out 3).trans rfl, (blk_cell BK222.out 4).trans rfl, (blk_cell BK222.out 5).trans rfl⟩ (fun hHeld => ?_); refine with_tabW bollardref12_Encode.tab16 bollardref12_Encode.bits16 (fun HT_ HW_ => ?_)
                              generalize w81.drew = w84 at HO229 HO236 HO239 BK222 HB hHeld ⊢
                              refine pure_ (i := 0) (N := some 55) (v := ?_) (a' := ?_) #[true, false, false, false, false, false, false, false, false, false, false] rfl rfl (any_of HT_.out (by kernel_rfl)) (fun _ _ _ h => h) (Or.inl ⟨by rfl, ?_⟩) ?_ ?_
                              rotate_left
                              · intro w'
                                go_simp
                                with_reducible rfl
                              rotate_left
                              · simp only [Act.put, List.setIfInBounds_toArray, List.set_cons_zero, List.set_cons_succ, i64_w, i32_w]
                                rfl
                              refine pure_ (i := 1) (N := some 56) (v := ?_) (a' := ?_) #[true, true, false, false, false, false, false, false, false, false, false] rfl rfl (any_of HT_.out (by kernel_rfl)) (fun _ _ _ h => h) (Or.inl ⟨by rfl, ?_⟩) ?_ ?_
                              rotate_left
                              · intro w'
                                go_simp
                                with_reducible rfl
                              rotate_left
                              · simp only [Act.put, List.setIfInBounds_toArray, List.set_cons_zero, List.set_cons_succ, i64_w, i32_w]
                                rfl
                              refine pure_ (i := 7) (N := some 62) (v := ?_) (a' := ?_) #[true, true, false, false, false, false, false, true, false, false, false] rfl rfl (any_of HT_.out (by kernel_rfl)) (fun _ _ _ h => h) (Or.inl ⟨by rfl, ?_⟩) ?_ ?_
                              rotate_left
                              · intro w'
                                go_simp
                                with_reducible rfl
                              rotate_left
                              · simp only [Act.put, List.setIfInBounds_toArray, List.set_cons_zero, List.set_cons_succ, i64_w, i32_w]
                                rfl
                              refine take_ (i := 2) (N := some 57) (v := ?_) (a' := ?_) #[true, true, true, false, false, false, false, true, false, false, false] rfl rfl (take_ofW HT_.out HW_.out (by kernel_rfl)) (fun _ _ _ h => h) (Or.inl ⟨by rfl, ?_⟩) hHeld ?_ ?_
                              rotate_left
                              · rintro w' ⟨s0, s1, s2, s3, s4, s5⟩
                                go_simp
                                with_reducible rfl
                              rotate_left
                              · simp only [Act.put, List.setIfInBounds_toArray, List.set_cons_zero, List.set_cons_succ, i64_w, i32_w]
                                rfl
                              refine pure_ (i := 3) (N := some 58) (v := ?_) (a' := ?_) #[true, true, true, true, false, false, false, true, false, false, false] rfl rfl (any_of HT_.out (by kernel_rfl)) (fun _ _ _ h => h) (Or.inl ⟨by rfl, ?_⟩) ?_ ?_
                              rotate_left
                              · intro w'
                                go_simp
                                with_reducible rfl
                              rotate_left
                              · simp only [Act.put, List.setIfInBounds_toArray, List.set_cons_zero, List.set_cons_succ, i64_w, i32_w]
                                rfl
                              refine pure_ (i := 4) (N := some 59) (v := ?_) (a' := ?_) #[true, true, true, true, true, false, false, true, false, false, false] rfl rfl (any_of HT_.out (by kernel_rfl)) (fun _ _ _ h => h) (Or.inl ⟨by rfl, ?_⟩) ?_ ?_
                              rotate_left
                              · intro w'
                                go_simp
                                with_reducible rfl
                              rotate_left
                              · simp only [Act.put, List.setIfInBounds_toArray, List.set_cons_zero, List.set_cons_succ, i64_w, i32_w]
                                rfl
                              refine take_ (i := 8) (N := some 63) (v := ?_) (a' := ?_) #[true, true, true, true, true, false, false, true, true, false, false] rfl rfl (take_ofW HT_.out HW_.out (by kernel_rfl)) (fun _ _ _ h => h) (Or.inl ⟨by rfl, ?_⟩) hHeld ?_ ?_
                              rotate_left
                              · rintro w' ⟨s0, s1, s2, s3, s4, s5⟩
                                go_simp
                                with_reducible rfl
                              rotate_left
                              · simp only [Act.put, List.setIfInBounds_toArray, List.set_cons_zero, List.set_cons_succ, i64_w, i32_w]
                                rfl
                              refine one_ (i := 5) (N := some 60) #[true, true, true, true, true, true, false, true, true, false, false] rfl rfl (one_of HT_.out (by kernel_rfl)) (by decide) (fun K hK => ?_)
                              refine goes_ Try.func64 (by kernel_rfl) rfl #[.int .u64 (IntKind.u64.wrap ((a0_3.size : Int)))] (by rfl) rfl rfl (by (try simp only [List.map_toArray, List.map_cons, List.map_nil]); first | done | rfl | (simp only [List.length_drop, List.length_take]; rfl)) ?_
                              with_reducible refine (bollardref1_Varint.calls kj13 (IntKind.u64.wrap ((a0_3.size : Int))) t258 _ A70.out).mono ?_
                              rintro e w85 ⟨v259, rfl, ho0, hb⟩
                              refine ⟨_, rfl, ?_⟩
                              have n0_ := Aside0.mk (Kd.R_elder' (by (with_reducible repeat (first | apply Kd.R_alloc | apply Kd.R_drewN | apply Kd.R_drew)); exact HO229.out) (Kd.R_base ho0) hb)
                              have n1_ := Aside0.mk (Kd.R_elder' (by (with_reducible repeat (first | apply Kd.R_alloc | apply Kd.R_drewN | apply Kd.R_drew)); exact HO236.out) (Kd.R_base ho0) hb)
                              have n2_ := Aside0.mk (Kd.R_elder' (by (with_reducible repeat (first | apply Kd.R_alloc | apply Kd.R_drewN | apply Kd.R_drew)); exact HO239.out) (Kd.R_base ho0) hb)
                              have n3_ := Aside0.mk (Kd.R_lower (Kd.R_new' (Kd.R_new' (Kd.R_new' ho0 (Kd.R_lt (by (with_reducible repeat (first | apply Kd.R_alloc | apply Kd.R_drewN | apply Kd.R_drew)); exact HO229.out))) (Kd.R_lt (by (with_reducible repeat (first | apply Kd.R_alloc | apply Kd.R_drewN | apply Kd.R_drew)); exact HO236.out))) (Kd.R_lt (by (with_reducible repeat (first | apply Kd.R_alloc | apply Kd.R_drewN | apply Kd.R_drew)); exact HO239.out))) (below_size (by repeat (first | (with_reducible first | exact HB.out | apply below_alloc | apply pw_below_drewN | apply below_drew1 | refine below_set ?_ GE222.out) | exact HB.out))))
                              have n4_ := Aside0.mk (blk_below (g := gb222) (o := .cells #[.bool false, .string a0_1, .bool true, .string a0_3, .int .i64 a0_4, .int .i64 a0_5] 45 (0, 0)) (by (with_reducible repeat (first | refine blk_drewN ?_ _ | refine blk_drew ?_ | refine blk_alloc ?_ _)); exact BK222.out) hb)
                              have n5_ := Aside0.mk (below_step (by repeat (first | (with_reducible first | exact HB.out | apply below_alloc | apply pw_below_drewN | apply below_drew1 | refine below_set ?_ GE222.out) | exact HB.out)) hb)
                              clear HO229
                              clear HO236
                              clear HO239
                              clear BK222
                              clear HB
                              have HO229 := n0_
                              have HO236 := n1_
                              have HO239 := n2_
                              have HO260 := n3_
                              have BK222 := n4_
                              have HB := n5_
                              clear n0_ n1_ n2_ n3_ n4_ n5_
                              (try clear hb)
                              (try clear hb2)
                              (try clear hk)
                              (try clear hi)
                              (try clear ho0)
                              obtain ⟨Ao87, co87, eo87⟩ := Kd.R_slice HO260.out
                              (first | subst eo87 | (injection eo87 with f1_ f2_ f3_; have f4_ := f1_.symm; have f5_ := f3_.symm; clear f1_ f2_ f3_; subst f4_; subst f5_))
                              refine hK.out _ _ ⟨(blk_cell BK222.out 0).trans rfl, (blk_cell BK222.out 1).trans rfl, (blk_cell BK222.out 2).trans rfl, (blk_cell BK222.out 3).trans rfl, (blk_cell BK222.out 4).trans rfl, (blk_cell BK222.out 5).trans rfl⟩ (fun hHeld => ?_)
                              clear hK K
                              refine norm_ (a' := ?_) ?_ ?_
                              rotate_left
                              · show Act.put _ (some 60) _ = _
                                simp only [Act.put, List.setIfInBounds_toArray, List.set_cons_zero, List.set_cons_succ, i64_w, i32_w]
                                rfl
                              refine one_ (i := 6) (N := some 61) #[true, true, true, true, true, true, true, true, true, false, false] rfl rfl (one_of HT_.out (by kernel_rfl)) (by decide) (fun K hK => ?_)
                              refine Kd.R_append_rows_step (Kd.int .u8) (w0 := w) w.heap.size (by rfl) (.tmp 55) (.tmp 60) 27 5 (.int .u8 0) 1 rfl Try.underlying27 info5 rfl (by decide) (by omega) v238 y237 t258 _ _ _ (fun k_ => some k_ ≠ (.slice Ao78 t227.length co78 : Value).ownBlock ∧ some k_ ≠ (.slice Ao82 t234.length co82 : Value).ownBlock ∧ some k_ ≠ (.slice Ao87 t258.length co87 : Value).ownBlock) (fun _ => False) rfl rfl ?aO ?aR (fun _ _ h => h) (fun _ h => h.elim) ?aF ?aB ?aS ?aL ?_
                              (case aR => repeat (first | exact (Kd.R_reads' HO260.out).2.2 | (with_reducible refine Kd.C_alloc ?_ _) | (with_reducible refine Kd.C_drewN ?_ _) | (with_reducible refine Kd.C_drew ?_)))
                              (case aB => exact (by repeat (first | (with_reducible first | exact HB.out | apply below_alloc | apply pw_below_drewN | apply below_drew1 | refine below_set ?_ GE222.out) | exact HB.out)))
                              (case aF => exact (fun k_ hk => ⟨Kd.fresh' (Kd.R_lt (by (with_reducible repeat (first | apply Kd.R_alloc | apply Kd.R_drewN | apply Kd.R_drew)); exact HO229.out)) k_ hk, Kd.fresh' (Kd.R_lt (by (with_reducible repeat (first | apply Kd.R_alloc | apply Kd.R_drewN | apply Kd.R_drew)); exact HO236.out)) k_ hk, Kd.fresh' (Kd.R_lt (by (with_reducible repeat (first | apply Kd.R_alloc | apply Kd.R_drewN | apply Kd.R_drew)); exact HO260.out)) k_ hk⟩))
                              (case aO => exact (by (with_reducible repeat (first | apply Kd.R_alloc | apply Kd.R_drewN | apply Kd.R_drew)); exact Kd.R_mono HO239.out (fun _ hk => ⟨hk.1.1, ⟨hk.1.2, hk.2⟩⟩)))
                              (case aS => exact (below_size (by repeat (first | (with_reducible first | exact HB.out | apply below_alloc | apply pw_below_drewN | apply below_drew1 | refine below_set ?_ GE222.out) | exact HB.out))))
                              (case aL => have := LMc71.out; omega)
                              intro v262 w86 ho hb hg hat
                              rw [← Ny261.out] at ho
                              have n0_ := Aside0.mk (blk_grown (g := gb222) (o := .cells #[.bool false, .string a0_1, .bool true, .string a0_3, .int .i64 a0_4, .int .i64 a0_5] 45 (0, 0)) (by (with_reducible repeat (first | refine blk_drewN ?_ _ | refine blk_drew ?_ | refine blk_alloc ?_ _)); exact BK222.out) hg (Kd.R_ne HO239.out BK222.out (by decide)))
                              have n1_ := Aside0.mk (Kd.R_after (ok := (fun k_ => some k_ ≠ (.slice Ao82 t234.length co82 : Value).ownBlock ∧ some k_ ≠ (.slice Ao87 t258.length co87 : Value).ownBlock)) (by (with_reducible repeat (first | apply Kd.R_alloc | apply Kd.R_drewN | apply Kd.R_drew)); exact Kd.R_mono HO229.out (fun _ hk => ⟨⟨hk.1.1, hk.2⟩, hk.1.2⟩)) hg hat)
                              have n2_ := Aside0.mk (Kd.R_after (ok := (fun k_ => some k_ ≠ (.slice Ao78 t227.length co78 : Value).ownBlock ∧ some k_ ≠ (.slice Ao87 t258.length co87 : Value).ownBlock)) (by (with_reducible repeat (first | apply Kd.R_alloc | apply Kd.R_drewN | apply Kd.R_drew)); exact Kd.R_mono HO236.out (fun _ hk => ⟨⟨hk.1.1, hk.2⟩, hk.1.2⟩)) hg hat)
                              have n3_ := Aside0.mk (Kd.R_after (ok := (fun k_ => some k_ ≠ (.slice Ao78 t227.length co78 : Value).ownBlock ∧ some k_ ≠ (.slice Ao82 t234.length co82 : Value).ownBlock)) (by (with_reducible repeat (first | apply Kd.R_alloc | apply Kd.R_drewN | apply Kd.R_drew)); exact Kd.R_mono HO260.out (fun _ hk => ⟨⟨hk.1.1.2, hk.1.2⟩, hk.2⟩)) hg hat)
                              have n4_ := Aside0.mk (hb)
                              have n5_ := Aside0.mk (ho)
                              clear BK222
                              clear HO229
                              clear HO236
                              clear HO260
                              clear HB
                              clear HO239
                              have BK222 := n0_
                              have HO229 := n1_
                              have HO236 := n2_
                              have HO260 := n3_
                              have HB := n4_
                              have HO263 := n5_
                              clear n0_ n1_ n2_ n3_ n4_ n5_
                              clear ho hb hg hat
                              refine hK.out _ _ ⟨(blk_cell BK222.out 0).trans rfl, (blk_cell BK222.out 1).trans rfl, (blk_cell BK222.out 2).trans rfl, (blk_cell BK222.out 3).trans rfl, (blk_cell BK222.out 4).trans rfl, (blk_cell BK222.out 5).trans rfl⟩ (fun hHeld => ?_)
                              clear hK K
                              refine norm_ (a' := ?_) ?_ ?_
                              rotate_left
                              · show Act.put _ (some 61) _ = _
                                simp only [Act.put, List.setIfInBounds_toArray, List.set_cons_zero, List.set_cons_succ, i64_w, i32_w]
                                rfl
                              refine one_ (i := 9) (N := some 64) #[true, true, true, true, true, true, true, true, true, true, false] rfl rfl (one_of HT_.out (by kernel_rfl)) (by decide) (fun K hK => ?_)
                              refine Kd.R_append_str_step (w0 := w) w.heap.size (by rfl) (.tmp 61) _ 27 9 5 rfl Try.underlying27 Try.underlying9 info5 v262 y261 a0_3 (fun k_ => some k_ ≠ (.slice Ao78 t227.length co78 : Value).ownBlock ∧ some k_ ≠ (.slice Ao82 t234.length co82 : Value).ownBlock ∧ some k_ ≠ (.slice Ao87 t258.length co87 : Value).ownBlock) rfl rfl ?aF ?aO ?aB ?aS ?aL ?_
                              (case aB => exact (by repeat (first | (with_reducible first | exact HB.out | apply below_alloc | apply pw_below_drewN | apply below_drew1 | refine below_set ?_ GE222.out) | exact HB.out)))
                              (case aF => exact (fun k_ hk => ⟨Kd.fresh' (Kd.R_lt (by (with_reducible repeat (first | apply Kd.R_alloc | apply Kd.R_drewN | apply Kd.R_drew)); exact HO229.out)) k_ hk, Kd.fresh' (Kd.R_lt (by (with_reducible repeat (first | apply Kd.R_alloc | apply Kd.R_drewN | apply Kd.R_drew)); exact HO236.out)) k_ hk, Kd.fresh' (Kd.R_lt (by (with_reducible repeat (first | apply Kd.R_alloc | apply Kd.R_drewN | apply Kd.R_drew)); exact HO260.out)) k_ hk⟩))
                              (case aO => exact (by (with_reducible repeat (first | apply Kd.R_alloc | apply Kd.R_drewN | apply Kd.R_drew)); exact HO263.out))
                              (case aS => exact (below_size (by repeat (first | (with_reducible first | exact HB.out | apply below_alloc | apply pw_below_drewN | apply below_drew1 | refine below_set ?_ GE222.out) | exact HB.out))))
                              (case aL => have := LMc72.out; omega)
                              intro v265 w88 ho hb hg hat
                              rw [← Ny264.out] at ho
                              have n0_ := Aside0.mk (blk_grown (g := gb222) (o := .cells #[.bool false, .string a0_1, .bool true, .string a0_3, .int .i64 a0_4, .int .i64 a0_5] 45 (0, 0)) (by (with_reducible repeat (first | refine blk_drewN ?_ _ | refine blk_drew ?_ | refine blk_alloc ?_ _)); exact BK222.out) hg (Kd.R_ne HO263.out BK222.out (by decide)))
                              have n1_ := Aside0.mk (Kd.R_after (ok := (fun k_ => some k_ ≠ (.slice Ao82 t234.length co82 : Value).ownBlock ∧ some k_ ≠ (.slice Ao87 t258.length co87 : Value).ownBlock)) (by (with_reducible repeat (first | apply Kd.R_alloc | apply Kd.R_drewN | apply Kd.R_drew)); exact HO229.out) hg hat)
                              have n2_ := Aside0.mk (Kd.R_after (ok := (fun k_ => some k_ ≠ (.slice Ao78 t227.length co78 : Value).ownBlock ∧ some k_ ≠ (.slice Ao87 t258.length co87 : Value).ownBlock)) (by (with_reducible repeat (first | apply Kd.R_alloc | apply Kd.R_drewN | apply Kd.R_drew)); exact HO236.out) hg hat)
                              have n3_ := Aside0.mk (Kd.R_after (ok := (fun k_ => some k_ ≠ (.slice Ao78 t227.length co78 : Value).ownBlock ∧ some k_ ≠ (.slice Ao82 t234.length co82 : Value).ownBlock)) (by (with_reducible repeat (first | apply Kd.R_alloc | apply Kd.R_drewN | apply Kd.R_drew)); exact HO260.out) hg hat)
                              have n4_ := Aside0.mk (hb)
                              have n5_ := Aside0.mk (ho)
                              clear BK222
                              clear HO229
                              clear HO236
                              clear HO260
                              clear HB
                              clear HO263
                              have BK222 := n0_
                              have HO229 := n1_
                              have HO236 := n2_
                              have HO260 := n3_
                              have HB := n4_
                              have HO266 := n5_
                              clear n0_ n1_ n2_ n3_ n4_ n5_
                              clear ho hb hg hat
                              refine hK.out _ _ ⟨(blk_cell BK222.out 0).trans rfl, (blk_cell BK222.out 1).trans rfl, (blk_cell BK222.out 2).trans rfl, (blk_cell BK222.out 3).trans rfl, (blk_cell BK222.out 4).trans rfl, (blk_cell BK222.out 5).trans rfl⟩ (fun hHeld => ?_)
                              clear hK K
                              refine norm_ (a' := ?_) ?_ ?_
                              rotate_left
                              · show Act.put _ (some 64) _ = _
                                simp only [Act.put, List.setIfInBounds_toArray, List.set_cons_zero, List.set_cons_succ, i64_w, i32_w]
                                rfl
                              refine pure_ (i := 10) (N := some 8) (v := ?_) (a' := ?_) #[true, true, true, true, true, true, true, true, true, true, true] rfl rfl (any_of HT_.out (by kernel_rfl)) (fun _ _ _ h => h) (Or.inl ⟨by rfl, ?_⟩) ?_ ?_
                              rotate_left
                              · intro w'
                                go_simp
                                with_reducible rfl
                              rotate_left
                              · simp only [Act.put, List.setIfInBounds_toArray, List.set_cons_zero, List.set_cons_succ, i64_w, i32_w]
                                rfl
                              refine done_ (done_of HT_.out (by kernel_rfl)) ?_
                              try go_wp2
                              go_ret2
                              exact ⟨_, by first | rfl | (simp [errW_none, errW_some] <;> rfl) | (simp [*, errW_none, errW_some] <;> rfl), by (with_reducible repeat (first | apply Kd.R_alloc | apply Kd.R_drewN | apply Kd.R_drew)); exact Kd.R_mono HO266.out (fun _ hk => trivial), by repeat (first | (with_reducible first | exact HB.out | apply below_alloc | apply pw_below_drewN | apply below_drew1 | refine below_set ?_ GE222.out) | exact HB.out)⟩
                            · rw [if_neg c72] at H
                              exact absurd H (by simp)
                          · rw [if_neg c71] at H
                            exact absurd H (by simp)
                        · replace c69 := Bool.eq_false_iff.mpr c69
                          subst c69
                          have H1 : (some (y237, 0)) = some (r1, r2) := by rw [if_neg (show ¬ (false = true) by decide)] at H; exact H
                          clear H
                          have H := H1
                          clear H1
                          simp only [Option.some.injEq, Prod.mk.injEq] at H
                          obtain ⟨rfl, rfl⟩ := H
                          go_wp2_with (first | ((with_reducible refine gate_dst (N := 27) rfl ?_); refine Kd.R_lit (Kd.int .u8) _ 5 ?hg (N := 27) ?hd (xs := ([x7_13] : List Int)) (inner := [.int .u8 x7_13]) (ok := fun _ => True) (okp := fun _ => True) ?hr ?hp (fun _ hk => hk) trivial (Below.refl _ _) (Nat.le_refl _) (by simp) ?_; (case hd => rfl); (case hg => rfl); (case hr => first | (go_simp; done) | (go_simp; rfl)); (case hp => exact (Reps.one (show Kd.M (Kd.int .u8) _ _ _ x7_13 [.int .u8 x7_13] from rfl) (Reps.none _ _))); intro v225 w89 ho90 hb hg_ hnew_; clear hg_ hnew_; (first | rw [← Ny224.out] at ho90 | (simp only [Int.reduceToNat] at ho90; rw [← Ny224.out] at ho90)); have n0_ := Aside0.mk (Kd.R_lower ho90 (below_size (by repeat (first | (with_reducible first | exact HB.out | apply below_alloc | apply pw_below_drewN | apply below_drew1 | refine below_set ?_ GE222.out) | exact HB.out)))); have n1_ := Aside0.mk (blk_below (g := gb222) (o := .cells #[.bool false, .string a0_1, .bool false, .string a0_3, .int .i64 a0_4, .int .i64 a0_5] 45 (0, 0)) (by (with_reducible repeat (first | refine blk_drewN ?_ _ | refine blk_drew ?_ | refine blk_alloc ?_ _)); exact BK222.out) hb); have n2_ := Aside0.mk (below_step (by repeat (first | (with_reducible first | exact HB.out | apply below_alloc | apply pw_below_drewN | apply below_drew1 | refine below_set ?_ GE222.out) | exact HB.out)) hb); clear BK222; clear HB; have HO226 := n0_; have BK222 := n1_; have HB := n2_; clear n0_ n1_ n2_; clear hb ho90; have hcz91_0 : w89.cell? ⟨gb222, 0, none⟩ = some (.bool false) := (blk_cell BK222.out 0).trans rfl; have hcz91_1 : w89.cell? ⟨gb222, 1, none⟩ = some (.string a0_1) := (blk_cell BK222.out 1).trans rfl; have hcz91_2 : w89.cell? ⟨gb222, 2, none⟩ = some (.bool false) := (blk_cell BK222.out 2).trans rfl; have hcz91_3 : w89.cell? ⟨gb222, 3, none⟩ = some (.string a0_3) := (blk_cell BK222.out 3).trans rfl; have hcz91_4 : w89.cell? ⟨gb222, 4, none⟩ = some (.int .i64 a0_4) := (blk_cell BK222.out 4).trans rfl; have hcz91_5 : w89.cell? ⟨gb222, 5, none⟩ = some (.int .i64 a0_5) := (blk_cell BK222.out 5).trans rfl; have hfz91_0 := blk_frozen BK222.out 0; have hfz91_1 := blk_frozen BK222.out 1; have hfz91_2 := blk_frozen BK222.out 2; have hfz91_3 := blk_frozen BK222.out 3; have hfz91_4 := blk_frozen BK222.out 4; have hfz91_5 := blk_frozen BK222.out 5) | ((with_reducible refine gate_callee (f := 64) rfl ?_); refine goesL_ (some 31) rfl rfl Try.func64 (by kernel_rfl) rfl #[.int .u64 (IntKind.u64.wrap (a0_5))] rfl (by (try simp only [List.map_toArray, List.map_cons, List.map_nil]); first | done | rfl | (simp only [List.length_drop, List.length_take]; rfl)) ?_; (with_reducible refine (bollardref1_Varint.calls kj13 (IntKind.u64.wrap (a0_5)) t227 _ A17.out).mono ?_); rintro e w92 ⟨v228, rfl, ho0, hb⟩; refine ⟨_, rfl, ?_⟩; have n0_ := Aside0.mk (Kd.R_elder' (by (with_reducible repeat (first | apply Kd.R_alloc | apply Kd.R_drewN | apply Kd.R_drew)); exact HO226.out) (Kd.R_base ho0) hb); have n1_ := Aside0.mk (Kd.R_lower (Kd.R_new' ho0 (Kd.R_lt (by (with_reducible repeat (first | apply Kd.R_alloc | apply Kd.R_drewN | apply Kd.R_drew)); exact HO226.out))) (below_size (by repeat (first | (with_reducible first | exact HB.out | apply below_alloc | apply pw_below_drewN | apply below_drew1 | refine below_set ?_ GE222.out) | exact HB.out)))); have n2_ := Aside0.mk (blk_below (g := gb222) (o := .cells #[.bool false, .string a0_1, .bool false, .string a0_3, .int .i64 a0_4, .int .i64 a0_5] 45 (0, 0)) (by (with_reducible repeat (first | refine blk_drewN ?_ _ | refine blk_drew ?_ | refine blk_alloc ?_ _)); exact BK222.out) hb); have n3_ := Aside0.mk (below_step (by repeat (first | (with_reducible first | exact HB.out | apply below_alloc | apply pw_below_drewN | apply below_drew1 | refine below_set ?_ GE222.out) | exact HB.out)) hb); clear HO226; clear BK222; clear HB; have HO226 := n0_; have HO229 := n1_; have BK222 := n2_; have HB := n3_; clear n0_ n1_ n2_ n3_; (try clear hb); (try clear hb2); (try clear hk); (try clear hi); (try clear ho0); obtain ⟨Ao94, co94, eo94⟩ := Kd.R_slice HO229.out; subst eo94) | ((with_reducible refine gate_builtin (b := .append) (xs := #[.tmp 27, .tmp 31]) rfl ?_); at_builtin; refine Kd.R_append_rows (Kd.int .u8) (w0 := w) w.heap.size rfl (.tmp 27) (.tmp 31) 27 5 (.int .u8 0) 1 rfl Try.underlying27 info5 rfl (by decide) (by omega) v225 y224 t227 _ _ _ (fun k_ => some k_ ≠ (.slice Ao94 t227.length co94 : Value).ownBlock) (fun _ => False) rfl rfl ?aO ?aR (fun _ _ h => h) (fun _ h => h.elim) ?aF ?aB ?aS ?aL ?_; (case aR => repeat (first | exact (Kd.R_reads' HO229.out).2.2 | (with_reducible refine Kd.C_alloc ?_ _) | (with_reducible refine Kd.C_drewN ?_ _) | (with_reducible refine Kd.C_drew ?_))); (case aB => exact (by repeat (first | (with_reducible first | exact HB.out | apply below_alloc | apply pw_below_drewN | apply below_drew1 | refine below_set ?_ GE222.out) | exact HB.out))); (case aF => exact (fun k_ hk => Kd.fresh' (Kd.R_lt (by (with_reducible repeat (first | apply Kd.R_alloc | apply Kd.R_drewN | apply Kd.R_drew)); exact HO229.out)) k_ hk)); (case aO => exact (by (with_reducible repeat (first | apply Kd.R_alloc | apply Kd.R_drewN | apply Kd.R_drew)); exact Kd.R_mono HO226.out (fun _ hk => hk.2))); (case aS => exact (below_size (by repeat (first | (with_reducible first | exact HB.out | apply below_alloc | apply pw_below_drewN | apply below_drew1 | refine below_set ?_ GE222.out) | exact HB.out)))); (case aL => have := LMc18.out; omega); intro v231 w93 ho hb hg hat; rw [← Ny230.out] at ho; have n0_ := Aside0.mk (blk_grown (g := gb222) (o := .cells #[.bool false, .string a0_1, .bool false, .string a0_3, .int .i64 a0_4, .int .i64 a0_5] 45 (0, 0)) (by (with_reducible repeat (first | refine blk_drewN ?_ _ | refine blk_drew ?_ | refine blk_alloc ?_ _)); exact BK222.out) hg (Kd.R_ne HO226.out BK222.out (by decide))); have n1_ := Aside0.mk (Kd.R_after (ok := (fun _ => True)) (by (with_reducible repeat (first | apply Kd.R_alloc | apply Kd.R_drewN | apply Kd.R_drew)); exact HO229.out) hg hat); have n2_ := Aside0.mk (hb); have n3_ := Aside0.mk (ho); clear BK222; clear HO229; clear HB; clear HO226; have BK222 := n0_; have HO229 := n1_; have HB := n2_; have HO232 := n3_; clear n0_ n1_ n2_ n3_; clear ho hb hg hat; have hcz95_0 : w93.cell? ⟨gb222, 0, none⟩ = some (.bool false) := (blk_cell BK222.out 0).trans rfl; have hcz95_1 : w93.cell? ⟨gb222, 1, none⟩ = some (.string a0_1) := (blk_cell BK222.out 1).trans rfl; have hcz95_2 : w93.cell? ⟨gb222, 2, none⟩ = some (.bool false) := (blk_cell BK222.out 2).trans rfl; have hcz95_3 : w93.cell? ⟨gb222, 3, none⟩ = some (.string a0_3) := (blk_cell BK222.out 3).trans rfl; have hcz95_4 : w93.cell? ⟨gb222, 4, none⟩ = some (.int .i64 a0_4) := (blk_cell BK222.out 4).trans rfl; have hcz95_5 : w93.cell? ⟨gb222, 5, none⟩ = some (.int .i64 a0_5) := (blk_cell BK222.out 5).trans rfl; have hfz95_0 := blk_frozen BK222.out 0; have hfz95_1 := blk_frozen BK222.out 1; have hfz95_2 := blk_frozen BK222.out 2; have hfz95_3 := blk_frozen BK222.out 3; have hfz95_4 := blk_frozen BK222.out 4; have hfz95_5 := blk_frozen BK222.out 5) | ((with_reducible refine gate_callee (f := 65) rfl ?_); refine goesL_ (some 38) rfl rfl Try.func65 (by kernel_rfl) rfl #[.int .i64 (wrap64 (a0_4 - a1))] rfl (by (try simp only [List.map_toArray, List.map_cons, List.map_nil]); first | done | rfl | (simp only [List.length_drop, List.length_take]; rfl)) ?_; (with_reducible refine (bollardref1_Zig.calls (wrap64 (a0_4 - a1)) t233 _ A19.out).mono ?_); rintro e w' ⟨rfl, ⟨nd, rfl⟩⟩; refine ⟨_, rfl, ?_⟩) | ((with_reducible refine gate_callee (f := 64) rfl ?_); refine goesL_ (some 39) rfl rfl Try.func64 (by kernel_rfl) rfl #[.int .u64 t233] rfl (by (try simp only [List.map_toArray, List.map_cons, List.map_nil]); first | done | rfl | (simp only [List.length_drop, List.length_take]; rfl)) ?_; (with_reducible refine (bollardref1_Varint.calls kj13 t233 t234 _ A20.out).mono ?_); rintro e w96 ⟨v235, rfl, ho0, hb⟩; refine ⟨_, rfl, ?_⟩; have n0_ := Aside0.mk (Kd.R_elder' (by (with_reducible repeat (first | apply Kd.R_alloc | apply Kd.R_drewN | apply Kd.R_drew)); exact HO229.out) (Kd.R_base ho0) hb); have n1_ := Aside0.mk (Kd.R_elder' (by (with_reducible repeat (first | apply Kd.R_alloc | apply Kd.R_drewN | apply Kd.R_drew)); exact HO232.out) (Kd.R_base ho0) hb); have n2_ := Aside0.mk (Kd.R_lower (Kd.R_new' (Kd.R_new' ho0 (Kd.R_lt (by (with_reducible repeat (first | apply Kd.R_alloc | apply Kd.R_drewN | apply Kd.R_drew)); exact HO229.out))) (Kd.R_lt (by (with_reducible repeat (first | apply Kd.R_alloc | apply Kd.R_drewN | apply Kd.R_drew)); exact HO232.out))) (below_size (by repeat (first | (with_reducible first | exact HB.out | apply below_alloc | apply pw_below_drewN | apply below_drew1 | refine below_set ?_ GE222.out) | exact HB.out)))); have n3_ := Aside0.mk (blk_below (g := gb222) (o := .cells #[.bool false, .string a0_1, .bool false, .string a0_3, .int .i64 a0_4, .int .i64 a0_5] 45 (0, 0)) (by (with_reducible repeat (first | refine blk_drewN ?_ _ | refine blk_drew ?_ | refine blk_alloc ?_ _)); exact BK222.out) hb); have n4_ := Aside0.mk (below_step (by repeat (first | (with_reducible first | exact HB.out | apply below_alloc | apply pw_below_drewN | apply below_drew1 | refine below_set ?_ GE222.out) | exact HB.out)) hb); clear HO229; clear HO232; clear BK222; clear HB; have HO229 := n0_; have HO232 := n1_; have HO236 := n2_; have BK222 := n3_; have HB := n4_; clear n0_ n1_ n2_ n3_ n4_; (try clear hb); (try clear hb2); (try clear hk); (try clear hi); (try clear ho0); obtain ⟨Ao98, co98, eo98⟩ := Kd.R_slice HO236.out; subst eo98) | ((with_reducible refine gate_builtin (b := .append) (xs := #[.tmp 33, .tmp 39]) rfl ?_); at_builtin; refine Kd.R_append_rows (Kd.int .u8) (w0 := w) w.heap.size rfl (.tmp 33) (.tmp 39) 27 5 (.int .u8 0) 1 rfl Try.underlying27 info5 rfl (by decide) (by omega) v231 y230 t234 _ _ _ (fun k_ => some k_ ≠ (.slice Ao94 t227.length co94 : Value).ownBlock ∧ some k_ ≠ (.slice Ao98 t234.length co98 : Value).ownBlock) (fun _ => False) rfl rfl ?aO ?aR (fun _ _ h => h) (fun _ h => h.elim) ?aF ?aB ?aS ?aL ?_; (case aR => repeat (first | exact (Kd.R_reads' HO236.out).2.2 | (with_reducible refine Kd.C_alloc ?_ _) | (with_reducible refine Kd.C_drewN ?_ _) | (with_reducible refine Kd.C_drew ?_))); (case aB => exact (by repeat (first | (with_reducible first | exact HB.out | apply below_alloc | apply pw_below_drewN | apply below_drew1 | refine below_set ?_ GE222.out) | exact HB.out))); (case aF => exact (fun k_ hk => ⟨Kd.fresh' (Kd.R_lt (by (with_reducible repeat (first | apply Kd.R_alloc | apply Kd.R_drewN | apply Kd.R_drew)); exact HO229.out)) k_ hk, Kd.fresh' (Kd.R_lt (by (with_reducible repeat (first | apply Kd.R_alloc | apply Kd.R_drewN | apply Kd.R_drew)); exact HO236.out)) k_ hk⟩)); (case aO => exact (by (with_reducible repeat (first | apply Kd.R_alloc | apply Kd.R_drewN | apply Kd.R_drew)); exact HO232.out)); (case aS => exact (below_size (by repeat (first | (with_reducible first | exact HB.out | apply below_alloc | apply pw_below_drewN | apply below_drew1 | refine below_set ?_ GE222.out) | exact HB.out)))); (case aL => have := LMc21.out; omega); intro v238 w97 ho hb hg hat; rw [← Ny237.out] at ho; have n0_ := Aside0.mk (blk_grown (g := gb222) (o := .cells #[.bool false, .string a0_1, .bool false, .string a0_3, .int .i64 a0_4, .int .i64 a0_5] 45 (0, 0)) (by (with_reducible repeat (first | refine blk_drewN ?_ _ | refine blk_drew ?_ | refine blk_alloc ?_ _)); exact BK222.out) hg (Kd.R_ne HO232.out BK222.out (by decide))); have n1_ := Aside0.mk (Kd.R_after (ok := (fun k_ => some k_ ≠ (.slice Ao98 t234.length co98 : Value).ownBlock)) (by (with_reducible repeat (first | apply Kd.R_alloc | apply Kd.R_drewN | apply Kd.R_drew)); exact Kd.R_mono HO229.out (fun _ hk => ⟨hk.2, hk.1.2⟩)) hg hat); have n2_ := Aside0.mk (Kd.R_after (ok := (fun k_ => some k_ ≠ (.slice Ao94 t227.length co94 : Value).ownBlock)) (by (with_reducible repeat (first | apply Kd.R_alloc | apply Kd.R_drewN | apply Kd.R_drew)); exact Kd.R_mono HO236.out (fun _ hk => ⟨hk.1.2, hk.2⟩)) hg hat); have n3_ := Aside0.mk (hb); have n4_ := Aside0.mk (ho); clear BK222; clear HO229; clear HO236; clear HB; clear HO232; have BK222 := n0_; have HO229 := n1_; have HO236 := n2_; have HB := n3_; have HO239 := n4_; clear n0_ n1_ n2_ n3_ n4_; clear ho hb hg hat; have hcz99_0 : w97.cell? ⟨gb222, 0, none⟩ = some (.bool false) := (blk_cell BK222.out 0).trans rfl; have hcz99_1 : w97.cell? ⟨gb222, 1, none⟩ = some (.string a0_1) := (blk_cell BK222.out 1).trans rfl; have hcz99_2 : w97.cell? ⟨gb222, 2, none⟩ = some (.bool false) := (blk_cell BK222.out 2).trans rfl; have hcz99_3 : w97.cell? ⟨gb222, 3, none⟩ = some (.string a0_3) := (blk_cell BK222.out 3).trans rfl; have hcz99_4 : w97.cell? ⟨gb222, 4, none⟩ = some (.int .i64 a0_4) := (blk_cell BK222.out 4).trans rfl; have hcz99_5 : w97.cell? ⟨gb222, 5, none⟩ = some (.int .i64 a0_5) := (blk_cell BK222.out 5).trans rfl; have hfz99_0 := blk_frozen BK222.out 0; have hfz99_1 := blk_frozen BK222.out 1; have hfz99_2 := blk_frozen BK222.out 2; have hfz99_3 := blk_frozen BK222.out 3; have hfz99_4 := blk_frozen BK222.out 4; have hfz99_5 := blk_frozen BK222.out 5))
                          go_ret2
                          exact ⟨_, by first | rfl | (simp [errW_none, errW_some] <;> rfl) | (simp [*, errW_none, errW_some] <;> rfl), by (with_reducible repeat (first | apply Kd.R_alloc | apply Kd.R_drewN | apply Kd.R_drew)); exact Kd.R_mono HO239.out (fun _ hk => trivial), by repeat (first | (with_reducible first | exact HB.out | apply below_alloc | apply pw_below_drewN | apply below_drew1 | refine below_set ?_ GE222.out) | exact HB.out)⟩
                    · rw [if_neg c21] at H
                      exact absurd H (by simp)
                  · rw [if_neg c18] at H
                    exact absurd H (by simp)
  · rw [if_neg c4] at H
    have c4b0 : (t223 == 0) = false := beq_eq_false_iff_ne.mpr c4
    have c4b1 : (t223 != 0) = true := bne_iff_ne.mpr c4
    simp only [Option.some.injEq, Prod.mk.injEq] at H
    obtain ⟨rfl, rfl⟩ := H
    go_enter Try.func47, Try.ntmps47
    go_wp2_with (first | ((with_reducible refine gate_dst (N := 2) rfl ?_); refine box_event ?hg (N := 2) ?hd (cs := #[.bool a0_0, .string a0_1, .bool a0_2, .string a0_3, .int .i64 a0_4, .int .i64 a0_5]) (t := 45) ?hr ?_; (case hd => rfl); (case hg => rfl); (case hr => first | (go_simp; done) | (go_simp; rfl)); intro gb222 hg w100 hbox hb; have n0_ := Aside0.mk (below_step (by repeat (first | (with_reducible first | exact HB.out | apply below_alloc | apply pw_below_drewN | apply below_drew1) | exact HB.out)) hb); have n1_ := Aside0.mk (hbox); have n2_ := Aside0.mk ((by rw [hg]; exact (below_size (by repeat (first | (with_reducible first | exact HB.out | apply below_alloc | apply pw_below_drewN | apply below_drew1) | exact HB.out))) : w.heap.size ≤ gb222)); have n3_ := Aside0.mk ((by rw [hg]; exact (below_size (by repeat (first | (with_reducible first | exact HB.out | apply below_alloc | apply pw_below_drewN | apply below_drew1) | exact HB.out))) : w.heap.size ≤ gb222)); clear HB; have HB := n0_; have BK222 := n1_; have GW222 := n2_; have GE222 := n3_; clear n0_ n1_ n2_ n3_; clear hb hbox hg; have hcz101_0 : w100.cell? ⟨gb222, 0, none⟩ = some (.bool a0_0) := (blk_cell BK222.out 0).trans rfl; have hcz101_1 : w100.cell? ⟨gb222, 1, none⟩ = some (.string a0_1) := (blk_cell BK222.out 1).trans rfl; have hcz101_2 : w100.cell? ⟨gb222, 2, none⟩ = some (.bool a0_2) := (blk_cell BK222.out 2).trans rfl; have hcz101_3 : w100.cell? ⟨gb222, 3, none⟩ = some (.string a0_3) := (blk_cell BK222.out 3).trans rfl; have hcz101_4 : w100.cell? ⟨gb222, 4, none⟩ = some (.int .i64 a0_4) := (blk_cell BK222.out 4).trans rfl; have hcz101_5 : w100.cell? ⟨gb222, 5, none⟩ = some (.int .i64 a0_5) := (blk_cell BK222.out 5).trans rfl; have hfz101_0 := blk_frozen BK222.out 0; have hfz101_1 := blk_frozen BK222.out 1; have hfz101_2 := blk_frozen BK222.out 2; have hfz101_3 := blk_frozen BK222.out 3; have hfz101_4 := blk_frozen BK222.out 4; have hfz101_5 := blk_frozen BK222.out 5) | ((with_reducible refine gate_callee (f := 31) rfl ?_); refine goesL_ (some 10) rfl rfl Try.func31 (by kernel_rfl) rfl #[.agg #[.bool a0_0, .string a0_1, .bool a0_2, .string a0_3, .int .i64 a0_4, .int .i64 a0_5]] rfl (by (try simp only [List.map_toArray, List.map_cons, List.map_nil]); first | done | rfl | (simp only [List.length_drop, List.length_take]; rfl)) ?_; (with_reducible refine (bollardref12_Check.calls a0_0 a0_1 a0_2 a0_3 a0_4 a0_5 t223 _ A3.out).mono ?_); rintro e w102 ⟨rfl, hb⟩; refine ⟨_, rfl, ?_⟩; have n0_ := Aside0.mk (blk_below (g := gb222) (o := .cells #[.bool a0_0, .string a0_1, .bool a0_2, .string a0_3, .int .i64 a0_4, .int .i64 a0_5] 45 (0, 0)) (by (with_reducible repeat (first | refine blk_drewN ?_ _ | refine blk_drew ?_ | refine blk_alloc ?_ _)); exact BK222.out) hb); have n1_ := Aside0.mk (below_step (by repeat (first | (with_reducible first | exact HB.out | apply below_alloc | apply pw_below_drewN | apply below_drew1 | refine below_set ?_ GE222.out) | exact HB.out)) hb); clear BK222; clear HB; have BK222 := n0_; have HB := n1_; clear n0_ n1_; (try clear hb); (try clear hb2); (try clear hk); (try clear hi)))
    go_ret2
    exact ⟨_, by first | rfl | (simp [errW_none, errW_some] <;> rfl) | (simp [*, errW_none, errW_some] <;> rfl), by first | exact Kd.R_nil _ _ _ _ _ | exact Kd.N_nil _ _ _ _ _ | exact Kd.V_nil _ _ _ _ _ | exact Kd.Q_nil _ _ _ _ _ | exact Kd.S_nil _ _ _ _ _, by repeat (first | (with_reducible first | exact HB.out | apply below_alloc | apply pw_below_drewN | apply below_drew1 | refine below_set ?_ GE222.out) | exact HB.out)⟩

end Go.Proofs.Ytgmeellapjimgaa.PBa
