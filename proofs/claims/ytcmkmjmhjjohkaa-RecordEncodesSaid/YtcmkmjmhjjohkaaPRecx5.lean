-- written by a program of this session (wip/tools/pr.py, over the kit's printer): not by hand
import Derived.Test.YtcmkmjmhjjohkaaPRecx0
import Derived.Test.YtcmkmjmhjjohkaaPRecx4
namespace Go.Proofs.Ytcmkmjmhjjohkaa.PRec
open Go.RowKit Go.Proofs.YtcmkmjmhjjohkaaW.PrintWords Go.Proofs.YtcmkmjmhjjohkaaW.PrintLast Go.Proofs.YtcmkmjmhjjohkaaW.PrintMore
attribute [local go_sem] max2_int min2_int max_two min_two max_three min_three max_four min_four   -- for this text's walks alone
set_option linter.unusedVariables false
set_option linter.unusedSimpArgs false

/-! ### bollardref12_Encode: function 12 -/
mutual
def bollardref12_Encode.j0 : Nat → Int → Bool → Bool → ByteArray → Bool → ByteArray → Int → Int → Option (List Int × Int)
  | 0, _, _, _, _, _, _, _, _ => none
  | k + 1, x1, x19, x171000, x171001, x171002, x171003, x171004, x171005 => if x19 = true then (some (([] : List Int), 1)) else (if x171000 = true then (bollardref12_Encode.j1 k x1 1 x171000 x171001 x171002 x171003 x171004 x171005) else (bollardref12_Encode.j1 k x1 0 x171000 x171001 x171002 x171003 x171004 x171005))
def bollardref12_Encode.j1 : Nat → Int → Int → Bool → ByteArray → Bool → ByteArray → Int → Int → Option (List Int × Int)
  | 0, _, _, _, _, _, _, _, _ => none
  | k + 1, x1, x7, x171000, x171001, x171002, x171003, x171004, x171005 => if x171002 = true then (bollardref12_Encode.j2 k x1 (Go.bits .or .u8 x7 2) x171000 x171001 x171002 x171003 x171004 x171005) else (bollardref12_Encode.j2 k x1 x7 x171000 x171001 x171002 x171003 x171004 x171005)
def bollardref12_Encode.j2 : Nat → Int → Int → Bool → ByteArray → Bool → ByteArray → Int → Int → Option (List Int × Int)
  | 0, _, _, _, _, _, _, _, _ => none
  | k + 1, x1, x7, x171000, x171001, x171002, x171003, x171004, x171005 => (some (([x7] : List Int) : List Int)).bind fun y172 => ((bollardref1_Varint.f k (IntKind.u64.wrap (x171005))).bind fun t175 => (if y172.length + t175.length < 140737488355328 then ((some (y172 ++ t175 : List Int)).bind fun y178 => ((bollardref1_Zig.f (wrap64 (x171004 - x1))).bind fun t181 => ((bollardref1_Varint.f k t181).bind fun t182 => (if y178.length + t182.length < 140737488355328 then ((some (y178 ++ t182 : List Int)).bind fun y185 => (if x171000 = true then ((bollardref1_Varint.f k (IntKind.u64.wrap ((x171001.size : Int)))).bind fun t188 => (if y185.length + t188.length < 140737488355328 then ((some (y185 ++ t188 : List Int)).bind fun y191 => (if y191.length + x171001.size < 140737488355328 then ((some (y191 ++ bytesOf x171001 : List Int)).bind fun y194 => (if x171002 = true then ((bollardref1_Varint.f k (IntKind.u64.wrap ((x171003.size : Int)))).bind fun t197 => (if y194.length + t197.length < 140737488355328 then ((some (y194 ++ t197 : List Int)).bind fun y200 => (if y200.length + x171003.size < 140737488355328 then (some ((y200 ++ bytesOf x171003), 0)) else (none))) else (none))) else (some (y194, 0)))) else (none))) else (none))) else (if x171002 = true then ((bollardref1_Varint.f k (IntKind.u64.wrap ((x171003.size : Int)))).bind fun t206 => (if y185.length + t206.length < 140737488355328 then ((some (y185 ++ t206 : List Int)).bind fun y209 => (if y209.length + x171003.size < 140737488355328 then (some ((y209 ++ bytesOf x171003), 0)) else (none))) else (none))) else (some (y185, 0))))) else (none))))) else (none)))
end
def bollardref12_Encode.f (k : Nat) (a0_0 : Bool) (a0_1 : ByteArray) (a0_2 : Bool) (a0_3 : ByteArray) (a0_4 : Int) (a0_5 : Int) (a1 : Int) : Option (List Int × Int) := (bollardref12_Check.f a0_0 a0_1 a0_2 a0_3 a0_4 a0_5).bind fun t171 => (if t171 = 0 then (if a1 < 0 then (bollardref12_Encode.j0 k a1 true a0_0 a0_1 a0_2 a0_3 a0_4 a0_5) else (bollardref12_Encode.j0 k a1 (decide (a1 > 1125899906842624)) a0_0 a0_1 a0_2 a0_3 a0_4 a0_5)) else (some (([] : List Int), t171)))
theorem bollardref12_Encode.mono_l : ∀ k, (∀ y0 y1 y2 y3 y4 y5 y6 y7, LeO (bollardref12_Encode.j0 k y0 y1 y2 y3 y4 y5 y6 y7) (bollardref12_Encode.j0 (k + 1) y0 y1 y2 y3 y4 y5 y6 y7)) ∧ (∀ y0 y1 y2 y3 y4 y5 y6 y7, LeO (bollardref12_Encode.j1 k y0 y1 y2 y3 y4 y5 y6 y7) (bollardref12_Encode.j1 (k + 1) y0 y1 y2 y3 y4 y5 y6 y7)) ∧ (∀ y0 y1 y2 y3 y4 y5 y6 y7, LeO (bollardref12_Encode.j2 k y0 y1 y2 y3 y4 y5 y6 y7) (bollardref12_Encode.j2 (k + 1) y0 y1 y2 y3 y4 y5 y6 y7))
  | 0 => ⟨fun _ _ _ _ _ _ _ _ r h => by simp [bollardref12_Encode.j0] at h, fun _ _ _ _ _ _ _ _ r h => by simp [bollardref12_Encode.j1] at h, fun _ _ _ _ _ _ _ _ r h => by simp [bollardref12_Encode.j2] at h⟩
  | k + 1 => by
    obtain ⟨ih0, ih1, ih2⟩ := bollardref12_Encode.mono_l k
    refine ⟨?_, ?_, ?_⟩
    · intro y0 y1 y2 y3 y4 y5 y6 y7
      unfold bollardref12_Encode.j0
      repeat' first
      | (with_reducible exact ih0 _ _ _ _ _ _ _ _)
      | (with_reducible exact ih1 _ _ _ _ _ _ _ _)
      | (with_reducible exact ih2 _ _ _ _ _ _ _ _)
      | (with_reducible exact bollardref1_Varint.mono _ _)
      | (with_reducible exact LeO.refl _)
      | (with_reducible exact LeO.none _)
      | (with_reducible refine LeO.ite ?_ ?_)
      | (with_reducible refine LeO.bind ?_ (fun _ => ?_))
      | exact ih0 _ _ _ _ _ _ _ _
      | exact ih1 _ _ _ _ _ _ _ _
      | exact ih2 _ _ _ _ _ _ _ _
      | exact bollardref1_Varint.mono _ _
      | exact LeO.none _
      | refine LeO.ite ?_ ?_
      | refine LeO.bind ?_ (fun _ => ?_)
    · intro y0 y1 y2 y3 y4 y5 y6 y7
      unfold bollardref12_Encode.j1
      repeat' first
      | (with_reducible exact ih0 _ _ _ _ _ _ _ _)
      | (with_reducible exact ih1 _ _ _ _ _ _ _ _)
      | (with_reducible exact ih2 _ _ _ _ _ _ _ _)
      | (with_reducible exact bollardref1_Varint.mono _ _)
      | (with_reducible exact LeO.refl _)
      | (with_reducible exact LeO.none _)
      | (with_reducible refine LeO.ite ?_ ?_)
      | (with_reducible refine LeO.bind ?_ (fun _ => ?_))
      | exact ih0 _ _ _ _ _ _ _ _
      | exact ih1 _ _ _ _ _ _ _ _
      | exact ih2 _ _ _ _ _ _ _ _
      | exact bollardref1_Varint.mono _ _
      | exact LeO.none _
      | refine LeO.ite ?_ ?_
      | refine LeO.bind ?_ (fun _ => ?_)
    · intro y0 y1 y2 y3 y4 y5 y6 y7
      unfold bollardref12_Encode.j2
      repeat' first
      | (with_reducible exact ih0 _ _ _ _ _ _ _ _)
      | (with_reducible exact ih1 _ _ _ _ _ _ _ _)
      | (with_reducible exact ih2 _ _ _ _ _ _ _ _)
      | (with_reducible exact bollardref1_Varint.mono _ _)
      | (with_reducible exact LeO.refl _)
      | (with_reducible exact LeO.none _)
      | (with_reducible refine LeO.ite ?_ ?_)
      | (with_reducible refine LeO.bind ?_ (fun _ => ?_))
      | exact ih0 _ _ _ _ _ _ _ _
      | exact ih1 _ _ _ _ _ _ _ _
      | exact ih2 _ _ _ _ _ _ _ _
      | exact bollardref1_Varint.mono _ _
      | exact LeO.none _
      | refine LeO.ite ?_ ?_
      | refine LeO.bind ?_ (fun _ => ?_)
theorem bollardref12_Encode.mono : ∀ a0 a1 a2 a3 a4 a5 a6 k, LeO (bollardref12_Encode.f k a0 a1 a2 a3 a4 a5 a6) (bollardref12_Encode.f (k + 1) a0 a1 a2 a3 a4 a5 a6) := by
  intro a0 a1 a2 a3 a4 a5 a6 k
  obtain ⟨ih0, ih1, ih2⟩ := bollardref12_Encode.mono_l k
  unfold bollardref12_Encode.f
  repeat' first
      | (with_reducible exact ih0 _ _ _ _ _ _ _ _)
      | (with_reducible exact ih1 _ _ _ _ _ _ _ _)
      | (with_reducible exact ih2 _ _ _ _ _ _ _ _)
      | (with_reducible exact bollardref1_Varint.mono _ _)
      | (with_reducible exact LeO.refl _)
      | (with_reducible exact LeO.none _)
      | (with_reducible refine LeO.ite ?_ ?_)
      | (with_reducible refine LeO.bind ?_ (fun _ => ?_))
      | exact ih0 _ _ _ _ _ _ _ _
      | exact ih1 _ _ _ _ _ _ _ _
      | exact ih2 _ _ _ _ _ _ _ _
      | exact bollardref1_Varint.mono _ _
      | exact LeO.none _
      | refine LeO.ite ?_ ?_
      | refine LeO.bind ?_ (fun _ => ?_)
def bollardref12_Encode.T14 : Bool × List (List Nat × List Nat) := (true, [([], []), ([], []), ([1], [1]), ([2], [2]), ([3], [3]), ([4], [4]), ([0, 5, 5], [0, 5]), ([], []), ([7], [7]), ([6, 8, 6], [6, 8]), ([9, 9, 0, 1, 2, 3, 4, 5, 6, 7, 8, 9], [0, 9])])
def bollardref12_Encode.B14 : List Nat := [0, 0, 2, 6, 14, 30, 63, 0, 128, 511, 1023]
theorem bollardref12_Encode.tab14 : rtab .any (opsOf Try.f12 14) = bollardref12_Encode.T14 := by kernel_rfl
theorem bollardref12_Encode.bits14 : waitsOk bollardref12_Encode.T14.2 bollardref12_Encode.B14 = true := by kernel_rfl
def bollardref12_Encode.T16 : Bool × List (List Nat × List Nat) := (true, [([], []), ([], []), ([1], [1]), ([2], [2]), ([3], [3]), ([4], [4]), ([0, 5, 5], [0, 5]), ([], []), ([7], [7]), ([6, 8, 6], [6, 8]), ([9, 9, 0, 1, 2, 3, 4, 5, 6, 7, 8, 9], [0, 9])])
def bollardref12_Encode.B16 : List Nat := [0, 0, 2, 6, 14, 30, 63, 0, 128, 511, 1023]
theorem bollardref12_Encode.tab16 : rtab .any (opsOf Try.f12 16) = bollardref12_Encode.T16 := by kernel_rfl
theorem bollardref12_Encode.bits16 : waitsOk bollardref12_Encode.T16.2 bollardref12_Encode.B16 = true := by kernel_rfl
set_option maxHeartbeats 8000000 in
set_option maxRecDepth 100000 in
theorem bollardref12_Encode.calls (k : Nat) (a0_0 : Bool) (a0_1 : ByteArray) (a0_2 : Bool) (a0_3 : ByteArray) (a0_4 : Int) (a0_5 : Int) (a1 : Int) (r1 : List Int) (r2 : Int) (w : World) (h : bollardref12_Encode.f k a0_0 a0_1 a0_2 a0_3 a0_4 a0_5 a1 = some (r1, r2)) :
    Calls Try.prog 12 #[.agg #[.bool a0_0, .string a0_1, .bool a0_2, .string a0_3, .int .i64 a0_4, .int .i64 a0_5], .int .i64 a1] w fun e w' => ∃ v0_ : Value, e = .returned (.tuple #[v0_, .int .i64 r2]) ∧ Kd.R (Kd.int .u8) 5 w' w.heap.size (fun _ => True) v0_ r1 ∧ Below w.heap.size w w' := by
  have hu23 := Try.underlying23
  have HB := Aside0.mk (Below.refl w.heap.size w)
  have H : ((bollardref12_Check.f a0_0 a0_1 a0_2 a0_3 a0_4 a0_5).bind fun t171 => (if t171 = 0 then (if a1 < 0 then (bollardref12_Encode.j0 k a1 true a0_0 a0_1 a0_2 a0_3 a0_4 a0_5) else (bollardref12_Encode.j0 k a1 (decide (a1 > 1125899906842624)) a0_0 a0_1 a0_2 a0_3 a0_4 a0_5)) else (some (([] : List Int), t171)))) = some (r1, r2) := h
  clear h
  replace H := Option.bind_eq_some_iff.mp H
  obtain ⟨t171, A30, H⟩ := H
  replace H : (if t171 = 0 then (if a1 < 0 then (bollardref12_Encode.j0 k a1 true a0_0 a0_1 a0_2 a0_3 a0_4 a0_5) else (bollardref12_Encode.j0 k a1 (decide (a1 > 1125899906842624)) a0_0 a0_1 a0_2 a0_3 a0_4 a0_5)) else (some (([] : List Int), t171))) = some (r1, r2) := H
  have A3 := Aside0.mk A30
  clear A30
  by_cases c4 : t171 = 0
  · rw [if_pos c4] at H
    have c4b0 : (t171 == 0) = true := beq_iff_eq.mpr c4
    have c4b1 : (t171 != 0) = false := bne_eq_false_iff_eq.mpr c4
    clear c4
    have HC5 := Aside0.mk H
    clear H
    go_enter Try.func12, Try.ntmps12
    go_upto_region 4 with (first | ((with_reducible refine gate_dst (N := 2) rfl ?_); refine box_event ?hg (N := 2) ?hd (cs := #[.bool a0_0, .string a0_1, .bool a0_2, .string a0_3, .int .i64 a0_4, .int .i64 a0_5]) (t := 23) ?hr ?_; (case hd => rfl); (case hg => rfl); (case hr => first | (go_simp; done) | (go_simp; rfl)); intro gb170 hg w6 hbox hb; have n0_ := Aside0.mk (below_step (by repeat (first | (with_reducible first | exact HB.out | apply below_alloc | apply pw_below_drewN | apply below_drew1) | exact HB.out)) hb); have n1_ := Aside0.mk (hbox); have n2_ := Aside0.mk ((by rw [hg]; exact (below_size (by repeat (first | (with_reducible first | exact HB.out | apply below_alloc | apply pw_below_drewN | apply below_drew1) | exact HB.out))) : w.heap.size ≤ gb170)); have n3_ := Aside0.mk ((by rw [hg]; exact (below_size (by repeat (first | (with_reducible first | exact HB.out | apply below_alloc | apply pw_below_drewN | apply below_drew1) | exact HB.out))) : w.heap.size ≤ gb170)); clear HB; have HB := n0_; have BK170 := n1_; have GW170 := n2_; have GE170 := n3_; clear n0_ n1_ n2_ n3_; clear hb hbox hg; have hcz7_0 : w6.cell? ⟨gb170, 0, none⟩ = some (.bool a0_0) := (blk_cell BK170.out 0).trans rfl; have hcz7_1 : w6.cell? ⟨gb170, 1, none⟩ = some (.string a0_1) := (blk_cell BK170.out 1).trans rfl; have hcz7_2 : w6.cell? ⟨gb170, 2, none⟩ = some (.bool a0_2) := (blk_cell BK170.out 2).trans rfl; have hcz7_3 : w6.cell? ⟨gb170, 3, none⟩ = some (.string a0_3) := (blk_cell BK170.out 3).trans rfl; have hcz7_4 : w6.cell? ⟨gb170, 4, none⟩ = some (.int .i64 a0_4) := (blk_cell BK170.out 4).trans rfl; have hcz7_5 : w6.cell? ⟨gb170, 5, none⟩ = some (.int .i64 a0_5) := (blk_cell BK170.out 5).trans rfl; have hfz7_0 := blk_frozen BK170.out 0; have hfz7_1 := blk_frozen BK170.out 1; have hfz7_2 := blk_frozen BK170.out 2; have hfz7_3 := blk_frozen BK170.out 3; have hfz7_4 := blk_frozen BK170.out 4; have hfz7_5 := blk_frozen BK170.out 5) | ((with_reducible refine gate_callee (f := 15) rfl ?_); refine goesL_ (some 10) rfl rfl Try.func15 (by kernel_rfl) rfl #[.agg #[.bool a0_0, .string a0_1, .bool a0_2, .string a0_3, .int .i64 a0_4, .int .i64 a0_5]] rfl (by (try simp only [List.map_toArray, List.map_cons, List.map_nil]); first | done | rfl | (simp only [List.length_drop, List.length_take]; rfl)) ?_; (with_reducible refine (bollardref12_Check.calls a0_0 a0_1 a0_2 a0_3 a0_4 a0_5 t171 _ A3.out).mono ?_); rintro e w8 ⟨rfl, hb⟩; refine ⟨_, rfl, ?_⟩; have n0_ := Aside0.mk (blk_below (g := gb170) (o := .cells #[.bool a0_0, .string a0_1, .bool a0_2, .string a0_3, .int .i64 a0_4, .int .i64 a0_5] 23 (0, 0)) (by (with_reducible repeat (first | refine blk_drewN ?_ _ | refine blk_drew ?_ | refine blk_alloc ?_ _)); exact BK170.out) hb); have n1_ := Aside0.mk (below_step (by repeat (first | (with_reducible first | exact HB.out | apply below_alloc | apply pw_below_drewN | apply below_drew1 | refine below_set ?_ GE170.out) | exact HB.out)) hb); clear BK170; clear HB; have BK170 := n0_; have HB := n1_; clear n0_ n1_; (try clear hb); (try clear hb2); (try clear hk); (try clear hi)))
    (try simp only [Act.put, List.setIfInBounds_toArray, List.set_cons_zero, List.set_cons_succ])
    go_cut [19] (fun v19 wc => ∃ (kq : Nat) (x19_4 : Bool), v19 = .bool x19_4 ∧ Aside0 (bollardref12_Encode.j0 kq a1 x19_4 a0_0 a0_1 a0_2 a0_3 a0_4 a0_5 = some (r1, r2)) ∧ Aside0 (kq ≤ k) ∧ Aside0 (wc.heap[gb170]? = some (.cells #[.bool a0_0, .string a0_1, .bool a0_2, .string a0_3, .int .i64 a0_4, .int .i64 a0_5] 23 (0, 0))) ∧ Aside0 (Below w.heap.size w wc))
    case first =>
      have H := HC5.out
      clear HC5
      by_cases c9 : a1 < 0
      · rw [if_pos c9] at H
        have c9b0 : decide (a1 < 0) = true := decide_eq_true c9
        clear c9
        (first | rw [c9b0] | (simp only [i64_w, i32_w]; rw [c9b0]) | skip)
        have H' := Aside0.mk H
        clear H
        go_wp2
        go_meet
        case rel => exact ⟨_, (true), (by first | rfl | (simp; done) | (simp [*]; done) | exact congrArg Value.bool (ne_empty _) | exact congrArg Value.bool (eq_empty _)), H', ⟨by first | omega | exact Nat.le_refl _⟩, ⟨by (with_reducible repeat (first | refine blk_drewN ?_ _ | refine blk_drew ?_ | refine blk_alloc ?_ _)); exact BK170.out⟩, ⟨by repeat (first | (with_reducible first | exact HB.out | apply below_alloc | apply pw_below_drewN | apply below_drew1 | refine below_set ?_ GE170.out) | exact HB.out)⟩⟩
      · rw [if_neg c9] at H
        have c9b0 : decide (a1 < 0) = false := decide_eq_false c9
        clear c9
        (first | rw [c9b0] | (simp only [i64_w, i32_w]; rw [c9b0]) | skip)
        have H' := Aside0.mk H
        clear H
        go_wp2
        go_meet
        case rel => exact ⟨_, (decide (a1 > 1125899906842624)), (by first | rfl | (simp; done) | (simp [*]; done) | exact congrArg Value.bool (ne_empty _) | exact congrArg Value.bool (eq_empty _)), H', ⟨by first | omega | exact Nat.le_refl _⟩, ⟨by (with_reducible repeat (first | refine blk_drewN ?_ _ | refine blk_drew ?_ | refine blk_alloc ?_ _)); exact BK170.out⟩, ⟨by repeat (first | (with_reducible first | exact HB.out | apply below_alloc | apply pw_below_drewN | apply below_drew1 | refine below_set ?_ GE170.out) | exact HB.out)⟩⟩
    case rest =>
      clear HC5
      try clear c1
      try clear p2
      try clear c4
      try clear c4b0
      try clear c4b1
      try clear c9
      try clear c9b0
      try clear hcz7_0
      try clear hcz7_1
      try clear hcz7_2
      try clear hcz7_3
      try clear hcz7_4
      try clear hcz7_5
      try clear hfz7_0
      try clear hfz7_1
      try clear hfz7_2
      try clear hfz7_3
      try clear hfz7_4
      try clear hfz7_5
      obtain ⟨kq, x19_4, rfl, HA, HJ4, BK170, HB⟩ := hcut
      cases kq with
      | zero => exact absurd HA.out (by simp [bollardref12_Encode.j0])
      | succ kj4 =>
        have H := HA.out
        clear HA
        simp only [bollardref12_Encode.j0] at H
        by_cases c10 : x19_4 = true
        · subst c10
          have H1 : (some (([] : List Int), 1)) = some (r1, r2) := by rw [if_pos rfl] at H; exact H
          clear H
          have H := H1
          clear H1
          simp only [Option.some.injEq, Prod.mk.injEq] at H
          obtain ⟨rfl, rfl⟩ := H
          go_wp2
          go_ret2
          exact ⟨_, by first | rfl | (simp [errW_none, errW_some] <;> rfl) | (simp [*, errW_none, errW_some] <;> rfl), by first | exact Kd.R_nil _ _ _ _ _ | exact Kd.N_nil _ _ _ _ _ | exact Kd.V_nil _ _ _ _ _ | exact Kd.Q_nil _ _ _ _ _ | exact Kd.S_nil _ _ _ _ _, by repeat (first | (with_reducible first | exact HB.out | apply below_alloc | apply pw_below_drewN | apply below_drew1 | refine below_set ?_ GE170.out) | exact HB.out)⟩
        · replace c10 := Bool.eq_false_iff.mpr c10
          subst c10
          have H1 : (if a0_0 = true then (bollardref12_Encode.j1 kj4 a1 1 a0_0 a0_1 a0_2 a0_3 a0_4 a0_5) else (bollardref12_Encode.j1 kj4 a1 0 a0_0 a0_1 a0_2 a0_3 a0_4 a0_5)) = some (r1, r2) := by rw [if_neg (show ¬ (false = true) by decide)] at H; exact H
          clear H
          have H := H1
          clear H1
          have HC11 := Aside0.mk H
          clear H
          have hcz12_0 : wc.cell? ⟨gb170, 0, none⟩ = some (.bool a0_0) := (blk_cell BK170.out 0).trans rfl
          have hcz12_1 : wc.cell? ⟨gb170, 1, none⟩ = some (.string a0_1) := (blk_cell BK170.out 1).trans rfl
          have hcz12_2 : wc.cell? ⟨gb170, 2, none⟩ = some (.bool a0_2) := (blk_cell BK170.out 2).trans rfl
          have hcz12_3 : wc.cell? ⟨gb170, 3, none⟩ = some (.string a0_3) := (blk_cell BK170.out 3).trans rfl
          have hcz12_4 : wc.cell? ⟨gb170, 4, none⟩ = some (.int .i64 a0_4) := (blk_cell BK170.out 4).trans rfl
          have hcz12_5 : wc.cell? ⟨gb170, 5, none⟩ = some (.int .i64 a0_5) := (blk_cell BK170.out 5).trans rfl
          have hfz12_0 := blk_frozen BK170.out 0
          have hfz12_1 := blk_frozen BK170.out 1
          have hfz12_2 := blk_frozen BK170.out 2
          have hfz12_3 := blk_frozen BK170.out 3
          have hfz12_4 := blk_frozen BK170.out 4
          have hfz12_5 := blk_frozen BK170.out 5
          go_upto_if 21 with (fail)
          go_cut [7] (fun v7 wc => ∃ (kq : Nat) (x7_10 : Int), v7 = .int .u8 x7_10 ∧ Aside0 (bollardref12_Encode.j1 kq a1 x7_10 a0_0 a0_1 a0_2 a0_3 a0_4 a0_5 = some (r1, r2)) ∧ Aside0 (kq ≤ kj4) ∧ Aside0 (wc.heap[gb170]? = some (.cells #[.bool a0_0, .string a0_1, .bool a0_2, .string a0_3, .int .i64 a0_4, .int .i64 a0_5] 23 (0, 0))) ∧ Aside0 (Below w.heap.size w wc))
          case first =>
            have H := HC11.out
            clear HC11
            by_cases c13 : a0_0 = true
            · subst c13
              have H1 : (bollardref12_Encode.j1 kj4 a1 1 true a0_1 a0_2 a0_3 a0_4 a0_5) = some (r1, r2) := by rw [if_pos rfl] at H; exact H
              clear H
              have H := H1
              clear H1
              have H' := Aside0.mk H
              clear H
              go_wp2
              go_meet
              case rel => exact ⟨_, (1), (by first | rfl | (simp; done) | (simp [*]; done) | exact congrArg Value.bool (ne_empty _) | exact congrArg Value.bool (eq_empty _)), H', ⟨by have := HJ4.out; first | omega | exact Nat.le_refl _⟩, ⟨by (with_reducible repeat (first | refine blk_drewN ?_ _ | refine blk_drew ?_ | refine blk_alloc ?_ _)); exact BK170.out⟩, ⟨by repeat (first | (with_reducible first | exact HB.out | apply below_alloc | apply pw_below_drewN | apply below_drew1 | refine below_set ?_ GE170.out) | exact HB.out)⟩⟩
            · replace c13 := Bool.eq_false_iff.mpr c13
              subst c13
              have H1 : (bollardref12_Encode.j1 kj4 a1 0 false a0_1 a0_2 a0_3 a0_4 a0_5) = some (r1, r2) := by rw [if_neg (show ¬ (false = true) by decide)] at H; exact H
              clear H
              have H := H1
              clear H1
              have H' := Aside0.mk H
              clear H
              go_wp2
              go_meet
              case rel => exact ⟨_, (0), (by first | rfl | (simp; done) | (simp [*]; done) | exact congrArg Value.bool (ne_empty _) | exact congrArg Value.bool (eq_empty _)), H', ⟨by have := HJ4.out; first | omega | exact Nat.le_refl _⟩, ⟨by (with_reducible repeat (first | refine blk_drewN ?_ _ | refine blk_drew ?_ | refine blk_alloc ?_ _)); exact BK170.out⟩, ⟨by repeat (first | (with_reducible first | exact HB.out | apply below_alloc | apply pw_below_drewN | apply below_drew1 | refine below_set ?_ GE170.out) | exact HB.out)⟩⟩
          case rest =>
            clear HC11
            try clear c1
            try clear p2
            try clear c4
            try clear c4b0
            try clear c4b1
            try clear c9
            try clear c9b0
            try clear c10
            try clear c12
            try clear c13
            try clear hcz12_0
            try clear hcz12_1
            try clear hcz12_2
            try clear hcz12_3
            try clear hcz12_4
            try clear hcz12_5
            try clear hcz7_0
            try clear hcz7_1
            try clear hcz7_2
            try clear hcz7_3
            try clear hcz7_4
            try clear hcz7_5
            try clear hfz12_0
            try clear hfz12_1
            try clear hfz12_2
            try clear hfz12_3
            try clear hfz12_4
            try clear hfz12_5
            try clear hfz7_0
            try clear hfz7_1
            try clear hfz7_2
            try clear hfz7_3
            try clear hfz7_4
            try clear hfz7_5
            try clear p2
            obtain ⟨kq, x7_10, rfl, HA, HJ10, BK170, HB⟩ := hcut
            cases kq with
            | zero => exact absurd HA.out (by simp [bollardref12_Encode.j1])
            | succ kj10 =>
              have H := HA.out
              clear HA
              simp only [bollardref12_Encode.j1] at H
              have HC14 := Aside0.mk H
              clear H
              have hcz15_0 : wc.cell? ⟨gb170, 0, none⟩ = some (.bool a0_0) := (blk_cell BK170.out 0).trans rfl
              have hcz15_1 : wc.cell? ⟨gb170, 1, none⟩ = some (.string a0_1) := (blk_cell BK170.out 1).trans rfl
              have hcz15_2 : wc.cell? ⟨gb170, 2, none⟩ = some (.bool a0_2) := (blk_cell BK170.out 2).trans rfl
              have hcz15_3 : wc.cell? ⟨gb170, 3, none⟩ = some (.string a0_3) := (blk_cell BK170.out 3).trans rfl
              have hcz15_4 : wc.cell? ⟨gb170, 4, none⟩ = some (.int .i64 a0_4) := (blk_cell BK170.out 4).trans rfl
              have hcz15_5 : wc.cell? ⟨gb170, 5, none⟩ = some (.int .i64 a0_5) := (blk_cell BK170.out 5).trans rfl
              have hfz15_0 := blk_frozen BK170.out 0
              have hfz15_1 := blk_frozen BK170.out 1
              have hfz15_2 := blk_frozen BK170.out 2
              have hfz15_3 := blk_frozen BK170.out 3
              have hfz15_4 := blk_frozen BK170.out 4
              have hfz15_5 := blk_frozen BK170.out 5
              go_upto_if 23 with (fail)
              go_cut [7] (fun v7 wc => ∃ (kq : Nat) (x7_13 : Int), v7 = .int .u8 x7_13 ∧ Aside0 (bollardref12_Encode.j2 kq a1 x7_13 a0_0 a0_1 a0_2 a0_3 a0_4 a0_5 = some (r1, r2)) ∧ Aside0 (kq ≤ kj10) ∧ Aside0 (wc.heap[gb170]? = some (.cells #[.bool a0_0, .string a0_1, .bool a0_2, .string a0_3, .int .i64 a0_4, .int .i64 a0_5] 23 (0, 0))) ∧ Aside0 (Below w.heap.size w wc))
              case first =>
                have H := HC14.out
                clear HC14
                by_cases c16 : a0_2 = true
                · subst c16
                  have H1 : (bollardref12_Encode.j2 kj10 a1 (Go.bits .or .u8 x7_10 2) a0_0 a0_1 true a0_3 a0_4 a0_5) = some (r1, r2) := by rw [if_pos rfl] at H; exact H
                  clear H
                  have H := H1
                  clear H1
                  have H' := Aside0.mk H
                  clear H
                  go_wp2
                  go_meet
                  case rel => exact ⟨_, (Go.bits .or .u8 x7_10 2), (by first | rfl | (simp; done) | (simp [*]; done) | exact congrArg Value.bool (ne_empty _) | exact congrArg Value.bool (eq_empty _)), H', ⟨by have := HJ4.out; have := HJ10.out; first | omega | exact Nat.le_refl _⟩, ⟨by (with_reducible repeat (first | refine blk_drewN ?_ _ | refine blk_drew ?_ | refine blk_alloc ?_ _)); exact BK170.out⟩, ⟨by repeat (first | (with_reducible first | exact HB.out | apply below_alloc | apply pw_below_drewN | apply below_drew1 | refine below_set ?_ GE170.out) | exact HB.out)⟩⟩
                · replace c16 := Bool.eq_false_iff.mpr c16
                  subst c16
                  have H1 : (bollardref12_Encode.j2 kj10 a1 x7_10 a0_0 a0_1 false a0_3 a0_4 a0_5) = some (r1, r2) := by rw [if_neg (show ¬ (false = true) by decide)] at H; exact H
                  clear H
                  have H := H1
                  clear H1
                  have H' := Aside0.mk H
                  clear H
                  go_wp2
                  go_meet
                  case rel => exact ⟨_, (x7_10), (by first | rfl | (simp; done) | (simp [*]; done) | exact congrArg Value.bool (ne_empty _) | exact congrArg Value.bool (eq_empty _)), H', ⟨by have := HJ4.out; have := HJ10.out; first | omega | exact Nat.le_refl _⟩, ⟨by (with_reducible repeat (first | refine blk_drewN ?_ _ | refine blk_drew ?_ | refine blk_alloc ?_ _)); exact BK170.out⟩, ⟨by repeat (first | (with_reducible first | exact HB.out | apply below_alloc | apply pw_below_drewN | apply below_drew1 | refine below_set ?_ GE170.out) | exact HB.out)⟩⟩
              case rest =>
                clear HC14
                try clear c1
                try clear p2
                try clear c4
                try clear c4b0
                try clear c4b1
                try clear c9
                try clear c9b0
                try clear c10
                try clear c12
                try clear c13
                try clear c15
                try clear c16
                try clear hcz12_0
                try clear hcz12_1
                try clear hcz12_2
                try clear hcz12_3
                try clear hcz12_4
                try clear hcz12_5
                try clear hcz15_0
                try clear hcz15_1
                try clear hcz15_2
                try clear hcz15_3
                try clear hcz15_4
                try clear hcz15_5
                try clear hcz7_0
                try clear hcz7_1
                try clear hcz7_2
                try clear hcz7_3
                try clear hcz7_4
                try clear hcz7_5
                try clear hfz12_0
                try clear hfz12_1
                try clear hfz12_2
                try clear hfz12_3
                try clear hfz12_4
                try clear hfz12_5
                try clear hfz15_0
                try clear hfz15_1
                try clear hfz15_2
                try clear hfz15_3
                try clear hfz15_4
                try clear hfz15_5
                try clear hfz7_0
                try clear hfz7_1
                try clear hfz7_2
                try clear hfz7_3
                try clear hfz7_4
                try clear hfz7_5
                try clear p2
                obtain ⟨kq, x7_13, rfl, HA, HJ13, BK170, HB⟩ := hcut
                cases kq with
                | zero => exact absurd HA.out (by simp [bollardref12_Encode.j2])
                | succ kj13 =>
                  have H := HA.out
                  clear HA
                  simp only [bollardref12_Encode.j2] at H
                  obtain ⟨y172, hy172⟩ : ∃ y_ : List Int, y_ = (([x7_13] : List Int)) := ⟨_, rfl⟩
                  replace H : ((bollardref1_Varint.f kj13 (IntKind.u64.wrap (a0_5))).bind fun t175 => (if y172.length + t175.length < 140737488355328 then ((some (y172 ++ t175 : List Int)).bind fun y178 => ((bollardref1_Zig.f (wrap64 (a0_4 - a1))).bind fun t181 => ((bollardref1_Varint.f kj13 t181).bind fun t182 => (if y178.length + t182.length < 140737488355328 then ((some (y178 ++ t182 : List Int)).bind fun y185 => (if a0_0 = true then ((bollardref1_Varint.f kj13 (IntKind.u64.wrap ((a0_1.size : Int)))).bind fun t188 => (if y185.length + t188.length < 140737488355328 then ((some (y185 ++ t188 : List Int)).bind fun y191 => (if y191.length + a0_1.size < 140737488355328 then ((some (y191 ++ bytesOf a0_1 : List Int)).bind fun y194 => (if a0_2 = true then ((bollardref1_Varint.f kj13 (IntKind.u64.wrap ((a0_3.size : Int)))).bind fun t197 => (if y194.length + t197.length < 140737488355328 then ((some (y194 ++ t197 : List Int)).bind fun y200 => (if y200.length + a0_3.size < 140737488355328 then (some ((y200 ++ bytesOf a0_3), 0)) else (none))) else (none))) else (some (y194, 0)))) else (none))) else (none))) else (if a0_2 = true then ((bollardref1_Varint.f kj13 (IntKind.u64.wrap ((a0_3.size : Int)))).bind fun t206 => (if y185.length + t206.length < 140737488355328 then ((some (y185 ++ t206 : List Int)).bind fun y209 => (if y209.length + a0_3.size < 140737488355328 then (some ((y209 ++ bytesOf a0_3), 0)) else (none))) else (none))) else (some (y185, 0))))) else (none))))) else (none))) = some (r1, r2) := by first | (rw [hy172]; with_reducible exact H) | (have H2_ := (Option.bind_some _ _).symm.trans H; rw [hy172]; with_reducible exact H2_) | (have H2_ := (Option.bind_some _ _).symm.trans H; with_reducible exact H2_) | with_reducible exact H | (rw [hy172]; exact H) | exact H
                  have Ny172 := Aside0.mk hy172
                  clear hy172
                  replace H := Option.bind_eq_some_iff.mp H
                  obtain ⟨t175, A170, H⟩ := H
                  replace H : (if y172.length + t175.length < 140737488355328 then ((some (y172 ++ t175 : List Int)).bind fun y178 => ((bollardref1_Zig.f (wrap64 (a0_4 - a1))).bind fun t181 => ((bollardref1_Varint.f kj13 t181).bind fun t182 => (if y178.length + t182.length < 140737488355328 then ((some (y178 ++ t182 : List Int)).bind fun y185 => (if a0_0 = true then ((bollardref1_Varint.f kj13 (IntKind.u64.wrap ((a0_1.size : Int)))).bind fun t188 => (if y185.length + t188.length < 140737488355328 then ((some (y185 ++ t188 : List Int)).bind fun y191 => (if y191.length + a0_1.size < 140737488355328 then ((some (y191 ++ bytesOf a0_1 : List Int)).bind fun y194 => (if a0_2 = true then ((bollardref1_Varint.f kj13 (IntKind.u64.wrap ((a0_3.size : Int)))).bind fun t197 => (if y194.length + t197.length < 140737488355328 then ((some (y194 ++ t197 : List Int)).bind fun y200 => (if y200.length + a0_3.size < 140737488355328 then (some ((y200 ++ bytesOf a0_3), 0)) else (none))) else (none))) else (some (y194, 0)))) else (none))) else (none))) else (if a0_2 = true then ((bollardref1_Varint.f kj13 (IntKind.u64.wrap ((a0_3.size : Int)))).bind fun t206 => (if y185.length + t206.length < 140737488355328 then ((some (y185 ++ t206 : List Int)).bind fun y209 => (if y209.length + a0_3.size < 140737488355328 then (some ((y209 ++ bytesOf a0_3), 0)) else (none))) else (none))) else (some (y185, 0))))) else (none))))) else (none)) = some (r1, r2) := H
                  have A17 := Aside0.mk A170
                  clear A170
                  by_cases c18 : y172.length + t175.length < 140737488355328
                  · rw [if_pos c18] at H
                    have LMc18 := Aside0.mk c18
                    clear c18
                    obtain ⟨y178, hy178⟩ : ∃ y_ : List Int, y_ = (y172 ++ t175) := ⟨_, rfl⟩
                    replace H : ((bollardref1_Zig.f (wrap64 (a0_4 - a1))).bind fun t181 => ((bollardref1_Varint.f kj13 t181).bind fun t182 => (if y178.length + t182.length < 140737488355328 then ((some (y178 ++ t182 : List Int)).bind fun y185 => (if a0_0 = true then ((bollardref1_Varint.f kj13 (IntKind.u64.wrap ((a0_1.size : Int)))).bind fun t188 => (if y185.length + t188.length < 140737488355328 then ((some (y185 ++ t188 : List Int)).bind fun y191 => (if y191.length + a0_1.size < 140737488355328 then ((some (y191 ++ bytesOf a0_1 : List Int)).bind fun y194 => (if a0_2 = true then ((bollardref1_Varint.f kj13 (IntKind.u64.wrap ((a0_3.size : Int)))).bind fun t197 => (if y194.length + t197.length < 140737488355328 then ((some (y194 ++ t197 : List Int)).bind fun y200 => (if y200.length + a0_3.size < 140737488355328 then (some ((y200 ++ bytesOf a0_3), 0)) else (none))) else (none))) else (some (y194, 0)))) else (none))) else (none))) else (if a0_2 = true then ((bollardref1_Varint.f kj13 (IntKind.u64.wrap ((a0_3.size : Int)))).bind fun t206 => (if y185.length + t206.length < 140737488355328 then ((some (y185 ++ t206 : List Int)).bind fun y209 => (if y209.length + a0_3.size < 140737488355328 then (some ((y209 ++ bytesOf a0_3), 0)) else (none))) else (none))) else (some (y185, 0))))) else (none)))) = some (r1, r2) := by first | (rw [hy178]; with_reducible exact H) | (have H2_ := (Option.bind_some _ _).symm.trans H; rw [hy178]; with_reducible exact H2_) | (have H2_ := (Option.bind_some _ _).symm.trans H; with_reducible exact H2_) | with_reducible exact H | (rw [hy178]; exact H) | exact H
                    have Ny178 := Aside0.mk hy178
                    clear hy178
                    replace H := Option.bind_eq_some_iff.mp H
                    obtain ⟨t181, A190, H⟩ := H
                    replace H : ((bollardref1_Varint.f kj13 t181).bind fun t182 => (if y178.length + t182.length < 140737488355328 then ((some (y178 ++ t182 : List Int)).bind fun y185 => (if a0_0 = true then ((bollardref1_Varint.f kj13 (IntKind.u64.wrap ((a0_1.size : Int)))).bind fun t188 => (if y185.length + t188.length < 140737488355328 then ((some (y185 ++ t188 : List Int)).bind fun y191 => (if y191.length + a0_1.size < 140737488355328 then ((some (y191 ++ bytesOf a0_1 : List Int)).bind fun y194 => (if a0_2 = true then ((bollardref1_Varint.f kj13 (IntKind.u64.wrap ((a0_3.size : Int)))).bind fun t197 => (if y194.length + t197.length < 140737488355328 then ((some (y194 ++ t197 : List Int)).bind fun y200 => (if y200.length + a0_3.size < 140737488355328 then (some ((y200 ++ bytesOf a0_3), 0)) else (none))) else (none))) else (some (y194, 0)))) else (none))) else (none))) else (if a0_2 = true then ((bollardref1_Varint.f kj13 (IntKind.u64.wrap ((a0_3.size : Int)))).bind fun t206 => (if y185.length + t206.length < 140737488355328 then ((some (y185 ++ t206 : List Int)).bind fun y209 => (if y209.length + a0_3.size < 140737488355328 then (some ((y209 ++ bytesOf a0_3), 0)) else (none))) else (none))) else (some (y185, 0))))) else (none))) = some (r1, r2) := H
                    have A19 := Aside0.mk A190
                    clear A190
                    replace H := Option.bind_eq_some_iff.mp H
                    obtain ⟨t182, A200, H⟩ := H
                    replace H : (if y178.length + t182.length < 140737488355328 then ((some (y178 ++ t182 : List Int)).bind fun y185 => (if a0_0 = true then ((bollardref1_Varint.f kj13 (IntKind.u64.wrap ((a0_1.size : Int)))).bind fun t188 => (if y185.length + t188.length < 140737488355328 then ((some (y185 ++ t188 : List Int)).bind fun y191 => (if y191.length + a0_1.size < 140737488355328 then ((some (y191 ++ bytesOf a0_1 : List Int)).bind fun y194 => (if a0_2 = true then ((bollardref1_Varint.f kj13 (IntKind.u64.wrap ((a0_3.size : Int)))).bind fun t197 => (if y194.length + t197.length < 140737488355328 then ((some (y194 ++ t197 : List Int)).bind fun y200 => (if y200.length + a0_3.size < 140737488355328 then (some ((y200 ++ bytesOf a0_3), 0)) else (none))) else (none))) else (some (y194, 0)))) else (none))) else (none))) else (if a0_2 = true then ((bollardref1_Varint.f kj13 (IntKind.u64.wrap ((a0_3.size : Int)))).bind fun t206 => (if y185.length + t206.length < 140737488355328 then ((some (y185 ++ t206 : List Int)).bind fun y209 => (if y209.length + a0_3.size < 140737488355328 then (some ((y209 ++ bytesOf a0_3), 0)) else (none))) else (none))) else (some (y185, 0))))) else (none)) = some (r1, r2) := H
                    have A20 := Aside0.mk A200
                    clear A200
                    by_cases c21 : y178.length + t182.length < 140737488355328
                    · rw [if_pos c21] at H
                      have LMc21 := Aside0.mk c21
                      clear c21
                      obtain ⟨y185, hy185⟩ : ∃ y_ : List Int, y_ = (y178 ++ t182) := ⟨_, rfl⟩
                      replace H : (if a0_0 = true then ((bollardref1_Varint.f kj13 (IntKind.u64.wrap ((a0_1.size : Int)))).bind fun t188 => (if y185.length + t188.length < 140737488355328 then ((some (y185 ++ t188 : List Int)).bind fun y191 => (if y191.length + a0_1.size < 140737488355328 then ((some (y191 ++ bytesOf a0_1 : List Int)).bind fun y194 => (if a0_2 = true then ((bollardref1_Varint.f kj13 (IntKind.u64.wrap ((a0_3.size : Int)))).bind fun t197 => (if y194.length + t197.length < 140737488355328 then ((some (y194 ++ t197 : List Int)).bind fun y200 => (if y200.length + a0_3.size < 140737488355328 then (some ((y200 ++ bytesOf a0_3), 0)) else (none))) else (none))) else (some (y194, 0)))) else (none))) else (none))) else (if a0_2 = true then ((bollardref1_Varint.f kj13 (IntKind.u64.wrap ((a0_3.size : Int)))).bind fun t206 => (if y185.length + t206.length < 140737488355328 then ((some (y185 ++ t206 : List Int)).bind fun y209 => (if y209.length + a0_3.size < 140737488355328 then (some ((y209 ++ bytesOf a0_3), 0)) else (none))) else (none))) else (some (y185, 0)))) = some (r1, r2) := by first | (rw [hy185]; with_reducible exact H) | (have H2_ := (Option.bind_some _ _).symm.trans H; rw [hy185]; with_reducible exact H2_) | (have H2_ := (Option.bind_some _ _).symm.trans H; with_reducible exact H2_) | with_reducible exact H | (rw [hy185]; exact H) | exact H
                      have Ny185 := Aside0.mk hy185
                      clear hy185
                      by_cases c22 : a0_0 = true
                      · subst c22
                        have H1 : ((bollardref1_Varint.f kj13 (IntKind.u64.wrap ((a0_1.size : Int)))).bind fun t188 => (if y185.length + t188.length < 140737488355328 then ((some (y185 ++ t188 : List Int)).bind fun y191 => (if y191.length + a0_1.size < 140737488355328 then ((some (y191 ++ bytesOf a0_1 : List Int)).bind fun y194 => (if a0_2 = true then ((bollardref1_Varint.f kj13 (IntKind.u64.wrap ((a0_3.size : Int)))).bind fun t197 => (if y194.length + t197.length < 140737488355328 then ((some (y194 ++ t197 : List Int)).bind fun y200 => (if y200.length + a0_3.size < 140737488355328 then (some ((y200 ++ bytesOf a0_3), 0)) else (none))) else (none))) else (some (y194, 0)))) else (none))) else (none))) = some (r1, r2) := by rw [if_pos rfl] at H; exact H
                        clear H
                        have H := H1
                        clear H1
                        replace H := Option.bind_eq_some_iff.mp H
                        obtain ⟨t188, A230, H⟩ := H
                        replace H : (if y185.length + t188.length < 140737488355328 then ((some (y185 ++ t188 : List Int)).bind fun y191 => (if y191.length + a0_1.size < 140737488355328 then ((some (y191 ++ bytesOf a0_1 : List Int)).bind fun y194 => (if a0_2 = true then ((bollardref1_Varint.f kj13 (IntKind.u64.wrap ((a0_3.size : Int)))).bind fun t197 => (if y194.length + t197.length < 140737488355328 then ((some (y194 ++ t197 : List Int)).bind fun y200 => (if y200.length + a0_3.size < 140737488355328 then (some ((y200 ++ bytesOf a0_3), 0)) else (none))) else (none))) else (some (y194, 0)))) else (none))) else (none)) = some (r1, r2) := H
                        have A23 := Aside0.mk A230
                        clear A230
                        by_cases c24 : y185.length + t188.length < 140737488355328
                        · rw [if_pos c24] at H
                          have LMc24 := Aside0.mk c24
                          clear c24
                          obtain ⟨y191, hy191⟩ : ∃ y_ : List Int, y_ = (y185 ++ t188) := ⟨_, rfl⟩
                          replace H : (if y191.length + a0_1.size < 140737488355328 then ((some (y191 ++ bytesOf a0_1 : List Int)).bind fun y194 => (if a0_2 = true then ((bollardref1_Varint.f kj13 (IntKind.u64.wrap ((a0_3.size : Int)))).bind fun t197 => (if y194.length + t197.length < 140737488355328 then ((some (y194 ++ t197 : List Int)).bind fun y200 => (if y200.length + a0_3.size < 140737488355328 then (some ((y200 ++ bytesOf a0_3), 0)) else (none))) else (none))) else (some (y194, 0)))) else (none)) = some (r1, r2) := by first | (rw [hy191]; with_reducible exact H) | (have H2_ := (Option.bind_some _ _).symm.trans H; rw [hy191]; with_reducible exact H2_) | (have H2_ := (Option.bind_some _ _).symm.trans H; with_reducible exact H2_) | with_reducible exact H | (rw [hy191]; exact H) | exact H
                          have Ny191 := Aside0.mk hy191
                          clear hy191
                          by_cases c25 : y191.length + a0_1.size < 140737488355328
                          · rw [if_pos c25] at H
                            have LMc25 := Aside0.mk c25
                            clear c25
                            obtain ⟨y194, hy194⟩ : ∃ y_ : List Int, y_ = (y191 ++ bytesOf a0_1) := ⟨_, rfl⟩
                            replace H : (if a0_2 = true then ((bollardref1_Varint.f kj13 (IntKind.u64.wrap ((a0_3.size : Int)))).bind fun t197 => (if y194.length + t197.length < 140737488355328 then ((some (y194 ++ t197 : List Int)).bind fun y200 => (if y200.length + a0_3.size < 140737488355328 then (some ((y200 ++ bytesOf a0_3), 0)) else (none))) else (none))) else (some (y194, 0))) = some (r1, r2) := by first | (rw [hy194]; with_reducible exact H) | (have H2_ := (Option.bind_some _ _).symm.trans H; rw [hy194]; with_reducible exact H2_) | (have H2_ := (Option.bind_some _ _).symm.trans H; with_reducible exact H2_) | with_reducible exact H | (rw [hy194]; exact H) | exact H
                            have Ny194 := Aside0.mk hy194
                            clear hy194
                            by_cases c26 : a0_2 = true
                            · subst c26
                              have H1 : ((bollardref1_Varint.f kj13 (IntKind.u64.wrap ((a0_3.size : Int)))).bind fun t197 => (if y194.length + t197.length < 140737488355328 then ((some (y194 ++ t197 : List Int)).bind fun y200 => (if y200.length + a0_3.size < 140737488355328 then (some ((y200 ++ bytesOf a0_3), 0)) else (none))) else (none))) = some (r1, r2) := by rw [if_pos rfl] at H; exact H
                              clear H
                              have H := H1
                              clear H1
                              replace H := Option.bind_eq_some_iff.mp H
                              obtain ⟨t197, A270, H⟩ := H
                              replace H : (if y194.length + t197.length < 140737488355328 then ((some (y194 ++ t197 : List Int)).bind fun y200 => (if y200.length + a0_3.size < 140737488355328 then (some ((y200 ++ bytesOf a0_3), 0)) else (none))) else (none)) = some (r1, r2) := H
                              have A27 := Aside0.mk A270
                              clear A270
                              by_cases c28 : y194.length + t197.length < 140737488355328
                              · rw [if_pos c28] at H
                                have LMc28 := Aside0.mk c28
                                clear c28
                                obtain ⟨y200, hy200⟩ : ∃ y_ : List Int, y_ = (y194 ++ t197) := ⟨_, rfl⟩
                                replace H : (if y200.length + a0_3.size < 140737488355328 then (some ((y200 ++ bytesOf a0_3), 0)) else (none)) = some (r1, r2) := by first | (rw [hy200]; with_reducible exact H) | (have H2_ := (Option.bind_some _ _).symm.trans H; rw [hy200]; with_reducible exact H2_) | (have H2_ := (Option.bind_some _ _).symm.trans H; with_reducible exact H2_) | with_reducible exact H | (rw [hy200]; exact H) | exact H
                                have Ny200 := Aside0.mk hy200
                                clear hy200
                                by_cases c29 : y200.length + a0_3.size < 140737488355328
                                · rw [if_pos c29] at H
                                  have LMc29 := Aside0.mk c29
                                  clear c29
                                  obtain ⟨y203, hy203⟩ : ∃ y_ : List Int, y_ = (y200 ++ bytesOf a0_3) := ⟨_, rfl⟩
                                  replace H : (some (y203, 0)) = some (r1, r2) := by first | (rw [hy203]; with_reducible exact H) | (have H2_ := (Option.bind_some _ _).symm.trans H; rw [hy203]; with_reducible exact H2_) | (have H2_ := (Option.bind_some _ _).symm.trans H; with_reducible exact H2_) | with_reducible exact H | (rw [hy203]; exact H) | exact H
                                  have Ny203 := Aside0.mk hy203
                                  clear hy203
                                  simp only [Option.some.injEq, Prod.mk.injEq] at H
                                  obtain ⟨rfl, rfl⟩ := H
                                  try go_wp2_with (first | ((with_reducible refine gate_dst (N := 27) rfl ?_); refine Kd.R_lit (Kd.int .u8) _ 5 ?hg (N := 27) ?hd (xs := ([x7_13] : List Int)) (inner := [.int .u8 x7_13]) (ok := fun _ => True) (okp := fun _ => True) ?hr ?hp (fun _ hk => hk) trivial (Below.refl _ _) (Nat.le_refl _) (by simp) ?_; (case hd => rfl); (case hg => rfl); (case hr => first | (go_simp; done) | (go_simp; rfl)); (case hp => exact (Reps.one (show Kd.M (Kd.int .u8) _ _ _ x7_13 [.int .u8 x7_13] from rfl) (Reps.none _ _))); intro v173 w30 ho31 hb hg_ hnew_; clear hg_ hnew_; (first | rw [← Ny172.out] at ho31 | (simp only [Int.reduceToNat] at ho31; rw [← Ny172.out] at ho31)); have n0_ := Aside0.mk (Kd.R_lower ho31 (below_size (by repeat (first | (with_reducible first | exact HB.out | apply below_alloc | apply pw_below_drewN | apply below_drew1 | refine below_set ?_ GE170.out) | exact HB.out)))); have n1_ := Aside0.mk (blk_below (g := gb170) (o := .cells #[.bool true, .string a0_1, .bool true, .string a0_3, .int .i64 a0_4, .int .i64 a0_5] 23 (0, 0)) (by (with_reducible repeat (first | refine blk_drewN ?_ _ | refine blk_drew ?_ | refine blk_alloc ?_ _)); exact BK170.out) hb); have n2_ := Aside0.mk (below_step (by repeat (first | (with_reducible first | exact HB.out | apply below_alloc | apply pw_below_drewN | apply below_drew1 | refine below_set ?_ GE170.out) | exact HB.out)) hb); clear BK170; clear HB; have HO174 := n0_; have BK170 := n1_; have HB := n2_; clear n0_ n1_ n2_; clear hb ho31; have hcz32_0 : w30.cell? ⟨gb170, 0, none⟩ = some (.bool true) := (blk_cell BK170.out 0).trans rfl; have hcz32_1 : w30.cell? ⟨gb170, 1, none⟩ = some (.string a0_1) := (blk_cell BK170.out 1).trans rfl; have hcz32_2 : w30.cell? ⟨gb170, 2, none⟩ = some (.bool true) := (blk_cell BK170.out 2).trans rfl; have hcz32_3 : w30.cell? ⟨gb170, 3, none⟩ = some (.string a0_3) := (blk_cell BK170.out 3).trans rfl; have hcz32_4 : w30.cell? ⟨gb170, 4, none⟩ = some (.int .i64 a0_4) := (blk_cell BK170.out 4).trans rfl; have hcz32_5 : w30.cell? ⟨gb170, 5, none⟩ = some (.int .i64 a0_5) := (blk_cell BK170.out 5).trans rfl; have hfz32_0 := blk_frozen BK170.out 0; have hfz32_1 := blk_frozen BK170.out 1; have hfz32_2 := blk_frozen BK170.out 2; have hfz32_3 := blk_frozen BK170.out 3; have hfz32_4 := blk_frozen BK170.out 4; have hfz32_5 := blk_frozen BK170.out 5) | ((with_reducible refine gate_callee (f := 23) rfl ?_); refine goesL_ (some 31) rfl rfl Try.func23 (by kernel_rfl) rfl #[.int .u64 (IntKind.u64.wrap (a0_5))] rfl (by (try simp only [List.map_toArray, List.map_cons, List.map_nil]); first | done | rfl | (simp only [List.length_drop, List.length_take]; rfl)) ?_; (with_reducible refine (bollardref1_Varint.calls kj13 (IntKind.u64.wrap (a0_5)) t175 _ A17.out).mono ?_); rintro e w33 ⟨v176, rfl, ho0, hb⟩; refine ⟨_, rfl, ?_⟩; have n0_ := Aside0.mk (Kd.R_elder' (by (with_reducible repeat (first | apply Kd.R_alloc | apply Kd.R_drewN | apply Kd.R_drew)); exact HO174.out) (Kd.R_base ho0) hb); have n1_ := Aside0.mk (Kd.R_lower (Kd.R_new' ho0 (Kd.R_lt (by (with_reducible repeat (first | apply Kd.R_alloc | apply Kd.R_drewN | apply Kd.R_drew)); exact HO174.out))) (below_size (by repeat (first | (with_reducible first | exact HB.out | apply below_alloc | apply pw_below_drewN | apply below_drew1 | refine below_set ?_ GE170.out) | exact HB.out)))); have n2_ := Aside0.mk (blk_below (g := gb170) (o := .cells #[.bool true, .string a0_1, .bool true, .string a0_3, .int .i64 a0_4, .int .i64 a0_5] 23 (0, 0)) (by (with_reducible repeat (first | refine blk_drewN ?_ _ | refine blk_drew ?_ | refine blk_alloc ?_ _)); exact BK170.out) hb); have n3_ := Aside0.mk (below_step (by repeat (first | (with_reducible first | exact HB.out | apply below_alloc | apply pw_below_drewN | apply below_drew1 | refine below_set ?_ GE170.out) | exact HB.out)) hb); clear HO174; clear BK170; clear HB; have HO174 := n0_; have HO177 := n1_; have BK170 := n2_; have HB := n3_; clear n0_ n1_ n2_ n3_; (try clear hb); (try clear hb2); (try clear hk); (try clear hi); (try clear ho0); obtain ⟨Ao35, co35, eo35⟩ := Kd.R_slice HO177.out; subst eo35) | ((with_reducible refine gate_builtin (b := .append) (xs := #[.tmp 27, .tmp 31]) rfl ?_); at_builtin; refine Kd.R_append_rows (Kd.int .u8) (w0 := w) w.heap.size rfl (.tmp 27) (.tmp 31) 25 5 (.int .u8 0) 1 rfl Try.underlying25 info5 rfl (by decide) (by omega) v173 y172 t175 _ _ _ (fun k_ => some k_ ≠ (.slice Ao35 t175.length co35 : Value).ownBlock) (fun _ => False) rfl rfl ?aO ?aR (fun _ _ h => h) (fun _ h => h.elim) ?aF ?aB ?aS ?aL ?_; (case aR => repeat (first | exact (Kd.R_reads' HO177.out).2.2 | (with_reducible refine Kd.C_alloc ?_ _) | (with_reducible refine Kd.C_drewN ?_ _) | (with_reducible refine Kd.C_drew ?_))); (case aB => exact (by repeat (first | (with_reducible first | exact HB.out | apply below_alloc | apply pw_below_drewN | apply below_drew1 | refine below_set ?_ GE170.out) | exact HB.out))); (case aF => exact (fun k_ hk => Kd.fresh' (Kd.R_lt (by (with_reducible repeat (first | apply Kd.R_alloc | apply Kd.R_drewN | apply Kd.R_drew)); exact HO177.out)) k_ hk)); (case aO => exact (by (with_reducible repeat (first | apply Kd.R_alloc | apply Kd.R_drewN | apply Kd.R_drew)); exact Kd.R_mono HO174.out (fun _ hk => hk.2))); (case aS => exact (below_size (by repeat (first | (with_reducible first | exact HB.out | apply below_alloc | apply pw_below_drewN | apply below_drew1 | refine below_set ?_ GE170.out) | exact HB.out)))); (case aL => have := LMc18.out; omega); intro v179 w34 ho hb hg hat; rw [← Ny178.out] at ho; have n0_ := Aside0.mk (blk_grown (g := gb170) (o := .cells #[.bool true, .string a0_1, .bool true, .string a0_3, .int .i64 a0_4, .int .i64 a0_5] 23 (0, 0)) (by (with_reducible repeat (first | refine blk_drewN ?_ _ | refine blk_drew ?_ | refine blk_alloc ?_ _)); exact BK170.out) hg (Kd.R_ne HO174.out BK170.out (by decide))); have n1_ := Aside0.mk (Kd.R_after (ok := (fun _ => True)) (by (with_reducible repeat (first | apply Kd.R_alloc | apply Kd.R_drewN | apply Kd.R_drew)); exact HO177.out) hg hat); have n2_ := Aside0.mk (hb); have n3_ := Aside0.mk (ho); clear BK170; clear HO177; clear HB; clear HO174; have BK170 := n0_; have HO177 := n1_; have HB := n2_; have HO180 := n3_; clear n0_ n1_ n2_ n3_; clear ho hb hg hat; have hcz36_0 : w34.cell? ⟨gb170, 0, none⟩ = some (.bool true) := (blk_cell BK170.out 0).trans rfl; have hcz36_1 : w34.cell? ⟨gb170, 1, none⟩ = some (.string a0_1) := (blk_cell BK170.out 1).trans rfl; have hcz36_2 : w34.cell? ⟨gb170, 2, none⟩ = some (.bool true) := (blk_cell BK170.out 2).trans rfl; have hcz36_3 : w34.cell? ⟨gb170, 3, none⟩ = some (.string a0_3) := (blk_cell BK170.out 3).trans rfl; have hcz36_4 : w34.cell? ⟨gb170, 4, none⟩ = some (.int .i64 a0_4) := (blk_cell BK170.out 4).trans rfl; have hcz36_5 : w34.cell? ⟨gb170, 5, none⟩ = some (.int .i64 a0_5) := (blk_cell BK170.out 5).trans rfl; have hfz36_0 := blk_frozen BK170.out 0; have hfz36_1 := blk_frozen BK170.out 1; have hfz36_2 := blk_frozen BK170.out 2; have hfz36_3 := blk_frozen BK170.out 3; have hfz36_4 := blk_frozen BK170.out 4; have hfz36_5 := blk_frozen BK170.out 5) | ((with_reducible refine gate_callee (f := 24) rfl ?_); refine goesL_ (some 38) rfl rfl Try.func24 (by kernel_rfl) rfl #[.int .i64 (wrap64 (a0_4 - a1))] rfl (by (try simp only [List.map_toArray, List.map_cons, List.map_nil]); first | done | rfl | (simp only [List.length_drop, List.length_take]; rfl)) ?_; (with_reducible refine (bollardref1_Zig.calls (wrap64 (a0_4 - a1)) t181 _ A19.out).mono ?_); rintro e w' ⟨rfl, ⟨nd, rfl⟩⟩; refine ⟨_, rfl, ?_⟩) | ((with_reducible refine gate_callee (f := 23) rfl ?_); refine goesL_ (some 39) rfl rfl Try.func23 (by kernel_rfl) rfl #[.int .u64 t181] rfl (by (try simp only [List.map_toArray, List.map_cons, List.map_nil]); first | done | rfl | (simp only [List.length_drop, List.length_take]; rfl)) ?_; (with_reducible refine (bollardref1_Varint.calls kj13 t181 t182 _ A20.out).mono ?_); rintro e w37 ⟨v183, rfl, ho0, hb⟩; refine ⟨_, rfl, ?_⟩; have n0_ := Aside0.mk (Kd.R_elder' (by (with_reducible repeat (first | apply Kd.R_alloc | apply Kd.R_drewN | apply Kd.R_drew)); exact HO177.out) (Kd.R_base ho0) hb); have n1_ := Aside0.mk (Kd.R_elder' (by (with_reducible repeat (first | apply Kd.R_alloc | apply Kd.R_drewN | apply Kd.R_drew)); exact HO180.out) (Kd.R_base ho0) hb); have n2_ := Aside0.mk (Kd.R_lower (Kd.R_new' (Kd.R_new' ho0 (Kd.R_lt (by (with_reducible repeat (first | apply Kd.R_alloc | apply Kd.R_drewN | apply Kd.R_drew)); exact HO177.out))) (Kd.R_lt (by (with_reducible repeat (first | apply Kd.R_alloc | apply Kd.R_drewN | apply Kd.R_drew)); exact HO180.out))) (below_size (by repeat (first | (with_reducible first | exact HB.out | apply below_alloc | apply pw_below_drewN | apply below_drew1 | refine below_set ?_ GE170.out) | exact HB.out)))); have n3_ := Aside0.mk (blk_below (g := gb170) (o := .cells #[.bool true, .string a0_1, .bool true, .string a0_3, .int .i64 a0_4, .int .i64 a0_5] 23 (0, 0)) (by (with_reducible repeat (first | refine blk_drewN ?_ _ | refine blk_drew ?_ | refine blk_alloc ?_ _)); exact BK170.out) hb); have n4_ := Aside0.mk (below_step (by repeat (first | (with_reducible first | exact HB.out | apply below_alloc | apply pw_below_drewN | apply below_drew1 | refine below_set ?_ GE170.out) | exact HB.out)) hb); clear HO177; clear HO180; clear BK170; clear HB; have HO177 := n0_; have HO180 := n1_; have HO184 := n2_; have BK170 := n3_; have HB := n4_; clear n0_ n1_ n2_ n3_ n4_; (try clear hb); (try clear hb2); (try clear hk); (try clear hi); (try clear ho0); obtain ⟨Ao39, co39, eo39⟩ := Kd.R_slice HO184.out; subst eo39) | ((with_reducible refine gate_builtin (b := .append) (xs := #[.tmp 33, .tmp 39]) rfl ?_); at_builtin; refine Kd.R_append_rows (Kd.int .u8) (w0 := w) w.heap.size rfl (.tmp 33) (.tmp 39) 25 5 (.int .u8 0) 1 rfl Try.underlying25 info5 rfl (by decide) (by omega) v179 y178 t182 _ _ _ (fun k_ => some k_ ≠ (.slice Ao35 t175.length co35 : Value).ownBlock ∧ some k_ ≠ (.slice Ao39 t182.length co39 : Value).ownBlock) (fun _ => False) rfl rfl ?aO ?aR (fun _ _ h => h) (fun _ h => h.elim) ?aF ?aB ?aS ?aL ?_; (case aR => repeat (first | exact (Kd.R_reads' HO184.out).2.2 | (with_reducible refine Kd.C_alloc ?_ _) | (with_reducible refine Kd.C_drewN ?_ _) | (with_reducible refine Kd.C_drew ?_))); (case aB => exact (by repeat (first | (with_reducible first | exact HB.out | apply below_alloc | apply pw_below_drewN | apply below_drew1 | refine below_set ?_ GE170.out) | exact HB.out))); (case aF => exact (fun k_ hk => ⟨Kd.fresh' (Kd.R_lt (by (with_reducible repeat (first | apply Kd.R_alloc | apply Kd.R_drewN | apply Kd.R_drew)); exact HO177.out)) k_ hk, Kd.fresh' (Kd.R_lt (by (with_reducible repeat (first | apply Kd.R_alloc | apply Kd.R_drewN | apply Kd.R_drew)); exact HO184.out)) k_ hk⟩)); (case aO => exact (by (with_reducible repeat (first | apply Kd.R_alloc | apply Kd.R_drewN | apply Kd.R_drew)); exact HO180.out)); (case aS => exact (below_size (by repeat (first | (with_reducible first | exact HB.out | apply below_alloc | apply pw_below_drewN | apply below_drew1 | refine below_set ?_ GE170.out) | exact HB.out)))); (case aL => have := LMc21.out; omega); intro v186 w38 ho hb hg hat; rw [← Ny185.out] at ho; have n0_ := Aside0.mk (blk_grown (g := gb170) (o := .cells #[.bool true, .string a0_1, .bool true, .string a0_3, .int .i64 a0_4, .int .i64 a0_5] 23 (0, 0)) (by (with_reducible repeat (first | refine blk_drewN ?_ _ | refine blk_drew ?_ | refine blk_alloc ?_ _)); exact BK170.out) hg (Kd.R_ne HO180.out BK170.out (by decide))); have n1_ := Aside0.mk (Kd.R_after (ok := (fun k_ => some k_ ≠ (.slice Ao39 t182.length co39 : Value).ownBlock)) (by (with_reducible repeat (first | apply Kd.R_alloc | apply Kd.R_drewN | apply Kd.R_drew)); exact Kd.R_mono HO177.out (fun _ hk => ⟨hk.2, hk.1.2⟩)) hg hat); have n2_ := Aside0.mk (Kd.R_after (ok := (fun k_ => some k_ ≠ (.slice Ao35 t175.length co35 : Value).ownBlock)) (by (with_reducible repeat (first | apply Kd.R_alloc | apply Kd.R_drewN | apply Kd.R_drew)); exact Kd.R_mono HO184.out (fun _ hk => ⟨hk.1.2, hk.2⟩)) hg hat); have n3_ := Aside0.mk (hb); have n4_ := Aside0.mk (ho); clear BK170; clear HO177; clear HO184; clear HB; clear HO180; have BK170 := n0_; have HO177 := n1_; have HO184 := n2_; have HB := n3_; have HO187 := n4_; clear n0_ n1_ n2_ n3_ n4_; clear ho hb hg hat; have hcz40_0 : w38.cell? ⟨gb170, 0, none⟩ = some (.bool true) := (blk_cell BK170.out 0).trans rfl; have hcz40_1 : w38.cell? ⟨gb170, 1, none⟩ = some (.string a0_1) := (blk_cell BK170.out 1).trans rfl; have hcz40_2 : w38.cell? ⟨gb170, 2, none⟩ = some (.bool true) := (blk_cell BK170.out 2).trans rfl; have hcz40_3 : w38.cell? ⟨gb170, 3, none⟩ = some (.string a0_3) := (blk_cell BK170.out 3).trans rfl; have hcz40_4 : w38.cell? ⟨gb170, 4, none⟩ = some (.int .i64 a0_4) := (blk_cell BK170.out 4).trans rfl; have hcz40_5 : w38.cell? ⟨gb170, 5, none⟩ = some (.int .i64 a0_5) := (blk_cell BK170.out 5).trans rfl; have hfz40_0 := blk_frozen BK170.out 0; have hfz40_1 := blk_frozen BK170.out 1; have hfz40_2 := blk_frozen BK170.out 2; have hfz40_3 := blk_frozen BK170.out 3; have hfz40_4 := blk_frozen BK170.out 4; have hfz40_5 := blk_frozen BK170.out 5))
                                  have n0_ := Aside0.mk (Kd.R_drew HO177.out)
                                  have n1_ := Aside0.mk (Kd.R_drew HO184.out)
                                  have n2_ := Aside0.mk (Kd.R_drew HO187.out)
                                  have n3_ := Aside0.mk (blk_drew BK170.out)
                                  have n4_ := Aside0.mk (below_drew1 HB.out)
                                  clear HO177
                                  clear HO184
                                  clear HO187
                                  clear BK170
                                  clear HB
                                  have HO177 := n0_
                                  have HO184 := n1_
                                  have HO187 := n2_
                                  have BK170 := n3_
                                  have HB := n4_
                                  clear n0_ n1_ n2_ n3_ n4_
                                  refine start_ (n := 11) (S := fun w' => w'.cell? ⟨gb170, 0, none⟩ = some (.bool true) ∧ w'.cell? ⟨gb170, 1, none⟩ = some (.string a0_1) ∧ w'.cell? ⟨gb170, 2, none⟩ = some (.bool true) ∧ w'.cell? ⟨gb170, 3, none⟩ = some (.string a0_3) ∧ w'.cell? ⟨gb170, 4, none⟩ = some (.int .i64 a0_4) ∧ w'.cell? ⟨gb170, 5, none⟩ = some (.int .i64 a0_5)) (ds := []) #[false, false, false, false, false, false, false, false, false, false, false] (by kernel_rfl) rfl rfl ⟨(blk_cell BK170.out 0).trans rfl, (blk_cell BK170.out 1).trans rfl, (blk_cell BK170.out 2).trans rfl, (blk_cell BK170.out 3).trans rfl, (blk_cell BK170.out 4).trans rfl, (blk_cell BK170.out 5).trans rfl⟩ (fun hHeld => ?_); refine with_tabW bollardref12_Encode.tab14 bollardref12_Encode.bits14 (fun HT_ HW_ => ?_)
                                  generalize w38.drew = w41 at HO177 HO184 HO187 BK170 HB hHeld ⊢
                                  refine pure_ (i := 0) (N := some 43) (v := ?_) (a' := ?_) #[true, false, false, false, false, false, false, false, false, false, false] rfl rfl (any_of HT_.out (by kernel_rfl)) (fun _ _ _ h => h) (Or.inl ⟨by rfl, ?_⟩) ?_ ?_
                                  rotate_left
                                  · intro w'
                                    go_simp
                                    with_reducible rfl
                                  rotate_left
                                  · simp only [Act.put, List.setIfInBounds_toArray, List.set_cons_zero, List.set_cons_succ, i64_w, i32_w]
                                    rfl
                                  refine pure_ (i := 1) (N := some 44) (v := ?_) (a' := ?_) #[true, true, false, false, false, false, false, false, false, false, false] rfl rfl (any_of HT_.out (by kernel_rfl)) (fun _ _ _ h => h) (Or.inl ⟨by rfl, ?_⟩) ?_ ?_
                                  rotate_left
                                  · intro w'
                                    go_simp
                                    with_reducible rfl
                                  rotate_left
                                  · simp only [Act.put, List.setIfInBounds_toArray, List.set_cons_zero, List.set_cons_succ, i64_w, i32_w]
                                    rfl
                                  refine pure_ (i := 7) (N := some 50) (v := ?_) (a' := ?_) #[true, true, false, false, false, false, false, true, false, false, false] rfl rfl (any_of HT_.out (by kernel_rfl)) (fun _ _ _ h => h) (Or.inl ⟨by rfl, ?_⟩) ?_ ?_
                                  rotate_left
                                  · intro w'
                                    go_simp
                                    with_reducible rfl
                                  rotate_left
                                  · simp only [Act.put, List.setIfInBounds_toArray, List.set_cons_zero, List.set_cons_succ, i64_w, i32_w]
                                    rfl
                                  refine take_ (i := 2) (N := some 45) (v := ?_) (a' := ?_) #[true, true, true, false, false, false, false, true, false, false, false] rfl rfl (take_ofW HT_.out HW_.out (by kernel_rfl)) (fun _ _ _ h => h) (Or.inl ⟨by rfl, ?_⟩) hHeld ?_ ?_
                                  rotate_left
                                  · rintro w' ⟨s0, s1, s2, s3, s4, s5⟩
                                    go_simp
                                    with_reducible rfl
                                  rotate_left
                                  · simp only [Act.put, List.setIfInBounds_toArray, List.set_cons_zero, List.set_cons_succ, i64_w, i32_w]
                                    rfl
                                  refine pure_ (i := 3) (N := some 46) (v := ?_) (a' := ?_) #[true, true, true, true, false, false, false, true, false, false, false] rfl rfl (any_of HT_.out (by kernel_rfl)) (fun _ _ _ h => h) (Or.inl ⟨by rfl, ?_⟩) ?_ ?_
                                  rotate_left
                                  · intro w'
                                    go_simp
                                    with_reducible rfl
                                  rotate_left
                                  · simp only [Act.put, List.setIfInBounds_toArray, List.set_cons_zero, List.set_cons_succ, i64_w, i32_w]
                                    rfl
                                  refine pure_ (i := 4) (N := some 47) (v := ?_) (a' := ?_) #[true, true, true, true, true, false, false, true, false, false, false] rfl rfl (any_of HT_.out (by kernel_rfl)) (fun _ _ _ h => h) (Or.inl ⟨by rfl, ?_⟩) ?_ ?_
                                  rotate_left
                                  · intro w'
                                    go_simp
                                    with_reducible rfl
                                  rotate_left
                                  · simp only [Act.put, List.setIfInBounds_toArray, List.set_cons_zero, List.set_cons_succ, i64_w, i32_w]
                                    rfl
                                  refine take_ (i := 8) (N := some 51) (v := ?_) (a' := ?_) #[true, true, true, true, true, false, false, true, true, false, false] rfl rfl (take_ofW HT_.out HW_.out (by kernel_rfl)) (fun _ _ _ h => h) (Or.inl ⟨by rfl, ?_⟩) hHeld ?_ ?_
                                  rotate_left
                                  · rintro w' ⟨s0, s1, s2, s3, s4, s5⟩
                                    go_simp
                                    with_reducible rfl
                                  rotate_left
                                  · simp only [Act.put, List.setIfInBounds_toArray, List.set_cons_zero, List.set_cons_succ, i64_w, i32_w]
                                    rfl
                                  refine one_ (i := 5) (N := some 48) #[true, true, true, true, true, true, false, true, true, false, false] rfl rfl (one_of HT_.out (by kernel_rfl)) (by decide) (fun K hK => ?_)
                                  refine goes_ Try.func23 (by kernel_rfl) rfl #[.int .u64 (IntKind.u64.wrap ((a0_1.size : Int)))] (by rfl) rfl rfl (by (try simp only [List.map_toArray, List.map_cons, List.map_nil]); first | done | rfl | (simp only [List.length_drop, List.length_take]; rfl)) ?_
                                  with_reducible refine (bollardref1_Varint.calls kj13 (IntKind.u64.wrap ((a0_1.size : Int))) t188 _ A23.out).mono ?_
                                  rintro e w42 ⟨v189, rfl, ho0, hb⟩
                                  refine ⟨_, rfl, ?_⟩
                                  have n0_ := Aside0.mk (Kd.R_elder' (by (with_reducible repeat (first | apply Kd.R_alloc | apply Kd.R_drewN | apply Kd.R_drew)); exact HO177.out) (Kd.R_base ho0) hb)
                                  have n1_ := Aside0.mk (Kd.R_elder' (by (with_reducible repeat (first | apply Kd.R_alloc | apply Kd.R_drewN | apply Kd.R_drew)); exact HO184.out) (Kd.R_base ho0) hb)
                                  have n2_ := Aside0.mk (Kd.R_elder' (by (with_reducible repeat (first | apply Kd.R_alloc | apply Kd.R_drewN | apply Kd.R_drew)); exact HO187.out) (Kd.R_base ho0) hb)
                                  have n3_ := Aside0.mk (Kd.R_lower (Kd.R_new' (Kd.R_new' (Kd.R_new' ho0 (Kd.R_lt (by (with_reducible repeat (first | apply Kd.R_alloc | apply Kd.R_drewN | apply Kd.R_drew)); exact HO177.out))) (Kd.R_lt (by (with_reducible repeat (first | apply Kd.R_alloc | apply Kd.R_drewN | apply Kd.R_drew)); exact HO184.out))) (Kd.R_lt (by (with_reducible repeat (first | apply Kd.R_alloc | apply Kd.R_drewN | apply Kd.R_drew)); exact HO187.out))) (below_size (by repeat (first | (with_reducible first | exact HB.out | apply below_alloc | apply pw_below_drewN | apply below_drew1 | refine below_set ?_ GE170.out) | exact HB.out))))
                                  have n4_ := Aside0.mk (blk_below (g := gb170) (o := .cells #[.bool true, .string a0_1, .bool true, .string a0_3, .int .i64 a0_4, .int .i64 a0_5] 23 (0, 0)) (by (with_reducible repeat (first | refine blk_drewN ?_ _ | refine blk_drew ?_ | refine blk_alloc ?_ _)); exact BK170.out) hb)
                                  have n5_ := Aside0.mk (below_step (by repeat (first | (with_reducible first | exact HB.out | apply below_alloc | apply pw_below_drewN | apply below_drew1 | refine below_set ?_ GE170.out) | exact HB.out)) hb)
                                  clear HO177
                                  clear HO184
                                  clear HO187
                                  clear BK170
                                  clear HB
                                  have HO177 := n0_
                                  have HO184 := n1_
                                  have HO187 := n2_
                                  have HO190 := n3_
                                  have BK170 := n4_
                                  have HB := n5_
                                  clear n0_ n1_ n2_ n3_ n4_ n5_
                                  (try clear hb)
                                  (try clear hb2)
                                  (try clear hk)
                                  (try clear hi)
                                  (try clear ho0)
                                  obtain ⟨Ao44, co44, eo44⟩ := Kd.R_slice HO190.out
                                  (first | subst eo44 | (injection eo44 with f1_ f2_ f3_; have f4_ := f1_.symm; have f5_ := f3_.symm; clear f1_ f2_ f3_; subst f4_; subst f5_))
                                  refine hK.out _ _ ⟨(blk_cell BK170.out 0).trans rfl, (blk_cell BK170.out 1).trans rfl, (blk_cell BK170.out 2).trans rfl, (blk_cell BK170.out 3).trans rfl, (blk_cell BK170.out 4).trans rfl, (blk_cell BK170.out 5).trans rfl⟩ (fun hHeld => ?_)
                                  clear hK K
                                  refine norm_ (a' := ?_) ?_ ?_
                                  rotate_left
                                  · show Act.put _ (some 48) _ = _
                                    simp only [Act.put, List.setIfInBounds_toArray, List.set_cons_zero, List.set_cons_succ, i64_w, i32_w]
                                    rfl
                                  refine one_ (i := 6) (N := some 49) #[true, true, true, true, true, true, true, true, true, false, false] rfl rfl (one_of HT_.out (by kernel_rfl)) (by decide) (fun K hK => ?_)
                                  refine Kd.R_append_rows_step (Kd.int .u8) (w0 := w) w.heap.size (by rfl) (.tmp 43) (.tmp 48) 25 5 (.int .u8 0) 1 rfl Try.underlying25 info5 rfl (by decide) (by omega) v186 y185 t188 _ _ _ (fun k_ => some k_ ≠ (.slice Ao35 t175.length co35 : Value).ownBlock ∧ some k_ ≠ (.slice Ao39 t182.length co39 : Value).ownBlock ∧ some k_ ≠ (.slice Ao44 t188.length co44 : Value).ownBlock) (fun _ => False) rfl rfl ?aO ?aR (fun _ _ h => h) (fun _ h => h.elim) ?aF ?aB ?aS ?aL ?_
                                  (case aR => repeat (first | exact (Kd.R_reads' HO190.out).2.2 | (with_reducible refine Kd.C_alloc ?_ _) | (with_reducible refine Kd.C_drewN ?_ _) | (with_reducible refine Kd.C_drew ?_)))
                                  (case aB => exact (by repeat (first | (with_reducible first | exact HB.out | apply below_alloc | apply pw_below_drewN | apply below_drew1 | refine below_set ?_ GE170.out) | exact HB.out)))
                                  (case aF => exact (fun k_ hk => ⟨Kd.fresh' (Kd.R_lt (by (with_reducible repeat (first | apply Kd.R_alloc | apply Kd.R_drewN | apply Kd.R_drew)); exact HO177.out)) k_ hk, Kd.fresh' (Kd.R_lt (by (with_reducible repeat (first | apply Kd.R_alloc | apply Kd.R_drewN | apply Kd.R_drew)); exact HO184.out)) k_ hk, Kd.fresh' (Kd.R_lt (by (with_reducible repeat (first | apply Kd.R_alloc | apply Kd.R_drewN | apply Kd.R_drew)); exact HO190.out)) k_ hk⟩))
                                  (case aO => exact (by (with_reducible repeat (first | apply Kd.R_alloc | apply Kd.R_drewN | apply Kd.R_drew)); exact Kd.R_mono HO187.out (fun _ hk => ⟨hk.1.1, ⟨hk.1.2, hk.2⟩⟩)))
                                  (case aS => exact (below_size (by repeat (first | (with_reducible first | exact HB.out | apply below_alloc | apply pw_below_drewN | apply below_drew1 | refine below_set ?_ GE170.out) | exact HB.out))))
                                  (case aL => have := LMc24.out; omega)
                                  intro v192 w43 ho hb hg hat
                                  rw [← Ny191.out] at ho
                                  have n0_ := Aside0.mk (blk_grown (g := gb170) (o := .cells #[.bool true, .string a0_1, .bool true, .string a0_3, .int .i64 a0_4, .int .i64 a0_5] 23 (0, 0)) (by (with_reducible repeat (first | refine blk_drewN ?_ _ | refine blk_drew ?_ | refine blk_alloc ?_ _)); exact BK170.out) hg (Kd.R_ne HO187.out BK170.out (by decide)))
                                  have n1_ := Aside0.mk (Kd.R_after (ok := (fun k_ => some k_ ≠ (.slice Ao39 t182.length co39 : Value).ownBlock ∧ some k_ ≠ (.slice Ao44 t188.length co44 : Value).ownBlock)) (by (with_reducible repeat (first | apply Kd.R_alloc | apply Kd.R_drewN | apply Kd.R_drew)); exact Kd.R_mono HO177.out (fun _ hk => ⟨⟨hk.1.1, hk.2⟩, hk.1.2⟩)) hg hat)
                                  have n2_ := Aside0.mk (Kd.R_after (ok := (fun k_ => some k_ ≠ (.slice Ao35 t175.length co35 : Value).ownBlock ∧ some k_ ≠ (.slice Ao44 t188.length co44 : Value).ownBlock)) (by (with_reducible repeat (first | apply Kd.R_alloc | apply Kd.R_drewN | apply Kd.R_drew)); exact Kd.R_mono HO184.out (fun _ hk => ⟨⟨hk.1.1, hk.2⟩, hk.1.2⟩)) hg hat)
                                  have n3_ := Aside0.mk (Kd.R_after (ok := (fun k_ => some k_ ≠ (.slice Ao35 t175.length co35 : Value).ownBlock ∧ some k_ ≠ (.slice Ao39 t182.length co39 : Value).ownBlock)) (by (with_reducible repeat (first | apply Kd.R_alloc | apply Kd.R_drewN | apply Kd.R_drew)); exact Kd.R_mono HO190.out (fun _ hk => ⟨⟨hk.1.1.2, hk.1.2⟩, hk.2⟩)) hg hat)
                                  have n4_ := Aside0.mk (hb)
                                  have n5_ := Aside0.mk (ho)
                                  clear BK170
                                  clear HO177
                                  clear HO184
                                  clear HO190
                                  clear HB
                                  clear HO187
                                  have BK170 := n0_
                                  have HO177 := n1_
                                  have HO184 := n2_
                                  have HO190 := n3_
                                  have HB := n4_
                                  have HO193 := n5_
                                  clear n0_ n1_ n2_ n3_ n4_ n5_
                                  clear ho hb hg hat
                                  refine hK.out _ _ ⟨(blk_cell BK170.out 0).trans rfl, (blk_cell BK170.out 1).trans rfl, (blk_cell BK170.out 2).trans rfl, (blk_cell BK170.out 3).trans rfl, (blk_cell BK170.out 4).trans rfl, (blk_cell BK170.out 5).trans rfl⟩ (fun hHeld => ?_)
                                  clear hK K
                                  refine norm_ (a' := ?_) ?_ ?_
                                  rotate_left
                                  · show Act.put _ (some 49) _ = _
                                    simp only [Act.put, List.setIfInBounds_toArray, List.set_cons_zero, List.set_cons_succ, i64_w, i32_w]
                                    rfl
                                  refine one_ (i := 9) (N := some 52) #[true, true, true, true, true, true, true, true, true, true, false] rfl rfl (one_of HT_.out (by kernel_rfl)) (by decide) (fun K hK => ?_)
                                  refine Kd.R_append_str_step (w0 := w) w.heap.size (by rfl) (.tmp 49) _ 25 9 5 rfl Try.underlying25 Try.underlying9 info5 v192 y191 a0_1 (fun k_ => some k_ ≠ (.slice Ao35 t175.length co35 : Value).ownBlock ∧ some k_ ≠ (.slice Ao39 t182.length co39 : Value).ownBlock ∧ some k_ ≠ (.slice Ao44 t188.length co44 : Value).ownBlock) rfl rfl ?aF ?aO ?aB ?aS ?aL ?_
                                  (case aB => exact (by repeat (first | (with_reducible first | exact HB.out | apply below_alloc | apply pw_below_drewN | apply below_drew1 | refine below_set ?_ GE170.out) | exact HB.out)))
                                  (case aF => exact (fun k_ hk => ⟨Kd.fresh' (Kd.R_lt (by (with_reducible repeat (first | apply Kd.R_alloc | apply Kd.R_drewN | apply Kd.R_drew)); exact HO177.out)) k_ hk, Kd.fresh' (Kd.R_lt (by (with_reducible repeat (first | apply Kd.R_alloc | apply Kd.R_drewN | apply Kd.R_drew)); exact HO184.out)) k_ hk, Kd.fresh' (Kd.R_lt (by (with_reducible repeat (first | apply Kd.R_alloc | apply Kd.R_drewN | apply Kd.R_drew)); exact HO190.out)) k_ hk⟩))
                                  (case aO => exact (by (with_reducible repeat (first | apply Kd.R_alloc | apply Kd.R_drewN | apply Kd.R_drew)); exact HO193.out))
                                  (case aS => exact (below_size (by repeat (first | (with_reducible first | exact HB.out | apply below_alloc | apply pw_below_drewN | apply below_drew1 | refine below_set ?_ GE170.out) | exact HB.out))))
                                  (case aL => have := LMc25.out; omega)
                                  intro v195 w45 ho hb hg hat
                                  rw [← Ny194.out] at ho
                                  have n0_ := Aside0.mk (blk_grown (g := gb170) (o := .cells #[.bool true, .string a0_1, .bool true, .string a0_3, .int .i64 a0_4, .int .i64 a0_5] 23 (0, 0)) (by (with_reducible repeat (first | refine blk_drewN ?_ _ | refine blk_drew ?_ | refine blk_alloc ?_ _)); exact BK170.out) hg (Kd.R_ne HO193.out BK170.out (by decide)))
                                  have n1_ := Aside0.mk (Kd.R_after (ok := (fun k_ => some k_ ≠ (.slice Ao39 t182.length co39 : Value).ownBlock ∧ some k_ ≠ (.slice Ao44 t188.length co44 : Value).ownBlock)) (by (with_reducible repeat (first | apply Kd.R_alloc | apply Kd.R_drewN | apply Kd.R_drew)); exact HO177.out) hg hat)
                                  have n2_ := Aside0.mk (Kd.R_after (ok := (fun k_ => some k_ ≠ (.slice Ao35 t175.length co35 : Value).ownBlock ∧ some k_ ≠ (.slice Ao44 t188.length co44 : Value).ownBlock)) (by (with_reducible repeat (first | apply Kd.R_alloc | apply Kd.R_drewN | apply Kd.R_drew)); exact HO184.out) hg hat)
                                  have n3_ := Aside0.mk (Kd.R_after (ok := (fun k_ => some k_ ≠ (.slice Ao35 t175.length co35 : Value).ownBlock ∧ some k_ ≠ (.slice Ao39 t182.length co39 : Value).ownBlock)) (by (with_reducible repeat (first | apply Kd.R_alloc | apply Kd.R_drewN | apply Kd.R_drew)); exact HO190.out) hg hat)
                                  have n4_ := Aside0.mk (hb)
                                  have n5_ := Aside0.mk (ho)
                                  clear BK170
                                  clear HO177
                                  clear HO184
                                  clear HO190
                                  clear HB
                                  clear HO193
                                  have BK170 := n0_
                                  have HO177 := n1_
                                  have HO184 := n2_
                                  have HO190 := n3_
                                  have HB := n4_
                                  have HO196 := n5_
                                  clear n0_ n1_ n2_ n3_ n4_ n5_
                                  clear ho hb hg hat
                                  refine hK.out _ _ ⟨(blk_cell BK170.out 0).trans rfl, (blk_cell BK170.out 1).trans rfl, (blk_cell BK170.out 2).trans rfl, (blk_cell BK170.out 3).trans rfl, (blk_cell BK170.out 4).trans rfl, (blk_cell BK170.out 5).trans rfl⟩ (fun hHeld => ?_)
                                  clear hK K
                                  refine norm_ (a' := ?_) ?_ ?_
                                  rotate_left
                                  · show Act.put _ (some 52) _ = _
                                    simp only [Act.put, List.setIfInBounds_toArray, List.set_cons_zero, List.set_cons_succ, i64_w, i32_w]
                                    rfl
                                  refine pure_ (i := 10) (N := some 8) (v := ?_) (a' := ?_) #[true, true, true, true, true, true, true, true, true, true, true] rfl rfl (any_of HT_.out (by kernel_rfl)) (fun _ _ _ h => h) (Or.inl ⟨by rfl, ?_⟩) ?_ ?_
                                  rotate_left
                                  · intro w'
                                    go_simp
                                    with_reducible rfl
                                  rotate_left
                                  · simp only [Act.put, List.setIfInBounds_toArray, List.set_cons_zero, List.set_cons_succ, i64_w, i32_w]
                                    rfl
                                  refine done_ (done_of HT_.out (by kernel_rfl)) ?_
                                  have hcz46_0 : w45.cell? ⟨gb170, 0, none⟩ = some (.bool true) := (blk_cell BK170.out 0).trans rfl
                                  have hcz46_1 : w45.cell? ⟨gb170, 1, none⟩ = some (.string a0_1) := (blk_cell BK170.out 1).trans rfl
                                  have hcz46_2 : w45.cell? ⟨gb170, 2, none⟩ = some (.bool true) := (blk_cell BK170.out 2).trans rfl
                                  have hcz46_3 : w45.cell? ⟨gb170, 3, none⟩ = some (.string a0_3) := (blk_cell BK170.out 3).trans rfl
                                  have hcz46_4 : w45.cell? ⟨gb170, 4, none⟩ = some (.int .i64 a0_4) := (blk_cell BK170.out 4).trans rfl
                                  have hcz46_5 : w45.cell? ⟨gb170, 5, none⟩ = some (.int .i64 a0_5) := (blk_cell BK170.out 5).trans rfl
                                  have hfz46_0 := blk_frozen BK170.out 0
                                  have hfz46_1 := blk_frozen BK170.out 1
                                  have hfz46_2 := blk_frozen BK170.out 2
                                  have hfz46_3 := blk_frozen BK170.out 3
                                  have hfz46_4 := blk_frozen BK170.out 4
                                  have hfz46_5 := blk_frozen BK170.out 5
                                  try go_wp2
                                  have n0_ := Aside0.mk (Kd.R_drew HO177.out)
                                  have n1_ := Aside0.mk (Kd.R_drew HO184.out)
                                  have n2_ := Aside0.mk (Kd.R_drew HO190.out)
                                  have n3_ := Aside0.mk (Kd.R_drew HO196.out)
                                  have n4_ := Aside0.mk (blk_drew BK170.out)
                                  have n5_ := Aside0.mk (below_drew1 HB.out)
                                  clear HO177
                                  clear HO184
                                  clear HO190
                                  clear HO196
                                  clear BK170
                                  clear HB
                                  have HO177 := n0_
                                  have HO184 := n1_
                                  have HO190 := n2_
                                  have HO196 := n3_
                                  have BK170 := n4_
                                  have HB := n5_
                                  clear n0_ n1_ n2_ n3_ n4_ n5_
                                  refine start_ (n := 11) (S := fun w' => w'.cell? ⟨gb170, 0, none⟩ = some (.bool true) ∧ w'.cell? ⟨gb170, 1, none⟩ = some (.string a0_1) ∧ w'.cell? ⟨gb170, 2, none⟩ = some (.bool true) ∧ w'.cell? ⟨gb170, 3, none⟩ = some (.string a0_3) ∧ w'.cell? ⟨gb170, 4, none⟩ = some (.int .i64 a0_4) ∧ w'.cell? ⟨gb170, 5, none⟩ = some (.int .i64 a0_5)) (ds := []) #[false, false, false, false, false, false, false, false, false, false, false] (by kernel_rfl) rfl rfl ⟨(blk_cell BK170.out 0).trans rfl, (blk_cell BK170.out 1).trans rfl, (blk_cell BK170.out 2).trans rfl, (blk_cell BK170.out 3).trans rfl, (blk_cell BK170.out 4).trans rfl, (blk_cell BK170.out 5).trans rfl⟩ (fun hHeld => ?_); refine with_tabW bollardref12_Encode.tab16 bollardref12_Encode.bits16 (fun HT_ HW_ => ?_)
                                  generalize w45.drew = w47 at HO177 HO184 HO190 HO196 BK170 HB hHeld ⊢
                                  refine pure_ (i := 0) (N := some 55) (v := ?_) (a' := ?_) #[true, false, false, false, false, false, false, false, false, false, false] rfl rfl (any_of HT_.out (by kernel_rfl)) (fun _ _ _ h => h) (Or.inl ⟨by rfl, ?_⟩) ?_ ?_
                                  rotate_left
                                  · intro w'
                                    go_simp
                                    with_reducible rfl
                                  rotate_left
                                  · simp only [Act.put, List.setIfInBounds_toArray, List.set_cons_zero, List.set_cons_succ, i64_w, i32_w]
                                    rfl
                                  refine pure_ (i := 1) (N := some 56) (v := ?_) (a' := ?_) #[true, true, false, false, false, false, false, false, false, false, false] rfl rfl (any_of HT_.out (by kernel_rfl)) (fun _ _ _ h => h) (Or.inl ⟨by rfl, ?_⟩) ?_ ?_
                                  rotate_left
                                  · intro w'
                                    go_simp
                                    with_reducible rfl
                                  rotate_left
                                  · simp only [Act.put, List.setIfInBounds_toArray, List.set_cons_zero, List.set_cons_succ, i64_w, i32_w]
                                    rfl
                                  refine pure_ (i := 7) (N := some 62) (v := ?_) (a' := ?_) #[true, true, false, false, false, false, false, true, false, false, false] rfl rfl (any_of HT_.out (by kernel_rfl)) (fun _ _ _ h => h) (Or.inl ⟨by rfl, ?_⟩) ?_ ?_
                                  rotate_left
                                  · intro w'
                                    go_simp
                                    with_reducible rfl
                                  rotate_left
                                  · simp only [Act.put, List.setIfInBounds_toArray, List.set_cons_zero, List.set_cons_succ, i64_w, i32_w]
                                    rfl
                                  refine take_ (i := 2) (N := some 57) (v := ?_) (a' := ?_) #[true, true, true, false, false, false, false, true, false, false, false] rfl rfl (take_ofW HT_.out HW_.out (by kernel_rfl)) (fun _ _ _ h => h) (Or.inl ⟨by rfl, ?_⟩) hHeld ?_ ?_
                                  rotate_left
                                  · rintro w' ⟨s0, s1, s2, s3, s4, s5⟩
                                    go_simp
                                    with_reducible rfl
                                  rotate_left
                                  · simp only [Act.put, List.setIfInBounds_toArray, List.set_cons_zero, List.set_cons_succ, i64_w, i32_w]
                                    rfl
                                  refine pure_ (i := 3) (N := some 58) (v := ?_) (a' := ?_) #[true, true, true, true, false, false, false, true, false, false, false] rfl rfl (any_of HT_.out (by kernel_rfl)) (fun _ _ _ h => h) (Or.inl ⟨by rfl, ?_⟩) ?_ ?_
                                  rotate_left
                                  · intro w'
                                    go_simp
                                    with_reducible rfl
                                  rotate_left
                                  · simp only [Act.put, List.setIfInBounds_toArray, List.set_cons_zero, List.set_cons_succ, i64_w, i32_w]
                                    rfl
                                  refine pure_ (i := 4) (N := some 59) (v := ?_) (a' := ?_) #[true, true, true, true, true, false, false, true, false, false, false] rfl rfl (any_of HT_.out (by kernel_rfl)) (fun _ _ _ h => h) (Or.inl ⟨by rfl, ?_⟩) ?_ ?_
                                  rotate_left
                                  · intro w'
                                    go_simp
                                    with_reducible rfl
                                  rotate_left
                                  · simp only [Act.put, List.setIfInBounds_toArray, List.set_cons_zero, List.set_cons_succ, i64_w, i32_w]
                                    rfl
                                  refine take_ (i := 8) (N := some 63) (v := ?_) (a' := ?_) #[true, true, true, true, true, false, false, true, true, false, false] rfl rfl (take_ofW HT_.out HW_.out (by kernel_rfl)) (fun _ _ _ h => h) (Or.inl ⟨by rfl, ?_⟩) hHeld ?_ ?_
                                  rotate_left
                                  · rintro w' ⟨s0, s1, s2, s3, s4, s5⟩
                                    go_simp
                                    with_reducible rfl
                                  rotate_left
                                  · simp only [Act.put, List.setIfInBounds_toArray, List.set_cons_zero, List.set_cons_succ, i64_w, i32_w]
                                    rfl
                                  refine one_ (i := 5) (N := some 60) #[true, true, true, true, true, true, false, true, true, false, false] rfl rfl (one_of HT_.out (by kernel_rfl)) (by decide) (fun K hK => ?_)
                                  refine goes_ Try.func23 (by kernel_rfl) rfl #[.int .u64 (IntKind.u64.wrap ((a0_3.size : Int)))] (by rfl) rfl rfl (by (try simp only [List.map_toArray, List.map_cons, List.map_nil]); first | done | rfl | (simp only [List.length_drop, List.length_take]; rfl)) ?_
                                  with_reducible refine (bollardref1_Varint.calls kj13 (IntKind.u64.wrap ((a0_3.size : Int))) t197 _ A27.out).mono ?_
                                  rintro e w48 ⟨v198, rfl, ho0, hb⟩
                                  refine ⟨_, rfl, ?_⟩
                                  have n0_ := Aside0.mk (Kd.R_elder' (by (with_reducible repeat (first | apply Kd.R_alloc | apply Kd.R_drewN | apply Kd.R_drew)); exact HO177.out) (Kd.R_base ho0) hb)
                                  have n1_ := Aside0.mk (Kd.R_elder' (by (with_reducible repeat (first | apply Kd.R_alloc | apply Kd.R_drewN | apply Kd.R_drew)); exact HO184.out) (Kd.R_base ho0) hb)
                                  have n2_ := Aside0.mk (Kd.R_elder' (by (with_reducible repeat (first | apply Kd.R_alloc | apply Kd.R_drewN | apply Kd.R_drew)); exact HO190.out) (Kd.R_base ho0) hb)
                                  have n3_ := Aside0.mk (Kd.R_elder' (by (with_reducible repeat (first | apply Kd.R_alloc | apply Kd.R_drewN | apply Kd.R_drew)); exact HO196.out) (Kd.R_base ho0) hb)
                                  have n4_ := Aside0.mk (Kd.R_lower (Kd.R_new' (Kd.R_new' (Kd.R_new' (Kd.R_new' ho0 (Kd.R_lt (by (with_reducible repeat (first | apply Kd.R_alloc | apply Kd.R_drewN | apply Kd.R_drew)); exact HO177.out))) (Kd.R_lt (by (with_reducible repeat (first | apply Kd.R_alloc | apply Kd.R_drewN | apply Kd.R_drew)); exact HO184.out))) (Kd.R_lt (by (with_reducible repeat (first | apply Kd.R_alloc | apply Kd.R_drewN | apply Kd.R_drew)); exact HO190.out))) (Kd.R_lt (by (with_reducible repeat (first | apply Kd.R_alloc | apply Kd.R_drewN | apply Kd.R_drew)); exact HO196.out))) (below_size (by repeat (first | (with_reducible first | exact HB.out | apply below_alloc | apply pw_below_drewN | apply below_drew1 | refine below_set ?_ GE170.out) | exact HB.out))))
                                  have n5_ := Aside0.mk (blk_below (g := gb170) (o := .cells #[.bool true, .string a0_1, .bool true, .string a0_3, .int .i64 a0_4, .int .i64 a0_5] 23 (0, 0)) (by (with_reducible repeat (first | refine blk_drewN ?_ _ | refine blk_drew ?_ | refine blk_alloc ?_ _)); exact BK170.out) hb)
                                  have n6_ := Aside0.mk (below_step (by repeat (first | (with_reducible first | exact HB.out | apply below_alloc | apply pw_below_drewN | apply below_drew1 | refine below_set ?_ GE170.out) | exact HB.out)) hb)
                                  clear HO177
                                  clear HO184
                                  clear HO190
                                  clear HO196
                                  clear BK170
                                  clear HB
                                  have HO177 := n0_
                                  have HO184 := n1_
                                  have HO190 := n2_
                                  have HO196 := n3_
                                  have HO199 := n4_
                                  have BK170 := n5_
                                  have HB := n6_
                                  clear n0_ n1_ n2_ n3_ n4_ n5_ n6_
                                  (try clear hb)
                                  (try clear hb2)
                                  (try clear hk)
                                  (try clear hi)
                                  (try clear ho0)
                                  obtain ⟨Ao50, co50, eo50⟩ := Kd.R_slice HO199.out
                                  (first | subst eo50 | (injection eo50 with f1_ f2_ f3_; have f4_ := f1_.symm; have f5_ := f3_.symm; clear f1_ f2_ f3_; subst f4_; subst f5_))
                                  refine hK.out _ _ ⟨(blk_cell BK170.out 0).trans rfl, (blk_cell BK170.out 1).trans rfl, (blk_cell BK170.out 2).trans rfl, (blk_cell BK170.out 3).trans rfl, (blk_cell BK170.out 4).trans rfl, (blk_cell BK170.out 5).trans rfl⟩ (fun hHeld => ?_)
                                  clear hK K
                                  refine norm_ (a' := ?_) ?_ ?_
                                  rotate_left
                                  · show Act.put _ (some 60) _ = _
                                    simp only [Act.put, List.setIfInBounds_toArray, List.set_cons_zero, List.set_cons_succ, i64_w, i32_w]
                                    rfl
                                  refine one_ (i := 6) (N := some 61) #[true, true, true, true, true, true, true, true, true, false, false] rfl rfl (one_of HT_.out (by kernel_rfl)) (by decide) (fun K hK => ?_)
                                  refine Kd.R_append_rows_step (Kd.int .u8) (w0 := w) w.heap.size (by rfl) (.tmp 55) (.tmp 60) 25 5 (.int .u8 0) 1 rfl Try.underlying25 info5 rfl (by decide) (by omega) v195 y194 t197 _ _ _ (fun k_ => some k_ ≠ (.slice Ao35 t175.length co35 : Value).ownBlock ∧ some k_ ≠ (.slice Ao39 t182.length co39 : Value).ownBlock ∧ some k_ ≠ (.slice Ao44 t188.length co44 : Value).ownBlock ∧ some k_ ≠ (.slice Ao50 t197.length co50 : Value).ownBlock) (fun _ => False) rfl rfl ?aO ?aR (fun _ _ h => h) (fun _ h => h.elim) ?aF ?aB ?aS ?aL ?_
                                  (case aR => repeat (first | exact (Kd.R_reads' HO199.out).2.2 | (with_reducible refine Kd.C_alloc ?_ _) | (with_reducible refine Kd.C_drewN ?_ _) | (with_reducible refine Kd.C_drew ?_)))
                                  (case aB => exact (by repeat (first | (with_reducible first | exact HB.out | apply below_alloc | apply pw_below_drewN | apply below_drew1 | refine below_set ?_ GE170.out) | exact HB.out)))
                                  (case aF => exact (fun k_ hk => ⟨Kd.fresh' (Kd.R_lt (by (with_reducible repeat (first | apply Kd.R_alloc | apply Kd.R_drewN | apply Kd.R_drew)); exact HO177.out)) k_ hk, Kd.fresh' (Kd.R_lt (by (with_reducible repeat (first | apply Kd.R_alloc | apply Kd.R_drewN | apply Kd.R_drew)); exact HO184.out)) k_ hk, Kd.fresh' (Kd.R_lt (by (with_reducible repeat (first | apply Kd.R_alloc | apply Kd.R_drewN | apply Kd.R_drew)); exact HO190.out)) k_ hk, Kd.fresh' (Kd.R_lt (by (with_reducible repeat (first | apply Kd.R_alloc | apply Kd.R_drewN | apply Kd.R_drew)); exact HO199.out)) k_ hk⟩))
                                  (case aO => exact (by (with_reducible repeat (first | apply Kd.R_alloc | apply Kd.R_drewN | apply Kd.R_drew)); exact Kd.R_mono HO196.out (fun _ hk => ⟨hk.1.1, ⟨hk.1.2.1, ⟨hk.1.2.2, hk.2⟩⟩⟩)))
                                  (case aS => exact (below_size (by repeat (first | (with_reducible first | exact HB.out | apply below_alloc | apply pw_below_drewN | apply below_drew1 | refine below_set ?_ GE170.out) | exact HB.out))))
                                  (case aL => have := LMc28.out; omega)
                                  intro v201 w49 ho hb hg hat
                                  rw [← Ny200.out] at ho
                                  have n0_ := Aside0.mk (blk_grown (g := gb170) (o := .cells #[.bool true, .string a0_1, .bool true, .string a0_3, .int .i64 a0_4, .int .i64 a0_5] 23 (0, 0)) (by (with_reducible repeat (first | refine blk_drewN ?_ _ | refine blk_drew ?_ | refine blk_alloc ?_ _)); exact BK170.out) hg (Kd.R_ne HO196.out BK170.out (by decide)))
                                  have n1_ := Aside0.mk (Kd.R_after (ok := (fun k_ => some k_ ≠ (.slice Ao39 t182.length co39 : Value).ownBlock ∧ some k_ ≠ (.slice Ao44 t188.length co44 : Value).ownBlock ∧ some k_ ≠ (.slice Ao50 t197.length co50 : Value).ownBlock)) (by (with_reducible repeat (first | apply Kd.R_alloc | apply Kd.R_drewN | apply Kd.R_drew)); exact Kd.R_mono HO177.out (fun _ hk => ⟨⟨hk.1.1.1, ⟨hk.1.1.2, hk.2⟩⟩, hk.1.2⟩)) hg hat)
                                  have n2_ := Aside0.mk (Kd.R_after (ok := (fun k_ => some k_ ≠ (.slice Ao35 t175.length co35 : Value).ownBlock ∧ some k_ ≠ (.slice Ao44 t188.length co44 : Value).ownBlock ∧ some k_ ≠ (.slice Ao50 t197.length co50 : Value).ownBlock)) (by (with_reducible repeat (first | apply Kd.R_alloc | apply Kd.R_drewN | apply Kd.R_drew)); exact Kd.R_mono HO184.out (fun _ hk => ⟨⟨hk.1.1.1, ⟨hk.1.1.2, hk.2⟩⟩, hk.1.2⟩)) hg hat)
                                  have n3_ := Aside0.mk (Kd.R_after (ok := (fun k_ => some k_ ≠ (.slice Ao35 t175.length co35 : Value).ownBlock ∧ some k_ ≠ (.slice Ao39 t182.length co39 : Value).ownBlock ∧ some k_ ≠ (.slice Ao50 t197.length co50 : Value).ownBlock)) (by (with_reducible repeat (first | apply Kd.R_alloc | apply Kd.R_drewN | apply Kd.R_drew)); exact Kd.R_mono HO190.out (fun _ hk => ⟨⟨hk.1.1.1, ⟨hk.1.1.2, hk.2⟩⟩, hk.1.2⟩)) hg hat)
                                  have n4_ := Aside0.mk (Kd.R_after (ok := (fun k_ => some k_ ≠ (.slice Ao35 t175.length co35 : Value).ownBlock ∧ some k_ ≠ (.slice Ao39 t182.length co39 : Value).ownBlock ∧ some k_ ≠ (.slice Ao44 t188.length co44 : Value).ownBlock)) (by (with_reducible repeat (first | apply Kd.R_alloc | apply Kd.R_drewN | apply Kd.R_drew)); exact Kd.R_mono HO199.out (fun _ hk => ⟨⟨hk.1.1.1.2, ⟨hk.1.1.2, hk.1.2⟩⟩, hk.2⟩)) hg hat)
                                  have n5_ := Aside0.mk (hb)
                                  have n6_ := Aside0.mk (ho)
                                  clear BK170
                                  clear HO177
                                  clear HO184
                                  clear HO190
                                  clear HO199
                                  clear HB
                                  clear HO196
                                  have BK170 := n0_
                                  have HO177 := n1_
                                  have HO184 := n2_
                                  have HO190 := n3_
                                  have HO199 := n4_
                                  have HB := n5_
                                  have HO202 := n6_
                                  clear n0_ n1_ n2_ n3_ n4_ n5_ n6_
                                  clear ho hb hg hat
                                  refine hK.out _ _ ⟨(blk_cell BK170.out 0).trans rfl, (blk_cell BK170.out 1).trans rfl, (blk_cell BK170.out 2).trans rfl, (blk_cell BK170.out 3).trans rfl, (blk_cell BK170.out 4).trans rfl, (blk_cell BK170.out 5).trans rfl⟩ (fun hHeld => ?_)
                                  clear hK K
                                  refine norm_ (a' := ?_) ?_ ?_
                                  rotate_left
                                  · show Act.put _ (some 61) _ = _
                                    simp only [Act.put, List.setIfInBounds_toArray, List.set_cons_zero, List.set_cons_succ, i64_w, i32_w]
                                    rfl
                                  refine one_ (i := 9) (N := some 64) #[true, true, true, true, true, true, true, true, true, true, false] rfl rfl (one_of HT_.out (by kernel_rfl)) (by decide) (fun K hK => ?_)
                                  refine Kd.R_append_str_step (w0 := w) w.heap.size (by rfl) (.tmp 61) _ 25 9 5 rfl Try.underlying25 Try.underlying9 info5 v201 y200 a0_3 (fun k_ => some k_ ≠ (.slice Ao35 t175.length co35 : Value).ownBlock ∧ some k_ ≠ (.slice Ao39 t182.length co39 : Value).ownBlock ∧ some k_ ≠ (.slice Ao44 t188.length co44 : Value).ownBlock ∧ some k_ ≠ (.slice Ao50 t197.length co50 : Value).ownBlock) rfl rfl ?aF ?aO ?aB ?aS ?aL ?_
                                  (case aB => exact (by repeat (first | (with_reducible first | exact HB.out | apply below_alloc | apply pw_below_drewN | apply below_drew1 | refine below_set ?_ GE170.out) | exact HB.out)))
                                  (case aF => exact (fun k_ hk => ⟨Kd.fresh' (Kd.R_lt (by (with_reducible repeat (first | apply Kd.R_alloc | apply Kd.R_drewN | apply Kd.R_drew)); exact HO177.out)) k_ hk, Kd.fresh' (Kd.R_lt (by (with_reducible repeat (first | apply Kd.R_alloc | apply Kd.R_drewN | apply Kd.R_drew)); exact HO184.out)) k_ hk, Kd.fresh' (Kd.R_lt (by (with_reducible repeat (first | apply Kd.R_alloc | apply Kd.R_drewN | apply Kd.R_drew)); exact HO190.out)) k_ hk, Kd.fresh' (Kd.R_lt (by (with_reducible repeat (first | apply Kd.R_alloc | apply Kd.R_drewN | apply Kd.R_drew)); exact HO199.out)) k_ hk⟩))
                                  (case aO => exact (by (with_reducible repeat (first | apply Kd.R_alloc | apply Kd.R_drewN | apply Kd.R_drew)); exact HO202.out))
                                  (case aS => exact (below_size (by repeat (first | (with_reducible first | exact HB.out | apply below_alloc | apply pw_below_drewN | apply below_drew1 | refine below_set ?_ GE170.out) | exact HB.out))))
                                  (case aL => have := LMc29.out; omega)
                                  intro v204 w51 ho hb hg hat
                                  rw [← Ny203.out] at ho
                                  have n0_ := Aside0.mk (blk_grown (g := gb170) (o := .cells #[.bool true, .string a0_1, .bool true, .string a0_3, .int .i64 a0_4, .int .i64 a0_5] 23 (0, 0)) (by (with_reducible repeat (first | refine blk_drewN ?_ _ | refine blk_drew ?_ | refine blk_alloc ?_ _)); exact BK170.out) hg (Kd.R_ne HO202.out BK170.out (by decide)))
                                  have n1_ := Aside0.mk (Kd.R_after (ok := (fun k_ => some k_ ≠ (.slice Ao39 t182.length co39 : Value).ownBlock ∧ some k_ ≠ (.slice Ao44 t188.length co44 : Value).ownBlock ∧ some k_ ≠ (.slice Ao50 t197.length co50 : Value).ownBlock)) (by (with_reducible repeat (first | apply Kd.R_alloc | apply Kd.R_drewN | apply Kd.R_drew)); exact HO177.out) hg hat)
                                  have n2_ := Aside0.mk (Kd.R_after (ok := (fun k_ => some k_ ≠ (.slice Ao35 t175.length co35 : Value).ownBlock ∧ some k_ ≠ (.slice Ao44 t188.length co44 : Value).ownBlock ∧ some k_ ≠ (.slice Ao50 t197.length co50 : Value).ownBlock)) (by (with_reducible repeat (first | apply Kd.R_alloc | apply Kd.R_drewN | apply Kd.R_drew)); exact HO184.out) hg hat)
                                  have n3_ := Aside0.mk (Kd.R_after (ok := (fun k_ => some k_ ≠ (.slice Ao35 t175.length co35 : Value).ownBlock ∧ some k_ ≠ (.slice Ao39 t182.length co39 : Value).ownBlock ∧ some k_ ≠ (.slice Ao50 t197.length co50 : Value).ownBlock)) (by (with_reducible repeat (first | apply Kd.R_alloc | apply Kd.R_drewN | apply Kd.R_drew)); exact HO190.out) hg hat)
                                  have n4_ := Aside0.mk (Kd.R_after (ok := (fun k_ => some k_ ≠ (.slice Ao35 t175.length co35 : Value).ownBlock ∧ some k_ ≠ (.slice Ao39 t182.length co39 : Value).ownBlock ∧ some k_ ≠ (.slice Ao44 t188.length co44 : Value).ownBlock)) (by (with_reducible repeat (first | apply Kd.R_alloc | apply Kd.R_drewN | apply Kd.R_drew)); exact HO199.out) hg hat)
                                  have n5_ := Aside0.mk (hb)
                                  have n6_ := Aside0.mk (ho)
                                  clear BK170
                                  clear HO177
                                  clear HO184
                                  clear HO190
                                  clear HO199
                                  clear HB
                                  clear HO202
                                  have BK170 := n0_
                                  have HO177 := n1_
                                  have HO184 := n2_
                                  have HO190 := n3_
                                  have HO199 := n4_
                                  have HB := n5_
                                  have HO205 := n6_
                                  clear n0_ n1_ n2_ n3_ n4_ n5_ n6_
                                  clear ho hb hg hat
                                  refine hK.out _ _ ⟨(blk_cell BK170.out 0).trans rfl, (blk_cell BK170.out 1).trans rfl, (blk_cell BK170.out 2).trans rfl, (blk_cell BK170.out 3).trans rfl, (blk_cell BK170.out 4).trans rfl, (blk_cell BK170.out 5).trans rfl⟩ (fun hHeld => ?_)
                                  clear hK K
                                  refine norm_ (a' := ?_) ?_ ?_
                                  rotate_left
                                  · show Act.put _ (some 64) _ = _
                                    simp only [Act.put, List.setIfInBounds_toArray, List.set_cons_zero, List.set_cons_succ, i64_w, i32_w]
                                    rfl
                                  refine pure_ (i := 10) (N := some 8) (v := ?_) (a' := ?_) #[true, true, true, true, true, true, true, true, true, true, true] rfl rfl (any_of HT_.out (by kernel_rfl)) (fun _ _ _ h => h) (Or.inl ⟨by rfl, ?_⟩) ?_ ?_
                                  rotate_left
                                  · intro w'
                                    go_simp
                                    with_reducible rfl
                                  rotate_left
                                  · simp only [Act.put, List.setIfInBounds_toArray, List.set_cons_zero, List.set_cons_succ, i64_w, i32_w]
                                    rfl
                                  refine done_ (done_of HT_.out (by kernel_rfl)) ?_
                                  try go_wp2
                                  go_ret2
                                  exact ⟨_, by first | rfl | (simp [errW_none, errW_some] <;> rfl) | (simp [*, errW_none, errW_some] <;> rfl), by (with_reducible repeat (first | apply Kd.R_alloc | apply Kd.R_drewN | apply Kd.R_drew)); exact Kd.R_mono HO205.out (fun _ hk => trivial), by repeat (first | (with_reducible first | exact HB.out | apply below_alloc | apply pw_below_drewN | apply below_drew1 | refine below_set ?_ GE170.out) | exact HB.out)⟩
                                · rw [if_neg c29] at H
                                  exact absurd H (by simp)
                              · rw [if_neg c28] at H
                                exact absurd H (by simp)
                            · replace c26 := Bool.eq_false_iff.mpr c26
                              subst c26
                              have H1 : (some (y194, 0)) = some (r1, r2) := by rw [if_neg (show ¬ (false = true) by decide)] at H; exact H
                              clear H
                              have H := H1
                              clear H1
                              simp only [Option.some.injEq, Prod.mk.injEq] at H
                              obtain ⟨rfl, rfl⟩ := H
                              try go_wp2_with (first | ((with_reducible refine gate_dst (N := 27) rfl ?_); refine Kd.R_lit (Kd.int .u8) _ 5 ?hg (N := 27) ?hd (xs := ([x7_13] : List Int)) (inner := [.int .u8 x7_13]) (ok := fun _ => True) (okp := fun _ => True) ?hr ?hp (fun _ hk => hk) trivial (Below.refl _ _) (Nat.le_refl _) (by simp) ?_; (case hd => rfl); (case hg => rfl); (case hr => first | (go_simp; done) | (go_simp; rfl)); (case hp => exact (Reps.one (show Kd.M (Kd.int .u8) _ _ _ x7_13 [.int .u8 x7_13] from rfl) (Reps.none _ _))); intro v173 w52 ho53 hb hg_ hnew_; clear hg_ hnew_; (first | rw [← Ny172.out] at ho53 | (simp only [Int.reduceToNat] at ho53; rw [← Ny172.out] at ho53)); have n0_ := Aside0.mk (Kd.R_lower ho53 (below_size (by repeat (first | (with_reducible first | exact HB.out | apply below_alloc | apply pw_below_drewN | apply below_drew1 | refine below_set ?_ GE170.out) | exact HB.out)))); have n1_ := Aside0.mk (blk_below (g := gb170) (o := .cells #[.bool true, .string a0_1, .bool false, .string a0_3, .int .i64 a0_4, .int .i64 a0_5] 23 (0, 0)) (by (with_reducible repeat (first | refine blk_drewN ?_ _ | refine blk_drew ?_ | refine blk_alloc ?_ _)); exact BK170.out) hb); have n2_ := Aside0.mk (below_step (by repeat (first | (with_reducible first | exact HB.out | apply below_alloc | apply pw_below_drewN | apply below_drew1 | refine below_set ?_ GE170.out) | exact HB.out)) hb); clear BK170; clear HB; have HO174 := n0_; have BK170 := n1_; have HB := n2_; clear n0_ n1_ n2_; clear hb ho53; have hcz54_0 : w52.cell? ⟨gb170, 0, none⟩ = some (.bool true) := (blk_cell BK170.out 0).trans rfl; have hcz54_1 : w52.cell? ⟨gb170, 1, none⟩ = some (.string a0_1) := (blk_cell BK170.out 1).trans rfl; have hcz54_2 : w52.cell? ⟨gb170, 2, none⟩ = some (.bool false) := (blk_cell BK170.out 2).trans rfl; have hcz54_3 : w52.cell? ⟨gb170, 3, none⟩ = some (.string a0_3) := (blk_cell BK170.out 3).trans rfl; have hcz54_4 : w52.cell? ⟨gb170, 4, none⟩ = some (.int .i64 a0_4) := (blk_cell BK170.out 4).trans rfl; have hcz54_5 : w52.cell? ⟨gb170, 5, none⟩ = some (.int .i64 a0_5) := (blk_cell BK170.out 5).trans rfl; have hfz54_0 := blk_frozen BK170.out 0; have hfz54_1 := blk_frozen BK170.out 1; have hfz54_2 := blk_frozen BK170.out 2; have hfz54_3 := blk_frozen BK170.out 3; have hfz54_4 := blk_frozen BK170.out 4; have hfz54_5 := blk_frozen BK170.out 5) | ((with_reducible refine gate_callee (f := 23) rfl ?_); refine goesL_ (some 31) rfl rfl Try.func23 (by kernel_rfl) rfl #[.int .u64 (IntKind.u64.wrap (a0_5))] rfl (by (try simp only [List.map_toArray, List.map_cons, List.map_nil]); first | done | rfl | (simp only [List.length_drop, List.length_take]; rfl)) ?_; (with_reducible refine (bollardref1_Varint.calls kj13 (IntKind.u64.wrap (a0_5)) t175 _ A17.out).mono ?_); rintro e w55 ⟨v176, rfl, ho0, hb⟩; refine ⟨_, rfl, ?_⟩; have n0_ := Aside0.mk (Kd.R_elder' (by (with_reducible repeat (first | apply Kd.R_alloc | apply Kd.R_drewN | apply Kd.R_drew)); exact HO174.out) (Kd.R_base ho0) hb); have n1_ := Aside0.mk (Kd.R_lower (Kd.R_new' ho0 (Kd.R_lt (by (with_reducible repeat (first | apply Kd.R_alloc | apply Kd.R_drewN | apply Kd.R_drew)); exact HO174.out))) (below_size (by repeat (first | (with_reducible first | exact HB.out | apply below_alloc | apply pw_below_drewN | apply below_drew1 | refine below_set ?_ GE170.out) | exact HB.out)))); have n2_ := Aside0.mk (blk_below (g := gb170) (o := .cells #[.bool true, .string a0_1, .bool false, .string a0_3, .int .i64 a0_4, .int .i64 a0_5] 23 (0, 0)) (by (with_reducible repeat (first | refine blk_drewN ?_ _ | refine blk_drew ?_ | refine blk_alloc ?_ _)); exact BK170.out) hb); have n3_ := Aside0.mk (below_step (by repeat (first | (with_reducible first | exact HB.out | apply below_alloc | apply pw_below_drewN | apply below_drew1 | refine below_set ?_ GE170.out) | exact HB.out)) hb); clear HO174; clear BK170; clear HB; have HO174 := n0_; have HO177 := n1_; have BK170 := n2_; have HB := n3_; clear n0_ n1_ n2_ n3_; (try clear hb); (try clear hb2); (try clear hk); (try clear hi); (try clear ho0); obtain ⟨Ao57, co57, eo57⟩ := Kd.R_slice HO177.out; subst eo57) | ((with_reducible refine gate_builtin (b := .append) (xs := #[.tmp 27, .tmp 31]) rfl ?_); at_builtin; refine Kd.R_append_rows (Kd.int .u8) (w0 := w) w.heap.size rfl (.tmp 27) (.tmp 31) 25 5 (.int .u8 0) 1 rfl Try.underlying25 info5 rfl (by decide) (by omega) v173 y172 t175 _ _ _ (fun k_ => some k_ ≠ (.slice Ao57 t175.length co57 : Value).ownBlock) (fun _ => False) rfl rfl ?aO ?aR (fun _ _ h => h) (fun _ h => h.elim) ?aF ?aB ?aS ?aL ?_; (case aR => repeat (first | exact (Kd.R_reads' HO177.out).2.2 | (with_reducible refine Kd.C_alloc ?_ _) | (with_reducible refine Kd.C_drewN ?_ _) | (with_reducible refine Kd.C_drew ?_))); (case aB => exact (by repeat (first | (with_reducible first | exact HB.out | apply below_alloc | apply pw_below_drewN | apply below_drew1 | refine below_set ?_ GE170.out) | exact HB.out))); (case aF => exact (fun k_ hk => Kd.fresh' (Kd.R_lt (by (with_reducible repeat (first | apply Kd.R_alloc | apply Kd.R_drewN | apply Kd.R_drew)); exact HO177.out)) k_ hk)); (case aO => exact (by (with_reducible repeat (first | apply Kd.R_alloc | apply Kd.R_drewN | apply Kd.R_drew)); exact Kd.R_mono HO174.out (fun _ hk => hk.2))); (case aS => exact (below_size (by repeat (first | (with_reducible first | exact HB.out | apply below_alloc | apply pw_below_drewN | apply below_drew1 | refine below_set ?_ GE170.out) | exact HB.out)))); (case aL => have := LMc18.out; omega); intro v179 w56 ho hb hg hat; rw [← Ny178.out] at ho; have n0_ := Aside0.mk (blk_grown (g := gb170) (o := .cells #[.bool true, .string a0_1, .bool false, .string a0_3, .int .i64 a0_4, .int .i64 a0_5] 23 (0, 0)) (by (with_reducible repeat (first | refine blk_drewN ?_ _ | refine blk_drew ?_ | refine blk_alloc ?_ _)); exact BK170.out) hg (Kd.R_ne HO174.out BK170.out (by decide))); have n1_ := Aside0.mk (Kd.R_after (ok := (fun _ => True)) (by (with_reducible repeat (first | apply Kd.R_alloc | apply Kd.R_drewN | apply Kd.R_drew)); exact HO177.out) hg hat); have n2_ := Aside0.mk (hb); have n3_ := Aside0.mk (ho); clear BK170; clear HO177; clear HB; clear HO174; have BK170 := n0_; have HO177 := n1_; have HB := n2_; have HO180 := n3_; clear n0_ n1_ n2_ n3_; clear ho hb hg hat; have hcz58_0 : w56.cell? ⟨gb170, 0, none⟩ = some (.bool true) := (blk_cell BK170.out 0).trans rfl; have hcz58_1 : w56.cell? ⟨gb170, 1, none⟩ = some (.string a0_1) := (blk_cell BK170.out 1).trans rfl; have hcz58_2 : w56.cell? ⟨gb170, 2, none⟩ = some (.bool false) := (blk_cell BK170.out 2).trans rfl; have hcz58_3 : w56.cell? ⟨gb170, 3, none⟩ = some (.string a0_3) := (blk_cell BK170.out 3).trans rfl; have hcz58_4 : w56.cell? ⟨gb170, 4, none⟩ = some (.int .i64 a0_4) := (blk_cell BK170.out 4).trans rfl; have hcz58_5 : w56.cell? ⟨gb170, 5, none⟩ = some (.int .i64 a0_5) := (blk_cell BK170.out 5).trans rfl; have hfz58_0 := blk_frozen BK170.out 0; have hfz58_1 := blk_frozen BK170.out 1; have hfz58_2 := blk_frozen BK170.out 2; have hfz58_3 := blk_frozen BK170.out 3; have hfz58_4 := blk_frozen BK170.out 4; have hfz58_5 := blk_frozen BK170.out 5) | ((with_reducible refine gate_callee (f := 24) rfl ?_); refine goesL_ (some 38) rfl rfl Try.func24 (by kernel_rfl) rfl #[.int .i64 (wrap64 (a0_4 - a1))] rfl (by (try simp only [List.map_toArray, List.map_cons, List.map_nil]); first | done | rfl | (simp only [List.length_drop, List.length_take]; rfl)) ?_; (with_reducible refine (bollardref1_Zig.calls (wrap64 (a0_4 - a1)) t181 _ A19.out).mono ?_); rintro e w' ⟨rfl, ⟨nd, rfl⟩⟩; refine ⟨_, rfl, ?_⟩) | ((with_reducible refine gate_callee (f := 23) rfl ?_); refine goesL_ (some 39) rfl rfl Try.func23 (by kernel_rfl) rfl #[.int .u64 t181] rfl (by (try simp only [List.map_toArray, List.map_cons, List.map_nil]); first | done | rfl | (simp only [List.length_drop, List.length_take]; rfl)) ?_; (with_reducible refine (bollardref1_Varint.calls kj13 t181 t182 _ A20.out).mono ?_); rintro e w59 ⟨v183, rfl, ho0, hb⟩; refine ⟨_, rfl, ?_⟩; have n0_ := Aside0.mk (Kd.R_elder' (by (with_reducible repeat (first | apply Kd.R_alloc | apply Kd.R_drewN | apply Kd.R_drew)); exact HO177.out) (Kd.R_base ho0) hb); have n1_ := Aside0.mk (Kd.R_elder' (by (with_reducible repeat (first | apply Kd.R_alloc | apply Kd.R_drewN | apply Kd.R_drew)); exact HO180.out) (Kd.R_base ho0) hb); have n2_ := Aside0.mk (Kd.R_lower (Kd.R_new' (Kd.R_new' ho0 (Kd.R_lt (by (with_reducible repeat (first | apply Kd.R_alloc | apply Kd.R_drewN | apply Kd.R_drew)); exact HO177.out))) (Kd.R_lt (by (with_reducible repeat (first | apply Kd.R_alloc | apply Kd.R_drewN | apply Kd.R_drew)); exact HO180.out))) (below_size (by repeat (first | (with_reducible first | exact HB.out | apply below_alloc | apply pw_below_drewN | apply below_drew1 | refine below_set ?_ GE170.out) | exact HB.out)))); have n3_ := Aside0.mk (blk_below (g := gb170) (o := .cells #[.bool true, .string a0_1, .bool false, .string a0_3, .int .i64 a0_4, .int .i64 a0_5] 23 (0, 0)) (by (with_reducible repeat (first | refine blk_drewN ?_ _ | refine blk_drew ?_ | refine blk_alloc ?_ _)); exact BK170.out) hb); have n4_ := Aside0.mk (below_step (by repeat (first | (with_reducible first | exact HB.out | apply below_alloc | apply pw_below_drewN | apply below_drew1 | refine below_set ?_ GE170.out) | exact HB.out)) hb); clear HO177; clear HO180; clear BK170; clear HB; have HO177 := n0_; have HO180 := n1_; have HO184 := n2_; have BK170 := n3_; have HB := n4_; clear n0_ n1_ n2_ n3_ n4_; (try clear hb); (try clear hb2); (try clear hk); (try clear hi); (try clear ho0); obtain ⟨Ao61, co61, eo61⟩ := Kd.R_slice HO184.out; subst eo61) | ((with_reducible refine gate_builtin (b := .append) (xs := #[.tmp 33, .tmp 39]) rfl ?_); at_builtin; refine Kd.R_append_rows (Kd.int .u8) (w0 := w) w.heap.size rfl (.tmp 33) (.tmp 39) 25 5 (.int .u8 0) 1 rfl Try.underlying25 info5 rfl (by decide) (by omega) v179 y178 t182 _ _ _ (fun k_ => some k_ ≠ (.slice Ao57 t175.length co57 : Value).ownBlock ∧ some k_ ≠ (.slice Ao61 t182.length co61 : Value).ownBlock) (fun _ => False) rfl rfl ?aO ?aR (fun _ _ h => h) (fun _ h => h.elim) ?aF ?aB ?aS ?aL ?_; (case aR => repeat (first | exact (Kd.R_reads' HO184.out).2.2 | (with_reducible refine Kd.C_alloc ?_ _) | (with_reducible refine Kd.C_drewN ?_ _) | (with_reducible refine Kd.C_drew ?_))); (case aB => exact (by repeat (first | (with_reducible first | exact HB.out | apply below_alloc | apply pw_below_drewN | apply below_drew1 | refine below_set ?_ GE170.out) | exact HB.out))); (case aF => exact (fun k_ hk => ⟨Kd.fresh' (Kd.R_lt (by (with_reducible repeat (first | apply Kd.R_alloc | apply Kd.R_drewN | apply Kd.R_drew)); exact HO177.out)) k_ hk, Kd.fresh' (Kd.R_lt (by (with_reducible repeat (first | apply Kd.R_alloc | apply Kd.R_drewN | apply Kd.R_drew)); exact HO184.out)) k_ hk⟩)); (case aO => exact (by (with_reducible repeat (first | apply Kd.R_alloc | apply Kd.R_drewN | apply Kd.R_drew)); exact HO180.out)); (case aS => exact (below_size (by repeat (first | (with_reducible first | exact HB.out | apply below_alloc | apply pw_below_drewN | apply below_drew1 | refine below_set ?_ GE170.out) | exact HB.out)))); (case aL => have := LMc21.out; omega); intro v186 w60 ho hb hg hat; rw [← Ny185.out] at ho; have n0_ := Aside0.mk (blk_grown (g := gb170) (o := .cells #[.bool true, .string a0_1, .bool false, .string a0_3, .int .i64 a0_4, .int .i64 a0_5] 23 (0, 0)) (by (with_reducible repeat (first | refine blk_drewN ?_ _ | refine blk_drew ?_ | refine blk_alloc ?_ _)); exact BK170.out) hg (Kd.R_ne HO180.out BK170.out (by decide))); have n1_ := Aside0.mk (Kd.R_after (ok := (fun k_ => some k_ ≠ (.slice Ao61 t182.length co61 : Value).ownBlock)) (by (with_reducible repeat (first | apply Kd.R_alloc | apply Kd.R_drewN | apply Kd.R_drew)); exact Kd.R_mono HO177.out (fun _ hk => ⟨hk.2, hk.1.2⟩)) hg hat); have n2_ := Aside0.mk (Kd.R_after (ok := (fun k_ => some k_ ≠ (.slice Ao57 t175.length co57 : Value).ownBlock)) (by (with_reducible repeat (first | apply Kd.R_alloc | apply Kd.R_drewN | apply Kd.R_drew)); exact Kd.R_mono HO184.out (fun _ hk => ⟨hk.1.2, hk.2⟩)) hg hat); have n3_ := Aside0.mk (hb); have n4_ := Aside0.mk (ho); clear BK170; clear HO177; clear HO184; clear HB; clear HO180; have BK170 := n0_; have HO177 := n1_; have HO184 := n2_; have HB := n3_; have HO187 := n4_; clear n0_ n1_ n2_ n3_ n4_; clear ho hb hg hat; have hcz62_0 : w60.cell? ⟨gb170, 0, none⟩ = some (.bool true) := (blk_cell BK170.out 0).trans rfl; have hcz62_1 : w60.cell? ⟨gb170, 1, none⟩ = some (.string a0_1) := (blk_cell BK170.out 1).trans rfl; have hcz62_2 : w60.cell? ⟨gb170, 2, none⟩ = some (.bool false) := (blk_cell BK170.out 2).trans rfl; have hcz62_3 : w60.cell? ⟨gb170, 3, none⟩ = some (.string a0_3) := (blk_cell BK170.out 3).trans rfl; have hcz62_4 : w60.cell? ⟨gb170, 4, none⟩ = some (.int .i64 a0_4) := (blk_cell BK170.out 4).trans rfl; have hcz62_5 : w60.cell? ⟨gb170, 5, none⟩ = some (.int .i64 a0_5) := (blk_cell BK170.out 5).trans rfl; have hfz62_0 := blk_frozen BK170.out 0; have hfz62_1 := blk_frozen BK170.out 1; have hfz62_2 := blk_frozen BK170.out 2; have hfz62_3 := blk_frozen BK170.out 3; have hfz62_4 := blk_frozen BK170.out 4; have hfz62_5 := blk_frozen BK170.out 5))
                              have n0_ := Aside0.mk (Kd.R_drew HO177.out)
                              have n1_ := Aside0.mk (Kd.R_drew HO184.out)
                              have n2_ := Aside0.mk (Kd.R_drew HO187.out)
                              have n3_ := Aside0.mk (blk_drew BK170.out)
                              have n4_ := Aside0.mk (below_drew1 HB.out)
                              clear HO177
                              clear HO184
                              clear HO187
                              clear BK170
                              clear HB
                              have HO177 := n0_
                              have HO184 := n1_
                              have HO187 := n2_
                              have BK170 := n3_
                              have HB := n4_
                              clear n0_ n1_ n2_ n3_ n4_
                              refine start_ (n := 11) (S := fun w' => w'.cell? ⟨gb170, 0, none⟩ = some (.bool true) ∧ w'.cell? ⟨gb170, 1, none⟩ = some (.string a0_1) ∧ w'.cell? ⟨gb170, 2, none⟩ = some (.bool false) ∧ w'.cell? ⟨gb170, 3, none⟩ = some (.string a0_3) ∧ w'.cell? ⟨gb170, 4, none⟩ = some (.int .i64 a0_4) ∧ w'.cell? ⟨gb170, 5, none⟩ = some (.int .i64 a0_5)) (ds := []) #[false, false, false, false, false, false, false, false, false, false, false] (by kernel_rfl) rfl rfl ⟨(blk_cell BK170.out 0).trans rfl, (blk_cell BK170.out 1).trans rfl, (blk_cell BK170.out 2).trans rfl, (blk_cell BK170.out 3).trans rfl, (blk_cell BK170.out 4).trans rfl, (blk_cell BK170.out 5).trans rfl⟩ (fun hHeld => ?_); refine with_tabW bollardref12_Encode.tab14 bollardref12_Encode.bits14 (fun HT_ HW_ => ?_)
                              generalize w60.drew = w63 at HO177 HO184 HO187 BK170 HB hHeld ⊢
                              refine pure_ (i := 0) (N := some 43) (v := ?_) (a' := ?_) #[true, false, false, false, false, false, false, false, false, false, false] rfl rfl (any_of HT_.out (by kernel_rfl)) (fun _ _ _ h => h) (Or.inl ⟨by rfl, ?_⟩) ?_ ?_
                              rotate_left
                              · intro w'
                                go_simp
                                with_reducible rfl
                              rotate_left
                              · simp only [Act.put, List.setIfInBounds_toArray, List.set_cons_zero, List.set_cons_succ, i64_w, i32_w]
                                rfl
                              refine pure_ (i := 1) (N := some 44) (v := ?_) (a' := ?_) #[true, true, false, false, false, false, false, false, false, false, false] rfl rfl (any_of HT_.out (by kernel_rfl)) (fun _ _ _ h => h) (Or.inl ⟨by rfl, ?_⟩) ?_ ?_
                              rotate_left
                              · intro w'
                                go_simp
                                with_reducible rfl
                              rotate_left
                              · simp only [Act.put, List.setIfInBounds_toArray, List.set_cons_zero, List.set_cons_succ, i64_w, i32_w]
                                rfl
                              refine pure_ (i := 7) (N := some 50) (v := ?_) (a' := ?_) #[true, true, false, false, false, false, false, true, false, false, false] rfl rfl (any_of HT_.out (by kernel_rfl)) (fun _ _ _ h => h) (Or.inl ⟨by rfl, ?_⟩) ?_ ?_
                              rotate_left
                              · intro w'
                                go_simp
                                with_reducible rfl
                              rotate_left
                              · simp only [Act.put, List.setIfInBounds_toArray, List.set_cons_zero, List.set_cons_succ, i64_w, i32_w]
                                rfl
                              refine take_ (i := 2) (N := some 45) (v := ?_) (a' := ?_) #[true, true, true, false, false, false, false, true, false, false, false] rfl rfl (take_ofW HT_.out HW_.out (by kernel_rfl)) (fun _ _ _ h => h) (Or.inl ⟨by rfl, ?_⟩) hHeld ?_ ?_
                              rotate_left
                              · rintro w' ⟨s0, s1, s2, s3, s4, s5⟩
                                go_simp
                                with_reducible rfl
                              rotate_left
                              · simp only [Act.put, List.setIfInBounds_toArray, List.set_cons_zero, List.set_cons_succ, i64_w, i32_w]
                                rfl
                              refine pure_ (i := 3) (N := some 46) (v := ?_) (a' := ?_) #[true, true, true, true, false, false, false, true, false, false, false] rfl rfl (any_of HT_.out (by kernel_rfl)) (fun _ _ _ h => h) (Or.inl ⟨by rfl, ?_⟩) ?_ ?_
                              rotate_left
                              · intro w'
                                go_simp
                                with_reducible rfl
                              rotate_left
                              · simp only [Act.put, List.setIfInBounds_toArray, List.set_cons_zero, List.set_cons_succ, i64_w, i32_w]
                                rfl
                              refine pure_ (i := 4) (N := some 47) (v := ?_) (a' := ?_) #[true, true, true, true, true, false, false, true, false, false, false] rfl rfl (any_of HT_.out (by kernel_rfl)) (fun _ _ _ h => h) (Or.inl ⟨by rfl, ?_⟩) ?_ ?_
                              rotate_left
                              · intro w'
                                go_simp
                                with_reducible rfl
                              rotate_left
                              · simp only [Act.put, List.setIfInBounds_toArray, List.set_cons_zero, List.set_cons_succ, i64_w, i32_w]
                                rfl
                              refine take_ (i := 8) (N := some 51) (v := ?_) (a' := ?_) #[true, true, true, true, true, false, false, true, true, false, false] rfl rfl (take_ofW HT_.out HW_.out (by kernel_rfl)) (fun _ _ _ h => h) (Or.inl ⟨by rfl, ?_⟩) hHeld ?_ ?_
                              rotate_left
                              · rintro w' ⟨s0, s1, s2, s3, s4, s5⟩
                                go_simp
                                with_reducible rfl
                              rotate_left
                              · simp only [Act.put, List.setIfInBounds_toArray, List.set_cons_zero, List.set_cons_succ, i64_w, i32_w]
                                rfl
                              refine one_ (i := 5) (N := some 48) #[true, true, true, true, true, true, false, true, true, false, false] rfl rfl (one_of HT_.out (by kernel_rfl)) (by decide) (fun K hK => ?_)
                              refine goes_ Try.func23 (by kernel_rfl) rfl #[.int .u64 (IntKind.u64.wrap ((a0_1.size : Int)))] (by rfl) rfl rfl (by (try simp only [List.map_toArray, List.map_cons, List.map_nil]); first | done | rfl | (simp only [List.length_drop, List.length_take]; rfl)) ?_
                              with_reducible refine (bollardref1_Varint.calls kj13 (IntKind.u64.wrap ((a0_1.size : Int))) t188 _ A23.out).mono ?_
                              rintro e w64 ⟨v189, rfl, ho0, hb⟩
                              refine ⟨_, rfl, ?_⟩
                              have n0_ := Aside0.mk (Kd.R_elder' (by (with_reducible repeat (first | apply Kd.R_alloc | apply Kd.R_drewN | apply Kd.R_drew)); exact HO177.out) (Kd.R_base ho0) hb)
                              have n1_ := Aside0.mk (Kd.R_elder' (by (with_reducible repeat (first | apply Kd.R_alloc | apply Kd.R_drewN | apply Kd.R_drew)); exact HO184.out) (Kd.R_base ho0) hb)
                              have n2_ := Aside0.mk (Kd.R_elder' (by (with_reducible repeat (first | apply Kd.R_alloc | apply Kd.R_drewN | apply Kd.R_drew)); exact HO187.out) (Kd.R_base ho0) hb)
                              have n3_ := Aside0.mk (Kd.R_lower (Kd.R_new' (Kd.R_new' (Kd.R_new' ho0 (Kd.R_lt (by (with_reducible repeat (first | apply Kd.R_alloc | apply Kd.R_drewN | apply Kd.R_drew)); exact HO177.out))) (Kd.R_lt (by (with_reducible repeat (first | apply Kd.R_alloc | apply Kd.R_drewN | apply Kd.R_drew)); exact HO184.out))) (Kd.R_lt (by (with_reducible repeat (first | apply Kd.R_alloc | apply Kd.R_drewN | apply Kd.R_drew)); exact HO187.out))) (below_size (by repeat (first | (with_reducible first | exact HB.out | apply below_alloc | apply pw_below_drewN | apply below_drew1 | refine below_set ?_ GE170.out) | exact HB.out))))
                              have n4_ := Aside0.mk (blk_below (g := gb170) (o := .cells #[.bool true, .string a0_1, .bool false, .string a0_3, .int .i64 a0_4, .int .i64 a0_5] 23 (0, 0)) (by (with_reducible repeat (first | refine blk_drewN ?_ _ | refine blk_drew ?_ | refine blk_alloc ?_ _)); exact BK170.out) hb)
                              have n5_ := Aside0.mk (below_step (by repeat (first | (with_reducible first | exact HB.out | apply below_alloc | apply pw_below_drewN | apply below_drew1 | refine below_set ?_ GE170.out) | exact HB.out)) hb)
                              clear HO177
                              clear HO184
                              clear HO187
                              clear BK170
                              clear HB
                              have HO177 := n0_
                              have HO184 := n1_
                              have HO187 := n2_
                              have HO190 := n3_
                              have BK170 := n4_
                              have HB := n5_
                              clear n0_ n1_ n2_ n3_ n4_ n5_
                              (try clear hb)
                              (try clear hb2)
                              (try clear hk)
                              (try clear hi)
                              (try clear ho0)
                              obtain ⟨Ao66, co66, eo66⟩ := Kd.R_slice HO190.out
                              (first | subst eo66 | (injection eo66 with f1_ f2_ f3_; have f4_ := f1_.symm; have f5_ := f3_.symm; clear f1_ f2_ f3_; subst f4_; subst f5_))
                              refine hK.out _ _ ⟨(blk_cell BK170.out 0).trans rfl, (blk_cell BK170.out 1).trans rfl, (blk_cell BK170.out 2).trans rfl, (blk_cell BK170.out 3).trans rfl, (blk_cell BK170.out 4).trans rfl, (blk_cell BK170.out 5).trans rfl⟩ (fun hHeld => ?_)
                              clear hK K
                              refine norm_ (a' := ?_) ?_ ?_
                              rotate_left
                              · show Act.put _ (some 48) _ = _
                                simp only [Act.put, List.setIfInBounds_toArray, List.set_cons_zero, List.set_cons_succ, i64_w, i32_w]
                                rfl
                              refine one_ (i := 6) (N := some 49) #[true, true, true, true, true, true, true, true, true, false, false] rfl rfl (one_of HT_.out (by kernel_rfl)) (by decide) (fun K hK => ?_)
                              refine Kd.R_append_rows_step (Kd.int .u8) (w0 := w) w.heap.size (by rfl) (.tmp 43) (.tmp 48) 25 5 (.int .u8 0) 1 rfl Try.underlying25 info5 rfl (by decide) (by omega) v186 y185 t188 _ _ _ (fun k_ => some k_ ≠ (.slice Ao57 t175.length co57 : Value).ownBlock ∧ some k_ ≠ (.slice Ao61 t182.length co61 : Value).ownBlock ∧ some k_ ≠ (.slice Ao66 t188.length co66 : Value).ownBlock) (fun _ => False) rfl rfl ?aO ?aR (fun _ _ h => h) (fun _ h => h.elim) ?aF ?aB ?aS ?aL ?_
                              (case aR => repeat (first | exact (Kd.R_reads' HO190.out).2.2 | (with_reducible refine Kd.C_alloc ?_ _) | (with_reducible refine Kd.C_drewN ?_ _) | (with_reducible refine Kd.C_drew ?_)))
                              (case aB => exact (by repeat (first | (with_reducible first | exact HB.out | apply below_alloc | apply pw_below_drewN | apply below_drew1 | refine below_set ?_ GE170.out) | exact HB.out)))
                              (case aF => exact (fun k_ hk => ⟨Kd.fresh' (Kd.R_lt (by (with_reducible repeat (first | apply Kd.R_alloc | apply Kd.R_drewN | apply Kd.R_drew)); exact HO177.out)) k_ hk, Kd.fresh' (Kd.R_lt (by (with_reducible repeat (first | apply Kd.R_alloc | apply Kd.R_drewN | apply Kd.R_drew)); exact HO184.out)) k_ hk, Kd.fresh' (Kd.R_lt (by (with_reducible repeat (first | apply Kd.R_alloc | apply Kd.R_drewN | apply Kd.R_drew)); exact HO190.out)) k_ hk⟩))
                              (case aO => exact (by (with_reducible repeat (first | apply Kd.R_alloc | apply Kd.R_drewN | apply Kd.R_drew)); exact Kd.R_mono HO187.out (fun _ hk => ⟨hk.1.1, ⟨hk.1.2, hk.2⟩⟩)))
                              (case aS => exact (below_size (by repeat (first | (with_reducible first | exact HB.out | apply below_alloc | apply pw_below_drewN | apply below_drew1 | refine below_set ?_ GE170.out) | exact HB.out))))
                              (case aL => have := LMc24.out; omega)
                              intro v192 w65 ho hb hg hat
                              rw [← Ny191.out] at ho
                              have n0_ := Aside0.mk (blk_grown (g := gb170) (o := .cells #[.bool true, .string a0_1, .bool false, .string a0_3, .int .i64 a0_4, .int .i64 a0_5] 23 (0, 0)) (by (with_reducible repeat (first | refine blk_drewN ?_ _ | refine blk_drew ?_ | refine blk_alloc ?_ _)); exact BK170.out) hg (Kd.R_ne HO187.out BK170.out (by decide)))
                              have n1_ := Aside0.mk (Kd.R_after (ok := (fun k_ => some k_ ≠ (.slice Ao61 t182.length co61 : Value).ownBlock ∧ some k_ ≠ (.slice Ao66 t188.length co66 : Value).ownBlock)) (by (with_reducible repeat (first | apply Kd.R_alloc | apply Kd.R_drewN | apply Kd.R_drew)); exact Kd.R_mono HO177.out (fun _ hk => ⟨⟨hk.1.1, hk.2⟩, hk.1.2⟩)) hg hat)
                              have n2_ := Aside0.mk (Kd.R_after (ok := (fun k_ => some k_ ≠ (.slice Ao57 t175.length co57 : Value).ownBlock ∧ some k_ ≠ (.slice Ao66 t188.length co66 : Value).ownBlock)) (by (with_reducible repeat (first | apply Kd.R_alloc | apply Kd.R_drewN | apply Kd.R_drew)); exact Kd.R_mono HO184.out (fun _ hk => ⟨⟨hk.1.1, hk.2⟩, hk.1.2⟩)) hg hat)
                              have n3_ := Aside0.mk (Kd.R_after (ok := (fun k_ => some k_ ≠ (.slice Ao57 t175.length co57 : Value).ownBlock ∧ some k_ ≠ (.slice Ao61 t182.length co61 : Value).ownBlock)) (by (with_reducible repeat (first | apply Kd.R_alloc | apply Kd.R_drewN | apply Kd.R_drew)); exact Kd.R_mono HO190.out (fun _ hk => ⟨⟨hk.1.1.2, hk.1.2⟩, hk.2⟩)) hg hat)
                              have n4_ := Aside0.mk (hb)
                              have n5_ := Aside0.mk (ho)
                              clear BK170
                              clear HO177
                              clear HO184
                              clear HO190
                              clear HB
                              clear HO187
                              have BK170 := n0_
                              have HO177 := n1_
                              have HO184 := n2_
                              have HO190 := n3_
                              have HB := n4_
                              have HO193 := n5_
                              clear n0_ n1_ n2_ n3_ n4_ n5_
                              clear ho hb hg hat
                              refine hK.out _ _ ⟨(blk_cell BK170.out 0).trans rfl, (blk_cell BK170.out 1).trans rfl, (blk_cell BK170.out 2).trans rfl, (blk_cell BK170.out 3).trans rfl, (blk_cell BK170.out 4).trans rfl, (blk_cell BK170.out 5).trans rfl⟩ (fun hHeld => ?_)
                              clear hK K
                              refine norm_ (a' := ?_) ?_ ?_
                              rotate_left
                              · show Act.put _ (some 49) _ = _
                                simp only [Act.put, List.setIfInBounds_toArray, List.set_cons_zero, List.set_cons_succ, i64_w, i32_w]
                                rfl
                              refine one_ (i := 9) (N := some 52) #[true, true, true, true, true, true, true, true, true, true, false] rfl rfl (one_of HT_.out (by kernel_rfl)) (by decide) (fun K hK => ?_)
                              refine Kd.R_append_str_step (w0 := w) w.heap.size (by rfl) (.tmp 49) _ 25 9 5 rfl Try.underlying25 Try.underlying9 info5 v192 y191 a0_1 (fun k_ => some k_ ≠ (.slice Ao57 t175.length co57 : Value).ownBlock ∧ some k_ ≠ (.slice Ao61 t182.length co61 : Value).ownBlock ∧ some k_ ≠ (.slice Ao66 t188.length co66 : Value).ownBlock) rfl rfl ?aF ?aO ?aB ?aS ?aL ?_
                              (case aB => exact (by repeat (first | (with_reducible first | exact HB.out | apply below_alloc | apply pw_below_drewN | apply below_drew1 | refine below_set ?_ GE170.out) | exact HB.out)))
                              (case aF => exact (fun k_ hk => ⟨Kd.fresh' (Kd.R_lt (by (with_reducible repeat (first | apply Kd.R_alloc | apply Kd.R_drewN | apply Kd.R_drew)); exact HO177.out)) k_ hk, Kd.fresh' (Kd.R_lt (by (with_reducible repeat (first | apply Kd.R_alloc | apply Kd.R_drewN | apply Kd.R_drew)); exact HO184.out)) k_ hk, Kd.fresh' (Kd.R_lt (by (with_reducible repeat (first | apply Kd.R_alloc | apply Kd.R_drewN | apply Kd.R_drew)); exact HO190.out)) k_ hk⟩))
                              (case aO => exact (by (with_reducible repeat (first | apply Kd.R_alloc | apply Kd.R_drewN | apply Kd.R_drew)); exact HO193.out))
                              (case aS => exact (below_size (by repeat (first | (with_reducible first | exact HB.out | apply below_alloc | apply pw_below_drewN | apply below_drew1 | refine below_set ?_ GE170.out) | exact HB.out))))
                              (case aL => have := LMc25.out; omega)
                              intro v195 w67 ho hb hg hat
                              rw [← Ny194.out] at ho
                              have n0_ := Aside0.mk (blk_grown (g := gb170) (o := .cells #[.bool true, .string a0_1, .bool false, .string a0_3, .int .i64 a0_4, .int .i64 a0_5] 23 (0, 0)) (by (with_reducible repeat (first | refine blk_drewN ?_ _ | refine blk_drew ?_ | refine blk_alloc ?_ _)); exact BK170.out) hg (Kd.R_ne HO193.out BK170.out (by decide)))
                              have n1_ := Aside0.mk (Kd.R_after (ok := (fun k_ => some k_ ≠ (.slice Ao61 t182.length co61 : Value).ownBlock ∧ some k_ ≠ (.slice Ao66 t188.length co66 : Value).ownBlock)) (by (with_reducible repeat (first | apply Kd.R_alloc | apply Kd.R_drewN | apply Kd.R_drew)); exact HO177.out) hg hat)
                              have n2_ := Aside0.mk (Kd.R_after (ok := (fun k_ => some k_ ≠ (.slice Ao57 t175.length co57 : Value).ownBlock ∧ some k_ ≠ (.slice Ao66 t188.length co66 : Value).ownBlock)) (by (with_reducible repeat (first | apply Kd.R_alloc | apply Kd.R_drewN | apply Kd.R_drew)); exact HO184.out) hg hat)
                              have n3_ := Aside0.mk (Kd.R_after (ok := (fun k_ => some k_ ≠ (.slice Ao57 t175.length co57 : Value).ownBlock ∧ some k_ ≠ (.slice Ao61 t182.length co61 : Value).ownBlock)) (by (with_reducible repeat (first | apply Kd.R_alloc | apply Kd.R_drewN | apply Kd.R_drew)); exact HO190.out) hg hat)
                              have n4_ := Aside0.mk (hb)
                              have n5_ := Aside0.mk (ho)
                              clear BK170
                              clear HO177
                              clear HO184
                              clear HO190
                              clear HB
                              clear HO193
                              have BK170 := n0_
                              have HO177 := n1_
                              have HO184 := n2_
                              have HO190 := n3_
                              have HB := n4_
                              have HO196 := n5_
                              clear n0_ n1_ n2_ n3_ n4_ n5_
                              clear ho hb hg hat
                              refine hK.out _ _ ⟨(blk_cell BK170.out 0).trans rfl, (blk_cell BK170.out 1).trans rfl, (blk_cell BK170.out 2).trans rfl, (blk_cell BK170.out 3).trans rfl, (blk_cell BK170.out 4).trans rfl, (blk_cell BK170.out 5).trans rfl⟩ (fun hHeld => ?_)
                              clear hK K
                              refine norm_ (a' := ?_) ?_ ?_
                              rotate_left
                              · show Act.put _ (some 52) _ = _
                                simp only [Act.put, List.setIfInBounds_toArray, List.set_cons_zero, List.set_cons_succ, i64_w, i32_w]
                                rfl
                              refine pure_ (i := 10) (N := some 8) (v := ?_) (a' := ?_) #[true, true, true, true, true, true, true, true, true, true, true] rfl rfl (any_of HT_.out (by kernel_rfl)) (fun _ _ _ h => h) (Or.inl ⟨by rfl, ?_⟩) ?_ ?_
                              rotate_left
                              · intro w'
                                go_simp
                                with_reducible rfl
                              rotate_left
                              · simp only [Act.put, List.setIfInBounds_toArray, List.set_cons_zero, List.set_cons_succ, i64_w, i32_w]
                                rfl
                              refine done_ (done_of HT_.out (by kernel_rfl)) ?_
                              have hcz68_0 : w67.cell? ⟨gb170, 0, none⟩ = some (.bool true) := (blk_cell BK170.out 0).trans rfl
                              have hcz68_1 : w67.cell? ⟨gb170, 1, none⟩ = some (.string a0_1) := (blk_cell BK170.out 1).trans rfl
                              have hcz68_2 : w67.cell? ⟨gb170, 2, none⟩ = some (.bool false) := (blk_cell BK170.out 2).trans rfl
                              have hcz68_3 : w67.cell? ⟨gb170, 3, none⟩ = some (.string a0_3) := (blk_cell BK170.out 3).trans rfl
                              have hcz68_4 : w67.cell? ⟨gb170, 4, none⟩ = some (.int .i64 a0_4) := (blk_cell BK170.out 4).trans rfl
                              have hcz68_5 : w67.cell? ⟨gb170, 5, none⟩ = some (.int .i64 a0_5) := (blk_cell BK170.out 5).trans rfl
                              have hfz68_0 := blk_frozen BK170.out 0
                              have hfz68_1 := blk_frozen BK170.out 1
                              have hfz68_2 := blk_frozen BK170.out 2
                              have hfz68_3 := blk_frozen BK170.out 3
                              have hfz68_4 := blk_frozen BK170.out 4
                              have hfz68_5 := blk_frozen BK170.out 5
                              try go_wp2
                              go_ret2
                              exact ⟨_, by first | rfl | (simp [errW_none, errW_some] <;> rfl) | (simp [*, errW_none, errW_some] <;> rfl), by (with_reducible repeat (first | apply Kd.R_alloc | apply Kd.R_drewN | apply Kd.R_drew)); exact Kd.R_mono HO196.out (fun _ hk => trivial), by repeat (first | (with_reducible first | exact HB.out | apply below_alloc | apply pw_below_drewN | apply below_drew1 | refine below_set ?_ GE170.out) | exact HB.out)⟩
                          · rw [if_neg c25] at H
                            exact absurd H (by simp)
                        · rw [if_neg c24] at H
                          exact absurd H (by simp)
                      · replace c22 := Bool.eq_false_iff.mpr c22
                        subst c22
                        have H1 : (if a0_2 = true then ((bollardref1_Varint.f kj13 (IntKind.u64.wrap ((a0_3.size : Int)))).bind fun t206 => (if y185.length + t206.length < 140737488355328 then ((some (y185 ++ t206 : List Int)).bind fun y209 => (if y209.length + a0_3.size < 140737488355328 then (some ((y209 ++ bytesOf a0_3), 0)) else (none))) else (none))) else (some (y185, 0))) = some (r1, r2) := by rw [if_neg (show ¬ (false = true) by decide)] at H; exact H
                        clear H
                        have H := H1
                        clear H1
                        by_cases c69 : a0_2 = true
                        · subst c69
                          have H1 : ((bollardref1_Varint.f kj13 (IntKind.u64.wrap ((a0_3.size : Int)))).bind fun t206 => (if y185.length + t206.length < 140737488355328 then ((some (y185 ++ t206 : List Int)).bind fun y209 => (if y209.length + a0_3.size < 140737488355328 then (some ((y209 ++ bytesOf a0_3), 0)) else (none))) else (none))) = some (r1, r2) := by rw [if_pos rfl] at H; exact H
                          clear H
                          have H := H1
                          clear H1
                          replace H := Option.bind_eq_some_iff.mp H
                          obtain ⟨t206, A700, H⟩ := H
                          replace H : (if y185.length + t206.length < 140737488355328 then ((some (y185 ++ t206 : List Int)).bind fun y209 => (if y209.length + a0_3.size < 140737488355328 then (some ((y209 ++ bytesOf a0_3), 0)) else (none))) else (none)) = some (r1, r2) := H
                          have A70 := Aside0.mk A700
                          clear A700
                          by_cases c71 : y185.length + t206.length < 140737488355328
                          · rw [if_pos c71] at H
                            have LMc71 := Aside0.mk c71
                            clear c71
                            obtain ⟨y209, hy209⟩ : ∃ y_ : List Int, y_ = (y185 ++ t206) := ⟨_, rfl⟩
                            replace H : (if y209.length + a0_3.size < 140737488355328 then (some ((y209 ++ bytesOf a0_3), 0)) else (none)) = some (r1, r2) := by first | (rw [hy209]; with_reducible exact H) | (have H2_ := (Option.bind_some _ _).symm.trans H; rw [hy209]; with_reducible exact H2_) | (have H2_ := (Option.bind_some _ _).symm.trans H; with_reducible exact H2_) | with_reducible exact H | (rw [hy209]; exact H) | exact H
                            have Ny209 := Aside0.mk hy209
                            clear hy209
                            by_cases c72 : y209.length + a0_3.size < 140737488355328
                            · rw [if_pos c72] at H
                              have LMc72 := Aside0.mk c72
                              clear c72
                              obtain ⟨y212, hy212⟩ : ∃ y_ : List Int, y_ = (y209 ++ bytesOf a0_3) := ⟨_, rfl⟩
                              replace H : (some (y212, 0)) = some (r1, r2) := by first | (rw [hy212]; with_reducible exact H) | (have H2_ := (Option.bind_some _ _).symm.trans H; rw [hy212]; with_reducible exact H2_) | (have H2_ := (Option.bind_some _ _).symm.trans H; with_reducible exact H2_) | with_reducible exact H | (rw [hy212]; exact H) | exact H
                              have Ny212 := Aside0.mk hy212
                              clear hy212
                              simp only [Option.some.injEq, Prod.mk.injEq] at H
                              obtain ⟨rfl, rfl⟩ := H
                              try go_wp2_with (first | ((with_reducible refine gate_dst (N := 27) rfl ?_); refine Kd.R_lit (Kd.int .u8) _ 5 ?hg (N := 27) ?hd (xs := ([x7_13] : List Int)) (inner := [.int .u8 x7_13]) (ok := fun _ => True) (okp := fun _ => True) ?hr ?hp (fun _ hk => hk) trivial (Below.refl _ _) (Nat.le_refl _) (by simp) ?_; (case hd => rfl); (case hg => rfl); (case hr => first | (go_simp; done) | (go_simp; rfl)); (case hp => exact (Reps.one (show Kd.M (Kd.int .u8) _ _ _ x7_13 [.int .u8 x7_13] from rfl) (Reps.none _ _))); intro v173 w73 ho74 hb hg_ hnew_; clear hg_ hnew_; (first | rw [← Ny172.out] at ho74 | (simp only [Int.reduceToNat] at ho74; rw [← Ny172.out] at ho74)); have n0_ := Aside0.mk (Kd.R_lower ho74 (below_size (by repeat (first | (with_reducible first | exact HB.out | apply below_alloc | apply pw_below_drewN | apply below_drew1 | refine below_set ?_ GE170.out) | exact HB.out)))); have n1_ := Aside0.mk (blk_below (g := gb170) (o := .cells #[.bool false, .string a0_1, .bool true, .string a0_3, .int .i64 a0_4, .int .i64 a0_5] 23 (0, 0)) (by (with_reducible repeat (first | refine blk_drewN ?_ _ | refine blk_drew ?_ | refine blk_alloc ?_ _)); exact BK170.out) hb); have n2_ := Aside0.mk (below_step (by repeat (first | (with_reducible first | exact HB.out | apply below_alloc | apply pw_below_drewN | apply below_drew1 | refine below_set ?_ GE170.out) | exact HB.out)) hb); clear BK170; clear HB; have HO174 := n0_; have BK170 := n1_; have HB := n2_; clear n0_ n1_ n2_; clear hb ho74; have hcz75_0 : w73.cell? ⟨gb170, 0, none⟩ = some (.bool false) := (blk_cell BK170.out 0).trans rfl; have hcz75_1 : w73.cell? ⟨gb170, 1, none⟩ = some (.string a0_1) := (blk_cell BK170.out 1).trans rfl; have hcz75_2 : w73.cell? ⟨gb170, 2, none⟩ = some (.bool true) := (blk_cell BK170.out 2).trans rfl; have hcz75_3 : w73.cell? ⟨gb170, 3, none⟩ = some (.string a0_3) := (blk_cell BK170.out 3).trans rfl; have hcz75_4 : w73.cell? ⟨gb170, 4, none⟩ = some (.int .i64 a0_4) := (blk_cell BK170.out 4).trans rfl; have hcz75_5 : w73.cell? ⟨gb170, 5, none⟩ = some (.int .i64 a0_5) := (blk_cell BK170.out 5).trans rfl; have hfz75_0 := blk_frozen BK170.out 0; have hfz75_1 := blk_frozen BK170.out 1; have hfz75_2 := blk_frozen BK170.out 2; have hfz75_3 := blk_frozen BK170.out 3; have hfz75_4 := blk_frozen BK170.out 4; have hfz75_5 := blk_frozen BK170.out 5) | ((with_reducible refine gate_callee (f := 23) rfl ?_); refine goesL_ (some 31) rfl rfl Try.func23 (by kernel_rfl) rfl #[.int .u64 (IntKind.u64.wrap (a0_5))] rfl (by (try simp only [List.map_toArray, List.map_cons, List.map_nil]); first | done | rfl | (simp only [List.length_drop, List.length_take]; rfl)) ?_; (with_reducible refine (bollardref1_Varint.calls kj13 (IntKind.u64.wrap (a0_5)) t175 _ A17.out).mono ?_); rintro e w76 ⟨v176, rfl, ho0, hb⟩; refine ⟨_, rfl, ?_⟩; have n0_ := Aside0.mk (Kd.R_elder' (by (with_reducible repeat (first | apply Kd.R_alloc | apply Kd.R_drewN | apply Kd.R_drew)); exact HO174.out) (Kd.R_base ho0) hb); have n1_ := Aside0.mk (Kd.R_lower (Kd.R_new' ho0 (Kd.R_lt (by (with_reducible repeat (first | apply Kd.R_alloc | apply Kd.R_drewN | apply Kd.R_drew)); exact HO174.out))) (below_size (by repeat (first | (with_reducible first | exact HB.out | apply below_alloc | apply pw_below_drewN | apply below_drew1 | refine below_set ?_ GE170.out) | exact HB.out)))); have n2_ := Aside0.mk (blk_below (g := gb170) (o := .cells #[.bool false, .string a0_1, .bool true, .string a0_3, .int .i64 a0_4, .int .i64 a0_5] 23 (0, 0)) (by (with_reducible repeat (first | refine blk_drewN ?_ _ | refine blk_drew ?_ | refine blk_alloc ?_ _)); exact BK170.out) hb); have n3_ := Aside0.mk (below_step (by repeat (first | (with_reducible first | exact HB.out | apply below_alloc | apply pw_below_drewN | apply below_drew1 | refine below_set ?_ GE170.out) | exact HB.out)) hb); clear HO174; clear BK170; clear HB; have HO174 := n0_; have HO177 := n1_; have BK170 := n2_; have HB := n3_; clear n0_ n1_ n2_ n3_; (try clear hb); (try clear hb2); (try clear hk); (try clear hi); (try clear ho0); obtain ⟨Ao78, co78, eo78⟩ := Kd.R_slice HO177.out; subst eo78) | ((with_reducible refine gate_builtin (b := .append) (xs := #[.tmp 27, .tmp 31]) rfl ?_); at_builtin; refine Kd.R_append_rows (Kd.int .u8) (w0 := w) w.heap.size rfl (.tmp 27) (.tmp 31) 25 5 (.int .u8 0) 1 rfl Try.underlying25 info5 rfl (by decide) (by omega) v173 y172 t175 _ _ _ (fun k_ => some k_ ≠ (.slice Ao78 t175.length co78 : Value).ownBlock) (fun _ => False) rfl rfl ?aO ?aR (fun _ _ h => h) (fun _ h => h.elim) ?aF ?aB ?aS ?aL ?_; (case aR => repeat (first | exact (Kd.R_reads' HO177.out).2.2 | (with_reducible refine Kd.C_alloc ?_ _) | (with_reducible refine Kd.C_drewN ?_ _) | (with_reducible refine Kd.C_drew ?_))); (case aB => exact (by repeat (first | (with_reducible first | exact HB.out | apply below_alloc | apply pw_below_drewN | apply below_drew1 | refine below_set ?_ GE170.out) | exact HB.out))); (case aF => exact (fun k_ hk => Kd.fresh' (Kd.R_lt (by (with_reducible repeat (first | apply Kd.R_alloc | apply Kd.R_drewN | apply Kd.R_drew)); exact HO177.out)) k_ hk)); (case aO => exact (by (with_reducible repeat (first | apply Kd.R_alloc | apply Kd.R_drewN | apply Kd.R_drew)); exact Kd.R_mono HO174.out (fun _ hk => hk.2))); (case aS => exact (below_size (by repeat (first | (with_reducible first | exact HB.out | apply below_alloc | apply pw_below_drewN | apply below_drew1 | refine below_set ?_ GE170.out) | exact HB.out)))); (case aL => have := LMc18.out; omega); intro v179 w77 ho hb hg hat; rw [← Ny178.out] at ho; have n0_ := Aside0.mk (blk_grown (g := gb170) (o := .cells #[.bool false, .string a0_1, .bool true, .string a0_3, .int .i64 a0_4, .int .i64 a0_5] 23 (0, 0)) (by (with_reducible repeat (first | refine blk_drewN ?_ _ | refine blk_drew ?_ | refine blk_alloc ?_ _)); exact BK170.out) hg (Kd.R_ne HO174.out BK170.out (by decide))); have n1_ := Aside0.mk (Kd.R_after (ok := (fun _ => True)) (by (with_reducible repeat (first | apply Kd.R_alloc | apply Kd.R_drewN | apply Kd.R_drew)); exact HO177.out) hg hat); have n2_ := Aside0.mk (hb); have n3_ := Aside0.mk (ho); clear BK170; clear HO177; clear HB; clear HO174; have BK170 := n0_; have HO177 := n1_; have HB := n2_; have HO180 := n3_; clear n0_ n1_ n2_ n3_; clear ho hb hg hat; have hcz79_0 : w77.cell? ⟨gb170, 0, none⟩ = some (.bool false) := (blk_cell BK170.out 0).trans rfl; have hcz79_1 : w77.cell? ⟨gb170, 1, none⟩ = some (.string a0_1) := (blk_cell BK170.out 1).trans rfl; have hcz79_2 : w77.cell? ⟨gb170, 2, none⟩ = some (.bool true) := (blk_cell BK170.out 2).trans rfl; have hcz79_3 : w77.cell? ⟨gb170, 3, none⟩ = some (.string a0_3) := (blk_cell BK170.out 3).trans rfl; have hcz79_4 : w77.cell? ⟨gb170, 4, none⟩ = some (.int .i64 a0_4) := (blk_cell BK170.out 4).trans rfl; have hcz79_5 : w77.cell? ⟨gb170, 5, none⟩ = some (.int .i64 a0_5) := (blk_cell BK170.out 5).trans rfl; have hfz79_0 := blk_frozen BK170.out 0; have hfz79_1 := blk_frozen BK170.out 1; have hfz79_2 := blk_frozen BK170.out 2; have hfz79_3 := blk_frozen BK170.out 3; have hfz79_4 := blk_frozen BK170.out 4; have hfz79_5 := blk_frozen BK170.out 5) | ((with_reducible refine gate_callee (f := 24) rfl ?_); refine goesL_ (some 38) rfl rfl Try.func24 (by kernel_rfl) rfl #[.int .i64 (wrap64 (a0_4 - a1))] rfl (by (try simp only [List.map_toArray, List.map_cons, List.map_nil]); first | done | rfl | (simp only [List.length_drop, List.length_take]; rfl)) ?_; (with_reducible refine (bollardref1_Zig.calls (wrap64 (a0_4 - a1)) t181 _ A19.out).mono ?_); rintro e w' ⟨rfl, ⟨nd, rfl⟩⟩; refine ⟨_, rfl, ?_⟩) | ((with_reducible refine gate_callee (f := 23) rfl ?_); refine goesL_ (some 39) rfl rfl Try.func23 (by kernel_rfl) rfl #[.int .u64 t181] rfl (by (try simp only [List.map_toArray, List.map_cons, List.map_nil]); first | done | rfl | (simp only [List.length_drop, List.length_take]; rfl)) ?_; (with_reducible refine (bollardref1_Varint.calls kj13 t181 t182 _ A20.out).mono ?_); rintro e w80 ⟨v183, rfl, ho0, hb⟩; refine ⟨_, rfl, ?_⟩; have n0_ := Aside0.mk (Kd.R_elder' (by (with_reducible repeat (first | apply Kd.R_alloc | apply Kd.R_drewN | apply Kd.R_drew)); exact HO177.out) (Kd.R_base ho0) hb); have n1_ := Aside0.mk (Kd.R_elder' (by (with_reducible repeat (first | apply Kd.R_alloc | apply Kd.R_drewN | apply Kd.R_drew)); exact HO180.out) (Kd.R_base ho0) hb); have n2_ := Aside0.mk (Kd.R_lower (Kd.R_new' (Kd.R_new' ho0 (Kd.R_lt (by (with_reducible repeat (first | apply Kd.R_alloc | apply Kd.R_drewN | apply Kd.R_drew)); exact HO177.out))) (Kd.R_lt (by (with_reducible repeat (first | apply Kd.R_alloc | apply Kd.R_drewN | apply Kd.R_drew)); exact HO180.out))) (below_size (by repeat (first | (with_reducible first | exact HB.out | apply below_alloc | apply pw_below_drewN | apply below_drew1 | refine below_set ?_ GE170.out) | exact HB.out)))); have n3_ := Aside0.mk (blk_below (g := gb170) (o := .cells #[.bool false, .string a0_1, .bool true, .string a0_3, .int .i64 a0_4, .int .i64 a0_5] 23 (0, 0)) (by (with_reducible repeat (first | refine blk_drewN ?_ _ | refine blk_drew ?_ | refine blk_alloc ?_ _)); exact BK170.out) hb); have n4_ := Aside0.mk (below_step (by repeat (first | (with_reducible first | exact HB.out | apply below_alloc | apply pw_below_drewN | apply below_drew1 | refine below_set ?_ GE170.out) | exact HB.out)) hb); clear HO177; clear HO180; clear BK170; clear HB; have HO177 := n0_; have HO180 := n1_; have HO184 := n2_; have BK170 := n3_; have HB := n4_; clear n0_ n1_ n2_ n3_ n4_; (try clear hb); (try clear hb2); (try clear hk); (try clear hi); (try clear ho0); obtain ⟨Ao82, co82, eo82⟩ := Kd.R_slice HO184.out; subst eo82) | ((with_reducible refine gate_builtin (b := .append) (xs := #[.tmp 33, .tmp 39]) rfl ?_); at_builtin; refine Kd.R_append_rows (Kd.int .u8) (w0 := w) w.heap.size rfl (.tmp 33) (.tmp 39) 25 5 (.int .u8 0) 1 rfl Try.underlying25 info5 rfl (by decide) (by omega) v179 y178 t182 _ _ _ (fun k_ => some k_ ≠ (.slice Ao78 t175.length co78 : Value).ownBlock ∧ some k_ ≠ (.slice Ao82 t182.length co82 : Value).ownBlock) (fun _ => False) rfl rfl ?aO ?aR (fun _ _ h => h) (fun _ h => h.elim) ?aF ?aB ?aS ?aL ?_; (case aR => repeat (first | exact (Kd.R_reads' HO184.out).2.2 | (with_reducible refine Kd.C_alloc ?_ _) | (with_reducible refine Kd.C_drewN ?_ _) | (with_reducible refine Kd.C_drew ?_))); (case aB => exact (by repeat (first | (with_reducible first | exact HB.out | apply below_alloc | apply pw_below_drewN | apply below_drew1 | refine below_set ?_ GE170.out) | exact HB.out))); (case aF => exact (fun k_ hk => ⟨Kd.fresh' (Kd.R_lt (by (with_reducible repeat (first | apply Kd.R_alloc | apply Kd.R_drewN | apply Kd.R_drew)); exact HO177.out)) k_ hk, Kd.fresh' (Kd.R_lt (by (with_reducible repeat (first | apply Kd.R_alloc | apply Kd.R_drewN | apply Kd.R_drew)); exact HO184.out)) k_ hk⟩)); (case aO => exact (by (with_reducible repeat (first | apply Kd.R_alloc | apply Kd.R_drewN | apply Kd.R_drew)); exact HO180.out)); (case aS => exact (below_size (by repeat (first | (with_reducible first | exact HB.out | apply below_alloc | apply pw_below_drewN | apply below_drew1 | refine below_set ?_ GE170.out) | exact HB.out)))); (case aL => have := LMc21.out; omega); intro v186 w81 ho hb hg hat; rw [← Ny185.out] at ho; have n0_ := Aside0.mk (blk_grown (g := gb170) (o := .cells #[.bool false, .string a0_1, .bool true, .string a0_3, .int .i64 a0_4, .int .i64 a0_5] 23 (0, 0)) (by (with_reducible repeat (first | refine blk_drewN ?_ _ | refine blk_drew ?_ | refine blk_alloc ?_ _)); exact BK170.out) hg (Kd.R_ne HO180.out BK170.out (by decide))); have n1_ := Aside0.mk (Kd.R_after (ok := (fun k_ => some k_ ≠ (.slice Ao82 t182.length co82 : Value).ownBlock)) (by (with_reducible repeat (first | apply Kd.R_alloc | apply Kd.R_drewN | apply Kd.R_drew)); exact Kd.R_mono HO177.out (fun _ hk => ⟨hk.2, hk.1.2⟩)) hg hat); have n2_ := Aside0.mk (Kd.R_after (ok := (fun k_ => some k_ ≠ (.slice Ao78 t175.length co78 : Value).ownBlock)) (by (with_reducible repeat (first | apply Kd.R_alloc | apply Kd.R_drewN | apply Kd.R_drew)); exact Kd.R_mono HO184.out (fun _ hk => ⟨hk.1.2, hk.2⟩)) hg hat); have n3_ := Aside0.mk (hb); have n4_ := Aside0.mk (ho); clear BK170; clear HO177; clear HO184; clear HB; clear HO180; have BK170 := n0_; have HO177 := n1_; have HO184 := n2_; have HB := n3_; have HO187 := n4_; clear n0_ n1_ n2_ n3_ n4_; clear ho hb hg hat; have hcz83_0 : w81.cell? ⟨gb170, 0, none⟩ = some (.bool false) := (blk_cell BK170.out 0).trans rfl; have hcz83_1 : w81.cell? ⟨gb170, 1, none⟩ = some (.string a0_1) := (blk_cell BK170.out 1).trans rfl; have hcz83_2 : w81.cell? ⟨gb170, 2, none⟩ = some (.bool true) := (blk_cell BK170.out 2).trans rfl; have hcz83_3 : w81.cell? ⟨gb170, 3, none⟩ = some (.string a0_3) := (blk_cell BK170.out 3).trans rfl; have hcz83_4 : w81.cell? ⟨gb170, 4, none⟩ = some (.int .i64 a0_4) := (blk_cell BK170.out 4).trans rfl; have hcz83_5 : w81.cell? ⟨gb170, 5, none⟩ = some (.int .i64 a0_5) := (blk_cell BK170.out 5).trans rfl; have hfz83_0 := blk_frozen BK170.out 0; have hfz83_1 := blk_frozen BK170.out 1; have hfz83_2 := blk_frozen BK170.out 2; have hfz83_3 := blk_frozen BK170.out 3; have hfz83_4 := blk_frozen BK170.out 4; have hfz83_5 := blk_frozen BK170.out 5))
                              have n0_ := Aside0.mk (Kd.R_drew HO177.out)
                              have n1_ := Aside0.mk (Kd.R_drew HO184.out)
                              have n2_ := Aside0.mk (Kd.R_drew HO187.out)
                              have n3_ := Aside0.mk (blk_drew BK170.out)
                              have n4_ := Aside0.mk (below_drew1 HB.out)
                              clear HO177
                              clear HO184
                              clear HO187
                              clear BK170
                              clear HB
                              have HO177 := n0_
                              have HO184 := n1_
                              have HO187 := n2_
                              have BK170 := n3_
                              have HB := n4_
                              clear n0_ n1_ n2_ n3_ n4_
                              refine start_ (n := 11) (S := fun w' => w'.cell? ⟨gb170, 0, none⟩ = some (.bool false) ∧ w'.cell? ⟨gb170, 1, none⟩ = some (.string a0_1) ∧ w'.cell? ⟨gb170, 2, none⟩ = some (.bool true) ∧ w'.cell? ⟨gb170, 3, none⟩ = some (.string a0_3) ∧ w'.cell? ⟨gb170, 4, none⟩ = some (.int .i64 a0_4) ∧ w'.cell? ⟨gb170, 5, none⟩ = some (.int .i64 a0_5)) (ds := []) #[false, false, false, false, false, false, false, false, false, false, false] (by kernel_rfl) rfl rfl ⟨(blk_cell BK170.out 0).trans rfl, (blk_cell BK170.out 1).trans rfl, (blk_cell BK170.out 2).trans rfl, (blk_cell BK170.out 3).trans rfl, (blk_cell BK170.out 4).trans rfl, (blk_cell BK170.out 5).trans rfl⟩ (fun hHeld => ?_); refine with_tabW bollardref12_Encode.tab16 bollardref12_Encode.bits16 (fun HT_ HW_ => ?_)
                              generalize w81.drew = w84 at HO177 HO184 HO187 BK170 HB hHeld ⊢
                              refine pure_ (i := 0) (N := some 55) (v := ?_) (a' := ?_) #[true, false, false, false, false, false, false, false, false, false, false] rfl rfl (any_of HT_.out (by kernel_rfl)) (fun _ _ _ h => h) (Or.inl ⟨by rfl, ?_⟩) ?_ ?_
                              rotate_left
                              · intro w'
                                go_simp
                                with_reducible rfl
                              rotate_left
                              · simp only [Act.put, List.setIfInBounds_toArray, List.set_cons_zero, List.set_cons_succ, i64_w, i32_w]
                                rfl
                              refine pure_ (i := 1) (N := some 56) (v := ?_) (a' := ?_) #[true, true, false, false, false, false, false, false, false, false, false] rfl rfl (any_of HT_.out (by kernel_rfl)) (fun _ _ _ h => h) (Or.inl ⟨by rfl, ?_⟩) ?_ ?_
                              rotate_left
                              · intro w'
                                go_simp
                                with_reducible rfl
                              rotate_left
                              · simp only [Act.put, List.setIfInBounds_toArray, List.set_cons_zero, List.set_cons_succ, i64_w, i32_w]
                                rfl
                              refine pure_ (i := 7) (N := some 62) (v := ?_) (a' := ?_) #[true, true, false, false, false, false, false, true, false, false, false] rfl rfl (any_of HT_.out (by kernel_rfl)) (fun _ _ _ h => h) (Or.inl ⟨by rfl, ?_⟩) ?_ ?_
                              rotate_left
                              · intro w'
                                go_simp
                                with_reducible rfl
                              rotate_left
                              · simp only [Act.put, List.setIfInBounds_toArray, List.set_cons_zero, List.set_cons_succ, i64_w, i32_w]
                                rfl
                              refine take_ (i := 2) (N := some 57) (v := ?_) (a' := ?_) #[true, true, true, false, false, false, false, true, false, false, false] rfl rfl (take_ofW HT_.out HW_.out (by kernel_rfl)) (fun _ _ _ h => h) (Or.inl ⟨by rfl, ?_⟩) hHeld ?_ ?_
                              rotate_left
                              · rintro w' ⟨s0, s1, s2, s3, s4, s5⟩
                                go_simp
                                with_reducible rfl
                              rotate_left
                              · simp only [Act.put, List.setIfInBounds_toArray, List.set_cons_zero, List.set_cons_succ, i64_w, i32_w]
                                rfl
                              refine pure_ (i := 3) (N := some 58) (v := ?_) (a' := ?_) #[true, true, true, true, false, false, false, true, false, false, false] rfl rfl (any_of HT_.out (by kernel_rfl)) (fun _ _ _ h => h) (Or.inl ⟨by rfl, ?_⟩) ?_ ?_
                              rotate_left
                              · intro w'
                                go_simp
                                with_reducible rfl
                              rotate_left
                              · simp only [Act.put, List.setIfInBounds_toArray, List.set_cons_zero, List.set_cons_succ, i64_w, i32_w]
                                rfl
                              refine pure_ (i := 4) (N := some 59) (v := ?_) (a' := ?_) #[true, true, true, true, true, false, false, true, false, false, false] rfl rfl (any_of HT_.out (by kernel_rfl)) (fun _ _ _ h => h) (Or.inl ⟨by rfl, ?_⟩) ?_ ?_
                              rotate_left
                              · intro w'
                                go_simp
                                with_reducible rfl
                              rotate_left
                              · simp only [Act.put, List.setIfInBounds_toArray, List.set_cons_zero, List.set_cons_succ, i64_w, i32_w]
                                rfl
                              refine take_ (i := 8) (N := some 63) (v := ?_) (a' := ?_) #[true, true, true, true, true, false, false, true, true, false, false] rfl rfl (take_ofW HT_.out HW_.out (by kernel_rfl)) (fun _ _ _ h => h) (Or.inl ⟨by rfl, ?_⟩) hHeld ?_ ?_
                              rotate_left
                              · rintro w' ⟨s0, s1, s2, s3, s4, s5⟩
                                go_simp
                                with_reducible rfl
                              rotate_left
                              · simp only [Act.put, List.setIfInBounds_toArray, List.set_cons_zero, List.set_cons_succ, i64_w, i32_w]
                                rfl
                              refine one_ (i := 5) (N := some 60) #[true, true, true, true, true, true, false, true, true, false, false] rfl rfl (one_of HT_.out (by kernel_rfl)) (by decide) (fun K hK => ?_)
                              refine goes_ Try.func23 (by kernel_rfl) rfl #[.int .u64 (IntKind.u64.wrap ((a0_3.size : Int)))] (by rfl) rfl rfl (by (try simp only [List.map_toArray, List.map_cons, List.map_nil]); first | done | rfl | (simp only [List.length_drop, List.length_take]; rfl)) ?_
                              with_reducible refine (bollardref1_Varint.calls kj13 (IntKind.u64.wrap ((a0_3.size : Int))) t206 _ A70.out).mono ?_
                              rintro e w85 ⟨v207, rfl, ho0, hb⟩
                              refine ⟨_, rfl, ?_⟩
                              have n0_ := Aside0.mk (Kd.R_elder' (by (with_reducible repeat (first | apply Kd.R_alloc | apply Kd.R_drewN | apply Kd.R_drew)); exact HO177.out) (Kd.R_base ho0) hb)
                              have n1_ := Aside0.mk (Kd.R_elder' (by (with_reducible repeat (first | apply Kd.R_alloc | apply Kd.R_drewN | apply Kd.R_drew)); exact HO184.out) (Kd.R_base ho0) hb)
                              have n2_ := Aside0.mk (Kd.R_elder' (by (with_reducible repeat (first | apply Kd.R_alloc | apply Kd.R_drewN | apply Kd.R_drew)); exact HO187.out) (Kd.R_base ho0) hb)
                              have n3_ := Aside0.mk (Kd.R_lower (Kd.R_new' (Kd.R_new' (Kd.R_new' ho0 (Kd.R_lt (by (with_reducible repeat (first | apply Kd.R_alloc | apply Kd.R_drewN | apply Kd.R_drew)); exact HO177.out))) (Kd.R_lt (by (with_reducible repeat (first | apply Kd.R_alloc | apply Kd.R_drewN | apply Kd.R_drew)); exact HO184.out))) (Kd.R_lt (by (with_reducible repeat (first | apply Kd.R_alloc | apply Kd.R_drewN | apply Kd.R_drew)); exact HO187.out))) (below_size (by repeat (first | (with_reducible first | exact HB.out | apply below_alloc | apply pw_below_drewN | apply below_drew1 | refine below_set ?_ GE170.out) | exact HB.out))))
                              have n4_ := Aside0.mk (blk_below (g := gb170) (o := .cells #[.bool false, .string a0_1, .bool true, .string a0_3, .int .i64 a0_4, .int .i64 a0_5] 23 (0, 0)) (by (with_reducible repeat (first | refine blk_drewN ?_ _ | refine blk_drew ?_ | refine blk_alloc ?_ _)); exact BK170.out) hb)
                              have n5_ := Aside0.mk (below_step (by repeat (first | (with_reducible first | exact HB.out | apply below_alloc | apply pw_below_drewN | apply below_drew1 | refine below_set ?_ GE170.out) | exact HB.out)) hb)
                              clear HO177
                              clear HO184
                              clear HO187
                              clear BK170
                              clear HB
                              have HO177 := n0_
                              have HO184 := n1_
                              have HO187 := n2_
                              have HO208 := n3_
                              have BK170 := n4_
                              have HB := n5_
                              clear n0_ n1_ n2_ n3_ n4_ n5_
                              (try clear hb)
                              (try clear hb2)
                              (try clear hk)
                              (try clear hi)
                              (try clear ho0)
                              obtain ⟨Ao87, co87, eo87⟩ := Kd.R_slice HO208.out
                              (first | subst eo87 | (injection eo87 with f1_ f2_ f3_; have f4_ := f1_.symm; have f5_ := f3_.symm; clear f1_ f2_ f3_; subst f4_; subst f5_))
                              refine hK.out _ _ ⟨(blk_cell BK170.out 0).trans rfl, (blk_cell BK170.out 1).trans rfl, (blk_cell BK170.out 2).trans rfl, (blk_cell BK170.out 3).trans rfl, (blk_cell BK170.out 4).trans rfl, (blk_cell BK170.out 5).trans rfl⟩ (fun hHeld => ?_)
                              clear hK K
                              refine norm_ (a' := ?_) ?_ ?_
                              rotate_left
                              · show Act.put _ (some 60) _ = _
                                simp only [Act.put, List.setIfInBounds_toArray, List.set_cons_zero, List.set_cons_succ, i64_w, i32_w]
                                rfl
                              refine one_ (i := 6) (N := some 61) #[true, true, true, true, true, true, true, true, true, false, false] rfl rfl (one_of HT_.out (by kernel_rfl)) (by decide) (fun K hK => ?_)
                              refine Kd.R_append_rows_step (Kd.int .u8) (w0 := w) w.heap.size (by rfl) (.tmp 55) (.tmp 60) 25 5 (.int .u8 0) 1 rfl Try.underlying25 info5 rfl (by decide) (by omega) v186 y185 t206 _ _ _ (fun k_ => some k_ ≠ (.slice Ao78 t175.length co78 : Value).ownBlock ∧ some k_ ≠ (.slice Ao82 t182.length co82 : Value).ownBlock ∧ some k_ ≠ (.slice Ao87 t206.length co87 : Value).ownBlock) (fun _ => False) rfl rfl ?aO ?aR (fun _ _ h => h) (fun _ h => h.elim) ?aF ?aB ?aS ?aL ?_
                              (case aR => repeat (first | exact (Kd.R_reads' HO208.out).2.2 | (with_reducible refine Kd.C_alloc ?_ _) | (with_reducible refine Kd.C_drewN ?_ _) | (with_reducible refine Kd.C_drew ?_)))
                              (case aB => exact (by repeat (first | (with_reducible first | exact HB.out | apply below_alloc | apply pw_below_drewN | apply below_drew1 | refine below_set ?_ GE170.out) | exact HB.out)))
                              (case aF => exact (fun k_ hk => ⟨Kd.fresh' (Kd.R_lt (by (with_reducible repeat (first | apply Kd.R_alloc | apply Kd.R_drewN | apply Kd.R_drew)); exact HO177.out)) k_ hk, Kd.fresh' (Kd.R_lt (by (with_reducible repeat (first | apply Kd.R_alloc | apply Kd.R_drewN | apply Kd.R_drew)); exact HO184.out)) k_ hk, Kd.fresh' (Kd.R_lt (by (with_reducible repeat (first | apply Kd.R_alloc | apply Kd.R_drewN | apply Kd.R_drew)); exact HO208.out)) k_ hk⟩))
                              (case aO => exact (by (with_reducible repeat (first | apply Kd.R_alloc | apply Kd.R_drewN | apply Kd.R_drew)); exact Kd.R_mono HO187.out (fun _ hk => ⟨hk.1.1, ⟨hk.1.2, hk.2⟩⟩)))
                              (case aS => exact (below_size (by repeat (first | (with_reducible first | exact HB.out | apply below_alloc | apply pw_below_drewN | apply below_drew1 | refine below_set ?_ GE170.out) | exact HB.out))))
                              (case aL => have := LMc71.out; omega)
                              intro v210 w86 ho hb hg hat
                              rw [← Ny209.out] at ho
                              have n0_ := Aside0.mk (blk_grown (g := gb170) (o := .cells #[.bool false, .string a0_1, .bool true, .string a0_3, .int .i64 a0_4, .int .i64 a0_5] 23 (0, 0)) (by (with_reducible repeat (first | refine blk_drewN ?_ _ | refine blk_drew ?_ | refine blk_alloc ?_ _)); exact BK170.out) hg (Kd.R_ne HO187.out BK170.out (by decide)))
                              have n1_ := Aside0.mk (Kd.R_after (ok := (fun k_ => some k_ ≠ (.slice Ao82 t182.length co82 : Value).ownBlock ∧ some k_ ≠ (.slice Ao87 t206.length co87 : Value).ownBlock)) (by (with_reducible repeat (first | apply Kd.R_alloc | apply Kd.R_drewN | apply Kd.R_drew)); exact Kd.R_mono HO177.out (fun _ hk => ⟨⟨hk.1.1, hk.2⟩, hk.1.2⟩)) hg hat)
                              have n2_ := Aside0.mk (Kd.R_after (ok := (fun k_ => some k_ ≠ (.slice Ao78 t175.length co78 : Value).ownBlock ∧ some k_ ≠ (.slice Ao87 t206.length co87 : Value).ownBlock)) (by (with_reducible repeat (first | apply Kd.R_alloc | apply Kd.R_drewN | apply Kd.R_drew)); exact Kd.R_mono HO184.out (fun _ hk => ⟨⟨hk.1.1, hk.2⟩, hk.1.2⟩)) hg hat)
                              have n3_ := Aside0.mk (Kd.R_after (ok := (fun k_ => some k_ ≠ (.slice Ao78 t175.length co78 : Value).ownBlock ∧ some k_ ≠ (.slice Ao82 t182.length co82 : Value).ownBlock)) (by (with_reducible repeat (first | apply Kd.R_alloc | apply Kd.R_drewN | apply Kd.R_drew)); exact Kd.R_mono HO208.out (fun _ hk => ⟨⟨hk.1.1.2, hk.1.2⟩, hk.2⟩)) hg hat)
                              have n4_ := Aside0.mk (hb)
                              have n5_ := Aside0.mk (ho)
                              clear BK170
                              clear HO177
                              clear HO184
                              clear HO208
                              clear HB
                              clear HO187
                              have BK170 := n0_
                              have HO177 := n1_
                              have HO184 := n2_
                              have HO208 := n3_
                              have HB := n4_
                              have HO211 := n5_
                              clear n0_ n1_ n2_ n3_ n4_ n5_
                              clear ho hb hg hat
                              refine hK.out _ _ ⟨(blk_cell BK170.out 0).trans rfl, (blk_cell BK170.out 1).trans rfl, (blk_cell BK170.out 2).trans rfl, (blk_cell BK170.out 3).trans rfl, (blk_cell BK170.out 4).trans rfl, (blk_cell BK170.out 5).trans rfl⟩ (fun hHeld => ?_)
                              clear hK K
                              refine norm_ (a' := ?_) ?_ ?_
                              rotate_left
                              · show Act.put _ (some 61) _ = _
                                simp only [Act.put, List.setIfInBounds_toArray, List.set_cons_zero, List.set_cons_succ, i64_w, i32_w]
                                rfl
                              refine one_ (i := 9) (N := some 64) #[true, true, true, true, true, true, true, true, true, true, false] rfl rfl (one_of HT_.out (by kernel_rfl)) (by decide) (fun K hK => ?_)
                              refine Kd.R_append_str_step (w0 := w) w.heap.size (by rfl) (.tmp 61) _ 25 9 5 rfl Try.underlying25 Try.underlying9 info5 v210 y209 a0_3 (fun k_ => some k_ ≠ (.slice Ao78 t175.length co78 : Value).ownBlock ∧ some k_ ≠ (.slice Ao82 t182.length co82 : Value).ownBlock ∧ some k_ ≠ (.slice Ao87 t206.length co87 : Value).ownBlock) rfl rfl ?aF ?aO ?aB ?aS ?aL ?_
                              (case aB => exact (by repeat (first | (with_reducible first | exact HB.out | apply below_alloc | apply pw_below_drewN | apply below_drew1 | refine below_set ?_ GE170.out) | exact HB.out)))
                              (case aF => exact (fun k_ hk => ⟨Kd.fresh' (Kd.R_lt (by (with_reducible repeat (first | apply Kd.R_alloc | apply Kd.R_drewN | apply Kd.R_drew)); exact HO177.out)) k_ hk, Kd.fresh' (Kd.R_lt (by (with_reducible repeat (first | apply Kd.R_alloc | apply Kd.R_drewN | apply Kd.R_drew)); exact HO184.out)) k_ hk, Kd.fresh' (Kd.R_lt (by (with_reducible repeat (first | apply Kd.R_alloc | apply Kd.R_drewN | apply Kd.R_drew)); exact HO208.out)) k_ hk⟩))
                              (case aO => exact (by (with_reducible repeat (first | apply Kd.R_alloc | apply Kd.R_drewN | apply Kd.R_drew)); exact HO211.out))
                              (case aS => exact (below_size (by repeat (first | (with_reducible first | exact HB.out | apply below_alloc | apply pw_below_drewN | apply below_drew1 | refine below_set ?_ GE170.out) | exact HB.out))))
                              (case aL => have := LMc72.out; omega)
                              intro v213 w88 ho hb hg hat
                              rw [← Ny212.out] at ho
                              have n0_ := Aside0.mk (blk_grown (g := gb170) (o := .cells #[.bool false, .string a0_1, .bool true, .string a0_3, .int .i64 a0_4, .int .i64 a0_5] 23 (0, 0)) (by (with_reducible repeat (first | refine blk_drewN ?_ _ | refine blk_drew ?_ | refine blk_alloc ?_ _)); exact BK170.out) hg (Kd.R_ne HO211.out BK170.out (by decide)))
                              have n1_ := Aside0.mk (Kd.R_after (ok := (fun k_ => some k_ ≠ (.slice Ao82 t182.length co82 : Value).ownBlock ∧ some k_ ≠ (.slice Ao87 t206.length co87 : Value).ownBlock)) (by (with_reducible repeat (first | apply Kd.R_alloc | apply Kd.R_drewN | apply Kd.R_drew)); exact HO177.out) hg hat)
                              have n2_ := Aside0.mk (Kd.R_after (ok := (fun k_ => some k_ ≠ (.slice Ao78 t175.length co78 : Value).ownBlock ∧ some k_ ≠ (.slice Ao87 t206.length co87 : Value).ownBlock)) (by (with_reducible repeat (first | apply Kd.R_alloc | apply Kd.R_drewN | apply Kd.R_drew)); exact HO184.out) hg hat)
                              have n3_ := Aside0.mk (Kd.R_after (ok := (fun k_ => some k_ ≠ (.slice Ao78 t175.length co78 : Value).ownBlock ∧ some k_ ≠ (.slice Ao82 t182.length co82 : Value).ownBlock)) (by (with_reducible repeat (first | apply Kd.R_alloc | apply Kd.R_drewN | apply Kd.R_drew)); exact HO208.out) hg hat)
                              have n4_ := Aside0.mk (hb)
                              have n5_ := Aside0.mk (ho)
                              clear BK170
                              clear HO177
                              clear HO184
                              clear HO208
                              clear HB
                              clear HO211
                              have BK170 := n0_
                              have HO177 := n1_
                              have HO184 := n2_
                              have HO208 := n3_
                              have HB := n4_
                              have HO214 := n5_
                              clear n0_ n1_ n2_ n3_ n4_ n5_
                              clear ho hb hg hat
                              refine hK.out _ _ ⟨(blk_cell BK170.out 0).trans rfl, (blk_cell BK170.out 1).trans rfl, (blk_cell BK170.out 2).trans rfl, (blk_cell BK170.out 3).trans rfl, (blk_cell BK170.out 4).trans rfl, (blk_cell BK170.out 5).trans rfl⟩ (fun hHeld => ?_)
                              clear hK K
                              refine norm_ (a' := ?_) ?_ ?_
                              rotate_left
                              · show Act.put _ (some 64) _ = _
                                simp only [Act.put, List.setIfInBounds_toArray, List.set_cons_zero, List.set_cons_succ, i64_w, i32_w]
                                rfl
                              refine pure_ (i := 10) (N := some 8) (v := ?_) (a' := ?_) #[true, true, true, true, true, true, true, true, true, true, true] rfl rfl (any_of HT_.out (by kernel_rfl)) (fun _ _ _ h => h) (Or.inl ⟨by rfl, ?_⟩) ?_ ?_
                              rotate_left
                              · intro w'
                                go_simp
                                with_reducible rfl
                              rotate_left
                              · simp only [Act.put, List.setIfInBounds_toArray, List.set_cons_zero, List.set_cons_succ, i64_w, i32_w]
                                rfl
                              refine done_ (done_of HT_.out (by kernel_rfl)) ?_
                              try go_wp2
                              go_ret2
                              exact ⟨_, by first | rfl | (simp [errW_none, errW_some] <;> rfl) | (simp [*, errW_none, errW_some] <;> rfl), by (with_reducible repeat (first | apply Kd.R_alloc | apply Kd.R_drewN | apply Kd.R_drew)); exact Kd.R_mono HO214.out (fun _ hk => trivial), by repeat (first | (with_reducible first | exact HB.out | apply below_alloc | apply pw_below_drewN | apply below_drew1 | refine below_set ?_ GE170.out) | exact HB.out)⟩
                            · rw [if_neg c72] at H
                              exact absurd H (by simp)
                          · rw [if_neg c71] at H
                            exact absurd H (by simp)
                        · replace c69 := Bool.eq_false_iff.mpr c69
                          subst c69
                          have H1 : (some (y185, 0)) = some (r1, r2) := by rw [if_neg (show ¬ (false = true) by decide)] at H; exact H
                          clear H
                          have H := H1
                          clear H1
                          simp only [Option.some.injEq, Prod.mk.injEq] at H
                          obtain ⟨rfl, rfl⟩ := H
                          go_wp2_with (first | ((with_reducible refine gate_dst (N := 27) rfl ?_); refine Kd.R_lit (Kd.int .u8) _ 5 ?hg (N := 27) ?hd (xs := ([x7_13] : List Int)) (inner := [.int .u8 x7_13]) (ok := fun _ => True) (okp := fun _ => True) ?hr ?hp (fun _ hk => hk) trivial (Below.refl _ _) (Nat.le_refl _) (by simp) ?_; (case hd => rfl); (case hg => rfl); (case hr => first | (go_simp; done) | (go_simp; rfl)); (case hp => exact (Reps.one (show Kd.M (Kd.int .u8) _ _ _ x7_13 [.int .u8 x7_13] from rfl) (Reps.none _ _))); intro v173 w89 ho90 hb hg_ hnew_; clear hg_ hnew_; (first | rw [← Ny172.out] at ho90 | (simp only [Int.reduceToNat] at ho90; rw [← Ny172.out] at ho90)); have n0_ := Aside0.mk (Kd.R_lower ho90 (below_size (by repeat (first | (with_reducible first | exact HB.out | apply below_alloc | apply pw_below_drewN | apply below_drew1 | refine below_set ?_ GE170.out) | exact HB.out)))); have n1_ := Aside0.mk (blk_below (g := gb170) (o := .cells #[.bool false, .string a0_1, .bool false, .string a0_3, .int .i64 a0_4, .int .i64 a0_5] 23 (0, 0)) (by (with_reducible repeat (first | refine blk_drewN ?_ _ | refine blk_drew ?_ | refine blk_alloc ?_ _)); exact BK170.out) hb); have n2_ := Aside0.mk (below_step (by repeat (first | (with_reducible first | exact HB.out | apply below_alloc | apply pw_below_drewN | apply below_drew1 | refine below_set ?_ GE170.out) | exact HB.out)) hb); clear BK170; clear HB; have HO174 := n0_; have BK170 := n1_; have HB := n2_; clear n0_ n1_ n2_; clear hb ho90; have hcz91_0 : w89.cell? ⟨gb170, 0, none⟩ = some (.bool false) := (blk_cell BK170.out 0).trans rfl; have hcz91_1 : w89.cell? ⟨gb170, 1, none⟩ = some (.string a0_1) := (blk_cell BK170.out 1).trans rfl; have hcz91_2 : w89.cell? ⟨gb170, 2, none⟩ = some (.bool false) := (blk_cell BK170.out 2).trans rfl; have hcz91_3 : w89.cell? ⟨gb170, 3, none⟩ = some (.string a0_3) := (blk_cell BK170.out 3).trans rfl; have hcz91_4 : w89.cell? ⟨gb170, 4, none⟩ = some (.int .i64 a0_4) := (blk_cell BK170.out 4).trans rfl; have hcz91_5 : w89.cell? ⟨gb170, 5, none⟩ = some (.int .i64 a0_5) := (blk_cell BK170.out 5).trans rfl; have hfz91_0 := blk_frozen BK170.out 0; have hfz91_1 := blk_frozen BK170.out 1; have hfz91_2 := blk_frozen BK170.out 2; have hfz91_3 := blk_frozen BK170.out 3; have hfz91_4 := blk_frozen BK170.out 4; have hfz91_5 := blk_frozen BK170.out 5) | ((with_reducible refine gate_callee (f := 23) rfl ?_); refine goesL_ (some 31) rfl rfl Try.func23 (by kernel_rfl) rfl #[.int .u64 (IntKind.u64.wrap (a0_5))] rfl (by (try simp only [List.map_toArray, List.map_cons, List.map_nil]); first | done | rfl | (simp only [List.length_drop, List.length_take]; rfl)) ?_; (with_reducible refine (bollardref1_Varint.calls kj13 (IntKind.u64.wrap (a0_5)) t175 _ A17.out).mono ?_); rintro e w92 ⟨v176, rfl, ho0, hb⟩; refine ⟨_, rfl, ?_⟩; have n0_ := Aside0.mk (Kd.R_elder' (by (with_reducible repeat (first | apply Kd.R_alloc | apply Kd.R_drewN | apply Kd.R_drew)); exact HO174.out) (Kd.R_base ho0) hb); have n1_ := Aside0.mk (Kd.R_lower (Kd.R_new' ho0 (Kd.R_lt (by (with_reducible repeat (first | apply Kd.R_alloc | apply Kd.R_drewN | apply Kd.R_drew)); exact HO174.out))) (below_size (by repeat (first | (with_reducible first | exact HB.out | apply below_alloc | apply pw_below_drewN | apply below_drew1 | refine below_set ?_ GE170.out) | exact HB.out)))); have n2_ := Aside0.mk (blk_below (g := gb170) (o := .cells #[.bool false, .string a0_1, .bool false, .string a0_3, .int .i64 a0_4, .int .i64 a0_5] 23 (0, 0)) (by (with_reducible repeat (first | refine blk_drewN ?_ _ | refine blk_drew ?_ | refine blk_alloc ?_ _)); exact BK170.out) hb); have n3_ := Aside0.mk (below_step (by repeat (first | (with_reducible first | exact HB.out | apply below_alloc | apply pw_below_drewN | apply below_drew1 | refine below_set ?_ GE170.out) | exact HB.out)) hb); clear HO174; clear BK170; clear HB; have HO174 := n0_; have HO177 := n1_; have BK170 := n2_; have HB := n3_; clear n0_ n1_ n2_ n3_; (try clear hb); (try clear hb2); (try clear hk); (try clear hi); (try clear ho0); obtain ⟨Ao94, co94, eo94⟩ := Kd.R_slice HO177.out; subst eo94) | ((with_reducible refine gate_builtin (b := .append) (xs := #[.tmp 27, .tmp 31]) rfl ?_); at_builtin; refine Kd.R_append_rows (Kd.int .u8) (w0 := w) w.heap.size rfl (.tmp 27) (.tmp 31) 25 5 (.int .u8 0) 1 rfl Try.underlying25 info5 rfl (by decide) (by omega) v173 y172 t175 _ _ _ (fun k_ => some k_ ≠ (.slice Ao94 t175.length co94 : Value).ownBlock) (fun _ => False) rfl rfl ?aO ?aR (fun _ _ h => h) (fun _ h => h.elim) ?aF ?aB ?aS ?aL ?_; (case aR => repeat (first | exact (Kd.R_reads' HO177.out).2.2 | (with_reducible refine Kd.C_alloc ?_ _) | (with_reducible refine Kd.C_drewN ?_ _) | (with_reducible refine Kd.C_drew ?_))); (case aB => exact (by repeat (first | (with_reducible first | exact HB.out | apply below_alloc | apply pw_below_drewN | apply below_drew1 | refine below_set ?_ GE170.out) | exact HB.out))); (case aF => exact (fun k_ hk => Kd.fresh' (Kd.R_lt (by (with_reducible repeat (first | apply Kd.R_alloc | apply Kd.R_drewN | apply Kd.R_drew)); exact HO177.out)) k_ hk)); (case aO => exact (by (with_reducible repeat (first | apply Kd.R_alloc | apply Kd.R_drewN | apply Kd.R_drew)); exact Kd.R_mono HO174.out (fun _ hk => hk.2))); (case aS => exact (below_size (by repeat (first | (with_reducible first | exact HB.out | apply below_alloc | apply pw_below_drewN | apply below_drew1 | refine below_set ?_ GE170.out) | exact HB.out)))); (case aL => have := LMc18.out; omega); intro v179 w93 ho hb hg hat; rw [← Ny178.out] at ho; have n0_ := Aside0.mk (blk_grown (g := gb170) (o := .cells #[.bool false, .string a0_1, .bool false, .string a0_3, .int .i64 a0_4, .int .i64 a0_5] 23 (0, 0)) (by (with_reducible repeat (first | refine blk_drewN ?_ _ | refine blk_drew ?_ | refine blk_alloc ?_ _)); exact BK170.out) hg (Kd.R_ne HO174.out BK170.out (by decide))); have n1_ := Aside0.mk (Kd.R_after (ok := (fun _ => True)) (by (with_reducible repeat (first | apply Kd.R_alloc | apply Kd.R_drewN | apply Kd.R_drew)); exact HO177.out) hg hat); have n2_ := Aside0.mk (hb); have n3_ := Aside0.mk (ho); clear BK170; clear HO177; clear HB; clear HO174; have BK170 := n0_; have HO177 := n1_; have HB := n2_; have HO180 := n3_; clear n0_ n1_ n2_ n3_; clear ho hb hg hat; have hcz95_0 : w93.cell? ⟨gb170, 0, none⟩ = some (.bool false) := (blk_cell BK170.out 0).trans rfl; have hcz95_1 : w93.cell? ⟨gb170, 1, none⟩ = some (.string a0_1) := (blk_cell BK170.out 1).trans rfl; have hcz95_2 : w93.cell? ⟨gb170, 2, none⟩ = some (.bool false) := (blk_cell BK170.out 2).trans rfl; have hcz95_3 : w93.cell? ⟨gb170, 3, none⟩ = some (.string a0_3) := (blk_cell BK170.out 3).trans rfl; have hcz95_4 : w93.cell? ⟨gb170, 4, none⟩ = some (.int .i64 a0_4) := (blk_cell BK170.out 4).trans rfl; have hcz95_5 : w93.cell? ⟨gb170, 5, none⟩ = some (.int .i64 a0_5) := (blk_cell BK170.out 5).trans rfl; have hfz95_0 := blk_frozen BK170.out 0; have hfz95_1 := blk_frozen BK170.out 1; have hfz95_2 := blk_frozen BK170.out 2; have hfz95_3 := blk_frozen BK170.out 3; have hfz95_4 := blk_frozen BK170.out 4; have hfz95_5 := blk_frozen BK170.out 5) | ((with_reducible refine gate_callee (f := 24) rfl ?_); refine goesL_ (some 38) rfl rfl Try.func24 (by kernel_rfl) rfl #[.int .i64 (wrap64 (a0_4 - a1))] rfl (by (try simp only [List.map_toArray, List.map_cons, List.map_nil]); first | done | rfl | (simp only [List.length_drop, List.length_take]; rfl)) ?_; (with_reducible refine (bollardref1_Zig.calls (wrap64 (a0_4 - a1)) t181 _ A19.out).mono ?_); rintro e w' ⟨rfl, ⟨nd, rfl⟩⟩; refine ⟨_, rfl, ?_⟩) | ((with_reducible refine gate_callee (f := 23) rfl ?_); refine goesL_ (some 39) rfl rfl Try.func23 (by kernel_rfl) rfl #[.int .u64 t181] rfl (by (try simp only [List.map_toArray, List.map_cons, List.map_nil]); first | done | rfl | (simp only [List.length_drop, List.length_take]; rfl)) ?_; (with_reducible refine (bollardref1_Varint.calls kj13 t181 t182 _ A20.out).mono ?_); rintro e w96 ⟨v183, rfl, ho0, hb⟩; refine ⟨_, rfl, ?_⟩; have n0_ := Aside0.mk (Kd.R_elder' (by (with_reducible repeat (first | apply Kd.R_alloc | apply Kd.R_drewN | apply Kd.R_drew)); exact HO177.out) (Kd.R_base ho0) hb); have n1_ := Aside0.mk (Kd.R_elder' (by (with_reducible repeat (first | apply Kd.R_alloc | apply Kd.R_drewN | apply Kd.R_drew)); exact HO180.out) (Kd.R_base ho0) hb); have n2_ := Aside0.mk (Kd.R_lower (Kd.R_new' (Kd.R_new' ho0 (Kd.R_lt (by (with_reducible repeat (first | apply Kd.R_alloc | apply Kd.R_drewN | apply Kd.R_drew)); exact HO177.out))) (Kd.R_lt (by (with_reducible repeat (first | apply Kd.R_alloc | apply Kd.R_drewN | apply Kd.R_drew)); exact HO180.out))) (below_size (by repeat (first | (with_reducible first | exact HB.out | apply below_alloc | apply pw_below_drewN | apply below_drew1 | refine below_set ?_ GE170.out) | exact HB.out)))); have n3_ := Aside0.mk (blk_below (g := gb170) (o := .cells #[.bool false, .string a0_1, .bool false, .string a0_3, .int .i64 a0_4, .int .i64 a0_5] 23 (0, 0)) (by (with_reducible repeat (first | refine blk_drewN ?_ _ | refine blk_drew ?_ | refine blk_alloc ?_ _)); exact BK170.out) hb); have n4_ := Aside0.mk (below_step (by repeat (first | (with_reducible first | exact HB.out | apply below_alloc | apply pw_below_drewN | apply below_drew1 | refine below_set ?_ GE170.out) | exact HB.out)) hb); clear HO177; clear HO180; clear BK170; clear HB; have HO177 := n0_; have HO180 := n1_; have HO184 := n2_; have BK170 := n3_; have HB := n4_; clear n0_ n1_ n2_ n3_ n4_; (try clear hb); (try clear hb2); (try clear hk); (try clear hi); (try clear ho0); obtain ⟨Ao98, co98, eo98⟩ := Kd.R_slice HO184.out; subst eo98) | ((with_reducible refine gate_builtin (b := .append) (xs := #[.tmp 33, .tmp 39]) rfl ?_); at_builtin; refine Kd.R_append_rows (Kd.int .u8) (w0 := w) w.heap.size rfl (.tmp 33) (.tmp 39) 25 5 (.int .u8 0) 1 rfl Try.underlying25 info5 rfl (by decide) (by omega) v179 y178 t182 _ _ _ (fun k_ => some k_ ≠ (.slice Ao94 t175.length co94 : Value).ownBlock ∧ some k_ ≠ (.slice Ao98 t182.length co98 : Value).ownBlock) (fun _ => False) rfl rfl ?aO ?aR (fun _ _ h => h) (fun _ h => h.elim) ?aF ?aB ?aS ?aL ?_; (case aR => repeat (first | exact (Kd.R_reads' HO184.out).2.2 | (with_reducible refine Kd.C_alloc ?_ _) | (with_reducible refine Kd.C_drewN ?_ _) | (with_reducible refine Kd.C_drew ?_))); (case aB => exact (by repeat (first | (with_reducible first | exact HB.out | apply below_alloc | apply pw_below_drewN | apply below_drew1 | refine below_set ?_ GE170.out) | exact HB.out))); (case aF => exact (fun k_ hk => ⟨Kd.fresh' (Kd.R_lt (by (with_reducible repeat (first | apply Kd.R_alloc | apply Kd.R_drewN | apply Kd.R_drew)); exact HO177.out)) k_ hk, Kd.fresh' (Kd.R_lt (by (with_reducible repeat (first | apply Kd.R_alloc | apply Kd.R_drewN | apply Kd.R_drew)); exact HO184.out)) k_ hk⟩)); (case aO => exact (by (with_reducible repeat (first | apply Kd.R_alloc | apply Kd.R_drewN | apply Kd.R_drew)); exact HO180.out)); (case aS => exact (below_size (by repeat (first | (with_reducible first | exact HB.out | apply below_alloc | apply pw_below_drewN | apply below_drew1 | refine below_set ?_ GE170.out) | exact HB.out)))); (case aL => have := LMc21.out; omega); intro v186 w97 ho hb hg hat; rw [← Ny185.out] at ho; have n0_ := Aside0.mk (blk_grown (g := gb170) (o := .cells #[.bool false, .string a0_1, .bool false, .string a0_3, .int .i64 a0_4, .int .i64 a0_5] 23 (0, 0)) (by (with_reducible repeat (first | refine blk_drewN ?_ _ | refine blk_drew ?_ | refine blk_alloc ?_ _)); exact BK170.out) hg (Kd.R_ne HO180.out BK170.out (by decide))); have n1_ := Aside0.mk (Kd.R_after (ok := (fun k_ => some k_ ≠ (.slice Ao98 t182.length co98 : Value).ownBlock)) (by (with_reducible repeat (first | apply Kd.R_alloc | apply Kd.R_drewN | apply Kd.R_drew)); exact Kd.R_mono HO177.out (fun _ hk => ⟨hk.2, hk.1.2⟩)) hg hat); have n2_ := Aside0.mk (Kd.R_after (ok := (fun k_ => some k_ ≠ (.slice Ao94 t175.length co94 : Value).ownBlock)) (by (with_reducible repeat (first | apply Kd.R_alloc | apply Kd.R_drewN | apply Kd.R_drew)); exact Kd.R_mono HO184.out (fun _ hk => ⟨hk.1.2, hk.2⟩)) hg hat); have n3_ := Aside0.mk (hb); have n4_ := Aside0.mk (ho); clear BK170; clear HO177; clear HO184; clear HB; clear HO180; have BK170 := n0_; have HO177 := n1_; have HO184 := n2_; have HB := n3_; have HO187 := n4_; clear n0_ n1_ n2_ n3_ n4_; clear ho hb hg hat; have hcz99_0 : w97.cell? ⟨gb170, 0, none⟩ = some (.bool false) := (blk_cell BK170.out 0).trans rfl; have hcz99_1 : w97.cell? ⟨gb170, 1, none⟩ = some (.string a0_1) := (blk_cell BK170.out 1).trans rfl; have hcz99_2 : w97.cell? ⟨gb170, 2, none⟩ = some (.bool false) := (blk_cell BK170.out 2).trans rfl; have hcz99_3 : w97.cell? ⟨gb170, 3, none⟩ = some (.string a0_3) := (blk_cell BK170.out 3).trans rfl; have hcz99_4 : w97.cell? ⟨gb170, 4, none⟩ = some (.int .i64 a0_4) := (blk_cell BK170.out 4).trans rfl; have hcz99_5 : w97.cell? ⟨gb170, 5, none⟩ = some (.int .i64 a0_5) := (blk_cell BK170.out 5).trans rfl; have hfz99_0 := blk_frozen BK170.out 0; have hfz99_1 := blk_frozen BK170.out 1; have hfz99_2 := blk_frozen BK170.out 2; have hfz99_3 := blk_frozen BK170.out 3; have hfz99_4 := blk_frozen BK170.out 4; have hfz99_5 := blk_frozen BK170.out 5))
                          go_ret2
                          exact ⟨_, by first | rfl | (simp [errW_none, errW_some] <;> rfl) | (simp [*, errW_none, errW_some] <;> rfl), by (with_reducible repeat (first | apply Kd.R_alloc | apply Kd.R_drewN | apply Kd.R_drew)); exact Kd.R_mono HO187.out (fun _ hk => trivial), by repeat (first | (with_reducible first | exact HB.out | apply below_alloc | apply pw_below_drewN | apply below_drew1 | refine below_set ?_ GE170.out) | exact HB.out)⟩
                    · rw [if_neg c21] at H
                      exact absurd H (by simp)
                  · rw [if_neg c18] at H
                    exact absurd H (by simp)
  · rw [if_neg c4] at H
    have c4b0 : (t171 == 0) = false := beq_eq_false_iff_ne.mpr c4
    have c4b1 : (t171 != 0) = true := bne_iff_ne.mpr c4
    simp only [Option.some.injEq, Prod.mk.injEq] at H
    obtain ⟨rfl, rfl⟩ := H
    go_enter Try.func12, Try.ntmps12
    go_wp2_with (first | ((with_reducible refine gate_dst (N := 2) rfl ?_); refine box_event ?hg (N := 2) ?hd (cs := #[.bool a0_0, .string a0_1, .bool a0_2, .string a0_3, .int .i64 a0_4, .int .i64 a0_5]) (t := 23) ?hr ?_; (case hd => rfl); (case hg => rfl); (case hr => first | (go_simp; done) | (go_simp; rfl)); intro gb170 hg w100 hbox hb; have n0_ := Aside0.mk (below_step (by repeat (first | (with_reducible first | exact HB.out | apply below_alloc | apply pw_below_drewN | apply below_drew1) | exact HB.out)) hb); have n1_ := Aside0.mk (hbox); have n2_ := Aside0.mk ((by rw [hg]; exact (below_size (by repeat (first | (with_reducible first | exact HB.out | apply below_alloc | apply pw_below_drewN | apply below_drew1) | exact HB.out))) : w.heap.size ≤ gb170)); have n3_ := Aside0.mk ((by rw [hg]; exact (below_size (by repeat (first | (with_reducible first | exact HB.out | apply below_alloc | apply pw_below_drewN | apply below_drew1) | exact HB.out))) : w.heap.size ≤ gb170)); clear HB; have HB := n0_; have BK170 := n1_; have GW170 := n2_; have GE170 := n3_; clear n0_ n1_ n2_ n3_; clear hb hbox hg; have hcz101_0 : w100.cell? ⟨gb170, 0, none⟩ = some (.bool a0_0) := (blk_cell BK170.out 0).trans rfl; have hcz101_1 : w100.cell? ⟨gb170, 1, none⟩ = some (.string a0_1) := (blk_cell BK170.out 1).trans rfl; have hcz101_2 : w100.cell? ⟨gb170, 2, none⟩ = some (.bool a0_2) := (blk_cell BK170.out 2).trans rfl; have hcz101_3 : w100.cell? ⟨gb170, 3, none⟩ = some (.string a0_3) := (blk_cell BK170.out 3).trans rfl; have hcz101_4 : w100.cell? ⟨gb170, 4, none⟩ = some (.int .i64 a0_4) := (blk_cell BK170.out 4).trans rfl; have hcz101_5 : w100.cell? ⟨gb170, 5, none⟩ = some (.int .i64 a0_5) := (blk_cell BK170.out 5).trans rfl; have hfz101_0 := blk_frozen BK170.out 0; have hfz101_1 := blk_frozen BK170.out 1; have hfz101_2 := blk_frozen BK170.out 2; have hfz101_3 := blk_frozen BK170.out 3; have hfz101_4 := blk_frozen BK170.out 4; have hfz101_5 := blk_frozen BK170.out 5) | ((with_reducible refine gate_callee (f := 15) rfl ?_); refine goesL_ (some 10) rfl rfl Try.func15 (by kernel_rfl) rfl #[.agg #[.bool a0_0, .string a0_1, .bool a0_2, .string a0_3, .int .i64 a0_4, .int .i64 a0_5]] rfl (by (try simp only [List.map_toArray, List.map_cons, List.map_nil]); first | done | rfl | (simp only [List.length_drop, List.length_take]; rfl)) ?_; (with_reducible refine (bollardref12_Check.calls a0_0 a0_1 a0_2 a0_3 a0_4 a0_5 t171 _ A3.out).mono ?_); rintro e w102 ⟨rfl, hb⟩; refine ⟨_, rfl, ?_⟩; have n0_ := Aside0.mk (blk_below (g := gb170) (o := .cells #[.bool a0_0, .string a0_1, .bool a0_2, .string a0_3, .int .i64 a0_4, .int .i64 a0_5] 23 (0, 0)) (by (with_reducible repeat (first | refine blk_drewN ?_ _ | refine blk_drew ?_ | refine blk_alloc ?_ _)); exact BK170.out) hb); have n1_ := Aside0.mk (below_step (by repeat (first | (with_reducible first | exact HB.out | apply below_alloc | apply pw_below_drewN | apply below_drew1 | refine below_set ?_ GE170.out) | exact HB.out)) hb); clear BK170; clear HB; have BK170 := n0_; have HB := n1_; clear n0_ n1_; (try clear hb); (try clear hb2); (try clear hk); (try clear hi)))
    go_ret2
    exact ⟨_, by first | rfl | (simp [errW_none, errW_some] <;> rfl) | (simp [*, errW_none, errW_some] <;> rfl), by first | exact Kd.R_nil _ _ _ _ _ | exact Kd.N_nil _ _ _ _ _ | exact Kd.V_nil _ _ _ _ _ | exact Kd.Q_nil _ _ _ _ _ | exact Kd.S_nil _ _ _ _ _, by repeat (first | (with_reducible first | exact HB.out | apply below_alloc | apply pw_below_drewN | apply below_drew1 | refine below_set ?_ GE170.out) | exact HB.out)⟩

end Go.Proofs.Ytcmkmjmhjjohkaa.PRec
