-- written by a program of this session (wip/tools/pr.py, over the kit's printer): not by hand
import Derived.Test.YtdlkofmcioalfaaQPCkx3
import Derived.Test.YtdlkofmcioalfaaQPCkx1
namespace Go.Proofs.Ytdlkofmcioalfaa.PCk
open Go.RowKit Go.Proofs.YtdlkofmcioalfaaW.PrintWords Go.Proofs.YtdlkofmcioalfaaW.PrintLast Go.Proofs.YtdlkofmcioalfaaW.PrintMore
attribute [local go_sem] max2_int min2_int max_two min_two max_three min_three max_four min_four   -- for this text's walks alone
set_option linter.unusedVariables false
set_option linter.unusedSimpArgs false

/-! ### bollardlaw24_small: function 8 -/
mutual
def bollardlaw24_small.l0 : Nat → List (S35) → Int → Int → Option (Bool)
  | 0, _, _, _ => none
  | k + 1, x0, x3, x4 => if x4 < (x0.length : Int) then (if 0 ≤ x4 then (bollardlaw24_small.l1 k x0 (wrap64 ((wrap64 ((wrap64 (x3 + (((rd_T35 x0 x4).f5).length : Int))) + (wrap64 ((((rd_T35 x0 x4).f0).size : Int) / 8)))) + 1)) x4 0 ((rd_T35 x0 x4).f0) ((rd_T35 x0 x4).f1) ((rd_T35 x0 x4).f2) ((rd_T35 x0 x4).f3) ((rd_T35 x0 x4).f4) ((rd_T35 x0 x4).f5)) else (none)) else (some (decide (x3 ≤ 400)))
def bollardlaw24_small.l1 : Nat → List (S35) → Int → Int → Int → ByteArray → Int → Int → Int → Int → List (S61) → Option (Bool)
  | 0, _, _, _, _, _, _, _, _, _, _ => none
  | k + 1, x0, x3, x4, x6, x105000, x105001, x105002, x105003, x105004, x105005 => if x6 < (x105005.length : Int) then (bollardlaw24_small.j2 k x0 x3 x4 x6 (decide (x3 ≤ 400)) x105000 x105001 x105002 x105003 x105004 x105005) else (bollardlaw24_small.j2 k x0 x3 x4 x6 false x105000 x105001 x105002 x105003 x105004 x105005)
def bollardlaw24_small.j2 : Nat → List (S35) → Int → Int → Int → Bool → ByteArray → Int → Int → Int → Int → List (S61) → Option (Bool)
  | 0, _, _, _, _, _, _, _, _, _, _, _ => none
  | k + 1, x0, x3, x4, x6, x38, x105000, x105001, x105002, x105003, x105004, x105005 => if x38 = true then (if 0 ≤ x6 then (if x6 < (x105005.length : Int) then (if ((rd_T61 x105005 x6).f0) < 0 then (bollardlaw24_small.j3 k x0 (wrap64 (x3 + (((rd_T61 x105005 x6).f4).length : Int))) x4 x6 true x105000 x105001 x105002 x105003 x105004 x105005 ((rd_T61 x105005 x6).f0) ((rd_T61 x105005 x6).f1) ((rd_T61 x105005 x6).f2) ((rd_T61 x105005 x6).f3) ((rd_T61 x105005 x6).f4)) else (if ((rd_T61 x105005 x6).f0) > 1125899906842624 then (bollardlaw24_small.j3 k x0 (wrap64 (x3 + (((rd_T61 x105005 x6).f4).length : Int))) x4 x6 true x105000 x105001 x105002 x105003 x105004 x105005 ((rd_T61 x105005 x6).f0) ((rd_T61 x105005 x6).f1) ((rd_T61 x105005 x6).f2) ((rd_T61 x105005 x6).f3) ((rd_T61 x105005 x6).f4)) else (if ((rd_T61 x105005 x6).f1) < 1 then (bollardlaw24_small.j3 k x0 (wrap64 (x3 + (((rd_T61 x105005 x6).f4).length : Int))) x4 x6 true x105000 x105001 x105002 x105003 x105004 x105005 ((rd_T61 x105005 x6).f0) ((rd_T61 x105005 x6).f1) ((rd_T61 x105005 x6).f2) ((rd_T61 x105005 x6).f3) ((rd_T61 x105005 x6).f4)) else (if ((rd_T61 x105005 x6).f1) > 100 then (bollardlaw24_small.j3 k x0 (wrap64 (x3 + (((rd_T61 x105005 x6).f4).length : Int))) x4 x6 true x105000 x105001 x105002 x105003 x105004 x105005 ((rd_T61 x105005 x6).f0) ((rd_T61 x105005 x6).f1) ((rd_T61 x105005 x6).f2) ((rd_T61 x105005 x6).f3) ((rd_T61 x105005 x6).f4)) else ((bollardalike_Small.f k ((rd_T61 x105005 x6).f4)).bind fun t107 => (bollardlaw24_small.j3 k x0 (wrap64 (x3 + (((rd_T61 x105005 x6).f4).length : Int))) x4 x6 (!t107) x105000 x105001 x105002 x105003 x105004 x105005 ((rd_T61 x105005 x6).f0) ((rd_T61 x105005 x6).f1) ((rd_T61 x105005 x6).f2) ((rd_T61 x105005 x6).f3) ((rd_T61 x105005 x6).f4))))))) else (none)) else (none)) else (if x105002 < 0 then (some false) else (if x105002 > 1152921504606846976 then (some false) else (if x105003 < 0 then (some false) else (if x105003 > 1152921504606846976 then (some false) else (if x105004 < 0 then (some false) else (if x105004 > 1152921504606846976 then (some false) else (bollardlaw24_small.l0 k x0 x3 (wrap64 (x4 + 1)))))))))
def bollardlaw24_small.j3 : Nat → List (S35) → Int → Int → Int → Bool → ByteArray → Int → Int → Int → Int → List (S61) → Int → Int → Int → Int → List (S48) → Option (Bool)
  | 0, _, _, _, _, _, _, _, _, _, _, _, _, _, _, _, _ => none
  | k + 1, x0, x3, x4, x6, x74, x105000, x105001, x105002, x105003, x105004, x105005, x107000, x107001, x107002, x107003, x107004 => if x74 = true then (some false) else (bollardlaw24_small.l2 k x0 x3 x4 x6 0 x105000 x105001 x105002 x105003 x105004 x105005 x107000 x107001 x107002 x107003 x107004)
def bollardlaw24_small.l2 : Nat → List (S35) → Int → Int → Int → Int → ByteArray → Int → Int → Int → Int → List (S61) → Int → Int → Int → Int → List (S48) → Option (Bool)
  | 0, _, _, _, _, _, _, _, _, _, _, _, _, _, _, _, _ => none
  | k + 1, x0, x3, x4, x6, x8, x105000, x105001, x105002, x105003, x105004, x105005, x107000, x107001, x107002, x107003, x107004 => if x8 < (x107004.length : Int) then (if 0 ≤ x8 then (if ((rd_T48 x107004 x8).f5) < 0 then (some false) else (if ((rd_T48 x107004 x8).f5) ≥ x107001 then (some false) else (bollardlaw24_small.l2 k x0 x3 x4 x6 (wrap64 (x8 + 1)) x105000 x105001 x105002 x105003 x105004 x105005 x107000 x107001 x107002 x107003 x107004))) else (none)) else (bollardlaw24_small.l1 k x0 x3 x4 (wrap64 (x6 + 1)) x105000 x105001 x105002 x105003 x105004 x105005)
end
def bollardlaw24_small.f (k : Nat) (l0 : List (S35)) : Option (Bool) := bollardlaw24_small.l0 k l0 0 0
set_option maxRecDepth 100000 in
theorem bollardlaw24_small.mono_l : ∀ k, (∀ y0 y1 y2, LeO (bollardlaw24_small.l0 k y0 y1 y2) (bollardlaw24_small.l0 (k + 1) y0 y1 y2)) ∧ (∀ y0 y1 y2 y3 y4 y5 y6 y7 y8 y9, LeO (bollardlaw24_small.l1 k y0 y1 y2 y3 y4 y5 y6 y7 y8 y9) (bollardlaw24_small.l1 (k + 1) y0 y1 y2 y3 y4 y5 y6 y7 y8 y9)) ∧ (∀ y0 y1 y2 y3 y4 y5 y6 y7 y8 y9 y10, LeO (bollardlaw24_small.j2 k y0 y1 y2 y3 y4 y5 y6 y7 y8 y9 y10) (bollardlaw24_small.j2 (k + 1) y0 y1 y2 y3 y4 y5 y6 y7 y8 y9 y10)) ∧ (∀ y0 y1 y2 y3 y4 y5 y6 y7 y8 y9 y10 y11 y12 y13 y14 y15, LeO (bollardlaw24_small.j3 k y0 y1 y2 y3 y4 y5 y6 y7 y8 y9 y10 y11 y12 y13 y14 y15) (bollardlaw24_small.j3 (k + 1) y0 y1 y2 y3 y4 y5 y6 y7 y8 y9 y10 y11 y12 y13 y14 y15)) ∧ (∀ y0 y1 y2 y3 y4 y5 y6 y7 y8 y9 y10 y11 y12 y13 y14 y15, LeO (bollardlaw24_small.l2 k y0 y1 y2 y3 y4 y5 y6 y7 y8 y9 y10 y11 y12 y13 y14 y15) (bollardlaw24_small.l2 (k + 1) y0 y1 y2 y3 y4 y5 y6 y7 y8 y9 y10 y11 y12 y13 y14 y15))
  | 0 => ⟨fun _ _ _ r h => by first | exact nomatch (show (none : Option _) = some r from h) | (rw [bollardlaw24_small.l0] at h; cases h; done) | (simp [bollardlaw24_small.l0] at h; done), fun _ _ _ _ _ _ _ _ _ _ r h => by first | exact nomatch (show (none : Option _) = some r from h) | (rw [bollardlaw24_small.l1] at h; cases h; done) | (simp [bollardlaw24_small.l1] at h; done), fun _ _ _ _ _ _ _ _ _ _ _ r h => by first | exact nomatch (show (none : Option _) = some r from h) | (rw [bollardlaw24_small.j2] at h; cases h; done) | (simp [bollardlaw24_small.j2] at h; done), fun _ _ _ _ _ _ _ _ _ _ _ _ _ _ _ _ r h => by first | exact nomatch (show (none : Option _) = some r from h) | (rw [bollardlaw24_small.j3] at h; cases h; done) | (simp [bollardlaw24_small.j3] at h; done), fun _ _ _ _ _ _ _ _ _ _ _ _ _ _ _ _ r h => by first | exact nomatch (show (none : Option _) = some r from h) | (rw [bollardlaw24_small.l2] at h; cases h; done) | (simp [bollardlaw24_small.l2] at h; done)⟩
  | k + 1 => by
    obtain ⟨ih0, ih1, ih2, ih3, ih4⟩ := bollardlaw24_small.mono_l k
    refine ⟨?_, ?_, ?_, ?_, ?_⟩
    · intro y0 y1 y2
      unfold bollardlaw24_small.l0
      repeat' first
      | (with_reducible exact ih0 _ _ _)
      | (with_reducible exact ih1 _ _ _ _ _ _ _ _ _ _)
      | (with_reducible exact ih2 _ _ _ _ _ _ _ _ _ _ _)
      | (with_reducible exact ih3 _ _ _ _ _ _ _ _ _ _ _ _ _ _ _ _)
      | (with_reducible exact ih4 _ _ _ _ _ _ _ _ _ _ _ _ _ _ _ _)
      | (with_reducible exact bollardalike_Small.mono _ _)
      | (with_reducible exact LeO.refl _)
      | (with_reducible exact LeO.none _)
      | (with_reducible refine LeO.ite ?_ ?_)
      | (with_reducible refine LeO.bind ?_ (fun _ => ?_))
      | exact ih0 _ _ _
      | exact ih1 _ _ _ _ _ _ _ _ _ _
      | exact ih2 _ _ _ _ _ _ _ _ _ _ _
      | exact ih3 _ _ _ _ _ _ _ _ _ _ _ _ _ _ _ _
      | exact ih4 _ _ _ _ _ _ _ _ _ _ _ _ _ _ _ _
      | exact bollardalike_Small.mono _ _
      | exact LeO.none _
      | refine LeO.ite ?_ ?_
      | refine LeO.bind ?_ (fun _ => ?_)
    · intro y0 y1 y2 y3 y4 y5 y6 y7 y8 y9
      unfold bollardlaw24_small.l1
      repeat' first
      | (with_reducible exact ih0 _ _ _)
      | (with_reducible exact ih1 _ _ _ _ _ _ _ _ _ _)
      | (with_reducible exact ih2 _ _ _ _ _ _ _ _ _ _ _)
      | (with_reducible exact ih3 _ _ _ _ _ _ _ _ _ _ _ _ _ _ _ _)
      | (with_reducible exact ih4 _ _ _ _ _ _ _ _ _ _ _ _ _ _ _ _)
      | (with_reducible exact bollardalike_Small.mono _ _)
      | (with_reducible exact LeO.refl _)
      | (with_reducible exact LeO.none _)
      | (with_reducible refine LeO.ite ?_ ?_)
      | (with_reducible refine LeO.bind ?_ (fun _ => ?_))
      | exact ih0 _ _ _
      | exact ih1 _ _ _ _ _ _ _ _ _ _
      | exact ih2 _ _ _ _ _ _ _ _ _ _ _
      | exact ih3 _ _ _ _ _ _ _ _ _ _ _ _ _ _ _ _
      | exact ih4 _ _ _ _ _ _ _ _ _ _ _ _ _ _ _ _
      | exact bollardalike_Small.mono _ _
      | exact LeO.none _
      | refine LeO.ite ?_ ?_
      | refine LeO.bind ?_ (fun _ => ?_)
    · intro y0 y1 y2 y3 y4 y5 y6 y7 y8 y9 y10
      unfold bollardlaw24_small.j2
      repeat' first
      | (with_reducible exact ih0 _ _ _)
      | (with_reducible exact ih1 _ _ _ _ _ _ _ _ _ _)
      | (with_reducible exact ih2 _ _ _ _ _ _ _ _ _ _ _)
      | (with_reducible exact ih3 _ _ _ _ _ _ _ _ _ _ _ _ _ _ _ _)
      | (with_reducible exact ih4 _ _ _ _ _ _ _ _ _ _ _ _ _ _ _ _)
      | (with_reducible exact bollardalike_Small.mono _ _)
      | (with_reducible exact LeO.refl _)
      | (with_reducible exact LeO.none _)
      | (with_reducible refine LeO.ite ?_ ?_)
      | (with_reducible refine LeO.bind ?_ (fun _ => ?_))
      | exact ih0 _ _ _
      | exact ih1 _ _ _ _ _ _ _ _ _ _
      | exact ih2 _ _ _ _ _ _ _ _ _ _ _
      | exact ih3 _ _ _ _ _ _ _ _ _ _ _ _ _ _ _ _
      | exact ih4 _ _ _ _ _ _ _ _ _ _ _ _ _ _ _ _
      | exact bollardalike_Small.mono _ _
      | exact LeO.none _
      | refine LeO.ite ?_ ?_
      | refine LeO.bind ?_ (fun _ => ?_)
    · intro y0 y1 y2 y3 y4 y5 y6 y7 y8 y9 y10 y11 y12 y13 y14 y15
      unfold bollardlaw24_small.j3
      repeat' first
      | (with_reducible exact ih0 _ _ _)
      | (with_reducible exact ih1 _ _ _ _ _ _ _ _ _ _)
      | (with_reducible exact ih2 _ _ _ _ _ _ _ _ _ _ _)
      | (with_reducible exact ih3 _ _ _ _ _ _ _ _ _ _ _ _ _ _ _ _)
      | (with_reducible exact ih4 _ _ _ _ _ _ _ _ _ _ _ _ _ _ _ _)
      | (with_reducible exact bollardalike_Small.mono _ _)
      | (with_reducible exact LeO.refl _)
      | (with_reducible exact LeO.none _)
      | (with_reducible refine LeO.ite ?_ ?_)
      | (with_reducible refine LeO.bind ?_ (fun _ => ?_))
      | exact ih0 _ _ _
      | exact ih1 _ _ _ _ _ _ _ _ _ _
      | exact ih2 _ _ _ _ _ _ _ _ _ _ _
      | exact ih3 _ _ _ _ _ _ _ _ _ _ _ _ _ _ _ _
      | exact ih4 _ _ _ _ _ _ _ _ _ _ _ _ _ _ _ _
      | exact bollardalike_Small.mono _ _
      | exact LeO.none _
      | refine LeO.ite ?_ ?_
      | refine LeO.bind ?_ (fun _ => ?_)
    · intro y0 y1 y2 y3 y4 y5 y6 y7 y8 y9 y10 y11 y12 y13 y14 y15
      unfold bollardlaw24_small.l2
      repeat' first
      | (with_reducible exact ih0 _ _ _)
      | (with_reducible exact ih1 _ _ _ _ _ _ _ _ _ _)
      | (with_reducible exact ih2 _ _ _ _ _ _ _ _ _ _ _)
      | (with_reducible exact ih3 _ _ _ _ _ _ _ _ _ _ _ _ _ _ _ _)
      | (with_reducible exact ih4 _ _ _ _ _ _ _ _ _ _ _ _ _ _ _ _)
      | (with_reducible exact bollardalike_Small.mono _ _)
      | (with_reducible exact LeO.refl _)
      | (with_reducible exact LeO.none _)
      | (with_reducible refine LeO.ite ?_ ?_)
      | (with_reducible refine LeO.bind ?_ (fun _ => ?_))
      | exact ih0 _ _ _
      | exact ih1 _ _ _ _ _ _ _ _ _ _
      | exact ih2 _ _ _ _ _ _ _ _ _ _ _
      | exact ih3 _ _ _ _ _ _ _ _ _ _ _ _ _ _ _ _
      | exact ih4 _ _ _ _ _ _ _ _ _ _ _ _ _ _ _ _
      | exact bollardalike_Small.mono _ _
      | exact LeO.none _
      | refine LeO.ite ?_ ?_
      | refine LeO.bind ?_ (fun _ => ?_)
set_option maxHeartbeats 8000000 in
set_option maxRecDepth 100000 in
theorem bollardlaw24_small.calls (k : Nat) (A0 : Option Addr) (c0 : Nat) (l0 : List (S35)) (r : Bool) (w : World) (hr0 : Kd.C k35 w A0 l0.length l0) (hc0 : l0.length ≤ c0) (h : bollardlaw24_small.f k l0 = some r) :
    Calls Try.prog 8 #[.slice A0 l0.length c0] w fun e w' => e = .returned (.bool r) ∧ Below w.heap.size w w' := by
  have hu35 := Try.underlying35
  have hu61 := Try.underlying61
  have HR0 := Aside0.mk hr0
  have HC0 := Aside0.mk hc0
  clear hr0 hc0
  have HB := Aside0.mk (Below.refl w.heap.size w)
  have H : (bollardlaw24_small.l0 k l0 0 0) = some r := h
  clear h
  have H' := Aside0.mk H
  clear H
  go_enter Try.func8, Try.ntmps8
  go_wp2
  repeat (go_quiet (fail); try go_wp2)
  go_loopg [3, 4] k (fun kq v3 v4 w' => ∃ (x3_1 : Int) (x4_1 : Int), v3 = .int .i64 x3_1 ∧ v4 = .int .i64 x4_1 ∧ Aside0 (bollardlaw24_small.l0 kq l0 x3_1 x4_1 = some r) ∧ Aside0 (kq ≤ k) ∧ Aside0 (Below w.heap.size w w'))
  case atStart => exact ⟨(0), (0), (by first | rfl | (simp; done) | (simp [*]; done) | exact congrArg Value.bool (ne_empty _) | exact congrArg Value.bool (eq_empty _)), (by first | rfl | (simp; done) | (simp [*]; done) | exact congrArg Value.bool (ne_empty _) | exact congrArg Value.bool (eq_empty _)), H', ⟨Nat.le_refl _⟩, ⟨by repeat (first | (with_reducible first | exact HB.out | apply below_alloc | apply pw_below_drewN | apply below_drew1) | exact HB.out)⟩⟩
  case round =>
    clear H'
    obtain ⟨x3_1, x4_1, rfl, rfl, HA, HK1, HB⟩ := hrel
    cases gk with
    | zero => exact absurd HA.out (by first | (intro h_; exact nomatch (show (none : Option _) = some r from h_)) | simp [bollardlaw24_small.l0])
    | succ k1 =>
      have H := HA.out
      clear HA
      simp only [bollardlaw24_small.l0] at H
      by_cases c2 : x4_1 < (l0.length : Int)
      · rw [if_pos c2] at H
        have c2b0 : decide (x4_1 < (l0.length : Int)) = true := decide_eq_true c2
        clear c2
        by_cases c3 : 0 ≤ x4_1
        · rw [if_pos c3] at H
          have c3b0 : decide (0 ≤ x4_1) = true := decide_eq_true c3
          clear c3
          have H' := Aside0.mk H
          clear H
          have p103 : 0 ≤ (x4_1 : Int) := of_decide_eq_true (by first | (with_reducible assumption) | assumption)
          have q103 : x4_1 < (l0.length : Int) := of_decide_eq_true (by first | (with_reducible assumption) | assumption)
          obtain ⟨ad103, A103_5, c103_5, e103, hx103_0, hx103_1, hx103_2, hx103_3, hx103_4, hx103_5, hl103_5, hi103_5⟩ := at_T35 HR0.out x4_1 p103 q103
          cases e103
          replace hx103_0 := (HB.out.cell (World.block_lt_of_cell? w _ hx103_0)).trans hx103_0
          replace hx103_1 := (HB.out.cell (World.block_lt_of_cell? w _ hx103_1)).trans hx103_1
          replace hx103_2 := (HB.out.cell (World.block_lt_of_cell? w _ hx103_2)).trans hx103_2
          replace hx103_3 := (HB.out.cell (World.block_lt_of_cell? w _ hx103_3)).trans hx103_3
          replace hx103_4 := (HB.out.cell (World.block_lt_of_cell? w _ hx103_4)).trans hx103_4
          replace hx103_5 := (HB.out.cell (World.block_lt_of_cell? w _ hx103_5)).trans hx103_5
          have HR103_5 := Aside0.mk hi103_5
          have HC103_5 := Aside0.mk hl103_5
          clear hi103_5 hl103_5
          replace p103 := eq_true p103
          replace q103 := eq_true q103
          go_wp2_with (first | ((with_reducible refine gate_dst (N := 5) rfl ?_); refine box_event ?hg (N := 5) ?hd (cs := #[.string (⟨#[]⟩ : ByteArray), .int .i64 0, .int .i64 0, .int .i64 0, .int .i64 0, .slice none 0 0]) (t := 35) ?hr ?_; (case hd => rfl); (case hg => rfl); (case hr => first | (go_simp; done) | (go_simp; rfl)); intro gb104 hg w4 hbox hb; have n0_ := Aside0.mk (below_step (by repeat (first | (with_reducible first | exact HB.out | apply below_alloc | apply pw_below_drewN | apply below_drew1) | exact HB.out)) hb); have n1_ := Aside0.mk (hbox); have n2_ := Aside0.mk ((by rw [hg]; exact (below_size (by repeat (first | (with_reducible first | exact HB.out | apply below_alloc | apply pw_below_drewN | apply below_drew1) | exact HB.out))) : w.heap.size ≤ gb104)); have n3_ := Aside0.mk ((by rw [hg]; exact (below_size (by repeat (first | (with_reducible first | exact HB.out | apply below_alloc | apply pw_below_drewN | apply below_drew1) | exact HB.out))) : w.heap.size ≤ gb104)); clear HB; have HB := n0_; have BK104 := n1_; have GW104 := n2_; have GE104 := n3_; clear n0_ n1_ n2_ n3_; clear hb hbox hg; have hcz5_0 : w4.cell? ⟨gb104, 0, none⟩ = some (.string (⟨#[]⟩ : ByteArray)) := (blk_cell BK104.out 0).trans rfl; have hcz5_1 : w4.cell? ⟨gb104, 1, none⟩ = some (.int .i64 0) := (blk_cell BK104.out 1).trans rfl; have hcz5_2 : w4.cell? ⟨gb104, 2, none⟩ = some (.int .i64 0) := (blk_cell BK104.out 2).trans rfl; have hcz5_3 : w4.cell? ⟨gb104, 3, none⟩ = some (.int .i64 0) := (blk_cell BK104.out 3).trans rfl; have hcz5_4 : w4.cell? ⟨gb104, 4, none⟩ = some (.int .i64 0) := (blk_cell BK104.out 4).trans rfl; have hcz5_5 : w4.cell? ⟨gb104, 5, none⟩ = some (.slice none 0 0) := (blk_cell BK104.out 5).trans rfl; have hfz5_0 := blk_frozen BK104.out 0; have hfz5_1 := blk_frozen BK104.out 1; have hfz5_2 := blk_frozen BK104.out 2; have hfz5_3 := blk_frozen BK104.out 3; have hfz5_4 := blk_frozen BK104.out 4; have hfz5_5 := blk_frozen BK104.out 5))
          repeat (go_quiet (first | ((with_reducible refine gate_dst (N := 5) rfl ?_); refine box_event ?hg (N := 5) ?hd (cs := #[.string (⟨#[]⟩ : ByteArray), .int .i64 0, .int .i64 0, .int .i64 0, .int .i64 0, .slice none 0 0]) (t := 35) ?hr ?_; (case hd => rfl); (case hg => rfl); (case hr => first | (go_simp; done) | (go_simp; rfl)); intro gb104 hg w4 hbox hb; have n0_ := Aside0.mk (below_step (by repeat (first | (with_reducible first | exact HB.out | apply below_alloc | apply pw_below_drewN | apply below_drew1) | exact HB.out)) hb); have n1_ := Aside0.mk (hbox); have n2_ := Aside0.mk ((by rw [hg]; exact (below_size (by repeat (first | (with_reducible first | exact HB.out | apply below_alloc | apply pw_below_drewN | apply below_drew1) | exact HB.out))) : w.heap.size ≤ gb104)); have n3_ := Aside0.mk ((by rw [hg]; exact (below_size (by repeat (first | (with_reducible first | exact HB.out | apply below_alloc | apply pw_below_drewN | apply below_drew1) | exact HB.out))) : w.heap.size ≤ gb104)); clear HB; have HB := n0_; have BK104 := n1_; have GW104 := n2_; have GE104 := n3_; clear n0_ n1_ n2_ n3_; clear hb hbox hg; have hcz5_0 : w4.cell? ⟨gb104, 0, none⟩ = some (.string (⟨#[]⟩ : ByteArray)) := (blk_cell BK104.out 0).trans rfl; have hcz5_1 : w4.cell? ⟨gb104, 1, none⟩ = some (.int .i64 0) := (blk_cell BK104.out 1).trans rfl; have hcz5_2 : w4.cell? ⟨gb104, 2, none⟩ = some (.int .i64 0) := (blk_cell BK104.out 2).trans rfl; have hcz5_3 : w4.cell? ⟨gb104, 3, none⟩ = some (.int .i64 0) := (blk_cell BK104.out 3).trans rfl; have hcz5_4 : w4.cell? ⟨gb104, 4, none⟩ = some (.int .i64 0) := (blk_cell BK104.out 4).trans rfl; have hcz5_5 : w4.cell? ⟨gb104, 5, none⟩ = some (.slice none 0 0) := (blk_cell BK104.out 5).trans rfl; have hfz5_0 := blk_frozen BK104.out 0; have hfz5_1 := blk_frozen BK104.out 1; have hfz5_2 := blk_frozen BK104.out 2; have hfz5_3 := blk_frozen BK104.out 3; have hfz5_4 := blk_frozen BK104.out 4; have hfz5_5 := blk_frozen BK104.out 5)); try go_wp2_with (first | ((with_reducible refine gate_dst (N := 5) rfl ?_); refine box_event ?hg (N := 5) ?hd (cs := #[.string (⟨#[]⟩ : ByteArray), .int .i64 0, .int .i64 0, .int .i64 0, .int .i64 0, .slice none 0 0]) (t := 35) ?hr ?_; (case hd => rfl); (case hg => rfl); (case hr => first | (go_simp; done) | (go_simp; rfl)); intro gb104 hg w4 hbox hb; have n0_ := Aside0.mk (below_step (by repeat (first | (with_reducible first | exact HB.out | apply below_alloc | apply pw_below_drewN | apply below_drew1) | exact HB.out)) hb); have n1_ := Aside0.mk (hbox); have n2_ := Aside0.mk ((by rw [hg]; exact (below_size (by repeat (first | (with_reducible first | exact HB.out | apply below_alloc | apply pw_below_drewN | apply below_drew1) | exact HB.out))) : w.heap.size ≤ gb104)); have n3_ := Aside0.mk ((by rw [hg]; exact (below_size (by repeat (first | (with_reducible first | exact HB.out | apply below_alloc | apply pw_below_drewN | apply below_drew1) | exact HB.out))) : w.heap.size ≤ gb104)); clear HB; have HB := n0_; have BK104 := n1_; have GW104 := n2_; have GE104 := n3_; clear n0_ n1_ n2_ n3_; clear hb hbox hg; have hcz5_0 : w4.cell? ⟨gb104, 0, none⟩ = some (.string (⟨#[]⟩ : ByteArray)) := (blk_cell BK104.out 0).trans rfl; have hcz5_1 : w4.cell? ⟨gb104, 1, none⟩ = some (.int .i64 0) := (blk_cell BK104.out 1).trans rfl; have hcz5_2 : w4.cell? ⟨gb104, 2, none⟩ = some (.int .i64 0) := (blk_cell BK104.out 2).trans rfl; have hcz5_3 : w4.cell? ⟨gb104, 3, none⟩ = some (.int .i64 0) := (blk_cell BK104.out 3).trans rfl; have hcz5_4 : w4.cell? ⟨gb104, 4, none⟩ = some (.int .i64 0) := (blk_cell BK104.out 4).trans rfl; have hcz5_5 : w4.cell? ⟨gb104, 5, none⟩ = some (.slice none 0 0) := (blk_cell BK104.out 5).trans rfl; have hfz5_0 := blk_frozen BK104.out 0; have hfz5_1 := blk_frozen BK104.out 1; have hfz5_2 := blk_frozen BK104.out 2; have hfz5_3 := blk_frozen BK104.out 3; have hfz5_4 := blk_frozen BK104.out 4; have hfz5_5 := blk_frozen BK104.out 5)))
          go_loopg [3, 6] k1 (fun kq v3 v6 w' => ∃ (x3_2 : Int) (x6_2 : Int), v3 = .int .i64 x3_2 ∧ v6 = .int .i64 x6_2 ∧ Aside0 (bollardlaw24_small.l1 kq l0 x3_2 x4_1 x6_2 ((rd_T35 l0 x4_1).f0) ((rd_T35 l0 x4_1).f1) ((rd_T35 l0 x4_1).f2) ((rd_T35 l0 x4_1).f3) ((rd_T35 l0 x4_1).f4) ((rd_T35 l0 x4_1).f5) = some r) ∧ Aside0 (kq ≤ k1) ∧ Aside0 (w'.heap[gb104]? = some (.cells #[.string ((rd_T35 l0 x4_1).f0), .int .i64 ((rd_T35 l0 x4_1).f1), .int .i64 ((rd_T35 l0 x4_1).f2), .int .i64 ((rd_T35 l0 x4_1).f3), .int .i64 ((rd_T35 l0 x4_1).f4), (.slice A103_5 ((rd_T35 l0 x4_1).f5).length c103_5)] 35 (0, 0))) ∧ Aside0 (Below w.heap.size w w'))
          case atStart => exact ⟨(wrap64 ((wrap64 ((wrap64 (x3_1 + (((rd_T35 l0 x4_1).f5).length : Int))) + (wrap64 ((((rd_T35 l0 x4_1).f0).size : Int) / 8)))) + 1)), (0), (by first | rfl | (simp; done) | (simp [*]; done) | exact congrArg Value.bool (ne_empty _) | exact congrArg Value.bool (eq_empty _)), (by first | rfl | (simp; done) | (simp [*]; done) | exact congrArg Value.bool (ne_empty _) | exact congrArg Value.bool (eq_empty _)), H', ⟨Nat.le_refl _⟩, ⟨by (with_reducible repeat (first | refine blk_drewN ?_ _ | refine blk_drew ?_ | refine blk_alloc ?_ _)); refine blk_put (cs := #[.string ((rd_T35 l0 x4_1).f0), .int .i64 ((rd_T35 l0 x4_1).f1), .int .i64 ((rd_T35 l0 x4_1).f2), .int .i64 ((rd_T35 l0 x4_1).f3), .int .i64 ((rd_T35 l0 x4_1).f4), .slice none 0 0]) ?_ 5 _ (by first | rfl | (simp only [*, List.setIfInBounds_toArray, List.set_cons_zero, List.set_cons_succ]; done) | (simp [*]; done)); (with_reducible repeat (first | refine blk_drewN ?_ _ | refine blk_drew ?_ | refine blk_alloc ?_ _)); refine blk_put (cs := #[.string ((rd_T35 l0 x4_1).f0), .int .i64 ((rd_T35 l0 x4_1).f1), .int .i64 ((rd_T35 l0 x4_1).f2), .int .i64 ((rd_T35 l0 x4_1).f3), .int .i64 0, .slice none 0 0]) ?_ 4 _ (by first | rfl | (simp only [*, List.setIfInBounds_toArray, List.set_cons_zero, List.set_cons_succ]; done) | (simp [*]; done)); (with_reducible repeat (first | refine blk_drewN ?_ _ | refine blk_drew ?_ | refine blk_alloc ?_ _)); refine blk_put (cs := #[.string ((rd_T35 l0 x4_1).f0), .int .i64 ((rd_T35 l0 x4_1).f1), .int .i64 ((rd_T35 l0 x4_1).f2), .int .i64 0, .int .i64 0, .slice none 0 0]) ?_ 3 _ (by first | rfl | (simp only [*, List.setIfInBounds_toArray, List.set_cons_zero, List.set_cons_succ]; done) | (simp [*]; done)); (with_reducible repeat (first | refine blk_drewN ?_ _ | refine blk_drew ?_ | refine blk_alloc ?_ _)); refine blk_put (cs := #[.string ((rd_T35 l0 x4_1).f0), .int .i64 ((rd_T35 l0 x4_1).f1), .int .i64 0, .int .i64 0, .int .i64 0, .slice none 0 0]) ?_ 2 _ (by first | rfl | (simp only [*, List.setIfInBounds_toArray, List.set_cons_zero, List.set_cons_succ]; done) | (simp [*]; done)); (with_reducible repeat (first | refine blk_drewN ?_ _ | refine blk_drew ?_ | refine blk_alloc ?_ _)); refine blk_put (cs := #[.string ((rd_T35 l0 x4_1).f0), .int .i64 0, .int .i64 0, .int .i64 0, .int .i64 0, .slice none 0 0]) ?_ 1 _ (by first | rfl | (simp only [*, List.setIfInBounds_toArray, List.set_cons_zero, List.set_cons_succ]; done) | (simp [*]; done)); (with_reducible repeat (first | refine blk_drewN ?_ _ | refine blk_drew ?_ | refine blk_alloc ?_ _)); refine blk_put (cs := #[.string (⟨#[]⟩ : ByteArray), .int .i64 0, .int .i64 0, .int .i64 0, .int .i64 0, .slice none 0 0]) ?_ 0 _ (by first | rfl | (simp only [*, List.setIfInBounds_toArray, List.set_cons_zero, List.set_cons_succ]; done) | (simp [*]; done)); (with_reducible repeat (first | refine blk_drewN ?_ _ | refine blk_drew ?_ | refine blk_alloc ?_ _)); exact BK104.out⟩, ⟨by repeat (first | (with_reducible first | exact HB.out | apply below_alloc | apply pw_below_drewN | apply below_drew1 | refine below_set ?_ GE104.out) | exact HB.out)⟩⟩
          case round =>
            clear H'
            try clear c1
            try clear p1
            try clear q1
            try clear hx1
            try clear c2
            try clear c2b0
            try clear p2
            try clear c3
            try clear c3b0
            try clear hcz5_0
            try clear hcz5_1
            try clear hcz5_2
            try clear hcz5_3
            try clear hcz5_4
            try clear hcz5_5
            try clear hfz5_0
            try clear hfz5_1
            try clear hfz5_2
            try clear hfz5_3
            try clear hfz5_4
            try clear hfz5_5
            try clear hx103_0
            try clear hx103_1
            try clear hx103_2
            try clear hx103_3
            try clear hx103_4
            try clear hx103_5
            try clear p103
            try clear q103
            obtain ⟨x3_2, x6_2, rfl, rfl, HA, HK2, BK104, HB⟩ := hrel
            cases gk with
            | zero => exact absurd HA.out (by first | (intro h_; exact nomatch (show (none : Option _) = some r from h_)) | simp [bollardlaw24_small.l1])
            | succ k2 =>
              have H := HA.out
              clear HA
              simp only [bollardlaw24_small.l1] at H
              have HC6 := Aside0.mk H
              clear H
              go_upto_region 8 with (fail)
              repeat (go_quiet (fail); go_upto_region 8 with (fail))
              go_cut [38] (fun v38 wc => ∃ (kq : Nat) (x38_5 : Bool), v38 = .bool x38_5 ∧ Aside0 (bollardlaw24_small.j2 kq l0 x3_2 x4_1 x6_2 x38_5 ((rd_T35 l0 x4_1).f0) ((rd_T35 l0 x4_1).f1) ((rd_T35 l0 x4_1).f2) ((rd_T35 l0 x4_1).f3) ((rd_T35 l0 x4_1).f4) ((rd_T35 l0 x4_1).f5) = some r) ∧ Aside0 (kq ≤ k2) ∧ Aside0 (wc.heap[gb104]? = some (.cells #[.string ((rd_T35 l0 x4_1).f0), .int .i64 ((rd_T35 l0 x4_1).f1), .int .i64 ((rd_T35 l0 x4_1).f2), .int .i64 ((rd_T35 l0 x4_1).f3), .int .i64 ((rd_T35 l0 x4_1).f4), (.slice A103_5 ((rd_T35 l0 x4_1).f5).length c103_5)] 35 (0, 0))) ∧ Aside0 (Below w.heap.size w wc))
              case first =>
                have H := HC6.out
                clear HC6
                by_cases c7 : x6_2 < (((rd_T35 l0 x4_1).f5).length : Int)
                · rw [if_pos c7] at H
                  have c7b0 : decide (x6_2 < (((rd_T35 l0 x4_1).f5).length : Int)) = true := decide_eq_true c7
                  clear c7
                  (first | rw [c7b0] | (simp only [i64_w, i32_w]; rw [c7b0]) | skip)
                  have H' := Aside0.mk H
                  clear H
                  have hcz8_0 : wr.cell? ⟨gb104, 0, none⟩ = some (.string ((rd_T35 l0 x4_1).f0)) := (blk_cell BK104.out 0).trans rfl
                  have hcz8_1 : wr.cell? ⟨gb104, 1, none⟩ = some (.int .i64 ((rd_T35 l0 x4_1).f1)) := (blk_cell BK104.out 1).trans rfl
                  have hcz8_2 : wr.cell? ⟨gb104, 2, none⟩ = some (.int .i64 ((rd_T35 l0 x4_1).f2)) := (blk_cell BK104.out 2).trans rfl
                  have hcz8_3 : wr.cell? ⟨gb104, 3, none⟩ = some (.int .i64 ((rd_T35 l0 x4_1).f3)) := (blk_cell BK104.out 3).trans rfl
                  have hcz8_4 : wr.cell? ⟨gb104, 4, none⟩ = some (.int .i64 ((rd_T35 l0 x4_1).f4)) := (blk_cell BK104.out 4).trans rfl
                  have hcz8_5 : wr.cell? ⟨gb104, 5, none⟩ = some (.slice A103_5 ((rd_T35 l0 x4_1).f5).length c103_5) := (blk_cell BK104.out 5).trans rfl
                  have hfz8_0 := blk_frozen BK104.out 0
                  have hfz8_1 := blk_frozen BK104.out 1
                  have hfz8_2 := blk_frozen BK104.out 2
                  have hfz8_3 := blk_frozen BK104.out 3
                  have hfz8_4 := blk_frozen BK104.out 4
                  have hfz8_5 := blk_frozen BK104.out 5
                  go_wp2
                  repeat (go_quiet (fail); try go_wp2)
                  go_meet
                  case rel => exact ⟨_, (decide (x3_2 ≤ 400)), (by first | rfl | (simp; done) | (simp [*]; done) | exact congrArg Value.bool (ne_empty _) | exact congrArg Value.bool (eq_empty _)), H', ⟨by have := HK1.out; have := HK2.out; first | omega | exact Nat.le_refl _⟩, ⟨by (with_reducible repeat (first | refine blk_drewN ?_ _ | refine blk_drew ?_ | refine blk_alloc ?_ _)); exact BK104.out⟩, ⟨by repeat (first | (with_reducible first | exact HB.out | apply below_alloc | apply pw_below_drewN | apply below_drew1 | refine below_set ?_ GE104.out) | exact HB.out)⟩⟩
                · rw [if_neg c7] at H
                  have c7b0 : decide (x6_2 < (((rd_T35 l0 x4_1).f5).length : Int)) = false := decide_eq_false c7
                  clear c7
                  (first | rw [c7b0] | (simp only [i64_w, i32_w]; rw [c7b0]) | skip)
                  have H' := Aside0.mk H
                  clear H
                  have hcz9_0 : wr.cell? ⟨gb104, 0, none⟩ = some (.string ((rd_T35 l0 x4_1).f0)) := (blk_cell BK104.out 0).trans rfl
                  have hcz9_1 : wr.cell? ⟨gb104, 1, none⟩ = some (.int .i64 ((rd_T35 l0 x4_1).f1)) := (blk_cell BK104.out 1).trans rfl
                  have hcz9_2 : wr.cell? ⟨gb104, 2, none⟩ = some (.int .i64 ((rd_T35 l0 x4_1).f2)) := (blk_cell BK104.out 2).trans rfl
                  have hcz9_3 : wr.cell? ⟨gb104, 3, none⟩ = some (.int .i64 ((rd_T35 l0 x4_1).f3)) := (blk_cell BK104.out 3).trans rfl
                  have hcz9_4 : wr.cell? ⟨gb104, 4, none⟩ = some (.int .i64 ((rd_T35 l0 x4_1).f4)) := (blk_cell BK104.out 4).trans rfl
                  have hcz9_5 : wr.cell? ⟨gb104, 5, none⟩ = some (.slice A103_5 ((rd_T35 l0 x4_1).f5).length c103_5) := (blk_cell BK104.out 5).trans rfl
                  have hfz9_0 := blk_frozen BK104.out 0
                  have hfz9_1 := blk_frozen BK104.out 1
                  have hfz9_2 := blk_frozen BK104.out 2
                  have hfz9_3 := blk_frozen BK104.out 3
                  have hfz9_4 := blk_frozen BK104.out 4
                  have hfz9_5 := blk_frozen BK104.out 5
                  go_wp2
                  repeat (go_quiet (fail); try go_wp2)
                  go_meet
                  case rel => exact ⟨_, (false), (by first | rfl | (simp; done) | (simp [*]; done) | exact congrArg Value.bool (ne_empty _) | exact congrArg Value.bool (eq_empty _)), H', ⟨by have := HK1.out; have := HK2.out; first | omega | exact Nat.le_refl _⟩, ⟨by (with_reducible repeat (first | refine blk_drewN ?_ _ | refine blk_drew ?_ | refine blk_alloc ?_ _)); exact BK104.out⟩, ⟨by repeat (first | (with_reducible first | exact HB.out | apply below_alloc | apply pw_below_drewN | apply below_drew1 | refine below_set ?_ GE104.out) | exact HB.out)⟩⟩
              case rest =>
                clear HC6
                try clear c1
                try clear p1
                try clear q1
                try clear hx1
                try clear c2
                try clear c2b0
                try clear p2
                try clear c3
                try clear c3b0
                try clear p6
                try clear c7
                try clear c7b0
                try clear c8
                try clear hcz5_0
                try clear hcz5_1
                try clear hcz5_2
                try clear hcz5_3
                try clear hcz5_4
                try clear hcz5_5
                try clear hcz8_0
                try clear hcz8_1
                try clear hcz8_2
                try clear hcz8_3
                try clear hcz8_4
                try clear hcz8_5
                try clear hcz9_0
                try clear hcz9_1
                try clear hcz9_2
                try clear hcz9_3
                try clear hcz9_4
                try clear hcz9_5
                try clear hfz5_0
                try clear hfz5_1
                try clear hfz5_2
                try clear hfz5_3
                try clear hfz5_4
                try clear hfz5_5
                try clear hfz8_0
                try clear hfz8_1
                try clear hfz8_2
                try clear hfz8_3
                try clear hfz8_4
                try clear hfz8_5
                try clear hfz9_0
                try clear hfz9_1
                try clear hfz9_2
                try clear hfz9_3
                try clear hfz9_4
                try clear hfz9_5
                try clear hx103_0
                try clear hx103_1
                try clear hx103_2
                try clear hx103_3
                try clear hx103_4
                try clear hx103_5
                try clear p1
                try clear p103
                try clear p2
                try clear q1
                try clear q103
                obtain ⟨kq, x38_5, rfl, HA, HJ5, BK104, HB⟩ := hcut
                cases kq with
                | zero => exact absurd HA.out (by first | (intro h_; exact nomatch (show (none : Option _) = some r from h_)) | simp [bollardlaw24_small.j2])
                | succ kj5 =>
                  have H := HA.out
                  clear HA
                  simp only [bollardlaw24_small.j2] at H
                  by_cases c10 : x38_5 = true
                  · subst c10
                    have H1 : (if 0 ≤ x6_2 then (if x6_2 < (((rd_T35 l0 x4_1).f5).length : Int) then (if ((rd_T61 ((rd_T35 l0 x4_1).f5) x6_2).f0) < 0 then (bollardlaw24_small.j3 kj5 l0 (wrap64 (x3_2 + (((rd_T61 ((rd_T35 l0 x4_1).f5) x6_2).f4).length : Int))) x4_1 x6_2 true ((rd_T35 l0 x4_1).f0) ((rd_T35 l0 x4_1).f1) ((rd_T35 l0 x4_1).f2) ((rd_T35 l0 x4_1).f3) ((rd_T35 l0 x4_1).f4) ((rd_T35 l0 x4_1).f5) ((rd_T61 ((rd_T35 l0 x4_1).f5) x6_2).f0) ((rd_T61 ((rd_T35 l0 x4_1).f5) x6_2).f1) ((rd_T61 ((rd_T35 l0 x4_1).f5) x6_2).f2) ((rd_T61 ((rd_T35 l0 x4_1).f5) x6_2).f3) ((rd_T61 ((rd_T35 l0 x4_1).f5) x6_2).f4)) else (if ((rd_T61 ((rd_T35 l0 x4_1).f5) x6_2).f0) > 1125899906842624 then (bollardlaw24_small.j3 kj5 l0 (wrap64 (x3_2 + (((rd_T61 ((rd_T35 l0 x4_1).f5) x6_2).f4).length : Int))) x4_1 x6_2 true ((rd_T35 l0 x4_1).f0) ((rd_T35 l0 x4_1).f1) ((rd_T35 l0 x4_1).f2) ((rd_T35 l0 x4_1).f3) ((rd_T35 l0 x4_1).f4) ((rd_T35 l0 x4_1).f5) ((rd_T61 ((rd_T35 l0 x4_1).f5) x6_2).f0) ((rd_T61 ((rd_T35 l0 x4_1).f5) x6_2).f1) ((rd_T61 ((rd_T35 l0 x4_1).f5) x6_2).f2) ((rd_T61 ((rd_T35 l0 x4_1).f5) x6_2).f3) ((rd_T61 ((rd_T35 l0 x4_1).f5) x6_2).f4)) else (if ((rd_T61 ((rd_T35 l0 x4_1).f5) x6_2).f1) < 1 then (bollardlaw24_small.j3 kj5 l0 (wrap64 (x3_2 + (((rd_T61 ((rd_T35 l0 x4_1).f5) x6_2).f4).length : Int))) x4_1 x6_2 true ((rd_T35 l0 x4_1).f0) ((rd_T35 l0 x4_1).f1) ((rd_T35 l0 x4_1).f2) ((rd_T35 l0 x4_1).f3) ((rd_T35 l0 x4_1).f4) ((rd_T35 l0 x4_1).f5) ((rd_T61 ((rd_T35 l0 x4_1).f5) x6_2).f0) ((rd_T61 ((rd_T35 l0 x4_1).f5) x6_2).f1) ((rd_T61 ((rd_T35 l0 x4_1).f5) x6_2).f2) ((rd_T61 ((rd_T35 l0 x4_1).f5) x6_2).f3) ((rd_T61 ((rd_T35 l0 x4_1).f5) x6_2).f4)) else (if ((rd_T61 ((rd_T35 l0 x4_1).f5) x6_2).f1) > 100 then (bollardlaw24_small.j3 kj5 l0 (wrap64 (x3_2 + (((rd_T61 ((rd_T35 l0 x4_1).f5) x6_2).f4).length : Int))) x4_1 x6_2 true ((rd_T35 l0 x4_1).f0) ((rd_T35 l0 x4_1).f1) ((rd_T35 l0 x4_1).f2) ((rd_T35 l0 x4_1).f3) ((rd_T35 l0 x4_1).f4) ((rd_T35 l0 x4_1).f5) ((rd_T61 ((rd_T35 l0 x4_1).f5) x6_2).f0) ((rd_T61 ((rd_T35 l0 x4_1).f5) x6_2).f1) ((rd_T61 ((rd_T35 l0 x4_1).f5) x6_2).f2) ((rd_T61 ((rd_T35 l0 x4_1).f5) x6_2).f3) ((rd_T61 ((rd_T35 l0 x4_1).f5) x6_2).f4)) else ((bollardalike_Small.f kj5 ((rd_T61 ((rd_T35 l0 x4_1).f5) x6_2).f4)).bind fun t107 => (bollardlaw24_small.j3 kj5 l0 (wrap64 (x3_2 + (((rd_T61 ((rd_T35 l0 x4_1).f5) x6_2).f4).length : Int))) x4_1 x6_2 (!t107) ((rd_T35 l0 x4_1).f0) ((rd_T35 l0 x4_1).f1) ((rd_T35 l0 x4_1).f2) ((rd_T35 l0 x4_1).f3) ((rd_T35 l0 x4_1).f4) ((rd_T35 l0 x4_1).f5) ((rd_T61 ((rd_T35 l0 x4_1).f5) x6_2).f0) ((rd_T61 ((rd_T35 l0 x4_1).f5) x6_2).f1) ((rd_T61 ((rd_T35 l0 x4_1).f5) x6_2).f2) ((rd_T61 ((rd_T35 l0 x4_1).f5) x6_2).f3) ((rd_T61 ((rd_T35 l0 x4_1).f5) x6_2).f4))))))) else (none)) else (none)) = some r := by rw [if_pos rfl] at H; exact H
                    clear H
                    have H := H1
                    clear H1
                    by_cases c11 : 0 ≤ x6_2
                    · rw [if_pos c11] at H
                      have c11b0 : decide (0 ≤ x6_2) = true := decide_eq_true c11
                      clear c11
                      by_cases c12 : x6_2 < (((rd_T35 l0 x4_1).f5).length : Int)
                      · rw [if_pos c12] at H
                        have c12b0 : decide (x6_2 < (((rd_T35 l0 x4_1).f5).length : Int)) = true := decide_eq_true c12
                        clear c12
                        have HC13 := Aside0.mk H
                        clear H
                        have hcz14_0 : wc.cell? ⟨gb104, 0, none⟩ = some (.string ((rd_T35 l0 x4_1).f0)) := (blk_cell BK104.out 0).trans rfl
                        have hcz14_1 : wc.cell? ⟨gb104, 1, none⟩ = some (.int .i64 ((rd_T35 l0 x4_1).f1)) := (blk_cell BK104.out 1).trans rfl
                        have hcz14_2 : wc.cell? ⟨gb104, 2, none⟩ = some (.int .i64 ((rd_T35 l0 x4_1).f2)) := (blk_cell BK104.out 2).trans rfl
                        have hcz14_3 : wc.cell? ⟨gb104, 3, none⟩ = some (.int .i64 ((rd_T35 l0 x4_1).f3)) := (blk_cell BK104.out 3).trans rfl
                        have hcz14_4 : wc.cell? ⟨gb104, 4, none⟩ = some (.int .i64 ((rd_T35 l0 x4_1).f4)) := (blk_cell BK104.out 4).trans rfl
                        have hcz14_5 : wc.cell? ⟨gb104, 5, none⟩ = some (.slice A103_5 ((rd_T35 l0 x4_1).f5).length c103_5) := (blk_cell BK104.out 5).trans rfl
                        have hfz14_0 := blk_frozen BK104.out 0
                        have hfz14_1 := blk_frozen BK104.out 1
                        have hfz14_2 := blk_frozen BK104.out 2
                        have hfz14_3 := blk_frozen BK104.out 3
                        have hfz14_4 := blk_frozen BK104.out 4
                        have hfz14_5 := blk_frozen BK104.out 5
                        have p105 : 0 ≤ (x6_2 : Int) := of_decide_eq_true (by first | (with_reducible assumption) | assumption)
                        have q105 : x6_2 < (((rd_T35 l0 x4_1).f5).length : Int) := of_decide_eq_true (by first | (with_reducible assumption) | assumption)
                        obtain ⟨ad105, A105_4, c105_4, e105, hx105_0, hx105_1, hx105_2, hx105_3, hx105_4, hl105_4, hi105_4⟩ := at_T61 HR103_5.out x6_2 p105 q105
                        cases e105
                        replace hx105_0 := (HB.out.cell (World.block_lt_of_cell? w _ hx105_0)).trans hx105_0
                        replace hx105_1 := (HB.out.cell (World.block_lt_of_cell? w _ hx105_1)).trans hx105_1
                        replace hx105_2 := (HB.out.cell (World.block_lt_of_cell? w _ hx105_2)).trans hx105_2
                        replace hx105_3 := (HB.out.cell (World.block_lt_of_cell? w _ hx105_3)).trans hx105_3
                        replace hx105_4 := (HB.out.cell (World.block_lt_of_cell? w _ hx105_4)).trans hx105_4
                        have HR105_4 := Aside0.mk hi105_4
                        have HC105_4 := Aside0.mk hl105_4
                        clear hi105_4 hl105_4
                        replace p105 := eq_true p105
                        replace q105 := eq_true q105
                        go_upto_region 12 with (first | ((with_reducible refine gate_dst (N := 7) rfl ?_); refine box_event ?hg (N := 7) ?hd (cs := #[.int .i64 0, .int .i64 0, .int .i64 0, .int .i64 0, .slice none 0 0]) (t := 61) ?hr ?_; (case hd => rfl); (case hg => rfl); (case hr => first | (go_simp; done) | (go_simp; rfl)); intro gb106 hg w15 hbox hb; have n0_ := Aside0.mk (blk_below (g := gb104) (o := .cells #[.string ((rd_T35 l0 x4_1).f0), .int .i64 ((rd_T35 l0 x4_1).f1), .int .i64 ((rd_T35 l0 x4_1).f2), .int .i64 ((rd_T35 l0 x4_1).f3), .int .i64 ((rd_T35 l0 x4_1).f4), .slice (some ad105) ((rd_T35 l0 x4_1).f5).length c103_5] 35 (0, 0)) (by (with_reducible repeat (first | refine blk_drewN ?_ _ | refine blk_drew ?_ | refine blk_alloc ?_ _)); exact BK104.out) hb); have n1_ := Aside0.mk (below_step (by repeat (first | (with_reducible first | exact HB.out | apply below_alloc | apply pw_below_drewN | apply below_drew1 | refine below_set ?_ GE104.out) | exact HB.out)) hb); have n2_ := Aside0.mk (hbox); have n3_ := Aside0.mk ((by rw [hg]; exact (below_size (by repeat (first | (with_reducible first | exact HB.out | apply below_alloc | apply pw_below_drewN | apply below_drew1 | refine below_set ?_ GE104.out) | exact HB.out))) : w.heap.size ≤ gb106)); have n4_ := Aside0.mk ((by rw [hg]; exact (below_size (by repeat (first | (with_reducible first | exact HB.out | apply below_alloc | apply pw_below_drewN | apply below_drew1 | refine below_set ?_ GE104.out) | exact HB.out))) : w.heap.size ≤ gb106)); have n5_ := Aside0.mk ((by rw [hg]; exact Nat.ne_of_lt (blk_lt (g := gb104) (o := .cells #[.string ((rd_T35 l0 x4_1).f0), .int .i64 ((rd_T35 l0 x4_1).f1), .int .i64 ((rd_T35 l0 x4_1).f2), .int .i64 ((rd_T35 l0 x4_1).f3), .int .i64 ((rd_T35 l0 x4_1).f4), .slice (some ad105) ((rd_T35 l0 x4_1).f5).length c103_5] 35 (0, 0)) (by (with_reducible repeat (first | refine blk_drewN ?_ _ | refine blk_drew ?_ | refine blk_alloc ?_ _)); exact BK104.out)) : gb104 ≠ gb106)); have n6_ := Aside0.mk ((by rw [hg]; exact Nat.ne_of_gt (blk_lt (g := gb104) (o := .cells #[.string ((rd_T35 l0 x4_1).f0), .int .i64 ((rd_T35 l0 x4_1).f1), .int .i64 ((rd_T35 l0 x4_1).f2), .int .i64 ((rd_T35 l0 x4_1).f3), .int .i64 ((rd_T35 l0 x4_1).f4), .slice (some ad105) ((rd_T35 l0 x4_1).f5).length c103_5] 35 (0, 0)) (by (with_reducible repeat (first | refine blk_drewN ?_ _ | refine blk_drew ?_ | refine blk_alloc ?_ _)); exact BK104.out)) : gb106 ≠ gb104)); clear BK104; clear HB; have BK104 := n0_; have HB := n1_; have BK106 := n2_; have GW106 := n3_; have GE106 := n4_; have NB104_106 := n5_; have NB106_104 := n6_; clear n0_ n1_ n2_ n3_ n4_ n5_ n6_; clear hb hbox hg; have hnb16 := NB106_104.out; have hnc16 := NB104_106.out; have hcz17_0 : w15.cell? ⟨gb106, 0, none⟩ = some (.int .i64 0) := (blk_cell BK106.out 0).trans rfl; have hcz17_1 : w15.cell? ⟨gb106, 1, none⟩ = some (.int .i64 0) := (blk_cell BK106.out 1).trans rfl; have hcz17_2 : w15.cell? ⟨gb106, 2, none⟩ = some (.int .i64 0) := (blk_cell BK106.out 2).trans rfl; have hcz17_3 : w15.cell? ⟨gb106, 3, none⟩ = some (.int .i64 0) := (blk_cell BK106.out 3).trans rfl; have hcz17_4 : w15.cell? ⟨gb106, 4, none⟩ = some (.slice none 0 0) := (blk_cell BK106.out 4).trans rfl; have hfz17_0 := blk_frozen BK106.out 0; have hfz17_1 := blk_frozen BK106.out 1; have hfz17_2 := blk_frozen BK106.out 2; have hfz17_3 := blk_frozen BK106.out 3; have hfz17_4 := blk_frozen BK106.out 4))
                        repeat (go_quiet (first | ((with_reducible refine gate_dst (N := 7) rfl ?_); refine box_event ?hg (N := 7) ?hd (cs := #[.int .i64 0, .int .i64 0, .int .i64 0, .int .i64 0, .slice none 0 0]) (t := 61) ?hr ?_; (case hd => rfl); (case hg => rfl); (case hr => first | (go_simp; done) | (go_simp; rfl)); intro gb106 hg w15 hbox hb; have n0_ := Aside0.mk (blk_below (g := gb104) (o := .cells #[.string ((rd_T35 l0 x4_1).f0), .int .i64 ((rd_T35 l0 x4_1).f1), .int .i64 ((rd_T35 l0 x4_1).f2), .int .i64 ((rd_T35 l0 x4_1).f3), .int .i64 ((rd_T35 l0 x4_1).f4), .slice (some ad105) ((rd_T35 l0 x4_1).f5).length c103_5] 35 (0, 0)) (by (with_reducible repeat (first | refine blk_drewN ?_ _ | refine blk_drew ?_ | refine blk_alloc ?_ _)); exact BK104.out) hb); have n1_ := Aside0.mk (below_step (by repeat (first | (with_reducible first | exact HB.out | apply below_alloc | apply pw_below_drewN | apply below_drew1 | refine below_set ?_ GE104.out) | exact HB.out)) hb); have n2_ := Aside0.mk (hbox); have n3_ := Aside0.mk ((by rw [hg]; exact (below_size (by repeat (first | (with_reducible first | exact HB.out | apply below_alloc | apply pw_below_drewN | apply below_drew1 | refine below_set ?_ GE104.out) | exact HB.out))) : w.heap.size ≤ gb106)); have n4_ := Aside0.mk ((by rw [hg]; exact (below_size (by repeat (first | (with_reducible first | exact HB.out | apply below_alloc | apply pw_below_drewN | apply below_drew1 | refine below_set ?_ GE104.out) | exact HB.out))) : w.heap.size ≤ gb106)); have n5_ := Aside0.mk ((by rw [hg]; exact Nat.ne_of_lt (blk_lt (g := gb104) (o := .cells #[.string ((rd_T35 l0 x4_1).f0), .int .i64 ((rd_T35 l0 x4_1).f1), .int .i64 ((rd_T35 l0 x4_1).f2), .int .i64 ((rd_T35 l0 x4_1).f3), .int .i64 ((rd_T35 l0 x4_1).f4), .slice (some ad105) ((rd_T35 l0 x4_1).f5).length c103_5] 35 (0, 0)) (by (with_reducible repeat (first | refine blk_drewN ?_ _ | refine blk_drew ?_ | refine blk_alloc ?_ _)); exact BK104.out)) : gb104 ≠ gb106)); have n6_ := Aside0.mk ((by rw [hg]; exact Nat.ne_of_gt (blk_lt (g := gb104) (o := .cells #[.string ((rd_T35 l0 x4_1).f0), .int .i64 ((rd_T35 l0 x4_1).f1), .int .i64 ((rd_T35 l0 x4_1).f2), .int .i64 ((rd_T35 l0 x4_1).f3), .int .i64 ((rd_T35 l0 x4_1).f4), .slice (some ad105) ((rd_T35 l0 x4_1).f5).length c103_5] 35 (0, 0)) (by (with_reducible repeat (first | refine blk_drewN ?_ _ | refine blk_drew ?_ | refine blk_alloc ?_ _)); exact BK104.out)) : gb106 ≠ gb104)); clear BK104; clear HB; have BK104 := n0_; have HB := n1_; have BK106 := n2_; have GW106 := n3_; have GE106 := n4_; have NB104_106 := n5_; have NB106_104 := n6_; clear n0_ n1_ n2_ n3_ n4_ n5_ n6_; clear hb hbox hg; have hnb16 := NB106_104.out; have hnc16 := NB104_106.out; have hcz17_0 : w15.cell? ⟨gb106, 0, none⟩ = some (.int .i64 0) := (blk_cell BK106.out 0).trans rfl; have hcz17_1 : w15.cell? ⟨gb106, 1, none⟩ = some (.int .i64 0) := (blk_cell BK106.out 1).trans rfl; have hcz17_2 : w15.cell? ⟨gb106, 2, none⟩ = some (.int .i64 0) := (blk_cell BK106.out 2).trans rfl; have hcz17_3 : w15.cell? ⟨gb106, 3, none⟩ = some (.int .i64 0) := (blk_cell BK106.out 3).trans rfl; have hcz17_4 : w15.cell? ⟨gb106, 4, none⟩ = some (.slice none 0 0) := (blk_cell BK106.out 4).trans rfl; have hfz17_0 := blk_frozen BK106.out 0; have hfz17_1 := blk_frozen BK106.out 1; have hfz17_2 := blk_frozen BK106.out 2; have hfz17_3 := blk_frozen BK106.out 3; have hfz17_4 := blk_frozen BK106.out 4)); go_upto_region 12 with (first | ((with_reducible refine gate_dst (N := 7) rfl ?_); refine box_event ?hg (N := 7) ?hd (cs := #[.int .i64 0, .int .i64 0, .int .i64 0, .int .i64 0, .slice none 0 0]) (t := 61) ?hr ?_; (case hd => rfl); (case hg => rfl); (case hr => first | (go_simp; done) | (go_simp; rfl)); intro gb106 hg w15 hbox hb; have n0_ := Aside0.mk (blk_below (g := gb104) (o := .cells #[.string ((rd_T35 l0 x4_1).f0), .int .i64 ((rd_T35 l0 x4_1).f1), .int .i64 ((rd_T35 l0 x4_1).f2), .int .i64 ((rd_T35 l0 x4_1).f3), .int .i64 ((rd_T35 l0 x4_1).f4), .slice (some ad105) ((rd_T35 l0 x4_1).f5).length c103_5] 35 (0, 0)) (by (with_reducible repeat (first | refine blk_drewN ?_ _ | refine blk_drew ?_ | refine blk_alloc ?_ _)); exact BK104.out) hb); have n1_ := Aside0.mk (below_step (by repeat (first | (with_reducible first | exact HB.out | apply below_alloc | apply pw_below_drewN | apply below_drew1 | refine below_set ?_ GE104.out) | exact HB.out)) hb); have n2_ := Aside0.mk (hbox); have n3_ := Aside0.mk ((by rw [hg]; exact (below_size (by repeat (first | (with_reducible first | exact HB.out | apply below_alloc | apply pw_below_drewN | apply below_drew1 | refine below_set ?_ GE104.out) | exact HB.out))) : w.heap.size ≤ gb106)); have n4_ := Aside0.mk ((by rw [hg]; exact (below_size (by repeat (first | (with_reducible first | exact HB.out | apply below_alloc | apply pw_below_drewN | apply below_drew1 | refine below_set ?_ GE104.out) | exact HB.out))) : w.heap.size ≤ gb106)); have n5_ := Aside0.mk ((by rw [hg]; exact Nat.ne_of_lt (blk_lt (g := gb104) (o := .cells #[.string ((rd_T35 l0 x4_1).f0), .int .i64 ((rd_T35 l0 x4_1).f1), .int .i64 ((rd_T35 l0 x4_1).f2), .int .i64 ((rd_T35 l0 x4_1).f3), .int .i64 ((rd_T35 l0 x4_1).f4), .slice (some ad105) ((rd_T35 l0 x4_1).f5).length c103_5] 35 (0, 0)) (by (with_reducible repeat (first | refine blk_drewN ?_ _ | refine blk_drew ?_ | refine blk_alloc ?_ _)); exact BK104.out)) : gb104 ≠ gb106)); have n6_ := Aside0.mk ((by rw [hg]; exact Nat.ne_of_gt (blk_lt (g := gb104) (o := .cells #[.string ((rd_T35 l0 x4_1).f0), .int .i64 ((rd_T35 l0 x4_1).f1), .int .i64 ((rd_T35 l0 x4_1).f2), .int .i64 ((rd_T35 l0 x4_1).f3), .int .i64 ((rd_T35 l0 x4_1).f4), .slice (some ad105) ((rd_T35 l0 x4_1).f5).length c103_5] 35 (0, 0)) (by (with_reducible repeat (first | refine blk_drewN ?_ _ | refine blk_drew ?_ | refine blk_alloc ?_ _)); exact BK104.out)) : gb106 ≠ gb104)); clear BK104; clear HB; have BK104 := n0_; have HB := n1_; have BK106 := n2_; have GW106 := n3_; have GE106 := n4_; have NB104_106 := n5_; have NB106_104 := n6_; clear n0_ n1_ n2_ n3_ n4_ n5_ n6_; clear hb hbox hg; have hnb16 := NB106_104.out; have hnc16 := NB104_106.out; have hcz17_0 : w15.cell? ⟨gb106, 0, none⟩ = some (.int .i64 0) := (blk_cell BK106.out 0).trans rfl; have hcz17_1 : w15.cell? ⟨gb106, 1, none⟩ = some (.int .i64 0) := (blk_cell BK106.out 1).trans rfl; have hcz17_2 : w15.cell? ⟨gb106, 2, none⟩ = some (.int .i64 0) := (blk_cell BK106.out 2).trans rfl; have hcz17_3 : w15.cell? ⟨gb106, 3, none⟩ = some (.int .i64 0) := (blk_cell BK106.out 3).trans rfl; have hcz17_4 : w15.cell? ⟨gb106, 4, none⟩ = some (.slice none 0 0) := (blk_cell BK106.out 4).trans rfl; have hfz17_0 := blk_frozen BK106.out 0; have hfz17_1 := blk_frozen BK106.out 1; have hfz17_2 := blk_frozen BK106.out 2; have hfz17_3 := blk_frozen BK106.out 3; have hfz17_4 := blk_frozen BK106.out 4)))
                        (try simp only [Act.put, List.setIfInBounds_toArray, List.set_cons_zero, List.set_cons_succ])
                        go_cut [74] (fun v74 wc => ∃ (kq : Nat) (x74_12 : Bool), v74 = .bool x74_12 ∧ Aside0 (bollardlaw24_small.j3 kq l0 (wrap64 (x3_2 + (((rd_T61 ((rd_T35 l0 x4_1).f5) x6_2).f4).length : Int))) x4_1 x6_2 x74_12 ((rd_T35 l0 x4_1).f0) ((rd_T35 l0 x4_1).f1) ((rd_T35 l0 x4_1).f2) ((rd_T35 l0 x4_1).f3) ((rd_T35 l0 x4_1).f4) ((rd_T35 l0 x4_1).f5) ((rd_T61 ((rd_T35 l0 x4_1).f5) x6_2).f0) ((rd_T61 ((rd_T35 l0 x4_1).f5) x6_2).f1) ((rd_T61 ((rd_T35 l0 x4_1).f5) x6_2).f2) ((rd_T61 ((rd_T35 l0 x4_1).f5) x6_2).f3) ((rd_T61 ((rd_T35 l0 x4_1).f5) x6_2).f4) = some r) ∧ Aside0 (kq ≤ kj5) ∧ Aside0 (wc.heap[gb104]? = some (.cells #[.string ((rd_T35 l0 x4_1).f0), .int .i64 ((rd_T35 l0 x4_1).f1), .int .i64 ((rd_T35 l0 x4_1).f2), .int .i64 ((rd_T35 l0 x4_1).f3), .int .i64 ((rd_T35 l0 x4_1).f4), (.slice (some ad105) ((rd_T35 l0 x4_1).f5).length c103_5)] 35 (0, 0))) ∧ Aside0 (wc.heap[gb106]? = some (.cells #[.int .i64 ((rd_T61 ((rd_T35 l0 x4_1).f5) x6_2).f0), .int .i64 ((rd_T61 ((rd_T35 l0 x4_1).f5) x6_2).f1), .int .i64 ((rd_T61 ((rd_T35 l0 x4_1).f5) x6_2).f2), .int .i64 ((rd_T61 ((rd_T35 l0 x4_1).f5) x6_2).f3), (.slice A105_4 ((rd_T61 ((rd_T35 l0 x4_1).f5) x6_2).f4).length c105_4)] 61 (0, 0))) ∧ Aside0 (Below w.heap.size w wc))
                        case first =>
                          have H := HC13.out
                          clear HC13
                          by_cases c18 : ((rd_T61 ((rd_T35 l0 x4_1).f5) x6_2).f0) < 0
                          · rw [if_pos c18] at H
                            have c18b0 : decide (((rd_T61 ((rd_T35 l0 x4_1).f5) x6_2).f0) < 0) = true := decide_eq_true c18
                            clear c18
                            (first | rw [c18b0] | (simp only [i64_w, i32_w]; rw [c18b0]) | skip)
                            have H' := Aside0.mk H
                            clear H
                            have hnb19 := NB106_104.out
                            have hnc19 := NB104_106.out
                            have hcz20_0 : w15.cell? ⟨gb106, 0, none⟩ = some (.int .i64 0) := (blk_cell BK106.out 0).trans rfl
                            have hcz20_1 : w15.cell? ⟨gb106, 1, none⟩ = some (.int .i64 0) := (blk_cell BK106.out 1).trans rfl
                            have hcz20_2 : w15.cell? ⟨gb106, 2, none⟩ = some (.int .i64 0) := (blk_cell BK106.out 2).trans rfl
                            have hcz20_3 : w15.cell? ⟨gb106, 3, none⟩ = some (.int .i64 0) := (blk_cell BK106.out 3).trans rfl
                            have hcz20_4 : w15.cell? ⟨gb106, 4, none⟩ = some (.slice none 0 0) := (blk_cell BK106.out 4).trans rfl
                            have hfz20_0 := blk_frozen BK106.out 0
                            have hfz20_1 := blk_frozen BK106.out 1
                            have hfz20_2 := blk_frozen BK106.out 2
                            have hfz20_3 := blk_frozen BK106.out 3
                            have hfz20_4 := blk_frozen BK106.out 4
                            go_wp2
                            repeat (go_quiet (fail); try go_wp2)
                            go_meet
                            case rel => exact ⟨_, (true), (by first | rfl | (simp; done) | (simp [*]; done) | exact congrArg Value.bool (ne_empty _) | exact congrArg Value.bool (eq_empty _)), H', ⟨by have := HK1.out; have := HK2.out; have := HJ5.out; first | omega | exact Nat.le_refl _⟩, ⟨by (with_reducible repeat (first | refine blk_drewN ?_ _ | refine blk_drew ?_ | refine blk_alloc ?_ _)); refine blk_far ?_ NB104_106.out _; (with_reducible repeat (first | refine blk_drewN ?_ _ | refine blk_drew ?_ | refine blk_alloc ?_ _)); refine blk_far ?_ NB104_106.out _; (with_reducible repeat (first | refine blk_drewN ?_ _ | refine blk_drew ?_ | refine blk_alloc ?_ _)); refine blk_far ?_ NB104_106.out _; (with_reducible repeat (first | refine blk_drewN ?_ _ | refine blk_drew ?_ | refine blk_alloc ?_ _)); refine blk_far ?_ NB104_106.out _; (with_reducible repeat (first | refine blk_drewN ?_ _ | refine blk_drew ?_ | refine blk_alloc ?_ _)); refine blk_far ?_ NB104_106.out _; (with_reducible repeat (first | refine blk_drewN ?_ _ | refine blk_drew ?_ | refine blk_alloc ?_ _)); exact BK104.out⟩, ⟨by (with_reducible repeat (first | refine blk_drewN ?_ _ | refine blk_drew ?_ | refine blk_alloc ?_ _)); refine blk_put (cs := #[.int .i64 ((rd_T61 ((rd_T35 l0 x4_1).f5) x6_2).f0), .int .i64 ((rd_T61 ((rd_T35 l0 x4_1).f5) x6_2).f1), .int .i64 ((rd_T61 ((rd_T35 l0 x4_1).f5) x6_2).f2), .int .i64 ((rd_T61 ((rd_T35 l0 x4_1).f5) x6_2).f3), .slice none 0 0]) ?_ 4 _ (by first | rfl | (simp only [*, List.setIfInBounds_toArray, List.set_cons_zero, List.set_cons_succ]; done) | (simp [*]; done)); (with_reducible repeat (first | refine blk_drewN ?_ _ | refine blk_drew ?_ | refine blk_alloc ?_ _)); refine blk_put (cs := #[.int .i64 ((rd_T61 ((rd_T35 l0 x4_1).f5) x6_2).f0), .int .i64 ((rd_T61 ((rd_T35 l0 x4_1).f5) x6_2).f1), .int .i64 ((rd_T61 ((rd_T35 l0 x4_1).f5) x6_2).f2), .int .i64 0, .slice none 0 0]) ?_ 3 _ (by first | rfl | (simp only [*, List.setIfInBounds_toArray, List.set_cons_zero, List.set_cons_succ]; done) | (simp [*]; done)); (with_reducible repeat (first | refine blk_drewN ?_ _ | refine blk_drew ?_ | refine blk_alloc ?_ _)); refine blk_put (cs := #[.int .i64 ((rd_T61 ((rd_T35 l0 x4_1).f5) x6_2).f0), .int .i64 ((rd_T61 ((rd_T35 l0 x4_1).f5) x6_2).f1), .int .i64 0, .int .i64 0, .slice none 0 0]) ?_ 2 _ (by first | rfl | (simp only [*, List.setIfInBounds_toArray, List.set_cons_zero, List.set_cons_succ]; done) | (simp [*]; done)); (with_reducible repeat (first | refine blk_drewN ?_ _ | refine blk_drew ?_ | refine blk_alloc ?_ _)); refine blk_put (cs := #[.int .i64 ((rd_T61 ((rd_T35 l0 x4_1).f5) x6_2).f0), .int .i64 0, .int .i64 0, .int .i64 0, .slice none 0 0]) ?_ 1 _ (by first | rfl | (simp only [*, List.setIfInBounds_toArray, List.set_cons_zero, List.set_cons_succ]; done) | (simp [*]; done)); (with_reducible repeat (first | refine blk_drewN ?_ _ | refine blk_drew ?_ | refine blk_alloc ?_ _)); refine blk_put (cs := #[.int .i64 0, .int .i64 0, .int .i64 0, .int .i64 0, .slice none 0 0]) ?_ 0 _ (by first | rfl | (simp only [*, List.setIfInBounds_toArray, List.set_cons_zero, List.set_cons_succ]; done) | (simp [*]; done)); (with_reducible repeat (first | refine blk_drewN ?_ _ | refine blk_drew ?_ | refine blk_alloc ?_ _)); exact BK106.out⟩, ⟨by repeat (first | (with_reducible first | exact HB.out | apply below_alloc | apply pw_below_drewN | apply below_drew1 | refine below_set ?_ GE104.out | refine below_set ?_ GE106.out) | exact HB.out)⟩⟩
                          · rw [if_neg c18] at H
                            have c18b0 : decide (((rd_T61 ((rd_T35 l0 x4_1).f5) x6_2).f0) < 0) = false := decide_eq_false c18
                            clear c18
                            (first | rw [c18b0] | (simp only [i64_w, i32_w]; rw [c18b0]) | skip)
                            by_cases c21 : ((rd_T61 ((rd_T35 l0 x4_1).f5) x6_2).f0) > 1125899906842624
                            · rw [if_pos c21] at H
                              have c21b0 : decide (1125899906842624 < ((rd_T61 ((rd_T35 l0 x4_1).f5) x6_2).f0)) = true := decide_eq_true c21
                              clear c21
                              have H' := Aside0.mk H
                              clear H
                              have hnb22 := NB106_104.out
                              have hnc22 := NB104_106.out
                              have hcz23_0 : w15.cell? ⟨gb106, 0, none⟩ = some (.int .i64 0) := (blk_cell BK106.out 0).trans rfl
                              have hcz23_1 : w15.cell? ⟨gb106, 1, none⟩ = some (.int .i64 0) := (blk_cell BK106.out 1).trans rfl
                              have hcz23_2 : w15.cell? ⟨gb106, 2, none⟩ = some (.int .i64 0) := (blk_cell BK106.out 2).trans rfl
                              have hcz23_3 : w15.cell? ⟨gb106, 3, none⟩ = some (.int .i64 0) := (blk_cell BK106.out 3).trans rfl
                              have hcz23_4 : w15.cell? ⟨gb106, 4, none⟩ = some (.slice none 0 0) := (blk_cell BK106.out 4).trans rfl
                              have hfz23_0 := blk_frozen BK106.out 0
                              have hfz23_1 := blk_frozen BK106.out 1
                              have hfz23_2 := blk_frozen BK106.out 2
                              have hfz23_3 := blk_frozen BK106.out 3
                              have hfz23_4 := blk_frozen BK106.out 4
                              go_wp2
                              repeat (go_quiet (fail); try go_wp2)
                              go_meet
                              case rel => exact ⟨_, (true), (by first | rfl | (simp; done) | (simp [*]; done) | exact congrArg Value.bool (ne_empty _) | exact congrArg Value.bool (eq_empty _)), H', ⟨by have := HK1.out; have := HK2.out; have := HJ5.out; first | omega | exact Nat.le_refl _⟩, ⟨by (with_reducible repeat (first | refine blk_drewN ?_ _ | refine blk_drew ?_ | refine blk_alloc ?_ _)); refine blk_far ?_ NB104_106.out _; (with_reducible repeat (first | refine blk_drewN ?_ _ | refine blk_drew ?_ | refine blk_alloc ?_ _)); refine blk_far ?_ NB104_106.out _; (with_reducible repeat (first | refine blk_drewN ?_ _ | refine blk_drew ?_ | refine blk_alloc ?_ _)); refine blk_far ?_ NB104_106.out _; (with_reducible repeat (first | refine blk_drewN ?_ _ | refine blk_drew ?_ | refine blk_alloc ?_ _)); refine blk_far ?_ NB104_106.out _; (with_reducible repeat (first | refine blk_drewN ?_ _ | refine blk_drew ?_ | refine blk_alloc ?_ _)); refine blk_far ?_ NB104_106.out _; (with_reducible repeat (first | refine blk_drewN ?_ _ | refine blk_drew ?_ | refine blk_alloc ?_ _)); exact BK104.out⟩, ⟨by (with_reducible repeat (first | refine blk_drewN ?_ _ | refine blk_drew ?_ | refine blk_alloc ?_ _)); refine blk_put (cs := #[.int .i64 ((rd_T61 ((rd_T35 l0 x4_1).f5) x6_2).f0), .int .i64 ((rd_T61 ((rd_T35 l0 x4_1).f5) x6_2).f1), .int .i64 ((rd_T61 ((rd_T35 l0 x4_1).f5) x6_2).f2), .int .i64 ((rd_T61 ((rd_T35 l0 x4_1).f5) x6_2).f3), .slice none 0 0]) ?_ 4 _ (by first | rfl | (simp only [*, List.setIfInBounds_toArray, List.set_cons_zero, List.set_cons_succ]; done) | (simp [*]; done)); (with_reducible repeat (first | refine blk_drewN ?_ _ | refine blk_drew ?_ | refine blk_alloc ?_ _)); refine blk_put (cs := #[.int .i64 ((rd_T61 ((rd_T35 l0 x4_1).f5) x6_2).f0), .int .i64 ((rd_T61 ((rd_T35 l0 x4_1).f5) x6_2).f1), .int .i64 ((rd_T61 ((rd_T35 l0 x4_1).f5) x6_2).f2), .int .i64 0, .slice none 0 0]) ?_ 3 _ (by first | rfl | (simp only [*, List.setIfInBounds_toArray, List.set_cons_zero, List.set_cons_succ]; done) | (simp [*]; done)); (with_reducible repeat (first | refine blk_drewN ?_ _ | refine blk_drew ?_ | refine blk_alloc ?_ _)); refine blk_put (cs := #[.int .i64 ((rd_T61 ((rd_T35 l0 x4_1).f5) x6_2).f0), .int .i64 ((rd_T61 ((rd_T35 l0 x4_1).f5) x6_2).f1), .int .i64 0, .int .i64 0, .slice none 0 0]) ?_ 2 _ (by first | rfl | (simp only [*, List.setIfInBounds_toArray, List.set_cons_zero, List.set_cons_succ]; done) | (simp [*]; done)); (with_reducible repeat (first | refine blk_drewN ?_ _ | refine blk_drew ?_ | refine blk_alloc ?_ _)); refine blk_put (cs := #[.int .i64 ((rd_T61 ((rd_T35 l0 x4_1).f5) x6_2).f0), .int .i64 0, .int .i64 0, .int .i64 0, .slice none 0 0]) ?_ 1 _ (by first | rfl | (simp only [*, List.setIfInBounds_toArray, List.set_cons_zero, List.set_cons_succ]; done) | (simp [*]; done)); (with_reducible repeat (first | refine blk_drewN ?_ _ | refine blk_drew ?_ | refine blk_alloc ?_ _)); refine blk_put (cs := #[.int .i64 0, .int .i64 0, .int .i64 0, .int .i64 0, .slice none 0 0]) ?_ 0 _ (by first | rfl | (simp only [*, List.setIfInBounds_toArray, List.set_cons_zero, List.set_cons_succ]; done) | (simp [*]; done)); (with_reducible repeat (first | refine blk_drewN ?_ _ | refine blk_drew ?_ | refine blk_alloc ?_ _)); exact BK106.out⟩, ⟨by repeat (first | (with_reducible first | exact HB.out | apply below_alloc | apply pw_below_drewN | apply below_drew1 | refine below_set ?_ GE104.out | refine below_set ?_ GE106.out) | exact HB.out)⟩⟩
                            · rw [if_neg c21] at H
                              have c21b0 : decide (1125899906842624 < ((rd_T61 ((rd_T35 l0 x4_1).f5) x6_2).f0)) = false := decide_eq_false c21
                              clear c21
                              by_cases c24 : ((rd_T61 ((rd_T35 l0 x4_1).f5) x6_2).f1) < 1
                              · rw [if_pos c24] at H
                                have c24b0 : decide (((rd_T61 ((rd_T35 l0 x4_1).f5) x6_2).f1) < 1) = true := decide_eq_true c24
                                clear c24
                                have H' := Aside0.mk H
                                clear H
                                have hnb25 := NB106_104.out
                                have hnc25 := NB104_106.out
                                have hcz26_0 : w15.cell? ⟨gb106, 0, none⟩ = some (.int .i64 0) := (blk_cell BK106.out 0).trans rfl
                                have hcz26_1 : w15.cell? ⟨gb106, 1, none⟩ = some (.int .i64 0) := (blk_cell BK106.out 1).trans rfl
                                have hcz26_2 : w15.cell? ⟨gb106, 2, none⟩ = some (.int .i64 0) := (blk_cell BK106.out 2).trans rfl
                                have hcz26_3 : w15.cell? ⟨gb106, 3, none⟩ = some (.int .i64 0) := (blk_cell BK106.out 3).trans rfl
                                have hcz26_4 : w15.cell? ⟨gb106, 4, none⟩ = some (.slice none 0 0) := (blk_cell BK106.out 4).trans rfl
                                have hfz26_0 := blk_frozen BK106.out 0
                                have hfz26_1 := blk_frozen BK106.out 1
                                have hfz26_2 := blk_frozen BK106.out 2
                                have hfz26_3 := blk_frozen BK106.out 3
                                have hfz26_4 := blk_frozen BK106.out 4
                                go_wp2
                                repeat (go_quiet (fail); try go_wp2)
                                go_meet
                                case rel => exact ⟨_, (true), (by first | rfl | (simp; done) | (simp [*]; done) | exact congrArg Value.bool (ne_empty _) | exact congrArg Value.bool (eq_empty _)), H', ⟨by have := HK1.out; have := HK2.out; have := HJ5.out; first | omega | exact Nat.le_refl _⟩, ⟨by (with_reducible repeat (first | refine blk_drewN ?_ _ | refine blk_drew ?_ | refine blk_alloc ?_ _)); refine blk_far ?_ NB104_106.out _; (with_reducible repeat (first | refine blk_drewN ?_ _ | refine blk_drew ?_ | refine blk_alloc ?_ _)); refine blk_far ?_ NB104_106.out _; (with_reducible repeat (first | refine blk_drewN ?_ _ | refine blk_drew ?_ | refine blk_alloc ?_ _)); refine blk_far ?_ NB104_106.out _; (with_reducible repeat (first | refine blk_drewN ?_ _ | refine blk_drew ?_ | refine blk_alloc ?_ _)); refine blk_far ?_ NB104_106.out _; (with_reducible repeat (first | refine blk_drewN ?_ _ | refine blk_drew ?_ | refine blk_alloc ?_ _)); refine blk_far ?_ NB104_106.out _; (with_reducible repeat (first | refine blk_drewN ?_ _ | refine blk_drew ?_ | refine blk_alloc ?_ _)); exact BK104.out⟩, ⟨by (with_reducible repeat (first | refine blk_drewN ?_ _ | refine blk_drew ?_ | refine blk_alloc ?_ _)); refine blk_put (cs := #[.int .i64 ((rd_T61 ((rd_T35 l0 x4_1).f5) x6_2).f0), .int .i64 ((rd_T61 ((rd_T35 l0 x4_1).f5) x6_2).f1), .int .i64 ((rd_T61 ((rd_T35 l0 x4_1).f5) x6_2).f2), .int .i64 ((rd_T61 ((rd_T35 l0 x4_1).f5) x6_2).f3), .slice none 0 0]) ?_ 4 _ (by first | rfl | (simp only [*, List.setIfInBounds_toArray, List.set_cons_zero, List.set_cons_succ]; done) | (simp [*]; done)); (with_reducible repeat (first | refine blk_drewN ?_ _ | refine blk_drew ?_ | refine blk_alloc ?_ _)); refine blk_put (cs := #[.int .i64 ((rd_T61 ((rd_T35 l0 x4_1).f5) x6_2).f0), .int .i64 ((rd_T61 ((rd_T35 l0 x4_1).f5) x6_2).f1), .int .i64 ((rd_T61 ((rd_T35 l0 x4_1).f5) x6_2).f2), .int .i64 0, .slice none 0 0]) ?_ 3 _ (by first | rfl | (simp only [*, List.setIfInBounds_toArray, List.set_cons_zero, List.set_cons_succ]; done) | (simp [*]; done)); (with_reducible repeat (first | refine blk_drewN ?_ _ | refine blk_drew ?_ | refine blk_alloc ?_ _)); refine blk_put (cs := #[.int .i64 ((rd_T61 ((rd_T35 l0 x4_1).f5) x6_2).f0), .int .i64 ((rd_T61 ((rd_T35 l0 x4_1).f5) x6_2).f1), .int .i64 0, .int .i64 0, .slice none 0 0]) ?_ 2 _ (by first | rfl | (simp only [*, List.setIfInBounds_toArray, List.set_cons_zero, List.set_cons_succ]; done) | (simp [*]; done)); (with_reducible repeat (first | refine blk_drewN ?_ _ | refine blk_drew ?_ | refine blk_alloc ?_ _)); refine blk_put (cs := #[.int .i64 ((rd_T61 ((rd_T35 l0 x4_1).f5) x6_2).f0), .int .i64 0, .int .i64 0, .int .i64 0, .slice none 0 0]) ?_ 1 _ (by first | rfl | (simp only [*, List.setIfInBounds_toArray, List.set_cons_zero, List.set_cons_succ]; done) | (simp [*]; done)); (with_reducible repeat (first | refine blk_drewN ?_ _ | refine blk_drew ?_ | refine blk_alloc ?_ _)); refine blk_put (cs := #[.int .i64 0, .int .i64 0, .int .i64 0, .int .i64 0, .slice none 0 0]) ?_ 0 _ (by first | rfl | (simp only [*, List.setIfInBounds_toArray, List.set_cons_zero, List.set_cons_succ]; done) | (simp [*]; done)); (with_reducible repeat (first | refine blk_drewN ?_ _ | refine blk_drew ?_ | refine blk_alloc ?_ _)); exact BK106.out⟩, ⟨by repeat (first | (with_reducible first | exact HB.out | apply below_alloc | apply pw_below_drewN | apply below_drew1 | refine below_set ?_ GE104.out | refine below_set ?_ GE106.out) | exact HB.out)⟩⟩
                              · rw [if_neg c24] at H
                                have c24b0 : decide (((rd_T61 ((rd_T35 l0 x4_1).f5) x6_2).f1) < 1) = false := decide_eq_false c24
                                clear c24
                                by_cases c27 : ((rd_T61 ((rd_T35 l0 x4_1).f5) x6_2).f1) > 100
                                · rw [if_pos c27] at H
                                  have c27b0 : decide (100 < ((rd_T61 ((rd_T35 l0 x4_1).f5) x6_2).f1)) = true := decide_eq_true c27
                                  clear c27
                                  have H' := Aside0.mk H
                                  clear H
                                  have hnb28 := NB106_104.out
                                  have hnc28 := NB104_106.out
                                  have hcz29_0 : w15.cell? ⟨gb106, 0, none⟩ = some (.int .i64 0) := (blk_cell BK106.out 0).trans rfl
                                  have hcz29_1 : w15.cell? ⟨gb106, 1, none⟩ = some (.int .i64 0) := (blk_cell BK106.out 1).trans rfl
                                  have hcz29_2 : w15.cell? ⟨gb106, 2, none⟩ = some (.int .i64 0) := (blk_cell BK106.out 2).trans rfl
                                  have hcz29_3 : w15.cell? ⟨gb106, 3, none⟩ = some (.int .i64 0) := (blk_cell BK106.out 3).trans rfl
                                  have hcz29_4 : w15.cell? ⟨gb106, 4, none⟩ = some (.slice none 0 0) := (blk_cell BK106.out 4).trans rfl
                                  have hfz29_0 := blk_frozen BK106.out 0
                                  have hfz29_1 := blk_frozen BK106.out 1
                                  have hfz29_2 := blk_frozen BK106.out 2
                                  have hfz29_3 := blk_frozen BK106.out 3
                                  have hfz29_4 := blk_frozen BK106.out 4
                                  go_wp2
                                  repeat (go_quiet (fail); try go_wp2)
                                  go_meet
                                  case rel => exact ⟨_, (true), (by first | rfl | (simp; done) | (simp [*]; done) | exact congrArg Value.bool (ne_empty _) | exact congrArg Value.bool (eq_empty _)), H', ⟨by have := HK1.out; have := HK2.out; have := HJ5.out; first | omega | exact Nat.le_refl _⟩, ⟨by (with_reducible repeat (first | refine blk_drewN ?_ _ | refine blk_drew ?_ | refine blk_alloc ?_ _)); refine blk_far ?_ NB104_106.out _; (with_reducible repeat (first | refine blk_drewN ?_ _ | refine blk_drew ?_ | refine blk_alloc ?_ _)); refine blk_far ?_ NB104_106.out _; (with_reducible repeat (first | refine blk_drewN ?_ _ | refine blk_drew ?_ | refine blk_alloc ?_ _)); refine blk_far ?_ NB104_106.out _; (with_reducible repeat (first | refine blk_drewN ?_ _ | refine blk_drew ?_ | refine blk_alloc ?_ _)); refine blk_far ?_ NB104_106.out _; (with_reducible repeat (first | refine blk_drewN ?_ _ | refine blk_drew ?_ | refine blk_alloc ?_ _)); refine blk_far ?_ NB104_106.out _; (with_reducible repeat (first | refine blk_drewN ?_ _ | refine blk_drew ?_ | refine blk_alloc ?_ _)); exact BK104.out⟩, ⟨by (with_reducible repeat (first | refine blk_drewN ?_ _ | refine blk_drew ?_ | refine blk_alloc ?_ _)); refine blk_put (cs := #[.int .i64 ((rd_T61 ((rd_T35 l0 x4_1).f5) x6_2).f0), .int .i64 ((rd_T61 ((rd_T35 l0 x4_1).f5) x6_2).f1), .int .i64 ((rd_T61 ((rd_T35 l0 x4_1).f5) x6_2).f2), .int .i64 ((rd_T61 ((rd_T35 l0 x4_1).f5) x6_2).f3), .slice none 0 0]) ?_ 4 _ (by first | rfl | (simp only [*, List.setIfInBounds_toArray, List.set_cons_zero, List.set_cons_succ]; done) | (simp [*]; done)); (with_reducible repeat (first | refine blk_drewN ?_ _ | refine blk_drew ?_ | refine blk_alloc ?_ _)); refine blk_put (cs := #[.int .i64 ((rd_T61 ((rd_T35 l0 x4_1).f5) x6_2).f0), .int .i64 ((rd_T61 ((rd_T35 l0 x4_1).f5) x6_2).f1), .int .i64 ((rd_T61 ((rd_T35 l0 x4_1).f5) x6_2).f2), .int .i64 0, .slice none 0 0]) ?_ 3 _ (by first | rfl | (simp only [*, List.setIfInBounds_toArray, List.set_cons_zero, List.set_cons_succ]; done) | (simp [*]; done)); (with_reducible repeat (first | refine blk_drewN ?_ _ | refine blk_drew ?_ | refine blk_alloc ?_ _)); refine blk_put (cs := #[.int .i64 ((rd_T61 ((rd_T35 l0 x4_1).f5) x6_2).f0), .int .i64 ((rd_T61 ((rd_T35 l0 x4_1).f5) x6_2).f1), .int .i64 0, .int .i64 0, .slice none 0 0]) ?_ 2 _ (by first | rfl | (simp only [*, List.setIfInBounds_toArray, List.set_cons_zero, List.set_cons_succ]; done) | (simp [*]; done)); (with_reducible repeat (first | refine blk_drewN ?_ _ | refine blk_drew ?_ | refine blk_alloc ?_ _)); refine blk_put (cs := #[.int .i64 ((rd_T61 ((rd_T35 l0 x4_1).f5) x6_2).f0), .int .i64 0, .int .i64 0, .int .i64 0, .slice none 0 0]) ?_ 1 _ (by first | rfl | (simp only [*, List.setIfInBounds_toArray, List.set_cons_zero, List.set_cons_succ]; done) | (simp [*]; done)); (with_reducible repeat (first | refine blk_drewN ?_ _ | refine blk_drew ?_ | refine blk_alloc ?_ _)); refine blk_put (cs := #[.int .i64 0, .int .i64 0, .int .i64 0, .int .i64 0, .slice none 0 0]) ?_ 0 _ (by first | rfl | (simp only [*, List.setIfInBounds_toArray, List.set_cons_zero, List.set_cons_succ]; done) | (simp [*]; done)); (with_reducible repeat (first | refine blk_drewN ?_ _ | refine blk_drew ?_ | refine blk_alloc ?_ _)); exact BK106.out⟩, ⟨by repeat (first | (with_reducible first | exact HB.out | apply below_alloc | apply pw_below_drewN | apply below_drew1 | refine below_set ?_ GE104.out | refine below_set ?_ GE106.out) | exact HB.out)⟩⟩
                                · rw [if_neg c27] at H
                                  have c27b0 : decide (100 < ((rd_T61 ((rd_T35 l0 x4_1).f5) x6_2).f1)) = false := decide_eq_false c27
                                  clear c27
                                  replace H := Option.bind_eq_some_iff.mp H
                                  obtain ⟨t107, A300, H⟩ := H
                                  replace H : (bollardlaw24_small.j3 kj5 l0 (wrap64 (x3_2 + (((rd_T61 ((rd_T35 l0 x4_1).f5) x6_2).f4).length : Int))) x4_1 x6_2 (!t107) ((rd_T35 l0 x4_1).f0) ((rd_T35 l0 x4_1).f1) ((rd_T35 l0 x4_1).f2) ((rd_T35 l0 x4_1).f3) ((rd_T35 l0 x4_1).f4) ((rd_T35 l0 x4_1).f5) ((rd_T61 ((rd_T35 l0 x4_1).f5) x6_2).f0) ((rd_T61 ((rd_T35 l0 x4_1).f5) x6_2).f1) ((rd_T61 ((rd_T35 l0 x4_1).f5) x6_2).f2) ((rd_T61 ((rd_T35 l0 x4_1).f5) x6_2).f3) ((rd_T61 ((rd_T35 l0 x4_1).f5) x6_2).f4)) = some r := H
                                  have A30 := Aside0.mk A300
                                  clear A300
                                  have H' := Aside0.mk H
                                  clear H
                                  have hnb31 := NB106_104.out
                                  have hnc31 := NB104_106.out
                                  have hcz32_0 : w15.cell? ⟨gb106, 0, none⟩ = some (.int .i64 0) := (blk_cell BK106.out 0).trans rfl
                                  have hcz32_1 : w15.cell? ⟨gb106, 1, none⟩ = some (.int .i64 0) := (blk_cell BK106.out 1).trans rfl
                                  have hcz32_2 : w15.cell? ⟨gb106, 2, none⟩ = some (.int .i64 0) := (blk_cell BK106.out 2).trans rfl
                                  have hcz32_3 : w15.cell? ⟨gb106, 3, none⟩ = some (.int .i64 0) := (blk_cell BK106.out 3).trans rfl
                                  have hcz32_4 : w15.cell? ⟨gb106, 4, none⟩ = some (.slice none 0 0) := (blk_cell BK106.out 4).trans rfl
                                  have hfz32_0 := blk_frozen BK106.out 0
                                  have hfz32_1 := blk_frozen BK106.out 1
                                  have hfz32_2 := blk_frozen BK106.out 2
                                  have hfz32_3 := blk_frozen BK106.out 3
                                  have hfz32_4 := blk_frozen BK106.out 4
                                  go_wp2_with (first | (go_at_call 24; (with_reducible refine (bollardalike_Small.calls kj5 _ _ ((rd_T61 ((rd_T35 l0 x4_1).f5) x6_2).f4) t107 _ ?side1 ?side2 A30.out).mono ?_); (case side1 => exact Kd.C_below HR105_4.out (by repeat (first | (with_reducible first | exact HB.out | apply below_alloc | apply pw_below_drewN | apply below_drew1 | refine below_set ?_ GE104.out | refine below_set ?_ GE106.out) | exact HB.out))); (case side2 => exact HC105_4.out); rintro e w' ⟨rfl, ⟨nd, rfl⟩⟩; (try first | exact ⟨rfl, _, World.drewN_drewN _ _ _⟩ | exact ⟨rfl, _, Eq.trans (World.drewN_drewN _ _ _) (congrArg (World.drewN _) (Nat.add_assoc _ _ _))⟩)))
                                  repeat (go_quiet (first | (go_at_call 24; (with_reducible refine (bollardalike_Small.calls kj5 _ _ ((rd_T61 ((rd_T35 l0 x4_1).f5) x6_2).f4) t107 _ ?side1 ?side2 A30.out).mono ?_); (case side1 => exact Kd.C_below HR105_4.out (by repeat (first | (with_reducible first | exact HB.out | apply below_alloc | apply pw_below_drewN | apply below_drew1 | refine below_set ?_ GE104.out | refine below_set ?_ GE106.out) | exact HB.out))); (case side2 => exact HC105_4.out); rintro e w' ⟨rfl, ⟨nd, rfl⟩⟩; (try first | exact ⟨rfl, _, World.drewN_drewN _ _ _⟩ | exact ⟨rfl, _, Eq.trans (World.drewN_drewN _ _ _) (congrArg (World.drewN _) (Nat.add_assoc _ _ _))⟩))); try go_wp2_with (first | (go_at_call 24; (with_reducible refine (bollardalike_Small.calls kj5 _ _ ((rd_T61 ((rd_T35 l0 x4_1).f5) x6_2).f4) t107 _ ?side1 ?side2 A30.out).mono ?_); (case side1 => exact Kd.C_below HR105_4.out (by repeat (first | (with_reducible first | exact HB.out | apply below_alloc | apply pw_below_drewN | apply below_drew1 | refine below_set ?_ GE104.out | refine below_set ?_ GE106.out) | exact HB.out))); (case side2 => exact HC105_4.out); rintro e w' ⟨rfl, ⟨nd, rfl⟩⟩; (try first | exact ⟨rfl, _, World.drewN_drewN _ _ _⟩ | exact ⟨rfl, _, Eq.trans (World.drewN_drewN _ _ _) (congrArg (World.drewN _) (Nat.add_assoc _ _ _))⟩))))
                                  go_meet
                                  case rel => exact ⟨_, (!t107), (by first | rfl | (simp; done) | (simp [*]; done) | exact congrArg Value.bool (ne_empty _) | exact congrArg Value.bool (eq_empty _)), H', ⟨by have := HK1.out; have := HK2.out; have := HJ5.out; first | omega | exact Nat.le_refl _⟩, ⟨by (with_reducible repeat (first | refine blk_drewN ?_ _ | refine blk_drew ?_ | refine blk_alloc ?_ _)); refine blk_far ?_ NB104_106.out _; (with_reducible repeat (first | refine blk_drewN ?_ _ | refine blk_drew ?_ | refine blk_alloc ?_ _)); refine blk_far ?_ NB104_106.out _; (with_reducible repeat (first | refine blk_drewN ?_ _ | refine blk_drew ?_ | refine blk_alloc ?_ _)); refine blk_far ?_ NB104_106.out _; (with_reducible repeat (first | refine blk_drewN ?_ _ | refine blk_drew ?_ | refine blk_alloc ?_ _)); refine blk_far ?_ NB104_106.out _; (with_reducible repeat (first | refine blk_drewN ?_ _ | refine blk_drew ?_ | refine blk_alloc ?_ _)); refine blk_far ?_ NB104_106.out _; (with_reducible repeat (first | refine blk_drewN ?_ _ | refine blk_drew ?_ | refine blk_alloc ?_ _)); exact BK104.out⟩, ⟨by (with_reducible repeat (first | refine blk_drewN ?_ _ | refine blk_drew ?_ | refine blk_alloc ?_ _)); refine blk_put (cs := #[.int .i64 ((rd_T61 ((rd_T35 l0 x4_1).f5) x6_2).f0), .int .i64 ((rd_T61 ((rd_T35 l0 x4_1).f5) x6_2).f1), .int .i64 ((rd_T61 ((rd_T35 l0 x4_1).f5) x6_2).f2), .int .i64 ((rd_T61 ((rd_T35 l0 x4_1).f5) x6_2).f3), .slice none 0 0]) ?_ 4 _ (by first | rfl | (simp only [*, List.setIfInBounds_toArray, List.set_cons_zero, List.set_cons_succ]; done) | (simp [*]; done)); (with_reducible repeat (first | refine blk_drewN ?_ _ | refine blk_drew ?_ | refine blk_alloc ?_ _)); refine blk_put (cs := #[.int .i64 ((rd_T61 ((rd_T35 l0 x4_1).f5) x6_2).f0), .int .i64 ((rd_T61 ((rd_T35 l0 x4_1).f5) x6_2).f1), .int .i64 ((rd_T61 ((rd_T35 l0 x4_1).f5) x6_2).f2), .int .i64 0, .slice none 0 0]) ?_ 3 _ (by first | rfl | (simp only [*, List.setIfInBounds_toArray, List.set_cons_zero, List.set_cons_succ]; done) | (simp [*]; done)); (with_reducible repeat (first | refine blk_drewN ?_ _ | refine blk_drew ?_ | refine blk_alloc ?_ _)); refine blk_put (cs := #[.int .i64 ((rd_T61 ((rd_T35 l0 x4_1).f5) x6_2).f0), .int .i64 ((rd_T61 ((rd_T35 l0 x4_1).f5) x6_2).f1), .int .i64 0, .int .i64 0, .slice none 0 0]) ?_ 2 _ (by first | rfl | (simp only [*, List.setIfInBounds_toArray, List.set_cons_zero, List.set_cons_succ]; done) | (simp [*]; done)); (with_reducible repeat (first | refine blk_drewN ?_ _ | refine blk_drew ?_ | refine blk_alloc ?_ _)); refine blk_put (cs := #[.int .i64 ((rd_T61 ((rd_T35 l0 x4_1).f5) x6_2).f0), .int .i64 0, .int .i64 0, .int .i64 0, .slice none 0 0]) ?_ 1 _ (by first | rfl | (simp only [*, List.setIfInBounds_toArray, List.set_cons_zero, List.set_cons_succ]; done) | (simp [*]; done)); (with_reducible repeat (first | refine blk_drewN ?_ _ | refine blk_drew ?_ | refine blk_alloc ?_ _)); refine blk_put (cs := #[.int .i64 0, .int .i64 0, .int .i64 0, .int .i64 0, .slice none 0 0]) ?_ 0 _ (by first | rfl | (simp only [*, List.setIfInBounds_toArray, List.set_cons_zero, List.set_cons_succ]; done) | (simp [*]; done)); (with_reducible repeat (first | refine blk_drewN ?_ _ | refine blk_drew ?_ | refine blk_alloc ?_ _)); exact BK106.out⟩, ⟨by repeat (first | (with_reducible first | exact HB.out | apply below_alloc | apply pw_below_drewN | apply below_drew1 | refine below_set ?_ GE104.out | refine below_set ?_ GE106.out) | exact HB.out)⟩⟩
                        case rest =>
                          clear HC13
                          try clear c1
                          try clear p1
                          try clear q1
                          try clear hx1
                          try clear c2
                          try clear c2b0
                          try clear p2
                          try clear c3
                          try clear c3b0
                          try clear p6
                          try clear c7
                          try clear c7b0
                          try clear c8
                          try clear c10
                          try clear p10
                          try clear q10
                          try clear hx10
                          try clear c11
                          try clear c11b0
                          try clear c12
                          try clear c12b0
                          try clear c16
                          try clear c18
                          try clear c18b0
                          try clear c19
                          try clear c21
                          try clear c21b0
                          try clear c22
                          try clear c24
                          try clear c24b0
                          try clear c25
                          try clear c27
                          try clear c27b0
                          try clear c28
                          try clear c31
                          try clear hcz14_0
                          try clear hcz14_1
                          try clear hcz14_2
                          try clear hcz14_3
                          try clear hcz14_4
                          try clear hcz14_5
                          try clear hcz17_0
                          try clear hcz17_1
                          try clear hcz17_2
                          try clear hcz17_3
                          try clear hcz17_4
                          try clear hcz20_0
                          try clear hcz20_1
                          try clear hcz20_2
                          try clear hcz20_3
                          try clear hcz20_4
                          try clear hcz23_0
                          try clear hcz23_1
                          try clear hcz23_2
                          try clear hcz23_3
                          try clear hcz23_4
                          try clear hcz26_0
                          try clear hcz26_1
                          try clear hcz26_2
                          try clear hcz26_3
                          try clear hcz26_4
                          try clear hcz29_0
                          try clear hcz29_1
                          try clear hcz29_2
                          try clear hcz29_3
                          try clear hcz29_4
                          try clear hcz32_0
                          try clear hcz32_1
                          try clear hcz32_2
                          try clear hcz32_3
                          try clear hcz32_4
                          try clear hcz5_0
                          try clear hcz5_1
                          try clear hcz5_2
                          try clear hcz5_3
                          try clear hcz5_4
                          try clear hcz5_5
                          try clear hcz8_0
                          try clear hcz8_1
                          try clear hcz8_2
                          try clear hcz8_3
                          try clear hcz8_4
                          try clear hcz8_5
                          try clear hcz9_0
                          try clear hcz9_1
                          try clear hcz9_2
                          try clear hcz9_3
                          try clear hcz9_4
                          try clear hcz9_5
                          try clear hfz14_0
                          try clear hfz14_1
                          try clear hfz14_2
                          try clear hfz14_3
                          try clear hfz14_4
                          try clear hfz14_5
                          try clear hfz17_0
                          try clear hfz17_1
                          try clear hfz17_2
                          try clear hfz17_3
                          try clear hfz17_4
                          try clear hfz20_0
                          try clear hfz20_1
                          try clear hfz20_2
                          try clear hfz20_3
                          try clear hfz20_4
                          try clear hfz23_0
                          try clear hfz23_1
                          try clear hfz23_2
                          try clear hfz23_3
                          try clear hfz23_4
                          try clear hfz26_0
                          try clear hfz26_1
                          try clear hfz26_2
                          try clear hfz26_3
                          try clear hfz26_4
                          try clear hfz29_0
                          try clear hfz29_1
                          try clear hfz29_2
                          try clear hfz29_3
                          try clear hfz29_4
                          try clear hfz32_0
                          try clear hfz32_1
                          try clear hfz32_2
                          try clear hfz32_3
                          try clear hfz32_4
                          try clear hfz5_0
                          try clear hfz5_1
                          try clear hfz5_2
                          try clear hfz5_3
                          try clear hfz5_4
                          try clear hfz5_5
                          try clear hfz8_0
                          try clear hfz8_1
                          try clear hfz8_2
                          try clear hfz8_3
                          try clear hfz8_4
                          try clear hfz8_5
                          try clear hfz9_0
                          try clear hfz9_1
                          try clear hfz9_2
                          try clear hfz9_3
                          try clear hfz9_4
                          try clear hfz9_5
                          try clear hx103_0
                          try clear hx103_1
                          try clear hx103_2
                          try clear hx103_3
                          try clear hx103_4
                          try clear hx103_5
                          try clear hx105_0
                          try clear hx105_1
                          try clear hx105_2
                          try clear hx105_3
                          try clear hx105_4
                          try clear p1
                          try clear p103
                          try clear p105
                          try clear p2
                          try clear p6
                          try clear q1
                          try clear q103
                          try clear q105
                          obtain ⟨kq, x74_12, rfl, HA, HJ12, BK104, BK106, HB⟩ := hcut
                          cases kq with
                          | zero => exact absurd HA.out (by first | (intro h_; exact nomatch (show (none : Option _) = some r from h_)) | simp [bollardlaw24_small.j3])
                          | succ kj12 =>
                            have H := HA.out
                            clear HA
                            simp only [bollardlaw24_small.j3] at H
                            by_cases c33 : x74_12 = true
                            · subst c33
                              have H1 : (some false) = some r := by rw [if_pos rfl] at H; exact H
                              clear H
                              have H := H1
                              clear H1
                              obtain rfl := Option.some.inj H
                              go_wp2
                              repeat (go_quiet (fail); try go_wp2)
                              go_ret
                              exact ⟨by first | rfl | (simp [errW_none, errW_some] <;> rfl) | (simp [*, errW_none, errW_some] <;> rfl), by repeat (first | (with_reducible first | exact HB.out | apply below_alloc | apply pw_below_drewN | apply below_drew1 | refine below_set ?_ GE104.out | refine below_set ?_ GE106.out) | exact HB.out)⟩
                            · replace c33 := Bool.eq_false_iff.mpr c33
                              subst c33
                              have H1 : (bollardlaw24_small.l2 kj12 l0 (wrap64 (x3_2 + (((rd_T61 ((rd_T35 l0 x4_1).f5) x6_2).f4).length : Int))) x4_1 x6_2 0 ((rd_T35 l0 x4_1).f0) ((rd_T35 l0 x4_1).f1) ((rd_T35 l0 x4_1).f2) ((rd_T35 l0 x4_1).f3) ((rd_T35 l0 x4_1).f4) ((rd_T35 l0 x4_1).f5) ((rd_T61 ((rd_T35 l0 x4_1).f5) x6_2).f0) ((rd_T61 ((rd_T35 l0 x4_1).f5) x6_2).f1) ((rd_T61 ((rd_T35 l0 x4_1).f5) x6_2).f2) ((rd_T61 ((rd_T35 l0 x4_1).f5) x6_2).f3) ((rd_T61 ((rd_T35 l0 x4_1).f5) x6_2).f4)) = some r := by rw [if_neg (show ¬ (false = true) by decide)] at H; exact H
                              clear H
                              have H := H1
                              clear H1
                              have H' := Aside0.mk H
                              clear H
                              go_wp2
                              repeat (go_quiet (fail); try go_wp2)
                              go_loopg [8] kj12 (fun kq v8 w' => ∃ (x8_5 : Int), v8 = .int .i64 x8_5 ∧ Aside0 (bollardlaw24_small.l2 kq l0 (wrap64 (x3_2 + (((rd_T61 ((rd_T35 l0 x4_1).f5) x6_2).f4).length : Int))) x4_1 x6_2 x8_5 ((rd_T35 l0 x4_1).f0) ((rd_T35 l0 x4_1).f1) ((rd_T35 l0 x4_1).f2) ((rd_T35 l0 x4_1).f3) ((rd_T35 l0 x4_1).f4) ((rd_T35 l0 x4_1).f5) ((rd_T61 ((rd_T35 l0 x4_1).f5) x6_2).f0) ((rd_T61 ((rd_T35 l0 x4_1).f5) x6_2).f1) ((rd_T61 ((rd_T35 l0 x4_1).f5) x6_2).f2) ((rd_T61 ((rd_T35 l0 x4_1).f5) x6_2).f3) ((rd_T61 ((rd_T35 l0 x4_1).f5) x6_2).f4) = some r) ∧ Aside0 (kq ≤ kj12) ∧ Aside0 (w'.heap[gb104]? = some (.cells #[.string ((rd_T35 l0 x4_1).f0), .int .i64 ((rd_T35 l0 x4_1).f1), .int .i64 ((rd_T35 l0 x4_1).f2), .int .i64 ((rd_T35 l0 x4_1).f3), .int .i64 ((rd_T35 l0 x4_1).f4), (.slice (some ad105) ((rd_T35 l0 x4_1).f5).length c103_5)] 35 (0, 0))) ∧ Aside0 (w'.heap[gb106]? = some (.cells #[.int .i64 ((rd_T61 ((rd_T35 l0 x4_1).f5) x6_2).f0), .int .i64 ((rd_T61 ((rd_T35 l0 x4_1).f5) x6_2).f1), .int .i64 ((rd_T61 ((rd_T35 l0 x4_1).f5) x6_2).f2), .int .i64 ((rd_T61 ((rd_T35 l0 x4_1).f5) x6_2).f3), (.slice A105_4 ((rd_T61 ((rd_T35 l0 x4_1).f5) x6_2).f4).length c105_4)] 61 (0, 0))) ∧ Aside0 (Below w.heap.size w w'))
                              case atStart => exact ⟨(0), (by first | rfl | (simp; done) | (simp [*]; done) | exact congrArg Value.bool (ne_empty _) | exact congrArg Value.bool (eq_empty _)), H', ⟨Nat.le_refl _⟩, ⟨by (with_reducible repeat (first | refine blk_drewN ?_ _ | refine blk_drew ?_ | refine blk_alloc ?_ _)); exact BK104.out⟩, ⟨by (with_reducible repeat (first | refine blk_drewN ?_ _ | refine blk_drew ?_ | refine blk_alloc ?_ _)); exact BK106.out⟩, ⟨by repeat (first | (with_reducible first | exact HB.out | apply below_alloc | apply pw_below_drewN | apply below_drew1 | refine below_set ?_ GE104.out | refine below_set ?_ GE106.out) | exact HB.out)⟩⟩
                              case round =>
                                clear H'
                                try clear c1
                                try clear p1
                                try clear q1
                                try clear hx1
                                try clear c2
                                try clear c2b0
                                try clear p2
                                try clear c3
                                try clear c3b0
                                try clear p6
                                try clear c7
                                try clear c7b0
                                try clear c8
                                try clear c10
                                try clear p10
                                try clear q10
                                try clear hx10
                                try clear c11
                                try clear c11b0
                                try clear c12
                                try clear c12b0
                                try clear c16
                                try clear c18
                                try clear c18b0
                                try clear c19
                                try clear c21
                                try clear c21b0
                                try clear c22
                                try clear c24
                                try clear c24b0
                                try clear c25
                                try clear c27
                                try clear c27b0
                                try clear c28
                                try clear c31
                                try clear c33
                                try clear hcz14_0
                                try clear hcz14_1
                                try clear hcz14_2
                                try clear hcz14_3
                                try clear hcz14_4
                                try clear hcz14_5
                                try clear hcz17_0
                                try clear hcz17_1
                                try clear hcz17_2
                                try clear hcz17_3
                                try clear hcz17_4
                                try clear hcz20_0
                                try clear hcz20_1
                                try clear hcz20_2
                                try clear hcz20_3
                                try clear hcz20_4
                                try clear hcz23_0
                                try clear hcz23_1
                                try clear hcz23_2
                                try clear hcz23_3
                                try clear hcz23_4
                                try clear hcz26_0
                                try clear hcz26_1
                                try clear hcz26_2
                                try clear hcz26_3
                                try clear hcz26_4
                                try clear hcz29_0
                                try clear hcz29_1
                                try clear hcz29_2
                                try clear hcz29_3
                                try clear hcz29_4
                                try clear hcz32_0
                                try clear hcz32_1
                                try clear hcz32_2
                                try clear hcz32_3
                                try clear hcz32_4
                                try clear hcz5_0
                                try clear hcz5_1
                                try clear hcz5_2
                                try clear hcz5_3
                                try clear hcz5_4
                                try clear hcz5_5
                                try clear hcz8_0
                                try clear hcz8_1
                                try clear hcz8_2
                                try clear hcz8_3
                                try clear hcz8_4
                                try clear hcz8_5
                                try clear hcz9_0
                                try clear hcz9_1
                                try clear hcz9_2
                                try clear hcz9_3
                                try clear hcz9_4
                                try clear hcz9_5
                                try clear hfz14_0
                                try clear hfz14_1
                                try clear hfz14_2
                                try clear hfz14_3
                                try clear hfz14_4
                                try clear hfz14_5
                                try clear hfz17_0
                                try clear hfz17_1
                                try clear hfz17_2
                                try clear hfz17_3
                                try clear hfz17_4
                                try clear hfz20_0
                                try clear hfz20_1
                                try clear hfz20_2
                                try clear hfz20_3
                                try clear hfz20_4
                                try clear hfz23_0
                                try clear hfz23_1
                                try clear hfz23_2
                                try clear hfz23_3
                                try clear hfz23_4
                                try clear hfz26_0
                                try clear hfz26_1
                                try clear hfz26_2
                                try clear hfz26_3
                                try clear hfz26_4
                                try clear hfz29_0
                                try clear hfz29_1
                                try clear hfz29_2
                                try clear hfz29_3
                                try clear hfz29_4
                                try clear hfz32_0
                                try clear hfz32_1
                                try clear hfz32_2
                                try clear hfz32_3
                                try clear hfz32_4
                                try clear hfz5_0
                                try clear hfz5_1
                                try clear hfz5_2
                                try clear hfz5_3
                                try clear hfz5_4
                                try clear hfz5_5
                                try clear hfz8_0
                                try clear hfz8_1
                                try clear hfz8_2
                                try clear hfz8_3
                                try clear hfz8_4
                                try clear hfz8_5
                                try clear hfz9_0
                                try clear hfz9_1
                                try clear hfz9_2
                                try clear hfz9_3
                                try clear hfz9_4
                                try clear hfz9_5
                                try clear hx103_0
                                try clear hx103_1
                                try clear hx103_2
                                try clear hx103_3
                                try clear hx103_4
                                try clear hx103_5
                                try clear hx105_0
                                try clear hx105_1
                                try clear hx105_2
                                try clear hx105_3
                                try clear hx105_4
                                try clear p1
                                try clear p10
                                try clear p103
                                try clear p105
                                try clear p2
                                try clear p6
                                try clear q1
                                try clear q10
                                try clear q103
                                try clear q105
                                obtain ⟨x8_5, rfl, HA, HK5, BK104, BK106, HB⟩ := hrel
                                cases gk with
                                | zero => exact absurd HA.out (by first | (intro h_; exact nomatch (show (none : Option _) = some r from h_)) | simp [bollardlaw24_small.l2])
                                | succ k5 =>
                                  have H := HA.out
                                  clear HA
                                  simp only [bollardlaw24_small.l2] at H
                                  by_cases c34 : x8_5 < (((rd_T61 ((rd_T35 l0 x4_1).f5) x6_2).f4).length : Int)
                                  · rw [if_pos c34] at H
                                    have c34b0 : decide (x8_5 < (((rd_T61 ((rd_T35 l0 x4_1).f5) x6_2).f4).length : Int)) = true := decide_eq_true c34
                                    clear c34
                                    by_cases c35 : 0 ≤ x8_5
                                    · rw [if_pos c35] at H
                                      have c35b0 : decide (0 ≤ x8_5) = true := decide_eq_true c35
                                      clear c35
                                      by_cases c36 : ((rd_T48 ((rd_T61 ((rd_T35 l0 x4_1).f5) x6_2).f4) x8_5).f5) < 0
                                      · rw [if_pos c36] at H
                                        have c36b0 : decide (((rd_T48 ((rd_T61 ((rd_T35 l0 x4_1).f5) x6_2).f4) x8_5).f5) < 0) = true := decide_eq_true c36
                                        clear c36
                                        obtain rfl := Option.some.inj H
                                        have hnb37 := NB106_104.out
                                        have hnc37 := NB104_106.out
                                        have hcz38_0 : wr.cell? ⟨gb106, 0, none⟩ = some (.int .i64 ((rd_T61 ((rd_T35 l0 x4_1).f5) x6_2).f0)) := (blk_cell BK106.out 0).trans rfl
                                        have hcz38_1 : wr.cell? ⟨gb106, 1, none⟩ = some (.int .i64 ((rd_T61 ((rd_T35 l0 x4_1).f5) x6_2).f1)) := (blk_cell BK106.out 1).trans rfl
                                        have hcz38_2 : wr.cell? ⟨gb106, 2, none⟩ = some (.int .i64 ((rd_T61 ((rd_T35 l0 x4_1).f5) x6_2).f2)) := (blk_cell BK106.out 2).trans rfl
                                        have hcz38_3 : wr.cell? ⟨gb106, 3, none⟩ = some (.int .i64 ((rd_T61 ((rd_T35 l0 x4_1).f5) x6_2).f3)) := (blk_cell BK106.out 3).trans rfl
                                        have hcz38_4 : wr.cell? ⟨gb106, 4, none⟩ = some (.slice A105_4 ((rd_T61 ((rd_T35 l0 x4_1).f5) x6_2).f4).length c105_4) := (blk_cell BK106.out 4).trans rfl
                                        have hfz38_0 := blk_frozen BK106.out 0
                                        have hfz38_1 := blk_frozen BK106.out 1
                                        have hfz38_2 := blk_frozen BK106.out 2
                                        have hfz38_3 := blk_frozen BK106.out 3
                                        have hfz38_4 := blk_frozen BK106.out 4
                                        have p108 : 0 ≤ (x8_5 : Int) := of_decide_eq_true (by first | (with_reducible assumption) | assumption)
                                        have q108 : x8_5 < (((rd_T61 ((rd_T35 l0 x4_1).f5) x6_2).f4).length : Int) := of_decide_eq_true (by first | (with_reducible assumption) | assumption)
                                        obtain ⟨ad108, e108, hx108_0, hx108_1, hx108_2, hx108_3, hx108_4, hx108_5⟩ := at_T48 HR105_4.out x8_5 p108 q108
                                        cases e108
                                        replace hx108_0 := (HB.out.cell (World.block_lt_of_cell? w _ hx108_0)).trans hx108_0
                                        replace hx108_1 := (HB.out.cell (World.block_lt_of_cell? w _ hx108_1)).trans hx108_1
                                        replace hx108_2 := (HB.out.cell (World.block_lt_of_cell? w _ hx108_2)).trans hx108_2
                                        replace hx108_3 := (HB.out.cell (World.block_lt_of_cell? w _ hx108_3)).trans hx108_3
                                        replace hx108_4 := (HB.out.cell (World.block_lt_of_cell? w _ hx108_4)).trans hx108_4
                                        replace hx108_5 := (HB.out.cell (World.block_lt_of_cell? w _ hx108_5)).trans hx108_5
                                        replace p108 := eq_true p108
                                        replace q108 := eq_true q108
                                        go_wp2
                                        repeat (go_quiet (fail); try go_wp2)
                                        go_ret
                                        exact ⟨by first | rfl | (simp [errW_none, errW_some] <;> rfl) | (simp [*, errW_none, errW_some] <;> rfl), by repeat (first | (with_reducible first | exact HB.out | apply below_alloc | apply pw_below_drewN | apply below_drew1 | refine below_set ?_ GE104.out | refine below_set ?_ GE106.out) | exact HB.out)⟩
                                      · rw [if_neg c36] at H
                                        have c36b0 : decide (((rd_T48 ((rd_T61 ((rd_T35 l0 x4_1).f5) x6_2).f4) x8_5).f5) < 0) = false := decide_eq_false c36
                                        clear c36
                                        by_cases c39 : ((rd_T48 ((rd_T61 ((rd_T35 l0 x4_1).f5) x6_2).f4) x8_5).f5) ≥ ((rd_T61 ((rd_T35 l0 x4_1).f5) x6_2).f1)
                                        · rw [if_pos c39] at H
                                          have c39b0 : decide (((rd_T61 ((rd_T35 l0 x4_1).f5) x6_2).f1) ≤ ((rd_T48 ((rd_T61 ((rd_T35 l0 x4_1).f5) x6_2).f4) x8_5).f5)) = true := decide_eq_true c39
                                          clear c39
                                          obtain rfl := Option.some.inj H
                                          have hnb40 := NB106_104.out
                                          have hnc40 := NB104_106.out
                                          have hcz41_0 : wr.cell? ⟨gb106, 0, none⟩ = some (.int .i64 ((rd_T61 ((rd_T35 l0 x4_1).f5) x6_2).f0)) := (blk_cell BK106.out 0).trans rfl
                                          have hcz41_1 : wr.cell? ⟨gb106, 1, none⟩ = some (.int .i64 ((rd_T61 ((rd_T35 l0 x4_1).f5) x6_2).f1)) := (blk_cell BK106.out 1).trans rfl
                                          have hcz41_2 : wr.cell? ⟨gb106, 2, none⟩ = some (.int .i64 ((rd_T61 ((rd_T35 l0 x4_1).f5) x6_2).f2)) := (blk_cell BK106.out 2).trans rfl
                                          have hcz41_3 : wr.cell? ⟨gb106, 3, none⟩ = some (.int .i64 ((rd_T61 ((rd_T35 l0 x4_1).f5) x6_2).f3)) := (blk_cell BK106.out 3).trans rfl
                                          have hcz41_4 : wr.cell? ⟨gb106, 4, none⟩ = some (.slice A105_4 ((rd_T61 ((rd_T35 l0 x4_1).f5) x6_2).f4).length c105_4) := (blk_cell BK106.out 4).trans rfl
                                          have hfz41_0 := blk_frozen BK106.out 0
                                          have hfz41_1 := blk_frozen BK106.out 1
                                          have hfz41_2 := blk_frozen BK106.out 2
                                          have hfz41_3 := blk_frozen BK106.out 3
                                          have hfz41_4 := blk_frozen BK106.out 4
                                          have p108 : 0 ≤ (x8_5 : Int) := of_decide_eq_true (by first | (with_reducible assumption) | assumption)
                                          have q108 : x8_5 < (((rd_T61 ((rd_T35 l0 x4_1).f5) x6_2).f4).length : Int) := of_decide_eq_true (by first | (with_reducible assumption) | assumption)
                                          obtain ⟨ad108, e108, hx108_0, hx108_1, hx108_2, hx108_3, hx108_4, hx108_5⟩ := at_T48 HR105_4.out x8_5 p108 q108
                                          cases e108
                                          replace hx108_0 := (HB.out.cell (World.block_lt_of_cell? w _ hx108_0)).trans hx108_0
                                          replace hx108_1 := (HB.out.cell (World.block_lt_of_cell? w _ hx108_1)).trans hx108_1
                                          replace hx108_2 := (HB.out.cell (World.block_lt_of_cell? w _ hx108_2)).trans hx108_2
                                          replace hx108_3 := (HB.out.cell (World.block_lt_of_cell? w _ hx108_3)).trans hx108_3
                                          replace hx108_4 := (HB.out.cell (World.block_lt_of_cell? w _ hx108_4)).trans hx108_4
                                          replace hx108_5 := (HB.out.cell (World.block_lt_of_cell? w _ hx108_5)).trans hx108_5
                                          replace p108 := eq_true p108
                                          replace q108 := eq_true q108
                                          have p109 : 0 ≤ (x8_5 : Int) := of_decide_eq_true (by first | (with_reducible assumption) | assumption)
                                          have q109 : x8_5 < (((rd_T61 ((rd_T35 l0 x4_1).f5) x6_2).f4).length : Int) := of_decide_eq_true (by first | (with_reducible assumption) | assumption)
                                          obtain ⟨ad109, e109, hx109_0, hx109_1, hx109_2, hx109_3, hx109_4, hx109_5⟩ := at_T48 HR105_4.out x8_5 p109 q109
                                          obtain rfl : ad108 = ad109 := (by injection e109)
                                          replace hx109_0 := (HB.out.cell (World.block_lt_of_cell? w _ hx109_0)).trans hx109_0
                                          replace hx109_1 := (HB.out.cell (World.block_lt_of_cell? w _ hx109_1)).trans hx109_1
                                          replace hx109_2 := (HB.out.cell (World.block_lt_of_cell? w _ hx109_2)).trans hx109_2
                                          replace hx109_3 := (HB.out.cell (World.block_lt_of_cell? w _ hx109_3)).trans hx109_3
                                          replace hx109_4 := (HB.out.cell (World.block_lt_of_cell? w _ hx109_4)).trans hx109_4
                                          replace hx109_5 := (HB.out.cell (World.block_lt_of_cell? w _ hx109_5)).trans hx109_5
                                          replace p109 := eq_true p109
                                          replace q109 := eq_true q109
                                          go_wp2
                                          repeat (go_quiet (fail); try go_wp2)
                                          go_ret
                                          exact ⟨by first | rfl | (simp [errW_none, errW_some] <;> rfl) | (simp [*, errW_none, errW_some] <;> rfl), by repeat (first | (with_reducible first | exact HB.out | apply below_alloc | apply pw_below_drewN | apply below_drew1 | refine below_set ?_ GE104.out | refine below_set ?_ GE106.out) | exact HB.out)⟩
                                        · rw [if_neg c39] at H
                                          have c39b0 : decide (((rd_T61 ((rd_T35 l0 x4_1).f5) x6_2).f1) ≤ ((rd_T48 ((rd_T61 ((rd_T35 l0 x4_1).f5) x6_2).f4) x8_5).f5)) = false := decide_eq_false c39
                                          clear c39
                                          have H' := Aside0.mk H
                                          clear H
                                          have hnb42 := NB106_104.out
                                          have hnc42 := NB104_106.out
                                          have hcz43_0 : wr.cell? ⟨gb106, 0, none⟩ = some (.int .i64 ((rd_T61 ((rd_T35 l0 x4_1).f5) x6_2).f0)) := (blk_cell BK106.out 0).trans rfl
                                          have hcz43_1 : wr.cell? ⟨gb106, 1, none⟩ = some (.int .i64 ((rd_T61 ((rd_T35 l0 x4_1).f5) x6_2).f1)) := (blk_cell BK106.out 1).trans rfl
                                          have hcz43_2 : wr.cell? ⟨gb106, 2, none⟩ = some (.int .i64 ((rd_T61 ((rd_T35 l0 x4_1).f5) x6_2).f2)) := (blk_cell BK106.out 2).trans rfl
                                          have hcz43_3 : wr.cell? ⟨gb106, 3, none⟩ = some (.int .i64 ((rd_T61 ((rd_T35 l0 x4_1).f5) x6_2).f3)) := (blk_cell BK106.out 3).trans rfl
                                          have hcz43_4 : wr.cell? ⟨gb106, 4, none⟩ = some (.slice A105_4 ((rd_T61 ((rd_T35 l0 x4_1).f5) x6_2).f4).length c105_4) := (blk_cell BK106.out 4).trans rfl
                                          have hfz43_0 := blk_frozen BK106.out 0
                                          have hfz43_1 := blk_frozen BK106.out 1
                                          have hfz43_2 := blk_frozen BK106.out 2
                                          have hfz43_3 := blk_frozen BK106.out 3
                                          have hfz43_4 := blk_frozen BK106.out 4
                                          have p108 : 0 ≤ (x8_5 : Int) := of_decide_eq_true (by first | (with_reducible assumption) | assumption)
                                          have q108 : x8_5 < (((rd_T61 ((rd_T35 l0 x4_1).f5) x6_2).f4).length : Int) := of_decide_eq_true (by first | (with_reducible assumption) | assumption)
                                          obtain ⟨ad108, e108, hx108_0, hx108_1, hx108_2, hx108_3, hx108_4, hx108_5⟩ := at_T48 HR105_4.out x8_5 p108 q108
                                          cases e108
                                          replace hx108_0 := (HB.out.cell (World.block_lt_of_cell? w _ hx108_0)).trans hx108_0
                                          replace hx108_1 := (HB.out.cell (World.block_lt_of_cell? w _ hx108_1)).trans hx108_1
                                          replace hx108_2 := (HB.out.cell (World.block_lt_of_cell? w _ hx108_2)).trans hx108_2
                                          replace hx108_3 := (HB.out.cell (World.block_lt_of_cell? w _ hx108_3)).trans hx108_3
                                          replace hx108_4 := (HB.out.cell (World.block_lt_of_cell? w _ hx108_4)).trans hx108_4
                                          replace hx108_5 := (HB.out.cell (World.block_lt_of_cell? w _ hx108_5)).trans hx108_5
                                          replace p108 := eq_true p108
                                          replace q108 := eq_true q108
                                          have p109 : 0 ≤ (x8_5 : Int) := of_decide_eq_true (by first | (with_reducible assumption) | assumption)
                                          have q109 : x8_5 < (((rd_T61 ((rd_T35 l0 x4_1).f5) x6_2).f4).length : Int) := of_decide_eq_true (by first | (with_reducible assumption) | assumption)
                                          obtain ⟨ad109, e109, hx109_0, hx109_1, hx109_2, hx109_3, hx109_4, hx109_5⟩ := at_T48 HR105_4.out x8_5 p109 q109
                                          obtain rfl : ad108 = ad109 := (by injection e109)
                                          replace hx109_0 := (HB.out.cell (World.block_lt_of_cell? w _ hx109_0)).trans hx109_0
                                          replace hx109_1 := (HB.out.cell (World.block_lt_of_cell? w _ hx109_1)).trans hx109_1
                                          replace hx109_2 := (HB.out.cell (World.block_lt_of_cell? w _ hx109_2)).trans hx109_2
                                          replace hx109_3 := (HB.out.cell (World.block_lt_of_cell? w _ hx109_3)).trans hx109_3
                                          replace hx109_4 := (HB.out.cell (World.block_lt_of_cell? w _ hx109_4)).trans hx109_4
                                          replace hx109_5 := (HB.out.cell (World.block_lt_of_cell? w _ hx109_5)).trans hx109_5
                                          replace p109 := eq_true p109
                                          replace q109 := eq_true q109
                                          go_wp2
                                          repeat (go_quiet (fail); try go_wp2)
                                          go_roundg k5
                                          case measure => have := HK1.out; have := HK2.out; have := HJ5.out; have := HJ12.out; have := HK5.out; omega
                                          case rel => exact ⟨(wrap64 (x8_5 + 1)), (by first | rfl | (simp; done) | (simp [*]; done) | exact congrArg Value.bool (ne_empty _) | exact congrArg Value.bool (eq_empty _)), H', ⟨by have := HK1.out; have := HK2.out; have := HJ5.out; have := HJ12.out; have := HK5.out; omega⟩, ⟨by (with_reducible repeat (first | refine blk_drewN ?_ _ | refine blk_drew ?_ | refine blk_alloc ?_ _)); exact BK104.out⟩, ⟨by (with_reducible repeat (first | refine blk_drewN ?_ _ | refine blk_drew ?_ | refine blk_alloc ?_ _)); exact BK106.out⟩, ⟨by repeat (first | (with_reducible first | exact HB.out | apply below_alloc | apply pw_below_drewN | apply below_drew1 | refine below_set ?_ GE104.out | refine below_set ?_ GE106.out) | exact HB.out)⟩⟩
                                    · rw [if_neg c35] at H
                                      exact absurd H (by simp)
                                  · rw [if_neg c34] at H
                                    have c34b0 : decide (x8_5 < (((rd_T61 ((rd_T35 l0 x4_1).f5) x6_2).f4).length : Int)) = false := decide_eq_false c34
                                    clear c34
                                    have H' := Aside0.mk H
                                    clear H
                                    have hnb44 := NB106_104.out
                                    have hnc44 := NB104_106.out
                                    have hcz45_0 : wr.cell? ⟨gb106, 0, none⟩ = some (.int .i64 ((rd_T61 ((rd_T35 l0 x4_1).f5) x6_2).f0)) := (blk_cell BK106.out 0).trans rfl
                                    have hcz45_1 : wr.cell? ⟨gb106, 1, none⟩ = some (.int .i64 ((rd_T61 ((rd_T35 l0 x4_1).f5) x6_2).f1)) := (blk_cell BK106.out 1).trans rfl
                                    have hcz45_2 : wr.cell? ⟨gb106, 2, none⟩ = some (.int .i64 ((rd_T61 ((rd_T35 l0 x4_1).f5) x6_2).f2)) := (blk_cell BK106.out 2).trans rfl
                                    have hcz45_3 : wr.cell? ⟨gb106, 3, none⟩ = some (.int .i64 ((rd_T61 ((rd_T35 l0 x4_1).f5) x6_2).f3)) := (blk_cell BK106.out 3).trans rfl
                                    have hcz45_4 : wr.cell? ⟨gb106, 4, none⟩ = some (.slice A105_4 ((rd_T61 ((rd_T35 l0 x4_1).f5) x6_2).f4).length c105_4) := (blk_cell BK106.out 4).trans rfl
                                    have hfz45_0 := blk_frozen BK106.out 0
                                    have hfz45_1 := blk_frozen BK106.out 1
                                    have hfz45_2 := blk_frozen BK106.out 2
                                    have hfz45_3 := blk_frozen BK106.out 3
                                    have hfz45_4 := blk_frozen BK106.out 4
                                    go_wp2
                                    repeat (go_quiet (fail); try go_wp2)
                                    go_roundg k5
                                    case measure => have := HK1.out; have := HK2.out; have := HJ5.out; have := HJ12.out; have := HK5.out; omega
                                    case rel => exact ⟨((wrap64 (x3_2 + (((rd_T61 ((rd_T35 l0 x4_1).f5) x6_2).f4).length : Int)))), (wrap64 (x6_2 + 1)), (by first | rfl | (simp; done) | (simp [*]; done) | exact congrArg Value.bool (ne_empty _) | exact congrArg Value.bool (eq_empty _)), (by first | rfl | (simp; done) | (simp [*]; done) | exact congrArg Value.bool (ne_empty _) | exact congrArg Value.bool (eq_empty _)), H', ⟨by have := HK1.out; have := HK2.out; have := HJ5.out; have := HJ12.out; have := HK5.out; omega⟩, ⟨by (with_reducible repeat (first | refine blk_drewN ?_ _ | refine blk_drew ?_ | refine blk_alloc ?_ _)); exact BK104.out⟩, ⟨by repeat (first | (with_reducible first | exact HB.out | apply below_alloc | apply pw_below_drewN | apply below_drew1 | refine below_set ?_ GE104.out | refine below_set ?_ GE106.out) | exact HB.out)⟩⟩
                      · rw [if_neg c12] at H
                        exact absurd H (by simp)
                    · rw [if_neg c11] at H
                      exact absurd H (by simp)
                  · replace c10 := Bool.eq_false_iff.mpr c10
                    subst c10
                    have H1 : (if ((rd_T35 l0 x4_1).f2) < 0 then (some false) else (if ((rd_T35 l0 x4_1).f2) > 1152921504606846976 then (some false) else (if ((rd_T35 l0 x4_1).f3) < 0 then (some false) else (if ((rd_T35 l0 x4_1).f3) > 1152921504606846976 then (some false) else (if ((rd_T35 l0 x4_1).f4) < 0 then (some false) else (if ((rd_T35 l0 x4_1).f4) > 1152921504606846976 then (some false) else (bollardlaw24_small.l0 kj5 l0 x3_2 (wrap64 (x4_1 + 1))))))))) = some r := by rw [if_neg (show ¬ (false = true) by decide)] at H; exact H
                    clear H
                    have H := H1
                    clear H1
                    by_cases c46 : ((rd_T35 l0 x4_1).f2) < 0
                    · rw [if_pos c46] at H
                      have c46b0 : decide (((rd_T35 l0 x4_1).f2) < 0) = true := decide_eq_true c46
                      clear c46
                      obtain rfl := Option.some.inj H
                      have hcz47_0 : wc.cell? ⟨gb104, 0, none⟩ = some (.string ((rd_T35 l0 x4_1).f0)) := (blk_cell BK104.out 0).trans rfl
                      have hcz47_1 : wc.cell? ⟨gb104, 1, none⟩ = some (.int .i64 ((rd_T35 l0 x4_1).f1)) := (blk_cell BK104.out 1).trans rfl
                      have hcz47_2 : wc.cell? ⟨gb104, 2, none⟩ = some (.int .i64 ((rd_T35 l0 x4_1).f2)) := (blk_cell BK104.out 2).trans rfl
                      have hcz47_3 : wc.cell? ⟨gb104, 3, none⟩ = some (.int .i64 ((rd_T35 l0 x4_1).f3)) := (blk_cell BK104.out 3).trans rfl
                      have hcz47_4 : wc.cell? ⟨gb104, 4, none⟩ = some (.int .i64 ((rd_T35 l0 x4_1).f4)) := (blk_cell BK104.out 4).trans rfl
                      have hcz47_5 : wc.cell? ⟨gb104, 5, none⟩ = some (.slice A103_5 ((rd_T35 l0 x4_1).f5).length c103_5) := (blk_cell BK104.out 5).trans rfl
                      have hfz47_0 := blk_frozen BK104.out 0
                      have hfz47_1 := blk_frozen BK104.out 1
                      have hfz47_2 := blk_frozen BK104.out 2
                      have hfz47_3 := blk_frozen BK104.out 3
                      have hfz47_4 := blk_frozen BK104.out 4
                      have hfz47_5 := blk_frozen BK104.out 5
                      go_wp2
                      repeat (go_quiet (fail); try go_wp2)
                      go_ret
                      exact ⟨by first | rfl | (simp [errW_none, errW_some] <;> rfl) | (simp [*, errW_none, errW_some] <;> rfl), by repeat (first | (with_reducible first | exact HB.out | apply below_alloc | apply pw_below_drewN | apply below_drew1 | refine below_set ?_ GE104.out) | exact HB.out)⟩
                    · rw [if_neg c46] at H
                      have c46b0 : decide (((rd_T35 l0 x4_1).f2) < 0) = false := decide_eq_false c46
                      clear c46
                      by_cases c48 : ((rd_T35 l0 x4_1).f2) > 1152921504606846976
                      · rw [if_pos c48] at H
                        have c48b0 : decide (1152921504606846976 < ((rd_T35 l0 x4_1).f2)) = true := decide_eq_true c48
                        clear c48
                        obtain rfl := Option.some.inj H
                        have hcz49_0 : wc.cell? ⟨gb104, 0, none⟩ = some (.string ((rd_T35 l0 x4_1).f0)) := (blk_cell BK104.out 0).trans rfl
                        have hcz49_1 : wc.cell? ⟨gb104, 1, none⟩ = some (.int .i64 ((rd_T35 l0 x4_1).f1)) := (blk_cell BK104.out 1).trans rfl
                        have hcz49_2 : wc.cell? ⟨gb104, 2, none⟩ = some (.int .i64 ((rd_T35 l0 x4_1).f2)) := (blk_cell BK104.out 2).trans rfl
                        have hcz49_3 : wc.cell? ⟨gb104, 3, none⟩ = some (.int .i64 ((rd_T35 l0 x4_1).f3)) := (blk_cell BK104.out 3).trans rfl
                        have hcz49_4 : wc.cell? ⟨gb104, 4, none⟩ = some (.int .i64 ((rd_T35 l0 x4_1).f4)) := (blk_cell BK104.out 4).trans rfl
                        have hcz49_5 : wc.cell? ⟨gb104, 5, none⟩ = some (.slice A103_5 ((rd_T35 l0 x4_1).f5).length c103_5) := (blk_cell BK104.out 5).trans rfl
                        have hfz49_0 := blk_frozen BK104.out 0
                        have hfz49_1 := blk_frozen BK104.out 1
                        have hfz49_2 := blk_frozen BK104.out 2
                        have hfz49_3 := blk_frozen BK104.out 3
                        have hfz49_4 := blk_frozen BK104.out 4
                        have hfz49_5 := blk_frozen BK104.out 5
                        go_wp2
                        repeat (go_quiet (fail); try go_wp2)
                        go_ret
                        exact ⟨by first | rfl | (simp [errW_none, errW_some] <;> rfl) | (simp [*, errW_none, errW_some] <;> rfl), by repeat (first | (with_reducible first | exact HB.out | apply below_alloc | apply pw_below_drewN | apply below_drew1 | refine below_set ?_ GE104.out) | exact HB.out)⟩
                      · rw [if_neg c48] at H
                        have c48b0 : decide (1152921504606846976 < ((rd_T35 l0 x4_1).f2)) = false := decide_eq_false c48
                        clear c48
                        by_cases c50 : ((rd_T35 l0 x4_1).f3) < 0
                        · rw [if_pos c50] at H
                          have c50b0 : decide (((rd_T35 l0 x4_1).f3) < 0) = true := decide_eq_true c50
                          clear c50
                          obtain rfl := Option.some.inj H
                          have hcz51_0 : wc.cell? ⟨gb104, 0, none⟩ = some (.string ((rd_T35 l0 x4_1).f0)) := (blk_cell BK104.out 0).trans rfl
                          have hcz51_1 : wc.cell? ⟨gb104, 1, none⟩ = some (.int .i64 ((rd_T35 l0 x4_1).f1)) := (blk_cell BK104.out 1).trans rfl
                          have hcz51_2 : wc.cell? ⟨gb104, 2, none⟩ = some (.int .i64 ((rd_T35 l0 x4_1).f2)) := (blk_cell BK104.out 2).trans rfl
                          have hcz51_3 : wc.cell? ⟨gb104, 3, none⟩ = some (.int .i64 ((rd_T35 l0 x4_1).f3)) := (blk_cell BK104.out 3).trans rfl
                          have hcz51_4 : wc.cell? ⟨gb104, 4, none⟩ = some (.int .i64 ((rd_T35 l0 x4_1).f4)) := (blk_cell BK104.out 4).trans rfl
                          have hcz51_5 : wc.cell? ⟨gb104, 5, none⟩ = some (.slice A103_5 ((rd_T35 l0 x4_1).f5).length c103_5) := (blk_cell BK104.out 5).trans rfl
                          have hfz51_0 := blk_frozen BK104.out 0
                          have hfz51_1 := blk_frozen BK104.out 1
                          have hfz51_2 := blk_frozen BK104.out 2
                          have hfz51_3 := blk_frozen BK104.out 3
                          have hfz51_4 := blk_frozen BK104.out 4
                          have hfz51_5 := blk_frozen BK104.out 5
                          go_wp2
                          repeat (go_quiet (fail); try go_wp2)
                          go_ret
                          exact ⟨by first | rfl | (simp [errW_none, errW_some] <;> rfl) | (simp [*, errW_none, errW_some] <;> rfl), by repeat (first | (with_reducible first | exact HB.out | apply below_alloc | apply pw_below_drewN | apply below_drew1 | refine below_set ?_ GE104.out) | exact HB.out)⟩
                        · rw [if_neg c50] at H
                          have c50b0 : decide (((rd_T35 l0 x4_1).f3) < 0) = false := decide_eq_false c50
                          clear c50
                          by_cases c52 : ((rd_T35 l0 x4_1).f3) > 1152921504606846976
                          · rw [if_pos c52] at H
                            have c52b0 : decide (1152921504606846976 < ((rd_T35 l0 x4_1).f3)) = true := decide_eq_true c52
                            clear c52
                            obtain rfl := Option.some.inj H
                            have hcz53_0 : wc.cell? ⟨gb104, 0, none⟩ = some (.string ((rd_T35 l0 x4_1).f0)) := (blk_cell BK104.out 0).trans rfl
                            have hcz53_1 : wc.cell? ⟨gb104, 1, none⟩ = some (.int .i64 ((rd_T35 l0 x4_1).f1)) := (blk_cell BK104.out 1).trans rfl
                            have hcz53_2 : wc.cell? ⟨gb104, 2, none⟩ = some (.int .i64 ((rd_T35 l0 x4_1).f2)) := (blk_cell BK104.out 2).trans rfl
                            have hcz53_3 : wc.cell? ⟨gb104, 3, none⟩ = some (.int .i64 ((rd_T35 l0 x4_1).f3)) := (blk_cell BK104.out 3).trans rfl
                            have hcz53_4 : wc.cell? ⟨gb104, 4, none⟩ = some (.int .i64 ((rd_T35 l0 x4_1).f4)) := (blk_cell BK104.out 4).trans rfl
                            have hcz53_5 : wc.cell? ⟨gb104, 5, none⟩ = some (.slice A103_5 ((rd_T35 l0 x4_1).f5).length c103_5) := (blk_cell BK104.out 5).trans rfl
                            have hfz53_0 := blk_frozen BK104.out 0
                            have hfz53_1 := blk_frozen BK104.out 1
                            have hfz53_2 := blk_frozen BK104.out 2
                            have hfz53_3 := blk_frozen BK104.out 3
                            have hfz53_4 := blk_frozen BK104.out 4
                            have hfz53_5 := blk_frozen BK104.out 5
                            go_wp2
                            repeat (go_quiet (fail); try go_wp2)
                            go_ret
                            exact ⟨by first | rfl | (simp [errW_none, errW_some] <;> rfl) | (simp [*, errW_none, errW_some] <;> rfl), by repeat (first | (with_reducible first | exact HB.out | apply below_alloc | apply pw_below_drewN | apply below_drew1 | refine below_set ?_ GE104.out) | exact HB.out)⟩
                          · rw [if_neg c52] at H
                            have c52b0 : decide (1152921504606846976 < ((rd_T35 l0 x4_1).f3)) = false := decide_eq_false c52
                            clear c52
                            by_cases c54 : ((rd_T35 l0 x4_1).f4) < 0
                            · rw [if_pos c54] at H
                              have c54b0 : decide (((rd_T35 l0 x4_1).f4) < 0) = true := decide_eq_true c54
                              clear c54
                              obtain rfl := Option.some.inj H
                              have hcz55_0 : wc.cell? ⟨gb104, 0, none⟩ = some (.string ((rd_T35 l0 x4_1).f0)) := (blk_cell BK104.out 0).trans rfl
                              have hcz55_1 : wc.cell? ⟨gb104, 1, none⟩ = some (.int .i64 ((rd_T35 l0 x4_1).f1)) := (blk_cell BK104.out 1).trans rfl
                              have hcz55_2 : wc.cell? ⟨gb104, 2, none⟩ = some (.int .i64 ((rd_T35 l0 x4_1).f2)) := (blk_cell BK104.out 2).trans rfl
                              have hcz55_3 : wc.cell? ⟨gb104, 3, none⟩ = some (.int .i64 ((rd_T35 l0 x4_1).f3)) := (blk_cell BK104.out 3).trans rfl
                              have hcz55_4 : wc.cell? ⟨gb104, 4, none⟩ = some (.int .i64 ((rd_T35 l0 x4_1).f4)) := (blk_cell BK104.out 4).trans rfl
                              have hcz55_5 : wc.cell? ⟨gb104, 5, none⟩ = some (.slice A103_5 ((rd_T35 l0 x4_1).f5).length c103_5) := (blk_cell BK104.out 5).trans rfl
                              have hfz55_0 := blk_frozen BK104.out 0
                              have hfz55_1 := blk_frozen BK104.out 1
                              have hfz55_2 := blk_frozen BK104.out 2
                              have hfz55_3 := blk_frozen BK104.out 3
                              have hfz55_4 := blk_frozen BK104.out 4
                              have hfz55_5 := blk_frozen BK104.out 5
                              go_wp2
                              repeat (go_quiet (fail); try go_wp2)
                              go_ret
                              exact ⟨by first | rfl | (simp [errW_none, errW_some] <;> rfl) | (simp [*, errW_none, errW_some] <;> rfl), by repeat (first | (with_reducible first | exact HB.out | apply below_alloc | apply pw_below_drewN | apply below_drew1 | refine below_set ?_ GE104.out) | exact HB.out)⟩
                            · rw [if_neg c54] at H
                              have c54b0 : decide (((rd_T35 l0 x4_1).f4) < 0) = false := decide_eq_false c54
                              clear c54
                              by_cases c56 : ((rd_T35 l0 x4_1).f4) > 1152921504606846976
                              · rw [if_pos c56] at H
                                have c56b0 : decide (1152921504606846976 < ((rd_T35 l0 x4_1).f4)) = true := decide_eq_true c56
                                clear c56
                                obtain rfl := Option.some.inj H
                                have hcz57_0 : wc.cell? ⟨gb104, 0, none⟩ = some (.string ((rd_T35 l0 x4_1).f0)) := (blk_cell BK104.out 0).trans rfl
                                have hcz57_1 : wc.cell? ⟨gb104, 1, none⟩ = some (.int .i64 ((rd_T35 l0 x4_1).f1)) := (blk_cell BK104.out 1).trans rfl
                                have hcz57_2 : wc.cell? ⟨gb104, 2, none⟩ = some (.int .i64 ((rd_T35 l0 x4_1).f2)) := (blk_cell BK104.out 2).trans rfl
                                have hcz57_3 : wc.cell? ⟨gb104, 3, none⟩ = some (.int .i64 ((rd_T35 l0 x4_1).f3)) := (blk_cell BK104.out 3).trans rfl
                                have hcz57_4 : wc.cell? ⟨gb104, 4, none⟩ = some (.int .i64 ((rd_T35 l0 x4_1).f4)) := (blk_cell BK104.out 4).trans rfl
                                have hcz57_5 : wc.cell? ⟨gb104, 5, none⟩ = some (.slice A103_5 ((rd_T35 l0 x4_1).f5).length c103_5) := (blk_cell BK104.out 5).trans rfl
                                have hfz57_0 := blk_frozen BK104.out 0
                                have hfz57_1 := blk_frozen BK104.out 1
                                have hfz57_2 := blk_frozen BK104.out 2
                                have hfz57_3 := blk_frozen BK104.out 3
                                have hfz57_4 := blk_frozen BK104.out 4
                                have hfz57_5 := blk_frozen BK104.out 5
                                go_wp2
                                repeat (go_quiet (fail); try go_wp2)
                                go_ret
                                exact ⟨by first | rfl | (simp [errW_none, errW_some] <;> rfl) | (simp [*, errW_none, errW_some] <;> rfl), by repeat (first | (with_reducible first | exact HB.out | apply below_alloc | apply pw_below_drewN | apply below_drew1 | refine below_set ?_ GE104.out) | exact HB.out)⟩
                              · rw [if_neg c56] at H
                                have c56b0 : decide (1152921504606846976 < ((rd_T35 l0 x4_1).f4)) = false := decide_eq_false c56
                                clear c56
                                have H' := Aside0.mk H
                                clear H
                                have hcz58_0 : wc.cell? ⟨gb104, 0, none⟩ = some (.string ((rd_T35 l0 x4_1).f0)) := (blk_cell BK104.out 0).trans rfl
                                have hcz58_1 : wc.cell? ⟨gb104, 1, none⟩ = some (.int .i64 ((rd_T35 l0 x4_1).f1)) := (blk_cell BK104.out 1).trans rfl
                                have hcz58_2 : wc.cell? ⟨gb104, 2, none⟩ = some (.int .i64 ((rd_T35 l0 x4_1).f2)) := (blk_cell BK104.out 2).trans rfl
                                have hcz58_3 : wc.cell? ⟨gb104, 3, none⟩ = some (.int .i64 ((rd_T35 l0 x4_1).f3)) := (blk_cell BK104.out 3).trans rfl
                                have hcz58_4 : wc.cell? ⟨gb104, 4, none⟩ = some (.int .i64 ((rd_T35 l0 x4_1).f4)) := (blk_cell BK104.out 4).trans rfl
                                have hcz58_5 : wc.cell? ⟨gb104, 5, none⟩ = some (.slice A103_5 ((rd_T35 l0 x4_1).f5).length c103_5) := (blk_cell BK104.out 5).trans rfl
                                have hfz58_0 := blk_frozen BK104.out 0
                                have hfz58_1 := blk_frozen BK104.out 1
                                have hfz58_2 := blk_frozen BK104.out 2
                                have hfz58_3 := blk_frozen BK104.out 3
                                have hfz58_4 := blk_frozen BK104.out 4
                                have hfz58_5 := blk_frozen BK104.out 5
                                go_wp2
                                repeat (go_quiet (fail); try go_wp2)
                                go_roundg kj5
                                case measure => have := HK1.out; have := HK2.out; have := HJ5.out; omega
                                case rel => exact ⟨(x3_2), (wrap64 (x4_1 + 1)), (by first | rfl | (simp; done) | (simp [*]; done) | exact congrArg Value.bool (ne_empty _) | exact congrArg Value.bool (eq_empty _)), (by first | rfl | (simp; done) | (simp [*]; done) | exact congrArg Value.bool (ne_empty _) | exact congrArg Value.bool (eq_empty _)), H', ⟨by have := HK1.out; have := HK2.out; have := HJ5.out; omega⟩, ⟨by repeat (first | (with_reducible first | exact HB.out | apply below_alloc | apply pw_below_drewN | apply below_drew1 | refine below_set ?_ GE104.out) | exact HB.out)⟩⟩
        · rw [if_neg c3] at H
          exact absurd H (by simp)
      · rw [if_neg c2] at H
        have c2b0 : decide (x4_1 < (l0.length : Int)) = false := decide_eq_false c2
        clear c2
        obtain rfl := Option.some.inj H
        go_wp2
        repeat (go_quiet (fail); try go_wp2)
        go_ret
        exact ⟨by first | rfl | (simp [errW_none, errW_some] <;> rfl) | (simp [*, errW_none, errW_some] <;> rfl), by repeat (first | (with_reducible first | exact HB.out | apply below_alloc | apply pw_below_drewN | apply below_drew1) | exact HB.out)⟩

end Go.Proofs.Ytdlkofmcioalfaa.PCk
