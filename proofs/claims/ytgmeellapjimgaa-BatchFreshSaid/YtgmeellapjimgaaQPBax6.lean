-- written by a program of this session (wip/tools/pr.py, over the kit's printer): not by hand
import Derived.Test.YtgmeellapjimgaaQPBax0
import Derived.Test.YtgmeellapjimgaaQPBax5
namespace Go.Proofs.Ytgmeellapjimgaa.PBa
open Go.RowKit Go.Proofs.YtgmeellapjimgaaW.PrintWords Go.Proofs.YtgmeellapjimgaaW.PrintLast Go.Proofs.YtgmeellapjimgaaW.PrintMore
attribute [local go_sem] max2_int min2_int max_two min_two max_three min_three max_four min_four   -- for this text's walks alone
set_option linter.unusedVariables false
set_option linter.unusedSimpArgs false

/-! ### batch_Fresh: function 18 -/
def batch_Fresh.l0 : Nat → Int → Int → Int → List (S45) → Int → Int → Option (Int × Int × Int × Int × (List (S45)) × Int)
  | 0, _, _, _, _, _, _ => none
  | k + 1, x0, x1, x2, x3, x16, x17 => if x17 < x16 then (if 0 ≤ x17 then (if x17 < (x3.length : Int) then (batch_Fresh.l0 k x0 x1 x2 (x3.set (x17 : Int).toNat (⟨(rd_T45 x3 x17).f0, (rd_T45 x3 x17).f1, (rd_T45 x3 x17).f2, (rd_T45 x3 x17).f3, (rd_T45 x3 x17).f4, x17⟩ : S45)) x16 (wrap64 (x17 + 1))) else (none)) else (none)) else ((batch_Check.f k x0 (mx (x3.length : Int) 1) x1 x2 x3).bind fun t193 => (if t193 = 0 then (some (x0, mx (x3.length : Int) 1, x1, x2, x3, 0)) else (some (0, 0, 0, 0, ([] : List (S45)), t193))))
def batch_Fresh.f (k : Nat) (a0 : Int) (a1 : Int) (a2 : Int) (l3 : List (S45)) : Option (Int × Int × Int × Int × (List (S45)) × Int) := (api_Record.f l3).bind fun t188 => (batch_Fresh.l0 k a0 a1 a2 t188 (t188.length : Int) 0)
set_option maxRecDepth 100000 in
theorem batch_Fresh.mono_l : ∀ k, (∀ y0 y1 y2 y3 y4 y5, LeO (batch_Fresh.l0 k y0 y1 y2 y3 y4 y5) (batch_Fresh.l0 (k + 1) y0 y1 y2 y3 y4 y5))
  | 0 => fun _ _ _ _ _ _ r h => by first | exact nomatch (show (none : Option _) = some r from h) | (rw [batch_Fresh.l0] at h; cases h; done) | (simp [batch_Fresh.l0] at h; done)
  | k + 1 => by
    have ih0 := batch_Fresh.mono_l k
    · intro y0 y1 y2 y3 y4 y5
      unfold batch_Fresh.l0
      repeat' first
      | (with_reducible exact ih0 _ _ _ _ _ _)
      | (with_reducible exact batch_Check.mono _ _ _ _ _ _)
      | (with_reducible exact LeO.refl _)
      | (with_reducible exact LeO.none _)
      | (with_reducible refine LeO.ite ?_ ?_)
      | (with_reducible refine LeO.bind ?_ (fun _ => ?_))
      | exact ih0 _ _ _ _ _ _
      | exact batch_Check.mono _ _ _ _ _ _
      | exact LeO.none _
      | refine LeO.ite ?_ ?_
      | refine LeO.bind ?_ (fun _ => ?_)
theorem batch_Fresh.mono : ∀ a0 a1 a2 a3 k, LeO (batch_Fresh.f k a0 a1 a2 a3) (batch_Fresh.f (k + 1) a0 a1 a2 a3) := by
  intro a0 a1 a2 a3 k
  have ih0 := batch_Fresh.mono_l k
  unfold batch_Fresh.f
  repeat' first
      | (with_reducible exact ih0 _ _ _ _ _ _)
      | (with_reducible exact batch_Check.mono _ _ _ _ _ _)
      | (with_reducible exact LeO.refl _)
      | (with_reducible exact LeO.none _)
      | (with_reducible refine LeO.ite ?_ ?_)
      | (with_reducible refine LeO.bind ?_ (fun _ => ?_))
      | exact ih0 _ _ _ _ _ _
      | exact batch_Check.mono _ _ _ _ _ _
      | exact LeO.none _
      | refine LeO.ite ?_ ?_
      | refine LeO.bind ?_ (fun _ => ?_)
set_option maxHeartbeats 8000000 in
set_option maxRecDepth 100000 in
theorem batch_Fresh.calls (k : Nat) (a0 : Int) (a1 : Int) (a2 : Int) (A3 : Option Addr) (c3 : Nat) (l3 : List (S45)) (r1 : Int) (r2 : Int) (r3 : Int) (r4 : Int) (r5 : List (S45)) (r6 : Int) (w : World) (hr3 : Kd.C k45 w A3 l3.length l3) (hc3 : l3.length ≤ c3) (h : batch_Fresh.f k a0 a1 a2 l3 = some (r1, r2, r3, r4, r5, r6)) :
    Calls Try.prog 18 #[.int .i64 a0, .int .i64 a1, .int .i64 a2, .slice A3 l3.length c3] w fun e w' => ∃ v4_ : Value, e = .returned (.tuple #[.agg #[.int .i64 r1, .int .i64 r2, .int .i64 r3, .int .i64 r4, v4_], .int .i64 r6]) ∧ Kd.R k45 45 w' w.heap.size (fun _ => True) v4_ r5 ∧ Below w.heap.size w w' := by
  have hu24 := Try.underlying24
  have HR3 := Aside0.mk hr3
  have HC3 := Aside0.mk hc3
  clear hr3 hc3
  have HB := Aside0.mk (Below.refl w.heap.size w)
  have H : ((api_Record.f l3).bind fun t188 => (batch_Fresh.l0 k a0 a1 a2 t188 (t188.length : Int) 0)) = some (r1, r2, r3, r4, r5, r6) := h
  clear h
  replace H := Option.bind_eq_some_iff.mp H
  obtain ⟨t188, A50, H⟩ := H
  replace H : (batch_Fresh.l0 k a0 a1 a2 t188 (t188.length : Int) 0) = some (r1, r2, r3, r4, r5, r6) := H
  have A5 := Aside0.mk A50
  clear A50
  have H' := Aside0.mk H
  clear H
  go_enter Try.func18, Try.ntmps18
  go_wp2_with (first | ((with_reducible refine gate_dst (N := 8) rfl ?_); refine box_event ?hg (N := 8) ?hd (cs := #[.int .i64 0, .int .i64 0, .int .i64 0, .int .i64 0, .slice none 0 0]) (t := 24) ?hr ?_; (case hd => rfl); (case hg => rfl); (case hr => first | (go_simp; done) | (go_simp; rfl)); intro gb187 hg w6 hbox hb; have n0_ := Aside0.mk (below_step (by repeat (first | (with_reducible first | exact HB.out | apply below_alloc | apply pw_below_drewN | apply below_drew1) | exact HB.out)) hb); have n1_ := Aside0.mk (hbox); have n2_ := Aside0.mk ((by rw [hg]; exact (below_size (by repeat (first | (with_reducible first | exact HB.out | apply below_alloc | apply pw_below_drewN | apply below_drew1) | exact HB.out))) : w.heap.size ≤ gb187)); have n3_ := Aside0.mk ((by rw [hg]; exact (below_size (by repeat (first | (with_reducible first | exact HB.out | apply below_alloc | apply pw_below_drewN | apply below_drew1) | exact HB.out))) : w.heap.size ≤ gb187)); clear HB; have HB := n0_; have BK187 := n1_; have GW187 := n2_; have GE187 := n3_; clear n0_ n1_ n2_ n3_; clear hb hbox hg) | ((with_reducible refine gate_callee (f := 32) rfl ?_); refine goesL_ (some 14) rfl rfl Try.func32 (by kernel_rfl) rfl #[.slice A3 l3.length c3] rfl (by (try simp only [List.map_toArray, List.map_cons, List.map_nil]); first | done | rfl | (simp only [List.length_drop, List.length_take]; rfl)) ?_; (with_reducible refine (api_Record.calls _ _ l3 t188 _ ?side1 ?side2 A5.out).mono ?_); (case side1 => repeat (first | exact (Kd.C_below HR3.out HB.out) | (with_reducible refine Kd.C_alloc ?_ _) | (with_reducible refine Kd.C_drewN ?_ _) | (with_reducible refine Kd.C_drew ?_))); (case side2 => exact HC3.out); rintro e w7 ⟨v189, rfl, ho0, hb⟩; refine ⟨_, rfl, ?_⟩; have n0_ := Aside0.mk (Kd.R_lower ho0 (below_size (by repeat (first | (with_reducible first | exact HB.out | apply below_alloc | apply pw_below_drewN | apply below_drew1 | refine below_set ?_ GE187.out) | exact HB.out)))); have n1_ := Aside0.mk (blk_below (g := gb187) (o := .cells #[.int .i64 0, .int .i64 0, .int .i64 0, .int .i64 0, .slice none 0 0] 24 (0, 0)) (by (with_reducible repeat (first | refine blk_drewN ?_ _ | refine blk_drew ?_ | refine blk_alloc ?_ _)); exact BK187.out) hb); have n2_ := Aside0.mk (below_step (by repeat (first | (with_reducible first | exact HB.out | apply below_alloc | apply pw_below_drewN | apply below_drew1 | refine below_set ?_ GE187.out) | exact HB.out)) hb); clear BK187; clear HB; have HO190 := n0_; have BK187 := n1_; have HB := n2_; clear n0_ n1_ n2_; (try clear hb); (try clear hb2); (try clear hk); (try clear hi); (try clear ho0); obtain ⟨Ao8, co8, eo8⟩ := Kd.R_slice HO190.out; subst eo8))
  go_loopg [17] k (fun kq v17 w' => ∃ (x3_1 : List (S45)) (x17_1 : Int), v17 = .int .i64 x17_1 ∧ Aside0 (batch_Fresh.l0 kq a0 a1 a2 x3_1 (t188.length : Int) x17_1 = some (r1, r2, r3, r4, r5, r6)) ∧ Aside0 (kq ≤ k) ∧ Aside0 (Kd.R k45 45 w' w.heap.size (fun _ => True) (.slice Ao8 t188.length co8) x3_1) ∧ Aside0 (w'.heap[gb187]? = some (.cells #[.int .i64 0, .int .i64 0, .int .i64 0, .int .i64 0, (.slice none 0 0)] 24 (0, 0))) ∧ Aside0 (Below w.heap.size w w'))
  case atStart => exact ⟨(t188), (0), (by first | rfl | (simp; done) | (simp [*]; done) | exact congrArg Value.bool (ne_empty _) | exact congrArg Value.bool (eq_empty _)), H', ⟨Nat.le_refl _⟩, ⟨by (with_reducible repeat (first | apply Kd.R_alloc | apply Kd.R_drewN | apply Kd.R_drew)); exact HO190.out⟩, ⟨by (with_reducible repeat (first | refine blk_drewN ?_ _ | refine blk_drew ?_ | refine blk_alloc ?_ _)); exact BK187.out⟩, ⟨by repeat (first | (with_reducible first | exact HB.out | apply below_alloc | apply pw_below_drewN | apply below_drew1 | refine below_set ?_ GE187.out) | exact HB.out)⟩⟩
  case round =>
    clear H'
    try clear c1
    try clear p2
    try clear c3
    obtain ⟨x3_1, x17_1, rfl, HA, HK1, HO_3, BK187, HB⟩ := hrel
    have hl3_1 := (Kd.R_reads' HO_3.out).1
    rw [hl3_1] at HO_3
    (try simp only [hl3_1])
    (try simp only [hl3_1] at BK187)
    cases gk with
    | zero => exact absurd HA.out (by first | (intro h_; exact nomatch (show (none : Option _) = some r from h_)) | simp [batch_Fresh.l0])
    | succ k1 =>
      have H := HA.out
      clear HA
      simp only [batch_Fresh.l0] at H
      by_cases c9 : x17_1 < (t188.length : Int)
      · rw [if_pos c9] at H
        have c9b0 : decide (x17_1 < (t188.length : Int)) = true := decide_eq_true c9
        clear c9
        by_cases c10 : 0 ≤ x17_1
        · rw [if_pos c10] at H
          have c10b0 : decide (0 ≤ x17_1) = true := decide_eq_true c10
          clear c10
          by_cases c11 : x17_1 < (x3_1.length : Int)
          · rw [if_pos c11] at H
            have c11b0 : decide (x17_1 < (x3_1.length : Int)) = true := decide_eq_true c11
            clear c11
            obtain ⟨y191, hy191⟩ : ∃ y_ : List (S45), y_ = (x3_1.set (x17_1 : Int).toNat (⟨(rd_T45 x3_1 x17_1).f0, (rd_T45 x3_1 x17_1).f1, (rd_T45 x3_1 x17_1).f2, (rd_T45 x3_1 x17_1).f3, (rd_T45 x3_1 x17_1).f4, x17_1⟩ : S45)) := ⟨_, rfl⟩
            replace H : (batch_Fresh.l0 k1 a0 a1 a2 y191 (t188.length : Int) (wrap64 (x17_1 + 1))) = some (r1, r2, r3, r4, r5, r6) := by first | (rw [hy191]; with_reducible exact H) | (have H2_ := (Option.bind_some _ _).symm.trans H; rw [hy191]; with_reducible exact H2_) | (have H2_ := (Option.bind_some _ _).symm.trans H; with_reducible exact H2_) | with_reducible exact H | (rw [hy191]; exact H) | exact H
            have Ny191 := Aside0.mk hy191
            clear hy191
            have H' := Aside0.mk H
            clear H
            have p12 : 0 ≤ (x17_1 : Int) := of_decide_eq_true (by first | (with_reducible assumption) | assumption)
            have q12 : (x17_1 : Int) < ((x3_1.length : Int) : Int) := of_decide_eq_true (by first | (with_reducible assumption) | assumption)
            obtain ⟨go12, co12, eo12, gb12, gl12, cl12, HG12⟩ := Kd.R_form HO_3.out (by omega)
            (first | cases eo12 | (injection eo12 with ea_ en_ ec_; (first | subst ea_ | (injection ea_ with ea_; subst ea_)); subst ec_; clear en_))
            have GB12 := Aside0.mk gb12
            have GG12 := Aside0.mk HG12
            clear gb12 gl12 HG12
            obtain ⟨ce12, hcl12, hM12, hcc12, hfr12⟩ := Kd.R_elem HO_3.out z45 (x17_1 : Int) p12 q12
            obtain rfl := k45_openM hM12
            have hx12_0 : wr.cell? ⟨go12, (x17_1 : Int).toNat * 6, none⟩ = some (.bool ((rd_T45 x3_1 x17_1).f0)) := hcc12 0 _ rfl
            have hx12_1 : wr.cell? ⟨go12, (x17_1 : Int).toNat * 6 + 1, none⟩ = some (.string ((rd_T45 x3_1 x17_1).f1)) := hcc12 1 _ rfl
            have hx12_2 : wr.cell? ⟨go12, (x17_1 : Int).toNat * 6 + 2, none⟩ = some (.bool ((rd_T45 x3_1 x17_1).f2)) := hcc12 2 _ rfl
            have hx12_3 : wr.cell? ⟨go12, (x17_1 : Int).toNat * 6 + 3, none⟩ = some (.string ((rd_T45 x3_1 x17_1).f3)) := hcc12 3 _ rfl
            have hx12_4 : wr.cell? ⟨go12, (x17_1 : Int).toNat * 6 + 4, none⟩ = some (.int .i64 ((rd_T45 x3_1 x17_1).f4)) := hcc12 4 _ rfl
            have hx12_5 : wr.cell? ⟨go12, (x17_1 : Int).toNat * 6 + 5, none⟩ = some (.int .i64 ((rd_T45 x3_1 x17_1).f5)) := hcc12 5 _ rfl
            have hf12_0 : wr.frozen? ⟨go12, (x17_1 : Int).toNat * 6, none⟩ = false := hfr12 0
            have hf12_1 : wr.frozen? ⟨go12, (x17_1 : Int).toNat * 6 + 1, none⟩ = false := hfr12 1
            have hf12_2 : wr.frozen? ⟨go12, (x17_1 : Int).toNat * 6 + 2, none⟩ = false := hfr12 2
            have hf12_3 : wr.frozen? ⟨go12, (x17_1 : Int).toNat * 6 + 3, none⟩ = false := hfr12 3
            have hf12_4 : wr.frozen? ⟨go12, (x17_1 : Int).toNat * 6 + 4, none⟩ = false := hfr12 4
            have hf12_5 : wr.frozen? ⟨go12, (x17_1 : Int).toNat * 6 + 5, none⟩ = false := hfr12 5
            clear hcl12 hcc12 hfr12 hM12
            replace p12 := eq_true p12
            replace q12 := eq_true q12
            have HX13 := Aside0.mk (show Kd.R k45 45 wr w.heap.size (fun _ => True) (.slice (some ⟨go12, 0, none⟩) x3_1.length co8) x3_1 from (by (with_reducible repeat (first | apply Kd.R_alloc | apply Kd.R_drewN | apply Kd.R_drew)); exact HO_3.out))
            obtain ⟨ce13, hcl13, hM13, hcc13, hfr13⟩ := Kd.R_elem HX13.out z45 (x17_1 : Int) (of_decide_eq_true (by first | (with_reducible assumption) | assumption)) (by have h_ : (x17_1 : Int) < ((x3_1.length : Int) : Int) := of_decide_eq_true (by first | (with_reducible assumption) | assumption); first | exact h_ | (have e_ := (Kd.R_reads' HO_3.out).1; omega) | simpa using h_)
            obtain rfl := k45_openM hM13
            have HP13 := Kd.R_seg HX13.out (x17_1 : Int) (of_decide_eq_true (by first | (with_reducible assumption) | assumption)) (by have h_ : (x17_1 : Int) < ((x3_1.length : Int) : Int) := of_decide_eq_true (by first | (with_reducible assumption) | assumption); first | exact h_ | (have e_ := (Kd.R_reads' HO_3.out).1; omega) | simpa using h_) (seg := [.int .i64 x17_1]) (j := 5) hcl13 hcc13 (show 6 ≤ 6 from by decide) (x' := (⟨(rd_T45 x3_1 x17_1).f0, (rd_T45 x3_1 x17_1).f1, (rd_T45 x3_1 x17_1).f2, (rd_T45 x3_1 x17_1).f3, (rd_T45 x3_1 x17_1).f4, x17_1⟩ : S45)) (k45_mkM _ _ _ (⟨(rd_T45 x3_1 x17_1).f0, (rd_T45 x3_1 x17_1).f1, (rd_T45 x3_1 x17_1).f2, (rd_T45 x3_1 x17_1).f3, (rd_T45 x3_1 x17_1).f4, x17_1⟩ : S45) ) (fun _ hk => hk)
            have hx13_5 := hcc13 5 _ rfl
            (try simp only [show (k45).sz = 6 from rfl, Nat.mul_one, Nat.add_zero] at hx13_5)
            have hf13_5 := hfr13 5
            (try simp only [show (k45).sz = 6 from rfl, Nat.mul_one, Nat.add_zero] at hf13_5)
            clear hcl13 hcc13 hfr13 hM13
            go_wp2_with (first | ((with_reducible refine gate_store (t := 3) (p := 24) rfl ?_); refine store_event (t := 3) (p := 24) (v := ?vo_w14) (w1 := (wr.setCell ⟨go12, (x17_1 : Int).toNat * 6 + 5, none⟩ (.int .i64 x17_1))) ?hg ?ho ?hn ?hr ?_; (case ho => rfl); (case hg => rfl); (case hn => rfl); (case hr => first | (go_simp; done) | (go_simp; rfl)); intro w14 hw; have hg : wr.grownBy w14 (some go12) := (by rw [hw]; exact HP13.2); have hp_ : Kd.R k45 45 w14 w.heap.size (fun _ => True) (.slice (some ⟨go12, 0, none⟩) x3_1.length co8) y191 := (by rw [hw, Ny191.out]; exact HP13.1); clear HP13; have n0_ := Aside0.mk (hp_); have n1_ := Aside0.mk (blk_grown (g := gb187) (o := .cells #[.int .i64 0, .int .i64 0, .int .i64 0, .int .i64 0, .slice none 0 0] 24 (0, 0)) (by (with_reducible repeat (first | refine blk_drewN ?_ _ | refine blk_drew ?_ | refine blk_alloc ?_ _)); exact BK187.out) hg (Kd.R_ne HO_3.out BK187.out (by decide))); have n2_ := Aside0.mk ((by rw [hw]; exact below_set (HB.out) GB12.out : Below w.heap.size w w14)); clear HO_3; clear BK187; clear HB; have HO_3 := n0_; have BK187 := n1_; have HB := n2_; clear n0_ n1_ n2_; clear hg hw hp_))
            (try simp only [← hl3_1])
            go_roundg k1
            case measure => have := HK1.out; omega
            case rel => exact ⟨(y191), (wrap64 (x17_1 + 1)), (by first | rfl | (simp; done) | (simp [*]; done) | exact congrArg Value.bool (ne_empty _) | exact congrArg Value.bool (eq_empty _)), H', ⟨by have := HK1.out; omega⟩, ⟨by (try simp only [hl3_1]); (with_reducible repeat (first | apply Kd.R_alloc | apply Kd.R_drewN | apply Kd.R_drew)); exact HO_3.out⟩, ⟨by (try simp only [hl3_1]); (with_reducible repeat (first | refine blk_drewN ?_ _ | refine blk_drew ?_ | refine blk_alloc ?_ _)); exact BK187.out⟩, ⟨by repeat (first | (with_reducible first | exact HB.out | apply below_alloc | apply pw_below_drewN | apply below_drew1 | refine below_set ?_ GE187.out) | exact HB.out)⟩⟩
          · rw [if_neg c11] at H
            exact absurd H (by simp)
        · rw [if_neg c10] at H
          exact absurd H (by simp)
      · rw [if_neg c9] at H
        have c9b0 : decide (x17_1 < (t188.length : Int)) = false := decide_eq_false c9
        clear c9
        obtain ⟨ji15, hji15⟩ : ∃ j_ : Int, (mx (x3_1.length : Int) 1) = j_ := ⟨_, rfl⟩
        replace H : ((batch_Check.f k1 a0 (ji15) a1 a2 x3_1).bind fun t193 => (if t193 = 0 then (some (a0, ji15, a1, a2, x3_1, 0)) else (some (0, 0, 0, 0, ([] : List (S45)), t193)))) = some (r1, r2, r3, r4, r5, r6) := by first | (rw [hji15] at H; exact H) | (simp only [hji15] at H ⊢; exact H)
        have hji15_ : (if (x3_1.length : Int) < 1 then 1 else (x3_1.length : Int)) = ji15 := hji15
        replace H := Option.bind_eq_some_iff.mp H
        obtain ⟨t193, A160, H⟩ := H
        replace H : (if t193 = 0 then (some (a0, ji15, a1, a2, x3_1, 0)) else (some (0, 0, 0, 0, ([] : List (S45)), t193))) = some (r1, r2, r3, r4, r5, r6) := H
        have A16 := Aside0.mk A160
        clear A160
        by_cases c17 : t193 = 0
        · rw [if_pos c17] at H
          have c17b0 : (t193 == 0) = true := beq_iff_eq.mpr c17
          have c17b1 : (t193 != 0) = false := bne_eq_false_iff_eq.mpr c17
          clear c17
          simp only [Option.some.injEq, Prod.mk.injEq] at H
          obtain ⟨rfl, rfl, rfl, rfl, rfl, rfl⟩ := H
          have c9c : decide (x17_1 < (x3_1.length : Int)) = false := by rw [← hl3_1]; exact c9b0
          go_wp2_with fail
          obtain ⟨W9, hW9⟩ : ∃ W9, W9 = wr.alloc (.cells #[.int .i64 a0, .int .i64 ji15, .int .i64 a1, .int .i64 a2, .slice Ao8 x3_1.length co8] 24 (0, 0)) := ⟨_, rfl⟩
          have m0_ := Aside0.mk (show W9.heap[wr.heap.size]? = some (.cells #[.int .i64 a0, .int .i64 ji15, .int .i64 a1, .int .i64 a2, .slice Ao8 x3_1.length co8] 24 (0, 0)) from by rw [hW9]; exact heap_alloc_new wr _)
          have m1_ := Aside0.mk (show W9.heap[gb187]? = some (.cells #[.int .i64 0, .int .i64 0, .int .i64 0, .int .i64 0, .slice none 0 0] 24 (0, 0)) from by rw [hW9]; exact blk_alloc BK187.out _)
          have m2_ := Aside0.mk (show Below w.heap.size w W9 from by rw [hW9]; exact below_alloc HB.out _)
          have m3_ := Aside0.mk (show Kd.R k45 45 W9 w.heap.size (fun _ => True) (.slice Ao8 x3_1.length co8) x3_1 from by rw [hW9]; exact Kd.R_alloc HO_3.out _)
          rw [← hW9]
          clear hW9
          refine (batch_Check.calls k1 a0 ji15 a1 a2 Ao8 co8 x3_1 _ W9 (Kd.R_reads' m3_.out).2.2 (Kd.R_reads' m3_.out).2.1 A16.out).mono ?_
          rintro e w8 ⟨rfl, hb⟩
          have n0_ := Aside0.mk ((hb.block _ (blk_lt m0_.out)).trans m0_.out)
          have n1_ := Aside0.mk ((hb.block _ (blk_lt m1_.out)).trans m1_.out)
          have n2_ := Aside0.mk (below_step m2_.out hb)
          have n3_ := Aside0.mk (Kd.R_below m3_.out hb)
          obtain ⟨gt, hgt⟩ : ∃ gt, gt = wr.heap.size := ⟨_, rfl⟩
          rw [← hgt] at n0_ ⊢
          clear hb m0_ m1_ m2_ m3_ hgt
          have y0 : w8.cell? ⟨gt, 0, none⟩ = some (.int .i64 a0) := (blk_cell n0_.out 0).trans rfl
          have y1 : w8.cell? ⟨gt, 1, none⟩ = some (.int .i64 ji15) := (blk_cell n0_.out 1).trans rfl
          have y2 : w8.cell? ⟨gt, 2, none⟩ = some (.int .i64 a1) := (blk_cell n0_.out 2).trans rfl
          have y3 : w8.cell? ⟨gt, 3, none⟩ = some (.int .i64 a2) := (blk_cell n0_.out 3).trans rfl
          have y4 : w8.cell? ⟨gt, 4, none⟩ = some (.slice Ao8 x3_1.length co8) := (blk_cell n0_.out 4).trans rfl
          have q0 : w8.cell? ⟨gb187, 0, none⟩ = some (.int .i64 0) := (blk_cell n1_.out 0).trans rfl
          have q1 : w8.cell? ⟨gb187, 1, none⟩ = some (.int .i64 0) := (blk_cell n1_.out 1).trans rfl
          have q2 : w8.cell? ⟨gb187, 2, none⟩ = some (.int .i64 0) := (blk_cell n1_.out 2).trans rfl
          have q3 : w8.cell? ⟨gb187, 3, none⟩ = some (.int .i64 0) := (blk_cell n1_.out 3).trans rfl
          have q4 : w8.cell? ⟨gb187, 4, none⟩ = some (.slice none 0 0) := (blk_cell n1_.out 4).trans rfl
          have z0 := blk_frozen n1_.out 0
          have z1 := blk_frozen n1_.out 1
          have z2 := blk_frozen n1_.out 2
          have z3 := blk_frozen n1_.out 3
          have z4 := blk_frozen n1_.out 4
          go_wp2_with fail
          have s0 : (World.setCell w8 ⟨gb187, 0, none⟩ (.int .i64 a0)).heap[gb187]? = some (.cells #[.int .i64 a0, .int .i64 0, .int .i64 0, .int .i64 0, .slice none 0 0] 24 (0, 0)) := by simpa using blk_set n1_.out 0 (.int .i64 a0)
          have s1 : (World.setCell (World.setCell w8 ⟨gb187, 0, none⟩ (.int .i64 a0)) ⟨gb187, 1, none⟩ (.int .i64 ji15)).heap[gb187]? = some (.cells #[.int .i64 a0, .int .i64 ji15, .int .i64 0, .int .i64 0, .slice none 0 0] 24 (0, 0)) := by simpa using blk_set s0 1 (.int .i64 ji15)
          have s2 : (World.setCell (World.setCell (World.setCell w8 ⟨gb187, 0, none⟩ (.int .i64 a0)) ⟨gb187, 1, none⟩ (.int .i64 ji15)) ⟨gb187, 2, none⟩ (.int .i64 a1)).heap[gb187]? = some (.cells #[.int .i64 a0, .int .i64 ji15, .int .i64 a1, .int .i64 0, .slice none 0 0] 24 (0, 0)) := by simpa using blk_set s1 2 (.int .i64 a1)
          have s3 : (World.setCell (World.setCell (World.setCell (World.setCell w8 ⟨gb187, 0, none⟩ (.int .i64 a0)) ⟨gb187, 1, none⟩ (.int .i64 ji15)) ⟨gb187, 2, none⟩ (.int .i64 a1)) ⟨gb187, 3, none⟩ (.int .i64 a2)).heap[gb187]? = some (.cells #[.int .i64 a0, .int .i64 ji15, .int .i64 a1, .int .i64 a2, .slice none 0 0] 24 (0, 0)) := by simpa using blk_set s2 3 (.int .i64 a2)
          have s4 : (World.setCell (World.setCell (World.setCell (World.setCell (World.setCell w8 ⟨gb187, 0, none⟩ (.int .i64 a0)) ⟨gb187, 1, none⟩ (.int .i64 ji15)) ⟨gb187, 2, none⟩ (.int .i64 a1)) ⟨gb187, 3, none⟩ (.int .i64 a2)) ⟨gb187, 4, none⟩ (.slice Ao8 x3_1.length co8)).heap[gb187]? = some (.cells #[.int .i64 a0, .int .i64 ji15, .int .i64 a1, .int .i64 a2, .slice Ao8 x3_1.length co8] 24 (0, 0)) := by simpa using blk_set s3 4 (.slice Ao8 x3_1.length co8)
          have GE_ := Aside0.mk (show w.heap.size ≤ gb187 from GE187.out)
          refine bodyPost_ret (results_ct rfl _ _ gb187 24 #[.int .i64 a0, .int .i64 ji15, .int .i64 a1, .int .i64 a2, .slice Ao8 x3_1.length co8] (0, 0) _ rfl s4 Try.underlying24 rfl (by kernel_rfl)) rfl ?_
          exact ⟨_, rfl, (Kd.R_set (Kd.R_set (Kd.R_set (Kd.R_set (Kd.R_set n3_.out n1_.out (by decide) 0 (.int .i64 a0)) s0 (by decide) 1 (.int .i64 ji15)) s1 (by decide) 2 (.int .i64 a1)) s2 (by decide) 3 (.int .i64 a2)) s3 (by decide) 4 (.slice Ao8 x3_1.length co8)), (Below.setCell (Below.setCell (Below.setCell (Below.setCell (Below.setCell n2_.out (p := ⟨gb187, 0, none⟩) GE_.out (.int .i64 a0)) (p := ⟨gb187, 1, none⟩) GE_.out (.int .i64 ji15)) (p := ⟨gb187, 2, none⟩) GE_.out (.int .i64 a1)) (p := ⟨gb187, 3, none⟩) GE_.out (.int .i64 a2)) (p := ⟨gb187, 4, none⟩) GE_.out (.slice Ao8 x3_1.length co8))⟩
        · rw [if_neg c17] at H
          have c17b0 : (t193 == 0) = false := beq_eq_false_iff_ne.mpr c17
          have c17b1 : (t193 != 0) = true := bne_iff_ne.mpr c17
          simp only [Option.some.injEq, Prod.mk.injEq] at H
          obtain ⟨rfl, rfl, rfl, rfl, rfl, rfl⟩ := H
          have c9c : decide (x17_1 < (x3_1.length : Int)) = false := by rw [← hl3_1]; exact c9b0
          go_wp2_with fail
          obtain ⟨W9, hW9⟩ : ∃ W9, W9 = wr.alloc (.cells #[.int .i64 a0, .int .i64 ji15, .int .i64 a1, .int .i64 a2, .slice Ao8 x3_1.length co8] 24 (0, 0)) := ⟨_, rfl⟩
          have m0_ := Aside0.mk (show W9.heap[wr.heap.size]? = some (.cells #[.int .i64 a0, .int .i64 ji15, .int .i64 a1, .int .i64 a2, .slice Ao8 x3_1.length co8] 24 (0, 0)) from by rw [hW9]; exact heap_alloc_new wr _)
          have m1_ := Aside0.mk (show W9.heap[gb187]? = some (.cells #[.int .i64 0, .int .i64 0, .int .i64 0, .int .i64 0, .slice none 0 0] 24 (0, 0)) from by rw [hW9]; exact blk_alloc BK187.out _)
          have m2_ := Aside0.mk (show Below w.heap.size w W9 from by rw [hW9]; exact below_alloc HB.out _)
          have m3_ := Aside0.mk (show Kd.R k45 45 W9 w.heap.size (fun _ => True) (.slice Ao8 x3_1.length co8) x3_1 from by rw [hW9]; exact Kd.R_alloc HO_3.out _)
          rw [← hW9]
          clear hW9
          refine (batch_Check.calls k1 a0 ji15 a1 a2 Ao8 co8 x3_1 _ W9 (Kd.R_reads' m3_.out).2.2 (Kd.R_reads' m3_.out).2.1 A16.out).mono ?_
          rintro e w8 ⟨rfl, hb⟩
          have n0_ := Aside0.mk ((hb.block _ (blk_lt m0_.out)).trans m0_.out)
          have n1_ := Aside0.mk ((hb.block _ (blk_lt m1_.out)).trans m1_.out)
          have n2_ := Aside0.mk (below_step m2_.out hb)
          have n3_ := Aside0.mk (Kd.R_below m3_.out hb)
          obtain ⟨gt, hgt⟩ : ∃ gt, gt = wr.heap.size := ⟨_, rfl⟩
          rw [← hgt] at n0_ ⊢
          clear hb m0_ m1_ m2_ m3_ hgt
          have y0 : w8.cell? ⟨gt, 0, none⟩ = some (.int .i64 a0) := (blk_cell n0_.out 0).trans rfl
          have y1 : w8.cell? ⟨gt, 1, none⟩ = some (.int .i64 ji15) := (blk_cell n0_.out 1).trans rfl
          have y2 : w8.cell? ⟨gt, 2, none⟩ = some (.int .i64 a1) := (blk_cell n0_.out 2).trans rfl
          have y3 : w8.cell? ⟨gt, 3, none⟩ = some (.int .i64 a2) := (blk_cell n0_.out 3).trans rfl
          have y4 : w8.cell? ⟨gt, 4, none⟩ = some (.slice Ao8 x3_1.length co8) := (blk_cell n0_.out 4).trans rfl
          have q0 : w8.cell? ⟨gb187, 0, none⟩ = some (.int .i64 0) := (blk_cell n1_.out 0).trans rfl
          have q1 : w8.cell? ⟨gb187, 1, none⟩ = some (.int .i64 0) := (blk_cell n1_.out 1).trans rfl
          have q2 : w8.cell? ⟨gb187, 2, none⟩ = some (.int .i64 0) := (blk_cell n1_.out 2).trans rfl
          have q3 : w8.cell? ⟨gb187, 3, none⟩ = some (.int .i64 0) := (blk_cell n1_.out 3).trans rfl
          have q4 : w8.cell? ⟨gb187, 4, none⟩ = some (.slice none 0 0) := (blk_cell n1_.out 4).trans rfl
          have z0 := blk_frozen n1_.out 0
          have z1 := blk_frozen n1_.out 1
          have z2 := blk_frozen n1_.out 2
          have z3 := blk_frozen n1_.out 3
          have z4 := blk_frozen n1_.out 4
          go_wp2_with fail
          have s0 : (World.setCell w8 ⟨gb187, 0, none⟩ (.int .i64 0)).heap[gb187]? = some (.cells #[.int .i64 0, .int .i64 0, .int .i64 0, .int .i64 0, .slice none 0 0] 24 (0, 0)) := by simpa using blk_set n1_.out 0 (.int .i64 0)
          have s1 : (World.setCell (World.setCell w8 ⟨gb187, 0, none⟩ (.int .i64 0)) ⟨gb187, 1, none⟩ (.int .i64 0)).heap[gb187]? = some (.cells #[.int .i64 0, .int .i64 0, .int .i64 0, .int .i64 0, .slice none 0 0] 24 (0, 0)) := by simpa using blk_set s0 1 (.int .i64 0)
          have s2 : (World.setCell (World.setCell (World.setCell w8 ⟨gb187, 0, none⟩ (.int .i64 0)) ⟨gb187, 1, none⟩ (.int .i64 0)) ⟨gb187, 2, none⟩ (.int .i64 0)).heap[gb187]? = some (.cells #[.int .i64 0, .int .i64 0, .int .i64 0, .int .i64 0, .slice none 0 0] 24 (0, 0)) := by simpa using blk_set s1 2 (.int .i64 0)
          have s3 : (World.setCell (World.setCell (World.setCell (World.setCell w8 ⟨gb187, 0, none⟩ (.int .i64 0)) ⟨gb187, 1, none⟩ (.int .i64 0)) ⟨gb187, 2, none⟩ (.int .i64 0)) ⟨gb187, 3, none⟩ (.int .i64 0)).heap[gb187]? = some (.cells #[.int .i64 0, .int .i64 0, .int .i64 0, .int .i64 0, .slice none 0 0] 24 (0, 0)) := by simpa using blk_set s2 3 (.int .i64 0)
          have s4 : (World.setCell (World.setCell (World.setCell (World.setCell (World.setCell w8 ⟨gb187, 0, none⟩ (.int .i64 0)) ⟨gb187, 1, none⟩ (.int .i64 0)) ⟨gb187, 2, none⟩ (.int .i64 0)) ⟨gb187, 3, none⟩ (.int .i64 0)) ⟨gb187, 4, none⟩ (.slice none 0 0)).heap[gb187]? = some (.cells #[.int .i64 0, .int .i64 0, .int .i64 0, .int .i64 0, .slice none 0 0] 24 (0, 0)) := by simpa using blk_set s3 4 (.slice none 0 0)
          have GE_ := Aside0.mk (show w.heap.size ≤ gb187 from GE187.out)
          refine bodyPost_ret (results_ct rfl _ _ gb187 24 #[.int .i64 0, .int .i64 0, .int .i64 0, .int .i64 0, .slice none 0 0] (0, 0) _ rfl s4 Try.underlying24 rfl (by kernel_rfl)) rfl ?_
          exact ⟨_, rfl, Kd.R_nil _ _ _ _ _, (Below.setCell (Below.setCell (Below.setCell (Below.setCell (Below.setCell n2_.out (p := ⟨gb187, 0, none⟩) GE_.out (.int .i64 0)) (p := ⟨gb187, 1, none⟩) GE_.out (.int .i64 0)) (p := ⟨gb187, 2, none⟩) GE_.out (.int .i64 0)) (p := ⟨gb187, 3, none⟩) GE_.out (.int .i64 0)) (p := ⟨gb187, 4, none⟩) GE_.out (.slice none 0 0))⟩

/-! ### bollardlaw13_awake: function 12 -/
def bollardlaw13_awake.f (k : Nat)  : Option (Bool) := (batch_Fresh.f k 7 0 0 (([(⟨false, (⟨#[]⟩ : ByteArray), true, (⟨#[97]⟩ : ByteArray), 0, 0⟩ : S45)] : List (S45)))).bind fun bt197 => ((batch_Encode.f k bt197.1 bt197.2.1 bt197.2.2.1 bt197.2.2.2.1 bt197.2.2.2.2.1).bind fun bt206 => (if bt197.2.2.2.2.2 = 0 then (if bt206.2 = 0 then (if (bt206.1.length : Int) = 53 then (some (bt197.2.1 == 1)) else (some false)) else (some false)) else (some false)))
theorem bollardlaw13_awake.mono : ∀ k, LeO (bollardlaw13_awake.f k ) (bollardlaw13_awake.f (k + 1) ) := by
  intro  k
  unfold bollardlaw13_awake.f
  repeat' first
      | (with_reducible exact batch_Encode.mono _ _ _ _ _ _)
      | (with_reducible exact batch_Fresh.mono _ _ _ _ _)
      | (with_reducible exact LeO.refl _)
      | (with_reducible exact LeO.none _)
      | (with_reducible refine LeO.ite ?_ ?_)
      | (with_reducible refine LeO.bind ?_ (fun _ => ?_))
      | exact batch_Encode.mono _ _ _ _ _ _
      | exact batch_Fresh.mono _ _ _ _ _
      | exact LeO.none _
      | refine LeO.ite ?_ ?_
      | refine LeO.bind ?_ (fun _ => ?_)
set_option maxHeartbeats 8000000 in
set_option maxRecDepth 100000 in
theorem bollardlaw13_awake.calls (k : Nat)  (r : Bool) (w : World) (h : bollardlaw13_awake.f k  = some r) :
    Calls Try.prog 12 #[] w fun e w' => e = .returned (.bool r) ∧ Below w.heap.size w w' := by
  have hu45 := Try.underlying45
  have hu24 := Try.underlying24
  have HB := Aside0.mk (Below.refl w.heap.size w)
  have H : ((batch_Fresh.f k 7 0 0 (([(⟨false, (⟨#[]⟩ : ByteArray), true, (⟨#[97]⟩ : ByteArray), 0, 0⟩ : S45)] : List (S45)))).bind fun bt197 => ((batch_Encode.f k bt197.1 bt197.2.1 bt197.2.2.1 bt197.2.2.2.1 bt197.2.2.2.2.1).bind fun bt206 => (if bt197.2.2.2.2.2 = 0 then (if bt206.2 = 0 then (if (bt206.1.length : Int) = 53 then (some (bt197.2.1 == 1)) else (some false)) else (some false)) else (some false)))) = some r := h
  clear h
  obtain ⟨y194, hy194⟩ : ∃ y_ : List (S45), y_ = (([(⟨false, (⟨#[]⟩ : ByteArray), true, (⟨#[97]⟩ : ByteArray), 0, 0⟩ : S45)] : List (S45))) := ⟨_, rfl⟩
  replace H : ((batch_Fresh.f k 7 0 0 y194).bind fun bt197 => ((batch_Encode.f k bt197.1 bt197.2.1 bt197.2.2.1 bt197.2.2.2.1 bt197.2.2.2.2.1).bind fun bt206 => (if bt197.2.2.2.2.2 = 0 then (if bt206.2 = 0 then (if (bt206.1.length : Int) = 53 then (some (bt197.2.1 == 1)) else (some false)) else (some false)) else (some false)))) = some r := by first | (rw [hy194]; with_reducible exact H) | (have H2_ := (Option.bind_some _ _).symm.trans H; rw [hy194]; with_reducible exact H2_) | (have H2_ := (Option.bind_some _ _).symm.trans H; with_reducible exact H2_) | with_reducible exact H | (rw [hy194]; exact H) | exact H
  have Ny194 := Aside0.mk hy194
  clear hy194
  replace H := Option.bind_eq_some_iff.mp H
  obtain ⟨⟨t197, t198, t199, t200, t201, t204⟩, A10, H⟩ := H
  replace H : ((batch_Encode.f k t197 t198 t199 t200 t201).bind fun bt206 => (if t204 = 0 then (if bt206.2 = 0 then (if (bt206.1.length : Int) = 53 then (some (t198 == 1)) else (some false)) else (some false)) else (some false))) = some r := H
  have A1 := Aside0.mk A10
  clear A10
  replace H := Option.bind_eq_some_iff.mp H
  obtain ⟨⟨t206, t209⟩, A20, H⟩ := H
  replace H : (if t204 = 0 then (if t209 = 0 then (if (t206.length : Int) = 53 then (some (t198 == 1)) else (some false)) else (some false)) else (some false)) = some r := H
  have A2 := Aside0.mk A20
  clear A20
  by_cases c3 : t204 = 0
  · rw [if_pos c3] at H
    have c3b0 : (t204 == 0) = true := beq_iff_eq.mpr c3
    have c3b1 : (t204 != 0) = false := bne_eq_false_iff_eq.mpr c3
    clear c3
    by_cases c4 : t209 = 0
    · rw [if_pos c4] at H
      have c4b0 : (t209 == 0) = true := beq_iff_eq.mpr c4
      have c4b1 : (t209 != 0) = false := bne_eq_false_iff_eq.mpr c4
      clear c4
      by_cases c5 : (t206.length : Int) = 53
      · rw [if_pos c5] at H
        have c5b0 : ((t206.length : Int) == 53) = true := beq_iff_eq.mpr c5
        have c5b1 : ((t206.length : Int) != 53) = false := bne_eq_false_iff_eq.mpr c5
        clear c5
        obtain rfl := Option.some.inj H
        go_enter Try.func12, Try.ntmps12
        go_wp2_with (first | ((with_reducible refine gate_dst (N := 7) rfl ?_); (try (refine gate_guard (by rfl) ?_; dsimp only)); refine Kd.R_lit k45 _ 45 ?hg (N := 7) ?hd (xs := ([(⟨false, (⟨#[]⟩ : ByteArray), true, (⟨#[97]⟩ : ByteArray), 0, 0⟩ : S45)] : List (S45))) (inner := [.bool false, .string (⟨#[]⟩ : ByteArray), .bool true, .string (⟨#[97]⟩ : ByteArray), .int .i64 0, .int .i64 0]) (ok := fun _ => True) (okp := fun _ => True) ?hr ?hp (fun _ hk => hk) trivial (Below.refl _ _) (Nat.le_refl _) (by simp) ?_; (case hd => rfl); (case hg => rfl); (case hr => first | (go_simp; done) | (go_simp; rfl)); (case hp => exact (Reps.c6 (show Kd.M k45 _ _ _ (⟨false, (⟨#[]⟩ : ByteArray), true, (⟨#[97]⟩ : ByteArray), 0, 0⟩ : S45) [.bool false, .string (⟨#[]⟩ : ByteArray), .bool true, .string (⟨#[97]⟩ : ByteArray), .int .i64 0, .int .i64 0] from (k45_mkM _ _ _ (⟨false, (⟨#[]⟩ : ByteArray), true, (⟨#[97]⟩ : ByteArray), 0, 0⟩ : S45) )) (Reps.none _ _))); intro v195 w6 ho7 hb hg_ hnew_; clear hg_ hnew_; (first | rw [← Ny194.out] at ho7 | (simp only [Int.reduceToNat] at ho7; rw [← Ny194.out] at ho7)); have n0_ := Aside0.mk (Kd.R_lower ho7 (below_size (by repeat (first | (with_reducible first | exact HB.out | apply below_alloc | apply pw_below_drewN | apply below_drew1) | exact HB.out)))); have n1_ := Aside0.mk (below_step (by repeat (first | (with_reducible first | exact HB.out | apply below_alloc | apply pw_below_drewN | apply below_drew1) | exact HB.out)) hb); clear HB; have HO196 := n0_; have HB := n1_; clear n0_ n1_; clear hb ho7; obtain ⟨Ao8, co8, eo8⟩ := Kd.R_slice HO196.out; subst eo8) | ((with_reducible refine gate_callee (f := 18) rfl ?_); refine goesL_ (some 8) rfl rfl Try.func18 (by kernel_rfl) rfl #[.int .i64 7, .int .i64 0, .int .i64 0, .slice Ao8 y194.length co8] rfl (by (try simp only [List.map_toArray, List.map_cons, List.map_nil]); first | done | rfl | (simp only [List.length_drop, List.length_take]; rfl)) ?_; (with_reducible refine (batch_Fresh.calls k 7 0 0 _ _ y194 t197 t198 t199 t200 t201 t204 _ ?side1 ?side2 A1.out).mono ?_); (case side1 => repeat (first | exact (Kd.R_reads' HO196.out).2.2 | (with_reducible refine Kd.C_alloc ?_ _) | (with_reducible refine Kd.C_drewN ?_ _) | (with_reducible refine Kd.C_drew ?_))); (case side2 => exact (Kd.R_reads' HO196.out).2.1); rintro e w9 ⟨v202, rfl, ho0, hb⟩; refine ⟨_, rfl, ?_⟩; have n0_ := Aside0.mk (Kd.R_elder' (by (with_reducible repeat (first | apply Kd.R_alloc | apply Kd.R_drewN | apply Kd.R_drew)); exact HO196.out) (Kd.R_base ho0) hb); have n1_ := Aside0.mk (Kd.R_lower (Kd.R_new' ho0 (Kd.R_lt (by (with_reducible repeat (first | apply Kd.R_alloc | apply Kd.R_drewN | apply Kd.R_drew)); exact HO196.out))) (below_size (by repeat (first | (with_reducible first | exact HB.out | apply below_alloc | apply pw_below_drewN | apply below_drew1) | exact HB.out)))); have n2_ := Aside0.mk (below_step (by repeat (first | (with_reducible first | exact HB.out | apply below_alloc | apply pw_below_drewN | apply below_drew1) | exact HB.out)) hb); clear HO196; clear HB; have HO196 := n0_; have HO203 := n1_; have HB := n2_; clear n0_ n1_ n2_; (try clear hb); (try clear hb2); (try clear hk); (try clear hi); (try clear ho0)) | ((with_reducible refine gate_dst (N := 1) rfl ?_); (try (refine gate_guard (by rfl) ?_; dsimp only)); refine box_event ?hg (N := 1) ?hd (cs := #[.int .i64 0, .int .i64 0, .int .i64 0, .int .i64 0, .slice none 0 0]) (t := 24) ?hr ?_; (case hd => rfl); (case hg => rfl); (case hr => first | (go_simp; done) | (go_simp; rfl)); intro gb205 hg w10 hbox hb; have n0_ := Aside0.mk (Kd.R_below (by (with_reducible repeat (first | apply Kd.R_alloc | apply Kd.R_drewN | apply Kd.R_drew)); exact HO196.out) hb); have n1_ := Aside0.mk (Kd.R_below (by (with_reducible repeat (first | apply Kd.R_alloc | apply Kd.R_drewN | apply Kd.R_drew)); exact HO203.out) hb); have n2_ := Aside0.mk (below_step (by repeat (first | (with_reducible first | exact HB.out | apply below_alloc | apply pw_below_drewN | apply below_drew1) | exact HB.out)) hb); have n3_ := Aside0.mk (hbox); have n4_ := Aside0.mk ((by rw [hg]; exact (below_size (by repeat (first | (with_reducible first | exact HB.out | apply below_alloc | apply pw_below_drewN | apply below_drew1) | exact HB.out))) : w.heap.size ≤ gb205)); have n5_ := Aside0.mk ((by rw [hg]; exact (below_size (by repeat (first | (with_reducible first | exact HB.out | apply below_alloc | apply pw_below_drewN | apply below_drew1) | exact HB.out))) : w.heap.size ≤ gb205)); clear HO196; clear HO203; clear HB; have HO196 := n0_; have HO203 := n1_; have HB := n2_; have BK205 := n3_; have GW205 := n4_; have GE205 := n5_; clear n0_ n1_ n2_ n3_ n4_ n5_; clear hb hbox hg; have hcz11_0 : w10.cell? ⟨gb205, 0, none⟩ = some (.int .i64 0) := (blk_cell BK205.out 0).trans rfl; have hcz11_1 : w10.cell? ⟨gb205, 1, none⟩ = some (.int .i64 0) := (blk_cell BK205.out 1).trans rfl; have hcz11_2 : w10.cell? ⟨gb205, 2, none⟩ = some (.int .i64 0) := (blk_cell BK205.out 2).trans rfl; have hcz11_3 : w10.cell? ⟨gb205, 3, none⟩ = some (.int .i64 0) := (blk_cell BK205.out 3).trans rfl; have hcz11_4 : w10.cell? ⟨gb205, 4, none⟩ = some (.slice none 0 0) := (blk_cell BK205.out 4).trans rfl; have hfz11_0 := blk_frozen BK205.out 0; have hfz11_1 := blk_frozen BK205.out 1; have hfz11_2 := blk_frozen BK205.out 2; have hfz11_3 := blk_frozen BK205.out 3; have hfz11_4 := blk_frozen BK205.out 4; obtain ⟨Ao12, co12, eo12⟩ := Kd.R_slice HO203.out; subst eo12) | ((with_reducible refine gate_callee (f := 13) rfl ?_); refine goesL_ (some 13) rfl rfl Try.func13 (by kernel_rfl) rfl #[.agg #[.int .i64 t197, .int .i64 t198, .int .i64 t199, .int .i64 t200, .slice Ao12 t201.length co12]] rfl (by (try simp only [List.map_toArray, List.map_cons, List.map_nil]); first | done | rfl | (simp only [List.length_drop, List.length_take]; rfl)) ?_; (with_reducible refine (batch_Encode.calls k t197 t198 t199 t200 _ _ t201 t206 t209 _ ?side1 ?side2 A2.out).mono ?_); (case side1 => refine (Kd.R_reads' (e := 45) (base := w.heap.size) (ok := fun k_ => (True ∧ some k_ ≠ (.slice Ao8 y194.length co8 : Value).ownBlock)) (n := t201.length) (c := co12) ?_).2.2; exact (by (with_reducible repeat (first | apply Kd.R_alloc | apply Kd.R_drewN | apply Kd.R_drew)); exact (Kd.R_mono (Kd.R_far (p := ⟨gb205, 4, none⟩) (Kd.R_far (p := ⟨gb205, 3, none⟩) (Kd.R_far (p := ⟨gb205, 2, none⟩) (Kd.R_far (p := ⟨gb205, 1, none⟩) (Kd.R_far (p := ⟨gb205, 0, none⟩) (Kd.R_types HO203.out BK205.out (by decide)) (fun _ hk => hk.2) (.int .i64 t197)) (fun _ hk => hk.2) (.int .i64 t198)) (fun _ hk => hk.2) (.int .i64 t199)) (fun _ hk => hk.2) (.int .i64 t200)) (fun _ hk => hk.2) (.slice Ao12 t201.length co12)) (fun _ h_ => h_.1)))); (case side2 => exact (Kd.R_reads' HO203.out).2.1); rintro e w13 ⟨v207, rfl, ho0, hb⟩; refine ⟨_, rfl, ?_⟩; have n0_ := Aside0.mk (Kd.R_below (by (with_reducible repeat (first | apply Kd.R_alloc | apply Kd.R_drewN | apply Kd.R_drew)); exact (Kd.R_mono (Kd.R_far (p := ⟨gb205, 4, none⟩) (Kd.R_far (p := ⟨gb205, 3, none⟩) (Kd.R_far (p := ⟨gb205, 2, none⟩) (Kd.R_far (p := ⟨gb205, 1, none⟩) (Kd.R_far (p := ⟨gb205, 0, none⟩) (Kd.R_types HO196.out BK205.out (by decide)) (fun _ hk => hk.2) (.int .i64 t197)) (fun _ hk => hk.2) (.int .i64 t198)) (fun _ hk => hk.2) (.int .i64 t199)) (fun _ hk => hk.2) (.int .i64 t200)) (fun _ hk => hk.2) (.slice Ao12 t201.length co12)) (fun _ h_ => h_.1))) hb); have n1_ := Aside0.mk (Kd.R_below (by (with_reducible repeat (first | apply Kd.R_alloc | apply Kd.R_drewN | apply Kd.R_drew)); exact (Kd.R_mono (Kd.R_far (p := ⟨gb205, 4, none⟩) (Kd.R_far (p := ⟨gb205, 3, none⟩) (Kd.R_far (p := ⟨gb205, 2, none⟩) (Kd.R_far (p := ⟨gb205, 1, none⟩) (Kd.R_far (p := ⟨gb205, 0, none⟩) (Kd.R_types HO203.out BK205.out (by decide)) (fun _ hk => hk.2) (.int .i64 t197)) (fun _ hk => hk.2) (.int .i64 t198)) (fun _ hk => hk.2) (.int .i64 t199)) (fun _ hk => hk.2) (.int .i64 t200)) (fun _ hk => hk.2) (.slice Ao12 t201.length co12)) (fun _ h_ => h_.1))) hb); have n2_ := Aside0.mk (Kd.R_lower ho0 (below_size (by repeat (first | (with_reducible first | exact HB.out | apply below_alloc | apply pw_below_drewN | apply below_drew1 | refine below_set ?_ GE205.out) | exact HB.out)))); have n3_ := Aside0.mk (blk_below (g := gb205) (o := .cells #[.int .i64 t197, .int .i64 t198, .int .i64 t199, .int .i64 t200, .slice Ao12 t201.length co12] 24 (0, 0)) (by (with_reducible repeat (first | refine blk_drewN ?_ _ | refine blk_drew ?_ | refine blk_alloc ?_ _)); refine blk_put (cs := #[.int .i64 t197, .int .i64 t198, .int .i64 t199, .int .i64 t200, .slice none 0 0]) ?_ 4 _ (by first | rfl | (simp only [*, List.setIfInBounds_toArray, List.set_cons_zero, List.set_cons_succ]; done) | (simp [*]; done)); (with_reducible repeat (first | refine blk_drewN ?_ _ | refine blk_drew ?_ | refine blk_alloc ?_ _)); refine blk_put (cs := #[.int .i64 t197, .int .i64 t198, .int .i64 t199, .int .i64 0, .slice none 0 0]) ?_ 3 _ (by first | rfl | (simp only [*, List.setIfInBounds_toArray, List.set_cons_zero, List.set_cons_succ]; done) | (simp [*]; done)); (with_reducible repeat (first | refine blk_drewN ?_ _ | refine blk_drew ?_ | refine blk_alloc ?_ _)); refine blk_put (cs := #[.int .i64 t197, .int .i64 t198, .int .i64 0, .int .i64 0, .slice none 0 0]) ?_ 2 _ (by first | rfl | (simp only [*, List.setIfInBounds_toArray, List.set_cons_zero, List.set_cons_succ]; done) | (simp [*]; done)); (with_reducible repeat (first | refine blk_drewN ?_ _ | refine blk_drew ?_ | refine blk_alloc ?_ _)); refine blk_put (cs := #[.int .i64 t197, .int .i64 0, .int .i64 0, .int .i64 0, .slice none 0 0]) ?_ 1 _ (by first | rfl | (simp only [*, List.setIfInBounds_toArray, List.set_cons_zero, List.set_cons_succ]; done) | (simp [*]; done)); (with_reducible repeat (first | refine blk_drewN ?_ _ | refine blk_drew ?_ | refine blk_alloc ?_ _)); refine blk_put (cs := #[.int .i64 0, .int .i64 0, .int .i64 0, .int .i64 0, .slice none 0 0]) ?_ 0 _ (by first | rfl | (simp only [*, List.setIfInBounds_toArray, List.set_cons_zero, List.set_cons_succ]; done) | (simp [*]; done)); (with_reducible repeat (first | refine blk_drewN ?_ _ | refine blk_drew ?_ | refine blk_alloc ?_ _)); exact BK205.out) hb); have n4_ := Aside0.mk (below_step (by repeat (first | (with_reducible first | exact HB.out | apply below_alloc | apply pw_below_drewN | apply below_drew1 | refine below_set ?_ GE205.out) | exact HB.out)) hb); clear HO196; clear HO203; clear BK205; clear HB; have HO196 := n0_; have HO203 := n1_; have HO208 := n2_; have BK205 := n3_; have HB := n4_; clear n0_ n1_ n2_ n3_ n4_; (try clear hb); (try clear hb2); (try clear hk); (try clear hi); (try clear ho0); obtain ⟨Ao14, co14, eo14⟩ := Kd.R_slice HO208.out; subst eo14; have hcz15_0 : w13.cell? ⟨gb205, 0, none⟩ = some (.int .i64 t197) := (blk_cell BK205.out 0).trans rfl; have hcz15_1 : w13.cell? ⟨gb205, 1, none⟩ = some (.int .i64 t198) := (blk_cell BK205.out 1).trans rfl; have hcz15_2 : w13.cell? ⟨gb205, 2, none⟩ = some (.int .i64 t199) := (blk_cell BK205.out 2).trans rfl; have hcz15_3 : w13.cell? ⟨gb205, 3, none⟩ = some (.int .i64 t200) := (blk_cell BK205.out 3).trans rfl; have hcz15_4 : w13.cell? ⟨gb205, 4, none⟩ = some (.slice Ao12 t201.length co12) := (blk_cell BK205.out 4).trans rfl; have hfz15_0 := blk_frozen BK205.out 0; have hfz15_1 := blk_frozen BK205.out 1; have hfz15_2 := blk_frozen BK205.out 2; have hfz15_3 := blk_frozen BK205.out 3; have hfz15_4 := blk_frozen BK205.out 4))
        go_ret
        exact ⟨by first | rfl | (simp [errW_none, errW_some] <;> rfl) | (simp [*, errW_none, errW_some] <;> rfl), by repeat (first | (with_reducible first | exact HB.out | apply below_alloc | apply pw_below_drewN | apply below_drew1 | refine below_set ?_ GE205.out) | exact HB.out)⟩
      · rw [if_neg c5] at H
        have c5b0 : ((t206.length : Int) == 53) = false := beq_eq_false_iff_ne.mpr c5
        have c5b1 : ((t206.length : Int) != 53) = true := bne_iff_ne.mpr c5
        obtain rfl := Option.some.inj H
        go_enter Try.func12, Try.ntmps12
        go_wp2_with (first | ((with_reducible refine gate_dst (N := 7) rfl ?_); (try (refine gate_guard (by rfl) ?_; dsimp only)); refine Kd.R_lit k45 _ 45 ?hg (N := 7) ?hd (xs := ([(⟨false, (⟨#[]⟩ : ByteArray), true, (⟨#[97]⟩ : ByteArray), 0, 0⟩ : S45)] : List (S45))) (inner := [.bool false, .string (⟨#[]⟩ : ByteArray), .bool true, .string (⟨#[97]⟩ : ByteArray), .int .i64 0, .int .i64 0]) (ok := fun _ => True) (okp := fun _ => True) ?hr ?hp (fun _ hk => hk) trivial (Below.refl _ _) (Nat.le_refl _) (by simp) ?_; (case hd => rfl); (case hg => rfl); (case hr => first | (go_simp; done) | (go_simp; rfl)); (case hp => exact (Reps.c6 (show Kd.M k45 _ _ _ (⟨false, (⟨#[]⟩ : ByteArray), true, (⟨#[97]⟩ : ByteArray), 0, 0⟩ : S45) [.bool false, .string (⟨#[]⟩ : ByteArray), .bool true, .string (⟨#[97]⟩ : ByteArray), .int .i64 0, .int .i64 0] from (k45_mkM _ _ _ (⟨false, (⟨#[]⟩ : ByteArray), true, (⟨#[97]⟩ : ByteArray), 0, 0⟩ : S45) )) (Reps.none _ _))); intro v195 w16 ho17 hb hg_ hnew_; clear hg_ hnew_; (first | rw [← Ny194.out] at ho17 | (simp only [Int.reduceToNat] at ho17; rw [← Ny194.out] at ho17)); have n0_ := Aside0.mk (Kd.R_lower ho17 (below_size (by repeat (first | (with_reducible first | exact HB.out | apply below_alloc | apply pw_below_drewN | apply below_drew1) | exact HB.out)))); have n1_ := Aside0.mk (below_step (by repeat (first | (with_reducible first | exact HB.out | apply below_alloc | apply pw_below_drewN | apply below_drew1) | exact HB.out)) hb); clear HB; have HO196 := n0_; have HB := n1_; clear n0_ n1_; clear hb ho17; obtain ⟨Ao18, co18, eo18⟩ := Kd.R_slice HO196.out; subst eo18) | ((with_reducible refine gate_callee (f := 18) rfl ?_); refine goesL_ (some 8) rfl rfl Try.func18 (by kernel_rfl) rfl #[.int .i64 7, .int .i64 0, .int .i64 0, .slice Ao18 y194.length co18] rfl (by (try simp only [List.map_toArray, List.map_cons, List.map_nil]); first | done | rfl | (simp only [List.length_drop, List.length_take]; rfl)) ?_; (with_reducible refine (batch_Fresh.calls k 7 0 0 _ _ y194 t197 t198 t199 t200 t201 t204 _ ?side1 ?side2 A1.out).mono ?_); (case side1 => repeat (first | exact (Kd.R_reads' HO196.out).2.2 | (with_reducible refine Kd.C_alloc ?_ _) | (with_reducible refine Kd.C_drewN ?_ _) | (with_reducible refine Kd.C_drew ?_))); (case side2 => exact (Kd.R_reads' HO196.out).2.1); rintro e w19 ⟨v202, rfl, ho0, hb⟩; refine ⟨_, rfl, ?_⟩; have n0_ := Aside0.mk (Kd.R_elder' (by (with_reducible repeat (first | apply Kd.R_alloc | apply Kd.R_drewN | apply Kd.R_drew)); exact HO196.out) (Kd.R_base ho0) hb); have n1_ := Aside0.mk (Kd.R_lower (Kd.R_new' ho0 (Kd.R_lt (by (with_reducible repeat (first | apply Kd.R_alloc | apply Kd.R_drewN | apply Kd.R_drew)); exact HO196.out))) (below_size (by repeat (first | (with_reducible first | exact HB.out | apply below_alloc | apply pw_below_drewN | apply below_drew1) | exact HB.out)))); have n2_ := Aside0.mk (below_step (by repeat (first | (with_reducible first | exact HB.out | apply below_alloc | apply pw_below_drewN | apply below_drew1) | exact HB.out)) hb); clear HO196; clear HB; have HO196 := n0_; have HO203 := n1_; have HB := n2_; clear n0_ n1_ n2_; (try clear hb); (try clear hb2); (try clear hk); (try clear hi); (try clear ho0)) | ((with_reducible refine gate_dst (N := 1) rfl ?_); (try (refine gate_guard (by rfl) ?_; dsimp only)); refine box_event ?hg (N := 1) ?hd (cs := #[.int .i64 0, .int .i64 0, .int .i64 0, .int .i64 0, .slice none 0 0]) (t := 24) ?hr ?_; (case hd => rfl); (case hg => rfl); (case hr => first | (go_simp; done) | (go_simp; rfl)); intro gb205 hg w20 hbox hb; have n0_ := Aside0.mk (Kd.R_below (by (with_reducible repeat (first | apply Kd.R_alloc | apply Kd.R_drewN | apply Kd.R_drew)); exact HO196.out) hb); have n1_ := Aside0.mk (Kd.R_below (by (with_reducible repeat (first | apply Kd.R_alloc | apply Kd.R_drewN | apply Kd.R_drew)); exact HO203.out) hb); have n2_ := Aside0.mk (below_step (by repeat (first | (with_reducible first | exact HB.out | apply below_alloc | apply pw_below_drewN | apply below_drew1) | exact HB.out)) hb); have n3_ := Aside0.mk (hbox); have n4_ := Aside0.mk ((by rw [hg]; exact (below_size (by repeat (first | (with_reducible first | exact HB.out | apply below_alloc | apply pw_below_drewN | apply below_drew1) | exact HB.out))) : w.heap.size ≤ gb205)); have n5_ := Aside0.mk ((by rw [hg]; exact (below_size (by repeat (first | (with_reducible first | exact HB.out | apply below_alloc | apply pw_below_drewN | apply below_drew1) | exact HB.out))) : w.heap.size ≤ gb205)); clear HO196; clear HO203; clear HB; have HO196 := n0_; have HO203 := n1_; have HB := n2_; have BK205 := n3_; have GW205 := n4_; have GE205 := n5_; clear n0_ n1_ n2_ n3_ n4_ n5_; clear hb hbox hg; have hcz21_0 : w20.cell? ⟨gb205, 0, none⟩ = some (.int .i64 0) := (blk_cell BK205.out 0).trans rfl; have hcz21_1 : w20.cell? ⟨gb205, 1, none⟩ = some (.int .i64 0) := (blk_cell BK205.out 1).trans rfl; have hcz21_2 : w20.cell? ⟨gb205, 2, none⟩ = some (.int .i64 0) := (blk_cell BK205.out 2).trans rfl; have hcz21_3 : w20.cell? ⟨gb205, 3, none⟩ = some (.int .i64 0) := (blk_cell BK205.out 3).trans rfl; have hcz21_4 : w20.cell? ⟨gb205, 4, none⟩ = some (.slice none 0 0) := (blk_cell BK205.out 4).trans rfl; have hfz21_0 := blk_frozen BK205.out 0; have hfz21_1 := blk_frozen BK205.out 1; have hfz21_2 := blk_frozen BK205.out 2; have hfz21_3 := blk_frozen BK205.out 3; have hfz21_4 := blk_frozen BK205.out 4; obtain ⟨Ao22, co22, eo22⟩ := Kd.R_slice HO203.out; subst eo22) | ((with_reducible refine gate_callee (f := 13) rfl ?_); refine goesL_ (some 13) rfl rfl Try.func13 (by kernel_rfl) rfl #[.agg #[.int .i64 t197, .int .i64 t198, .int .i64 t199, .int .i64 t200, .slice Ao22 t201.length co22]] rfl (by (try simp only [List.map_toArray, List.map_cons, List.map_nil]); first | done | rfl | (simp only [List.length_drop, List.length_take]; rfl)) ?_; (with_reducible refine (batch_Encode.calls k t197 t198 t199 t200 _ _ t201 t206 t209 _ ?side1 ?side2 A2.out).mono ?_); (case side1 => refine (Kd.R_reads' (e := 45) (base := w.heap.size) (ok := fun k_ => (True ∧ some k_ ≠ (.slice Ao18 y194.length co18 : Value).ownBlock)) (n := t201.length) (c := co22) ?_).2.2; exact (by (with_reducible repeat (first | apply Kd.R_alloc | apply Kd.R_drewN | apply Kd.R_drew)); exact (Kd.R_mono (Kd.R_far (p := ⟨gb205, 4, none⟩) (Kd.R_far (p := ⟨gb205, 3, none⟩) (Kd.R_far (p := ⟨gb205, 2, none⟩) (Kd.R_far (p := ⟨gb205, 1, none⟩) (Kd.R_far (p := ⟨gb205, 0, none⟩) (Kd.R_types HO203.out BK205.out (by decide)) (fun _ hk => hk.2) (.int .i64 t197)) (fun _ hk => hk.2) (.int .i64 t198)) (fun _ hk => hk.2) (.int .i64 t199)) (fun _ hk => hk.2) (.int .i64 t200)) (fun _ hk => hk.2) (.slice Ao22 t201.length co22)) (fun _ h_ => h_.1)))); (case side2 => exact (Kd.R_reads' HO203.out).2.1); rintro e w23 ⟨v207, rfl, ho0, hb⟩; refine ⟨_, rfl, ?_⟩; have n0_ := Aside0.mk (Kd.R_below (by (with_reducible repeat (first | apply Kd.R_alloc | apply Kd.R_drewN | apply Kd.R_drew)); exact (Kd.R_mono (Kd.R_far (p := ⟨gb205, 4, none⟩) (Kd.R_far (p := ⟨gb205, 3, none⟩) (Kd.R_far (p := ⟨gb205, 2, none⟩) (Kd.R_far (p := ⟨gb205, 1, none⟩) (Kd.R_far (p := ⟨gb205, 0, none⟩) (Kd.R_types HO196.out BK205.out (by decide)) (fun _ hk => hk.2) (.int .i64 t197)) (fun _ hk => hk.2) (.int .i64 t198)) (fun _ hk => hk.2) (.int .i64 t199)) (fun _ hk => hk.2) (.int .i64 t200)) (fun _ hk => hk.2) (.slice Ao22 t201.length co22)) (fun _ h_ => h_.1))) hb); have n1_ := Aside0.mk (Kd.R_below (by (with_reducible repeat (first | apply Kd.R_alloc | apply Kd.R_drewN | apply Kd.R_drew)); exact (Kd.R_mono (Kd.R_far (p := ⟨gb205, 4, none⟩) (Kd.R_far (p := ⟨gb205, 3, none⟩) (Kd.R_far (p := ⟨gb205, 2, none⟩) (Kd.R_far (p := ⟨gb205, 1, none⟩) (Kd.R_far (p := ⟨gb205, 0, none⟩) (Kd.R_types HO203.out BK205.out (by decide)) (fun _ hk => hk.2) (.int .i64 t197)) (fun _ hk => hk.2) (.int .i64 t198)) (fun _ hk => hk.2) (.int .i64 t199)) (fun _ hk => hk.2) (.int .i64 t200)) (fun _ hk => hk.2) (.slice Ao22 t201.length co22)) (fun _ h_ => h_.1))) hb); have n2_ := Aside0.mk (Kd.R_lower ho0 (below_size (by repeat (first | (with_reducible first | exact HB.out | apply below_alloc | apply pw_below_drewN | apply below_drew1 | refine below_set ?_ GE205.out) | exact HB.out)))); have n3_ := Aside0.mk (blk_below (g := gb205) (o := .cells #[.int .i64 t197, .int .i64 t198, .int .i64 t199, .int .i64 t200, .slice Ao22 t201.length co22] 24 (0, 0)) (by (with_reducible repeat (first | refine blk_drewN ?_ _ | refine blk_drew ?_ | refine blk_alloc ?_ _)); refine blk_put (cs := #[.int .i64 t197, .int .i64 t198, .int .i64 t199, .int .i64 t200, .slice none 0 0]) ?_ 4 _ (by first | rfl | (simp only [*, List.setIfInBounds_toArray, List.set_cons_zero, List.set_cons_succ]; done) | (simp [*]; done)); (with_reducible repeat (first | refine blk_drewN ?_ _ | refine blk_drew ?_ | refine blk_alloc ?_ _)); refine blk_put (cs := #[.int .i64 t197, .int .i64 t198, .int .i64 t199, .int .i64 0, .slice none 0 0]) ?_ 3 _ (by first | rfl | (simp only [*, List.setIfInBounds_toArray, List.set_cons_zero, List.set_cons_succ]; done) | (simp [*]; done)); (with_reducible repeat (first | refine blk_drewN ?_ _ | refine blk_drew ?_ | refine blk_alloc ?_ _)); refine blk_put (cs := #[.int .i64 t197, .int .i64 t198, .int .i64 0, .int .i64 0, .slice none 0 0]) ?_ 2 _ (by first | rfl | (simp only [*, List.setIfInBounds_toArray, List.set_cons_zero, List.set_cons_succ]; done) | (simp [*]; done)); (with_reducible repeat (first | refine blk_drewN ?_ _ | refine blk_drew ?_ | refine blk_alloc ?_ _)); refine blk_put (cs := #[.int .i64 t197, .int .i64 0, .int .i64 0, .int .i64 0, .slice none 0 0]) ?_ 1 _ (by first | rfl | (simp only [*, List.setIfInBounds_toArray, List.set_cons_zero, List.set_cons_succ]; done) | (simp [*]; done)); (with_reducible repeat (first | refine blk_drewN ?_ _ | refine blk_drew ?_ | refine blk_alloc ?_ _)); refine blk_put (cs := #[.int .i64 0, .int .i64 0, .int .i64 0, .int .i64 0, .slice none 0 0]) ?_ 0 _ (by first | rfl | (simp only [*, List.setIfInBounds_toArray, List.set_cons_zero, List.set_cons_succ]; done) | (simp [*]; done)); (with_reducible repeat (first | refine blk_drewN ?_ _ | refine blk_drew ?_ | refine blk_alloc ?_ _)); exact BK205.out) hb); have n4_ := Aside0.mk (below_step (by repeat (first | (with_reducible first | exact HB.out | apply below_alloc | apply pw_below_drewN | apply below_drew1 | refine below_set ?_ GE205.out) | exact HB.out)) hb); clear HO196; clear HO203; clear BK205; clear HB; have HO196 := n0_; have HO203 := n1_; have HO208 := n2_; have BK205 := n3_; have HB := n4_; clear n0_ n1_ n2_ n3_ n4_; (try clear hb); (try clear hb2); (try clear hk); (try clear hi); (try clear ho0); obtain ⟨Ao24, co24, eo24⟩ := Kd.R_slice HO208.out; subst eo24))
        go_ret
        exact ⟨by first | rfl | (simp [errW_none, errW_some] <;> rfl) | (simp [*, errW_none, errW_some] <;> rfl), by repeat (first | (with_reducible first | exact HB.out | apply below_alloc | apply pw_below_drewN | apply below_drew1 | refine below_set ?_ GE205.out) | exact HB.out)⟩
    · rw [if_neg c4] at H
      have c4b0 : (t209 == 0) = false := beq_eq_false_iff_ne.mpr c4
      have c4b1 : (t209 != 0) = true := bne_iff_ne.mpr c4
      obtain rfl := Option.some.inj H
      go_enter Try.func12, Try.ntmps12
      go_wp2_with (first | ((with_reducible refine gate_dst (N := 7) rfl ?_); (try (refine gate_guard (by rfl) ?_; dsimp only)); refine Kd.R_lit k45 _ 45 ?hg (N := 7) ?hd (xs := ([(⟨false, (⟨#[]⟩ : ByteArray), true, (⟨#[97]⟩ : ByteArray), 0, 0⟩ : S45)] : List (S45))) (inner := [.bool false, .string (⟨#[]⟩ : ByteArray), .bool true, .string (⟨#[97]⟩ : ByteArray), .int .i64 0, .int .i64 0]) (ok := fun _ => True) (okp := fun _ => True) ?hr ?hp (fun _ hk => hk) trivial (Below.refl _ _) (Nat.le_refl _) (by simp) ?_; (case hd => rfl); (case hg => rfl); (case hr => first | (go_simp; done) | (go_simp; rfl)); (case hp => exact (Reps.c6 (show Kd.M k45 _ _ _ (⟨false, (⟨#[]⟩ : ByteArray), true, (⟨#[97]⟩ : ByteArray), 0, 0⟩ : S45) [.bool false, .string (⟨#[]⟩ : ByteArray), .bool true, .string (⟨#[97]⟩ : ByteArray), .int .i64 0, .int .i64 0] from (k45_mkM _ _ _ (⟨false, (⟨#[]⟩ : ByteArray), true, (⟨#[97]⟩ : ByteArray), 0, 0⟩ : S45) )) (Reps.none _ _))); intro v195 w25 ho26 hb hg_ hnew_; clear hg_ hnew_; (first | rw [← Ny194.out] at ho26 | (simp only [Int.reduceToNat] at ho26; rw [← Ny194.out] at ho26)); have n0_ := Aside0.mk (Kd.R_lower ho26 (below_size (by repeat (first | (with_reducible first | exact HB.out | apply below_alloc | apply pw_below_drewN | apply below_drew1) | exact HB.out)))); have n1_ := Aside0.mk (below_step (by repeat (first | (with_reducible first | exact HB.out | apply below_alloc | apply pw_below_drewN | apply below_drew1) | exact HB.out)) hb); clear HB; have HO196 := n0_; have HB := n1_; clear n0_ n1_; clear hb ho26; obtain ⟨Ao27, co27, eo27⟩ := Kd.R_slice HO196.out; subst eo27) | ((with_reducible refine gate_callee (f := 18) rfl ?_); refine goesL_ (some 8) rfl rfl Try.func18 (by kernel_rfl) rfl #[.int .i64 7, .int .i64 0, .int .i64 0, .slice Ao27 y194.length co27] rfl (by (try simp only [List.map_toArray, List.map_cons, List.map_nil]); first | done | rfl | (simp only [List.length_drop, List.length_take]; rfl)) ?_; (with_reducible refine (batch_Fresh.calls k 7 0 0 _ _ y194 t197 t198 t199 t200 t201 t204 _ ?side1 ?side2 A1.out).mono ?_); (case side1 => repeat (first | exact (Kd.R_reads' HO196.out).2.2 | (with_reducible refine Kd.C_alloc ?_ _) | (with_reducible refine Kd.C_drewN ?_ _) | (with_reducible refine Kd.C_drew ?_))); (case side2 => exact (Kd.R_reads' HO196.out).2.1); rintro e w28 ⟨v202, rfl, ho0, hb⟩; refine ⟨_, rfl, ?_⟩; have n0_ := Aside0.mk (Kd.R_elder' (by (with_reducible repeat (first | apply Kd.R_alloc | apply Kd.R_drewN | apply Kd.R_drew)); exact HO196.out) (Kd.R_base ho0) hb); have n1_ := Aside0.mk (Kd.R_lower (Kd.R_new' ho0 (Kd.R_lt (by (with_reducible repeat (first | apply Kd.R_alloc | apply Kd.R_drewN | apply Kd.R_drew)); exact HO196.out))) (below_size (by repeat (first | (with_reducible first | exact HB.out | apply below_alloc | apply pw_below_drewN | apply below_drew1) | exact HB.out)))); have n2_ := Aside0.mk (below_step (by repeat (first | (with_reducible first | exact HB.out | apply below_alloc | apply pw_below_drewN | apply below_drew1) | exact HB.out)) hb); clear HO196; clear HB; have HO196 := n0_; have HO203 := n1_; have HB := n2_; clear n0_ n1_ n2_; (try clear hb); (try clear hb2); (try clear hk); (try clear hi); (try clear ho0)) | ((with_reducible refine gate_dst (N := 1) rfl ?_); (try (refine gate_guard (by rfl) ?_; dsimp only)); refine box_event ?hg (N := 1) ?hd (cs := #[.int .i64 0, .int .i64 0, .int .i64 0, .int .i64 0, .slice none 0 0]) (t := 24) ?hr ?_; (case hd => rfl); (case hg => rfl); (case hr => first | (go_simp; done) | (go_simp; rfl)); intro gb205 hg w29 hbox hb; have n0_ := Aside0.mk (Kd.R_below (by (with_reducible repeat (first | apply Kd.R_alloc | apply Kd.R_drewN | apply Kd.R_drew)); exact HO196.out) hb); have n1_ := Aside0.mk (Kd.R_below (by (with_reducible repeat (first | apply Kd.R_alloc | apply Kd.R_drewN | apply Kd.R_drew)); exact HO203.out) hb); have n2_ := Aside0.mk (below_step (by repeat (first | (with_reducible first | exact HB.out | apply below_alloc | apply pw_below_drewN | apply below_drew1) | exact HB.out)) hb); have n3_ := Aside0.mk (hbox); have n4_ := Aside0.mk ((by rw [hg]; exact (below_size (by repeat (first | (with_reducible first | exact HB.out | apply below_alloc | apply pw_below_drewN | apply below_drew1) | exact HB.out))) : w.heap.size ≤ gb205)); have n5_ := Aside0.mk ((by rw [hg]; exact (below_size (by repeat (first | (with_reducible first | exact HB.out | apply below_alloc | apply pw_below_drewN | apply below_drew1) | exact HB.out))) : w.heap.size ≤ gb205)); clear HO196; clear HO203; clear HB; have HO196 := n0_; have HO203 := n1_; have HB := n2_; have BK205 := n3_; have GW205 := n4_; have GE205 := n5_; clear n0_ n1_ n2_ n3_ n4_ n5_; clear hb hbox hg; have hcz30_0 : w29.cell? ⟨gb205, 0, none⟩ = some (.int .i64 0) := (blk_cell BK205.out 0).trans rfl; have hcz30_1 : w29.cell? ⟨gb205, 1, none⟩ = some (.int .i64 0) := (blk_cell BK205.out 1).trans rfl; have hcz30_2 : w29.cell? ⟨gb205, 2, none⟩ = some (.int .i64 0) := (blk_cell BK205.out 2).trans rfl; have hcz30_3 : w29.cell? ⟨gb205, 3, none⟩ = some (.int .i64 0) := (blk_cell BK205.out 3).trans rfl; have hcz30_4 : w29.cell? ⟨gb205, 4, none⟩ = some (.slice none 0 0) := (blk_cell BK205.out 4).trans rfl; have hfz30_0 := blk_frozen BK205.out 0; have hfz30_1 := blk_frozen BK205.out 1; have hfz30_2 := blk_frozen BK205.out 2; have hfz30_3 := blk_frozen BK205.out 3; have hfz30_4 := blk_frozen BK205.out 4; obtain ⟨Ao31, co31, eo31⟩ := Kd.R_slice HO203.out; subst eo31) | ((with_reducible refine gate_callee (f := 13) rfl ?_); refine goesL_ (some 13) rfl rfl Try.func13 (by kernel_rfl) rfl #[.agg #[.int .i64 t197, .int .i64 t198, .int .i64 t199, .int .i64 t200, .slice Ao31 t201.length co31]] rfl (by (try simp only [List.map_toArray, List.map_cons, List.map_nil]); first | done | rfl | (simp only [List.length_drop, List.length_take]; rfl)) ?_; (with_reducible refine (batch_Encode.calls k t197 t198 t199 t200 _ _ t201 t206 t209 _ ?side1 ?side2 A2.out).mono ?_); (case side1 => refine (Kd.R_reads' (e := 45) (base := w.heap.size) (ok := fun k_ => (True ∧ some k_ ≠ (.slice Ao27 y194.length co27 : Value).ownBlock)) (n := t201.length) (c := co31) ?_).2.2; exact (by (with_reducible repeat (first | apply Kd.R_alloc | apply Kd.R_drewN | apply Kd.R_drew)); exact (Kd.R_mono (Kd.R_far (p := ⟨gb205, 4, none⟩) (Kd.R_far (p := ⟨gb205, 3, none⟩) (Kd.R_far (p := ⟨gb205, 2, none⟩) (Kd.R_far (p := ⟨gb205, 1, none⟩) (Kd.R_far (p := ⟨gb205, 0, none⟩) (Kd.R_types HO203.out BK205.out (by decide)) (fun _ hk => hk.2) (.int .i64 t197)) (fun _ hk => hk.2) (.int .i64 t198)) (fun _ hk => hk.2) (.int .i64 t199)) (fun _ hk => hk.2) (.int .i64 t200)) (fun _ hk => hk.2) (.slice Ao31 t201.length co31)) (fun _ h_ => h_.1)))); (case side2 => exact (Kd.R_reads' HO203.out).2.1); rintro e w32 ⟨v207, rfl, ho0, hb⟩; refine ⟨_, rfl, ?_⟩; have n0_ := Aside0.mk (Kd.R_below (by (with_reducible repeat (first | apply Kd.R_alloc | apply Kd.R_drewN | apply Kd.R_drew)); exact (Kd.R_mono (Kd.R_far (p := ⟨gb205, 4, none⟩) (Kd.R_far (p := ⟨gb205, 3, none⟩) (Kd.R_far (p := ⟨gb205, 2, none⟩) (Kd.R_far (p := ⟨gb205, 1, none⟩) (Kd.R_far (p := ⟨gb205, 0, none⟩) (Kd.R_types HO196.out BK205.out (by decide)) (fun _ hk => hk.2) (.int .i64 t197)) (fun _ hk => hk.2) (.int .i64 t198)) (fun _ hk => hk.2) (.int .i64 t199)) (fun _ hk => hk.2) (.int .i64 t200)) (fun _ hk => hk.2) (.slice Ao31 t201.length co31)) (fun _ h_ => h_.1))) hb); have n1_ := Aside0.mk (Kd.R_below (by (with_reducible repeat (first | apply Kd.R_alloc | apply Kd.R_drewN | apply Kd.R_drew)); exact (Kd.R_mono (Kd.R_far (p := ⟨gb205, 4, none⟩) (Kd.R_far (p := ⟨gb205, 3, none⟩) (Kd.R_far (p := ⟨gb205, 2, none⟩) (Kd.R_far (p := ⟨gb205, 1, none⟩) (Kd.R_far (p := ⟨gb205, 0, none⟩) (Kd.R_types HO203.out BK205.out (by decide)) (fun _ hk => hk.2) (.int .i64 t197)) (fun _ hk => hk.2) (.int .i64 t198)) (fun _ hk => hk.2) (.int .i64 t199)) (fun _ hk => hk.2) (.int .i64 t200)) (fun _ hk => hk.2) (.slice Ao31 t201.length co31)) (fun _ h_ => h_.1))) hb); have n2_ := Aside0.mk (Kd.R_lower ho0 (below_size (by repeat (first | (with_reducible first | exact HB.out | apply below_alloc | apply pw_below_drewN | apply below_drew1 | refine below_set ?_ GE205.out) | exact HB.out)))); have n3_ := Aside0.mk (blk_below (g := gb205) (o := .cells #[.int .i64 t197, .int .i64 t198, .int .i64 t199, .int .i64 t200, .slice Ao31 t201.length co31] 24 (0, 0)) (by (with_reducible repeat (first | refine blk_drewN ?_ _ | refine blk_drew ?_ | refine blk_alloc ?_ _)); refine blk_put (cs := #[.int .i64 t197, .int .i64 t198, .int .i64 t199, .int .i64 t200, .slice none 0 0]) ?_ 4 _ (by first | rfl | (simp only [*, List.setIfInBounds_toArray, List.set_cons_zero, List.set_cons_succ]; done) | (simp [*]; done)); (with_reducible repeat (first | refine blk_drewN ?_ _ | refine blk_drew ?_ | refine blk_alloc ?_ _)); refine blk_put (cs := #[.int .i64 t197, .int .i64 t198, .int .i64 t199, .int .i64 0, .slice none 0 0]) ?_ 3 _ (by first | rfl | (simp only [*, List.setIfInBounds_toArray, List.set_cons_zero, List.set_cons_succ]; done) | (simp [*]; done)); (with_reducible repeat (first | refine blk_drewN ?_ _ | refine blk_drew ?_ | refine blk_alloc ?_ _)); refine blk_put (cs := #[.int .i64 t197, .int .i64 t198, .int .i64 0, .int .i64 0, .slice none 0 0]) ?_ 2 _ (by first | rfl | (simp only [*, List.setIfInBounds_toArray, List.set_cons_zero, List.set_cons_succ]; done) | (simp [*]; done)); (with_reducible repeat (first | refine blk_drewN ?_ _ | refine blk_drew ?_ | refine blk_alloc ?_ _)); refine blk_put (cs := #[.int .i64 t197, .int .i64 0, .int .i64 0, .int .i64 0, .slice none 0 0]) ?_ 1 _ (by first | rfl | (simp only [*, List.setIfInBounds_toArray, List.set_cons_zero, List.set_cons_succ]; done) | (simp [*]; done)); (with_reducible repeat (first | refine blk_drewN ?_ _ | refine blk_drew ?_ | refine blk_alloc ?_ _)); refine blk_put (cs := #[.int .i64 0, .int .i64 0, .int .i64 0, .int .i64 0, .slice none 0 0]) ?_ 0 _ (by first | rfl | (simp only [*, List.setIfInBounds_toArray, List.set_cons_zero, List.set_cons_succ]; done) | (simp [*]; done)); (with_reducible repeat (first | refine blk_drewN ?_ _ | refine blk_drew ?_ | refine blk_alloc ?_ _)); exact BK205.out) hb); have n4_ := Aside0.mk (below_step (by repeat (first | (with_reducible first | exact HB.out | apply below_alloc | apply pw_below_drewN | apply below_drew1 | refine below_set ?_ GE205.out) | exact HB.out)) hb); clear HO196; clear HO203; clear BK205; clear HB; have HO196 := n0_; have HO203 := n1_; have HO208 := n2_; have BK205 := n3_; have HB := n4_; clear n0_ n1_ n2_ n3_ n4_; (try clear hb); (try clear hb2); (try clear hk); (try clear hi); (try clear ho0)))
      go_ret
      exact ⟨by first | rfl | (simp [errW_none, errW_some] <;> rfl) | (simp [*, errW_none, errW_some] <;> rfl), by repeat (first | (with_reducible first | exact HB.out | apply below_alloc | apply pw_below_drewN | apply below_drew1 | refine below_set ?_ GE205.out) | exact HB.out)⟩
  · rw [if_neg c3] at H
    have c3b0 : (t204 == 0) = false := beq_eq_false_iff_ne.mpr c3
    have c3b1 : (t204 != 0) = true := bne_iff_ne.mpr c3
    obtain rfl := Option.some.inj H
    go_enter Try.func12, Try.ntmps12
    go_wp2_with (first | ((with_reducible refine gate_dst (N := 7) rfl ?_); (try (refine gate_guard (by rfl) ?_; dsimp only)); refine Kd.R_lit k45 _ 45 ?hg (N := 7) ?hd (xs := ([(⟨false, (⟨#[]⟩ : ByteArray), true, (⟨#[97]⟩ : ByteArray), 0, 0⟩ : S45)] : List (S45))) (inner := [.bool false, .string (⟨#[]⟩ : ByteArray), .bool true, .string (⟨#[97]⟩ : ByteArray), .int .i64 0, .int .i64 0]) (ok := fun _ => True) (okp := fun _ => True) ?hr ?hp (fun _ hk => hk) trivial (Below.refl _ _) (Nat.le_refl _) (by simp) ?_; (case hd => rfl); (case hg => rfl); (case hr => first | (go_simp; done) | (go_simp; rfl)); (case hp => exact (Reps.c6 (show Kd.M k45 _ _ _ (⟨false, (⟨#[]⟩ : ByteArray), true, (⟨#[97]⟩ : ByteArray), 0, 0⟩ : S45) [.bool false, .string (⟨#[]⟩ : ByteArray), .bool true, .string (⟨#[97]⟩ : ByteArray), .int .i64 0, .int .i64 0] from (k45_mkM _ _ _ (⟨false, (⟨#[]⟩ : ByteArray), true, (⟨#[97]⟩ : ByteArray), 0, 0⟩ : S45) )) (Reps.none _ _))); intro v195 w33 ho34 hb hg_ hnew_; clear hg_ hnew_; (first | rw [← Ny194.out] at ho34 | (simp only [Int.reduceToNat] at ho34; rw [← Ny194.out] at ho34)); have n0_ := Aside0.mk (Kd.R_lower ho34 (below_size (by repeat (first | (with_reducible first | exact HB.out | apply below_alloc | apply pw_below_drewN | apply below_drew1) | exact HB.out)))); have n1_ := Aside0.mk (below_step (by repeat (first | (with_reducible first | exact HB.out | apply below_alloc | apply pw_below_drewN | apply below_drew1) | exact HB.out)) hb); clear HB; have HO196 := n0_; have HB := n1_; clear n0_ n1_; clear hb ho34; obtain ⟨Ao35, co35, eo35⟩ := Kd.R_slice HO196.out; subst eo35) | ((with_reducible refine gate_callee (f := 18) rfl ?_); refine goesL_ (some 8) rfl rfl Try.func18 (by kernel_rfl) rfl #[.int .i64 7, .int .i64 0, .int .i64 0, .slice Ao35 y194.length co35] rfl (by (try simp only [List.map_toArray, List.map_cons, List.map_nil]); first | done | rfl | (simp only [List.length_drop, List.length_take]; rfl)) ?_; (with_reducible refine (batch_Fresh.calls k 7 0 0 _ _ y194 t197 t198 t199 t200 t201 t204 _ ?side1 ?side2 A1.out).mono ?_); (case side1 => repeat (first | exact (Kd.R_reads' HO196.out).2.2 | (with_reducible refine Kd.C_alloc ?_ _) | (with_reducible refine Kd.C_drewN ?_ _) | (with_reducible refine Kd.C_drew ?_))); (case side2 => exact (Kd.R_reads' HO196.out).2.1); rintro e w36 ⟨v202, rfl, ho0, hb⟩; refine ⟨_, rfl, ?_⟩; have n0_ := Aside0.mk (Kd.R_elder' (by (with_reducible repeat (first | apply Kd.R_alloc | apply Kd.R_drewN | apply Kd.R_drew)); exact HO196.out) (Kd.R_base ho0) hb); have n1_ := Aside0.mk (Kd.R_lower (Kd.R_new' ho0 (Kd.R_lt (by (with_reducible repeat (first | apply Kd.R_alloc | apply Kd.R_drewN | apply Kd.R_drew)); exact HO196.out))) (below_size (by repeat (first | (with_reducible first | exact HB.out | apply below_alloc | apply pw_below_drewN | apply below_drew1) | exact HB.out)))); have n2_ := Aside0.mk (below_step (by repeat (first | (with_reducible first | exact HB.out | apply below_alloc | apply pw_below_drewN | apply below_drew1) | exact HB.out)) hb); clear HO196; clear HB; have HO196 := n0_; have HO203 := n1_; have HB := n2_; clear n0_ n1_ n2_; (try clear hb); (try clear hb2); (try clear hk); (try clear hi); (try clear ho0)) | ((with_reducible refine gate_dst (N := 1) rfl ?_); (try (refine gate_guard (by rfl) ?_; dsimp only)); refine box_event ?hg (N := 1) ?hd (cs := #[.int .i64 0, .int .i64 0, .int .i64 0, .int .i64 0, .slice none 0 0]) (t := 24) ?hr ?_; (case hd => rfl); (case hg => rfl); (case hr => first | (go_simp; done) | (go_simp; rfl)); intro gb205 hg w37 hbox hb; have n0_ := Aside0.mk (Kd.R_below (by (with_reducible repeat (first | apply Kd.R_alloc | apply Kd.R_drewN | apply Kd.R_drew)); exact HO196.out) hb); have n1_ := Aside0.mk (Kd.R_below (by (with_reducible repeat (first | apply Kd.R_alloc | apply Kd.R_drewN | apply Kd.R_drew)); exact HO203.out) hb); have n2_ := Aside0.mk (below_step (by repeat (first | (with_reducible first | exact HB.out | apply below_alloc | apply pw_below_drewN | apply below_drew1) | exact HB.out)) hb); have n3_ := Aside0.mk (hbox); have n4_ := Aside0.mk ((by rw [hg]; exact (below_size (by repeat (first | (with_reducible first | exact HB.out | apply below_alloc | apply pw_below_drewN | apply below_drew1) | exact HB.out))) : w.heap.size ≤ gb205)); have n5_ := Aside0.mk ((by rw [hg]; exact (below_size (by repeat (first | (with_reducible first | exact HB.out | apply below_alloc | apply pw_below_drewN | apply below_drew1) | exact HB.out))) : w.heap.size ≤ gb205)); clear HO196; clear HO203; clear HB; have HO196 := n0_; have HO203 := n1_; have HB := n2_; have BK205 := n3_; have GW205 := n4_; have GE205 := n5_; clear n0_ n1_ n2_ n3_ n4_ n5_; clear hb hbox hg; have hcz38_0 : w37.cell? ⟨gb205, 0, none⟩ = some (.int .i64 0) := (blk_cell BK205.out 0).trans rfl; have hcz38_1 : w37.cell? ⟨gb205, 1, none⟩ = some (.int .i64 0) := (blk_cell BK205.out 1).trans rfl; have hcz38_2 : w37.cell? ⟨gb205, 2, none⟩ = some (.int .i64 0) := (blk_cell BK205.out 2).trans rfl; have hcz38_3 : w37.cell? ⟨gb205, 3, none⟩ = some (.int .i64 0) := (blk_cell BK205.out 3).trans rfl; have hcz38_4 : w37.cell? ⟨gb205, 4, none⟩ = some (.slice none 0 0) := (blk_cell BK205.out 4).trans rfl; have hfz38_0 := blk_frozen BK205.out 0; have hfz38_1 := blk_frozen BK205.out 1; have hfz38_2 := blk_frozen BK205.out 2; have hfz38_3 := blk_frozen BK205.out 3; have hfz38_4 := blk_frozen BK205.out 4; obtain ⟨Ao39, co39, eo39⟩ := Kd.R_slice HO203.out; subst eo39) | ((with_reducible refine gate_callee (f := 13) rfl ?_); refine goesL_ (some 13) rfl rfl Try.func13 (by kernel_rfl) rfl #[.agg #[.int .i64 t197, .int .i64 t198, .int .i64 t199, .int .i64 t200, .slice Ao39 t201.length co39]] rfl (by (try simp only [List.map_toArray, List.map_cons, List.map_nil]); first | done | rfl | (simp only [List.length_drop, List.length_take]; rfl)) ?_; (with_reducible refine (batch_Encode.calls k t197 t198 t199 t200 _ _ t201 t206 t209 _ ?side1 ?side2 A2.out).mono ?_); (case side1 => refine (Kd.R_reads' (e := 45) (base := w.heap.size) (ok := fun k_ => (True ∧ some k_ ≠ (.slice Ao35 y194.length co35 : Value).ownBlock)) (n := t201.length) (c := co39) ?_).2.2; exact (by (with_reducible repeat (first | apply Kd.R_alloc | apply Kd.R_drewN | apply Kd.R_drew)); exact (Kd.R_mono (Kd.R_far (p := ⟨gb205, 4, none⟩) (Kd.R_far (p := ⟨gb205, 3, none⟩) (Kd.R_far (p := ⟨gb205, 2, none⟩) (Kd.R_far (p := ⟨gb205, 1, none⟩) (Kd.R_far (p := ⟨gb205, 0, none⟩) (Kd.R_types HO203.out BK205.out (by decide)) (fun _ hk => hk.2) (.int .i64 t197)) (fun _ hk => hk.2) (.int .i64 t198)) (fun _ hk => hk.2) (.int .i64 t199)) (fun _ hk => hk.2) (.int .i64 t200)) (fun _ hk => hk.2) (.slice Ao39 t201.length co39)) (fun _ h_ => h_.1)))); (case side2 => exact (Kd.R_reads' HO203.out).2.1); rintro e w40 ⟨v207, rfl, ho0, hb⟩; refine ⟨_, rfl, ?_⟩; have n0_ := Aside0.mk (Kd.R_below (by (with_reducible repeat (first | apply Kd.R_alloc | apply Kd.R_drewN | apply Kd.R_drew)); exact (Kd.R_mono (Kd.R_far (p := ⟨gb205, 4, none⟩) (Kd.R_far (p := ⟨gb205, 3, none⟩) (Kd.R_far (p := ⟨gb205, 2, none⟩) (Kd.R_far (p := ⟨gb205, 1, none⟩) (Kd.R_far (p := ⟨gb205, 0, none⟩) (Kd.R_types HO196.out BK205.out (by decide)) (fun _ hk => hk.2) (.int .i64 t197)) (fun _ hk => hk.2) (.int .i64 t198)) (fun _ hk => hk.2) (.int .i64 t199)) (fun _ hk => hk.2) (.int .i64 t200)) (fun _ hk => hk.2) (.slice Ao39 t201.length co39)) (fun _ h_ => h_.1))) hb); have n1_ := Aside0.mk (Kd.R_below (by (with_reducible repeat (first | apply Kd.R_alloc | apply Kd.R_drewN | apply Kd.R_drew)); exact (Kd.R_mono (Kd.R_far (p := ⟨gb205, 4, none⟩) (Kd.R_far (p := ⟨gb205, 3, none⟩) (Kd.R_far (p := ⟨gb205, 2, none⟩) (Kd.R_far (p := ⟨gb205, 1, none⟩) (Kd.R_far (p := ⟨gb205, 0, none⟩) (Kd.R_types HO203.out BK205.out (by decide)) (fun _ hk => hk.2) (.int .i64 t197)) (fun _ hk => hk.2) (.int .i64 t198)) (fun _ hk => hk.2) (.int .i64 t199)) (fun _ hk => hk.2) (.int .i64 t200)) (fun _ hk => hk.2) (.slice Ao39 t201.length co39)) (fun _ h_ => h_.1))) hb); have n2_ := Aside0.mk (Kd.R_lower ho0 (below_size (by repeat (first | (with_reducible first | exact HB.out | apply below_alloc | apply pw_below_drewN | apply below_drew1 | refine below_set ?_ GE205.out) | exact HB.out)))); have n3_ := Aside0.mk (blk_below (g := gb205) (o := .cells #[.int .i64 t197, .int .i64 t198, .int .i64 t199, .int .i64 t200, .slice Ao39 t201.length co39] 24 (0, 0)) (by (with_reducible repeat (first | refine blk_drewN ?_ _ | refine blk_drew ?_ | refine blk_alloc ?_ _)); refine blk_put (cs := #[.int .i64 t197, .int .i64 t198, .int .i64 t199, .int .i64 t200, .slice none 0 0]) ?_ 4 _ (by first | rfl | (simp only [*, List.setIfInBounds_toArray, List.set_cons_zero, List.set_cons_succ]; done) | (simp [*]; done)); (with_reducible repeat (first | refine blk_drewN ?_ _ | refine blk_drew ?_ | refine blk_alloc ?_ _)); refine blk_put (cs := #[.int .i64 t197, .int .i64 t198, .int .i64 t199, .int .i64 0, .slice none 0 0]) ?_ 3 _ (by first | rfl | (simp only [*, List.setIfInBounds_toArray, List.set_cons_zero, List.set_cons_succ]; done) | (simp [*]; done)); (with_reducible repeat (first | refine blk_drewN ?_ _ | refine blk_drew ?_ | refine blk_alloc ?_ _)); refine blk_put (cs := #[.int .i64 t197, .int .i64 t198, .int .i64 0, .int .i64 0, .slice none 0 0]) ?_ 2 _ (by first | rfl | (simp only [*, List.setIfInBounds_toArray, List.set_cons_zero, List.set_cons_succ]; done) | (simp [*]; done)); (with_reducible repeat (first | refine blk_drewN ?_ _ | refine blk_drew ?_ | refine blk_alloc ?_ _)); refine blk_put (cs := #[.int .i64 t197, .int .i64 0, .int .i64 0, .int .i64 0, .slice none 0 0]) ?_ 1 _ (by first | rfl | (simp only [*, List.setIfInBounds_toArray, List.set_cons_zero, List.set_cons_succ]; done) | (simp [*]; done)); (with_reducible repeat (first | refine blk_drewN ?_ _ | refine blk_drew ?_ | refine blk_alloc ?_ _)); refine blk_put (cs := #[.int .i64 0, .int .i64 0, .int .i64 0, .int .i64 0, .slice none 0 0]) ?_ 0 _ (by first | rfl | (simp only [*, List.setIfInBounds_toArray, List.set_cons_zero, List.set_cons_succ]; done) | (simp [*]; done)); (with_reducible repeat (first | refine blk_drewN ?_ _ | refine blk_drew ?_ | refine blk_alloc ?_ _)); exact BK205.out) hb); have n4_ := Aside0.mk (below_step (by repeat (first | (with_reducible first | exact HB.out | apply below_alloc | apply pw_below_drewN | apply below_drew1 | refine below_set ?_ GE205.out) | exact HB.out)) hb); clear HO196; clear HO203; clear BK205; clear HB; have HO196 := n0_; have HO203 := n1_; have HO208 := n2_; have BK205 := n3_; have HB := n4_; clear n0_ n1_ n2_ n3_ n4_; (try clear hb); (try clear hb2); (try clear hk); (try clear hi); (try clear ho0)))
    go_ret
    exact ⟨by first | rfl | (simp [errW_none, errW_some] <;> rfl) | (simp [*, errW_none, errW_some] <;> rfl), by repeat (first | (with_reducible first | exact HB.out | apply below_alloc | apply pw_below_drewN | apply below_drew1 | refine below_set ?_ GE205.out) | exact HB.out)⟩

/-! ### bollardref1_Lay: function 29 -/
def bollardref1_Lay.l0 : Nat → List Int → Int → Int → Option (List Int)
  | 0, _, _, _ => none
  | k + 1, x0, x2, x7 => if x7 ≥ 0 then (if 0 ≤ (wrap64 (8 * x7)) then (if x0.length < 140737488355328 then (bollardref1_Lay.l0 k (x0 ++ [(shr .u64 x2 (wrap64 (8 * x7))) % 256]) x2 (wrap64 (x7 - 1))) else (none)) else (none)) else (some x0)
def bollardref1_Lay.f (k : Nat) (l0 : List Int) (a1 : Int) (a2 : Int) : Option (List Int) := bollardref1_Lay.l0 k l0 a2 (wrap64 (a1 - 1))
set_option maxRecDepth 100000 in
theorem bollardref1_Lay.mono_l : ∀ k, (∀ y0 y1 y2, LeO (bollardref1_Lay.l0 k y0 y1 y2) (bollardref1_Lay.l0 (k + 1) y0 y1 y2))
  | 0 => fun _ _ _ r h => by first | exact nomatch (show (none : Option _) = some r from h) | (rw [bollardref1_Lay.l0] at h; cases h; done) | (simp [bollardref1_Lay.l0] at h; done)
  | k + 1 => by
    have ih0 := bollardref1_Lay.mono_l k
    · intro y0 y1 y2
      unfold bollardref1_Lay.l0
      repeat' first
      | (with_reducible exact ih0 _ _ _)
      | (with_reducible exact LeO.refl _)
      | (with_reducible exact LeO.none _)
      | (with_reducible refine LeO.ite ?_ ?_)
      | (with_reducible refine LeO.bind ?_ (fun _ => ?_))
      | exact ih0 _ _ _
      | exact LeO.none _
      | refine LeO.ite ?_ ?_
      | refine LeO.bind ?_ (fun _ => ?_)
theorem bollardref1_Lay.mono : ∀ a0 a1 a2 k, LeO (bollardref1_Lay.f k a0 a1 a2) (bollardref1_Lay.f (k + 1) a0 a1 a2) := by
  intro a0 a1 a2 k
  have ih0 := bollardref1_Lay.mono_l k
  unfold bollardref1_Lay.f
  repeat' first
      | (with_reducible exact ih0 _ _ _)
      | (with_reducible exact LeO.refl _)
      | (with_reducible exact LeO.none _)
      | (with_reducible refine LeO.ite ?_ ?_)
      | (with_reducible refine LeO.bind ?_ (fun _ => ?_))
      | exact ih0 _ _ _
      | exact LeO.none _
      | refine LeO.ite ?_ ?_
      | refine LeO.bind ?_ (fun _ => ?_)
set_option maxHeartbeats 8000000 in
set_option maxRecDepth 100000 in
theorem bollardref1_Lay.calls (k : Nat) (P0_ : Nat → Prop) (u9000_ : Value) (l0 : List Int) (a1 : Int) (a2 : Int) (r : List Int) (w0 w : World) (hB : Below w0.heap.size w0 w) (ho0 : Kd.R (Kd.int .u8) 5 w w0.heap.size P0_ u9000_ l0) (h : bollardref1_Lay.f k l0 a1 a2 = some r) :
    Calls Try.prog 29 #[u9000_, .int .i64 a1, .int .u64 a2] w fun e w' => ∃ v0_ : Value, e = .returned (v0_) ∧ Kd.R (Kd.int .u8) 5 w' w0.heap.size (fun k_ => (P0_ k_ ∨ w.heap.size ≤ k_)) v0_ r ∧ Below w0.heap.size w0 w' ∧ Kept w w' (fun k_ => P0_ k_) := by
  have HO0 := Aside0.mk (show Kd.R (Kd.int .u8) 5 w w0.heap.size (fun k_ => (P0_ k_ ∨ w.heap.size ≤ k_)) u9000_ l0 from Kd.R_mono ho0 (fun k_ hk => (.inl hk)))
  have HK := Aside0.mk (Kept.refl w (fun k_ => P0_ k_))
  have HW0 := Aside0.mk hB.size
  have HB := Aside0.mk hB
  clear hB
  have H : (bollardref1_Lay.l0 k l0 a2 (wrap64 (a1 - 1))) = some r := h
  clear h
  have H' := Aside0.mk H
  clear H
  go_enter Try.func29, Try.ntmps29
  go_wp2
  go_loopg [0, 7] k (fun kq v0 v7 w' => ∃ (x0_1 : List Int) (x7_1 : Int), v7 = .int .i64 x7_1 ∧ Aside0 (bollardref1_Lay.l0 kq x0_1 a2 x7_1 = some r) ∧ Aside0 (kq ≤ k) ∧ Aside0 (Kd.R (Kd.int .u8) 5 w' w0.heap.size (fun k_ => (P0_ k_ ∨ w.heap.size ≤ k_)) v0 x0_1) ∧ Aside0 (Kept w w' (fun k_ => P0_ k_)) ∧ Aside0 (Below w0.heap.size w0 w'))
  case atStart => exact ⟨(l0), (wrap64 (a1 - 1)), (by first | rfl | (simp; done) | (simp [*]; done) | exact congrArg Value.bool (ne_empty _) | exact congrArg Value.bool (eq_empty _)), H', ⟨Nat.le_refl _⟩, ⟨by (with_reducible repeat (first | apply Kd.R_alloc | apply Kd.R_drewN | apply Kd.R_drew)); exact HO0.out⟩, ⟨by repeat (first | (with_reducible first | exact HK.out | apply Kept.alloc | apply Kept.drewN | apply Kept.drew) | exact HK.out)⟩, ⟨by repeat (first | (with_reducible first | exact HB.out | apply below_alloc | apply pw_below_drewN | apply below_drew1) | exact HB.out)⟩⟩
  case round =>
    clear H'
    try clear c2
    try clear p2
    obtain ⟨x0_1, x7_1, rfl, HA, HK1, HO_0, HK, HB⟩ := hrel
    cases gk with
    | zero => exact absurd HA.out (by first | (intro h_; exact nomatch (show (none : Option _) = some r from h_)) | simp [bollardref1_Lay.l0])
    | succ k1 =>
      have H := HA.out
      clear HA
      simp only [bollardref1_Lay.l0] at H
      by_cases c4 : x7_1 ≥ 0
      · rw [if_pos c4] at H
        have c4b0 : decide (0 ≤ x7_1) = true := decide_eq_true c4
        clear c4
        obtain ⟨ji5, hji5⟩ : ∃ j_ : Int, (wrap64 (8 * x7_1)) = j_ := ⟨_, rfl⟩
        replace H : (if 0 ≤ (ji5) then (if x0_1.length < 140737488355328 then (bollardref1_Lay.l0 k1 (x0_1 ++ [(shr .u64 a2 (ji5)) % 256]) a2 (wrap64 (x7_1 - 1))) else (none)) else (none)) = some r := by first | (rw [hji5] at H; exact H) | (simp only [hji5] at H ⊢; exact H)
        have hji5w : (IntKind.i64.wrap (8 * x7_1)) = ji5 := (i64_w _).trans hji5
        by_cases c6 : 0 ≤ (ji5)
        · rw [if_pos c6] at H
          have c6b0 := eq_true c6
          have c6b1 : decide (0 ≤ (ji5)) = true := decide_eq_true c6
          clear c6
          obtain ⟨ji7, hji7⟩ : ∃ j_ : Int, (shr .u64 a2 (ji5)) = j_ := ⟨_, rfl⟩
          replace H : (if x0_1.length < 140737488355328 then (bollardref1_Lay.l0 k1 (x0_1 ++ [(ji7) % 256]) a2 (wrap64 (x7_1 - 1))) else (none)) = some r := by first | (rw [hji7] at H; exact H) | (simp only [hji7] at H ⊢; exact H)
          have hji7_ : (a2 / 2 ^ min (ji5).toNat 64) = ji7 := hji7
          have hji7z : (ji5) ≤ 64 → (a2 / 2 ^ (ji5).toNat) = ji7 := shr_small hji7
          by_cases c8 : x0_1.length < 140737488355328
          · rw [if_pos c8] at H
            have LMc8 := Aside0.mk c8
            clear c8
            obtain ⟨y210, hy210⟩ : ∃ y_ : List Int, y_ = (x0_1 ++ [(ji7) % 256]) := ⟨_, rfl⟩
            replace H : (bollardref1_Lay.l0 k1 y210 a2 (wrap64 (x7_1 - 1))) = some r := by first | (rw [hy210]; with_reducible exact H) | (have H2_ := (Option.bind_some _ _).symm.trans H; rw [hy210]; with_reducible exact H2_) | (have H2_ := (Option.bind_some _ _).symm.trans H; with_reducible exact H2_) | with_reducible exact H | (rw [hy210]; exact H) | exact H
            have Ny210 := Aside0.mk hy210
            clear hy210
            have H' := Aside0.mk H
            clear H
            go_wp2_with (first | ((with_reducible refine gate_builtin (b := .append) (xs := #[.tmp 14, .tmp 20]) rfl ?_); at_builtin; refine Kd.R_append (Kd.int .u8) (w0 := w0) w0.heap.size rfl (.tmp 14) (.tmp 20) 27 5 (.int .u8 0) 1 rfl Try.underlying27 info5 rfl (by decide) (by omega) u0 x0_1 ((ji7) % 256) [.int .u8 ((ji7) % 256)] (fun k_ => (P0_ k_ ∨ w.heap.size ≤ k_)) (fun _ => False) rfl rfl ?aP (fun _ hk => hk.elim) ?aF ?aO ?aB ?aS ?aL ?_; (case aP => exact rfl); (case aB => exact (by repeat (first | (with_reducible first | exact HB.out | apply below_alloc | apply pw_below_drewN | apply below_drew1) | exact HB.out))); (case aF => exact (fun k_ hk => (.inr (Nat.le_trans (by first | exact HK.out.1 | exact (show Kept w _ (fun k_ => P0_ k_) from by repeat (first | (with_reducible first | exact HK.out | apply Kept.alloc | apply Kept.drewN | apply Kept.drew) | exact HK.out)).1) hk)))); (case aO => exact (by (with_reducible repeat (first | apply Kd.R_alloc | apply Kd.R_drewN | apply Kd.R_drew)); exact HO_0.out)); (case aS => exact (below_size (by repeat (first | (with_reducible first | exact HB.out | apply below_alloc | apply pw_below_drewN | apply below_drew1) | exact HB.out)))); (case aL => have := LMc8.out; omega); intro v211 w9 ho hb hg hat; rw [← Ny210.out] at ho; have n0_ := Aside0.mk (hb); have n1_ := Aside0.mk (Kept.of_grown (S := (fun k_ => P0_ k_)) hg (by repeat (first | (with_reducible first | exact HK.out | apply Kept.alloc | apply Kept.drewN | apply Kept.drew) | exact HK.out)) (fun k_ e_ => (HO_0.out.1 k_ e_))); have n2_ := Aside0.mk (ho); clear HB; clear HK; clear HO_0; have HB := n0_; have HK := n1_; have HO212 := n2_; clear n0_ n1_ n2_; clear ho hb hg hat))
            go_roundg k1
            case measure => have := HK1.out; omega
            case rel => exact ⟨(y210), (wrap64 (x7_1 - 1)), (by first | rfl | (simp; done) | (simp [*]; done) | exact congrArg Value.bool (ne_empty _) | exact congrArg Value.bool (eq_empty _)), H', ⟨by have := HK1.out; omega⟩, ⟨by (with_reducible repeat (first | apply Kd.R_alloc | apply Kd.R_drewN | apply Kd.R_drew)); exact HO212.out⟩, ⟨by repeat (first | (with_reducible first | exact HK.out | apply Kept.alloc | apply Kept.drewN | apply Kept.drew) | exact HK.out)⟩, ⟨by repeat (first | (with_reducible first | exact HB.out | apply below_alloc | apply pw_below_drewN | apply below_drew1) | exact HB.out)⟩⟩
          · rw [if_neg c8] at H
            exact absurd H (by simp)
        · rw [if_neg c6] at H
          exact absurd H (by simp)
      · rw [if_neg c4] at H
        have c4b0 : decide (0 ≤ x7_1) = false := decide_eq_false c4
        clear c4
        obtain rfl := Option.some.inj H
        go_wp2
        go_ret
        exact ⟨_, by first | rfl | (simp [errW_none, errW_some] <;> rfl) | (simp [*, errW_none, errW_some] <;> rfl), by (with_reducible repeat (first | apply Kd.R_alloc | apply Kd.R_drewN | apply Kd.R_drew)); exact HO_0.out, by repeat (first | (with_reducible first | exact HB.out | apply below_alloc | apply pw_below_drewN | apply below_drew1) | exact HB.out), by repeat (first | (with_reducible first | exact HK.out | apply Kept.alloc | apply Kept.drewN | apply Kept.drew) | exact HK.out)⟩

/-! ### bollardref12_odd: function 49 -/
def bollardref12_odd.f (a0_0 : Bool) (a0_1 : ByteArray) (a0_2 : Bool) (a0_3 : ByteArray) (a0_4 : Int) (a0_5 : Int) : Option (Bool) := if a0_0 = true then (if a0_2 = true then (if a0_4 < 0 then (some true) else (if a0_4 > 1125899906842624 then (some true) else (if a0_5 < 0 then (some true) else (some (decide (a0_5 > 99)))))) else (if a0_3.toList = ([] : List UInt8) then (if a0_4 < 0 then (some true) else (if a0_4 > 1125899906842624 then (some true) else (if a0_5 < 0 then (some true) else (some (decide (a0_5 > 99)))))) else (some true))) else (if a0_1.toList = ([] : List UInt8) then (if a0_2 = true then (if a0_4 < 0 then (some true) else (if a0_4 > 1125899906842624 then (some true) else (if a0_5 < 0 then (some true) else (some (decide (a0_5 > 99)))))) else (if a0_3.toList = ([] : List UInt8) then (if a0_4 < 0 then (some true) else (if a0_4 > 1125899906842624 then (some true) else (if a0_5 < 0 then (some true) else (some (decide (a0_5 > 99)))))) else (some true))) else (some true))
set_option maxHeartbeats 8000000 in
set_option maxRecDepth 100000 in
theorem bollardref12_odd.calls (a0_0 : Bool) (a0_1 : ByteArray) (a0_2 : Bool) (a0_3 : ByteArray) (a0_4 : Int) (a0_5 : Int) (r : Bool) (w : World) (h : bollardref12_odd.f a0_0 a0_1 a0_2 a0_3 a0_4 a0_5 = some r) :
    Calls Try.prog 49 #[.agg #[.bool a0_0, .string a0_1, .bool a0_2, .string a0_3, .int .i64 a0_4, .int .i64 a0_5]] w fun e w' => e = .returned (.bool r) ∧ Below w.heap.size w w' := by
  have hu45 := Try.underlying45
  have HB := Aside0.mk (Below.refl w.heap.size w)
  have H : (if a0_0 = true then (if a0_2 = true then (if a0_4 < 0 then (some true) else (if a0_4 > 1125899906842624 then (some true) else (if a0_5 < 0 then (some true) else (some (decide (a0_5 > 99)))))) else (if a0_3.toList = ([] : List UInt8) then (if a0_4 < 0 then (some true) else (if a0_4 > 1125899906842624 then (some true) else (if a0_5 < 0 then (some true) else (some (decide (a0_5 > 99)))))) else (some true))) else (if a0_1.toList = ([] : List UInt8) then (if a0_2 = true then (if a0_4 < 0 then (some true) else (if a0_4 > 1125899906842624 then (some true) else (if a0_5 < 0 then (some true) else (some (decide (a0_5 > 99)))))) else (if a0_3.toList = ([] : List UInt8) then (if a0_4 < 0 then (some true) else (if a0_4 > 1125899906842624 then (some true) else (if a0_5 < 0 then (some true) else (some (decide (a0_5 > 99)))))) else (some true))) else (some true))) = some r := h
  clear h
  by_cases c2 : a0_0 = true
  · subst c2
    have H1 : (if a0_2 = true then (if a0_4 < 0 then (some true) else (if a0_4 > 1125899906842624 then (some true) else (if a0_5 < 0 then (some true) else (some (decide (a0_5 > 99)))))) else (if a0_3.toList = ([] : List UInt8) then (if a0_4 < 0 then (some true) else (if a0_4 > 1125899906842624 then (some true) else (if a0_5 < 0 then (some true) else (some (decide (a0_5 > 99)))))) else (some true))) = some r := by rw [if_pos rfl] at H; exact H
    clear H
    have H := H1
    clear H1
    by_cases c3 : a0_2 = true
    · subst c3
      have H1 : (if a0_4 < 0 then (some true) else (if a0_4 > 1125899906842624 then (some true) else (if a0_5 < 0 then (some true) else (some (decide (a0_5 > 99)))))) = some r := by rw [if_pos rfl] at H; exact H
      clear H
      have H := H1
      clear H1
      by_cases c4 : a0_4 < 0
      · rw [if_pos c4] at H
        have c4b0 : decide (a0_4 < 0) = true := decide_eq_true c4
        clear c4
        obtain rfl := Option.some.inj H
        go_enter Try.func49, Try.ntmps49
        go_wp2_with (first | ((with_reducible refine gate_dst (N := 1) rfl ?_); refine box_event ?hg (N := 1) ?hd (cs := #[.bool true, .string a0_1, .bool true, .string a0_3, .int .i64 a0_4, .int .i64 a0_5]) (t := 45) ?hr ?_; (case hd => rfl); (case hg => rfl); (case hr => first | (go_simp; done) | (go_simp; rfl)); intro gb213 hg w5 hbox hb; have n0_ := Aside0.mk (below_step (by repeat (first | (with_reducible first | exact HB.out | apply below_alloc | apply pw_below_drewN | apply below_drew1) | exact HB.out)) hb); have n1_ := Aside0.mk (hbox); have n2_ := Aside0.mk ((by rw [hg]; exact (below_size (by repeat (first | (with_reducible first | exact HB.out | apply below_alloc | apply pw_below_drewN | apply below_drew1) | exact HB.out))) : w.heap.size ≤ gb213)); have n3_ := Aside0.mk ((by rw [hg]; exact (below_size (by repeat (first | (with_reducible first | exact HB.out | apply below_alloc | apply pw_below_drewN | apply below_drew1) | exact HB.out))) : w.heap.size ≤ gb213)); clear HB; have HB := n0_; have BK213 := n1_; have GW213 := n2_; have GE213 := n3_; clear n0_ n1_ n2_ n3_; clear hb hbox hg; have hcz6_0 : w5.cell? ⟨gb213, 0, none⟩ = some (.bool true) := (blk_cell BK213.out 0).trans rfl; have hcz6_1 : w5.cell? ⟨gb213, 1, none⟩ = some (.string a0_1) := (blk_cell BK213.out 1).trans rfl; have hcz6_2 : w5.cell? ⟨gb213, 2, none⟩ = some (.bool true) := (blk_cell BK213.out 2).trans rfl; have hcz6_3 : w5.cell? ⟨gb213, 3, none⟩ = some (.string a0_3) := (blk_cell BK213.out 3).trans rfl; have hcz6_4 : w5.cell? ⟨gb213, 4, none⟩ = some (.int .i64 a0_4) := (blk_cell BK213.out 4).trans rfl; have hcz6_5 : w5.cell? ⟨gb213, 5, none⟩ = some (.int .i64 a0_5) := (blk_cell BK213.out 5).trans rfl; have hfz6_0 := blk_frozen BK213.out 0; have hfz6_1 := blk_frozen BK213.out 1; have hfz6_2 := blk_frozen BK213.out 2; have hfz6_3 := blk_frozen BK213.out 3; have hfz6_4 := blk_frozen BK213.out 4; have hfz6_5 := blk_frozen BK213.out 5))
        go_ret
        exact ⟨by first | rfl | (simp [errW_none, errW_some] <;> rfl) | (simp [*, errW_none, errW_some] <;> rfl), by repeat (first | (with_reducible first | exact HB.out | apply below_alloc | apply pw_below_drewN | apply below_drew1 | refine below_set ?_ GE213.out) | exact HB.out)⟩
      · rw [if_neg c4] at H
        have c4b0 : decide (a0_4 < 0) = false := decide_eq_false c4
        clear c4
        by_cases c7 : a0_4 > 1125899906842624
        · rw [if_pos c7] at H
          have c7b0 : decide (1125899906842624 < a0_4) = true := decide_eq_true c7
          clear c7
          obtain rfl := Option.some.inj H
          go_enter Try.func49, Try.ntmps49
          go_wp2_with (first | ((with_reducible refine gate_dst (N := 1) rfl ?_); refine box_event ?hg (N := 1) ?hd (cs := #[.bool true, .string a0_1, .bool true, .string a0_3, .int .i64 a0_4, .int .i64 a0_5]) (t := 45) ?hr ?_; (case hd => rfl); (case hg => rfl); (case hr => first | (go_simp; done) | (go_simp; rfl)); intro gb213 hg w8 hbox hb; have n0_ := Aside0.mk (below_step (by repeat (first | (with_reducible first | exact HB.out | apply below_alloc | apply pw_below_drewN | apply below_drew1) | exact HB.out)) hb); have n1_ := Aside0.mk (hbox); have n2_ := Aside0.mk ((by rw [hg]; exact (below_size (by repeat (first | (with_reducible first | exact HB.out | apply below_alloc | apply pw_below_drewN | apply below_drew1) | exact HB.out))) : w.heap.size ≤ gb213)); have n3_ := Aside0.mk ((by rw [hg]; exact (below_size (by repeat (first | (with_reducible first | exact HB.out | apply below_alloc | apply pw_below_drewN | apply below_drew1) | exact HB.out))) : w.heap.size ≤ gb213)); clear HB; have HB := n0_; have BK213 := n1_; have GW213 := n2_; have GE213 := n3_; clear n0_ n1_ n2_ n3_; clear hb hbox hg; have hcz9_0 : w8.cell? ⟨gb213, 0, none⟩ = some (.bool true) := (blk_cell BK213.out 0).trans rfl; have hcz9_1 : w8.cell? ⟨gb213, 1, none⟩ = some (.string a0_1) := (blk_cell BK213.out 1).trans rfl; have hcz9_2 : w8.cell? ⟨gb213, 2, none⟩ = some (.bool true) := (blk_cell BK213.out 2).trans rfl; have hcz9_3 : w8.cell? ⟨gb213, 3, none⟩ = some (.string a0_3) := (blk_cell BK213.out 3).trans rfl; have hcz9_4 : w8.cell? ⟨gb213, 4, none⟩ = some (.int .i64 a0_4) := (blk_cell BK213.out 4).trans rfl; have hcz9_5 : w8.cell? ⟨gb213, 5, none⟩ = some (.int .i64 a0_5) := (blk_cell BK213.out 5).trans rfl; have hfz9_0 := blk_frozen BK213.out 0; have hfz9_1 := blk_frozen BK213.out 1; have hfz9_2 := blk_frozen BK213.out 2; have hfz9_3 := blk_frozen BK213.out 3; have hfz9_4 := blk_frozen BK213.out 4; have hfz9_5 := blk_frozen BK213.out 5))
          go_ret
          exact ⟨by first | rfl | (simp [errW_none, errW_some] <;> rfl) | (simp [*, errW_none, errW_some] <;> rfl), by repeat (first | (with_reducible first | exact HB.out | apply below_alloc | apply pw_below_drewN | apply below_drew1 | refine below_set ?_ GE213.out) | exact HB.out)⟩
        · rw [if_neg c7] at H
          have c7b0 : decide (1125899906842624 < a0_4) = false := decide_eq_false c7
          clear c7
          by_cases c10 : a0_5 < 0
          · rw [if_pos c10] at H
            have c10b0 : decide (a0_5 < 0) = true := decide_eq_true c10
            clear c10
            obtain rfl := Option.some.inj H
            go_enter Try.func49, Try.ntmps49
            go_wp2_with (first | ((with_reducible refine gate_dst (N := 1) rfl ?_); refine box_event ?hg (N := 1) ?hd (cs := #[.bool true, .string a0_1, .bool true, .string a0_3, .int .i64 a0_4, .int .i64 a0_5]) (t := 45) ?hr ?_; (case hd => rfl); (case hg => rfl); (case hr => first | (go_simp; done) | (go_simp; rfl)); intro gb213 hg w11 hbox hb; have n0_ := Aside0.mk (below_step (by repeat (first | (with_reducible first | exact HB.out | apply below_alloc | apply pw_below_drewN | apply below_drew1) | exact HB.out)) hb); have n1_ := Aside0.mk (hbox); have n2_ := Aside0.mk ((by rw [hg]; exact (below_size (by repeat (first | (with_reducible first | exact HB.out | apply below_alloc | apply pw_below_drewN | apply below_drew1) | exact HB.out))) : w.heap.size ≤ gb213)); have n3_ := Aside0.mk ((by rw [hg]; exact (below_size (by repeat (first | (with_reducible first | exact HB.out | apply below_alloc | apply pw_below_drewN | apply below_drew1) | exact HB.out))) : w.heap.size ≤ gb213)); clear HB; have HB := n0_; have BK213 := n1_; have GW213 := n2_; have GE213 := n3_; clear n0_ n1_ n2_ n3_; clear hb hbox hg; have hcz12_0 : w11.cell? ⟨gb213, 0, none⟩ = some (.bool true) := (blk_cell BK213.out 0).trans rfl; have hcz12_1 : w11.cell? ⟨gb213, 1, none⟩ = some (.string a0_1) := (blk_cell BK213.out 1).trans rfl; have hcz12_2 : w11.cell? ⟨gb213, 2, none⟩ = some (.bool true) := (blk_cell BK213.out 2).trans rfl; have hcz12_3 : w11.cell? ⟨gb213, 3, none⟩ = some (.string a0_3) := (blk_cell BK213.out 3).trans rfl; have hcz12_4 : w11.cell? ⟨gb213, 4, none⟩ = some (.int .i64 a0_4) := (blk_cell BK213.out 4).trans rfl; have hcz12_5 : w11.cell? ⟨gb213, 5, none⟩ = some (.int .i64 a0_5) := (blk_cell BK213.out 5).trans rfl; have hfz12_0 := blk_frozen BK213.out 0; have hfz12_1 := blk_frozen BK213.out 1; have hfz12_2 := blk_frozen BK213.out 2; have hfz12_3 := blk_frozen BK213.out 3; have hfz12_4 := blk_frozen BK213.out 4; have hfz12_5 := blk_frozen BK213.out 5))
            go_ret
            exact ⟨by first | rfl | (simp [errW_none, errW_some] <;> rfl) | (simp [*, errW_none, errW_some] <;> rfl), by repeat (first | (with_reducible first | exact HB.out | apply below_alloc | apply pw_below_drewN | apply below_drew1 | refine below_set ?_ GE213.out) | exact HB.out)⟩
          · rw [if_neg c10] at H
            have c10b0 : decide (a0_5 < 0) = false := decide_eq_false c10
            clear c10
            obtain rfl := Option.some.inj H
            go_enter Try.func49, Try.ntmps49
            go_wp2_with (first | ((with_reducible refine gate_dst (N := 1) rfl ?_); refine box_event ?hg (N := 1) ?hd (cs := #[.bool true, .string a0_1, .bool true, .string a0_3, .int .i64 a0_4, .int .i64 a0_5]) (t := 45) ?hr ?_; (case hd => rfl); (case hg => rfl); (case hr => first | (go_simp; done) | (go_simp; rfl)); intro gb213 hg w13 hbox hb; have n0_ := Aside0.mk (below_step (by repeat (first | (with_reducible first | exact HB.out | apply below_alloc | apply pw_below_drewN | apply below_drew1) | exact HB.out)) hb); have n1_ := Aside0.mk (hbox); have n2_ := Aside0.mk ((by rw [hg]; exact (below_size (by repeat (first | (with_reducible first | exact HB.out | apply below_alloc | apply pw_below_drewN | apply below_drew1) | exact HB.out))) : w.heap.size ≤ gb213)); have n3_ := Aside0.mk ((by rw [hg]; exact (below_size (by repeat (first | (with_reducible first | exact HB.out | apply below_alloc | apply pw_below_drewN | apply below_drew1) | exact HB.out))) : w.heap.size ≤ gb213)); clear HB; have HB := n0_; have BK213 := n1_; have GW213 := n2_; have GE213 := n3_; clear n0_ n1_ n2_ n3_; clear hb hbox hg; have hcz14_0 : w13.cell? ⟨gb213, 0, none⟩ = some (.bool true) := (blk_cell BK213.out 0).trans rfl; have hcz14_1 : w13.cell? ⟨gb213, 1, none⟩ = some (.string a0_1) := (blk_cell BK213.out 1).trans rfl; have hcz14_2 : w13.cell? ⟨gb213, 2, none⟩ = some (.bool true) := (blk_cell BK213.out 2).trans rfl; have hcz14_3 : w13.cell? ⟨gb213, 3, none⟩ = some (.string a0_3) := (blk_cell BK213.out 3).trans rfl; have hcz14_4 : w13.cell? ⟨gb213, 4, none⟩ = some (.int .i64 a0_4) := (blk_cell BK213.out 4).trans rfl; have hcz14_5 : w13.cell? ⟨gb213, 5, none⟩ = some (.int .i64 a0_5) := (blk_cell BK213.out 5).trans rfl; have hfz14_0 := blk_frozen BK213.out 0; have hfz14_1 := blk_frozen BK213.out 1; have hfz14_2 := blk_frozen BK213.out 2; have hfz14_3 := blk_frozen BK213.out 3; have hfz14_4 := blk_frozen BK213.out 4; have hfz14_5 := blk_frozen BK213.out 5))
            go_ret
            exact ⟨by first | rfl | (simp [errW_none, errW_some] <;> rfl) | (simp [*, errW_none, errW_some] <;> rfl), by repeat (first | (with_reducible first | exact HB.out | apply below_alloc | apply pw_below_drewN | apply below_drew1 | refine below_set ?_ GE213.out) | exact HB.out)⟩
    · replace c3 := Bool.eq_false_iff.mpr c3
      subst c3
      have H1 : (if a0_3.toList = ([] : List UInt8) then (if a0_4 < 0 then (some true) else (if a0_4 > 1125899906842624 then (some true) else (if a0_5 < 0 then (some true) else (some (decide (a0_5 > 99)))))) else (some true)) = some r := by rw [if_neg (show ¬ (false = true) by decide)] at H; exact H
      clear H
      have H := H1
      clear H1
      by_cases c15 : a0_3.toList = ([] : List UInt8)
      · rw [if_pos c15] at H
        have c15b0 : (a0_3.toList == ([] : List UInt8)) = true := beq_iff_eq.mpr c15
        have c15b1 : (a0_3.toList != ([] : List UInt8)) = false := bne_eq_false_iff_eq.mpr c15
        clear c15
        by_cases c16 : a0_4 < 0
        · rw [if_pos c16] at H
          have c16b0 : decide (a0_4 < 0) = true := decide_eq_true c16
          clear c16
          obtain rfl := Option.some.inj H
          go_enter Try.func49, Try.ntmps49
          go_wp2_with (first | ((with_reducible refine gate_dst (N := 1) rfl ?_); refine box_event ?hg (N := 1) ?hd (cs := #[.bool true, .string a0_1, .bool false, .string a0_3, .int .i64 a0_4, .int .i64 a0_5]) (t := 45) ?hr ?_; (case hd => rfl); (case hg => rfl); (case hr => first | (go_simp; done) | (go_simp; rfl)); intro gb213 hg w17 hbox hb; have n0_ := Aside0.mk (below_step (by repeat (first | (with_reducible first | exact HB.out | apply below_alloc | apply pw_below_drewN | apply below_drew1) | exact HB.out)) hb); have n1_ := Aside0.mk (hbox); have n2_ := Aside0.mk ((by rw [hg]; exact (below_size (by repeat (first | (with_reducible first | exact HB.out | apply below_alloc | apply pw_below_drewN | apply below_drew1) | exact HB.out))) : w.heap.size ≤ gb213)); have n3_ := Aside0.mk ((by rw [hg]; exact (below_size (by repeat (first | (with_reducible first | exact HB.out | apply below_alloc | apply pw_below_drewN | apply below_drew1) | exact HB.out))) : w.heap.size ≤ gb213)); clear HB; have HB := n0_; have BK213 := n1_; have GW213 := n2_; have GE213 := n3_; clear n0_ n1_ n2_ n3_; clear hb hbox hg; have hcz18_0 : w17.cell? ⟨gb213, 0, none⟩ = some (.bool true) := (blk_cell BK213.out 0).trans rfl; have hcz18_1 : w17.cell? ⟨gb213, 1, none⟩ = some (.string a0_1) := (blk_cell BK213.out 1).trans rfl; have hcz18_2 : w17.cell? ⟨gb213, 2, none⟩ = some (.bool false) := (blk_cell BK213.out 2).trans rfl; have hcz18_3 : w17.cell? ⟨gb213, 3, none⟩ = some (.string a0_3) := (blk_cell BK213.out 3).trans rfl; have hcz18_4 : w17.cell? ⟨gb213, 4, none⟩ = some (.int .i64 a0_4) := (blk_cell BK213.out 4).trans rfl; have hcz18_5 : w17.cell? ⟨gb213, 5, none⟩ = some (.int .i64 a0_5) := (blk_cell BK213.out 5).trans rfl; have hfz18_0 := blk_frozen BK213.out 0; have hfz18_1 := blk_frozen BK213.out 1; have hfz18_2 := blk_frozen BK213.out 2; have hfz18_3 := blk_frozen BK213.out 3; have hfz18_4 := blk_frozen BK213.out 4; have hfz18_5 := blk_frozen BK213.out 5))
          go_ret
          exact ⟨by first | rfl | (simp [errW_none, errW_some] <;> rfl) | (simp [*, errW_none, errW_some] <;> rfl), by repeat (first | (with_reducible first | exact HB.out | apply below_alloc | apply pw_below_drewN | apply below_drew1 | refine below_set ?_ GE213.out) | exact HB.out)⟩
        · rw [if_neg c16] at H
          have c16b0 : decide (a0_4 < 0) = false := decide_eq_false c16
          clear c16
          by_cases c19 : a0_4 > 1125899906842624
          · rw [if_pos c19] at H
            have c19b0 : decide (1125899906842624 < a0_4) = true := decide_eq_true c19
            clear c19
            obtain rfl := Option.some.inj H
            go_enter Try.func49, Try.ntmps49
            go_wp2_with (first | ((with_reducible refine gate_dst (N := 1) rfl ?_); refine box_event ?hg (N := 1) ?hd (cs := #[.bool true, .string a0_1, .bool false, .string a0_3, .int .i64 a0_4, .int .i64 a0_5]) (t := 45) ?hr ?_; (case hd => rfl); (case hg => rfl); (case hr => first | (go_simp; done) | (go_simp; rfl)); intro gb213 hg w20 hbox hb; have n0_ := Aside0.mk (below_step (by repeat (first | (with_reducible first | exact HB.out | apply below_alloc | apply pw_below_drewN | apply below_drew1) | exact HB.out)) hb); have n1_ := Aside0.mk (hbox); have n2_ := Aside0.mk ((by rw [hg]; exact (below_size (by repeat (first | (with_reducible first | exact HB.out | apply below_alloc | apply pw_below_drewN | apply below_drew1) | exact HB.out))) : w.heap.size ≤ gb213)); have n3_ := Aside0.mk ((by rw [hg]; exact (below_size (by repeat (first | (with_reducible first | exact HB.out | apply below_alloc | apply pw_below_drewN | apply below_drew1) | exact HB.out))) : w.heap.size ≤ gb213)); clear HB; have HB := n0_; have BK213 := n1_; have GW213 := n2_; have GE213 := n3_; clear n0_ n1_ n2_ n3_; clear hb hbox hg; have hcz21_0 : w20.cell? ⟨gb213, 0, none⟩ = some (.bool true) := (blk_cell BK213.out 0).trans rfl; have hcz21_1 : w20.cell? ⟨gb213, 1, none⟩ = some (.string a0_1) := (blk_cell BK213.out 1).trans rfl; have hcz21_2 : w20.cell? ⟨gb213, 2, none⟩ = some (.bool false) := (blk_cell BK213.out 2).trans rfl; have hcz21_3 : w20.cell? ⟨gb213, 3, none⟩ = some (.string a0_3) := (blk_cell BK213.out 3).trans rfl; have hcz21_4 : w20.cell? ⟨gb213, 4, none⟩ = some (.int .i64 a0_4) := (blk_cell BK213.out 4).trans rfl; have hcz21_5 : w20.cell? ⟨gb213, 5, none⟩ = some (.int .i64 a0_5) := (blk_cell BK213.out 5).trans rfl; have hfz21_0 := blk_frozen BK213.out 0; have hfz21_1 := blk_frozen BK213.out 1; have hfz21_2 := blk_frozen BK213.out 2; have hfz21_3 := blk_frozen BK213.out 3; have hfz21_4 := blk_frozen BK213.out 4; have hfz21_5 := blk_frozen BK213.out 5))
            go_ret
            exact ⟨by first | rfl | (simp [errW_none, errW_some] <;> rfl) | (simp [*, errW_none, errW_some] <;> rfl), by repeat (first | (with_reducible first | exact HB.out | apply below_alloc | apply pw_below_drewN | apply below_drew1 | refine below_set ?_ GE213.out) | exact HB.out)⟩
          · rw [if_neg c19] at H
            have c19b0 : decide (1125899906842624 < a0_4) = false := decide_eq_false c19
            clear c19
            by_cases c22 : a0_5 < 0
            · rw [if_pos c22] at H
              have c22b0 : decide (a0_5 < 0) = true := decide_eq_true c22
              clear c22
              obtain rfl := Option.some.inj H
              go_enter Try.func49, Try.ntmps49
              go_wp2_with (first | ((with_reducible refine gate_dst (N := 1) rfl ?_); refine box_event ?hg (N := 1) ?hd (cs := #[.bool true, .string a0_1, .bool false, .string a0_3, .int .i64 a0_4, .int .i64 a0_5]) (t := 45) ?hr ?_; (case hd => rfl); (case hg => rfl); (case hr => first | (go_simp; done) | (go_simp; rfl)); intro gb213 hg w23 hbox hb; have n0_ := Aside0.mk (below_step (by repeat (first | (with_reducible first | exact HB.out | apply below_alloc | apply pw_below_drewN | apply below_drew1) | exact HB.out)) hb); have n1_ := Aside0.mk (hbox); have n2_ := Aside0.mk ((by rw [hg]; exact (below_size (by repeat (first | (with_reducible first | exact HB.out | apply below_alloc | apply pw_below_drewN | apply below_drew1) | exact HB.out))) : w.heap.size ≤ gb213)); have n3_ := Aside0.mk ((by rw [hg]; exact (below_size (by repeat (first | (with_reducible first | exact HB.out | apply below_alloc | apply pw_below_drewN | apply below_drew1) | exact HB.out))) : w.heap.size ≤ gb213)); clear HB; have HB := n0_; have BK213 := n1_; have GW213 := n2_; have GE213 := n3_; clear n0_ n1_ n2_ n3_; clear hb hbox hg; have hcz24_0 : w23.cell? ⟨gb213, 0, none⟩ = some (.bool true) := (blk_cell BK213.out 0).trans rfl; have hcz24_1 : w23.cell? ⟨gb213, 1, none⟩ = some (.string a0_1) := (blk_cell BK213.out 1).trans rfl; have hcz24_2 : w23.cell? ⟨gb213, 2, none⟩ = some (.bool false) := (blk_cell BK213.out 2).trans rfl; have hcz24_3 : w23.cell? ⟨gb213, 3, none⟩ = some (.string a0_3) := (blk_cell BK213.out 3).trans rfl; have hcz24_4 : w23.cell? ⟨gb213, 4, none⟩ = some (.int .i64 a0_4) := (blk_cell BK213.out 4).trans rfl; have hcz24_5 : w23.cell? ⟨gb213, 5, none⟩ = some (.int .i64 a0_5) := (blk_cell BK213.out 5).trans rfl; have hfz24_0 := blk_frozen BK213.out 0; have hfz24_1 := blk_frozen BK213.out 1; have hfz24_2 := blk_frozen BK213.out 2; have hfz24_3 := blk_frozen BK213.out 3; have hfz24_4 := blk_frozen BK213.out 4; have hfz24_5 := blk_frozen BK213.out 5))
              go_ret
              exact ⟨by first | rfl | (simp [errW_none, errW_some] <;> rfl) | (simp [*, errW_none, errW_some] <;> rfl), by repeat (first | (with_reducible first | exact HB.out | apply below_alloc | apply pw_below_drewN | apply below_drew1 | refine below_set ?_ GE213.out) | exact HB.out)⟩
            · rw [if_neg c22] at H
              have c22b0 : decide (a0_5 < 0) = false := decide_eq_false c22
              clear c22
              obtain rfl := Option.some.inj H
              go_enter Try.func49, Try.ntmps49
              go_wp2_with (first | ((with_reducible refine gate_dst (N := 1) rfl ?_); refine box_event ?hg (N := 1) ?hd (cs := #[.bool true, .string a0_1, .bool false, .string a0_3, .int .i64 a0_4, .int .i64 a0_5]) (t := 45) ?hr ?_; (case hd => rfl); (case hg => rfl); (case hr => first | (go_simp; done) | (go_simp; rfl)); intro gb213 hg w25 hbox hb; have n0_ := Aside0.mk (below_step (by repeat (first | (with_reducible first | exact HB.out | apply below_alloc | apply pw_below_drewN | apply below_drew1) | exact HB.out)) hb); have n1_ := Aside0.mk (hbox); have n2_ := Aside0.mk ((by rw [hg]; exact (below_size (by repeat (first | (with_reducible first | exact HB.out | apply below_alloc | apply pw_below_drewN | apply below_drew1) | exact HB.out))) : w.heap.size ≤ gb213)); have n3_ := Aside0.mk ((by rw [hg]; exact (below_size (by repeat (first | (with_reducible first | exact HB.out | apply below_alloc | apply pw_below_drewN | apply below_drew1) | exact HB.out))) : w.heap.size ≤ gb213)); clear HB; have HB := n0_; have BK213 := n1_; have GW213 := n2_; have GE213 := n3_; clear n0_ n1_ n2_ n3_; clear hb hbox hg; have hcz26_0 : w25.cell? ⟨gb213, 0, none⟩ = some (.bool true) := (blk_cell BK213.out 0).trans rfl; have hcz26_1 : w25.cell? ⟨gb213, 1, none⟩ = some (.string a0_1) := (blk_cell BK213.out 1).trans rfl; have hcz26_2 : w25.cell? ⟨gb213, 2, none⟩ = some (.bool false) := (blk_cell BK213.out 2).trans rfl; have hcz26_3 : w25.cell? ⟨gb213, 3, none⟩ = some (.string a0_3) := (blk_cell BK213.out 3).trans rfl; have hcz26_4 : w25.cell? ⟨gb213, 4, none⟩ = some (.int .i64 a0_4) := (blk_cell BK213.out 4).trans rfl; have hcz26_5 : w25.cell? ⟨gb213, 5, none⟩ = some (.int .i64 a0_5) := (blk_cell BK213.out 5).trans rfl; have hfz26_0 := blk_frozen BK213.out 0; have hfz26_1 := blk_frozen BK213.out 1; have hfz26_2 := blk_frozen BK213.out 2; have hfz26_3 := blk_frozen BK213.out 3; have hfz26_4 := blk_frozen BK213.out 4; have hfz26_5 := blk_frozen BK213.out 5))
              go_ret
              exact ⟨by first | rfl | (simp [errW_none, errW_some] <;> rfl) | (simp [*, errW_none, errW_some] <;> rfl), by repeat (first | (with_reducible first | exact HB.out | apply below_alloc | apply pw_below_drewN | apply below_drew1 | refine below_set ?_ GE213.out) | exact HB.out)⟩
      · rw [if_neg c15] at H
        have c15b0 : (a0_3.toList == ([] : List UInt8)) = false := beq_eq_false_iff_ne.mpr c15
        have c15b1 : (a0_3.toList != ([] : List UInt8)) = true := bne_iff_ne.mpr c15
        obtain rfl := Option.some.inj H
        go_enter Try.func49, Try.ntmps49
        go_wp2_with (first | ((with_reducible refine gate_dst (N := 1) rfl ?_); refine box_event ?hg (N := 1) ?hd (cs := #[.bool true, .string a0_1, .bool false, .string a0_3, .int .i64 a0_4, .int .i64 a0_5]) (t := 45) ?hr ?_; (case hd => rfl); (case hg => rfl); (case hr => first | (go_simp; done) | (go_simp; rfl)); intro gb213 hg w27 hbox hb; have n0_ := Aside0.mk (below_step (by repeat (first | (with_reducible first | exact HB.out | apply below_alloc | apply pw_below_drewN | apply below_drew1) | exact HB.out)) hb); have n1_ := Aside0.mk (hbox); have n2_ := Aside0.mk ((by rw [hg]; exact (below_size (by repeat (first | (with_reducible first | exact HB.out | apply below_alloc | apply pw_below_drewN | apply below_drew1) | exact HB.out))) : w.heap.size ≤ gb213)); have n3_ := Aside0.mk ((by rw [hg]; exact (below_size (by repeat (first | (with_reducible first | exact HB.out | apply below_alloc | apply pw_below_drewN | apply below_drew1) | exact HB.out))) : w.heap.size ≤ gb213)); clear HB; have HB := n0_; have BK213 := n1_; have GW213 := n2_; have GE213 := n3_; clear n0_ n1_ n2_ n3_; clear hb hbox hg; have hcz28_0 : w27.cell? ⟨gb213, 0, none⟩ = some (.bool true) := (blk_cell BK213.out 0).trans rfl; have hcz28_1 : w27.cell? ⟨gb213, 1, none⟩ = some (.string a0_1) := (blk_cell BK213.out 1).trans rfl; have hcz28_2 : w27.cell? ⟨gb213, 2, none⟩ = some (.bool false) := (blk_cell BK213.out 2).trans rfl; have hcz28_3 : w27.cell? ⟨gb213, 3, none⟩ = some (.string a0_3) := (blk_cell BK213.out 3).trans rfl; have hcz28_4 : w27.cell? ⟨gb213, 4, none⟩ = some (.int .i64 a0_4) := (blk_cell BK213.out 4).trans rfl; have hcz28_5 : w27.cell? ⟨gb213, 5, none⟩ = some (.int .i64 a0_5) := (blk_cell BK213.out 5).trans rfl; have hfz28_0 := blk_frozen BK213.out 0; have hfz28_1 := blk_frozen BK213.out 1; have hfz28_2 := blk_frozen BK213.out 2; have hfz28_3 := blk_frozen BK213.out 3; have hfz28_4 := blk_frozen BK213.out 4; have hfz28_5 := blk_frozen BK213.out 5))
        go_ret
        exact ⟨by first | rfl | (simp [errW_none, errW_some] <;> rfl) | (simp [*, errW_none, errW_some] <;> rfl), by repeat (first | (with_reducible first | exact HB.out | apply below_alloc | apply pw_below_drewN | apply below_drew1 | refine below_set ?_ GE213.out) | exact HB.out)⟩
  · replace c2 := Bool.eq_false_iff.mpr c2
    subst c2
    have H1 : (if a0_1.toList = ([] : List UInt8) then (if a0_2 = true then (if a0_4 < 0 then (some true) else (if a0_4 > 1125899906842624 then (some true) else (if a0_5 < 0 then (some true) else (some (decide (a0_5 > 99)))))) else (if a0_3.toList = ([] : List UInt8) then (if a0_4 < 0 then (some true) else (if a0_4 > 1125899906842624 then (some true) else (if a0_5 < 0 then (some true) else (some (decide (a0_5 > 99)))))) else (some true))) else (some true)) = some r := by rw [if_neg (show ¬ (false = true) by decide)] at H; exact H
    clear H
    have H := H1
    clear H1
    by_cases c29 : a0_1.toList = ([] : List UInt8)
    · rw [if_pos c29] at H
      have c29b0 : (a0_1.toList == ([] : List UInt8)) = true := beq_iff_eq.mpr c29
      have c29b1 : (a0_1.toList != ([] : List UInt8)) = false := bne_eq_false_iff_eq.mpr c29
      clear c29
      by_cases c30 : a0_2 = true
      · subst c30
        have H1 : (if a0_4 < 0 then (some true) else (if a0_4 > 1125899906842624 then (some true) else (if a0_5 < 0 then (some true) else (some (decide (a0_5 > 99)))))) = some r := by rw [if_pos rfl] at H; exact H
        clear H
        have H := H1
        clear H1
        by_cases c31 : a0_4 < 0
        · rw [if_pos c31] at H
          have c31b0 : decide (a0_4 < 0) = true := decide_eq_true c31
          clear c31
          obtain rfl := Option.some.inj H
          go_enter Try.func49, Try.ntmps49
          go_wp2_with (first | ((with_reducible refine gate_dst (N := 1) rfl ?_); refine box_event ?hg (N := 1) ?hd (cs := #[.bool false, .string a0_1, .bool true, .string a0_3, .int .i64 a0_4, .int .i64 a0_5]) (t := 45) ?hr ?_; (case hd => rfl); (case hg => rfl); (case hr => first | (go_simp; done) | (go_simp; rfl)); intro gb213 hg w32 hbox hb; have n0_ := Aside0.mk (below_step (by repeat (first | (with_reducible first | exact HB.out | apply below_alloc | apply pw_below_drewN | apply below_drew1) | exact HB.out)) hb); have n1_ := Aside0.mk (hbox); have n2_ := Aside0.mk ((by rw [hg]; exact (below_size (by repeat (first | (with_reducible first | exact HB.out | apply below_alloc | apply pw_below_drewN | apply below_drew1) | exact HB.out))) : w.heap.size ≤ gb213)); have n3_ := Aside0.mk ((by rw [hg]; exact (below_size (by repeat (first | (with_reducible first | exact HB.out | apply below_alloc | apply pw_below_drewN | apply below_drew1) | exact HB.out))) : w.heap.size ≤ gb213)); clear HB; have HB := n0_; have BK213 := n1_; have GW213 := n2_; have GE213 := n3_; clear n0_ n1_ n2_ n3_; clear hb hbox hg; have hcz33_0 : w32.cell? ⟨gb213, 0, none⟩ = some (.bool false) := (blk_cell BK213.out 0).trans rfl; have hcz33_1 : w32.cell? ⟨gb213, 1, none⟩ = some (.string a0_1) := (blk_cell BK213.out 1).trans rfl; have hcz33_2 : w32.cell? ⟨gb213, 2, none⟩ = some (.bool true) := (blk_cell BK213.out 2).trans rfl; have hcz33_3 : w32.cell? ⟨gb213, 3, none⟩ = some (.string a0_3) := (blk_cell BK213.out 3).trans rfl; have hcz33_4 : w32.cell? ⟨gb213, 4, none⟩ = some (.int .i64 a0_4) := (blk_cell BK213.out 4).trans rfl; have hcz33_5 : w32.cell? ⟨gb213, 5, none⟩ = some (.int .i64 a0_5) := (blk_cell BK213.out 5).trans rfl; have hfz33_0 := blk_frozen BK213.out 0; have hfz33_1 := blk_frozen BK213.out 1; have hfz33_2 := blk_frozen BK213.out 2; have hfz33_3 := blk_frozen BK213.out 3; have hfz33_4 := blk_frozen BK213.out 4; have hfz33_5 := blk_frozen BK213.out 5))
          go_ret
          exact ⟨by first | rfl | (simp [errW_none, errW_some] <;> rfl) | (simp [*, errW_none, errW_some] <;> rfl), by repeat (first | (with_reducible first | exact HB.out | apply below_alloc | apply pw_below_drewN | apply below_drew1 | refine below_set ?_ GE213.out) | exact HB.out)⟩
        · rw [if_neg c31] at H
          have c31b0 : decide (a0_4 < 0) = false := decide_eq_false c31
          clear c31
          by_cases c34 : a0_4 > 1125899906842624
          · rw [if_pos c34] at H
            have c34b0 : decide (1125899906842624 < a0_4) = true := decide_eq_true c34
            clear c34
            obtain rfl := Option.some.inj H
            go_enter Try.func49, Try.ntmps49
            go_wp2_with (first | ((with_reducible refine gate_dst (N := 1) rfl ?_); refine box_event ?hg (N := 1) ?hd (cs := #[.bool false, .string a0_1, .bool true, .string a0_3, .int .i64 a0_4, .int .i64 a0_5]) (t := 45) ?hr ?_; (case hd => rfl); (case hg => rfl); (case hr => first | (go_simp; done) | (go_simp; rfl)); intro gb213 hg w35 hbox hb; have n0_ := Aside0.mk (below_step (by repeat (first | (with_reducible first | exact HB.out | apply below_alloc | apply pw_below_drewN | apply below_drew1) | exact HB.out)) hb); have n1_ := Aside0.mk (hbox); have n2_ := Aside0.mk ((by rw [hg]; exact (below_size (by repeat (first | (with_reducible first | exact HB.out | apply below_alloc | apply pw_below_drewN | apply below_drew1) | exact HB.out))) : w.heap.size ≤ gb213)); have n3_ := Aside0.mk ((by rw [hg]; exact (below_size (by repeat (first | (with_reducible first | exact HB.out | apply below_alloc | apply pw_below_drewN | apply below_drew1) | exact HB.out))) : w.heap.size ≤ gb213)); clear HB; have HB := n0_; have BK213 := n1_; have GW213 := n2_; have GE213 := n3_; clear n0_ n1_ n2_ n3_; clear hb hbox hg; have hcz36_0 : w35.cell? ⟨gb213, 0, none⟩ = some (.bool false) := (blk_cell BK213.out 0).trans rfl; have hcz36_1 : w35.cell? ⟨gb213, 1, none⟩ = some (.string a0_1) := (blk_cell BK213.out 1).trans rfl; have hcz36_2 : w35.cell? ⟨gb213, 2, none⟩ = some (.bool true) := (blk_cell BK213.out 2).trans rfl; have hcz36_3 : w35.cell? ⟨gb213, 3, none⟩ = some (.string a0_3) := (blk_cell BK213.out 3).trans rfl; have hcz36_4 : w35.cell? ⟨gb213, 4, none⟩ = some (.int .i64 a0_4) := (blk_cell BK213.out 4).trans rfl; have hcz36_5 : w35.cell? ⟨gb213, 5, none⟩ = some (.int .i64 a0_5) := (blk_cell BK213.out 5).trans rfl; have hfz36_0 := blk_frozen BK213.out 0; have hfz36_1 := blk_frozen BK213.out 1; have hfz36_2 := blk_frozen BK213.out 2; have hfz36_3 := blk_frozen BK213.out 3; have hfz36_4 := blk_frozen BK213.out 4; have hfz36_5 := blk_frozen BK213.out 5))
            go_ret
            exact ⟨by first | rfl | (simp [errW_none, errW_some] <;> rfl) | (simp [*, errW_none, errW_some] <;> rfl), by repeat (first | (with_reducible first | exact HB.out | apply below_alloc | apply pw_below_drewN | apply below_drew1 | refine below_set ?_ GE213.out) | exact HB.out)⟩
          · rw [if_neg c34] at H
            have c34b0 : decide (1125899906842624 < a0_4) = false := decide_eq_false c34
            clear c34
            by_cases c37 : a0_5 < 0
            · rw [if_pos c37] at H
              have c37b0 : decide (a0_5 < 0) = true := decide_eq_true c37
              clear c37
              obtain rfl := Option.some.inj H
              go_enter Try.func49, Try.ntmps49
              go_wp2_with (first | ((with_reducible refine gate_dst (N := 1) rfl ?_); refine box_event ?hg (N := 1) ?hd (cs := #[.bool false, .string a0_1, .bool true, .string a0_3, .int .i64 a0_4, .int .i64 a0_5]) (t := 45) ?hr ?_; (case hd => rfl); (case hg => rfl); (case hr => first | (go_simp; done) | (go_simp; rfl)); intro gb213 hg w38 hbox hb; have n0_ := Aside0.mk (below_step (by repeat (first | (with_reducible first | exact HB.out | apply below_alloc | apply pw_below_drewN | apply below_drew1) | exact HB.out)) hb); have n1_ := Aside0.mk (hbox); have n2_ := Aside0.mk ((by rw [hg]; exact (below_size (by repeat (first | (with_reducible first | exact HB.out | apply below_alloc | apply pw_below_drewN | apply below_drew1) | exact HB.out))) : w.heap.size ≤ gb213)); have n3_ := Aside0.mk ((by rw [hg]; exact (below_size (by repeat (first | (with_reducible first | exact HB.out | apply below_alloc | apply pw_below_drewN | apply below_drew1) | exact HB.out))) : w.heap.size ≤ gb213)); clear HB; have HB := n0_; have BK213 := n1_; have GW213 := n2_; have GE213 := n3_; clear n0_ n1_ n2_ n3_; clear hb hbox hg; have hcz39_0 : w38.cell? ⟨gb213, 0, none⟩ = some (.bool false) := (blk_cell BK213.out 0).trans rfl; have hcz39_1 : w38.cell? ⟨gb213, 1, none⟩ = some (.string a0_1) := (blk_cell BK213.out 1).trans rfl; have hcz39_2 : w38.cell? ⟨gb213, 2, none⟩ = some (.bool true) := (blk_cell BK213.out 2).trans rfl; have hcz39_3 : w38.cell? ⟨gb213, 3, none⟩ = some (.string a0_3) := (blk_cell BK213.out 3).trans rfl; have hcz39_4 : w38.cell? ⟨gb213, 4, none⟩ = some (.int .i64 a0_4) := (blk_cell BK213.out 4).trans rfl; have hcz39_5 : w38.cell? ⟨gb213, 5, none⟩ = some (.int .i64 a0_5) := (blk_cell BK213.out 5).trans rfl; have hfz39_0 := blk_frozen BK213.out 0; have hfz39_1 := blk_frozen BK213.out 1; have hfz39_2 := blk_frozen BK213.out 2; have hfz39_3 := blk_frozen BK213.out 3; have hfz39_4 := blk_frozen BK213.out 4; have hfz39_5 := blk_frozen BK213.out 5))
              go_ret
              exact ⟨by first | rfl | (simp [errW_none, errW_some] <;> rfl) | (simp [*, errW_none, errW_some] <;> rfl), by repeat (first | (with_reducible first | exact HB.out | apply below_alloc | apply pw_below_drewN | apply below_drew1 | refine below_set ?_ GE213.out) | exact HB.out)⟩
            · rw [if_neg c37] at H
              have c37b0 : decide (a0_5 < 0) = false := decide_eq_false c37
              clear c37
              obtain rfl := Option.some.inj H
              go_enter Try.func49, Try.ntmps49
              go_wp2_with (first | ((with_reducible refine gate_dst (N := 1) rfl ?_); refine box_event ?hg (N := 1) ?hd (cs := #[.bool false, .string a0_1, .bool true, .string a0_3, .int .i64 a0_4, .int .i64 a0_5]) (t := 45) ?hr ?_; (case hd => rfl); (case hg => rfl); (case hr => first | (go_simp; done) | (go_simp; rfl)); intro gb213 hg w40 hbox hb; have n0_ := Aside0.mk (below_step (by repeat (first | (with_reducible first | exact HB.out | apply below_alloc | apply pw_below_drewN | apply below_drew1) | exact HB.out)) hb); have n1_ := Aside0.mk (hbox); have n2_ := Aside0.mk ((by rw [hg]; exact (below_size (by repeat (first | (with_reducible first | exact HB.out | apply below_alloc | apply pw_below_drewN | apply below_drew1) | exact HB.out))) : w.heap.size ≤ gb213)); have n3_ := Aside0.mk ((by rw [hg]; exact (below_size (by repeat (first | (with_reducible first | exact HB.out | apply below_alloc | apply pw_below_drewN | apply below_drew1) | exact HB.out))) : w.heap.size ≤ gb213)); clear HB; have HB := n0_; have BK213 := n1_; have GW213 := n2_; have GE213 := n3_; clear n0_ n1_ n2_ n3_; clear hb hbox hg; have hcz41_0 : w40.cell? ⟨gb213, 0, none⟩ = some (.bool false) := (blk_cell BK213.out 0).trans rfl; have hcz41_1 : w40.cell? ⟨gb213, 1, none⟩ = some (.string a0_1) := (blk_cell BK213.out 1).trans rfl; have hcz41_2 : w40.cell? ⟨gb213, 2, none⟩ = some (.bool true) := (blk_cell BK213.out 2).trans rfl; have hcz41_3 : w40.cell? ⟨gb213, 3, none⟩ = some (.string a0_3) := (blk_cell BK213.out 3).trans rfl; have hcz41_4 : w40.cell? ⟨gb213, 4, none⟩ = some (.int .i64 a0_4) := (blk_cell BK213.out 4).trans rfl; have hcz41_5 : w40.cell? ⟨gb213, 5, none⟩ = some (.int .i64 a0_5) := (blk_cell BK213.out 5).trans rfl; have hfz41_0 := blk_frozen BK213.out 0; have hfz41_1 := blk_frozen BK213.out 1; have hfz41_2 := blk_frozen BK213.out 2; have hfz41_3 := blk_frozen BK213.out 3; have hfz41_4 := blk_frozen BK213.out 4; have hfz41_5 := blk_frozen BK213.out 5))
              go_ret
              exact ⟨by first | rfl | (simp [errW_none, errW_some] <;> rfl) | (simp [*, errW_none, errW_some] <;> rfl), by repeat (first | (with_reducible first | exact HB.out | apply below_alloc | apply pw_below_drewN | apply below_drew1 | refine below_set ?_ GE213.out) | exact HB.out)⟩
      · replace c30 := Bool.eq_false_iff.mpr c30
        subst c30
        have H1 : (if a0_3.toList = ([] : List UInt8) then (if a0_4 < 0 then (some true) else (if a0_4 > 1125899906842624 then (some true) else (if a0_5 < 0 then (some true) else (some (decide (a0_5 > 99)))))) else (some true)) = some r := by rw [if_neg (show ¬ (false = true) by decide)] at H; exact H
        clear H
        have H := H1
        clear H1
        by_cases c42 : a0_3.toList = ([] : List UInt8)
        · rw [if_pos c42] at H
          have c42b0 : (a0_3.toList == ([] : List UInt8)) = true := beq_iff_eq.mpr c42
          have c42b1 : (a0_3.toList != ([] : List UInt8)) = false := bne_eq_false_iff_eq.mpr c42
          clear c42
          by_cases c43 : a0_4 < 0
          · rw [if_pos c43] at H
            have c43b0 : decide (a0_4 < 0) = true := decide_eq_true c43
            clear c43
            obtain rfl := Option.some.inj H
            go_enter Try.func49, Try.ntmps49
            go_wp2_with (first | ((with_reducible refine gate_dst (N := 1) rfl ?_); refine box_event ?hg (N := 1) ?hd (cs := #[.bool false, .string a0_1, .bool false, .string a0_3, .int .i64 a0_4, .int .i64 a0_5]) (t := 45) ?hr ?_; (case hd => rfl); (case hg => rfl); (case hr => first | (go_simp; done) | (go_simp; rfl)); intro gb213 hg w44 hbox hb; have n0_ := Aside0.mk (below_step (by repeat (first | (with_reducible first | exact HB.out | apply below_alloc | apply pw_below_drewN | apply below_drew1) | exact HB.out)) hb); have n1_ := Aside0.mk (hbox); have n2_ := Aside0.mk ((by rw [hg]; exact (below_size (by repeat (first | (with_reducible first | exact HB.out | apply below_alloc | apply pw_below_drewN | apply below_drew1) | exact HB.out))) : w.heap.size ≤ gb213)); have n3_ := Aside0.mk ((by rw [hg]; exact (below_size (by repeat (first | (with_reducible first | exact HB.out | apply below_alloc | apply pw_below_drewN | apply below_drew1) | exact HB.out))) : w.heap.size ≤ gb213)); clear HB; have HB := n0_; have BK213 := n1_; have GW213 := n2_; have GE213 := n3_; clear n0_ n1_ n2_ n3_; clear hb hbox hg; have hcz45_0 : w44.cell? ⟨gb213, 0, none⟩ = some (.bool false) := (blk_cell BK213.out 0).trans rfl; have hcz45_1 : w44.cell? ⟨gb213, 1, none⟩ = some (.string a0_1) := (blk_cell BK213.out 1).trans rfl; have hcz45_2 : w44.cell? ⟨gb213, 2, none⟩ = some (.bool false) := (blk_cell BK213.out 2).trans rfl; have hcz45_3 : w44.cell? ⟨gb213, 3, none⟩ = some (.string a0_3) := (blk_cell BK213.out 3).trans rfl; have hcz45_4 : w44.cell? ⟨gb213, 4, none⟩ = some (.int .i64 a0_4) := (blk_cell BK213.out 4).trans rfl; have hcz45_5 : w44.cell? ⟨gb213, 5, none⟩ = some (.int .i64 a0_5) := (blk_cell BK213.out 5).trans rfl; have hfz45_0 := blk_frozen BK213.out 0; have hfz45_1 := blk_frozen BK213.out 1; have hfz45_2 := blk_frozen BK213.out 2; have hfz45_3 := blk_frozen BK213.out 3; have hfz45_4 := blk_frozen BK213.out 4; have hfz45_5 := blk_frozen BK213.out 5))
            go_ret
            exact ⟨by first | rfl | (simp [errW_none, errW_some] <;> rfl) | (simp [*, errW_none, errW_some] <;> rfl), by repeat (first | (with_reducible first | exact HB.out | apply below_alloc | apply pw_below_drewN | apply below_drew1 | refine below_set ?_ GE213.out) | exact HB.out)⟩
          · rw [if_neg c43] at H
            have c43b0 : decide (a0_4 < 0) = false := decide_eq_false c43
            clear c43
            by_cases c46 : a0_4 > 1125899906842624
            · rw [if_pos c46] at H
              have c46b0 : decide (1125899906842624 < a0_4) = true := decide_eq_true c46
              clear c46
              obtain rfl := Option.some.inj H
              go_enter Try.func49, Try.ntmps49
              go_wp2_with (first | ((with_reducible refine gate_dst (N := 1) rfl ?_); refine box_event ?hg (N := 1) ?hd (cs := #[.bool false, .string a0_1, .bool false, .string a0_3, .int .i64 a0_4, .int .i64 a0_5]) (t := 45) ?hr ?_; (case hd => rfl); (case hg => rfl); (case hr => first | (go_simp; done) | (go_simp; rfl)); intro gb213 hg w47 hbox hb; have n0_ := Aside0.mk (below_step (by repeat (first | (with_reducible first | exact HB.out | apply below_alloc | apply pw_below_drewN | apply below_drew1) | exact HB.out)) hb); have n1_ := Aside0.mk (hbox); have n2_ := Aside0.mk ((by rw [hg]; exact (below_size (by repeat (first | (with_reducible first | exact HB.out | apply below_alloc | apply pw_below_drewN | apply below_drew1) | exact HB.out))) : w.heap.size ≤ gb213)); have n3_ := Aside0.mk ((by rw [hg]; exact (below_size (by repeat (first | (with_reducible first | exact HB.out | apply below_alloc | apply pw_below_drewN | apply below_drew1) | exact HB.out))) : w.heap.size ≤ gb213)); clear HB; have HB := n0_; have BK213 := n1_; have GW213 := n2_; have GE213 := n3_; clear n0_ n1_ n2_ n3_; clear hb hbox hg; have hcz48_0 : w47.cell? ⟨gb213, 0, none⟩ = some (.bool false) := (blk_cell BK213.out 0).trans rfl; have hcz48_1 : w47.cell? ⟨gb213, 1, none⟩ = some (.string a0_1) := (blk_cell BK213.out 1).trans rfl; have hcz48_2 : w47.cell? ⟨gb213, 2, none⟩ = some (.bool false) := (blk_cell BK213.out 2).trans rfl; have hcz48_3 : w47.cell? ⟨gb213, 3, none⟩ = some (.string a0_3) := (blk_cell BK213.out 3).trans rfl; have hcz48_4 : w47.cell? ⟨gb213, 4, none⟩ = some (.int .i64 a0_4) := (blk_cell BK213.out 4).trans rfl; have hcz48_5 : w47.cell? ⟨gb213, 5, none⟩ = some (.int .i64 a0_5) := (blk_cell BK213.out 5).trans rfl; have hfz48_0 := blk_frozen BK213.out 0; have hfz48_1 := blk_frozen BK213.out 1; have hfz48_2 := blk_frozen BK213.out 2; have hfz48_3 := blk_frozen BK213.out 3; have hfz48_4 := blk_frozen BK213.out 4; have hfz48_5 := blk_frozen BK213.out 5))
              go_ret
              exact ⟨by first | rfl | (simp [errW_none, errW_some] <;> rfl) | (simp [*, errW_none, errW_some] <;> rfl), by repeat (first | (with_reducible first | exact HB.out | apply below_alloc | apply pw_below_drewN | apply below_drew1 | refine below_set ?_ GE213.out) | exact HB.out)⟩
            · rw [if_neg c46] at H
              have c46b0 : decide (1125899906842624 < a0_4) = false := decide_eq_false c46
              clear c46
              by_cases c49 : a0_5 < 0
              · rw [if_pos c49] at H
                have c49b0 : decide (a0_5 < 0) = true := decide_eq_true c49
                clear c49
                obtain rfl := Option.some.inj H
                go_enter Try.func49, Try.ntmps49
                go_wp2_with (first | ((with_reducible refine gate_dst (N := 1) rfl ?_); refine box_event ?hg (N := 1) ?hd (cs := #[.bool false, .string a0_1, .bool false, .string a0_3, .int .i64 a0_4, .int .i64 a0_5]) (t := 45) ?hr ?_; (case hd => rfl); (case hg => rfl); (case hr => first | (go_simp; done) | (go_simp; rfl)); intro gb213 hg w50 hbox hb; have n0_ := Aside0.mk (below_step (by repeat (first | (with_reducible first | exact HB.out | apply below_alloc | apply pw_below_drewN | apply below_drew1) | exact HB.out)) hb); have n1_ := Aside0.mk (hbox); have n2_ := Aside0.mk ((by rw [hg]; exact (below_size (by repeat (first | (with_reducible first | exact HB.out | apply below_alloc | apply pw_below_drewN | apply below_drew1) | exact HB.out))) : w.heap.size ≤ gb213)); have n3_ := Aside0.mk ((by rw [hg]; exact (below_size (by repeat (first | (with_reducible first | exact HB.out | apply below_alloc | apply pw_below_drewN | apply below_drew1) | exact HB.out))) : w.heap.size ≤ gb213)); clear HB; have HB := n0_; have BK213 := n1_; have GW213 := n2_; have GE213 := n3_; clear n0_ n1_ n2_ n3_; clear hb hbox hg; have hcz51_0 : w50.cell? ⟨gb213, 0, none⟩ = some (.bool false) := (blk_cell BK213.out 0).trans rfl; have hcz51_1 : w50.cell? ⟨gb213, 1, none⟩ = some (.string a0_1) := (blk_cell BK213.out 1).trans rfl; have hcz51_2 : w50.cell? ⟨gb213, 2, none⟩ = some (.bool false) := (blk_cell BK213.out 2).trans rfl; have hcz51_3 : w50.cell? ⟨gb213, 3, none⟩ = some (.string a0_3) := (blk_cell BK213.out 3).trans rfl; have hcz51_4 : w50.cell? ⟨gb213, 4, none⟩ = some (.int .i64 a0_4) := (blk_cell BK213.out 4).trans rfl; have hcz51_5 : w50.cell? ⟨gb213, 5, none⟩ = some (.int .i64 a0_5) := (blk_cell BK213.out 5).trans rfl; have hfz51_0 := blk_frozen BK213.out 0; have hfz51_1 := blk_frozen BK213.out 1; have hfz51_2 := blk_frozen BK213.out 2; have hfz51_3 := blk_frozen BK213.out 3; have hfz51_4 := blk_frozen BK213.out 4; have hfz51_5 := blk_frozen BK213.out 5))
                go_ret
                exact ⟨by first | rfl | (simp [errW_none, errW_some] <;> rfl) | (simp [*, errW_none, errW_some] <;> rfl), by repeat (first | (with_reducible first | exact HB.out | apply below_alloc | apply pw_below_drewN | apply below_drew1 | refine below_set ?_ GE213.out) | exact HB.out)⟩
              · rw [if_neg c49] at H
                have c49b0 : decide (a0_5 < 0) = false := decide_eq_false c49
                clear c49
                obtain rfl := Option.some.inj H
                go_enter Try.func49, Try.ntmps49
                go_wp2_with (first | ((with_reducible refine gate_dst (N := 1) rfl ?_); refine box_event ?hg (N := 1) ?hd (cs := #[.bool false, .string a0_1, .bool false, .string a0_3, .int .i64 a0_4, .int .i64 a0_5]) (t := 45) ?hr ?_; (case hd => rfl); (case hg => rfl); (case hr => first | (go_simp; done) | (go_simp; rfl)); intro gb213 hg w52 hbox hb; have n0_ := Aside0.mk (below_step (by repeat (first | (with_reducible first | exact HB.out | apply below_alloc | apply pw_below_drewN | apply below_drew1) | exact HB.out)) hb); have n1_ := Aside0.mk (hbox); have n2_ := Aside0.mk ((by rw [hg]; exact (below_size (by repeat (first | (with_reducible first | exact HB.out | apply below_alloc | apply pw_below_drewN | apply below_drew1) | exact HB.out))) : w.heap.size ≤ gb213)); have n3_ := Aside0.mk ((by rw [hg]; exact (below_size (by repeat (first | (with_reducible first | exact HB.out | apply below_alloc | apply pw_below_drewN | apply below_drew1) | exact HB.out))) : w.heap.size ≤ gb213)); clear HB; have HB := n0_; have BK213 := n1_; have GW213 := n2_; have GE213 := n3_; clear n0_ n1_ n2_ n3_; clear hb hbox hg; have hcz53_0 : w52.cell? ⟨gb213, 0, none⟩ = some (.bool false) := (blk_cell BK213.out 0).trans rfl; have hcz53_1 : w52.cell? ⟨gb213, 1, none⟩ = some (.string a0_1) := (blk_cell BK213.out 1).trans rfl; have hcz53_2 : w52.cell? ⟨gb213, 2, none⟩ = some (.bool false) := (blk_cell BK213.out 2).trans rfl; have hcz53_3 : w52.cell? ⟨gb213, 3, none⟩ = some (.string a0_3) := (blk_cell BK213.out 3).trans rfl; have hcz53_4 : w52.cell? ⟨gb213, 4, none⟩ = some (.int .i64 a0_4) := (blk_cell BK213.out 4).trans rfl; have hcz53_5 : w52.cell? ⟨gb213, 5, none⟩ = some (.int .i64 a0_5) := (blk_cell BK213.out 5).trans rfl; have hfz53_0 := blk_frozen BK213.out 0; have hfz53_1 := blk_frozen BK213.out 1; have hfz53_2 := blk_frozen BK213.out 2; have hfz53_3 := blk_frozen BK213.out 3; have hfz53_4 := blk_frozen BK213.out 4; have hfz53_5 := blk_frozen BK213.out 5))
                go_ret
                exact ⟨by first | rfl | (simp [errW_none, errW_some] <;> rfl) | (simp [*, errW_none, errW_some] <;> rfl), by repeat (first | (with_reducible first | exact HB.out | apply below_alloc | apply pw_below_drewN | apply below_drew1 | refine below_set ?_ GE213.out) | exact HB.out)⟩
        · rw [if_neg c42] at H
          have c42b0 : (a0_3.toList == ([] : List UInt8)) = false := beq_eq_false_iff_ne.mpr c42
          have c42b1 : (a0_3.toList != ([] : List UInt8)) = true := bne_iff_ne.mpr c42
          obtain rfl := Option.some.inj H
          go_enter Try.func49, Try.ntmps49
          go_wp2_with (first | ((with_reducible refine gate_dst (N := 1) rfl ?_); refine box_event ?hg (N := 1) ?hd (cs := #[.bool false, .string a0_1, .bool false, .string a0_3, .int .i64 a0_4, .int .i64 a0_5]) (t := 45) ?hr ?_; (case hd => rfl); (case hg => rfl); (case hr => first | (go_simp; done) | (go_simp; rfl)); intro gb213 hg w54 hbox hb; have n0_ := Aside0.mk (below_step (by repeat (first | (with_reducible first | exact HB.out | apply below_alloc | apply pw_below_drewN | apply below_drew1) | exact HB.out)) hb); have n1_ := Aside0.mk (hbox); have n2_ := Aside0.mk ((by rw [hg]; exact (below_size (by repeat (first | (with_reducible first | exact HB.out | apply below_alloc | apply pw_below_drewN | apply below_drew1) | exact HB.out))) : w.heap.size ≤ gb213)); have n3_ := Aside0.mk ((by rw [hg]; exact (below_size (by repeat (first | (with_reducible first | exact HB.out | apply below_alloc | apply pw_below_drewN | apply below_drew1) | exact HB.out))) : w.heap.size ≤ gb213)); clear HB; have HB := n0_; have BK213 := n1_; have GW213 := n2_; have GE213 := n3_; clear n0_ n1_ n2_ n3_; clear hb hbox hg; have hcz55_0 : w54.cell? ⟨gb213, 0, none⟩ = some (.bool false) := (blk_cell BK213.out 0).trans rfl; have hcz55_1 : w54.cell? ⟨gb213, 1, none⟩ = some (.string a0_1) := (blk_cell BK213.out 1).trans rfl; have hcz55_2 : w54.cell? ⟨gb213, 2, none⟩ = some (.bool false) := (blk_cell BK213.out 2).trans rfl; have hcz55_3 : w54.cell? ⟨gb213, 3, none⟩ = some (.string a0_3) := (blk_cell BK213.out 3).trans rfl; have hcz55_4 : w54.cell? ⟨gb213, 4, none⟩ = some (.int .i64 a0_4) := (blk_cell BK213.out 4).trans rfl; have hcz55_5 : w54.cell? ⟨gb213, 5, none⟩ = some (.int .i64 a0_5) := (blk_cell BK213.out 5).trans rfl; have hfz55_0 := blk_frozen BK213.out 0; have hfz55_1 := blk_frozen BK213.out 1; have hfz55_2 := blk_frozen BK213.out 2; have hfz55_3 := blk_frozen BK213.out 3; have hfz55_4 := blk_frozen BK213.out 4; have hfz55_5 := blk_frozen BK213.out 5))
          go_ret
          exact ⟨by first | rfl | (simp [errW_none, errW_some] <;> rfl) | (simp [*, errW_none, errW_some] <;> rfl), by repeat (first | (with_reducible first | exact HB.out | apply below_alloc | apply pw_below_drewN | apply below_drew1 | refine below_set ?_ GE213.out) | exact HB.out)⟩
    · rw [if_neg c29] at H
      have c29b0 : (a0_1.toList == ([] : List UInt8)) = false := beq_eq_false_iff_ne.mpr c29
      have c29b1 : (a0_1.toList != ([] : List UInt8)) = true := bne_iff_ne.mpr c29
      obtain rfl := Option.some.inj H
      go_enter Try.func49, Try.ntmps49
      go_wp2_with (first | ((with_reducible refine gate_dst (N := 1) rfl ?_); refine box_event ?hg (N := 1) ?hd (cs := #[.bool false, .string a0_1, .bool a0_2, .string a0_3, .int .i64 a0_4, .int .i64 a0_5]) (t := 45) ?hr ?_; (case hd => rfl); (case hg => rfl); (case hr => first | (go_simp; done) | (go_simp; rfl)); intro gb213 hg w56 hbox hb; have n0_ := Aside0.mk (below_step (by repeat (first | (with_reducible first | exact HB.out | apply below_alloc | apply pw_below_drewN | apply below_drew1) | exact HB.out)) hb); have n1_ := Aside0.mk (hbox); have n2_ := Aside0.mk ((by rw [hg]; exact (below_size (by repeat (first | (with_reducible first | exact HB.out | apply below_alloc | apply pw_below_drewN | apply below_drew1) | exact HB.out))) : w.heap.size ≤ gb213)); have n3_ := Aside0.mk ((by rw [hg]; exact (below_size (by repeat (first | (with_reducible first | exact HB.out | apply below_alloc | apply pw_below_drewN | apply below_drew1) | exact HB.out))) : w.heap.size ≤ gb213)); clear HB; have HB := n0_; have BK213 := n1_; have GW213 := n2_; have GE213 := n3_; clear n0_ n1_ n2_ n3_; clear hb hbox hg; have hcz57_0 : w56.cell? ⟨gb213, 0, none⟩ = some (.bool false) := (blk_cell BK213.out 0).trans rfl; have hcz57_1 : w56.cell? ⟨gb213, 1, none⟩ = some (.string a0_1) := (blk_cell BK213.out 1).trans rfl; have hcz57_2 : w56.cell? ⟨gb213, 2, none⟩ = some (.bool a0_2) := (blk_cell BK213.out 2).trans rfl; have hcz57_3 : w56.cell? ⟨gb213, 3, none⟩ = some (.string a0_3) := (blk_cell BK213.out 3).trans rfl; have hcz57_4 : w56.cell? ⟨gb213, 4, none⟩ = some (.int .i64 a0_4) := (blk_cell BK213.out 4).trans rfl; have hcz57_5 : w56.cell? ⟨gb213, 5, none⟩ = some (.int .i64 a0_5) := (blk_cell BK213.out 5).trans rfl; have hfz57_0 := blk_frozen BK213.out 0; have hfz57_1 := blk_frozen BK213.out 1; have hfz57_2 := blk_frozen BK213.out 2; have hfz57_3 := blk_frozen BK213.out 3; have hfz57_4 := blk_frozen BK213.out 4; have hfz57_5 := blk_frozen BK213.out 5))
      go_ret
      exact ⟨by first | rfl | (simp [errW_none, errW_some] <;> rfl) | (simp [*, errW_none, errW_some] <;> rfl), by repeat (first | (with_reducible first | exact HB.out | apply below_alloc | apply pw_below_drewN | apply below_drew1 | refine below_set ?_ GE213.out) | exact HB.out)⟩

/-! ### bollardref12_Check: function 31 -/
def bollardref12_Check.f (a0_0 : Bool) (a0_1 : ByteArray) (a0_2 : Bool) (a0_3 : ByteArray) (a0_4 : Int) (a0_5 : Int) : Option (Int) := (bollardref12_odd.f a0_0 a0_1 a0_2 a0_3 a0_4 a0_5).bind fun t215 => (if t215 = true then (some 1) else (if (a0_1.size : Int) > 2000 then (some 2) else (if (a0_3.size : Int) > 2000 then (some 2) else (some 0))))
set_option maxHeartbeats 8000000 in
set_option maxRecDepth 100000 in
theorem bollardref12_Check.calls (a0_0 : Bool) (a0_1 : ByteArray) (a0_2 : Bool) (a0_3 : ByteArray) (a0_4 : Int) (a0_5 : Int) (r : Int) (w : World) (h : bollardref12_Check.f a0_0 a0_1 a0_2 a0_3 a0_4 a0_5 = some r) :
    Calls Try.prog 31 #[.agg #[.bool a0_0, .string a0_1, .bool a0_2, .string a0_3, .int .i64 a0_4, .int .i64 a0_5]] w fun e w' => e = .returned (.int .i64 r) ∧ Below w.heap.size w w' := by
  have hu45 := Try.underlying45
  have HB := Aside0.mk (Below.refl w.heap.size w)
  have H : ((bollardref12_odd.f a0_0 a0_1 a0_2 a0_3 a0_4 a0_5).bind fun t215 => (if t215 = true then (some 1) else (if (a0_1.size : Int) > 2000 then (some 2) else (if (a0_3.size : Int) > 2000 then (some 2) else (some 0))))) = some r := h
  clear h
  replace H := Option.bind_eq_some_iff.mp H
  obtain ⟨t215, A20, H⟩ := H
  replace H : (if t215 = true then (some 1) else (if (a0_1.size : Int) > 2000 then (some 2) else (if (a0_3.size : Int) > 2000 then (some 2) else (some 0)))) = some r := H
  have A2 := Aside0.mk A20
  clear A20
  by_cases c3 : t215 = true
  · subst c3
    have H1 : (some 1) = some r := by rw [if_pos rfl] at H; exact H
    clear H
    have H := H1
    clear H1
    obtain rfl := Option.some.inj H
    go_enter Try.func31, Try.ntmps31
    go_wp2_with (first | ((with_reducible refine gate_dst (N := 1) rfl ?_); (try (refine gate_guard (by rfl) ?_; dsimp only)); refine box_event ?hg (N := 1) ?hd (cs := #[.bool a0_0, .string a0_1, .bool a0_2, .string a0_3, .int .i64 a0_4, .int .i64 a0_5]) (t := 45) ?hr ?_; (case hd => rfl); (case hg => rfl); (case hr => first | (go_simp; done) | (go_simp; rfl)); intro gb214 hg w4 hbox hb; have n0_ := Aside0.mk (below_step (by repeat (first | (with_reducible first | exact HB.out | apply below_alloc | apply pw_below_drewN | apply below_drew1) | exact HB.out)) hb); have n1_ := Aside0.mk (hbox); have n2_ := Aside0.mk ((by rw [hg]; exact (below_size (by repeat (first | (with_reducible first | exact HB.out | apply below_alloc | apply pw_below_drewN | apply below_drew1) | exact HB.out))) : w.heap.size ≤ gb214)); have n3_ := Aside0.mk ((by rw [hg]; exact (below_size (by repeat (first | (with_reducible first | exact HB.out | apply below_alloc | apply pw_below_drewN | apply below_drew1) | exact HB.out))) : w.heap.size ≤ gb214)); clear HB; have HB := n0_; have BK214 := n1_; have GW214 := n2_; have GE214 := n3_; clear n0_ n1_ n2_ n3_; clear hb hbox hg; have hcz5_0 : w4.cell? ⟨gb214, 0, none⟩ = some (.bool a0_0) := (blk_cell BK214.out 0).trans rfl; have hcz5_1 : w4.cell? ⟨gb214, 1, none⟩ = some (.string a0_1) := (blk_cell BK214.out 1).trans rfl; have hcz5_2 : w4.cell? ⟨gb214, 2, none⟩ = some (.bool a0_2) := (blk_cell BK214.out 2).trans rfl; have hcz5_3 : w4.cell? ⟨gb214, 3, none⟩ = some (.string a0_3) := (blk_cell BK214.out 3).trans rfl; have hcz5_4 : w4.cell? ⟨gb214, 4, none⟩ = some (.int .i64 a0_4) := (blk_cell BK214.out 4).trans rfl; have hcz5_5 : w4.cell? ⟨gb214, 5, none⟩ = some (.int .i64 a0_5) := (blk_cell BK214.out 5).trans rfl; have hfz5_0 := blk_frozen BK214.out 0; have hfz5_1 := blk_frozen BK214.out 1; have hfz5_2 := blk_frozen BK214.out 2; have hfz5_3 := blk_frozen BK214.out 3; have hfz5_4 := blk_frozen BK214.out 4; have hfz5_5 := blk_frozen BK214.out 5) | ((with_reducible refine gate_callee (f := 49) rfl ?_); refine goesL_ (some 4) rfl rfl Try.func49 (by kernel_rfl) rfl #[.agg #[.bool a0_0, .string a0_1, .bool a0_2, .string a0_3, .int .i64 a0_4, .int .i64 a0_5]] rfl (by (try simp only [List.map_toArray, List.map_cons, List.map_nil]); first | done | rfl | (simp only [List.length_drop, List.length_take]; rfl)) ?_; (with_reducible refine (bollardref12_odd.calls a0_0 a0_1 a0_2 a0_3 a0_4 a0_5 true _ A2.out).mono ?_); rintro e w6 ⟨rfl, hb⟩; refine ⟨_, rfl, ?_⟩; have n0_ := Aside0.mk (blk_below (g := gb214) (o := .cells #[.bool a0_0, .string a0_1, .bool a0_2, .string a0_3, .int .i64 a0_4, .int .i64 a0_5] 45 (0, 0)) (by (with_reducible repeat (first | refine blk_drewN ?_ _ | refine blk_drew ?_ | refine blk_alloc ?_ _)); exact BK214.out) hb); have n1_ := Aside0.mk (below_step (by repeat (first | (with_reducible first | exact HB.out | apply below_alloc | apply pw_below_drewN | apply below_drew1 | refine below_set ?_ GE214.out) | exact HB.out)) hb); clear BK214; clear HB; have BK214 := n0_; have HB := n1_; clear n0_ n1_; (try clear hb); (try clear hb2); (try clear hk); (try clear hi)))
    go_ret
    exact ⟨by first | rfl | (simp [errW_none, errW_some] <;> rfl) | (simp [*, errW_none, errW_some] <;> rfl), by repeat (first | (with_reducible first | exact HB.out | apply below_alloc | apply pw_below_drewN | apply below_drew1 | refine below_set ?_ GE214.out) | exact HB.out)⟩
  · replace c3 := Bool.eq_false_iff.mpr c3
    subst c3
    have H1 : (if (a0_1.size : Int) > 2000 then (some 2) else (if (a0_3.size : Int) > 2000 then (some 2) else (some 0))) = some r := by rw [if_neg (show ¬ (false = true) by decide)] at H; exact H
    clear H
    have H := H1
    clear H1
    by_cases c7 : (a0_1.size : Int) > 2000
    · rw [if_pos c7] at H
      have c7b0 : decide (2000 < (a0_1.size : Int)) = true := decide_eq_true c7
      have c7b1 : decide (2000 < a0_1.size) = true := decide_eq_true (by omega)
      clear c7
      obtain rfl := Option.some.inj H
      go_enter Try.func31, Try.ntmps31
      go_wp2_with (first | ((with_reducible refine gate_dst (N := 1) rfl ?_); (try (refine gate_guard (by rfl) ?_; dsimp only)); refine box_event ?hg (N := 1) ?hd (cs := #[.bool a0_0, .string a0_1, .bool a0_2, .string a0_3, .int .i64 a0_4, .int .i64 a0_5]) (t := 45) ?hr ?_; (case hd => rfl); (case hg => rfl); (case hr => first | (go_simp; done) | (go_simp; rfl)); intro gb214 hg w8 hbox hb; have n0_ := Aside0.mk (below_step (by repeat (first | (with_reducible first | exact HB.out | apply below_alloc | apply pw_below_drewN | apply below_drew1) | exact HB.out)) hb); have n1_ := Aside0.mk (hbox); have n2_ := Aside0.mk ((by rw [hg]; exact (below_size (by repeat (first | (with_reducible first | exact HB.out | apply below_alloc | apply pw_below_drewN | apply below_drew1) | exact HB.out))) : w.heap.size ≤ gb214)); have n3_ := Aside0.mk ((by rw [hg]; exact (below_size (by repeat (first | (with_reducible first | exact HB.out | apply below_alloc | apply pw_below_drewN | apply below_drew1) | exact HB.out))) : w.heap.size ≤ gb214)); clear HB; have HB := n0_; have BK214 := n1_; have GW214 := n2_; have GE214 := n3_; clear n0_ n1_ n2_ n3_; clear hb hbox hg; have hcz9_0 : w8.cell? ⟨gb214, 0, none⟩ = some (.bool a0_0) := (blk_cell BK214.out 0).trans rfl; have hcz9_1 : w8.cell? ⟨gb214, 1, none⟩ = some (.string a0_1) := (blk_cell BK214.out 1).trans rfl; have hcz9_2 : w8.cell? ⟨gb214, 2, none⟩ = some (.bool a0_2) := (blk_cell BK214.out 2).trans rfl; have hcz9_3 : w8.cell? ⟨gb214, 3, none⟩ = some (.string a0_3) := (blk_cell BK214.out 3).trans rfl; have hcz9_4 : w8.cell? ⟨gb214, 4, none⟩ = some (.int .i64 a0_4) := (blk_cell BK214.out 4).trans rfl; have hcz9_5 : w8.cell? ⟨gb214, 5, none⟩ = some (.int .i64 a0_5) := (blk_cell BK214.out 5).trans rfl; have hfz9_0 := blk_frozen BK214.out 0; have hfz9_1 := blk_frozen BK214.out 1; have hfz9_2 := blk_frozen BK214.out 2; have hfz9_3 := blk_frozen BK214.out 3; have hfz9_4 := blk_frozen BK214.out 4; have hfz9_5 := blk_frozen BK214.out 5) | ((with_reducible refine gate_callee (f := 49) rfl ?_); refine goesL_ (some 4) rfl rfl Try.func49 (by kernel_rfl) rfl #[.agg #[.bool a0_0, .string a0_1, .bool a0_2, .string a0_3, .int .i64 a0_4, .int .i64 a0_5]] rfl (by (try simp only [List.map_toArray, List.map_cons, List.map_nil]); first | done | rfl | (simp only [List.length_drop, List.length_take]; rfl)) ?_; (with_reducible refine (bollardref12_odd.calls a0_0 a0_1 a0_2 a0_3 a0_4 a0_5 false _ A2.out).mono ?_); rintro e w10 ⟨rfl, hb⟩; refine ⟨_, rfl, ?_⟩; have n0_ := Aside0.mk (blk_below (g := gb214) (o := .cells #[.bool a0_0, .string a0_1, .bool a0_2, .string a0_3, .int .i64 a0_4, .int .i64 a0_5] 45 (0, 0)) (by (with_reducible repeat (first | refine blk_drewN ?_ _ | refine blk_drew ?_ | refine blk_alloc ?_ _)); exact BK214.out) hb); have n1_ := Aside0.mk (below_step (by repeat (first | (with_reducible first | exact HB.out | apply below_alloc | apply pw_below_drewN | apply below_drew1 | refine below_set ?_ GE214.out) | exact HB.out)) hb); clear BK214; clear HB; have BK214 := n0_; have HB := n1_; clear n0_ n1_; (try clear hb); (try clear hb2); (try clear hk); (try clear hi); have hcz11_0 : w10.cell? ⟨gb214, 0, none⟩ = some (.bool a0_0) := (blk_cell BK214.out 0).trans rfl; have hcz11_1 : w10.cell? ⟨gb214, 1, none⟩ = some (.string a0_1) := (blk_cell BK214.out 1).trans rfl; have hcz11_2 : w10.cell? ⟨gb214, 2, none⟩ = some (.bool a0_2) := (blk_cell BK214.out 2).trans rfl; have hcz11_3 : w10.cell? ⟨gb214, 3, none⟩ = some (.string a0_3) := (blk_cell BK214.out 3).trans rfl; have hcz11_4 : w10.cell? ⟨gb214, 4, none⟩ = some (.int .i64 a0_4) := (blk_cell BK214.out 4).trans rfl; have hcz11_5 : w10.cell? ⟨gb214, 5, none⟩ = some (.int .i64 a0_5) := (blk_cell BK214.out 5).trans rfl; have hfz11_0 := blk_frozen BK214.out 0; have hfz11_1 := blk_frozen BK214.out 1; have hfz11_2 := blk_frozen BK214.out 2; have hfz11_3 := blk_frozen BK214.out 3; have hfz11_4 := blk_frozen BK214.out 4; have hfz11_5 := blk_frozen BK214.out 5))
      go_ret
      exact ⟨by first | rfl | (simp [errW_none, errW_some] <;> rfl) | (simp [*, errW_none, errW_some] <;> rfl), by repeat (first | (with_reducible first | exact HB.out | apply below_alloc | apply pw_below_drewN | apply below_drew1 | refine below_set ?_ GE214.out) | exact HB.out)⟩
    · rw [if_neg c7] at H
      have c7b0 : decide (2000 < (a0_1.size : Int)) = false := decide_eq_false c7
      have c7b1 : decide (2000 < a0_1.size) = false := decide_eq_false (by omega)
      clear c7
      by_cases c12 : (a0_3.size : Int) > 2000
      · rw [if_pos c12] at H
        have c12b0 : decide (2000 < (a0_3.size : Int)) = true := decide_eq_true c12
        have c12b1 : decide (2000 < a0_3.size) = true := decide_eq_true (by omega)
        clear c12
        obtain rfl := Option.some.inj H
        go_enter Try.func31, Try.ntmps31
        go_wp2_with (first | ((with_reducible refine gate_dst (N := 1) rfl ?_); (try (refine gate_guard (by rfl) ?_; dsimp only)); refine box_event ?hg (N := 1) ?hd (cs := #[.bool a0_0, .string a0_1, .bool a0_2, .string a0_3, .int .i64 a0_4, .int .i64 a0_5]) (t := 45) ?hr ?_; (case hd => rfl); (case hg => rfl); (case hr => first | (go_simp; done) | (go_simp; rfl)); intro gb214 hg w13 hbox hb; have n0_ := Aside0.mk (below_step (by repeat (first | (with_reducible first | exact HB.out | apply below_alloc | apply pw_below_drewN | apply below_drew1) | exact HB.out)) hb); have n1_ := Aside0.mk (hbox); have n2_ := Aside0.mk ((by rw [hg]; exact (below_size (by repeat (first | (with_reducible first | exact HB.out | apply below_alloc | apply pw_below_drewN | apply below_drew1) | exact HB.out))) : w.heap.size ≤ gb214)); have n3_ := Aside0.mk ((by rw [hg]; exact (below_size (by repeat (first | (with_reducible first | exact HB.out | apply below_alloc | apply pw_below_drewN | apply below_drew1) | exact HB.out))) : w.heap.size ≤ gb214)); clear HB; have HB := n0_; have BK214 := n1_; have GW214 := n2_; have GE214 := n3_; clear n0_ n1_ n2_ n3_; clear hb hbox hg; have hcz14_0 : w13.cell? ⟨gb214, 0, none⟩ = some (.bool a0_0) := (blk_cell BK214.out 0).trans rfl; have hcz14_1 : w13.cell? ⟨gb214, 1, none⟩ = some (.string a0_1) := (blk_cell BK214.out 1).trans rfl; have hcz14_2 : w13.cell? ⟨gb214, 2, none⟩ = some (.bool a0_2) := (blk_cell BK214.out 2).trans rfl; have hcz14_3 : w13.cell? ⟨gb214, 3, none⟩ = some (.string a0_3) := (blk_cell BK214.out 3).trans rfl; have hcz14_4 : w13.cell? ⟨gb214, 4, none⟩ = some (.int .i64 a0_4) := (blk_cell BK214.out 4).trans rfl; have hcz14_5 : w13.cell? ⟨gb214, 5, none⟩ = some (.int .i64 a0_5) := (blk_cell BK214.out 5).trans rfl; have hfz14_0 := blk_frozen BK214.out 0; have hfz14_1 := blk_frozen BK214.out 1; have hfz14_2 := blk_frozen BK214.out 2; have hfz14_3 := blk_frozen BK214.out 3; have hfz14_4 := blk_frozen BK214.out 4; have hfz14_5 := blk_frozen BK214.out 5) | ((with_reducible refine gate_callee (f := 49) rfl ?_); refine goesL_ (some 4) rfl rfl Try.func49 (by kernel_rfl) rfl #[.agg #[.bool a0_0, .string a0_1, .bool a0_2, .string a0_3, .int .i64 a0_4, .int .i64 a0_5]] rfl (by (try simp only [List.map_toArray, List.map_cons, List.map_nil]); first | done | rfl | (simp only [List.length_drop, List.length_take]; rfl)) ?_; (with_reducible refine (bollardref12_odd.calls a0_0 a0_1 a0_2 a0_3 a0_4 a0_5 false _ A2.out).mono ?_); rintro e w15 ⟨rfl, hb⟩; refine ⟨_, rfl, ?_⟩; have n0_ := Aside0.mk (blk_below (g := gb214) (o := .cells #[.bool a0_0, .string a0_1, .bool a0_2, .string a0_3, .int .i64 a0_4, .int .i64 a0_5] 45 (0, 0)) (by (with_reducible repeat (first | refine blk_drewN ?_ _ | refine blk_drew ?_ | refine blk_alloc ?_ _)); exact BK214.out) hb); have n1_ := Aside0.mk (below_step (by repeat (first | (with_reducible first | exact HB.out | apply below_alloc | apply pw_below_drewN | apply below_drew1 | refine below_set ?_ GE214.out) | exact HB.out)) hb); clear BK214; clear HB; have BK214 := n0_; have HB := n1_; clear n0_ n1_; (try clear hb); (try clear hb2); (try clear hk); (try clear hi); have hcz16_0 : w15.cell? ⟨gb214, 0, none⟩ = some (.bool a0_0) := (blk_cell BK214.out 0).trans rfl; have hcz16_1 : w15.cell? ⟨gb214, 1, none⟩ = some (.string a0_1) := (blk_cell BK214.out 1).trans rfl; have hcz16_2 : w15.cell? ⟨gb214, 2, none⟩ = some (.bool a0_2) := (blk_cell BK214.out 2).trans rfl; have hcz16_3 : w15.cell? ⟨gb214, 3, none⟩ = some (.string a0_3) := (blk_cell BK214.out 3).trans rfl; have hcz16_4 : w15.cell? ⟨gb214, 4, none⟩ = some (.int .i64 a0_4) := (blk_cell BK214.out 4).trans rfl; have hcz16_5 : w15.cell? ⟨gb214, 5, none⟩ = some (.int .i64 a0_5) := (blk_cell BK214.out 5).trans rfl; have hfz16_0 := blk_frozen BK214.out 0; have hfz16_1 := blk_frozen BK214.out 1; have hfz16_2 := blk_frozen BK214.out 2; have hfz16_3 := blk_frozen BK214.out 3; have hfz16_4 := blk_frozen BK214.out 4; have hfz16_5 := blk_frozen BK214.out 5))
        go_ret
        exact ⟨by first | rfl | (simp [errW_none, errW_some] <;> rfl) | (simp [*, errW_none, errW_some] <;> rfl), by repeat (first | (with_reducible first | exact HB.out | apply below_alloc | apply pw_below_drewN | apply below_drew1 | refine below_set ?_ GE214.out) | exact HB.out)⟩
      · rw [if_neg c12] at H
        have c12b0 : decide (2000 < (a0_3.size : Int)) = false := decide_eq_false c12
        have c12b1 : decide (2000 < a0_3.size) = false := decide_eq_false (by omega)
        clear c12
        obtain rfl := Option.some.inj H
        go_enter Try.func31, Try.ntmps31
        go_wp2_with (first | ((with_reducible refine gate_dst (N := 1) rfl ?_); (try (refine gate_guard (by rfl) ?_; dsimp only)); refine box_event ?hg (N := 1) ?hd (cs := #[.bool a0_0, .string a0_1, .bool a0_2, .string a0_3, .int .i64 a0_4, .int .i64 a0_5]) (t := 45) ?hr ?_; (case hd => rfl); (case hg => rfl); (case hr => first | (go_simp; done) | (go_simp; rfl)); intro gb214 hg w17 hbox hb; have n0_ := Aside0.mk (below_step (by repeat (first | (with_reducible first | exact HB.out | apply below_alloc | apply pw_below_drewN | apply below_drew1) | exact HB.out)) hb); have n1_ := Aside0.mk (hbox); have n2_ := Aside0.mk ((by rw [hg]; exact (below_size (by repeat (first | (with_reducible first | exact HB.out | apply below_alloc | apply pw_below_drewN | apply below_drew1) | exact HB.out))) : w.heap.size ≤ gb214)); have n3_ := Aside0.mk ((by rw [hg]; exact (below_size (by repeat (first | (with_reducible first | exact HB.out | apply below_alloc | apply pw_below_drewN | apply below_drew1) | exact HB.out))) : w.heap.size ≤ gb214)); clear HB; have HB := n0_; have BK214 := n1_; have GW214 := n2_; have GE214 := n3_; clear n0_ n1_ n2_ n3_; clear hb hbox hg; have hcz18_0 : w17.cell? ⟨gb214, 0, none⟩ = some (.bool a0_0) := (blk_cell BK214.out 0).trans rfl; have hcz18_1 : w17.cell? ⟨gb214, 1, none⟩ = some (.string a0_1) := (blk_cell BK214.out 1).trans rfl; have hcz18_2 : w17.cell? ⟨gb214, 2, none⟩ = some (.bool a0_2) := (blk_cell BK214.out 2).trans rfl; have hcz18_3 : w17.cell? ⟨gb214, 3, none⟩ = some (.string a0_3) := (blk_cell BK214.out 3).trans rfl; have hcz18_4 : w17.cell? ⟨gb214, 4, none⟩ = some (.int .i64 a0_4) := (blk_cell BK214.out 4).trans rfl; have hcz18_5 : w17.cell? ⟨gb214, 5, none⟩ = some (.int .i64 a0_5) := (blk_cell BK214.out 5).trans rfl; have hfz18_0 := blk_frozen BK214.out 0; have hfz18_1 := blk_frozen BK214.out 1; have hfz18_2 := blk_frozen BK214.out 2; have hfz18_3 := blk_frozen BK214.out 3; have hfz18_4 := blk_frozen BK214.out 4; have hfz18_5 := blk_frozen BK214.out 5) | ((with_reducible refine gate_callee (f := 49) rfl ?_); refine goesL_ (some 4) rfl rfl Try.func49 (by kernel_rfl) rfl #[.agg #[.bool a0_0, .string a0_1, .bool a0_2, .string a0_3, .int .i64 a0_4, .int .i64 a0_5]] rfl (by (try simp only [List.map_toArray, List.map_cons, List.map_nil]); first | done | rfl | (simp only [List.length_drop, List.length_take]; rfl)) ?_; (with_reducible refine (bollardref12_odd.calls a0_0 a0_1 a0_2 a0_3 a0_4 a0_5 false _ A2.out).mono ?_); rintro e w19 ⟨rfl, hb⟩; refine ⟨_, rfl, ?_⟩; have n0_ := Aside0.mk (blk_below (g := gb214) (o := .cells #[.bool a0_0, .string a0_1, .bool a0_2, .string a0_3, .int .i64 a0_4, .int .i64 a0_5] 45 (0, 0)) (by (with_reducible repeat (first | refine blk_drewN ?_ _ | refine blk_drew ?_ | refine blk_alloc ?_ _)); exact BK214.out) hb); have n1_ := Aside0.mk (below_step (by repeat (first | (with_reducible first | exact HB.out | apply below_alloc | apply pw_below_drewN | apply below_drew1 | refine below_set ?_ GE214.out) | exact HB.out)) hb); clear BK214; clear HB; have BK214 := n0_; have HB := n1_; clear n0_ n1_; (try clear hb); (try clear hb2); (try clear hk); (try clear hi); have hcz20_0 : w19.cell? ⟨gb214, 0, none⟩ = some (.bool a0_0) := (blk_cell BK214.out 0).trans rfl; have hcz20_1 : w19.cell? ⟨gb214, 1, none⟩ = some (.string a0_1) := (blk_cell BK214.out 1).trans rfl; have hcz20_2 : w19.cell? ⟨gb214, 2, none⟩ = some (.bool a0_2) := (blk_cell BK214.out 2).trans rfl; have hcz20_3 : w19.cell? ⟨gb214, 3, none⟩ = some (.string a0_3) := (blk_cell BK214.out 3).trans rfl; have hcz20_4 : w19.cell? ⟨gb214, 4, none⟩ = some (.int .i64 a0_4) := (blk_cell BK214.out 4).trans rfl; have hcz20_5 : w19.cell? ⟨gb214, 5, none⟩ = some (.int .i64 a0_5) := (blk_cell BK214.out 5).trans rfl; have hfz20_0 := blk_frozen BK214.out 0; have hfz20_1 := blk_frozen BK214.out 1; have hfz20_2 := blk_frozen BK214.out 2; have hfz20_3 := blk_frozen BK214.out 3; have hfz20_4 := blk_frozen BK214.out 4; have hfz20_5 := blk_frozen BK214.out 5))
        go_ret
        exact ⟨by first | rfl | (simp [errW_none, errW_some] <;> rfl) | (simp [*, errW_none, errW_some] <;> rfl), by repeat (first | (with_reducible first | exact HB.out | apply below_alloc | apply pw_below_drewN | apply below_drew1 | refine below_set ?_ GE214.out) | exact HB.out)⟩

/-! ### bollardref1_Varint: function 64 -/
def bollardref1_Varint.l0 : Nat → Int → List Int → Option (List Int)
  | 0, _, _ => none
  | k + 1, x0, x3 => if x0 ≥ 128 then (if x3.length < 140737488355328 then (bollardref1_Varint.l0 k (x0 / 128) (x3 ++ [(Go.bits .or .u64 (Go.bits .and .u64 x0 127) 128) % 256])) else (none)) else (if x3.length < 140737488355328 then (some (x3 ++ [(x0) % 256])) else (none))
def bollardref1_Varint.f (k : Nat) (a0 : Int) : Option (List Int) := bollardref1_Varint.l0 k a0 ([] : List Int)
set_option maxRecDepth 100000 in
theorem bollardref1_Varint.mono_l : ∀ k, (∀ y0 y1, LeO (bollardref1_Varint.l0 k y0 y1) (bollardref1_Varint.l0 (k + 1) y0 y1))
  | 0 => fun _ _ r h => by first | exact nomatch (show (none : Option _) = some r from h) | (rw [bollardref1_Varint.l0] at h; cases h; done) | (simp [bollardref1_Varint.l0] at h; done)
  | k + 1 => by
    have ih0 := bollardref1_Varint.mono_l k
    · intro y0 y1
      unfold bollardref1_Varint.l0
      repeat' first
      | (with_reducible exact ih0 _ _)
      | (with_reducible exact LeO.refl _)
      | (with_reducible exact LeO.none _)
      | (with_reducible refine LeO.ite ?_ ?_)
      | (with_reducible refine LeO.bind ?_ (fun _ => ?_))
      | exact ih0 _ _
      | exact LeO.none _
      | refine LeO.ite ?_ ?_
      | refine LeO.bind ?_ (fun _ => ?_)
theorem bollardref1_Varint.mono : ∀ a0 k, LeO (bollardref1_Varint.f k a0) (bollardref1_Varint.f (k + 1) a0) := by
  intro a0 k
  have ih0 := bollardref1_Varint.mono_l k
  unfold bollardref1_Varint.f
  repeat' first
      | (with_reducible exact ih0 _ _)
      | (with_reducible exact LeO.refl _)
      | (with_reducible exact LeO.none _)
      | (with_reducible refine LeO.ite ?_ ?_)
      | (with_reducible refine LeO.bind ?_ (fun _ => ?_))
      | exact ih0 _ _
      | exact LeO.none _
      | refine LeO.ite ?_ ?_
      | refine LeO.bind ?_ (fun _ => ?_)
set_option maxHeartbeats 8000000 in
set_option maxRecDepth 100000 in
theorem bollardref1_Varint.calls (k : Nat) (a0 : Int) (r : List Int) (w : World) (h : bollardref1_Varint.f k a0 = some r) :
    Calls Try.prog 64 #[.int .u64 a0] w fun e w' => ∃ v0_ : Value, e = .returned (v0_) ∧ Kd.R (Kd.int .u8) 5 w' w.heap.size (fun _ => True) v0_ r ∧ Below w.heap.size w w' := by
  have HB := Aside0.mk (Below.refl w.heap.size w)
  have H : (bollardref1_Varint.l0 k a0 ([] : List Int)) = some r := h
  clear h
  have H' := Aside0.mk H
  clear H
  go_enter Try.func64, Try.ntmps64
  go_wp2
  go_loopg [0, 3] k (fun kq v0 v3 w' => ∃ (x0_1 : Int) (x3_1 : List Int), v0 = .int .u64 x0_1 ∧ Aside0 (bollardref1_Varint.l0 kq x0_1 x3_1 = some r) ∧ Aside0 (kq ≤ k) ∧ Aside0 (Kd.R (Kd.int .u8) 5 w' w.heap.size (fun _ => True) v3 x3_1) ∧ Aside0 (Below w.heap.size w w'))
  case atStart => exact ⟨(a0), (([] : List Int)), (by first | rfl | (simp; done) | (simp [*]; done) | exact congrArg Value.bool (ne_empty _) | exact congrArg Value.bool (eq_empty _)), H', ⟨Nat.le_refl _⟩, ⟨by first | exact Kd.R_nil _ _ _ _ _ | exact Kd.N_nil _ _ _ _ _ | exact Kd.V_nil _ _ _ _ _ | exact Kd.Q_nil _ _ _ _ _ | exact Kd.S_nil _ _ _ _ _⟩, ⟨by repeat (first | (with_reducible first | exact HB.out | apply below_alloc | apply pw_below_drewN | apply below_drew1) | exact HB.out)⟩⟩
  case round =>
    clear H'
    obtain ⟨x0_1, x3_1, rfl, HA, HK1, HO_3, HB⟩ := hrel
    cases gk with
    | zero => exact absurd HA.out (by first | (intro h_; exact nomatch (show (none : Option _) = some r from h_)) | simp [bollardref1_Varint.l0])
    | succ k1 =>
      have H := HA.out
      clear HA
      simp only [bollardref1_Varint.l0] at H
      by_cases c2 : x0_1 ≥ 128
      · rw [if_pos c2] at H
        have c2b0 : decide (128 ≤ x0_1) = true := decide_eq_true c2
        clear c2
        by_cases c3 : x3_1.length < 140737488355328
        · rw [if_pos c3] at H
          have LMc3 := Aside0.mk c3
          clear c3
          obtain ⟨y216, hy216⟩ : ∃ y_ : List Int, y_ = (x3_1 ++ [(Go.bits .or .u64 (Go.bits .and .u64 x0_1 127) 128) % 256]) := ⟨_, rfl⟩
          replace H : (bollardref1_Varint.l0 k1 (x0_1 / 128) y216) = some r := by first | (rw [hy216]; with_reducible exact H) | (have H2_ := (Option.bind_some _ _).symm.trans H; rw [hy216]; with_reducible exact H2_) | (have H2_ := (Option.bind_some _ _).symm.trans H; with_reducible exact H2_) | with_reducible exact H | (rw [hy216]; exact H) | exact H
          have Ny216 := Aside0.mk hy216
          clear hy216
          have H' := Aside0.mk H
          clear H
          go_wp2_with (first | ((with_reducible refine gate_builtin (b := .append) (xs := #[.tmp 6, .tmp 11]) rfl ?_); at_builtin; refine Kd.R_append (Kd.int .u8) (w0 := w) w.heap.size rfl (.tmp 6) (.tmp 11) 27 5 (.int .u8 0) 1 rfl Try.underlying27 info5 rfl (by decide) (by omega) u3 x3_1 ((Go.bits .or .u64 (Go.bits .and .u64 x0_1 127) 128) % 256) [.int .u8 ((Go.bits .or .u64 (Go.bits .and .u64 x0_1 127) 128) % 256)] (fun _ => True) (fun _ => False) rfl rfl ?aP (fun _ hk => hk.elim) ?aF ?aO ?aB ?aS ?aL ?_; (case aP => exact rfl); (case aB => exact (by repeat (first | (with_reducible first | exact HB.out | apply below_alloc | apply pw_below_drewN | apply below_drew1) | exact HB.out))); (case aF => exact (fun _ _ => trivial)); (case aO => exact (by (with_reducible repeat (first | apply Kd.R_alloc | apply Kd.R_drewN | apply Kd.R_drew)); exact HO_3.out)); (case aS => exact (below_size (by repeat (first | (with_reducible first | exact HB.out | apply below_alloc | apply pw_below_drewN | apply below_drew1) | exact HB.out)))); (case aL => have := LMc3.out; omega); intro v217 w4 ho hb hg hat; rw [← Ny216.out] at ho; have n0_ := Aside0.mk (hb); have n1_ := Aside0.mk (ho); clear HB; clear HO_3; have HB := n0_; have HO218 := n1_; clear n0_ n1_; clear ho hb hg hat))
          go_roundg k1
          case measure => have := HK1.out; omega
          case rel => exact ⟨(x0_1 / 128), (y216), (by first | rfl | (simp; done) | (simp [*]; done) | exact congrArg Value.bool (ne_empty _) | exact congrArg Value.bool (eq_empty _)), H', ⟨by have := HK1.out; omega⟩, ⟨by (with_reducible repeat (first | apply Kd.R_alloc | apply Kd.R_drewN | apply Kd.R_drew)); exact HO218.out⟩, ⟨by repeat (first | (with_reducible first | exact HB.out | apply below_alloc | apply pw_below_drewN | apply below_drew1) | exact HB.out)⟩⟩
        · rw [if_neg c3] at H
          exact absurd H (by simp)
      · rw [if_neg c2] at H
        have c2b0 : decide (128 ≤ x0_1) = false := decide_eq_false c2
        clear c2
        by_cases c5 : x3_1.length < 140737488355328
        · rw [if_pos c5] at H
          have LMc5 := Aside0.mk c5
          clear c5
          obtain ⟨y219, hy219⟩ : ∃ y_ : List Int, y_ = (x3_1 ++ [(x0_1) % 256]) := ⟨_, rfl⟩
          replace H : (some y219) = some r := by first | (rw [hy219]; with_reducible exact H) | (have H2_ := (Option.bind_some _ _).symm.trans H; rw [hy219]; with_reducible exact H2_) | (have H2_ := (Option.bind_some _ _).symm.trans H; with_reducible exact H2_) | with_reducible exact H | (rw [hy219]; exact H) | exact H
          have Ny219 := Aside0.mk hy219
          clear hy219
          obtain rfl := Option.some.inj H
          go_wp2_with (first | ((with_reducible refine gate_builtin (b := .append) (xs := #[.tmp 15, .tmp 18]) rfl ?_); at_builtin; refine Kd.R_append (Kd.int .u8) (w0 := w) w.heap.size rfl (.tmp 15) (.tmp 18) 27 5 (.int .u8 0) 1 rfl Try.underlying27 info5 rfl (by decide) (by omega) u3 x3_1 ((x0_1) % 256) [.int .u8 ((x0_1) % 256)] (fun _ => True) (fun _ => False) rfl rfl ?aP (fun _ hk => hk.elim) ?aF ?aO ?aB ?aS ?aL ?_; (case aP => exact rfl); (case aB => exact (by repeat (first | (with_reducible first | exact HB.out | apply below_alloc | apply pw_below_drewN | apply below_drew1) | exact HB.out))); (case aF => exact (fun _ _ => trivial)); (case aO => exact (by (with_reducible repeat (first | apply Kd.R_alloc | apply Kd.R_drewN | apply Kd.R_drew)); exact HO_3.out)); (case aS => exact (below_size (by repeat (first | (with_reducible first | exact HB.out | apply below_alloc | apply pw_below_drewN | apply below_drew1) | exact HB.out)))); (case aL => have := LMc5.out; omega); intro v220 w6 ho hb hg hat; rw [← Ny219.out] at ho; have n0_ := Aside0.mk (hb); have n1_ := Aside0.mk (ho); clear HB; clear HO_3; have HB := n0_; have HO221 := n1_; clear n0_ n1_; clear ho hb hg hat))
          go_ret
          exact ⟨_, by first | rfl | (simp [errW_none, errW_some] <;> rfl) | (simp [*, errW_none, errW_some] <;> rfl), by (with_reducible repeat (first | apply Kd.R_alloc | apply Kd.R_drewN | apply Kd.R_drew)); exact HO221.out, by repeat (first | (with_reducible first | exact HB.out | apply below_alloc | apply pw_below_drewN | apply below_drew1) | exact HB.out)⟩
        · rw [if_neg c5] at H
          exact absurd H (by simp)

/-! ### bollardref1_Zig: function 65 -/
def bollardref1_Zig.f (a0 : Int) : Option (Int) := some (Go.bits .xor .u64 (IntKind.u64.wrap ((IntKind.u64.wrap (a0)) * 2)) (IntKind.u64.wrap (a0 / 9223372036854775808)))
set_option maxHeartbeats 8000000 in
set_option maxRecDepth 100000 in
theorem bollardref1_Zig.calls (a0 : Int) (r : Int) (w : World) (h : bollardref1_Zig.f a0 = some r) :
    Calls Try.prog 65 #[.int .i64 a0] w fun e w' => e = .returned (.int .u64 r) ∧ Drawn0 w w' := by
  have H : (some (Go.bits .xor .u64 (IntKind.u64.wrap ((IntKind.u64.wrap (a0)) * 2)) (IntKind.u64.wrap (a0 / 9223372036854775808)))) = some r := h
  clear h
  obtain rfl := Option.some.inj H
  go_enter Try.func65, Try.ntmps65
  go_wp2
  go_ret
  exact ⟨by first | rfl | (simp; done) | (simp [*]; done) | exact congrArg Value.bool (ne_empty _) | exact congrArg Value.bool (eq_empty _), by repeat (first | exact Drawn0.refl _ | apply Drawn0.step)⟩

end Go.Proofs.Ytgmeellapjimgaa.PBa
