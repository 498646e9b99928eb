-- written by a program of this session (wip/tools/pr.py, over the kit's printer): not by hand
import Derived.Test.YtlpbgknpgogaaaaPBitsx0
import Derived.Test.YtlpbgknpgogaaaaPBitsx1
import Derived.Test.YtlpbgknpgogaaaaPBitsx2
import Derived.Test.YtlpbgknpgogaaaaPBitsx5
namespace Go.Proofs.Ytlpbgknpgogaaaa.PBits
open Go.RowKit Go.Proofs.YtlpbgknpgogaaaaW.PrintWords Go.Proofs.YtlpbgknpgogaaaaW.PrintLast Go.Proofs.YtlpbgknpgogaaaaW.PrintMore
attribute [local go_sem] max2_int min2_int max_two min_two max_three min_three max_four min_four   -- for this text's walks alone
set_option linter.unusedVariables false
set_option linter.unusedSimpArgs false

/-! ### bollardlaw1_BitsSet: function 8 -/
def bollardlaw1_BitsSet.l0 : Nat → List Int → Int → Bool → List Int → Int → Option (Bool)
  | 0, _, _, _, _, _ => none
  | k + 1, x0, x1, x2, x7, x8 => if x8 < (wrap64 (8 * (x0.length : Int))) then ((bits_Test.f x0 x8).bind fun t242 => (if x8 = x1 then ((bits_Test.f x7 x8).bind fun t243 => (if (t243 != x2) = true then (some false) else (bollardlaw1_BitsSet.l0 k x0 x1 x2 x7 (wrap64 (x8 + 1))))) else ((bits_Test.f x7 x8).bind fun t244 => (if (t244 != t242) = true then (some false) else (bollardlaw1_BitsSet.l0 k x0 x1 x2 x7 (wrap64 (x8 + 1))))))) else ((bollardlaw1_awake.f k).bind fun t241 => (some t241))
def bollardlaw1_BitsSet.f (k : Nat) (l0 : List Int) (a1 : Int) (a2 : Bool) : Option (Bool) := if (l0.length : Int) > 100 then ((bollardlaw1_awake.f k).bind fun t237 => (some t237)) else ((bits_Set.f k l0 a1 a2).bind fun t238 => (if (t238.length : Int) = (l0.length : Int) then (bollardlaw1_BitsSet.l0 k l0 a1 a2 t238 0) else (some false)))
theorem bollardlaw1_BitsSet.mono_l : ∀ k, (∀ y0 y1 y2 y3 y4, LeO (bollardlaw1_BitsSet.l0 k y0 y1 y2 y3 y4) (bollardlaw1_BitsSet.l0 (k + 1) y0 y1 y2 y3 y4))
  | 0 => fun _ _ _ _ _ r h => by simp [bollardlaw1_BitsSet.l0] at h
  | k + 1 => by
    have ih0 := bollardlaw1_BitsSet.mono_l k
    · intro y0 y1 y2 y3 y4
      unfold bollardlaw1_BitsSet.l0
      repeat' first
      | (with_reducible exact ih0 _ _ _ _ _)
      | (with_reducible exact bits_Set.mono _ _ _ _)
      | (with_reducible exact bollardlaw1_awake.mono _)
      | (with_reducible exact LeO.refl _)
      | (with_reducible exact LeO.none _)
      | (with_reducible refine LeO.ite ?_ ?_)
      | (with_reducible refine LeO.bind ?_ (fun _ => ?_))
      | exact ih0 _ _ _ _ _
      | exact bits_Set.mono _ _ _ _
      | exact bollardlaw1_awake.mono _
      | exact LeO.none _
      | refine LeO.ite ?_ ?_
      | refine LeO.bind ?_ (fun _ => ?_)
theorem bollardlaw1_BitsSet.mono : ∀ a0 a1 a2 k, LeO (bollardlaw1_BitsSet.f k a0 a1 a2) (bollardlaw1_BitsSet.f (k + 1) a0 a1 a2) := by
  intro a0 a1 a2 k
  have ih0 := bollardlaw1_BitsSet.mono_l k
  unfold bollardlaw1_BitsSet.f
  repeat' first
      | (with_reducible exact ih0 _ _ _ _ _)
      | (with_reducible exact bits_Set.mono _ _ _ _)
      | (with_reducible exact bollardlaw1_awake.mono _)
      | (with_reducible exact LeO.refl _)
      | (with_reducible exact LeO.none _)
      | (with_reducible refine LeO.ite ?_ ?_)
      | (with_reducible refine LeO.bind ?_ (fun _ => ?_))
      | exact ih0 _ _ _ _ _
      | exact bits_Set.mono _ _ _ _
      | exact bollardlaw1_awake.mono _
      | exact LeO.none _
      | refine LeO.ite ?_ ?_
      | refine LeO.bind ?_ (fun _ => ?_)
set_option maxHeartbeats 8000000 in
set_option maxRecDepth 100000 in
theorem bollardlaw1_BitsSet.calls (k : Nat) (A0 : Option Addr) (c0 : Nat) (l0 : List Int) (a1 : Int) (a2 : Bool) (r : Bool) (w : World) (hr0 : Kd.C (Kd.int .u8) w A0 l0.length l0) (hc0 : l0.length ≤ c0) (h : bollardlaw1_BitsSet.f k l0 a1 a2 = some r) :
    Calls Try.prog 8 #[.slice A0 l0.length c0, .int .i64 a1, .bool a2] w fun e w' => e = .returned (.bool r) ∧ Below w.heap.size w w' := by
  have HR0 := Aside0.mk hr0
  have HC0 := Aside0.mk hc0
  clear hr0 hc0
  have HB := Aside0.mk (Below.refl w.heap.size w)
  have H : (if (l0.length : Int) > 100 then ((bollardlaw1_awake.f k).bind fun t237 => (some t237)) else ((bits_Set.f k l0 a1 a2).bind fun t238 => (if (t238.length : Int) = (l0.length : Int) then (bollardlaw1_BitsSet.l0 k l0 a1 a2 t238 0) else (some false)))) = some r := h
  clear h
  by_cases c4 : (l0.length : Int) > 100
  · rw [if_pos c4] at H
    have c4b0 : decide (100 < (l0.length : Int)) = true := decide_eq_true c4
    have c4b1 : decide (100 < l0.length) = true := decide_eq_true (by omega)
    clear c4
    replace H := Option.bind_eq_some_iff.mp H
    obtain ⟨t237, A50, H⟩ := H
    replace H : (some t237) = some r := H
    have A5 := Aside0.mk A50
    clear A50
    obtain rfl := Option.some.inj H
    go_enter Try.func8, Try.ntmps8
    go_wp2_with (first | ((with_reducible refine gate_callee (f := 17) rfl ?_); refine goesL_ (some 13) rfl rfl Try.func17 (by kernel_rfl) rfl #[] rfl (by (try simp only [List.map_toArray, List.map_cons, List.map_nil]); first | done | rfl | (simp only [List.length_drop, List.length_take]; rfl)) ?_; (with_reducible refine (bollardlaw1_awake.calls k  t237 _ A5.out).mono ?_); rintro e w6 ⟨rfl, hb⟩; refine ⟨_, rfl, ?_⟩; have n0_ := Aside0.mk (below_step (by repeat (first | (with_reducible first | exact HB.out | apply below_alloc | apply pw_below_drewN | apply below_drew1) | exact HB.out)) hb); clear HB; have HB := n0_; clear n0_; (try clear hb); (try clear hb2); (try clear hk); (try clear hi)))
    go_ret
    exact ⟨by first | rfl | (simp [errW_none, errW_some] <;> rfl) | (simp [*, errW_none, errW_some] <;> rfl), by repeat (first | (with_reducible first | exact HB.out | apply below_alloc | apply pw_below_drewN | apply below_drew1) | exact HB.out)⟩
  · rw [if_neg c4] at H
    have c4b0 : decide (100 < (l0.length : Int)) = false := decide_eq_false c4
    have c4b1 : decide (100 < l0.length) = false := decide_eq_false (by omega)
    clear c4
    replace H := Option.bind_eq_some_iff.mp H
    obtain ⟨t238, A70, H⟩ := H
    replace H : (if (t238.length : Int) = (l0.length : Int) then (bollardlaw1_BitsSet.l0 k l0 a1 a2 t238 0) else (some false)) = some r := H
    have A7 := Aside0.mk A70
    clear A70
    by_cases c8 : (t238.length : Int) = (l0.length : Int)
    · rw [if_pos c8] at H
      have c8b0 : ((t238.length : Int) == (l0.length : Int)) = true := beq_iff_eq.mpr c8
      have c8b1 : ((t238.length : Int) != (l0.length : Int)) = false := bne_eq_false_iff_eq.mpr c8
      have c8b2 : (t238.length == l0.length) = true := by first | simpa using c8 | (simp at c8 ⊢; omega)
      clear c8
      have H' := Aside0.mk H
      clear H
      go_enter Try.func8, Try.ntmps8
      go_wp2_with (first | ((with_reducible refine gate_callee (f := 29) rfl ?_); refine goesL_ (some 17) rfl rfl Try.func29 (by kernel_rfl) rfl #[.slice A0 l0.length c0, .int .i64 a1, .bool a2] rfl (by (try simp only [List.map_toArray, List.map_cons, List.map_nil]); first | done | rfl | (simp only [List.length_drop, List.length_take]; rfl)) ?_; (with_reducible refine (bits_Set.calls k _ _ l0 a1 a2 t238 _ ?side1 ?side2 A7.out).mono ?_); (case side1 => repeat (first | exact HR0.out | (with_reducible refine Kd.C_alloc ?_ _) | (with_reducible refine Kd.C_drewN ?_ _) | (with_reducible refine Kd.C_drew ?_))); (case side2 => exact HC0.out); rintro e w9 ⟨v239, rfl, ho0, hb⟩; refine ⟨_, rfl, ?_⟩; have n0_ := Aside0.mk (Kd.R_lower ho0 (below_size (by repeat (first | (with_reducible first | exact HB.out | apply below_alloc | apply pw_below_drewN | apply below_drew1) | exact HB.out)))); have n1_ := Aside0.mk (below_step (by repeat (first | (with_reducible first | exact HB.out | apply below_alloc | apply pw_below_drewN | apply below_drew1) | exact HB.out)) hb); clear HB; have HO240 := n0_; have HB := n1_; clear n0_ n1_; (try clear hb); (try clear hb2); (try clear hk); (try clear hi); (try clear ho0); obtain ⟨Ao10, co10, eo10⟩ := Kd.R_slice HO240.out; subst eo10))
      go_loopg [8] k (fun kq v8 w' => ∃ (x8_1 : Int), v8 = .int .i64 x8_1 ∧ Aside0 (bollardlaw1_BitsSet.l0 kq l0 a1 a2 t238 x8_1 = some r) ∧ Aside0 (kq ≤ k) ∧ Aside0 (Kd.R (Kd.int .u8) 5 w' w.heap.size (fun _ => True) (.slice Ao10 t238.length co10) t238) ∧ Aside0 (Below w.heap.size w w'))
      case atStart => exact ⟨(0), (by first | rfl | (simp; done) | (simp [*]; done)), H', ⟨Nat.le_refl _⟩, ⟨by (with_reducible repeat (first | apply Kd.R_alloc | apply Kd.R_drewN | apply Kd.R_drew)); exact HO240.out⟩, ⟨by repeat (first | (with_reducible first | exact HB.out | apply below_alloc | apply pw_below_drewN | apply below_drew1) | exact HB.out)⟩⟩
      case round =>
        clear H'
        try clear c1
        try clear c2
        try clear p2
        try clear c4
        try clear c4b0
        try clear c4b1
        try clear c8
        try clear c8b0
        try clear c8b1
        try clear c8b2
        obtain ⟨x8_1, rfl, HA, HK1, HO_7, HB⟩ := hrel
        cases gk with
        | zero => exact absurd HA.out (by simp [bollardlaw1_BitsSet.l0])
        | succ k1 =>
          have H := HA.out
          clear HA
          simp only [bollardlaw1_BitsSet.l0] at H
          by_cases c11 : x8_1 < (wrap64 (8 * (l0.length : Int)))
          · rw [if_pos c11] at H
            have c11b0 : decide (x8_1 < (wrap64 (8 * (l0.length : Int)))) = true := decide_eq_true c11
            clear c11
            replace H := Option.bind_eq_some_iff.mp H
            obtain ⟨t242, A120, H⟩ := H
            replace H : (if x8_1 = a1 then ((bits_Test.f t238 x8_1).bind fun t243 => (if (t243 != a2) = true then (some false) else (bollardlaw1_BitsSet.l0 k1 l0 a1 a2 t238 (wrap64 (x8_1 + 1))))) else ((bits_Test.f t238 x8_1).bind fun t244 => (if (t244 != t242) = true then (some false) else (bollardlaw1_BitsSet.l0 k1 l0 a1 a2 t238 (wrap64 (x8_1 + 1)))))) = some r := H
            have A12 := Aside0.mk A120
            clear A120
            by_cases c13 : x8_1 = a1
            · rw [if_pos c13] at H
              have c13b0 : (x8_1 == a1) = true := beq_iff_eq.mpr c13
              have c13b1 : (x8_1 != a1) = false := bne_eq_false_iff_eq.mpr c13
              clear c13
              replace H := Option.bind_eq_some_iff.mp H
              obtain ⟨t243, A140, H⟩ := H
              replace H : (if (t243 != a2) = true then (some false) else (bollardlaw1_BitsSet.l0 k1 l0 a1 a2 t238 (wrap64 (x8_1 + 1)))) = some r := H
              have A14 := Aside0.mk A140
              clear A140
              by_cases c15 : (t243 != a2) = true
              · rw [if_pos c15] at H
                have c15b0 : (t243 != a2) = true := c15
                (try (have c15b1 : decide (t243 = a2) = false := by simpa using c15))
                (try (have c15b2 : (t243 == a2) = false := by simpa using c15))
                (try (have c15b3 : ¬ (t243 = a2) := by simpa using c15))
                clear c15
                obtain rfl := Option.some.inj H
                go_wp2_with (first | ((with_reducible refine gate_callee (f := 30) rfl ?_); refine goesL_ (some 32) rfl rfl Try.func30 (by kernel_rfl) rfl #[.slice A0 l0.length c0, .int .i64 x8_1] rfl (by (try simp only [List.map_toArray, List.map_cons, List.map_nil]); first | done | rfl | (simp only [List.length_drop, List.length_take]; rfl)) ?_; (with_reducible refine (bits_Test.calls _ _ l0 x8_1 t242 _ ?side1 ?side2 A12.out).mono ?_); (case side1 => repeat (first | exact (Kd.C_below HR0.out HB.out) | (with_reducible refine Kd.C_alloc ?_ _) | (with_reducible refine Kd.C_drewN ?_ _) | (with_reducible refine Kd.C_drew ?_))); (case side2 => exact HC0.out); rintro e w' ⟨rfl, ⟨nd, rfl⟩⟩; refine ⟨_, rfl, ?_⟩) | ((with_reducible refine gate_callee (f := 30) rfl ?_); refine goesL_ (some 39) rfl rfl Try.func30 (by kernel_rfl) rfl #[.slice Ao10 t238.length co10, .int .i64 x8_1] rfl (by (try simp only [List.map_toArray, List.map_cons, List.map_nil]); first | done | rfl | (simp only [List.length_drop, List.length_take]; rfl)) ?_; (with_reducible refine (bits_Test.calls _ _ t238 x8_1 t243 _ ?side1 ?side2 A14.out).mono ?_); (case side1 => repeat (first | exact (Kd.R_reads' HO_7.out).2.2 | (with_reducible refine Kd.C_alloc ?_ _) | (with_reducible refine Kd.C_drewN ?_ _) | (with_reducible refine Kd.C_drew ?_))); (case side2 => exact (Kd.R_reads' HO_7.out).2.1); rintro e w' ⟨rfl, ⟨nd, rfl⟩⟩; refine ⟨_, rfl, ?_⟩))
                go_ret
                exact ⟨by first | rfl | (simp [errW_none, errW_some] <;> rfl) | (simp [*, errW_none, errW_some] <;> rfl), by repeat (first | (with_reducible first | exact HB.out | apply below_alloc | apply pw_below_drewN | apply below_drew1) | exact HB.out)⟩
              · rw [if_neg c15] at H
                have c15b0 : (t243 != a2) = false := by simpa using c15
                (try (have c15b1 : decide (t243 = a2) = true := by simpa using c15))
                (try (have c15b2 : (t243 == a2) = true := by simpa using c15))
                clear c15
                have H' := Aside0.mk H
                clear H
                go_wp2_with (first | ((with_reducible refine gate_callee (f := 30) rfl ?_); refine goesL_ (some 32) rfl rfl Try.func30 (by kernel_rfl) rfl #[.slice A0 l0.length c0, .int .i64 x8_1] rfl (by (try simp only [List.map_toArray, List.map_cons, List.map_nil]); first | done | rfl | (simp only [List.length_drop, List.length_take]; rfl)) ?_; (with_reducible refine (bits_Test.calls _ _ l0 x8_1 t242 _ ?side1 ?side2 A12.out).mono ?_); (case side1 => repeat (first | exact (Kd.C_below HR0.out HB.out) | (with_reducible refine Kd.C_alloc ?_ _) | (with_reducible refine Kd.C_drewN ?_ _) | (with_reducible refine Kd.C_drew ?_))); (case side2 => exact HC0.out); rintro e w' ⟨rfl, ⟨nd, rfl⟩⟩; refine ⟨_, rfl, ?_⟩) | ((with_reducible refine gate_callee (f := 30) rfl ?_); refine goesL_ (some 39) rfl rfl Try.func30 (by kernel_rfl) rfl #[.slice Ao10 t238.length co10, .int .i64 x8_1] rfl (by (try simp only [List.map_toArray, List.map_cons, List.map_nil]); first | done | rfl | (simp only [List.length_drop, List.length_take]; rfl)) ?_; (with_reducible refine (bits_Test.calls _ _ t238 x8_1 t243 _ ?side1 ?side2 A14.out).mono ?_); (case side1 => repeat (first | exact (Kd.R_reads' HO_7.out).2.2 | (with_reducible refine Kd.C_alloc ?_ _) | (with_reducible refine Kd.C_drewN ?_ _) | (with_reducible refine Kd.C_drew ?_))); (case side2 => exact (Kd.R_reads' HO_7.out).2.1); rintro e w' ⟨rfl, ⟨nd, rfl⟩⟩; refine ⟨_, rfl, ?_⟩))
                go_roundg k1
                case measure => have := HK1.out; omega
                case rel => exact ⟨(wrap64 (x8_1 + 1)), (by first | rfl | (simp; done) | (simp [*]; done)), H', ⟨by have := HK1.out; omega⟩, ⟨by (with_reducible repeat (first | apply Kd.R_alloc | apply Kd.R_drewN | apply Kd.R_drew)); exact HO_7.out⟩, ⟨by repeat (first | (with_reducible first | exact HB.out | apply below_alloc | apply pw_below_drewN | apply below_drew1) | exact HB.out)⟩⟩
            · rw [if_neg c13] at H
              have c13b0 : (x8_1 == a1) = false := beq_eq_false_iff_ne.mpr c13
              have c13b1 : (x8_1 != a1) = true := bne_iff_ne.mpr c13
              replace H := Option.bind_eq_some_iff.mp H
              obtain ⟨t244, A160, H⟩ := H
              replace H : (if (t244 != t242) = true then (some false) else (bollardlaw1_BitsSet.l0 k1 l0 a1 a2 t238 (wrap64 (x8_1 + 1)))) = some r := H
              have A16 := Aside0.mk A160
              clear A160
              by_cases c17 : (t244 != t242) = true
              · rw [if_pos c17] at H
                have c17b0 : (t244 != t242) = true := c17
                (try (have c17b1 : decide (t244 = t242) = false := by simpa using c17))
                (try (have c17b2 : (t244 == t242) = false := by simpa using c17))
                (try (have c17b3 : ¬ (t244 = t242) := by simpa using c17))
                clear c17
                obtain rfl := Option.some.inj H
                go_wp2_with (first | ((with_reducible refine gate_callee (f := 30) rfl ?_); refine goesL_ (some 32) rfl rfl Try.func30 (by kernel_rfl) rfl #[.slice A0 l0.length c0, .int .i64 x8_1] rfl (by (try simp only [List.map_toArray, List.map_cons, List.map_nil]); first | done | rfl | (simp only [List.length_drop, List.length_take]; rfl)) ?_; (with_reducible refine (bits_Test.calls _ _ l0 x8_1 t242 _ ?side1 ?side2 A12.out).mono ?_); (case side1 => repeat (first | exact (Kd.C_below HR0.out HB.out) | (with_reducible refine Kd.C_alloc ?_ _) | (with_reducible refine Kd.C_drewN ?_ _) | (with_reducible refine Kd.C_drew ?_))); (case side2 => exact HC0.out); rintro e w' ⟨rfl, ⟨nd, rfl⟩⟩; refine ⟨_, rfl, ?_⟩) | ((with_reducible refine gate_callee (f := 30) rfl ?_); refine goesL_ (some 39) rfl rfl Try.func30 (by kernel_rfl) rfl #[.slice Ao10 t238.length co10, .int .i64 x8_1] rfl (by (try simp only [List.map_toArray, List.map_cons, List.map_nil]); first | done | rfl | (simp only [List.length_drop, List.length_take]; rfl)) ?_; (with_reducible refine (bits_Test.calls _ _ t238 x8_1 t244 _ ?side1 ?side2 A16.out).mono ?_); (case side1 => repeat (first | exact (Kd.R_reads' HO_7.out).2.2 | (with_reducible refine Kd.C_alloc ?_ _) | (with_reducible refine Kd.C_drewN ?_ _) | (with_reducible refine Kd.C_drew ?_))); (case side2 => exact (Kd.R_reads' HO_7.out).2.1); rintro e w' ⟨rfl, ⟨nd, rfl⟩⟩; refine ⟨_, rfl, ?_⟩))
                go_ret
                exact ⟨by first | rfl | (simp [errW_none, errW_some] <;> rfl) | (simp [*, errW_none, errW_some] <;> rfl), by repeat (first | (with_reducible first | exact HB.out | apply below_alloc | apply pw_below_drewN | apply below_drew1) | exact HB.out)⟩
              · rw [if_neg c17] at H
                have c17b0 : (t244 != t242) = false := by simpa using c17
                (try (have c17b1 : decide (t244 = t242) = true := by simpa using c17))
                (try (have c17b2 : (t244 == t242) = true := by simpa using c17))
                clear c17
                have H' := Aside0.mk H
                clear H
                go_wp2_with (first | ((with_reducible refine gate_callee (f := 30) rfl ?_); refine goesL_ (some 32) rfl rfl Try.func30 (by kernel_rfl) rfl #[.slice A0 l0.length c0, .int .i64 x8_1] rfl (by (try simp only [List.map_toArray, List.map_cons, List.map_nil]); first | done | rfl | (simp only [List.length_drop, List.length_take]; rfl)) ?_; (with_reducible refine (bits_Test.calls _ _ l0 x8_1 t242 _ ?side1 ?side2 A12.out).mono ?_); (case side1 => repeat (first | exact (Kd.C_below HR0.out HB.out) | (with_reducible refine Kd.C_alloc ?_ _) | (with_reducible refine Kd.C_drewN ?_ _) | (with_reducible refine Kd.C_drew ?_))); (case side2 => exact HC0.out); rintro e w' ⟨rfl, ⟨nd, rfl⟩⟩; refine ⟨_, rfl, ?_⟩) | ((with_reducible refine gate_callee (f := 30) rfl ?_); refine goesL_ (some 39) rfl rfl Try.func30 (by kernel_rfl) rfl #[.slice Ao10 t238.length co10, .int .i64 x8_1] rfl (by (try simp only [List.map_toArray, List.map_cons, List.map_nil]); first | done | rfl | (simp only [List.length_drop, List.length_take]; rfl)) ?_; (with_reducible refine (bits_Test.calls _ _ t238 x8_1 t244 _ ?side1 ?side2 A16.out).mono ?_); (case side1 => repeat (first | exact (Kd.R_reads' HO_7.out).2.2 | (with_reducible refine Kd.C_alloc ?_ _) | (with_reducible refine Kd.C_drewN ?_ _) | (with_reducible refine Kd.C_drew ?_))); (case side2 => exact (Kd.R_reads' HO_7.out).2.1); rintro e w' ⟨rfl, ⟨nd, rfl⟩⟩; refine ⟨_, rfl, ?_⟩))
                go_roundg k1
                case measure => have := HK1.out; omega
                case rel => exact ⟨(wrap64 (x8_1 + 1)), (by first | rfl | (simp; done) | (simp [*]; done)), H', ⟨by have := HK1.out; omega⟩, ⟨by (with_reducible repeat (first | apply Kd.R_alloc | apply Kd.R_drewN | apply Kd.R_drew)); exact HO_7.out⟩, ⟨by repeat (first | (with_reducible first | exact HB.out | apply below_alloc | apply pw_below_drewN | apply below_drew1) | exact HB.out)⟩⟩
          · rw [if_neg c11] at H
            have c11b0 : decide (x8_1 < (wrap64 (8 * (l0.length : Int)))) = false := decide_eq_false c11
            clear c11
            replace H := Option.bind_eq_some_iff.mp H
            obtain ⟨t241, A180, H⟩ := H
            replace H : (some t241) = some r := H
            have A18 := Aside0.mk A180
            clear A180
            obtain rfl := Option.some.inj H
            go_wp2_with (first | ((with_reducible refine gate_callee (f := 17) rfl ?_); refine goesL_ (some 42) rfl rfl Try.func17 (by kernel_rfl) rfl #[] rfl (by (try simp only [List.map_toArray, List.map_cons, List.map_nil]); first | done | rfl | (simp only [List.length_drop, List.length_take]; rfl)) ?_; (with_reducible refine (bollardlaw1_awake.calls k1  t241 _ A18.out).mono ?_); rintro e w19 ⟨rfl, hb⟩; refine ⟨_, rfl, ?_⟩; have n0_ := Aside0.mk (Kd.R_below (by (with_reducible repeat (first | apply Kd.R_alloc | apply Kd.R_drewN | apply Kd.R_drew)); exact HO_7.out) hb); have n1_ := Aside0.mk (below_step (by repeat (first | (with_reducible first | exact HB.out | apply below_alloc | apply pw_below_drewN | apply below_drew1) | exact HB.out)) hb); clear HO_7; clear HB; have HO_7 := n0_; have HB := n1_; clear n0_ n1_; (try clear hb); (try clear hb2); (try clear hk); (try clear hi)))
            go_ret
            exact ⟨by first | rfl | (simp [errW_none, errW_some] <;> rfl) | (simp [*, errW_none, errW_some] <;> rfl), by repeat (first | (with_reducible first | exact HB.out | apply below_alloc | apply pw_below_drewN | apply below_drew1) | exact HB.out)⟩
    · rw [if_neg c8] at H
      have c8b0 : ((t238.length : Int) == (l0.length : Int)) = false := beq_eq_false_iff_ne.mpr c8
      have c8b1 : ((t238.length : Int) != (l0.length : Int)) = true := bne_iff_ne.mpr c8
      have c8b2 : (t238.length == l0.length) = false := by first | simpa using c8 | (simp at c8 ⊢; omega)
      obtain rfl := Option.some.inj H
      go_enter Try.func8, Try.ntmps8
      go_wp2_with (first | ((with_reducible refine gate_callee (f := 29) rfl ?_); refine goesL_ (some 17) rfl rfl Try.func29 (by kernel_rfl) rfl #[.slice A0 l0.length c0, .int .i64 a1, .bool a2] rfl (by (try simp only [List.map_toArray, List.map_cons, List.map_nil]); first | done | rfl | (simp only [List.length_drop, List.length_take]; rfl)) ?_; (with_reducible refine (bits_Set.calls k _ _ l0 a1 a2 t238 _ ?side1 ?side2 A7.out).mono ?_); (case side1 => repeat (first | exact HR0.out | (with_reducible refine Kd.C_alloc ?_ _) | (with_reducible refine Kd.C_drewN ?_ _) | (with_reducible refine Kd.C_drew ?_))); (case side2 => exact HC0.out); rintro e w20 ⟨v239, rfl, ho0, hb⟩; refine ⟨_, rfl, ?_⟩; have n0_ := Aside0.mk (Kd.R_lower ho0 (below_size (by repeat (first | (with_reducible first | exact HB.out | apply below_alloc | apply pw_below_drewN | apply below_drew1) | exact HB.out)))); have n1_ := Aside0.mk (below_step (by repeat (first | (with_reducible first | exact HB.out | apply below_alloc | apply pw_below_drewN | apply below_drew1) | exact HB.out)) hb); clear HB; have HO240 := n0_; have HB := n1_; clear n0_ n1_; (try clear hb); (try clear hb2); (try clear hk); (try clear hi); (try clear ho0); obtain ⟨Ao21, co21, eo21⟩ := Kd.R_slice HO240.out; subst eo21))
      go_ret
      exact ⟨by first | rfl | (simp [errW_none, errW_some] <;> rfl) | (simp [*, errW_none, errW_some] <;> rfl), by repeat (first | (with_reducible first | exact HB.out | apply below_alloc | apply pw_below_drewN | apply below_drew1) | exact HB.out)⟩

/-- THE ONE PURE STATEMENT of bollardlaw1_BitsSet: yours. -/
def bollardlaw1_BitsSet.Pure : Prop := ∀ (l0 : List Int) (a1 : Int) (a2 : Bool), l0.length ≤ maxLen → l0.length * 1 ≤ 140737488351232 → (∀ x ∈ l0, (Lit.int .u8 x).wf = true) → (Lit.int .i64 a1).wf = true → ∃ k, bollardlaw1_BitsSet.f k l0 a1 a2 = some true
theorem bollardlaw1_BitsSet.walk (P : bollardlaw1_BitsSet.Pure) (a0 : Option Addr) (len0 cap0 : Nat) (z0 : List Int) (a1 : Int) (a2 : Bool) (w : World) (w0 : (a0 = none ∧ len0 = 0 ∧ cap0 = 0 ∧ z0 = []) ∨ ∃ x, a0 = some x ∧ len0 ≤ cap0 ∧ cap0 ≤ maxLen ∧ z0.length = cap0 ∧ (∀ i, i < z0.length → w.cell? (x.add i) = some (.int .u8 (z0.getD i 0))) ∧ ∀ n ∈ z0, (Lit.int .u8 n).wf = true) (y0 : len0 * 1 ≤ 140737488351232) (w1 : (Lit.int .i64 a1).wf = true) :
    Calls Try.prog 8 #[.slice a0 len0 cap0, .int .i64 a1, .bool a2] w fun e w' => e = .returned (.bool true) ∧ Below w.heap.size w w' := by
  obtain ⟨l0, rfl, hr0, hm0, hw0, hc0⟩ := ReadsInt.ofRowC w0
  obtain ⟨k, h⟩ := P l0 a1 a2 hm0 y0 hw0 w1
  refine (bollardlaw1_BitsSet.calls k _ _ l0 a1 a2 true w (Kd.C_of_reads (d := (0 : Int)) (h1 := fun _ => rfl) hr0) hc0 h).mono ?_
  rintro e w' ⟨rfl, hd⟩
  exact ⟨rfl, hd⟩

-- NOT PRINTED: function 31 (bollardlaw1_lent)

/-! ### bollardref1_Get: function 33 -/
mutual
def bollardref1_Get.j0 : Nat → List Int → Int → Int → Bool → Bool → Option (Int × Bool)
  | 0, _, _, _, _, _ => none
  | k + 1, x0, x1, x2, x3, x36 => if x36 = true then (some (0, false)) else (bollardref1_Get.l0 k x0 x1 x2 x3 0 0)
def bollardref1_Get.l0 : Nat → List Int → Int → Int → Bool → Int → Int → Option (Int × Bool)
  | 0, _, _, _, _, _, _ => none
  | k + 1, x0, x1, x2, x3, x10, x11 => if x11 < x2 then (if 0 ≤ (wrap64 (x1 + x11)) then (if (wrap64 (x1 + x11)) < (x0.length : Int) then (if x3 = true then (bollardref1_Get.l0 k x0 x1 x2 x3 (Go.bits .or .u64 (IntKind.u64.wrap (x10 * 256)) (IntKind.u64.wrap (rd x0 (wrap64 (x1 + x11))))) (wrap64 (x11 + 1))) else (if 0 ≤ (wrap64 (8 * x11)) then (bollardref1_Get.l0 k x0 x1 x2 x3 (Go.bits .or .u64 x10 (shl .u64 (IntKind.u64.wrap (rd x0 (wrap64 (x1 + x11)))) (wrap64 (8 * x11)))) (wrap64 (x11 + 1))) else (none))) else (none)) else (none)) else (some (x10, true))
end
def bollardref1_Get.f (k : Nat) (l0 : List Int) (a1 : Int) (a2 : Int) (a3 : Bool) : Option (Int × Bool) := if a2 < 1 then (bollardref1_Get.j0 k l0 a1 a2 a3 true) else (if a2 > 8 then (bollardref1_Get.j0 k l0 a1 a2 a3 true) else (if a1 < 0 then (bollardref1_Get.j0 k l0 a1 a2 a3 true) else (if a1 > (l0.length : Int) then (bollardref1_Get.j0 k l0 a1 a2 a3 true) else (bollardref1_Get.j0 k l0 a1 a2 a3 (decide (a2 > (wrap64 ((l0.length : Int) - a1))))))))
theorem bollardref1_Get.mono_l : ∀ k, (∀ y0 y1 y2 y3 y4, LeO (bollardref1_Get.j0 k y0 y1 y2 y3 y4) (bollardref1_Get.j0 (k + 1) y0 y1 y2 y3 y4)) ∧ (∀ y0 y1 y2 y3 y4 y5, LeO (bollardref1_Get.l0 k y0 y1 y2 y3 y4 y5) (bollardref1_Get.l0 (k + 1) y0 y1 y2 y3 y4 y5))
  | 0 => ⟨fun _ _ _ _ _ r h => by simp [bollardref1_Get.j0] at h, fun _ _ _ _ _ _ r h => by simp [bollardref1_Get.l0] at h⟩
  | k + 1 => by
    obtain ⟨ih0, ih1⟩ := bollardref1_Get.mono_l k
    refine ⟨?_, ?_⟩
    · intro y0 y1 y2 y3 y4
      unfold bollardref1_Get.j0
      repeat' first
      | (with_reducible exact ih0 _ _ _ _ _)
      | (with_reducible exact ih1 _ _ _ _ _ _)
      | (with_reducible exact LeO.refl _)
      | (with_reducible exact LeO.none _)
      | (with_reducible refine LeO.ite ?_ ?_)
      | (with_reducible refine LeO.bind ?_ (fun _ => ?_))
      | exact ih0 _ _ _ _ _
      | exact ih1 _ _ _ _ _ _
      | exact LeO.none _
      | refine LeO.ite ?_ ?_
      | refine LeO.bind ?_ (fun _ => ?_)
    · intro y0 y1 y2 y3 y4 y5
      unfold bollardref1_Get.l0
      repeat' first
      | (with_reducible exact ih0 _ _ _ _ _)
      | (with_reducible exact ih1 _ _ _ _ _ _)
      | (with_reducible exact LeO.refl _)
      | (with_reducible exact LeO.none _)
      | (with_reducible refine LeO.ite ?_ ?_)
      | (with_reducible refine LeO.bind ?_ (fun _ => ?_))
      | exact ih0 _ _ _ _ _
      | exact ih1 _ _ _ _ _ _
      | exact LeO.none _
      | refine LeO.ite ?_ ?_
      | refine LeO.bind ?_ (fun _ => ?_)
theorem bollardref1_Get.mono : ∀ a0 a1 a2 a3 k, LeO (bollardref1_Get.f k a0 a1 a2 a3) (bollardref1_Get.f (k + 1) a0 a1 a2 a3) := by
  intro a0 a1 a2 a3 k
  obtain ⟨ih0, ih1⟩ := bollardref1_Get.mono_l k
  unfold bollardref1_Get.f
  repeat' first
      | (with_reducible exact ih0 _ _ _ _ _)
      | (with_reducible exact ih1 _ _ _ _ _ _)
      | (with_reducible exact LeO.refl _)
      | (with_reducible exact LeO.none _)
      | (with_reducible refine LeO.ite ?_ ?_)
      | (with_reducible refine LeO.bind ?_ (fun _ => ?_))
      | exact ih0 _ _ _ _ _
      | exact ih1 _ _ _ _ _ _
      | exact LeO.none _
      | refine LeO.ite ?_ ?_
      | refine LeO.bind ?_ (fun _ => ?_)
set_option maxHeartbeats 8000000 in
set_option maxRecDepth 100000 in
theorem bollardref1_Get.calls (k : Nat) (A0 : Option Addr) (c0 : Nat) (l0 : List Int) (a1 : Int) (a2 : Int) (a3 : Bool) (r1 : Int) (r2 : Bool) (w : World) (hr0 : Kd.C (Kd.int .u8) w A0 l0.length l0) (hc0 : l0.length ≤ c0) (h : bollardref1_Get.f k l0 a1 a2 a3 = some (r1, r2)) :
    Calls Try.prog 33 #[.slice A0 l0.length c0, .int .i64 a1, .int .i64 a2, .bool a3] w fun e w' => e = .returned (.tuple #[.int .u64 r1, .bool r2]) ∧ Drawn0 w w' := by
  have HR0 := Aside0.mk hr0
  have HC0 := Aside0.mk hc0
  clear hr0 hc0
  have H : (if a2 < 1 then (bollardref1_Get.j0 k l0 a1 a2 a3 true) else (if a2 > 8 then (bollardref1_Get.j0 k l0 a1 a2 a3 true) else (if a1 < 0 then (bollardref1_Get.j0 k l0 a1 a2 a3 true) else (if a1 > (l0.length : Int) then (bollardref1_Get.j0 k l0 a1 a2 a3 true) else (bollardref1_Get.j0 k l0 a1 a2 a3 (decide (a2 > (wrap64 ((l0.length : Int) - a1))))))))) = some (r1, r2) := h
  clear h
  have HC5 := Aside0.mk H
  clear H
  go_enter Try.func33, Try.ntmps33
  go_upto_region 1 with (fail)
  go_cut [36] (fun v36 wc => ∃ (kq : Nat) (x36_4 : Bool), v36 = .bool x36_4 ∧ Aside0 (bollardref1_Get.j0 kq l0 a1 a2 a3 x36_4 = some (r1, r2)) ∧ Aside0 (kq ≤ k) ∧ Drawn0 w wc)
  case first =>
    have H := HC5.out
    clear HC5
    by_cases c6 : a2 < 1
    · rw [if_pos c6] at H
      have c6b0 : decide (a2 < 1) = true := decide_eq_true c6
      clear c6
      (first | rw [c6b0] | (simp only [i64_w, i32_w]; rw [c6b0]) | skip)
      have H' := Aside0.mk H
      clear H
      go_wp2
      go_meet
      case rel => exact ⟨_, (true), (by first | rfl | (simp; done) | (simp [*]; done)), H', ⟨by first | omega | exact Nat.le_refl _⟩, by repeat (first | exact Drawn0.refl _ | apply Drawn0.step)⟩
    · rw [if_neg c6] at H
      have c6b0 : decide (a2 < 1) = false := decide_eq_false c6
      clear c6
      (first | rw [c6b0] | (simp only [i64_w, i32_w]; rw [c6b0]) | skip)
      by_cases c7 : a2 > 8
      · rw [if_pos c7] at H
        have c7b0 : decide (8 < a2) = true := decide_eq_true c7
        clear c7
        have H' := Aside0.mk H
        clear H
        go_wp2
        go_meet
        case rel => exact ⟨_, (true), (by first | rfl | (simp; done) | (simp [*]; done)), H', ⟨by first | omega | exact Nat.le_refl _⟩, by repeat (first | exact Drawn0.refl _ | apply Drawn0.step)⟩
      · rw [if_neg c7] at H
        have c7b0 : decide (8 < a2) = false := decide_eq_false c7
        clear c7
        by_cases c8 : a1 < 0
        · rw [if_pos c8] at H
          have c8b0 : decide (a1 < 0) = true := decide_eq_true c8
          clear c8
          have H' := Aside0.mk H
          clear H
          go_wp2
          go_meet
          case rel => exact ⟨_, (true), (by first | rfl | (simp; done) | (simp [*]; done)), H', ⟨by first | omega | exact Nat.le_refl _⟩, by repeat (first | exact Drawn0.refl _ | apply Drawn0.step)⟩
        · rw [if_neg c8] at H
          have c8b0 : decide (a1 < 0) = false := decide_eq_false c8
          clear c8
          by_cases c9 : a1 > (l0.length : Int)
          · rw [if_pos c9] at H
            have c9b0 : decide ((l0.length : Int) < a1) = true := decide_eq_true c9
            clear c9
            have H' := Aside0.mk H
            clear H
            go_wp2
            go_meet
            case rel => exact ⟨_, (true), (by first | rfl | (simp; done) | (simp [*]; done)), H', ⟨by first | omega | exact Nat.le_refl _⟩, by repeat (first | exact Drawn0.refl _ | apply Drawn0.step)⟩
          · rw [if_neg c9] at H
            have c9b0 : decide ((l0.length : Int) < a1) = false := decide_eq_false c9
            clear c9
            have H' := Aside0.mk H
            clear H
            go_wp2
            go_meet
            case rel => exact ⟨_, (decide (a2 > (wrap64 ((l0.length : Int) - a1)))), (by first | rfl | (simp; done) | (simp [*]; done)), H', ⟨by first | omega | exact Nat.le_refl _⟩, by repeat (first | exact Drawn0.refl _ | apply Drawn0.step)⟩
  case rest =>
    clear HC5
    try clear p2
    try clear c3
    try clear c6
    try clear c6b0
    try clear p6
    try clear c7
    try clear c7b0
    try clear c8
    try clear c8b0
    try clear c9
    try clear c9b0
    obtain ⟨kq, x36_4, rfl, HA, HJ4, ⟨mc4, rfl⟩⟩ := hcut
    cases kq with
    | zero => exact absurd HA.out (by simp [bollardref1_Get.j0])
    | succ kj4 =>
      have H := HA.out
      clear HA
      simp only [bollardref1_Get.j0] at H
      by_cases c10 : x36_4 = true
      · subst c10
        have H1 : (some (0, false)) = some (r1, r2) := by rw [if_pos rfl] at H; exact H
        clear H
        have H := H1
        clear H1
        simp only [Option.some.injEq, Prod.mk.injEq] at H
        obtain ⟨rfl, rfl⟩ := H
        go_wp2
        go_ret2
        exact ⟨by first | rfl | (simp; done) | (simp [*]; done), by repeat (first | exact Drawn0.refl _ | apply Drawn0.step)⟩
      · replace c10 := Bool.eq_false_iff.mpr c10
        subst c10
        have H1 : (bollardref1_Get.l0 kj4 l0 a1 a2 a3 0 0) = some (r1, r2) := by rw [if_neg (show ¬ (false = true) by decide)] at H; exact H
        clear H
        have H := H1
        clear H1
        have H' := Aside0.mk H
        clear H
        go_wp2
        go_loopg [10, 11] kj4 (fun kq v10 v11 w' => ∃ (x10_2 : Int) (x11_2 : Int), v10 = .int .u64 x10_2 ∧ v11 = .int .i64 x11_2 ∧ Aside0 (bollardref1_Get.l0 kq l0 a1 a2 a3 x10_2 x11_2 = some (r1, r2)) ∧ Aside0 (kq ≤ kj4) ∧ Drawn0 w w')
        case atStart => exact ⟨(0), (0), (by first | rfl | (simp; done) | (simp [*]; done)), (by first | rfl | (simp; done) | (simp [*]; done)), H', ⟨Nat.le_refl _⟩, by repeat (first | exact Drawn0.refl _ | apply Drawn0.step)⟩
        case round =>
          clear H'
          try clear c1
          try clear p2
          try clear c3
          try clear c4
          try clear c6
          try clear c6b0
          try clear p6
          try clear c7
          try clear c7b0
          try clear c8
          try clear c8b0
          try clear c9
          try clear c9b0
          try clear c10
          try clear p2
          try clear p6
          obtain ⟨x10_2, x11_2, rfl, rfl, HA, HK2, ⟨m2, rfl⟩⟩ := hrel
          cases gk with
          | zero => exact absurd HA.out (by simp [bollardref1_Get.l0])
          | succ k2 =>
            have H := HA.out
            clear HA
            simp only [bollardref1_Get.l0] at H
            by_cases c11 : x11_2 < a2
            · rw [if_pos c11] at H
              have c11b0 : decide (x11_2 < a2) = true := decide_eq_true c11
              clear c11
              obtain ⟨ji12, hji12⟩ : ∃ j_ : Int, (wrap64 (a1 + x11_2)) = j_ := ⟨_, rfl⟩
              replace H : (if 0 ≤ (ji12) then (if (ji12) < (l0.length : Int) then (if a3 = true then (bollardref1_Get.l0 k2 l0 a1 a2 a3 (Go.bits .or .u64 (IntKind.u64.wrap (x10_2 * 256)) (IntKind.u64.wrap (rd l0 (ji12)))) (wrap64 (x11_2 + 1))) else (if 0 ≤ (wrap64 (8 * x11_2)) then (bollardref1_Get.l0 k2 l0 a1 a2 a3 (Go.bits .or .u64 x10_2 (shl .u64 (IntKind.u64.wrap (rd l0 (ji12))) (wrap64 (8 * x11_2)))) (wrap64 (x11_2 + 1))) else (none))) else (none)) else (none)) = some (r1, r2) := by first | (rw [hji12] at H; exact H) | (simp only [hji12] at H ⊢; exact H)
              have hji12w : (IntKind.i64.wrap (a1 + x11_2)) = ji12 := (i64_w _).trans hji12
              by_cases c13 : 0 ≤ (ji12)
              · rw [if_pos c13] at H
                have c13b0 : decide (0 ≤ (ji12)) = true := decide_eq_true c13
                clear c13
                by_cases c14 : (ji12) < (l0.length : Int)
                · rw [if_pos c14] at H
                  have c14b0 : decide ((ji12) < (l0.length : Int)) = true := decide_eq_true c14
                  clear c14
                  by_cases c15 : a3 = true
                  · subst c15
                    have H1 : (bollardref1_Get.l0 k2 l0 a1 a2 true (Go.bits .or .u64 (IntKind.u64.wrap (x10_2 * 256)) (IntKind.u64.wrap (rd l0 (ji12)))) (wrap64 (x11_2 + 1))) = some (r1, r2) := by rw [if_pos rfl] at H; exact H
                    clear H
                    have H := H1
                    clear H1
                    have H' := Aside0.mk H
                    clear H
                    have p245 : 0 ≤ ((ji12) : Int) := of_decide_eq_true (by first | (with_reducible assumption) | assumption)
                    have q245 : (ji12) < (l0.length : Int) := of_decide_eq_true (by first | (with_reducible assumption) | assumption)
                    obtain ⟨ad245, e245, hx245_0⟩ := Kd.at_int HR0.out (ji12) p245 q245
                    cases e245
                    replace p245 := eq_true p245
                    replace q245 := eq_true q245
                    go_wp2
                    go_roundg k2
                    case measure => have := HJ4.out; have := HK2.out; omega
                    case rel => exact ⟨(Go.bits .or .u64 (IntKind.u64.wrap (x10_2 * 256)) (IntKind.u64.wrap (rd l0 (ji12)))), (wrap64 (x11_2 + 1)), (by first | rfl | (simp; done) | (simp only [← hji12] <;> (first | rfl | simp)) | (simp [*]; done)), (by first | rfl | (simp; done) | (simp [*]; done)), H', ⟨by have := HJ4.out; have := HK2.out; omega⟩, by repeat (first | exact Drawn0.refl _ | apply Drawn0.step)⟩
                  · replace c15 := Bool.eq_false_iff.mpr c15
                    subst c15
                    have H1 : (if 0 ≤ (wrap64 (8 * x11_2)) then (bollardref1_Get.l0 k2 l0 a1 a2 false (Go.bits .or .u64 x10_2 (shl .u64 (IntKind.u64.wrap (rd l0 (ji12))) (wrap64 (8 * x11_2)))) (wrap64 (x11_2 + 1))) else (none)) = some (r1, r2) := by rw [if_neg (show ¬ (false = true) by decide)] at H; exact H
                    clear H
                    have H := H1
                    clear H1
                    obtain ⟨ji16, hji16⟩ : ∃ j_ : Int, (wrap64 (8 * x11_2)) = j_ := ⟨_, rfl⟩
                    replace H : (if 0 ≤ (ji16) then (bollardref1_Get.l0 k2 l0 a1 a2 false (Go.bits .or .u64 x10_2 (shl .u64 (IntKind.u64.wrap (rd l0 (ji12))) (ji16))) (wrap64 (x11_2 + 1))) else (none)) = some (r1, r2) := by first | (rw [hji16] at H; exact H) | (simp only [hji16] at H ⊢; exact H)
                    have hji16w : (IntKind.i64.wrap (8 * x11_2)) = ji16 := (i64_w _).trans hji16
                    by_cases c17 : 0 ≤ (ji16)
                    · rw [if_pos c17] at H
                      have c17b0 := eq_true c17
                      have c17b1 : decide (0 ≤ (ji16)) = true := decide_eq_true c17
                      clear c17
                      obtain ⟨ji18, hji18⟩ : ∃ j_ : Int, (shl .u64 (IntKind.u64.wrap (rd l0 (ji12))) (ji16)) = j_ := ⟨_, rfl⟩
                      replace H : (bollardref1_Get.l0 k2 l0 a1 a2 false (Go.bits .or .u64 x10_2 (ji18)) (wrap64 (x11_2 + 1))) = some (r1, r2) := by first | (rw [hji18] at H; exact H) | (simp only [hji18] at H ⊢; exact H)
                      have hji18_ : (IntKind.u64.wrap ((IntKind.u64.wrap (rd l0 (ji12))) * 2 ^ min (ji16).toNat 64)) = ji18 := hji18
                      have hji18z : (ji16) ≤ 64 → (IntKind.u64.wrap ((IntKind.u64.wrap (rd l0 (ji12))) * 2 ^ (ji16).toNat)) = ji18 := shl_small hji18
                      have H' := Aside0.mk H
                      clear H
                      have p245 : 0 ≤ ((ji12) : Int) := of_decide_eq_true (by first | (with_reducible assumption) | assumption)
                      have q245 : (ji12) < (l0.length : Int) := of_decide_eq_true (by first | (with_reducible assumption) | assumption)
                      obtain ⟨ad245, e245, hx245_0⟩ := Kd.at_int HR0.out (ji12) p245 q245
                      cases e245
                      replace p245 := eq_true p245
                      replace q245 := eq_true q245
                      go_wp2
                      go_roundg k2
                      case measure => have := HJ4.out; have := HK2.out; omega
                      case rel => exact ⟨(Go.bits .or .u64 x10_2 (ji18)), (wrap64 (x11_2 + 1)), (by first | rfl | (simp; done) | (simp only [← hji18] <;> (first | rfl | simp)) | (simp [*]; done)), (by first | rfl | (simp; done) | (simp [*]; done)), H', ⟨by have := HJ4.out; have := HK2.out; omega⟩, by repeat (first | exact Drawn0.refl _ | apply Drawn0.step)⟩
                    · rw [if_neg c17] at H
                      exact absurd H (by simp)
                · rw [if_neg c14] at H
                  exact absurd H (by simp)
              · rw [if_neg c13] at H
                exact absurd H (by simp)
            · rw [if_neg c11] at H
              have c11b0 : decide (x11_2 < a2) = false := decide_eq_false c11
              clear c11
              simp only [Option.some.injEq, Prod.mk.injEq] at H
              obtain ⟨rfl, rfl⟩ := H
              go_wp2
              go_ret2
              exact ⟨by first | rfl | (simp; done) | (simp [*]; done), by repeat (first | exact Drawn0.refl _ | apply Drawn0.step)⟩

/-! ### bits_Put: function 34 -/
def bits_Put.l0 : Nat → Int → Int → Bool → Int → List Int → Int → Int → Option (List Int × Bool)
  | 0, _, _, _, _, _, _, _ => none
  | k + 1, x1, x2, x3, x4, x12, x22, x23 => if x23 < x22 then (if x3 = true then (if 0 ≤ (wrap64 (8 * x23)) then (if 0 ≤ (wrap64 (x1 + (wrap64 ((wrap64 (x2 - 1)) - x23)))) then (if (wrap64 (x1 + (wrap64 ((wrap64 (x2 - 1)) - x23)))) < (x12.length : Int) then (bits_Put.l0 k x1 x2 x3 x4 (x12.set ((wrap64 (x1 + (wrap64 ((wrap64 (x2 - 1)) - x23)))) : Int).toNat ((shr .u64 x4 (wrap64 (8 * x23))) % 256)) x22 (wrap64 (x23 + 1))) else (none)) else (none)) else (none)) else (if 0 ≤ (wrap64 (8 * x23)) then (if 0 ≤ (wrap64 (x1 + x23)) then (if (wrap64 (x1 + x23)) < (x12.length : Int) then (bits_Put.l0 k x1 x2 x3 x4 (x12.set ((wrap64 (x1 + x23)) : Int).toNat ((shr .u64 x4 (wrap64 (8 * x23))) % 256)) x22 (wrap64 (x23 + 1))) else (none)) else (none)) else (none))) else (some (x12, true))
def bits_Put.f (k : Nat) (l0 : List Int) (a1 : Int) (a2 : Int) (a3 : Bool) (a4 : Int) : Option (List Int × Bool) := (bits_may.f l0 a1 a2).bind fun t246 => (if t246 = true then ((slices_Clone_byte_byte.f l0).bind fun t247 => (bits_Put.l0 k a1 a2 a3 a4 t247 a2 0)) else (some (([] : List Int), false)))
theorem bits_Put.mono_l : ∀ k, (∀ y0 y1 y2 y3 y4 y5 y6, LeO (bits_Put.l0 k y0 y1 y2 y3 y4 y5 y6) (bits_Put.l0 (k + 1) y0 y1 y2 y3 y4 y5 y6))
  | 0 => fun _ _ _ _ _ _ _ r h => by simp [bits_Put.l0] at h
  | k + 1 => by
    have ih0 := bits_Put.mono_l k
    · intro y0 y1 y2 y3 y4 y5 y6
      unfold bits_Put.l0
      repeat' first
      | (with_reducible exact ih0 _ _ _ _ _ _ _)
      | (with_reducible exact LeO.refl _)
      | (with_reducible exact LeO.none _)
      | (with_reducible refine LeO.ite ?_ ?_)
      | (with_reducible refine LeO.bind ?_ (fun _ => ?_))
      | exact ih0 _ _ _ _ _ _ _
      | exact LeO.none _
      | refine LeO.ite ?_ ?_
      | refine LeO.bind ?_ (fun _ => ?_)
theorem bits_Put.mono : ∀ a0 a1 a2 a3 a4 k, LeO (bits_Put.f k a0 a1 a2 a3 a4) (bits_Put.f (k + 1) a0 a1 a2 a3 a4) := by
  intro a0 a1 a2 a3 a4 k
  have ih0 := bits_Put.mono_l k
  unfold bits_Put.f
  repeat' first
      | (with_reducible exact ih0 _ _ _ _ _ _ _)
      | (with_reducible exact LeO.refl _)
      | (with_reducible exact LeO.none _)
      | (with_reducible refine LeO.ite ?_ ?_)
      | (with_reducible refine LeO.bind ?_ (fun _ => ?_))
      | exact ih0 _ _ _ _ _ _ _
      | exact LeO.none _
      | refine LeO.ite ?_ ?_
      | refine LeO.bind ?_ (fun _ => ?_)
set_option maxHeartbeats 8000000 in
set_option maxRecDepth 100000 in
theorem bits_Put.calls (k : Nat) (A0 : Option Addr) (c0 : Nat) (l0 : List Int) (a1 : Int) (a2 : Int) (a3 : Bool) (a4 : Int) (r1 : List Int) (r2 : Bool) (w : World) (hr0 : Kd.C (Kd.int .u8) w A0 l0.length l0) (hc0 : l0.length ≤ c0) (h : bits_Put.f k l0 a1 a2 a3 a4 = some (r1, r2)) :
    Calls Try.prog 34 #[.slice A0 l0.length c0, .int .i64 a1, .int .i64 a2, .bool a3, .int .u64 a4] w fun e w' => ∃ v0_ : Value, e = .returned (.tuple #[v0_, .bool r2]) ∧ Kd.R (Kd.int .u8) 5 w' w.heap.size (fun _ => True) v0_ r1 ∧ Below w.heap.size w w' := by
  have HR0 := Aside0.mk hr0
  have HC0 := Aside0.mk hc0
  clear hr0 hc0
  have HB := Aside0.mk (Below.refl w.heap.size w)
  have H : ((bits_may.f l0 a1 a2).bind fun t246 => (if t246 = true then ((slices_Clone_byte_byte.f l0).bind fun t247 => (bits_Put.l0 k a1 a2 a3 a4 t247 a2 0)) else (some (([] : List Int), false)))) = some (r1, r2) := h
  clear h
  replace H := Option.bind_eq_some_iff.mp H
  obtain ⟨t246, A60, H⟩ := H
  replace H : (if t246 = true then ((slices_Clone_byte_byte.f l0).bind fun t247 => (bits_Put.l0 k a1 a2 a3 a4 t247 a2 0)) else (some (([] : List Int), false))) = some (r1, r2) := H
  have A6 := Aside0.mk A60
  clear A60
  by_cases c7 : t246 = true
  · subst c7
    have H1 : ((slices_Clone_byte_byte.f l0).bind fun t247 => (bits_Put.l0 k a1 a2 a3 a4 t247 a2 0)) = some (r1, r2) := by rw [if_pos rfl] at H; exact H
    clear H
    have H := H1
    clear H1
    replace H := Option.bind_eq_some_iff.mp H
    obtain ⟨t247, A80, H⟩ := H
    replace H : (bits_Put.l0 k a1 a2 a3 a4 t247 a2 0) = some (r1, r2) := H
    have A8 := Aside0.mk A80
    clear A80
    have H' := Aside0.mk H
    clear H
    go_enter Try.func34, Try.ntmps34
    go_wp2_with (first | ((with_reducible refine gate_callee (f := 45) rfl ?_); refine goesL_ (some 18) rfl rfl Try.func45 (by kernel_rfl) rfl #[.slice A0 l0.length c0, .int .i64 a1, .int .i64 a2] rfl (by (try simp only [List.map_toArray, List.map_cons, List.map_nil]); first | done | rfl | (simp only [List.length_drop, List.length_take]; rfl)) ?_; (with_reducible refine (bits_may.calls _ _ l0 a1 a2 true _ ?side1 ?side2 A6.out).mono ?_); (case side1 => repeat (first | exact HR0.out | (with_reducible refine Kd.C_alloc ?_ _) | (with_reducible refine Kd.C_drewN ?_ _) | (with_reducible refine Kd.C_drew ?_))); (case side2 => exact HC0.out); rintro e w' ⟨rfl, ⟨nd, rfl⟩⟩; refine ⟨_, rfl, ?_⟩) | ((with_reducible refine gate_callee (f := 44) rfl ?_); refine goesL_ (some 21) rfl rfl Try.func44 (by kernel_rfl) rfl #[.slice A0 l0.length c0] rfl (by (try simp only [List.map_toArray, List.map_cons, List.map_nil]); first | done | rfl | (simp only [List.length_drop, List.length_take]; rfl)) ?_; (with_reducible refine (slices_Clone_byte_byte.calls _ _ l0 t247 _ ?side1 ?side2 A8.out).mono ?_); (case side1 => repeat (first | exact HR0.out | (with_reducible refine Kd.C_alloc ?_ _) | (with_reducible refine Kd.C_drewN ?_ _) | (with_reducible refine Kd.C_drew ?_))); (case side2 => exact HC0.out); rintro e w9 ⟨v248, rfl, ho0, hb⟩; refine ⟨_, rfl, ?_⟩; have n0_ := Aside0.mk (Kd.R_lower ho0 (below_size (by repeat (first | (with_reducible first | exact HB.out | apply below_alloc | apply pw_below_drewN | apply below_drew1) | exact HB.out)))); have n1_ := Aside0.mk (below_step (by repeat (first | (with_reducible first | exact HB.out | apply below_alloc | apply pw_below_drewN | apply below_drew1) | exact HB.out)) hb); clear HB; have HO249 := n0_; have HB := n1_; clear n0_ n1_; (try clear hb); (try clear hb2); (try clear hk); (try clear hi); (try clear ho0)))
    go_loopg [23] k (fun kq v23 w' => ∃ (x12_1 : List Int) (x23_1 : Int), v23 = .int .i64 x23_1 ∧ Aside0 (bits_Put.l0 kq a1 a2 a3 a4 x12_1 a2 x23_1 = some (r1, r2)) ∧ Aside0 (kq ≤ k) ∧ Aside0 (Kd.R (Kd.int .u8) 5 w' w.heap.size (fun _ => True) v248 x12_1) ∧ Aside0 (Below w.heap.size w w'))
    case atStart => exact ⟨(t247), (0), (by first | rfl | (simp; done) | (simp [*]; done)), H', ⟨Nat.le_refl _⟩, ⟨by (with_reducible repeat (first | apply Kd.R_alloc | apply Kd.R_drewN | apply Kd.R_drew)); exact HO249.out⟩, ⟨by repeat (first | (with_reducible first | exact HB.out | apply below_alloc | apply pw_below_drewN | apply below_drew1) | exact HB.out)⟩⟩
    case round =>
      clear H'
      try clear p2
      try clear c3
      try clear c4
      try clear c7
      obtain ⟨x12_1, x23_1, rfl, HA, HK1, HO_12, HB⟩ := hrel
      cases gk with
      | zero => exact absurd HA.out (by simp [bits_Put.l0])
      | succ k1 =>
        have H := HA.out
        clear HA
        simp only [bits_Put.l0] at H
        by_cases c10 : x23_1 < a2
        · rw [if_pos c10] at H
          have c10b0 : decide (x23_1 < a2) = true := decide_eq_true c10
          clear c10
          by_cases c11 : a3 = true
          · subst c11
            have H1 : (if 0 ≤ (wrap64 (8 * x23_1)) then (if 0 ≤ (wrap64 (a1 + (wrap64 ((wrap64 (a2 - 1)) - x23_1)))) then (if (wrap64 (a1 + (wrap64 ((wrap64 (a2 - 1)) - x23_1)))) < (x12_1.length : Int) then (bits_Put.l0 k1 a1 a2 true a4 (x12_1.set ((wrap64 (a1 + (wrap64 ((wrap64 (a2 - 1)) - x23_1)))) : Int).toNat ((shr .u64 a4 (wrap64 (8 * x23_1))) % 256)) a2 (wrap64 (x23_1 + 1))) else (none)) else (none)) else (none)) = some (r1, r2) := by rw [if_pos rfl] at H; exact H
            clear H
            have H := H1
            clear H1
            obtain ⟨ji12, hji12⟩ : ∃ j_ : Int, (wrap64 (8 * x23_1)) = j_ := ⟨_, rfl⟩
            replace H : (if 0 ≤ (ji12) then (if 0 ≤ (wrap64 (a1 + (wrap64 ((wrap64 (a2 - 1)) - x23_1)))) then (if (wrap64 (a1 + (wrap64 ((wrap64 (a2 - 1)) - x23_1)))) < (x12_1.length : Int) then (bits_Put.l0 k1 a1 a2 true a4 (x12_1.set ((wrap64 (a1 + (wrap64 ((wrap64 (a2 - 1)) - x23_1)))) : Int).toNat ((shr .u64 a4 (ji12)) % 256)) a2 (wrap64 (x23_1 + 1))) else (none)) else (none)) else (none)) = some (r1, r2) := by first | (rw [hji12] at H; exact H) | (simp only [hji12] at H ⊢; exact H)
            have hji12w : (IntKind.i64.wrap (8 * x23_1)) = ji12 := (i64_w _).trans hji12
            by_cases c13 : 0 ≤ (ji12)
            · rw [if_pos c13] at H
              have c13b0 := eq_true c13
              have c13b1 : decide (0 ≤ (ji12)) = true := decide_eq_true c13
              clear c13
              obtain ⟨ji14, hji14⟩ : ∃ j_ : Int, (shr .u64 a4 (ji12)) = j_ := ⟨_, rfl⟩
              replace H : (if 0 ≤ (wrap64 (a1 + (wrap64 ((wrap64 (a2 - 1)) - x23_1)))) then (if (wrap64 (a1 + (wrap64 ((wrap64 (a2 - 1)) - x23_1)))) < (x12_1.length : Int) then (bits_Put.l0 k1 a1 a2 true a4 (x12_1.set ((wrap64 (a1 + (wrap64 ((wrap64 (a2 - 1)) - x23_1)))) : Int).toNat ((ji14) % 256)) a2 (wrap64 (x23_1 + 1))) else (none)) else (none)) = some (r1, r2) := by first | (rw [hji14] at H; exact H) | (simp only [hji14] at H ⊢; exact H)
              have hji14_ : (a4 / 2 ^ min (ji12).toNat 64) = ji14 := hji14
              have hji14z : (ji12) ≤ 64 → (a4 / 2 ^ (ji12).toNat) = ji14 := shr_small hji14
              obtain ⟨ji15, hji15⟩ : ∃ j_ : Int, (wrap64 (a1 + (wrap64 ((wrap64 (a2 - 1)) - x23_1)))) = j_ := ⟨_, rfl⟩
              replace H : (if 0 ≤ (ji15) then (if (ji15) < (x12_1.length : Int) then (bits_Put.l0 k1 a1 a2 true a4 (x12_1.set ((ji15) : Int).toNat ((ji14) % 256)) a2 (wrap64 (x23_1 + 1))) else (none)) else (none)) = some (r1, r2) := by first | (rw [hji15] at H; exact H) | (simp only [hji15] at H ⊢; exact H)
              have hji15w : (IntKind.i64.wrap (a1 + (wrap64 ((wrap64 (a2 - 1)) - x23_1)))) = ji15 := (i64_w _).trans hji15
              by_cases c16 : 0 ≤ (ji15)
              · rw [if_pos c16] at H
                have c16b0 : decide (0 ≤ (ji15)) = true := decide_eq_true c16
                clear c16
                by_cases c17 : (ji15) < (x12_1.length : Int)
                · rw [if_pos c17] at H
                  have c17b0 : decide ((ji15) < (x12_1.length : Int)) = true := decide_eq_true c17
                  clear c17
                  obtain ⟨y250, hy250⟩ : ∃ y_ : List Int, y_ = (x12_1.set ((ji15) : Int).toNat ((ji14) % 256)) := ⟨_, rfl⟩
                  replace H : (bits_Put.l0 k1 a1 a2 true a4 y250 a2 (wrap64 (x23_1 + 1))) = some (r1, r2) := by first | (rw [hy250]; with_reducible exact H) | (have H2_ := (Option.bind_some _ _).symm.trans H; rw [hy250]; with_reducible exact H2_) | (have H2_ := (Option.bind_some _ _).symm.trans H; with_reducible exact H2_) | with_reducible exact H | (rw [hy250]; exact H) | exact H
                  have Ny250 := Aside0.mk hy250
                  clear hy250
                  have H' := Aside0.mk H
                  clear H
                  have p18 : 0 ≤ ((ji15) : Int) := of_decide_eq_true (by first | (with_reducible assumption) | assumption)
                  have q18 : ((ji15) : Int) < ((x12_1.length : Int) : Int) := of_decide_eq_true (by first | (with_reducible assumption) | assumption)
                  obtain ⟨go18, co18, eo18, gb18, gl18, cl18, HG18⟩ := Kd.R_form HO_12.out (by omega)
                  (first | cases eo18 | (injection eo18 with ea_ en_ ec_; (first | subst ea_ | (injection ea_ with ea_; subst ea_)); subst ec_; clear en_))
                  have GB18 := Aside0.mk gb18
                  have GG18 := Aside0.mk HG18
                  clear gb18 gl18 HG18
                  obtain ⟨hx18_0, hf18_0⟩ := Kd.R_celln 0 HO_12.out ((ji15) : Int) p18 q18
                  replace p18 := eq_true p18
                  replace q18 := eq_true q18
                  have HP19 := Kd.R_putg HO_12.out ((ji15) : Int) ((ji14) % 256)
                  go_wp2_with (first | ((with_reducible refine gate_store (t := 5) (p := 41) rfl ?_); refine store_event (t := 5) (p := 41) (v := ?vo_w20) (w1 := (wr.setCell ⟨go18, ((ji15) : Int).toNat, none⟩ (.int .u8 ((ji14) % 256)))) ?hg ?ho ?hn ?hr ?_; (case ho => rfl); (case hg => rfl); (case hn => rfl); (case hr => first | (go_simp; done) | (go_simp; rfl)); intro w20 hw; have hg : wr.grownBy w20 (some go18) := (by rw [hw]; exact HP19.2); have hp_ : Kd.R (Kd.int .u8) 5 w20 w.heap.size (fun _ => True) (.slice (some ⟨go18, 0, none⟩) x12_1.length co18) y250 := (by rw [hw, Ny250.out]; exact HP19.1); clear HP19; have n0_ := Aside0.mk (hp_); have n1_ := Aside0.mk ((by rw [hw]; exact below_set (HB.out) GB18.out : Below w.heap.size w w20)); clear HO_12; clear HB; have HO_12 := n0_; have HB := n1_; clear n0_ n1_; clear hg hw hp_))
                  go_roundg k1
                  case measure => have := HK1.out; omega
                  case rel => exact ⟨(y250), (wrap64 (x23_1 + 1)), (by first | rfl | (simp; done) | (simp [*]; done)), H', ⟨by have := HK1.out; omega⟩, ⟨by (with_reducible repeat (first | apply Kd.R_alloc | apply Kd.R_drewN | apply Kd.R_drew)); exact HO_12.out⟩, ⟨by repeat (first | (with_reducible first | exact HB.out | apply below_alloc | apply pw_below_drewN | apply below_drew1) | exact HB.out)⟩⟩
                · rw [if_neg c17] at H
                  exact absurd H (by simp)
              · rw [if_neg c16] at H
                exact absurd H (by simp)
            · rw [if_neg c13] at H
              exact absurd H (by simp)
          · replace c11 := Bool.eq_false_iff.mpr c11
            subst c11
            have H1 : (if 0 ≤ (wrap64 (8 * x23_1)) then (if 0 ≤ (wrap64 (a1 + x23_1)) then (if (wrap64 (a1 + x23_1)) < (x12_1.length : Int) then (bits_Put.l0 k1 a1 a2 false a4 (x12_1.set ((wrap64 (a1 + x23_1)) : Int).toNat ((shr .u64 a4 (wrap64 (8 * x23_1))) % 256)) a2 (wrap64 (x23_1 + 1))) else (none)) else (none)) else (none)) = some (r1, r2) := by rw [if_neg (show ¬ (false = true) by decide)] at H; exact H
            clear H
            have H := H1
            clear H1
            obtain ⟨ji21, hji21⟩ : ∃ j_ : Int, (wrap64 (8 * x23_1)) = j_ := ⟨_, rfl⟩
            replace H : (if 0 ≤ (ji21) then (if 0 ≤ (wrap64 (a1 + x23_1)) then (if (wrap64 (a1 + x23_1)) < (x12_1.length : Int) then (bits_Put.l0 k1 a1 a2 false a4 (x12_1.set ((wrap64 (a1 + x23_1)) : Int).toNat ((shr .u64 a4 (ji21)) % 256)) a2 (wrap64 (x23_1 + 1))) else (none)) else (none)) else (none)) = some (r1, r2) := by first | (rw [hji21] at H; exact H) | (simp only [hji21] at H ⊢; exact H)
            have hji21w : (IntKind.i64.wrap (8 * x23_1)) = ji21 := (i64_w _).trans hji21
            by_cases c22 : 0 ≤ (ji21)
            · rw [if_pos c22] at H
              have c22b0 := eq_true c22
              have c22b1 : decide (0 ≤ (ji21)) = true := decide_eq_true c22
              clear c22
              obtain ⟨ji23, hji23⟩ : ∃ j_ : Int, (shr .u64 a4 (ji21)) = j_ := ⟨_, rfl⟩
              replace H : (if 0 ≤ (wrap64 (a1 + x23_1)) then (if (wrap64 (a1 + x23_1)) < (x12_1.length : Int) then (bits_Put.l0 k1 a1 a2 false a4 (x12_1.set ((wrap64 (a1 + x23_1)) : Int).toNat ((ji23) % 256)) a2 (wrap64 (x23_1 + 1))) else (none)) else (none)) = some (r1, r2) := by first | (rw [hji23] at H; exact H) | (simp only [hji23] at H ⊢; exact H)
              have hji23_ : (a4 / 2 ^ min (ji21).toNat 64) = ji23 := hji23
              have hji23z : (ji21) ≤ 64 → (a4 / 2 ^ (ji21).toNat) = ji23 := shr_small hji23
              obtain ⟨ji24, hji24⟩ : ∃ j_ : Int, (wrap64 (a1 + x23_1)) = j_ := ⟨_, rfl⟩
              replace H : (if 0 ≤ (ji24) then (if (ji24) < (x12_1.length : Int) then (bits_Put.l0 k1 a1 a2 false a4 (x12_1.set ((ji24) : Int).toNat ((ji23) % 256)) a2 (wrap64 (x23_1 + 1))) else (none)) else (none)) = some (r1, r2) := by first | (rw [hji24] at H; exact H) | (simp only [hji24] at H ⊢; exact H)
              have hji24w : (IntKind.i64.wrap (a1 + x23_1)) = ji24 := (i64_w _).trans hji24
              by_cases c25 : 0 ≤ (ji24)
              · rw [if_pos c25] at H
                have c25b0 : decide (0 ≤ (ji24)) = true := decide_eq_true c25
                clear c25
                by_cases c26 : (ji24) < (x12_1.length : Int)
                · rw [if_pos c26] at H
                  have c26b0 : decide ((ji24) < (x12_1.length : Int)) = true := decide_eq_true c26
                  clear c26
                  obtain ⟨y251, hy251⟩ : ∃ y_ : List Int, y_ = (x12_1.set ((ji24) : Int).toNat ((ji23) % 256)) := ⟨_, rfl⟩
                  replace H : (bits_Put.l0 k1 a1 a2 false a4 y251 a2 (wrap64 (x23_1 + 1))) = some (r1, r2) := by first | (rw [hy251]; with_reducible exact H) | (have H2_ := (Option.bind_some _ _).symm.trans H; rw [hy251]; with_reducible exact H2_) | (have H2_ := (Option.bind_some _ _).symm.trans H; with_reducible exact H2_) | with_reducible exact H | (rw [hy251]; exact H) | exact H
                  have Ny251 := Aside0.mk hy251
                  clear hy251
                  have H' := Aside0.mk H
                  clear H
                  have p27 : 0 ≤ ((ji24) : Int) := of_decide_eq_true (by first | (with_reducible assumption) | assumption)
                  have q27 : ((ji24) : Int) < ((x12_1.length : Int) : Int) := of_decide_eq_true (by first | (with_reducible assumption) | assumption)
                  obtain ⟨go27, co27, eo27, gb27, gl27, cl27, HG27⟩ := Kd.R_form HO_12.out (by omega)
                  (first | cases eo27 | (injection eo27 with ea_ en_ ec_; (first | subst ea_ | (injection ea_ with ea_; subst ea_)); subst ec_; clear en_))
                  have GB27 := Aside0.mk gb27
                  have GG27 := Aside0.mk HG27
                  clear gb27 gl27 HG27
                  obtain ⟨hx27_0, hf27_0⟩ := Kd.R_celln 0 HO_12.out ((ji24) : Int) p27 q27
                  replace p27 := eq_true p27
                  replace q27 := eq_true q27
                  have HP28 := Kd.R_putg HO_12.out ((ji24) : Int) ((ji23) % 256)
                  go_wp2_with (first | ((with_reducible refine gate_store (t := 5) (p := 41) rfl ?_); refine store_event (t := 5) (p := 41) (v := ?vo_w29) (w1 := (wr.setCell ⟨go27, ((ji24) : Int).toNat, none⟩ (.int .u8 ((ji23) % 256)))) ?hg ?ho ?hn ?hr ?_; (case ho => rfl); (case hg => rfl); (case hn => rfl); (case hr => first | (go_simp; done) | (go_simp; rfl)); intro w29 hw; have hg : wr.grownBy w29 (some go27) := (by rw [hw]; exact HP28.2); have hp_ : Kd.R (Kd.int .u8) 5 w29 w.heap.size (fun _ => True) (.slice (some ⟨go27, 0, none⟩) x12_1.length co27) y251 := (by rw [hw, Ny251.out]; exact HP28.1); clear HP28; have n0_ := Aside0.mk (hp_); have n1_ := Aside0.mk ((by rw [hw]; exact below_set (HB.out) GB27.out : Below w.heap.size w w29)); clear HO_12; clear HB; have HO_12 := n0_; have HB := n1_; clear n0_ n1_; clear hg hw hp_))
                  go_roundg k1
                  case measure => have := HK1.out; omega
                  case rel => exact ⟨(y251), (wrap64 (x23_1 + 1)), (by first | rfl | (simp; done) | (simp [*]; done)), H', ⟨by have := HK1.out; omega⟩, ⟨by (with_reducible repeat (first | apply Kd.R_alloc | apply Kd.R_drewN | apply Kd.R_drew)); exact HO_12.out⟩, ⟨by repeat (first | (with_reducible first | exact HB.out | apply below_alloc | apply pw_below_drewN | apply below_drew1) | exact HB.out)⟩⟩
                · rw [if_neg c26] at H
                  exact absurd H (by simp)
              · rw [if_neg c25] at H
                exact absurd H (by simp)
            · rw [if_neg c22] at H
              exact absurd H (by simp)
        · rw [if_neg c10] at H
          have c10b0 : decide (x23_1 < a2) = false := decide_eq_false c10
          clear c10
          simp only [Option.some.injEq, Prod.mk.injEq] at H
          obtain ⟨rfl, rfl⟩ := H
          go_wp2
          go_ret2
          exact ⟨_, by first | rfl | (simp [errW_none, errW_some] <;> rfl) | (simp [*, errW_none, errW_some] <;> rfl), by (with_reducible repeat (first | apply Kd.R_alloc | apply Kd.R_drewN | apply Kd.R_drew)); exact HO_12.out, by repeat (first | (with_reducible first | exact HB.out | apply below_alloc | apply pw_below_drewN | apply below_drew1) | exact HB.out)⟩
  · replace c7 := Bool.eq_false_iff.mpr c7
    subst c7
    have H1 : (some (([] : List Int), false)) = some (r1, r2) := by rw [if_neg (show ¬ (false = true) by decide)] at H; exact H
    clear H
    have H := H1
    clear H1
    simp only [Option.some.injEq, Prod.mk.injEq] at H
    obtain ⟨rfl, rfl⟩ := H
    go_enter Try.func34, Try.ntmps34
    go_wp2_with (first | ((with_reducible refine gate_callee (f := 45) rfl ?_); refine goesL_ (some 18) rfl rfl Try.func45 (by kernel_rfl) rfl #[.slice A0 l0.length c0, .int .i64 a1, .int .i64 a2] rfl (by (try simp only [List.map_toArray, List.map_cons, List.map_nil]); first | done | rfl | (simp only [List.length_drop, List.length_take]; rfl)) ?_; (with_reducible refine (bits_may.calls _ _ l0 a1 a2 false _ ?side1 ?side2 A6.out).mono ?_); (case side1 => repeat (first | exact HR0.out | (with_reducible refine Kd.C_alloc ?_ _) | (with_reducible refine Kd.C_drewN ?_ _) | (with_reducible refine Kd.C_drew ?_))); (case side2 => exact HC0.out); rintro e w' ⟨rfl, ⟨nd, rfl⟩⟩; refine ⟨_, rfl, ?_⟩))
    go_ret2
    exact ⟨_, by first | rfl | (simp [errW_none, errW_some] <;> rfl) | (simp [*, errW_none, errW_some] <;> rfl), by first | exact Kd.R_nil _ _ _ _ _ | exact Kd.N_nil _ _ _ _ _ | exact Kd.V_nil _ _ _ _ _ | exact Kd.Q_nil _ _ _ _ _ | exact Kd.S_nil _ _ _ _ _, by repeat (first | (with_reducible first | exact HB.out | apply below_alloc | apply pw_below_drewN | apply below_drew1) | exact HB.out)⟩

end Go.Proofs.Ytlpbgknpgogaaaa.PBits
