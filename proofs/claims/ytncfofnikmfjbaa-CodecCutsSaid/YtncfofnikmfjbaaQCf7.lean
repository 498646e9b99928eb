-- written by a program of this session (wip/tools/pr.py, over the kit's printer): not by hand
import Derived.Test.YtncfofnikmfjbaaQPCix7
import Derived.Test.YtncfofnikmfjbaaQPCix2
import Derived.Laws.BitsAllLaws
import Derived.RowKit
import Derived.Test.YtncfofnikmfjbaaQWMore
import Derived.Outline
import Derived.StillTailTactics
import Derived.RegionTactic
import Derived.BigRegion
import Derived.Lib.BufferWrite
namespace Go.Proofs.Ytncfofnikmfjbaa.PCi
open Go.RowKit Go.Proofs.YtncfofnikmfjbaaW.PrintWords Go.Proofs.YtncfofnikmfjbaaW.PrintLast Go.Proofs.YtncfofnikmfjbaaW.PrintMore
attribute [local go_sem] max2_int min2_int max_two min_two max_three min_three max_four min_four   -- for this text's walks alone
set_option linter.unusedVariables false
set_option linter.unusedSimpArgs false

attribute [local go_sem high] eqA98
-- NOT PRINTED: function 27 (codec_fields)

/-! ### bits_may: function 76 -/
def bits_may.f (l0 : List Int) (a1 : Int) (a2 : Int) : Option (Bool) := if a2 ≥ 1 then (if a2 ≤ 8 then (if a1 ≥ 0 then (some (decide (a1 ≤ (wrap64 ((l0.length : Int) - a2))))) else (some false)) else (some false)) else (some false)
set_option maxHeartbeats 8000000 in
set_option maxRecDepth 100000 in
theorem bits_may.calls (A0 : Option Addr) (c0 : Nat) (l0 : List Int) (a1 : Int) (a2 : Int) (r : Bool) (w : World) (hr0 : Kd.C (Kd.int .u8) w A0 l0.length l0) (hc0 : l0.length ≤ c0) (h : bits_may.f l0 a1 a2 = some r) :
    Calls Try.prog 76 #[.slice A0 l0.length c0, .int .i64 a1, .int .i64 a2] w fun e w' => e = .returned (.bool r) ∧ Drawn0 w w' := by
  have HR0 := Aside0.mk hr0
  have HC0 := Aside0.mk hc0
  clear hr0 hc0
  have H : (if a2 ≥ 1 then (if a2 ≤ 8 then (if a1 ≥ 0 then (some (decide (a1 ≤ (wrap64 ((l0.length : Int) - a2))))) else (some false)) else (some false)) else (some false)) = some r := h
  clear h
  by_cases c4 : a2 ≥ 1
  · rw [if_pos c4] at H
    have c4b0 : decide (1 ≤ a2) = true := decide_eq_true c4
    clear c4
    by_cases c5 : a2 ≤ 8
    · rw [if_pos c5] at H
      have c5b0 : decide (a2 ≤ 8) = true := decide_eq_true c5
      clear c5
      by_cases c6 : a1 ≥ 0
      · rw [if_pos c6] at H
        have c6b0 : decide (0 ≤ a1) = true := decide_eq_true c6
        clear c6
        obtain rfl := Option.some.inj H
        go_enter Try.func76, Try.ntmps76
        go_wp2
        go_ret
        exact ⟨by first | rfl | (simp; done) | (simp [*]; done) | exact congrArg Value.bool (ne_empty _) | exact congrArg Value.bool (eq_empty _), by repeat (first | exact Drawn0.refl _ | apply Drawn0.step)⟩
      · rw [if_neg c6] at H
        have c6b0 : decide (0 ≤ a1) = false := decide_eq_false c6
        clear c6
        obtain rfl := Option.some.inj H
        go_enter Try.func76, Try.ntmps76
        go_wp2
        go_ret
        exact ⟨by first | rfl | (simp; done) | (simp [*]; done) | exact congrArg Value.bool (ne_empty _) | exact congrArg Value.bool (eq_empty _), by repeat (first | exact Drawn0.refl _ | apply Drawn0.step)⟩
    · rw [if_neg c5] at H
      have c5b0 : decide (a2 ≤ 8) = false := decide_eq_false c5
      clear c5
      obtain rfl := Option.some.inj H
      go_enter Try.func76, Try.ntmps76
      go_wp2
      go_ret
      exact ⟨by first | rfl | (simp; done) | (simp [*]; done) | exact congrArg Value.bool (ne_empty _) | exact congrArg Value.bool (eq_empty _), by repeat (first | exact Drawn0.refl _ | apply Drawn0.step)⟩
  · rw [if_neg c4] at H
    have c4b0 : decide (1 ≤ a2) = false := decide_eq_false c4
    clear c4
    obtain rfl := Option.some.inj H
    go_enter Try.func76, Try.ntmps76
    go_wp2
    go_ret
    exact ⟨by first | rfl | (simp; done) | (simp [*]; done) | exact congrArg Value.bool (ne_empty _) | exact congrArg Value.bool (eq_empty _), by repeat (first | exact Drawn0.refl _ | apply Drawn0.step)⟩

/-! ### bits_Get: function 62 -/
def bits_Get.l0 : Nat → List Int → Int → Int → Bool → Int → Int → Int → Option (Int × Bool)
  | 0, _, _, _, _, _, _, _ => none
  | k + 1, x0, x1, x2, x3, x8, x17, x18 => if x18 < x17 then (if x3 = true then (if 0 ≤ (wrap64 (x1 + x18)) then (if (wrap64 (x1 + x18)) < (x0.length : Int) then (bits_Get.l0 k x0 x1 x2 x3 (Go.bits .or .u64 (IntKind.u64.wrap (x8 * 256)) (IntKind.u64.wrap (rd x0 (wrap64 (x1 + x18))))) x17 (wrap64 (x18 + 1))) else (none)) else (none)) else (if 0 ≤ (wrap64 (x1 + (wrap64 ((wrap64 (x2 - 1)) - x18)))) then (if (wrap64 (x1 + (wrap64 ((wrap64 (x2 - 1)) - x18)))) < (x0.length : Int) then (bits_Get.l0 k x0 x1 x2 x3 (Go.bits .or .u64 (IntKind.u64.wrap (x8 * 256)) (IntKind.u64.wrap (rd x0 (wrap64 (x1 + (wrap64 ((wrap64 (x2 - 1)) - x18))))))) x17 (wrap64 (x18 + 1))) else (none)) else (none))) else (some (x8, true))
def bits_Get.f (k : Nat) (l0 : List Int) (a1 : Int) (a2 : Int) (a3 : Bool) : Option (Int × Bool) := (bits_may.f l0 a1 a2).bind fun t101 => (if t101 = true then (bits_Get.l0 k l0 a1 a2 a3 0 a2 0) else (some (0, false)))
set_option maxRecDepth 100000 in
theorem bits_Get.mono_l : ∀ k, (∀ y0 y1 y2 y3 y4 y5 y6, LeO (bits_Get.l0 k y0 y1 y2 y3 y4 y5 y6) (bits_Get.l0 (k + 1) y0 y1 y2 y3 y4 y5 y6))
  | 0 => fun _ _ _ _ _ _ _ r h => by first | exact nomatch (show (none : Option _) = some r from h) | (rw [bits_Get.l0] at h; cases h; done) | (simp [bits_Get.l0] at h; done)
  | k + 1 => by
    have ih0 := bits_Get.mono_l k
    · intro y0 y1 y2 y3 y4 y5 y6
      unfold bits_Get.l0
      repeat' first
      | (with_reducible exact ih0 _ _ _ _ _ _ _)
      | (with_reducible exact LeO.refl _)
      | (with_reducible exact LeO.none _)
      | (with_reducible refine LeO.ite ?_ ?_)
      | (with_reducible refine LeO.bind ?_ (fun _ => ?_))
      | exact ih0 _ _ _ _ _ _ _
      | exact LeO.none _
      | refine LeO.ite ?_ ?_
      | refine LeO.bind ?_ (fun _ => ?_)
theorem bits_Get.mono : ∀ a0 a1 a2 a3 k, LeO (bits_Get.f k a0 a1 a2 a3) (bits_Get.f (k + 1) a0 a1 a2 a3) := by
  intro a0 a1 a2 a3 k
  have ih0 := bits_Get.mono_l k
  unfold bits_Get.f
  repeat' first
      | (with_reducible exact ih0 _ _ _ _ _ _ _)
      | (with_reducible exact LeO.refl _)
      | (with_reducible exact LeO.none _)
      | (with_reducible refine LeO.ite ?_ ?_)
      | (with_reducible refine LeO.bind ?_ (fun _ => ?_))
      | exact ih0 _ _ _ _ _ _ _
      | exact LeO.none _
      | refine LeO.ite ?_ ?_
      | refine LeO.bind ?_ (fun _ => ?_)
set_option maxHeartbeats 8000000 in
set_option maxRecDepth 100000 in
theorem bits_Get.calls (k : Nat) (A0 : Option Addr) (c0 : Nat) (l0 : List Int) (a1 : Int) (a2 : Int) (a3 : Bool) (r1 : Int) (r2 : Bool) (w : World) (hr0 : Kd.C (Kd.int .u8) w A0 l0.length l0) (hc0 : l0.length ≤ c0) (h : bits_Get.f k l0 a1 a2 a3 = some (r1, r2)) :
    Calls Try.prog 62 #[.slice A0 l0.length c0, .int .i64 a1, .int .i64 a2, .bool a3] w fun e w' => e = .returned (.tuple #[.int .u64 r1, .bool r2]) ∧ Drawn0 w w' := by
  have HR0 := Aside0.mk hr0
  have HC0 := Aside0.mk hc0
  clear hr0 hc0
  have H : ((bits_may.f l0 a1 a2).bind fun t101 => (if t101 = true then (bits_Get.l0 k l0 a1 a2 a3 0 a2 0) else (some (0, false)))) = some (r1, r2) := h
  clear h
  replace H := Option.bind_eq_some_iff.mp H
  obtain ⟨t101, A50, H⟩ := H
  replace H : (if t101 = true then (bits_Get.l0 k l0 a1 a2 a3 0 a2 0) else (some (0, false))) = some (r1, r2) := H
  have A5 := Aside0.mk A50
  clear A50
  by_cases c6 : t101 = true
  · subst c6
    have H1 : (bits_Get.l0 k l0 a1 a2 a3 0 a2 0) = some (r1, r2) := by rw [if_pos rfl] at H; exact H
    clear H
    have H := H1
    clear H1
    have H' := Aside0.mk H
    clear H
    go_enter Try.func62, Try.ntmps62
    go_wp2_with (first | ((with_reducible refine gate_callee (f := 76) rfl ?_); refine goesL_ (some 15) rfl rfl Try.func76 (by kernel_rfl) rfl #[.slice A0 l0.length c0, .int .i64 a1, .int .i64 a2] rfl (by (try simp only [List.map_toArray, List.map_cons, List.map_nil]); first | done | rfl | (simp only [List.length_drop, List.length_take]; rfl)) ?_; (with_reducible refine (bits_may.calls _ _ l0 a1 a2 true _ ?side1 ?side2 A5.out).mono ?_); (case side1 => repeat (first | exact HR0.out | (with_reducible refine Kd.C_alloc ?_ _) | (with_reducible refine Kd.C_drewN ?_ _) | (with_reducible refine Kd.C_drew ?_))); (case side2 => exact HC0.out); rintro e w' ⟨rfl, ⟨nd, rfl⟩⟩; refine ⟨_, rfl, ?_⟩))
    go_loopg [8, 18] k (fun kq v8 v18 w' => ∃ (x8_1 : Int) (x18_1 : Int), v8 = .int .u64 x8_1 ∧ v18 = .int .i64 x18_1 ∧ Aside0 (bits_Get.l0 kq l0 a1 a2 a3 x8_1 a2 x18_1 = some (r1, r2)) ∧ Aside0 (kq ≤ k) ∧ Drawn0 w w')
    case atStart => exact ⟨(0), (0), (by first | rfl | (simp; done) | (simp [*]; done) | exact congrArg Value.bool (ne_empty _) | exact congrArg Value.bool (eq_empty _)), (by first | rfl | (simp; done) | (simp [*]; done) | exact congrArg Value.bool (ne_empty _) | exact congrArg Value.bool (eq_empty _)), H', ⟨Nat.le_refl _⟩, by repeat (first | exact Drawn0.refl _ | apply Drawn0.step)⟩
    case round =>
      clear H'
      try clear p2
      try clear c6
      obtain ⟨x8_1, x18_1, rfl, rfl, HA, HK1, ⟨m1, rfl⟩⟩ := hrel
      cases gk with
      | zero => exact absurd HA.out (by first | (intro h_; exact nomatch (show (none : Option _) = some r from h_)) | simp [bits_Get.l0])
      | succ k1 =>
        have H := HA.out
        clear HA
        simp only [bits_Get.l0] at H
        by_cases c7 : x18_1 < a2
        · rw [if_pos c7] at H
          have c7b0 : decide (x18_1 < a2) = true := decide_eq_true c7
          clear c7
          by_cases c8 : a3 = true
          · subst c8
            have H1 : (if 0 ≤ (wrap64 (a1 + x18_1)) then (if (wrap64 (a1 + x18_1)) < (l0.length : Int) then (bits_Get.l0 k1 l0 a1 a2 true (Go.bits .or .u64 (IntKind.u64.wrap (x8_1 * 256)) (IntKind.u64.wrap (rd l0 (wrap64 (a1 + x18_1))))) a2 (wrap64 (x18_1 + 1))) else (none)) else (none)) = some (r1, r2) := by rw [if_pos rfl] at H; exact H
            clear H
            have H := H1
            clear H1
            obtain ⟨ji9, hji9⟩ : ∃ j_ : Int, (wrap64 (a1 + x18_1)) = j_ := ⟨_, rfl⟩
            replace H : (if 0 ≤ (ji9) then (if (ji9) < (l0.length : Int) then (bits_Get.l0 k1 l0 a1 a2 true (Go.bits .or .u64 (IntKind.u64.wrap (x8_1 * 256)) (IntKind.u64.wrap (rd l0 (ji9)))) a2 (wrap64 (x18_1 + 1))) else (none)) else (none)) = some (r1, r2) := by first | (rw [hji9] at H; exact H) | (simp only [hji9] at H ⊢; exact H)
            have hji9w : (IntKind.i64.wrap (a1 + x18_1)) = ji9 := (i64_w _).trans hji9
            by_cases c10 : 0 ≤ (ji9)
            · rw [if_pos c10] at H
              have c10b0 : decide (0 ≤ (ji9)) = true := decide_eq_true c10
              clear c10
              by_cases c11 : (ji9) < (l0.length : Int)
              · rw [if_pos c11] at H
                have c11b0 : decide ((ji9) < (l0.length : Int)) = true := decide_eq_true c11
                clear c11
                have H' := Aside0.mk H
                clear H
                have p102 : 0 ≤ ((ji9) : Int) := of_decide_eq_true (by first | (with_reducible assumption) | assumption)
                have q102 : (ji9) < (l0.length : Int) := of_decide_eq_true (by first | (with_reducible assumption) | assumption)
                obtain ⟨ad102, e102, hx102_0⟩ := Kd.at_int HR0.out (ji9) p102 q102
                cases e102
                replace p102 := eq_true p102
                replace q102 := eq_true q102
                go_wp2
                go_roundg k1
                case measure => have := HK1.out; omega
                case rel => exact ⟨(Go.bits .or .u64 (IntKind.u64.wrap (x8_1 * 256)) (IntKind.u64.wrap (rd l0 (ji9)))), (wrap64 (x18_1 + 1)), (by first | rfl | (simp; done) | (simp only [← hji9] <;> (first | rfl | simp)) | (simp [*]; done)), (by first | rfl | (simp; done) | (simp [*]; done) | exact congrArg Value.bool (ne_empty _) | exact congrArg Value.bool (eq_empty _)), H', ⟨by have := HK1.out; omega⟩, by repeat (first | exact Drawn0.refl _ | apply Drawn0.step)⟩
              · rw [if_neg c11] at H
                exact absurd H (by simp)
            · rw [if_neg c10] at H
              exact absurd H (by simp)
          · replace c8 := Bool.eq_false_iff.mpr c8
            subst c8
            have H1 : (if 0 ≤ (wrap64 (a1 + (wrap64 ((wrap64 (a2 - 1)) - x18_1)))) then (if (wrap64 (a1 + (wrap64 ((wrap64 (a2 - 1)) - x18_1)))) < (l0.length : Int) then (bits_Get.l0 k1 l0 a1 a2 false (Go.bits .or .u64 (IntKind.u64.wrap (x8_1 * 256)) (IntKind.u64.wrap (rd l0 (wrap64 (a1 + (wrap64 ((wrap64 (a2 - 1)) - x18_1))))))) a2 (wrap64 (x18_1 + 1))) else (none)) else (none)) = some (r1, r2) := by rw [if_neg (show ¬ (false = true) by decide)] at H; exact H
            clear H
            have H := H1
            clear H1
            obtain ⟨ji12, hji12⟩ : ∃ j_ : Int, (wrap64 (a1 + (wrap64 ((wrap64 (a2 - 1)) - x18_1)))) = j_ := ⟨_, rfl⟩
            replace H : (if 0 ≤ (ji12) then (if (ji12) < (l0.length : Int) then (bits_Get.l0 k1 l0 a1 a2 false (Go.bits .or .u64 (IntKind.u64.wrap (x8_1 * 256)) (IntKind.u64.wrap (rd l0 (ji12)))) a2 (wrap64 (x18_1 + 1))) else (none)) else (none)) = some (r1, r2) := by first | (rw [hji12] at H; exact H) | (simp only [hji12] at H ⊢; exact H)
            have hji12w : (IntKind.i64.wrap (a1 + (wrap64 ((wrap64 (a2 - 1)) - x18_1)))) = ji12 := (i64_w _).trans hji12
            by_cases c13 : 0 ≤ (ji12)
            · rw [if_pos c13] at H
              have c13b0 : decide (0 ≤ (ji12)) = true := decide_eq_true c13
              clear c13
              by_cases c14 : (ji12) < (l0.length : Int)
              · rw [if_pos c14] at H
                have c14b0 : decide ((ji12) < (l0.length : Int)) = true := decide_eq_true c14
                clear c14
                have H' := Aside0.mk H
                clear H
                have p103 : 0 ≤ ((ji12) : Int) := of_decide_eq_true (by first | (with_reducible assumption) | assumption)
                have q103 : (ji12) < (l0.length : Int) := of_decide_eq_true (by first | (with_reducible assumption) | assumption)
                obtain ⟨ad103, e103, hx103_0⟩ := Kd.at_int HR0.out (ji12) p103 q103
                cases e103
                replace p103 := eq_true p103
                replace q103 := eq_true q103
                go_wp2
                go_roundg k1
                case measure => have := HK1.out; omega
                case rel => exact ⟨(Go.bits .or .u64 (IntKind.u64.wrap (x8_1 * 256)) (IntKind.u64.wrap (rd l0 (ji12)))), (wrap64 (x18_1 + 1)), (by first | rfl | (simp; done) | (simp only [← hji12] <;> (first | rfl | simp)) | (simp [*]; done)), (by first | rfl | (simp; done) | (simp [*]; done) | exact congrArg Value.bool (ne_empty _) | exact congrArg Value.bool (eq_empty _)), H', ⟨by have := HK1.out; omega⟩, by repeat (first | exact Drawn0.refl _ | apply Drawn0.step)⟩
              · rw [if_neg c14] at H
                exact absurd H (by simp)
            · rw [if_neg c13] at H
              exact absurd H (by simp)
        · rw [if_neg c7] at H
          have c7b0 : decide (x18_1 < a2) = false := decide_eq_false c7
          clear c7
          simp only [Option.some.injEq, Prod.mk.injEq] at H
          obtain ⟨rfl, rfl⟩ := H
          go_wp2
          go_ret2
          exact ⟨by first | rfl | (simp; done) | (simp [*]; done) | exact congrArg Value.bool (ne_empty _) | exact congrArg Value.bool (eq_empty _), by repeat (first | exact Drawn0.refl _ | apply Drawn0.step)⟩
  · replace c6 := Bool.eq_false_iff.mpr c6
    subst c6
    have H1 : (some (0, false)) = some (r1, r2) := by rw [if_neg (show ¬ (false = true) by decide)] at H; exact H
    clear H
    have H := H1
    clear H1
    simp only [Option.some.injEq, Prod.mk.injEq] at H
    obtain ⟨rfl, rfl⟩ := H
    go_enter Try.func62, Try.ntmps62
    go_wp2_with (first | ((with_reducible refine gate_callee (f := 76) rfl ?_); refine goesL_ (some 15) rfl rfl Try.func76 (by kernel_rfl) rfl #[.slice A0 l0.length c0, .int .i64 a1, .int .i64 a2] rfl (by (try simp only [List.map_toArray, List.map_cons, List.map_nil]); first | done | rfl | (simp only [List.length_drop, List.length_take]; rfl)) ?_; (with_reducible refine (bits_may.calls _ _ l0 a1 a2 false _ ?side1 ?side2 A5.out).mono ?_); (case side1 => repeat (first | exact HR0.out | (with_reducible refine Kd.C_alloc ?_ _) | (with_reducible refine Kd.C_drewN ?_ _) | (with_reducible refine Kd.C_drew ?_))); (case side2 => exact HC0.out); rintro e w' ⟨rfl, ⟨nd, rfl⟩⟩; refine ⟨_, rfl, ?_⟩))
    go_ret2
    exact ⟨by first | rfl | (simp; done) | (simp [*]; done) | exact congrArg Value.bool (ne_empty _) | exact congrArg Value.bool (eq_empty _), by repeat (first | exact Drawn0.refl _ | apply Drawn0.step)⟩

-- NOT PRINTED: function 63 (codec_reader_bytes)

-- NOT PRINTED: function 36 (codec_reader_number)

-- NOT PRINTED: function 45 (codec_message_text)

-- NOT PRINTED: function 53 (codec_message_int)

-- NOT PRINTED: function 64 (codec_reader_text)

-- NOT PRINTED: function 65 (api_Record_65)

-- NOT PRINTED: function 67 (codec_all_string)

-- NOT PRINTED: function 68 (codec_all_int)

-- NOT PRINTED: function 70 (api_Batch_70)

-- NOT PRINTED: function 37 (codec_reader_field)

-- NOT PRINTED: function 16 (codec_ParseRequest)

theorem nil_of_C {α : Type} {d : Kd α} {w : World} {xs : List α} (h : d.C w none xs.length xs) : xs = [] := by
  cases xs with
  | nil => rfl
  | cons x xs => obtain ⟨ad, e, _⟩ := h.2.2 (by simp); cases e
/-! ### slices_Clone_byte_byte: function 77 -/
def slices_Clone_byte_byte.f (l0 : List Int) : Option (List Int) := (some (([] : List Int) : List Int)).bind fun y107 => (if y107.length + l0.length < 140737488355328 then (some (y107 ++ l0)) else (none))
set_option maxHeartbeats 8000000 in
set_option maxRecDepth 100000 in
theorem slices_Clone_byte_byte.calls (A0 : Option Addr) (c0 : Nat) (l0 : List Int) (r : List Int) (w : World) (hr0 : Kd.C (Kd.int .u8) w A0 l0.length l0) (hc0 : l0.length ≤ c0) (h : slices_Clone_byte_byte.f l0 = some r) :
    Calls Try.prog 77 #[.slice A0 l0.length c0] w fun e w' => ∃ v0_ : Value, e = .returned (v0_) ∧ Kd.R (Kd.int .u8) 5 w' w.heap.size (fun _ => True) v0_ r ∧ Below w.heap.size w w' := by
  have HR0 := Aside0.mk hr0
  have HC0 := Aside0.mk hc0
  clear hr0 hc0
  have HB := Aside0.mk (Below.refl w.heap.size w)
  have H : ((some (([] : List Int) : List Int)).bind fun y107 => (if y107.length + l0.length < 140737488355328 then (some (y107 ++ l0)) else (none))) = some r := h
  clear h
  obtain ⟨y107, hy107⟩ : ∃ y_ : List Int, y_ = (([] : List Int)) := ⟨_, rfl⟩
  replace H : (if y107.length + l0.length < 140737488355328 then (some (y107 ++ l0)) else (none)) = some r := by first | (rw [hy107]; with_reducible exact H) | (have H2_ := (Option.bind_some _ _).symm.trans H; rw [hy107]; with_reducible exact H2_) | (have H2_ := (Option.bind_some _ _).symm.trans H; with_reducible exact H2_) | with_reducible exact H | (rw [hy107]; exact H) | exact H
  have Ny107 := Aside0.mk hy107
  clear hy107
  by_cases c2 : y107.length + l0.length < 140737488355328
  · rw [if_pos c2] at H
    have LMc2 := Aside0.mk c2
    clear c2
    obtain ⟨y110, hy110⟩ : ∃ y_ : List Int, y_ = (y107 ++ l0) := ⟨_, rfl⟩
    replace H : (some y110) = some r := by first | (rw [hy110]; with_reducible exact H) | (have H2_ := (Option.bind_some _ _).symm.trans H; rw [hy110]; with_reducible exact H2_) | (have H2_ := (Option.bind_some _ _).symm.trans H; with_reducible exact H2_) | with_reducible exact H | (rw [hy110]; exact H) | exact H
    have Ny110 := Aside0.mk hy110
    clear hy110
    obtain rfl := Option.some.inj H
    have kn := fun (w : World) (a : Option Addr) (l c : Nat) => Go.run_eql_slice_nil (P := Try.prog) w 29 5 a l c Try.underlying29
    rcases A0 with _ | ad
    · have hl := nil_of_C HR0.out
      have e0 : y110 = [] := by rw [Ny110.out, Ny107.out, hl]; rfl
      have E0 := Aside0.mk e0
      clear e0 hl
      go_enter Try.func77, Try.ntmps77
      go_wp2
      go_ret
      exact ⟨_, rfl, by rw [E0.out]; exact Kd.R_nil _ _ _ _ _, by repeat (first | (with_reducible first | exact HB.out | apply below_alloc | apply pw_below_drewN | apply below_drew1) | exact HB.out)⟩
    · go_enter Try.func77, Try.ntmps77
      go_wp2_with (first | ((with_reducible refine gate_dst (N := 5) rfl ?_); refine Kd.R_lit (Kd.int .u8) _ 5 ?hg (N := 5) ?hd (xs := ([] : List Int)) (inner := []) (ok := fun _ => True) (okp := fun _ => True) ?hr ?hp (fun _ hk => hk) trivial (Below.refl _ _) (Nat.le_refl _) (by simp) ?_; (case hd => rfl); (case hg => rfl); (case hr => first | (go_simp; done) | (go_simp; rfl)); (case hp => exact (Reps.none _ _)); intro v108 w3 ho4 hb hg_ hnew_; clear hg_ hnew_; (first | rw [← Ny107.out] at ho4 | (simp only [Int.reduceToNat] at ho4; rw [← Ny107.out] at ho4)); have n0_ := Aside0.mk (Kd.R_lower ho4 (below_size (by repeat (first | (with_reducible first | exact HB.out | apply below_alloc | apply pw_below_drewN | apply below_drew1) | exact HB.out)))); have n1_ := Aside0.mk (below_step (by repeat (first | (with_reducible first | exact HB.out | apply below_alloc | apply pw_below_drewN | apply below_drew1) | exact HB.out)) hb); clear HB; have HO109 := n0_; have HB := n1_; clear n0_ n1_; clear hb ho4) | ((with_reducible refine gate_builtin (b := .append) (xs := #[.tmp 5, .tmp 6]) rfl ?_); at_builtin; refine Kd.R_append_rows (Kd.int .u8) (w0 := w) w.heap.size rfl (.tmp 5) (.tmp 6) 29 5 (.int .u8 0) 1 rfl Try.underlying29 info5 rfl (by decide) (by omega) v108 y107 l0 _ _ _ (fun _ => True) (fun _ => False) rfl rfl ?aO ?aR (fun _ _ h => h) (fun _ h => h.elim) ?aF ?aB ?aS ?aL ?_; (case aR => repeat (first | exact (Kd.C_below HR0.out HB.out) | (with_reducible refine Kd.C_alloc ?_ _) | (with_reducible refine Kd.C_drewN ?_ _) | (with_reducible refine Kd.C_drew ?_))); (case aB => exact (by repeat (first | (with_reducible first | exact HB.out | apply below_alloc | apply pw_below_drewN | apply below_drew1) | exact HB.out))); (case aF => exact (fun _ _ => trivial)); (case aO => exact (by (with_reducible repeat (first | apply Kd.R_alloc | apply Kd.R_drewN | apply Kd.R_drew)); exact HO109.out)); (case aS => exact (below_size (by repeat (first | (with_reducible first | exact HB.out | apply below_alloc | apply pw_below_drewN | apply below_drew1) | exact HB.out)))); (case aL => have := LMc2.out; omega); intro v111 w5 ho hb hg hat; rw [← Ny110.out] at ho; have n0_ := Aside0.mk (hb); have n1_ := Aside0.mk (ho); clear HB; clear HO109; have HB := n0_; have HO112 := n1_; clear n0_ n1_; clear ho hb hg hat))
      go_ret
      exact ⟨_, by first | rfl | (simp [errW_none, errW_some] <;> rfl) | (simp [*, errW_none, errW_some] <;> rfl), by (with_reducible repeat (first | apply Kd.R_alloc | apply Kd.R_drewN | apply Kd.R_drew)); exact HO112.out, by repeat (first | (with_reducible first | exact HB.out | apply below_alloc | apply pw_below_drewN | apply below_drew1) | exact HB.out)⟩
  · rw [if_neg c2] at H
    exact absurd H (by simp)

/-! ### bits_Put: function 43 -/
def bits_Put.l0 : Nat → Int → Int → Bool → Int → List Int → Int → Int → Option (List Int × Bool)
  | 0, _, _, _, _, _, _, _ => none
  | k + 1, x1, x2, x3, x4, x12, x22, x23 => if x23 < x22 then (if x3 = true then (if 0 ≤ (wrap64 (8 * x23)) then (if 0 ≤ (wrap64 (x1 + (wrap64 ((wrap64 (x2 - 1)) - x23)))) then (if (wrap64 (x1 + (wrap64 ((wrap64 (x2 - 1)) - x23)))) < (x12.length : Int) then (bits_Put.l0 k x1 x2 x3 x4 (x12.set ((wrap64 (x1 + (wrap64 ((wrap64 (x2 - 1)) - x23)))) : Int).toNat ((shr .u64 x4 (wrap64 (8 * x23))) % 256)) x22 (wrap64 (x23 + 1))) else (none)) else (none)) else (none)) else (if 0 ≤ (wrap64 (8 * x23)) then (if 0 ≤ (wrap64 (x1 + x23)) then (if (wrap64 (x1 + x23)) < (x12.length : Int) then (bits_Put.l0 k x1 x2 x3 x4 (x12.set ((wrap64 (x1 + x23)) : Int).toNat ((shr .u64 x4 (wrap64 (8 * x23))) % 256)) x22 (wrap64 (x23 + 1))) else (none)) else (none)) else (none))) else (some (x12, true))
def bits_Put.f (k : Nat) (l0 : List Int) (a1 : Int) (a2 : Int) (a3 : Bool) (a4 : Int) : Option (List Int × Bool) := (bits_may.f l0 a1 a2).bind fun t113 => (if t113 = true then ((slices_Clone_byte_byte.f l0).bind fun t114 => (bits_Put.l0 k a1 a2 a3 a4 t114 a2 0)) else (some (([] : List Int), false)))
set_option maxRecDepth 100000 in
theorem bits_Put.mono_l : ∀ k, (∀ y0 y1 y2 y3 y4 y5 y6, LeO (bits_Put.l0 k y0 y1 y2 y3 y4 y5 y6) (bits_Put.l0 (k + 1) y0 y1 y2 y3 y4 y5 y6))
  | 0 => fun _ _ _ _ _ _ _ r h => by first | exact nomatch (show (none : Option _) = some r from h) | (rw [bits_Put.l0] at h; cases h; done) | (simp [bits_Put.l0] at h; done)
  | k + 1 => by
    have ih0 := bits_Put.mono_l k
    · intro y0 y1 y2 y3 y4 y5 y6
      unfold bits_Put.l0
      repeat' first
      | (with_reducible exact ih0 _ _ _ _ _ _ _)
      | (with_reducible exact LeO.refl _)
      | (with_reducible exact LeO.none _)
      | (with_reducible refine LeO.ite ?_ ?_)
      | (with_reducible refine LeO.bind ?_ (fun _ => ?_))
      | exact ih0 _ _ _ _ _ _ _
      | exact LeO.none _
      | refine LeO.ite ?_ ?_
      | refine LeO.bind ?_ (fun _ => ?_)
theorem bits_Put.mono : ∀ a0 a1 a2 a3 a4 k, LeO (bits_Put.f k a0 a1 a2 a3 a4) (bits_Put.f (k + 1) a0 a1 a2 a3 a4) := by
  intro a0 a1 a2 a3 a4 k
  have ih0 := bits_Put.mono_l k
  unfold bits_Put.f
  repeat' first
      | (with_reducible exact ih0 _ _ _ _ _ _ _)
      | (with_reducible exact LeO.refl _)
      | (with_reducible exact LeO.none _)
      | (with_reducible refine LeO.ite ?_ ?_)
      | (with_reducible refine LeO.bind ?_ (fun _ => ?_))
      | exact ih0 _ _ _ _ _ _ _
      | exact LeO.none _
      | refine LeO.ite ?_ ?_
      | refine LeO.bind ?_ (fun _ => ?_)
set_option maxHeartbeats 8000000 in
set_option maxRecDepth 100000 in
theorem bits_Put.calls (k : Nat) (A0 : Option Addr) (c0 : Nat) (l0 : List Int) (a1 : Int) (a2 : Int) (a3 : Bool) (a4 : Int) (r1 : List Int) (r2 : Bool) (w : World) (hr0 : Kd.C (Kd.int .u8) w A0 l0.length l0) (hc0 : l0.length ≤ c0) (h : bits_Put.f k l0 a1 a2 a3 a4 = some (r1, r2)) :
    Calls Try.prog 43 #[.slice A0 l0.length c0, .int .i64 a1, .int .i64 a2, .bool a3, .int .u64 a4] w fun e w' => ∃ v0_ : Value, e = .returned (.tuple #[v0_, .bool r2]) ∧ Kd.R (Kd.int .u8) 5 w' w.heap.size (fun _ => True) v0_ r1 ∧ Below w.heap.size w w' := by
  have HR0 := Aside0.mk hr0
  have HC0 := Aside0.mk hc0
  clear hr0 hc0
  have HB := Aside0.mk (Below.refl w.heap.size w)
  have H : ((bits_may.f l0 a1 a2).bind fun t113 => (if t113 = true then ((slices_Clone_byte_byte.f l0).bind fun t114 => (bits_Put.l0 k a1 a2 a3 a4 t114 a2 0)) else (some (([] : List Int), false)))) = some (r1, r2) := h
  clear h
  replace H := Option.bind_eq_some_iff.mp H
  obtain ⟨t113, A60, H⟩ := H
  replace H : (if t113 = true then ((slices_Clone_byte_byte.f l0).bind fun t114 => (bits_Put.l0 k a1 a2 a3 a4 t114 a2 0)) else (some (([] : List Int), false))) = some (r1, r2) := H
  have A6 := Aside0.mk A60
  clear A60
  by_cases c7 : t113 = true
  · subst c7
    have H1 : ((slices_Clone_byte_byte.f l0).bind fun t114 => (bits_Put.l0 k a1 a2 a3 a4 t114 a2 0)) = some (r1, r2) := by rw [if_pos rfl] at H; exact H
    clear H
    have H := H1
    clear H1
    replace H := Option.bind_eq_some_iff.mp H
    obtain ⟨t114, A80, H⟩ := H
    replace H : (bits_Put.l0 k a1 a2 a3 a4 t114 a2 0) = some (r1, r2) := H
    have A8 := Aside0.mk A80
    clear A80
    have H' := Aside0.mk H
    clear H
    go_enter Try.func43, Try.ntmps43
    go_wp2_with (first | ((with_reducible refine gate_callee (f := 76) rfl ?_); refine goesL_ (some 18) rfl rfl Try.func76 (by kernel_rfl) rfl #[.slice A0 l0.length c0, .int .i64 a1, .int .i64 a2] rfl (by (try simp only [List.map_toArray, List.map_cons, List.map_nil]); first | done | rfl | (simp only [List.length_drop, List.length_take]; rfl)) ?_; (with_reducible refine (bits_may.calls _ _ l0 a1 a2 true _ ?side1 ?side2 A6.out).mono ?_); (case side1 => repeat (first | exact HR0.out | (with_reducible refine Kd.C_alloc ?_ _) | (with_reducible refine Kd.C_drewN ?_ _) | (with_reducible refine Kd.C_drew ?_))); (case side2 => exact HC0.out); rintro e w' ⟨rfl, ⟨nd, rfl⟩⟩; refine ⟨_, rfl, ?_⟩) | ((with_reducible refine gate_callee (f := 77) rfl ?_); refine goesL_ (some 21) rfl rfl Try.func77 (by kernel_rfl) rfl #[.slice A0 l0.length c0] rfl (by (try simp only [List.map_toArray, List.map_cons, List.map_nil]); first | done | rfl | (simp only [List.length_drop, List.length_take]; rfl)) ?_; (with_reducible refine (slices_Clone_byte_byte.calls _ _ l0 t114 _ ?side1 ?side2 A8.out).mono ?_); (case side1 => repeat (first | exact HR0.out | (with_reducible refine Kd.C_alloc ?_ _) | (with_reducible refine Kd.C_drewN ?_ _) | (with_reducible refine Kd.C_drew ?_))); (case side2 => exact HC0.out); rintro e w9 ⟨v115, rfl, ho0, hb⟩; refine ⟨_, rfl, ?_⟩; have n0_ := Aside0.mk (Kd.R_lower ho0 (below_size (by repeat (first | (with_reducible first | exact HB.out | apply below_alloc | apply pw_below_drewN | apply below_drew1) | exact HB.out)))); have n1_ := Aside0.mk (below_step (by repeat (first | (with_reducible first | exact HB.out | apply below_alloc | apply pw_below_drewN | apply below_drew1) | exact HB.out)) hb); clear HB; have HO116 := n0_; have HB := n1_; clear n0_ n1_; (try clear hb); (try clear hb2); (try clear hk); (try clear hi); (try clear ho0)))
    go_loopg [23] k (fun kq v23 w' => ∃ (x12_1 : List Int) (x23_1 : Int), v23 = .int .i64 x23_1 ∧ Aside0 (bits_Put.l0 kq a1 a2 a3 a4 x12_1 a2 x23_1 = some (r1, r2)) ∧ Aside0 (kq ≤ k) ∧ Aside0 (Kd.R (Kd.int .u8) 5 w' w.heap.size (fun _ => True) v115 x12_1) ∧ Aside0 (Below w.heap.size w w'))
    case atStart => exact ⟨(t114), (0), (by first | rfl | (simp; done) | (simp [*]; done) | exact congrArg Value.bool (ne_empty _) | exact congrArg Value.bool (eq_empty _)), H', ⟨Nat.le_refl _⟩, ⟨by (with_reducible repeat (first | apply Kd.R_alloc | apply Kd.R_drewN | apply Kd.R_drew)); exact HO116.out⟩, ⟨by repeat (first | (with_reducible first | exact HB.out | apply below_alloc | apply pw_below_drewN | apply below_drew1) | exact HB.out)⟩⟩
    case round =>
      clear H'
      try clear p2
      try clear c4
      try clear c7
      obtain ⟨x12_1, x23_1, rfl, HA, HK1, HO_12, HB⟩ := hrel
      cases gk with
      | zero => exact absurd HA.out (by first | (intro h_; exact nomatch (show (none : Option _) = some r from h_)) | simp [bits_Put.l0])
      | succ k1 =>
        have H := HA.out
        clear HA
        simp only [bits_Put.l0] at H
        by_cases c10 : x23_1 < a2
        · rw [if_pos c10] at H
          have c10b0 : decide (x23_1 < a2) = true := decide_eq_true c10
          clear c10
          by_cases c11 : a3 = true
          · subst c11
            have H1 : (if 0 ≤ (wrap64 (8 * x23_1)) then (if 0 ≤ (wrap64 (a1 + (wrap64 ((wrap64 (a2 - 1)) - x23_1)))) then (if (wrap64 (a1 + (wrap64 ((wrap64 (a2 - 1)) - x23_1)))) < (x12_1.length : Int) then (bits_Put.l0 k1 a1 a2 true a4 (x12_1.set ((wrap64 (a1 + (wrap64 ((wrap64 (a2 - 1)) - x23_1)))) : Int).toNat ((shr .u64 a4 (wrap64 (8 * x23_1))) % 256)) a2 (wrap64 (x23_1 + 1))) else (none)) else (none)) else (none)) = some (r1, r2) := by rw [if_pos rfl] at H; exact H
            clear H
            have H := H1
            clear H1
            obtain ⟨ji12, hji12⟩ : ∃ j_ : Int, (wrap64 (8 * x23_1)) = j_ := ⟨_, rfl⟩
            replace H : (if 0 ≤ (ji12) then (if 0 ≤ (wrap64 (a1 + (wrap64 ((wrap64 (a2 - 1)) - x23_1)))) then (if (wrap64 (a1 + (wrap64 ((wrap64 (a2 - 1)) - x23_1)))) < (x12_1.length : Int) then (bits_Put.l0 k1 a1 a2 true a4 (x12_1.set ((wrap64 (a1 + (wrap64 ((wrap64 (a2 - 1)) - x23_1)))) : Int).toNat ((shr .u64 a4 (ji12)) % 256)) a2 (wrap64 (x23_1 + 1))) else (none)) else (none)) else (none)) = some (r1, r2) := by first | (rw [hji12] at H; exact H) | (simp only [hji12] at H ⊢; exact H)
            have hji12w : (IntKind.i64.wrap (8 * x23_1)) = ji12 := (i64_w _).trans hji12
            by_cases c13 : 0 ≤ (ji12)
            · rw [if_pos c13] at H
              have c13b0 := eq_true c13
              have c13b1 : decide (0 ≤ (ji12)) = true := decide_eq_true c13
              clear c13
              obtain ⟨ji14, hji14⟩ : ∃ j_ : Int, (shr .u64 a4 (ji12)) = j_ := ⟨_, rfl⟩
              replace H : (if 0 ≤ (wrap64 (a1 + (wrap64 ((wrap64 (a2 - 1)) - x23_1)))) then (if (wrap64 (a1 + (wrap64 ((wrap64 (a2 - 1)) - x23_1)))) < (x12_1.length : Int) then (bits_Put.l0 k1 a1 a2 true a4 (x12_1.set ((wrap64 (a1 + (wrap64 ((wrap64 (a2 - 1)) - x23_1)))) : Int).toNat ((ji14) % 256)) a2 (wrap64 (x23_1 + 1))) else (none)) else (none)) = some (r1, r2) := by first | (rw [hji14] at H; exact H) | (simp only [hji14] at H ⊢; exact H)
              have hji14_ : (a4 / 2 ^ min (ji12).toNat 64) = ji14 := hji14
              have hji14z : (ji12) ≤ 64 → (a4 / 2 ^ (ji12).toNat) = ji14 := shr_small hji14
              obtain ⟨ji15, hji15⟩ : ∃ j_ : Int, (wrap64 (a1 + (wrap64 ((wrap64 (a2 - 1)) - x23_1)))) = j_ := ⟨_, rfl⟩
              replace H : (if 0 ≤ (ji15) then (if (ji15) < (x12_1.length : Int) then (bits_Put.l0 k1 a1 a2 true a4 (x12_1.set ((ji15) : Int).toNat ((ji14) % 256)) a2 (wrap64 (x23_1 + 1))) else (none)) else (none)) = some (r1, r2) := by first | (rw [hji15] at H; exact H) | (simp only [hji15] at H ⊢; exact H)
              have hji15w : (IntKind.i64.wrap (a1 + (wrap64 ((wrap64 (a2 - 1)) - x23_1)))) = ji15 := (i64_w _).trans hji15
              by_cases c16 : 0 ≤ (ji15)
              · rw [if_pos c16] at H
                have c16b0 : decide (0 ≤ (ji15)) = true := decide_eq_true c16
                clear c16
                by_cases c17 : (ji15) < (x12_1.length : Int)
                · rw [if_pos c17] at H
                  have c17b0 : decide ((ji15) < (x12_1.length : Int)) = true := decide_eq_true c17
                  clear c17
                  obtain ⟨y117, hy117⟩ : ∃ y_ : List Int, y_ = (x12_1.set ((ji15) : Int).toNat ((ji14) % 256)) := ⟨_, rfl⟩
                  replace H : (bits_Put.l0 k1 a1 a2 true a4 y117 a2 (wrap64 (x23_1 + 1))) = some (r1, r2) := by first | (rw [hy117]; with_reducible exact H) | (have H2_ := (Option.bind_some _ _).symm.trans H; rw [hy117]; with_reducible exact H2_) | (have H2_ := (Option.bind_some _ _).symm.trans H; with_reducible exact H2_) | with_reducible exact H | (rw [hy117]; exact H) | exact H
                  have Ny117 := Aside0.mk hy117
                  clear hy117
                  have H' := Aside0.mk H
                  clear H
                  have p18 : 0 ≤ ((ji15) : Int) := of_decide_eq_true (by first | (with_reducible assumption) | assumption)
                  have q18 : ((ji15) : Int) < ((x12_1.length : Int) : Int) := of_decide_eq_true (by first | (with_reducible assumption) | assumption)
                  obtain ⟨go18, co18, eo18, gb18, gl18, cl18, HG18⟩ := Kd.R_form HO_12.out (by omega)
                  (first | cases eo18 | (injection eo18 with ea_ en_ ec_; (first | subst ea_ | (injection ea_ with ea_; subst ea_)); subst ec_; clear en_))
                  have GB18 := Aside0.mk gb18
                  have GG18 := Aside0.mk HG18
                  clear gb18 gl18 HG18
                  obtain ⟨hx18_0, hf18_0⟩ := Kd.R_celln 0 HO_12.out ((ji15) : Int) p18 q18
                  replace p18 := eq_true p18
                  replace q18 := eq_true q18
                  have HP19 := Kd.R_putg HO_12.out ((ji15) : Int) ((ji14) % 256)
                  go_wp2_with (first | ((with_reducible refine gate_store (t := 5) (p := 41) rfl ?_); refine store_event (t := 5) (p := 41) (v := ?vo_w20) (w1 := (wr.setCell ⟨go18, ((ji15) : Int).toNat, none⟩ (.int .u8 ((ji14) % 256)))) ?hg ?ho ?hn ?hr ?_; (case ho => rfl); (case hg => rfl); (case hn => rfl); (case hr => first | (go_simp; done) | (go_simp; rfl)); intro w20 hw; have hg : wr.grownBy w20 (some go18) := (by rw [hw]; exact HP19.2); have hp_ : Kd.R (Kd.int .u8) 5 w20 w.heap.size (fun _ => True) (.slice (some ⟨go18, 0, none⟩) x12_1.length co18) y117 := (by rw [hw, Ny117.out]; exact HP19.1); clear HP19; have n0_ := Aside0.mk (hp_); have n1_ := Aside0.mk ((by rw [hw]; exact below_set (HB.out) GB18.out : Below w.heap.size w w20)); clear HO_12; clear HB; have HO_12 := n0_; have HB := n1_; clear n0_ n1_; clear hg hw hp_))
                  go_roundg k1
                  case measure => have := HK1.out; omega
                  case rel => exact ⟨(y117), (wrap64 (x23_1 + 1)), (by first | rfl | (simp; done) | (simp [*]; done) | exact congrArg Value.bool (ne_empty _) | exact congrArg Value.bool (eq_empty _)), H', ⟨by have := HK1.out; omega⟩, ⟨by (with_reducible repeat (first | apply Kd.R_alloc | apply Kd.R_drewN | apply Kd.R_drew)); exact HO_12.out⟩, ⟨by repeat (first | (with_reducible first | exact HB.out | apply below_alloc | apply pw_below_drewN | apply below_drew1) | exact HB.out)⟩⟩
                · rw [if_neg c17] at H
                  exact absurd H (by simp)
              · rw [if_neg c16] at H
                exact absurd H (by simp)
            · rw [if_neg c13] at H
              exact absurd H (by simp)
          · replace c11 := Bool.eq_false_iff.mpr c11
            subst c11
            have H1 : (if 0 ≤ (wrap64 (8 * x23_1)) then (if 0 ≤ (wrap64 (a1 + x23_1)) then (if (wrap64 (a1 + x23_1)) < (x12_1.length : Int) then (bits_Put.l0 k1 a1 a2 false a4 (x12_1.set ((wrap64 (a1 + x23_1)) : Int).toNat ((shr .u64 a4 (wrap64 (8 * x23_1))) % 256)) a2 (wrap64 (x23_1 + 1))) else (none)) else (none)) else (none)) = some (r1, r2) := by rw [if_neg (show ¬ (false = true) by decide)] at H; exact H
            clear H
            have H := H1
            clear H1
            obtain ⟨ji21, hji21⟩ : ∃ j_ : Int, (wrap64 (8 * x23_1)) = j_ := ⟨_, rfl⟩
            replace H : (if 0 ≤ (ji21) then (if 0 ≤ (wrap64 (a1 + x23_1)) then (if (wrap64 (a1 + x23_1)) < (x12_1.length : Int) then (bits_Put.l0 k1 a1 a2 false a4 (x12_1.set ((wrap64 (a1 + x23_1)) : Int).toNat ((shr .u64 a4 (ji21)) % 256)) a2 (wrap64 (x23_1 + 1))) else (none)) else (none)) else (none)) = some (r1, r2) := by first | (rw [hji21] at H; exact H) | (simp only [hji21] at H ⊢; exact H)
            have hji21w : (IntKind.i64.wrap (8 * x23_1)) = ji21 := (i64_w _).trans hji21
            by_cases c22 : 0 ≤ (ji21)
            · rw [if_pos c22] at H
              have c22b0 := eq_true c22
              have c22b1 : decide (0 ≤ (ji21)) = true := decide_eq_true c22
              clear c22
              obtain ⟨ji23, hji23⟩ : ∃ j_ : Int, (shr .u64 a4 (ji21)) = j_ := ⟨_, rfl⟩
              replace H : (if 0 ≤ (wrap64 (a1 + x23_1)) then (if (wrap64 (a1 + x23_1)) < (x12_1.length : Int) then (bits_Put.l0 k1 a1 a2 false a4 (x12_1.set ((wrap64 (a1 + x23_1)) : Int).toNat ((ji23) % 256)) a2 (wrap64 (x23_1 + 1))) else (none)) else (none)) = some (r1, r2) := by first | (rw [hji23] at H; exact H) | (simp only [hji23] at H ⊢; exact H)
              have hji23_ : (a4 / 2 ^ min (ji21).toNat 64) = ji23 := hji23
              have hji23z : (ji21) ≤ 64 → (a4 / 2 ^ (ji21).toNat) = ji23 := shr_small hji23
              obtain ⟨ji24, hji24⟩ : ∃ j_ : Int, (wrap64 (a1 + x23_1)) = j_ := ⟨_, rfl⟩
              replace H : (if 0 ≤ (ji24) then (if (ji24) < (x12_1.length : Int) then (bits_Put.l0 k1 a1 a2 false a4 (x12_1.set ((ji24) : Int).toNat ((ji23) % 256)) a2 (wrap64 (x23_1 + 1))) else (none)) else (none)) = some (r1, r2) := by first | (rw [hji24] at H; exact H) | (simp only [hji24] at H ⊢; exact H)
              have hji24w : (IntKind.i64.wrap (a1 + x23_1)) = ji24 := (i64_w _).trans hji24
              by_cases c25 : 0 ≤ (ji24)
              · rw [if_pos c25] at H
                have c25b0 : decide (0 ≤ (ji24)) = true := decide_eq_true c25
                clear c25
                by_cases c26 : (ji24) < (x12_1.length : Int)
                · rw [if_pos c26] at H
                  have c26b0 : decide ((ji24) < (x12_1.length : Int)) = true := decide_eq_true c26
                  clear c26
                  obtain ⟨y118, hy118⟩ : ∃ y_ : List Int, y_ = (x12_1.set ((ji24) : Int).toNat ((ji23) % 256)) := ⟨_, rfl⟩
                  replace H : (bits_Put.l0 k1 a1 a2 false a4 y118 a2 (wrap64 (x23_1 + 1))) = some (r1, r2) := by first | (rw [hy118]; with_reducible exact H) | (have H2_ := (Option.bind_some _ _).symm.trans H; rw [hy118]; with_reducible exact H2_) | (have H2_ := (Option.bind_some _ _).symm.trans H; with_reducible exact H2_) | with_reducible exact H | (rw [hy118]; exact H) | exact H
                  have Ny118 := Aside0.mk hy118
                  clear hy118
                  have H' := Aside0.mk H
                  clear H
                  have p27 : 0 ≤ ((ji24) : Int) := of_decide_eq_true (by first | (with_reducible assumption) | assumption)
                  have q27 : ((ji24) : Int) < ((x12_1.length : Int) : Int) := of_decide_eq_true (by first | (with_reducible assumption) | assumption)
                  obtain ⟨go27, co27, eo27, gb27, gl27, cl27, HG27⟩ := Kd.R_form HO_12.out (by omega)
                  (first | cases eo27 | (injection eo27 with ea_ en_ ec_; (first | subst ea_ | (injection ea_ with ea_; subst ea_)); subst ec_; clear en_))
                  have GB27 := Aside0.mk gb27
                  have GG27 := Aside0.mk HG27
                  clear gb27 gl27 HG27
                  obtain ⟨hx27_0, hf27_0⟩ := Kd.R_celln 0 HO_12.out ((ji24) : Int) p27 q27
                  replace p27 := eq_true p27
                  replace q27 := eq_true q27
                  have HP28 := Kd.R_putg HO_12.out ((ji24) : Int) ((ji23) % 256)
                  go_wp2_with (first | ((with_reducible refine gate_store (t := 5) (p := 41) rfl ?_); refine store_event (t := 5) (p := 41) (v := ?vo_w29) (w1 := (wr.setCell ⟨go27, ((ji24) : Int).toNat, none⟩ (.int .u8 ((ji23) % 256)))) ?hg ?ho ?hn ?hr ?_; (case ho => rfl); (case hg => rfl); (case hn => rfl); (case hr => first | (go_simp; done) | (go_simp; rfl)); intro w29 hw; have hg : wr.grownBy w29 (some go27) := (by rw [hw]; exact HP28.2); have hp_ : Kd.R (Kd.int .u8) 5 w29 w.heap.size (fun _ => True) (.slice (some ⟨go27, 0, none⟩) x12_1.length co27) y118 := (by rw [hw, Ny118.out]; exact HP28.1); clear HP28; have n0_ := Aside0.mk (hp_); have n1_ := Aside0.mk ((by rw [hw]; exact below_set (HB.out) GB27.out : Below w.heap.size w w29)); clear HO_12; clear HB; have HO_12 := n0_; have HB := n1_; clear n0_ n1_; clear hg hw hp_))
                  go_roundg k1
                  case measure => have := HK1.out; omega
                  case rel => exact ⟨(y118), (wrap64 (x23_1 + 1)), (by first | rfl | (simp; done) | (simp [*]; done) | exact congrArg Value.bool (ne_empty _) | exact congrArg Value.bool (eq_empty _)), H', ⟨by have := HK1.out; omega⟩, ⟨by (with_reducible repeat (first | apply Kd.R_alloc | apply Kd.R_drewN | apply Kd.R_drew)); exact HO_12.out⟩, ⟨by repeat (first | (with_reducible first | exact HB.out | apply below_alloc | apply pw_below_drewN | apply below_drew1) | exact HB.out)⟩⟩
                · rw [if_neg c26] at H
                  exact absurd H (by simp)
              · rw [if_neg c25] at H
                exact absurd H (by simp)
            · rw [if_neg c22] at H
              exact absurd H (by simp)
        · rw [if_neg c10] at H
          have c10b0 : decide (x23_1 < a2) = false := decide_eq_false c10
          clear c10
          simp only [Option.some.injEq, Prod.mk.injEq] at H
          obtain ⟨rfl, rfl⟩ := H
          go_wp2
          go_ret2
          exact ⟨_, by first | rfl | (simp [errW_none, errW_some] <;> rfl) | (simp [*, errW_none, errW_some] <;> rfl), by (with_reducible repeat (first | apply Kd.R_alloc | apply Kd.R_drewN | apply Kd.R_drew)); exact HO_12.out, by repeat (first | (with_reducible first | exact HB.out | apply below_alloc | apply pw_below_drewN | apply below_drew1) | exact HB.out)⟩
  · replace c7 := Bool.eq_false_iff.mpr c7
    subst c7
    have H1 : (some (([] : List Int), false)) = some (r1, r2) := by rw [if_neg (show ¬ (false = true) by decide)] at H; exact H
    clear H
    have H := H1
    clear H1
    simp only [Option.some.injEq, Prod.mk.injEq] at H
    obtain ⟨rfl, rfl⟩ := H
    go_enter Try.func43, Try.ntmps43
    go_wp2_with (first | ((with_reducible refine gate_callee (f := 76) rfl ?_); refine goesL_ (some 18) rfl rfl Try.func76 (by kernel_rfl) rfl #[.slice A0 l0.length c0, .int .i64 a1, .int .i64 a2] rfl (by (try simp only [List.map_toArray, List.map_cons, List.map_nil]); first | done | rfl | (simp only [List.length_drop, List.length_take]; rfl)) ?_; (with_reducible refine (bits_may.calls _ _ l0 a1 a2 false _ ?side1 ?side2 A6.out).mono ?_); (case side1 => repeat (first | exact HR0.out | (with_reducible refine Kd.C_alloc ?_ _) | (with_reducible refine Kd.C_drewN ?_ _) | (with_reducible refine Kd.C_drew ?_))); (case side2 => exact HC0.out); rintro e w' ⟨rfl, ⟨nd, rfl⟩⟩; refine ⟨_, rfl, ?_⟩))
    go_ret2
    exact ⟨_, by first | rfl | (simp [errW_none, errW_some] <;> rfl) | (simp [*, errW_none, errW_some] <;> rfl), by first | exact Kd.R_nil _ _ _ _ _ | exact Kd.N_nil _ _ _ _ _ | exact Kd.V_nil _ _ _ _ _ | exact Kd.Q_nil _ _ _ _ _ | exact Kd.S_nil _ _ _ _ _, by repeat (first | (with_reducible first | exact HB.out | apply below_alloc | apply pw_below_drewN | apply below_drew1) | exact HB.out)⟩

-- NOT PRINTED: function 28 (codec_writer_number)

-- NOT PRINTED: function 78 (codec_writer_many)

-- NOT PRINTED: function 44 (codec_writer_text)

-- NOT PRINTED: function 46 (api_Record_46)

-- NOT PRINTED: function 48 (codec_list_string)

-- NOT PRINTED: function 49 (codec_list_int)

-- NOT PRINTED: function 51 (api_Batch_51)

-- NOT PRINTED: function 29 (codec_writer_field)

-- NOT PRINTED: function 54 (codec_flatten)

/-! ### api_Record_55: function 55 -/
def api_Record_55.l0 : Nat → List (S98) → List (S98) → Int → Int → Option (Bool)
  | 0, _, _, _, _ => none
  | k + 1, x0, x1, x12, x13 => if x13 < x12 then (if 0 ≤ x13 then (if x13 < (x0.length : Int) then (if x13 < (x1.length : Int) then (if (!(((rd_T98 x0 x13).f0) == ((rd_T98 x1 x13).f0)) || (!((((rd_T98 x0 x13).f1).toList) == (((rd_T98 x1 x13).f1).toList)) || (!(((rd_T98 x0 x13).f2) == ((rd_T98 x1 x13).f2)) || (!((((rd_T98 x0 x13).f3).toList) == (((rd_T98 x1 x13).f3).toList)) || (!(((rd_T98 x0 x13).f4) == ((rd_T98 x1 x13).f4)) || (!(((rd_T98 x0 x13).f5) == ((rd_T98 x1 x13).f5)))))))) = true then (some false) else (api_Record_55.l0 k x0 x1 x12 (wrap64 (x13 + 1)))) else (none)) else (none)) else (none)) else (some true)
def api_Record_55.f (k : Nat) (l0 : List (S98)) (l1 : List (S98)) : Option (Bool) := if (l0.length : Int) = (l1.length : Int) then (api_Record_55.l0 k l0 l1 (l0.length : Int) 0) else (some false)
set_option maxRecDepth 100000 in
theorem api_Record_55.mono_l : ∀ k, (∀ y0 y1 y2 y3, LeO (api_Record_55.l0 k y0 y1 y2 y3) (api_Record_55.l0 (k + 1) y0 y1 y2 y3))
  | 0 => fun _ _ _ _ r h => by first | exact nomatch (show (none : Option _) = some r from h) | (rw [api_Record_55.l0] at h; cases h; done) | (simp [api_Record_55.l0] at h; done)
  | k + 1 => by
    have ih0 := api_Record_55.mono_l k
    · intro y0 y1 y2 y3
      unfold api_Record_55.l0
      repeat' first
      | (with_reducible exact ih0 _ _ _ _)
      | (with_reducible exact LeO.refl _)
      | (with_reducible exact LeO.none _)
      | (with_reducible refine LeO.ite ?_ ?_)
      | (with_reducible refine LeO.bind ?_ (fun _ => ?_))
      | exact ih0 _ _ _ _
      | exact LeO.none _
      | refine LeO.ite ?_ ?_
      | refine LeO.bind ?_ (fun _ => ?_)
theorem api_Record_55.mono : ∀ a0 a1 k, LeO (api_Record_55.f k a0 a1) (api_Record_55.f (k + 1) a0 a1) := by
  intro a0 a1 k
  have ih0 := api_Record_55.mono_l k
  unfold api_Record_55.f
  repeat' first
      | (with_reducible exact ih0 _ _ _ _)
      | (with_reducible exact LeO.refl _)
      | (with_reducible exact LeO.none _)
      | (with_reducible refine LeO.ite ?_ ?_)
      | (with_reducible refine LeO.bind ?_ (fun _ => ?_))
      | exact ih0 _ _ _ _
      | exact LeO.none _
      | refine LeO.ite ?_ ?_
      | refine LeO.bind ?_ (fun _ => ?_)
set_option maxHeartbeats 8000000 in
set_option maxRecDepth 100000 in
theorem api_Record_55.calls (k : Nat) (A0 : Option Addr) (c0 : Nat) (l0 : List (S98)) (A1 : Option Addr) (c1 : Nat) (l1 : List (S98)) (r : Bool) (w : World) (hr0 : Kd.C k98 w A0 l0.length l0) (hc0 : l0.length ≤ c0) (hr1 : Kd.C k98 w A1 l1.length l1) (hc1 : l1.length ≤ c1) (h : api_Record_55.f k l0 l1 = some r) :
    Calls Try.prog 55 #[.slice A0 l0.length c0, .slice A1 l1.length c1] w fun e w' => e = .returned (.bool r) ∧ Drawn0 w w' := by
  have hu98 := Try.underlying98
  have HR0 := Aside0.mk hr0
  have HC0 := Aside0.mk hc0
  clear hr0 hc0
  have HR1 := Aside0.mk hr1
  have HC1 := Aside0.mk hc1
  clear hr1 hc1
  have H : (if (l0.length : Int) = (l1.length : Int) then (api_Record_55.l0 k l0 l1 (l0.length : Int) 0) else (some false)) = some r := h
  clear h
  by_cases c3 : (l0.length : Int) = (l1.length : Int)
  · rw [if_pos c3] at H
    have c3b0 : ((l0.length : Int) == (l1.length : Int)) = true := beq_iff_eq.mpr c3
    have c3b1 : ((l0.length : Int) != (l1.length : Int)) = false := bne_eq_false_iff_eq.mpr c3
    have c3b2 : (l0.length == l1.length) = true := by first | simpa using c3 | (simp at c3 ⊢; omega)
    clear c3
    have H' := Aside0.mk H
    clear H
    go_enter Try.func55, Try.ntmps55
    go_wp2
    repeat (go_quiet (fail); try go_wp2)
    go_loopg [13] k (fun kq v13 w' => ∃ (x13_1 : Int), v13 = .int .i64 x13_1 ∧ Aside0 (api_Record_55.l0 kq l0 l1 (l0.length : Int) x13_1 = some r) ∧ Aside0 (kq ≤ k) ∧ Drawn0 w w')
    case atStart => exact ⟨(0), (by first | rfl | (simp; done) | (simp [*]; done) | exact congrArg Value.bool (ne_empty _) | exact congrArg Value.bool (eq_empty _)), H', ⟨Nat.le_refl _⟩, by repeat (first | exact Drawn0.refl _ | apply Drawn0.step)⟩
    case round =>
      clear H'
      try clear c1
      try clear p2
      try clear c3
      try clear c3b0
      try clear c3b1
      try clear c3b2
      obtain ⟨x13_1, rfl, HA, HK1, ⟨m1, rfl⟩⟩ := hrel
      cases gk with
      | zero => exact absurd HA.out (by first | (intro h_; exact nomatch (show (none : Option _) = some r from h_)) | simp [api_Record_55.l0])
      | succ k1 =>
        have H := HA.out
        clear HA
        simp only [api_Record_55.l0] at H
        by_cases c4 : x13_1 < (l0.length : Int)
        · rw [if_pos c4] at H
          have c4b0 : decide (x13_1 < (l0.length : Int)) = true := decide_eq_true c4
          clear c4
          by_cases c5 : 0 ≤ x13_1
          · rw [if_pos c5] at H
            have c5b0 : decide (0 ≤ x13_1) = true := decide_eq_true c5
            clear c5
            by_cases c6 : x13_1 < (l0.length : Int)
            · rw [if_pos c6] at H
              have c6b0 : decide (x13_1 < (l0.length : Int)) = true := decide_eq_true c6
              clear c6
              by_cases c7 : x13_1 < (l1.length : Int)
              · rw [if_pos c7] at H
                have c7b0 : decide (x13_1 < (l1.length : Int)) = true := decide_eq_true c7
                clear c7
                by_cases c8 : (!(((rd_T98 l0 x13_1).f0) == ((rd_T98 l1 x13_1).f0)) || (!((((rd_T98 l0 x13_1).f1).toList) == (((rd_T98 l1 x13_1).f1).toList)) || (!(((rd_T98 l0 x13_1).f2) == ((rd_T98 l1 x13_1).f2)) || (!((((rd_T98 l0 x13_1).f3).toList) == (((rd_T98 l1 x13_1).f3).toList)) || (!(((rd_T98 l0 x13_1).f4) == ((rd_T98 l1 x13_1).f4)) || (!(((rd_T98 l0 x13_1).f5) == ((rd_T98 l1 x13_1).f5)))))))) = true
                · rw [if_pos c8] at H
                  have c8b0 : (!(((rd_T98 l0 x13_1).f0) == ((rd_T98 l1 x13_1).f0)) || (!((((rd_T98 l0 x13_1).f1).toList) == (((rd_T98 l1 x13_1).f1).toList)) || (!(((rd_T98 l0 x13_1).f2) == ((rd_T98 l1 x13_1).f2)) || (!((((rd_T98 l0 x13_1).f3).toList) == (((rd_T98 l1 x13_1).f3).toList)) || (!(((rd_T98 l0 x13_1).f4) == ((rd_T98 l1 x13_1).f4)) || (!(((rd_T98 l0 x13_1).f5) == ((rd_T98 l1 x13_1).f5)))))))) = true := c8
                  clear c8
                  obtain rfl := Option.some.inj H
                  have p126 : 0 ≤ (x13_1 : Int) := of_decide_eq_true (by first | (with_reducible assumption) | assumption)
                  have q126 : x13_1 < (l0.length : Int) := of_decide_eq_true (by first | (with_reducible assumption) | assumption)
                  obtain ⟨ad126, e126, hx126_0, hx126_1, hx126_2, hx126_3, hx126_4, hx126_5⟩ := at_T98 HR0.out x13_1 p126 q126
                  cases e126
                  replace p126 := eq_true p126
                  replace q126 := eq_true q126
                  have p127 : 0 ≤ (x13_1 : Int) := of_decide_eq_true (by first | (with_reducible assumption) | assumption)
                  have q127 : x13_1 < (l1.length : Int) := of_decide_eq_true (by first | (with_reducible assumption) | assumption)
                  obtain ⟨ad127, e127, hx127_0, hx127_1, hx127_2, hx127_3, hx127_4, hx127_5⟩ := at_T98 HR1.out x13_1 p127 q127
                  cases e127
                  replace p127 := eq_true p127
                  replace q127 := eq_true q127
                  go_wp2
                  repeat (go_quiet (fail); try go_wp2)
                  go_ret
                  exact ⟨by first | rfl | (simp; done) | (simp [*]; done) | exact congrArg Value.bool (ne_empty _) | exact congrArg Value.bool (eq_empty _), by repeat (first | exact Drawn0.refl _ | apply Drawn0.step)⟩
                · rw [if_neg c8] at H
                  have c8b0 : (!(((rd_T98 l0 x13_1).f0) == ((rd_T98 l1 x13_1).f0)) || (!((((rd_T98 l0 x13_1).f1).toList) == (((rd_T98 l1 x13_1).f1).toList)) || (!(((rd_T98 l0 x13_1).f2) == ((rd_T98 l1 x13_1).f2)) || (!((((rd_T98 l0 x13_1).f3).toList) == (((rd_T98 l1 x13_1).f3).toList)) || (!(((rd_T98 l0 x13_1).f4) == ((rd_T98 l1 x13_1).f4)) || (!(((rd_T98 l0 x13_1).f5) == ((rd_T98 l1 x13_1).f5)))))))) = false := by simpa using c8
                  clear c8
                  have H' := Aside0.mk H
                  clear H
                  have p126 : 0 ≤ (x13_1 : Int) := of_decide_eq_true (by first | (with_reducible assumption) | assumption)
                  have q126 : x13_1 < (l0.length : Int) := of_decide_eq_true (by first | (with_reducible assumption) | assumption)
                  obtain ⟨ad126, e126, hx126_0, hx126_1, hx126_2, hx126_3, hx126_4, hx126_5⟩ := at_T98 HR0.out x13_1 p126 q126
                  cases e126
                  replace p126 := eq_true p126
                  replace q126 := eq_true q126
                  have p127 : 0 ≤ (x13_1 : Int) := of_decide_eq_true (by first | (with_reducible assumption) | assumption)
                  have q127 : x13_1 < (l1.length : Int) := of_decide_eq_true (by first | (with_reducible assumption) | assumption)
                  obtain ⟨ad127, e127, hx127_0, hx127_1, hx127_2, hx127_3, hx127_4, hx127_5⟩ := at_T98 HR1.out x13_1 p127 q127
                  cases e127
                  replace p127 := eq_true p127
                  replace q127 := eq_true q127
                  go_wp2
                  repeat (go_quiet (fail); try go_wp2)
                  go_roundg k1
                  case measure => have := HK1.out; omega
                  case rel => exact ⟨(wrap64 (x13_1 + 1)), (by first | rfl | (simp; done) | (simp [*]; done) | exact congrArg Value.bool (ne_empty _) | exact congrArg Value.bool (eq_empty _)), H', ⟨by have := HK1.out; omega⟩, by repeat (first | exact Drawn0.refl _ | apply Drawn0.step)⟩
              · rw [if_neg c7] at H
                exact absurd H (by simp)
            · rw [if_neg c6] at H
              exact absurd H (by simp)
          · rw [if_neg c5] at H
            exact absurd H (by simp)
        · rw [if_neg c4] at H
          have c4b0 : decide (x13_1 < (l0.length : Int)) = false := decide_eq_false c4
          clear c4
          obtain rfl := Option.some.inj H
          go_wp2
          repeat (go_quiet (fail); try go_wp2)
          go_ret
          exact ⟨by first | rfl | (simp; done) | (simp [*]; done) | exact congrArg Value.bool (ne_empty _) | exact congrArg Value.bool (eq_empty _), by repeat (first | exact Drawn0.refl _ | apply Drawn0.step)⟩
  · rw [if_neg c3] at H
    have c3b0 : ((l0.length : Int) == (l1.length : Int)) = false := beq_eq_false_iff_ne.mpr c3
    have c3b1 : ((l0.length : Int) != (l1.length : Int)) = true := bne_iff_ne.mpr c3
    have c3b2 : (l0.length == l1.length) = false := by first | simpa using c3 | (simp at c3 ⊢; omega)
    obtain rfl := Option.some.inj H
    go_enter Try.func55, Try.ntmps55
    go_wp2
    repeat (go_quiet (fail); try go_wp2)
    go_ret
    exact ⟨by first | rfl | (simp; done) | (simp [*]; done) | exact congrArg Value.bool (ne_empty _) | exact congrArg Value.bool (eq_empty _), by repeat (first | exact Drawn0.refl _ | apply Drawn0.step)⟩

/-! ### slices_Equal_string_string: function 56 -/
def slices_Equal_string_string.l0 : Nat → List ByteArray → List ByteArray → Int → Int → Option (Bool)
  | 0, _, _, _, _ => none
  | k + 1, x0, x1, x12, x13 => if x13 < x12 then (if 0 ≤ x13 then (if x13 < (x0.length : Int) then (if x13 < (x1.length : Int) then (if (rdOf ByteArray.empty x0 x13).toList = (rdOf ByteArray.empty x1 x13).toList then (slices_Equal_string_string.l0 k x0 x1 x12 (wrap64 (x13 + 1))) else (some false)) else (none)) else (none)) else (none)) else (some true)
def slices_Equal_string_string.f (k : Nat) (l0 : List ByteArray) (l1 : List ByteArray) : Option (Bool) := if (l0.length : Int) = (l1.length : Int) then (slices_Equal_string_string.l0 k l0 l1 (l0.length : Int) 0) else (some false)
set_option maxRecDepth 100000 in
theorem slices_Equal_string_string.mono_l : ∀ k, (∀ y0 y1 y2 y3, LeO (slices_Equal_string_string.l0 k y0 y1 y2 y3) (slices_Equal_string_string.l0 (k + 1) y0 y1 y2 y3))
  | 0 => fun _ _ _ _ r h => by first | exact nomatch (show (none : Option _) = some r from h) | (rw [slices_Equal_string_string.l0] at h; cases h; done) | (simp [slices_Equal_string_string.l0] at h; done)
  | k + 1 => by
    have ih0 := slices_Equal_string_string.mono_l k
    · intro y0 y1 y2 y3
      unfold slices_Equal_string_string.l0
      repeat' first
      | (with_reducible exact ih0 _ _ _ _)
      | (with_reducible exact LeO.refl _)
      | (with_reducible exact LeO.none _)
      | (with_reducible refine LeO.ite ?_ ?_)
      | (with_reducible refine LeO.bind ?_ (fun _ => ?_))
      | exact ih0 _ _ _ _
      | exact LeO.none _
      | refine LeO.ite ?_ ?_
      | refine LeO.bind ?_ (fun _ => ?_)
theorem slices_Equal_string_string.mono : ∀ a0 a1 k, LeO (slices_Equal_string_string.f k a0 a1) (slices_Equal_string_string.f (k + 1) a0 a1) := by
  intro a0 a1 k
  have ih0 := slices_Equal_string_string.mono_l k
  unfold slices_Equal_string_string.f
  repeat' first
      | (with_reducible exact ih0 _ _ _ _)
      | (with_reducible exact LeO.refl _)
      | (with_reducible exact LeO.none _)
      | (with_reducible refine LeO.ite ?_ ?_)
      | (with_reducible refine LeO.bind ?_ (fun _ => ?_))
      | exact ih0 _ _ _ _
      | exact LeO.none _
      | refine LeO.ite ?_ ?_
      | refine LeO.bind ?_ (fun _ => ?_)
set_option maxHeartbeats 8000000 in
set_option maxRecDepth 100000 in
theorem slices_Equal_string_string.calls (k : Nat) (A0 : Option Addr) (c0 : Nat) (l0 : List ByteArray) (A1 : Option Addr) (c1 : Nat) (l1 : List ByteArray) (r : Bool) (w : World) (hr0 : Kd.C Kd.string w A0 l0.length l0) (hc0 : l0.length ≤ c0) (hr1 : Kd.C Kd.string w A1 l1.length l1) (hc1 : l1.length ≤ c1) (h : slices_Equal_string_string.f k l0 l1 = some r) :
    Calls Try.prog 56 #[.slice A0 l0.length c0, .slice A1 l1.length c1] w fun e w' => e = .returned (.bool r) ∧ Drawn0 w w' := by
  have HR0 := Aside0.mk hr0
  have HC0 := Aside0.mk hc0
  clear hr0 hc0
  have HR1 := Aside0.mk hr1
  have HC1 := Aside0.mk hc1
  clear hr1 hc1
  have H : (if (l0.length : Int) = (l1.length : Int) then (slices_Equal_string_string.l0 k l0 l1 (l0.length : Int) 0) else (some false)) = some r := h
  clear h
  by_cases c3 : (l0.length : Int) = (l1.length : Int)
  · rw [if_pos c3] at H
    have c3b0 : ((l0.length : Int) == (l1.length : Int)) = true := beq_iff_eq.mpr c3
    have c3b1 : ((l0.length : Int) != (l1.length : Int)) = false := bne_eq_false_iff_eq.mpr c3
    have c3b2 : (l0.length == l1.length) = true := by first | simpa using c3 | (simp at c3 ⊢; omega)
    clear c3
    have H' := Aside0.mk H
    clear H
    go_enter Try.func56, Try.ntmps56
    go_wp2
    repeat (go_quiet (fail); try go_wp2)
    go_loopg [13] k (fun kq v13 w' => ∃ (x13_1 : Int), v13 = .int .i64 x13_1 ∧ Aside0 (slices_Equal_string_string.l0 kq l0 l1 (l0.length : Int) x13_1 = some r) ∧ Aside0 (kq ≤ k) ∧ Drawn0 w w')
    case atStart => exact ⟨(0), (by first | rfl | (simp; done) | (simp [*]; done) | exact congrArg Value.bool (ne_empty _) | exact congrArg Value.bool (eq_empty _)), H', ⟨Nat.le_refl _⟩, by repeat (first | exact Drawn0.refl _ | apply Drawn0.step)⟩
    case round =>
      clear H'
      try clear c1
      try clear p2
      try clear c3
      try clear c3b0
      try clear c3b1
      try clear c3b2
      obtain ⟨x13_1, rfl, HA, HK1, ⟨m1, rfl⟩⟩ := hrel
      cases gk with
      | zero => exact absurd HA.out (by first | (intro h_; exact nomatch (show (none : Option _) = some r from h_)) | simp [slices_Equal_string_string.l0])
      | succ k1 =>
        have H := HA.out
        clear HA
        simp only [slices_Equal_string_string.l0] at H
        by_cases c4 : x13_1 < (l0.length : Int)
        · rw [if_pos c4] at H
          have c4b0 : decide (x13_1 < (l0.length : Int)) = true := decide_eq_true c4
          clear c4
          by_cases c5 : 0 ≤ x13_1
          · rw [if_pos c5] at H
            have c5b0 : decide (0 ≤ x13_1) = true := decide_eq_true c5
            clear c5
            by_cases c6 : x13_1 < (l0.length : Int)
            · rw [if_pos c6] at H
              have c6b0 : decide (x13_1 < (l0.length : Int)) = true := decide_eq_true c6
              clear c6
              by_cases c7 : x13_1 < (l1.length : Int)
              · rw [if_pos c7] at H
                have c7b0 : decide (x13_1 < (l1.length : Int)) = true := decide_eq_true c7
                clear c7
                by_cases c8 : (rdOf ByteArray.empty l0 x13_1).toList = (rdOf ByteArray.empty l1 x13_1).toList
                · rw [if_pos c8] at H
                  have c8b0 : ((rdOf ByteArray.empty l0 x13_1).toList == (rdOf ByteArray.empty l1 x13_1).toList) = true := beq_iff_eq.mpr c8
                  have c8b1 : ((rdOf ByteArray.empty l0 x13_1).toList != (rdOf ByteArray.empty l1 x13_1).toList) = false := bne_eq_false_iff_eq.mpr c8
                  clear c8
                  have H' := Aside0.mk H
                  clear H
                  have p128 : 0 ≤ (x13_1 : Int) := of_decide_eq_true (by first | (with_reducible assumption) | assumption)
                  have q128 : x13_1 < (l0.length : Int) := of_decide_eq_true (by first | (with_reducible assumption) | assumption)
                  obtain ⟨ad128, e128, hx128_0⟩ := Kd.at_string HR0.out x13_1 p128 q128
                  cases e128
                  replace p128 := eq_true p128
                  replace q128 := eq_true q128
                  have p129 : 0 ≤ (x13_1 : Int) := of_decide_eq_true (by first | (with_reducible assumption) | assumption)
                  have q129 : x13_1 < (l1.length : Int) := of_decide_eq_true (by first | (with_reducible assumption) | assumption)
                  obtain ⟨ad129, e129, hx129_0⟩ := Kd.at_string HR1.out x13_1 p129 q129
                  cases e129
                  replace p129 := eq_true p129
                  replace q129 := eq_true q129
                  go_wp2
                  repeat (go_quiet (fail); try go_wp2)
                  go_roundg k1
                  case measure => have := HK1.out; omega
                  case rel => exact ⟨(wrap64 (x13_1 + 1)), (by first | rfl | (simp; done) | (simp [*]; done) | exact congrArg Value.bool (ne_empty _) | exact congrArg Value.bool (eq_empty _)), H', ⟨by have := HK1.out; omega⟩, by repeat (first | exact Drawn0.refl _ | apply Drawn0.step)⟩
                · rw [if_neg c8] at H
                  have c8b0 : ((rdOf ByteArray.empty l0 x13_1).toList == (rdOf ByteArray.empty l1 x13_1).toList) = false := beq_eq_false_iff_ne.mpr c8
                  have c8b1 : ((rdOf ByteArray.empty l0 x13_1).toList != (rdOf ByteArray.empty l1 x13_1).toList) = true := bne_iff_ne.mpr c8
                  obtain rfl := Option.some.inj H
                  have p128 : 0 ≤ (x13_1 : Int) := of_decide_eq_true (by first | (with_reducible assumption) | assumption)
                  have q128 : x13_1 < (l0.length : Int) := of_decide_eq_true (by first | (with_reducible assumption) | assumption)
                  obtain ⟨ad128, e128, hx128_0⟩ := Kd.at_string HR0.out x13_1 p128 q128
                  cases e128
                  replace p128 := eq_true p128
                  replace q128 := eq_true q128
                  have p129 : 0 ≤ (x13_1 : Int) := of_decide_eq_true (by first | (with_reducible assumption) | assumption)
                  have q129 : x13_1 < (l1.length : Int) := of_decide_eq_true (by first | (with_reducible assumption) | assumption)
                  obtain ⟨ad129, e129, hx129_0⟩ := Kd.at_string HR1.out x13_1 p129 q129
                  cases e129
                  replace p129 := eq_true p129
                  replace q129 := eq_true q129
                  go_wp2
                  repeat (go_quiet (fail); try go_wp2)
                  go_ret
                  exact ⟨by first | rfl | (simp; done) | (simp [*]; done) | exact congrArg Value.bool (ne_empty _) | exact congrArg Value.bool (eq_empty _), by repeat (first | exact Drawn0.refl _ | apply Drawn0.step)⟩
              · rw [if_neg c7] at H
                exact absurd H (by simp)
            · rw [if_neg c6] at H
              exact absurd H (by simp)
          · rw [if_neg c5] at H
            exact absurd H (by simp)
        · rw [if_neg c4] at H
          have c4b0 : decide (x13_1 < (l0.length : Int)) = false := decide_eq_false c4
          clear c4
          obtain rfl := Option.some.inj H
          go_wp2
          repeat (go_quiet (fail); try go_wp2)
          go_ret
          exact ⟨by first | rfl | (simp; done) | (simp [*]; done) | exact congrArg Value.bool (ne_empty _) | exact congrArg Value.bool (eq_empty _), by repeat (first | exact Drawn0.refl _ | apply Drawn0.step)⟩
  · rw [if_neg c3] at H
    have c3b0 : ((l0.length : Int) == (l1.length : Int)) = false := beq_eq_false_iff_ne.mpr c3
    have c3b1 : ((l0.length : Int) != (l1.length : Int)) = true := bne_iff_ne.mpr c3
    have c3b2 : (l0.length == l1.length) = false := by first | simpa using c3 | (simp at c3 ⊢; omega)
    obtain rfl := Option.some.inj H
    go_enter Try.func56, Try.ntmps56
    go_wp2
    repeat (go_quiet (fail); try go_wp2)
    go_ret
    exact ⟨by first | rfl | (simp; done) | (simp [*]; done) | exact congrArg Value.bool (ne_empty _) | exact congrArg Value.bool (eq_empty _), by repeat (first | exact Drawn0.refl _ | apply Drawn0.step)⟩

end Go.Proofs.Ytncfofnikmfjbaa.PCi

/- Plain facts on whole numbers as Go tells them: digits laid over one another, shifts, groups of seven, bytes of a number. No program in sight. -/
namespace Go.Proofs.Ytncfofnikmfjbaa.Bp
open Go Go.RowKit Go.Proofs.YtncfofnikmfjbaaW.PrintWords Go.Proofs.YtncfofnikmfjbaaW.PrintLast Go.Proofs.YtncfofnikmfjbaaW.PrintMore
set_option linter.unusedVariables false
set_option linter.unusedSimpArgs false

/-! one byte -/
set_option maxRecDepth 20000 in
theorem nat_or128 : ∀ n, n < 256 → n ||| 128 = n % 128 + 128 := by decide
set_option maxRecDepth 20000 in
theorem nat_and127 : ∀ n, n < 256 → n &&& 127 = n % 128 := by decide
theorem or128 (x : Int) : Go.bits .or .u8 (x % 256) 128 = x % 128 + 128 := by
  rw [u8_or _ _ (by omega) (by omega) (by omega) (by omega)]
  have := nat_or128 (x % 256).toNat (by omega)
  rw [show ((128 : Int)).toNat = 128 from rfl, this]
  omega
theorem and127 {x : Int} (h : 0 ≤ x ∧ x < 256) : Go.bits .and .u8 x 127 = x % 128 := by
  rw [u8_and _ _ (by omega) (by omega) (by omega) (by omega)]
  have := nat_and127 x.toNat (by omega)
  rw [show ((127 : Int)).toNat = 127 from rfl, this]
  omega
theorem u8_and1 {x : Int} (h : 0 ≤ x ∧ x < 256) : Go.bits .and .u8 x 1 = x % 2 := by
  rw [u8_and _ _ (by omega) (by omega) (by omega) (by omega)]
  rw [show ((1 : Int)).toNat = 1 from rfl, Nat.and_one_is_mod]
  omega

/-! words of 64 digits -/
theorem u64_and127 {x : Int} (h : 0 ≤ x ∧ x < 18446744073709551616) : Go.bits .and .u64 x 127 = x % 128 := by
  rw [u64_and _ _ (by omega) (by omega) (by omega) (by omega)]
  have := Nat.and_two_pow_sub_one_eq_mod x.toNat 7
  rw [show ((127 : Int)).toNat = 2 ^ 7 - 1 from rfl, this]
  omega
theorem u64_and1 {x : Int} (h : 0 ≤ x ∧ x < 18446744073709551616) : Go.bits .and .u64 x 1 = x % 2 := by
  rw [u64_and _ _ (by omega) (by omega) (by omega) (by omega)]
  rw [show ((1 : Int)).toNat = 1 from rfl, Nat.and_one_is_mod]
  omega
theorem u64_or128 {x : Int} (h : 0 ≤ x ∧ x < 128) : Go.bits .or .u64 x 128 = x + 128 := by
  rw [u64_or _ _ (by omega) (by omega) (by omega) (by omega)]
  have := nat_or128 x.toNat (by omega)
  rw [show ((128 : Int)).toNat = 128 from rfl, this]
  omega
/-- Digits above those of a smaller number. -/
theorem u64_or_add {v x : Int} (i : Nat) (h0 : 0 ≤ v) (h1 : v < 2 ^ i) (h2 : 0 ≤ x) (h3 : v + x * 2 ^ i < 18446744073709551616) : Go.bits .or .u64 v (x * 2 ^ i) = v + x * 2 ^ i := by
  obtain ⟨a, rfl⟩ := Int.eq_ofNat_of_zero_le h0
  obtain ⟨b, rfl⟩ := Int.eq_ofNat_of_zero_le h2
  have e : ((b : Int) * 2 ^ i) = ((2 ^ i * b : Nat) : Int) := by push_cast; rw [Int.mul_comm]
  rw [e] at h3 ⊢
  have ha : a < 2 ^ i := by exact_mod_cast h1
  rw [u64_or_nat _ _ (by omega) (by omega), Nat.or_comm, ← Nat.two_pow_add_eq_or_of_lt ha b]
  push_cast
  omega
theorem i64_and7 {x : Int} (h : 0 ≤ x) (h2 : x ≤ 9223372036854775807) : Go.bits .and .i64 x 7 = x % 8 := by
  obtain ⟨a, rfl⟩ := Int.eq_ofNat_of_zero_le h
  have e7 : (7 : Int) = ((7 : Nat) : Int) := rfl
  show IntKind.i64.wrap ((BitVec.ofInt 64 (a : Int) &&& BitVec.ofInt 64 (7 : Int)).toNat : Int) = _
  rw [e7, BitVec.ofInt_natCast, BitVec.ofInt_natCast, BitVec.toNat_and, BitVec.toNat_ofNat, BitVec.toNat_ofNat, Nat.mod_eq_of_lt (by omega), Nat.mod_eq_of_lt (by omega)]
  have := Nat.and_two_pow_sub_one_eq_mod a 3
  rw [show (7 : Nat) = 2 ^ 3 - 1 from rfl, this]
  have h8 : a % 2 ^ 3 < 8 := Nat.mod_lt _ (by omega)
  rw [i64_w]
  unfold wrap64
  omega

theorem w64 {x : Int} (h : -9223372036854775808 ≤ x) (h2 : x ≤ 9223372036854775807) : wrap64 x = x := by unfold wrap64; omega
theorem u64_id {x : Int} (h : 0 ≤ x) (h2 : x < 18446744073709551616) : IntKind.u64.wrap x = x := by rw [IntKind.wrap_u64]; omega
theorem up64 (i : Nat) (h : i ≤ 4000000000000000000) : wrap64 ((i : Int) + 1) = ((i + 1 : Nat) : Int) := by unfold wrap64; omega
theorem wf8 {x : Int} (h : (Lit.int .u8 x).wf = true) : 0 ≤ x ∧ x < 256 := by
  simp only [Lit.wf, IntKind.min, IntKind.max, IntKind.signed, IntKind.bits] at h
  simp at h
  omega
theorem wf64 {x : Int} (h : (Lit.int .u64 x).wf = true) : 0 ≤ x ∧ x < 18446744073709551616 := by
  simp only [Lit.wf, IntKind.min, IntKind.max, IntKind.signed, IntKind.bits] at h
  simp at h
  omega
theorem wfi {x : Int} (h : (Lit.int .i64 x).wf = true) : -9223372036854775808 ≤ x ∧ x ≤ 9223372036854775807 := by
  simp only [Lit.wf, IntKind.min, IntKind.max, IntKind.signed, IntKind.bits] at h
  simp at h
  omega
def Bytes (l : List Int) : Prop := ∀ x ∈ l, 0 ≤ x ∧ x < 256
theorem bytes_of {l : List Int} (h : ∀ x ∈ l, (Lit.int .u8 x).wf = true) : Bytes l := fun x hx => wf8 (h x hx)
theorem rd_at {l : List Int} {i : Nat} (h : i < l.length) : rd l (i : Int) = l[i] := by
  unfold rd
  rw [Int.toNat_natCast, List.getD_eq_getElem?_getD, List.getElem?_eq_getElem h]
  rfl
theorem rd_byte {l : List Int} (h : Bytes l) (i : Int) : 0 ≤ rd l i ∧ rd l i < 256 := by
  unfold rd
  rw [List.getD_eq_getElem?_getD]
  cases e : l[i.toNat]? with
  | none => simp
  | some x => exact h x (List.mem_of_getElem? e)
theorem drop_cons {l : List Int} {i : Nat} (h : i < l.length) : l.drop i = rd l (i : Int) :: l.drop (i + 1) := by
  rw [rd_at h, List.drop_eq_getElem_cons h]

/-! groups of seven digits -/
def vr (v : Nat) : List Int := if h : v < 128 then [(v : Int)] else ((v % 128 + 128 : Nat) : Int) :: vr (v / 128)
termination_by v
decreasing_by omega
theorem vr_small {v : Nat} (h : v < 128) : vr v = [(v : Int)] := by rw [vr, dif_pos h]
theorem vr_big {v : Nat} (h : ¬ v < 128) : vr v = ((v % 128 + 128 : Nat) : Int) :: vr (v / 128) := by rw [vr, dif_neg h]

/-- What a group adds. -/
def put7 (v x : Int) (i : Nat) : Int := Go.bits .or .u64 v (shl .u64 (IntKind.u64.wrap (Go.bits .and .u8 x 127)) (wrap64 (7 * (i : Int))))
/-- Bytes read as groups: from the i-th on, v read so far. -/
def unv : List Int → Nat → Int → Int × Int
  | [], _, _ => (0, 0)
  | x :: xs, i, v => if i = 10 ∨ (i = 9 ∧ x > 1) ∨ (0 < i ∧ x = 0) then (0, 0) else if x < 128 then (put7 v x i, (i : Int) + 1) else unv xs (i + 1) (put7 v x i)

theorem put7_add {v x : Int} {i : Nat} (hi : i ≤ 9) (hx : 0 ≤ x ∧ x < 256) (h9 : i = 9 → x % 128 ≤ 1) (h0 : 0 ≤ v) (h1 : v < 128 ^ i) : put7 v x i = v + (x % 128) * 128 ^ i := by
  unfold put7
  rw [and127 hx, u64_id (by omega) (by omega), w64 (by omega) (by omega)]
  unfold shl
  have hb : min (7 * (i : Int)).toNat IntKind.u64.bits = 7 * i := by
    simp only [IntKind.bits]; omega
  rw [hb]
  have hp : (128 : Int) ^ i = 2 ^ (7 * i) := by rw [Int.pow_mul]; rfl
  rw [hp] at h1 ⊢
  have hlt : v + x % 128 * 2 ^ (7 * i) < 18446744073709551616 := by
    have hc : i = 0 ∨ i = 1 ∨ i = 2 ∨ i = 3 ∨ i = 4 ∨ i = 5 ∨ i = 6 ∨ i = 7 ∨ i = 8 ∨ i = 9 := by omega
    rcases hc with h | h | h | h | h | h | h | h | h | h <;> subst h <;> simp at h1 ⊢ <;> omega
  have hnn : (0 : Int) ≤ x % 128 * 2 ^ (7 * i) := Int.mul_nonneg (by omega) (Int.pow_nonneg (by decide))
  rw [u64_id hnn (by omega)]
  exact u64_or_add (7 * i) h0 h1 (by omega) hlt

end Go.Proofs.Ytncfofnikmfjbaa.Bp

/- Numbers of some bytes: plain facts. A number's bytes, greatest first (beL) or as they are laid into a row (lay); what bytes come to (be). -/
namespace Go.Proofs.Ytncfofnikmfjbaa.Bp
open Go Go.RowKit Go.Proofs.YtncfofnikmfjbaaW.PrintWords Go.Proofs.YtncfofnikmfjbaaW.PrintLast Go.Proofs.YtncfofnikmfjbaaW.PrintMore
set_option linter.unusedVariables false
set_option linter.unusedSimpArgs false

theorem u64_shl_or {v b : Int} (h0 : 0 ≤ v) (hb : 0 ≤ b ∧ b < 256) (h : v * 256 + b < 18446744073709551616) : Go.bits .or .u64 (v * 256) b = v * 256 + b := by
  obtain ⟨a, rfl⟩ := Int.eq_ofNat_of_zero_le h0
  obtain ⟨c, rfl⟩ := Int.eq_ofNat_of_zero_le hb.1
  have e : ((a : Int) * 256) = ((2 ^ 8 * a : Nat) : Int) := by omega
  rw [e] at h ⊢
  rw [u64_or_nat _ _ (by omega) (by omega), ← Nat.two_pow_add_eq_or_of_lt (show c < 2 ^ 8 from by omega) a]
  omega

/-- The j-th byte of a number, the least one first. -/
def dg (v j : Nat) : Int := ((v / 256 ^ j % 256 : Nat) : Int)
theorem dg_byte (v j : Nat) : 0 ≤ dg v j ∧ dg v j < 256 := by unfold dg; omega
theorem dg_shr (v j : Nat) (hj : j ≤ 7) : (shr .u64 (v : Int) (8 * (j : Int))) % 256 = dg v j := by
  unfold shr dg
  simp only [IntKind.bits]
  rw [show min (8 * (j : Int)).toNat 64 = 8 * j from by omega]
  have hp : (2 : Int) ^ (8 * j) = ((256 ^ j : Nat) : Int) := by rw [Int.pow_mul, Int.natCast_pow]; rfl
  rw [hp, Int.natCast_emod, Int.natCast_ediv]
  rfl

/-- What bytes come to, the greatest first. -/
def be (l : List Int) : Int := l.foldl (fun v b => v * 256 + b) 0
theorem be_from (l : List Int) : ∀ v : Int, l.foldl (fun v b => v * 256 + b) v = v * 256 ^ l.length + be l := by
  induction l with
  | nil => intro v; simp [be]
  | cons b l ih =>
    intro v
    unfold be
    rw [List.foldl_cons, List.foldl_cons, ih, ih (0 * 256 + b), List.length_cons, Int.pow_succ, Int.add_mul, Int.mul_assoc, Int.mul_comm 256, Int.zero_mul, Int.zero_add, Int.add_assoc]
theorem be_nil : be [] = 0 := rfl
theorem be_append (l m : List Int) : be (l ++ m) = be l * 256 ^ m.length + be m := by
  unfold be
  rw [List.foldl_append]
  exact be_from m _
theorem be_snoc (l : List Int) (b : Int) : be (l ++ [b]) = be l * 256 + b := by unfold be; rw [List.foldl_append]; rfl
theorem be_cons (b : Int) (l : List Int) : be (b :: l) = b * 256 ^ l.length + be l := by
  have := be_append [b] l
  simpa [be] using this
theorem be_range (l : List Int) (h : Bytes l) : 0 ≤ be l ∧ be l < 256 ^ l.length := by
  induction l with
  | nil => exact ⟨by rw [be_nil]; omega, by rw [be_nil]; simp⟩
  | cons b l ih =>
    have h1 := ih (fun x hx => h x (by simp [hx]))
    have h2 := h b (by simp)
    have hp : (0 : Int) < 256 ^ l.length := Int.pow_pos (by decide)
    rw [be_cons, List.length_cons, Int.pow_succ, Int.mul_comm _ 256]
    have l1 : 0 * 256 ^ l.length ≤ b * 256 ^ l.length := Int.mul_le_mul_of_nonneg_right (by omega) (by omega)
    have l2 : b * 256 ^ l.length ≤ 255 * 256 ^ l.length := Int.mul_le_mul_of_nonneg_right (by omega) (by omega)
    constructor <;> omega
theorem pow256_le {a b : Nat} (h : a ≤ b) : (256 : Int) ^ a ≤ 256 ^ b := by
  obtain ⟨c, rfl⟩ := Nat.exists_eq_add_of_le h
  rw [Int.pow_add]
  have h1 : (0 : Int) < 256 ^ a := Int.pow_pos (by decide)
  have h2 : (0 : Int) < 256 ^ c := Int.pow_pos (by decide)
  have : (256 : Int) ^ a * 1 ≤ 256 ^ a * 256 ^ c := Int.mul_le_mul_of_nonneg_left (by omega) (by omega)
  omega

/-- A number's bytes, the greatest first. -/
def beL (v : Nat) : Nat → List Int
  | 0 => []
  | n + 1 => dg v n :: beL v n
theorem beL_length (v n : Nat) : (beL v n).length = n := by
  induction n with
  | zero => rfl
  | succ n ih => rw [beL, List.length_cons, ih]
theorem beL_bytes (v n : Nat) : Bytes (beL v n) := by
  induction n with
  | zero => intro x hx; simp [beL] at hx
  | succ n ih =>
    intro x hx
    rcases List.mem_cons.1 hx with rfl | hx
    · exact dg_byte v n
    · exact ih x hx
theorem beL_get (v n p : Nat) (h : p < n) : (beL v n)[p]? = some (dg v (n - 1 - p)) := by
  induction n generalizing p with
  | zero => omega
  | succ n ih =>
    rw [beL]
    cases p with
    | zero => simp
    | succ p => rw [List.getElem?_cons_succ, ih p (by omega), show n - 1 - p = n + 1 - 1 - (p + 1) from by omega]
theorem be_beL (v n : Nat) : be (beL v n) = ((v % 256 ^ n : Nat) : Int) := by
  induction n with
  | zero => simp [beL, be_nil, Nat.mod_one]
  | succ n ih =>
    rw [beL, show dg v n :: beL v n = [dg v n] ++ beL v n from rfl, be_append, ih, beL_length, Nat.pow_succ, Nat.mod_mul]
    unfold dg
    have : be [((v / 256 ^ n % 256 : Nat) : Int)] = ((v / 256 ^ n % 256 : Nat) : Int) := by simp [be]
    rw [this, Int.natCast_add, Int.natCast_mul, Int.natCast_pow, Int.mul_comm, Int.add_comm]
    rfl

/-- A row with n bytes of it, from place a on, laid anew. -/
def lay (l : List Int) (a n : Nat) (d : Nat → Int) : List Int := l.take a ++ ((List.range n).map d ++ l.drop (a + n))
theorem lay_length (l : List Int) (a n : Nat) (d : Nat → Int) (h : a + n ≤ l.length) : (lay l a n d).length = l.length := by
  unfold lay
  simp
  omega
theorem lay_get (l : List Int) (a n : Nat) (d : Nat → Int) (h : a + n ≤ l.length) (p : Nat) : (lay l a n d)[p]? = if a ≤ p ∧ p < a + n then some (d (p - a)) else l[p]? := by
  unfold lay
  by_cases h1 : p < a
  · rw [List.getElem?_append_left (by simp; omega), if_neg (by omega), List.getElem?_take_of_lt h1]
  · rw [List.getElem?_append_right (by simp; omega), List.length_take, Nat.min_eq_left (by omega)]
    by_cases h2 : p < a + n
    · rw [List.getElem?_append_left (by simp; omega), if_pos (by omega), List.getElem?_map, List.getElem?_range (by omega)]
      rfl
    · rw [List.getElem?_append_right (by simp; omega), if_neg (by omega), List.getElem?_drop, List.length_map, List.length_range]
      congr 1
      omega
theorem lay_eq {l m : List Int} {a n : Nat} {d : Nat → Int} (h : a + n ≤ l.length) (hm : ∀ p, m[p]? = if a ≤ p ∧ p < a + n then some (d (p - a)) else l[p]?) : m = lay l a n d := by
  apply List.ext_getElem?
  intro p
  rw [hm p, lay_get l a n d h p]
theorem lay_bytes (l : List Int) (a n : Nat) (d : Nat → Int) (hl : Bytes l) (hd : ∀ p, 0 ≤ d p ∧ d p < 256) : Bytes (lay l a n d) := by
  intro x hx
  unfold lay at hx
  rcases List.mem_append.1 hx with hx | hx
  · exact hl x (List.mem_of_mem_take hx)
  · rcases List.mem_append.1 hx with hx | hx
    · obtain ⟨p, _, rfl⟩ := List.mem_map.1 hx
      exact hd p
    · exact hl x (List.mem_of_mem_drop hx)
/-- What is read there. -/
theorem lay_seg (l : List Int) (a n : Nat) (d : Nat → Int) (h : a + n ≤ l.length) : ((lay l a n d).drop a).take n = (List.range n).map d := by
  unfold lay
  rw [List.drop_append_of_le_length (by simp; omega), List.drop_eq_nil_of_le (by simp; omega), List.nil_append, List.take_append_of_le_length (by simp), List.take_of_length_le (by simp)]
/-- Which byte of a number stands at which place. -/
def wh (n : Nat) (big : Bool) (p : Nat) : Nat := if big = true then n - 1 - p else p
theorem range_big (v n : Nat) : (List.range n).map (fun p => dg v (wh n true p)) = beL v n := by
  apply List.ext_getElem?
  intro p
  by_cases h : p < n
  · rw [beL_get v n p h]
    simp [h, wh]
  · rw [List.getElem?_eq_none (by simp; omega), List.getElem?_eq_none (by rw [beL_length]; omega)]
theorem range_little (v n : Nat) : (List.range n).map (fun p => dg v (wh n false p)) = (beL v n).reverse := by
  apply List.ext_getElem?
  intro p
  by_cases h : p < n
  · rw [List.getElem?_reverse (by rw [beL_length]; omega), beL_length, beL_get v n _ (by omega)]
    simp [h, wh]
    congr 1
    omega
  · rw [List.getElem?_eq_none (by simp; omega), List.getElem?_eq_none (by rw [List.length_reverse, beL_length]; omega)]
/-- A number that is read: of so many bytes from place a on, the greatest first or last. -/
def get (l : List Int) (a n : Nat) (big : Bool) : Int := be (if big = true then (l.drop a).take n else ((l.drop a).take n).reverse)
theorem seg_bytes {l : List Int} (h : Bytes l) (a n : Nat) : Bytes ((l.drop a).take n) := fun x hx => h x (List.mem_of_mem_drop (List.mem_of_mem_take hx))
theorem rev_bytes {l : List Int} (h : Bytes l) : Bytes l.reverse := fun x hx => h x (List.mem_reverse.1 hx)
theorem get_range {l : List Int} (h : Bytes l) (a n : Nat) (big : Bool) : 0 ≤ get l a n big ∧ get l a n big < 256 ^ n := by
  unfold get
  have hb := seg_bytes h a n
  have hl : ((l.drop a).take n).length ≤ n := by simp; omega
  have := pow256_le hl
  split
  · have := be_range _ hb
    omega
  · have := be_range _ (rev_bytes hb)
    rw [List.length_reverse] at this
    omega
theorem get_lay (l : List Int) (a n v : Nat) (big : Bool) (h : a + n ≤ l.length) : get (lay l a n (fun p => dg v (wh n big p))) a n big = ((v % 256 ^ n : Nat) : Int) := by
  unfold get
  rw [lay_seg l a n _ h]
  cases big with
  | true => rw [if_pos rfl, range_big, be_beL]
  | false => rw [if_neg (by simp), range_little, List.reverse_reverse, be_beL]

end Go.Proofs.Ytncfofnikmfjbaa.Bp

/- What the program's Get and Put come to, as printed. -/
namespace Go.Proofs.Ytncfofnikmfjbaa.Bp
open Go Go.RowKit Go.Proofs.Ytncfofnikmfjbaa.PCi Go.Proofs.YtncfofnikmfjbaaW.PrintWords Go.Proofs.YtncfofnikmfjbaaW.PrintLast Go.Proofs.YtncfofnikmfjbaaW.PrintMore
set_option linter.unusedVariables false
set_option linter.unusedSimpArgs false

theorem may_f (l : List Int) (a n : Int) (hl : l.length ≤ 4000000000000000000) : bits_may.f l a n = some (decide (1 ≤ n ∧ n ≤ 8 ∧ 0 ≤ a ∧ a ≤ (l.length : Int) - n)) := by
  unfold bits_may.f
  by_cases c1 : n ≥ 1
  · rw [if_pos c1]
    by_cases c2 : n ≤ 8
    · rw [if_pos c2]
      by_cases c3 : a ≥ 0
      · rw [if_pos c3, w64 (by omega) (by omega)]
        congr 1
        rw [Bool.eq_iff_iff]
        simp
        omega
      · rw [if_neg c3]
        simp
        omega
    · rw [if_neg c2]
      simp
      omega
  · rw [if_neg c1]
    simp
    omega

/-- The bytes in the order in which they are read. -/
def inOrder (l : List Int) (a n : Nat) (big : Bool) : List Int := if big = true then (l.drop a).take n else ((l.drop a).take n).reverse
theorem inOrder_length (l : List Int) (a n : Nat) (big : Bool) (h : a + n ≤ l.length) : (inOrder l a n big).length = n := by
  unfold inOrder; split <;> simp <;> omega
theorem inOrder_bytes {l : List Int} (hb : Bytes l) (a n : Nat) (big : Bool) : Bytes (inOrder l a n big) := by
  unfold inOrder
  split
  · exact seg_bytes hb a n
  · exact rev_bytes (seg_bytes hb a n)
theorem inOrder_get (l : List Int) (a n : Nat) (big : Bool) (h : a + n ≤ l.length) (i : Nat) (hi : i < n) : (inOrder l a n big)[i]? = some (rd l ((a + (if big = true then i else n - 1 - i) : Nat) : Int)) := by
  unfold inOrder
  cases big with
  | true =>
    rw [if_pos rfl, if_pos rfl, List.getElem?_take_of_lt hi, List.getElem?_drop, rd_at (by omega), List.getElem?_eq_getElem (by omega)]
  | false =>
    rw [if_neg (by simp), if_neg (by simp), List.getElem?_reverse (by simp; omega)]
    have : ((l.drop a).take n).length = n := by simp; omega
    rw [this, List.getElem?_take_of_lt (by omega), List.getElem?_drop, rd_at (by omega), List.getElem?_eq_getElem (by omega)]
theorem take_step {l : List Int} {i : Nat} {x : Int} (h : l[i]? = some x) : l.take (i + 1) = l.take i ++ [x] := by
  rw [List.take_add_one, h]
  rfl

theorem get_l0 (l : List Int) (hb : Bytes l) (hl : l.length ≤ 4000000000000000000) (a n : Nat) (big : Bool) (h : a + n ≤ l.length) (h8 : n ≤ 8) (m : Nat) : ∀ (k i : Nat), i + m = n → m + 1 ≤ k →
    bits_Get.l0 k l (a : Int) (n : Int) big (be ((inOrder l a n big).take i)) (n : Int) (i : Int) = some (get l a n big, true) := by
  induction m with
  | zero =>
    intro k i hi hk
    obtain ⟨K, rfl⟩ : ∃ K, k = K + 1 := ⟨k - 1, by omega⟩
    simp only [bits_Get.l0]
    rw [if_neg (by omega), List.take_of_length_le (by rw [inOrder_length l a n big h]; omega)]
    rfl
  | succ m ih =>
    intro k i hi hk
    obtain ⟨K, rfl⟩ : ∃ K, k = K + 1 := ⟨k - 1, by omega⟩
    simp only [bits_Get.l0]
    have g := inOrder_get l a n big h i (by omega)
    have hr := be_range ((inOrder l a n big).take i) (fun x hx => inOrder_bytes hb a n big x (List.mem_of_mem_take hx))
    have hlt : ((inOrder l a n big).take i).length ≤ 7 := by rw [List.length_take, inOrder_length l a n big h]; omega
    have hp := pow256_le hlt
    have hp7 : (256 : Int) ^ 7 = 72057594037927936 := by decide
    have step : ∀ x, x = rd l ((a + (if big = true then i else n - 1 - i) : Nat) : Int) → Go.bits .or .u64 (IntKind.u64.wrap (be ((inOrder l a n big).take i) * 256)) (IntKind.u64.wrap x) = be ((inOrder l a n big).take (i + 1)) := by
      intro x hx
      have hxb := rd_byte hb ((a + (if big = true then i else n - 1 - i) : Nat) : Int)
      rw [← hx] at hxb
      rw [u64_id (by omega) (by omega), u64_id (by omega) (by omega), u64_shl_or (by omega) hxb (by omega), take_step g, be_snoc, hx]
    rw [if_pos (by omega)]
    cases big with
    | true =>
      rw [if_pos (by trivial), w64 (by omega) (by omega), if_pos (by omega), if_pos (by omega), step _ (by simp), up64 i (by omega)]
      exact ih K (i + 1) (by omega) (by omega)
    | false =>
      rw [if_neg (by simp), w64 (x := (n : Int) - 1) (by omega) (by omega), w64 (x := (n : Int) - 1 - (i : Int)) (by omega) (by omega), w64 (by omega) (by omega), if_pos (by omega), if_pos (by omega), step _ (by rw [if_neg (by simp)]; congr 1; omega), up64 i (by omega)]
      exact ih K (i + 1) (by omega) (by omega)

theorem get_f (l : List Int) (hb : Bytes l) (hl : l.length ≤ 4000000000000000000) (a n : Nat) (big : Bool) (h1 : 1 ≤ n) (h8 : n ≤ 8) (h : a + n ≤ l.length) (k : Nat) (hk : 9 ≤ k) : bits_Get.f k l (a : Int) (n : Int) big = some (get l a n big, true) := by
  unfold bits_Get.f
  rw [may_f l _ _ hl, decide_eq_true (by omega)]
  simp only [Option.bind_some]
  rw [if_pos (by trivial)]
  exact get_l0 l hb hl a n big h h8 n k 0 (by omega) (by omega)
theorem get_none (l : List Int) (hl : l.length ≤ 4000000000000000000) (a n : Int) (big : Bool) (h : ¬ (1 ≤ n ∧ n ≤ 8 ∧ 0 ≤ a ∧ a ≤ (l.length : Int) - n)) (k : Nat) : bits_Get.f k l a n big = some (0, false) := by
  unfold bits_Get.f
  rw [may_f l _ _ hl, decide_eq_false h]
  rfl

theorem clone_f (l : List Int) (hl : l.length ≤ 140737488351232) : slices_Clone_byte_byte.f l = some l := by
  unfold slices_Clone_byte_byte.f
  simp only [Option.bind_some, List.nil_append, List.length_nil, Nat.zero_add]
  rw [if_pos (by omega)]

theorem put_l0 (l : List Int) (hl : l.length ≤ 140737488351232) (a n v : Nat) (big : Bool) (h : a + n ≤ l.length) (h8 : n ≤ 8) (m : Nat) : ∀ (k i : Nat) (c : List Int), i + m = n → m + 1 ≤ k →
    (∀ p, c[p]? = if (if big = true then a + n ≤ p + i else a ≤ p) ∧ (if big = true then p < a + n else p < a + i) then some (dg v (wh n big (p - a))) else l[p]?) → c.length = l.length →
    bits_Put.l0 k (a : Int) (n : Int) big (v : Int) c (n : Int) (i : Int) = some (lay l a n (fun p => dg v (wh n big p)), true) := by
  induction m with
  | zero =>
    intro k i c hi hk hc hcl
    obtain ⟨K, rfl⟩ : ∃ K, k = K + 1 := ⟨k - 1, by omega⟩
    simp only [bits_Put.l0]
    rw [if_neg (by omega)]
    congr 2
    refine lay_eq h (fun p => ?_)
    rw [hc p]
    have e : ((if big = true then a + n ≤ p + i else a ≤ p) ∧ (if big = true then p < a + n else p < a + i)) ↔ (a ≤ p ∧ p < a + n) := by
      cases big with
      | true => simp only [if_true]; omega
      | false => simp only [Bool.false_eq_true, if_false]; omega
    simp only [e]
  | succ m ih =>
    intro k i c hi hk hc hcl
    obtain ⟨K, rfl⟩ : ∃ K, k = K + 1 := ⟨k - 1, by omega⟩
    simp only [bits_Put.l0]
    rw [if_pos (by omega), w64 (x := 8 * (i : Int)) (by omega) (by omega), dg_shr v i (by omega), up64 i (by omega)]
    have go : ∀ q : Nat, q = a + (if big = true then n - 1 - i else i) → ∀ p, (c.set q (dg v i))[p]? = if (if big = true then a + n ≤ p + (i + 1) else a ≤ p) ∧ (if big = true then p < a + n else p < a + (i + 1)) then some (dg v (wh n big (p - a))) else l[p]? := by
      intro q hq p
      rw [List.getElem?_set]
      by_cases e : q = p
      · subst e
        rw [if_pos rfl, if_pos (by rw [hcl]; cases big <;> simp at hq <;> omega)]
        cases big with
        | true =>
          simp only [if_true] at hq ⊢
          rw [if_pos (by omega)]
          unfold wh
          rw [if_pos rfl, show n - 1 - (q - a) = i from by omega]
        | false =>
          simp only [Bool.false_eq_true, if_false] at hq ⊢
          rw [if_pos (by omega)]
          unfold wh
          rw [if_neg (by simp), show q - a = i from by omega]
      · rw [if_neg e, hc p]
        cases big with
        | true =>
          simp only [if_true] at hq ⊢
          by_cases d : a + n ≤ p + i ∧ p < a + n
          · rw [if_pos d, if_pos (by omega)]
          · rw [if_neg d, if_neg (by omega)]
        | false =>
          simp only [Bool.false_eq_true, if_false] at hq ⊢
          by_cases d : a ≤ p ∧ p < a + i
          · rw [if_pos d, if_pos (by omega)]
          · rw [if_neg d, if_neg (by omega)]
    cases big with
    | true =>
      rw [if_pos (by trivial), if_pos (by omega), w64 (x := (n : Int) - 1) (by omega) (by omega), w64 (x := (n : Int) - 1 - (i : Int)) (by omega) (by omega), w64 (by omega) (by omega), if_pos (by omega), if_pos (by omega)]
      refine ih K (i + 1) _ (by omega) (by omega) (go _ ?_) (by rw [List.length_set]; exact hcl)
      rw [if_pos rfl]; omega
    | false =>
      rw [if_neg (by simp), if_pos (by omega), w64 (by omega) (by omega), if_pos (by omega), if_pos (by omega)]
      refine ih K (i + 1) _ (by omega) (by omega) (go _ ?_) (by rw [List.length_set]; exact hcl)
      rw [if_neg (by simp)]; omega

theorem put_f (l : List Int) (hl : l.length ≤ 140737488351232) (a n v : Nat) (big : Bool) (h1 : 1 ≤ n) (h8 : n ≤ 8) (h : a + n ≤ l.length) (k : Nat) (hk : 9 ≤ k) : bits_Put.f k l (a : Int) (n : Int) big (v : Int) = some (lay l a n (fun p => dg v (wh n big p)), true) := by
  unfold bits_Put.f
  rw [may_f l _ _ (by omega), decide_eq_true (by omega), clone_f l hl]
  simp only [Option.bind_some]
  rw [if_pos (by trivial)]
  refine put_l0 l hl a n v big h h8 n k 0 l (by omega) (by omega) (fun p => ?_) rfl
  rw [if_neg]
  cases big with
  | true => simp only [if_true]; omega
  | false => simp only [Bool.false_eq_true, if_false]; omega
theorem put_none (l : List Int) (hl : l.length ≤ 4000000000000000000) (a n v : Int) (big : Bool) (h : ¬ (1 ≤ n ∧ n ≤ 8 ∧ 0 ≤ a ∧ a ≤ (l.length : Int) - n)) (k : Nat) : bits_Put.f k l a n big v = some ([], false) := by
  unfold bits_Put.f
  rw [may_f l _ _ hl, decide_eq_false h]
  rfl

end Go.Proofs.Ytncfofnikmfjbaa.Bp

namespace Go.Proofs.Ytncfofnikmfjbaa.PCi
open Go.RowKit Go.Proofs.YtncfofnikmfjbaaW.PrintWords Go.Proofs.YtncfofnikmfjbaaW.PrintLast Go.Proofs.YtncfofnikmfjbaaW.PrintMore
attribute [local go_sem] max2_int min2_int max_two min_two max_three min_three max_four min_four
set_option linter.unusedVariables false
set_option linter.unusedSimpArgs false

/-! ### codec: a writer at a block, what it leaves as it is -/
/-- Bytes' blocks. -/
def IsU8 (o : Obj) : Prop := ∃ cells fr, o = .cells cells 5 fr
/-- All stands but block g and own rows of bytes. -/
structure KeepW (w w' : World) (g base : Nat) : Prop where
  below : Below base w w'
  keep : ∀ i o, i ≠ g → w.heap[i]? = some o → ¬ (base ≤ i ∧ IsU8 o) → w'.heap[i]? = some o
theorem KeepW.refl (w : World) (g base : Nat) : KeepW w w g base := ⟨Below.refl _ _, fun _ _ _ h _ => h⟩
theorem KeepW.trans {w w1 w2 : World} {g base : Nat} (h : KeepW w w1 g base) (k : KeepW w1 w2 g base) : KeepW w w2 g base :=
  ⟨h.below.trans k.below, fun i o hi ho hn => k.keep i o hi (h.keep i o hi ho hn) hn⟩
theorem KeepW.of_below {w w1 : World} {g base : Nat} (h : Below w.heap.size w w1) (hb : base ≤ w.heap.size) : KeepW w w1 g base :=
  ⟨h.mono hb, fun i o _ ho _ => blk_below ho h⟩
theorem KeepW.drewN {w w1 : World} {g base : Nat} (h : KeepW w w1 g base) (n : Nat) : KeepW w (w1.drewN n) g base := ⟨pw_below_drewN h.below n, h.keep⟩
theorem KeepW.set {w w1 : World} {g base : Nat} (h : KeepW w w1 g base) (hg : base ≤ g) (j : Nat) (u : Value) : KeepW w (w1.setCell ⟨g, j, none⟩ u) g base :=
  ⟨h.below.setCell (p := ⟨g, j, none⟩) hg u, fun i o hi ho hn => (Below.heap_setCell w1 ⟨g, j, none⟩ u i hi).trans (h.keep i o hi ho hn)⟩
theorem KeepW.grown {w w1 w2 : World} {g base : Nat} {ok : Nat → Prop} {v : Value} {xs : List Int} (h : KeepW w w1 g base) (hr : Kd.R (Kd.int .u8) 5 w1 base ok v xs) (hg : w1.grownBy w2 v.ownBlock) (hb : Below base w w2) : KeepW w w2 g base := by
  refine ⟨hb, fun i o hi ho hn => ?_⟩
  have h1 := h.keep i o hi ho hn
  refine (hg.block i (blk_lt h1) (fun e => ?_)).trans h1
  obtain ⟨inner, hown⟩ := Kd.R_own hr
  obtain ⟨cells, hc⟩ := own_typed hown i e.symm
  rw [hc] at h1
  exact hn ⟨own_base hown i e.symm, cells, (0, 0), (Option.some.inj h1).symm⟩
theorem KeepW.blk {w w1 : World} {g base i t : Nat} {cells : Array Value} {fr : Nat × Nat} (h : KeepW w w1 g base) (hb : w.heap[i]? = some (.cells cells t fr)) (hi : i ≠ g) (ht : t ≠ 5) : w1.heap[i]? = some (.cells cells t fr) :=
  h.keep i _ hi hb (fun ⟨_, c, f, e⟩ => ht (by injection e))
/-- A writer at block g: its bytes, is it over? -/
def Wr (W : World) (g base : Nat) (xs : List Int) (bad : Bool) : Prop := ∃ A c, W.heap[g]? = some (.cells #[.slice A xs.length c, .bool bad] 64 (0, 0)) ∧ Kd.R (Kd.int .u8) 5 W base (fun _ => True) (.slice A xs.length c) xs
theorem Wr.mk' {W : World} {g base : Nat} {v : Value} {xs : List Int} {bad : Bool} (h : W.heap[g]? = some (.cells #[v, .bool bad] 64 (0, 0))) (hr : Kd.R (Kd.int .u8) 5 W base (fun _ => True) v xs) : Wr W g base xs bad := by
  obtain ⟨A, c, rfl⟩ := Kd.R_slice hr
  exact ⟨A, c, h, hr⟩
theorem Wr.bad {W : World} {g base : Nat} {xs : List Int} {bad : Bool} (h : Wr W g base xs bad) (b : Bool) : Wr (W.setCell ⟨g, 1, none⟩ (.bool b)) g base xs b := by
  obtain ⟨A, c, h1, h2⟩ := h
  exact ⟨A, c, by simpa using blk_set h1 1 (.bool b), Kd.R_set h2 h1 (by decide) 1 _⟩
theorem info_u8 : (Try.prog.info? 5).map (fun i => (i.zero, i.size, i.bytes)) = some (some (.int .u8 0), 1, 1) := by kernel_rfl
/-- A number's bytes, as a writer writes them: the greatest first. -/
def nb (v : Int) (n : Nat) : List Int := Bp.beL (v % 18446744073709551616).toNat n
theorem nb_len (v : Int) (n : Nat) : (nb v n).length = n := Bp.beL_length _ _
theorem put_nb (v : Int) (n : Nat) (h1 : 1 ≤ n) (h8 : n ≤ 8) : bits_Put.f 9 (List.replicate n 0) 0 (n : Int) true (IntKind.u64.wrap v) = some (nb v n, true) := by
  have hv : IntKind.u64.wrap v = (((v % 18446744073709551616).toNat : Nat) : Int) := by rw [IntKind.wrap_u64]; omega
  have hp := Bp.put_f (List.replicate n 0) (by rw [List.length_replicate]; omega) 0 n (v % 18446744073709551616).toNat true h1 h8 (by rw [List.length_replicate]; omega) 9 (Nat.le_refl _)
  rw [hv]
  refine hp.trans ?_
  congr 2
  unfold Bp.lay
  rw [Bp.range_big]
  simp [nb]

theorem Wr.below {W W1 : World} {g base : Nat} {xs : List Int} {bad : Bool} (h : Wr W g base xs bad) (hb : Below W.heap.size W W1) : Wr W1 g base xs bad := by
  obtain ⟨A, c, h1, h2⟩ := h
  exact ⟨A, c, blk_below h1 hb, Kd.R_below h2 hb⟩
theorem Wr.drewN {W : World} {g base : Nat} {xs : List Int} {bad : Bool} (h : Wr W g base xs bad) (n : Nat) : Wr (W.drewN n) g base xs bad := by
  obtain ⟨A, c, h1, h2⟩ := h
  exact ⟨A, c, h1, Kd.R_drewN h2 n⟩
set_option maxHeartbeats 4000000 in
set_option maxRecDepth 100000 in
theorem wr_numberN (g base : Nat) (xs : List Int) (bad : Bool) (v size : Int) (ys : List Int) (w : World) (hF : Wr w g base xs bad) (hg : base ≤ g) (hb : base ≤ w.heap.size) (h1 : 1 ≤ size) (h8 : size ≤ 8) (hx : xs.length ≤ 1000000000)
    (hp : bits_Put.f 9 (List.replicate size.toNat 0) 0 size true (IntKind.u64.wrap v) = some (ys, true)) (hy : ys.length = size.toNat) :
    Calls Try.prog 28 #[.pointer (some ⟨g, 0, none⟩), .int .i64 v, .int .i64 size] w fun e w' => e = .returned (.tuple #[]) ∧ Wr w' g base (xs ++ ys) bad ∧ KeepW w w' g base := by
  obtain ⟨A, c, hF1, hF2⟩ := hF
  have HF1 := Aside0.mk hF1
  have HF2 := Aside0.mk hF2
  have HG := Aside0.mk hg
  have HB := Aside0.mk hb
  have HP := Aside0.mk hp
  have HX := Aside0.mk hx
  have HY := Aside0.mk hy
  have H1 := Aside0.mk h1
  have H8 := Aside0.mk h8
  obtain ⟨zl, hzl⟩ : ∃ zl : List Int, zl = List.replicate size.toNat 0 := ⟨_, rfl⟩
  have HZ := Aside0.mk hzl
  have HZN := Aside0.mk (show zl.length = size.toNat from by rw [hzl, List.length_replicate])
  clear hF1 hF2 hg hb hp hx hy h1 h8 hzl
  go_enter Try.func28, Try.ntmps28
  go_wp2_with ((with_reducible refine gate_dst (N := 10) rfl ?_); refine Kd.R_make (Kd.int .u8) _ 5 rfl (N := 10) rfl 29 _ _ rfl size rfl rfl Try.underlying29 (.int .u8 0) 1 info_u8 rfl (by decide) (by decide) 0 (ok := fun _ => True) (okp := fun _ => True) rfl (fun _ hk => hk) trivial (by have := H1.out; omega) (by have := H8.out; omega) (Below.refl _ _) (Nat.le_refl _) ?_; intro vm w3 hm hb hg_ hnew_; clear hg_ hnew_; rw [← HZ.out] at hm; obtain ⟨Am, cm, em⟩ := Kd.R_slice hm; subst em; have HM3 := Aside0.mk hm; have HB3 := Aside0.mk hb; clear hm hb)
  refine (bits_Put.calls 9 Am cm zl 0 size true (IntKind.u64.wrap v) ys true w3 (Kd.R_reads' HM3.out).2.2 (Kd.R_reads' HM3.out).2.1 (by rw [HZ.out]; exact HP.out)).mono ?_
  rintro e y1 ⟨vo, rfl, ho, hbl⟩
  have HB1 := Aside0.mk (HB3.out.trans (hbl.mono HB3.out.size))
  have HY1 := Aside0.mk ho
  have HW1 := Aside0.mk (Wr.below ⟨A, c, HF1.out, HF2.out⟩ HB1.out)
  obtain ⟨Ao, co, eo⟩ := Kd.R_slice ho
  subst eo
  clear ho hbl HM3 HF1 HF2 HB3
  obtain ⟨A1, c1, hg1, hr1⟩ := HW1.out
  have HR1 := Aside0.mk hr1
  have HG1 := Aside0.mk hg1
  have q0 : y1.cell? ⟨g, 0, none⟩ = some (.slice A1 xs.length c1) := (blk_cell hg1 0).trans rfl
  have z0 : y1.frozen? ⟨g, 0, none⟩ = false := blk_frozen hg1 0
  clear hr1 hg1 HW1
  obtain ⟨ws, hws⟩ : ∃ ws, ws = xs ++ ys := ⟨_, rfl⟩
  have HWS := Aside0.mk hws
  clear hws
  go_wp2_with ((with_reducible refine gate_builtin (b := .append) (xs := #[.tmp 21, .tmp 22]) rfl ?_); refine Kd.R_append_rows (Kd.int .u8) (w0 := w) base rfl (.tmp 21) (.tmp 22) 29 5 (.int .u8 0) 1 rfl Try.underlying29 info_u8 rfl (by decide) (by decide) (.slice A1 xs.length c1) xs ys Ao ys.length co (fun _ => True) (fun _ => False) rfl rfl HR1.out (Kd.R_reads' HY1.out).2.2 (fun _ _ h => h) (fun _ h => h.elim) (fun _ _ => trivial) (HB1.out.mono HB.out) (Nat.le_trans HB.out HB1.out.size) ?aL ?_; (case aL => have := HX.out; have := HY.out; have := H8.out; omega); intro v2 w2 ho hb hg hat; rw [← HWS.out] at ho; obtain ⟨A2, c2, e2⟩ := Kd.R_slice ho; subst e2; have HO2 := Aside0.mk ho; have HK2 := Aside0.mk ((KeepW.of_below HB1.out HB.out).grown (g := g) HR1.out hg hb); have hG2 := hg.block g (blk_lt HG1.out) (Kd.R_ne HR1.out HG1.out (by decide)); rw [HG1.out] at hG2; have HG2 := Aside0.mk hG2; have z0 : w2.frozen? ⟨g, 0, none⟩ = false := blk_frozen hG2 0; have q0 : w2.cell? ⟨g, 0, none⟩ = some (.slice A1 xs.length c1) := (blk_cell hG2 0).trans rfl; clear ho hb hg hat hG2)
  refine bodyPost_end (v := .tuple #[]) (by simp [results, Try.results28, go_sem]) rfl ?_
  refine ⟨rfl, ?_, HK2.out.set HG.out 0 _⟩
  rw [← HWS.out]
  exact Wr.mk' (by simpa using blk_set HG2.out 0 (.slice A2 ws.length c2)) (Kd.R_set HO2.out HG2.out (by decide) 0 _)
theorem wr_number (g base : Nat) (xs : List Int) (bad : Bool) (v : Int) (n : Nat) (w : World) (hF : Wr w g base xs bad) (hg : base ≤ g) (hb : base ≤ w.heap.size) (h1 : 1 ≤ n) (h8 : n ≤ 8) (hx : xs.length ≤ 1000000000) :
    Calls Try.prog 28 #[.pointer (some ⟨g, 0, none⟩), .int .i64 v, .int .i64 (n : Int)] w fun e w' => e = .returned (.tuple #[]) ∧ Wr w' g base (xs ++ nb v n) bad ∧ KeepW w w' g base :=
  wr_numberN g base xs bad v n (nb v n) w hF hg hb (by omega) (by omega) hx (by rw [Int.toNat_natCast]; exact put_nb v n h1 h8) (nb_len v n)

end Go.Proofs.Ytncfofnikmfjbaa.PCi

namespace Go.Proofs.Ytncfofnikmfjbaa.PCi
open Go.RowKit Go.Proofs.YtncfofnikmfjbaaW.PrintWords Go.Proofs.YtncfofnikmfjbaaW.PrintLast Go.Proofs.YtncfofnikmfjbaaW.PrintMore
attribute [local go_sem] max2_int min2_int max_two min_two max_three min_three max_four min_four
set_option linter.unusedVariables false
set_option linter.unusedSimpArgs false

/-! ### codec: a message -/
structure Msg where
  kind : Int
  id : Int
  topic : ByteArray
  part : Int
  parts : Int
  seg : Int
  byt : Int
  age : Int
  comp : Bool
  delay : Int
  prod : Int
  seq : Int
  u1 : Value
  off : Int
  max : Int
  time : Int
  group : ByteArray
  akind : Int
  aid : Int
  acode : Int
  aoff : Int
  astart : Int
  anext : Int
  u2 : Value
  u3 : Value
  u4 : Value
def Msg.cells (m : Msg) : Array Value := #[.int .i64 m.kind, .int .i64 m.id, .string m.topic, .int .i64 m.part, .int .i64 m.parts, .int .i64 m.seg, .int .i64 m.byt, .int .i64 m.age, .bool m.comp, .int .i64 m.delay, .int .i64 m.prod, .int .i64 m.seq, m.u1, .int .i64 m.off, .int .i64 m.max, .int .i64 m.time, .string m.group, .int .i64 m.akind, .int .i64 m.aid, .int .i64 m.acode, .int .i64 m.aoff, .int .i64 m.astart, .int .i64 m.anext, m.u2, m.u3, m.u4]
def slotI (which f : Int) : Nat := if f = 2 then 3 else if f = 3 then 4 else if f = 4 then 5 else if f = 5 then 6 else if f = 6 then 7 else if f = 8 then 9 else if f = 9 then 10 else if f = 10 then 11 else if f = 12 then 14 else if f = 13 then 15 else if f = 14 then 21 else if f = 15 then 22 else if which = 0 then 13 else 20
def Msg.num (m : Msg) (which f : Int) : Int := if f = 2 then m.part else if f = 3 then m.parts else if f = 4 then m.seg else if f = 5 then m.byt else if f = 6 then m.age else if f = 8 then m.delay else if f = 9 then m.prod else if f = 10 then m.seq else if f = 12 then m.max else if f = 13 then m.time else if f = 14 then m.astart else if f = 15 then m.anext else if which = 0 then m.off else m.aoff
def Msg.put (m : Msg) (which f x : Int) : Msg := if f = 2 then { m with part := x } else if f = 3 then { m with parts := x } else if f = 4 then { m with seg := x } else if f = 5 then { m with byt := x } else if f = 6 then { m with age := x } else if f = 8 then { m with delay := x } else if f = 9 then { m with prod := x } else if f = 10 then { m with seq := x } else if f = 12 then { m with max := x } else if f = 13 then { m with time := x } else if f = 14 then { m with astart := x } else if f = 15 then { m with anext := x } else if which = 0 then { m with off := x } else { m with aoff := x }
theorem Msg.num_cell (m : Msg) (which f : Int) : m.cells[slotI which f]? = some (.int .i64 (m.num which f)) := by
  unfold slotI Msg.num
  by_cases h2 : f = 2
  · simp only [if_pos h2]; rfl
  simp only [if_neg h2]
  by_cases h3 : f = 3
  · simp only [if_pos h3]; rfl
  simp only [if_neg h3]
  by_cases h4 : f = 4
  · simp only [if_pos h4]; rfl
  simp only [if_neg h4]
  by_cases h5 : f = 5
  · simp only [if_pos h5]; rfl
  simp only [if_neg h5]
  by_cases h6 : f = 6
  · simp only [if_pos h6]; rfl
  simp only [if_neg h6]
  by_cases h8 : f = 8
  · simp only [if_pos h8]; rfl
  simp only [if_neg h8]
  by_cases h9 : f = 9
  · simp only [if_pos h9]; rfl
  simp only [if_neg h9]
  by_cases h10 : f = 10
  · simp only [if_pos h10]; rfl
  simp only [if_neg h10]
  by_cases h12 : f = 12
  · simp only [if_pos h12]; rfl
  simp only [if_neg h12]
  by_cases h13 : f = 13
  · simp only [if_pos h13]; rfl
  simp only [if_neg h13]
  by_cases h14 : f = 14
  · simp only [if_pos h14]; rfl
  simp only [if_neg h14]
  by_cases h15 : f = 15
  · simp only [if_pos h15]; rfl
  simp only [if_neg h15]
  by_cases hw : which = 0
  · simp only [if_pos hw]; rfl
  simp only [if_neg hw]; rfl
theorem Msg.put_cell (m : Msg) (which f x : Int) : m.cells.setIfInBounds (slotI which f) (.int .i64 x) = (m.put which f x).cells := by
  unfold slotI Msg.put
  by_cases h2 : f = 2
  · simp only [if_pos h2]; rfl
  simp only [if_neg h2]
  by_cases h3 : f = 3
  · simp only [if_pos h3]; rfl
  simp only [if_neg h3]
  by_cases h4 : f = 4
  · simp only [if_pos h4]; rfl
  simp only [if_neg h4]
  by_cases h5 : f = 5
  · simp only [if_pos h5]; rfl
  simp only [if_neg h5]
  by_cases h6 : f = 6
  · simp only [if_pos h6]; rfl
  simp only [if_neg h6]
  by_cases h8 : f = 8
  · simp only [if_pos h8]; rfl
  simp only [if_neg h8]
  by_cases h9 : f = 9
  · simp only [if_pos h9]; rfl
  simp only [if_neg h9]
  by_cases h10 : f = 10
  · simp only [if_pos h10]; rfl
  simp only [if_neg h10]
  by_cases h12 : f = 12
  · simp only [if_pos h12]; rfl
  simp only [if_neg h12]
  by_cases h13 : f = 13
  · simp only [if_pos h13]; rfl
  simp only [if_neg h13]
  by_cases h14 : f = 14
  · simp only [if_pos h14]; rfl
  simp only [if_neg h14]
  by_cases h15 : f = 15
  · simp only [if_pos h15]; rfl
  simp only [if_neg h15]
  by_cases hw : which = 0
  · simp only [if_pos hw]; rfl
  simp only [if_neg hw]; rfl
/-- A message at block h. -/
def MsAt (W : World) (h : Nat) (m : Msg) : Prop := W.heap[h]? = some (.cells m.cells 67 (0, 0))
theorem MsAt.cell {W : World} {h : Nat} {m : Msg} (hm : MsAt W h m) (j : Nat) : W.cell? ⟨h, j, none⟩ = m.cells[j]? := blk_cell hm j
theorem MsAt.free {W : World} {h : Nat} {m : Msg} (hm : MsAt W h m) (j : Nat) : W.frozen? ⟨h, j, none⟩ = false := blk_frozen hm j
theorem MsAt.put {W : World} {h : Nat} {m : Msg} (hm : MsAt W h m) (which f x : Int) : MsAt (W.setCell ⟨h, slotI which f, none⟩ (.int .i64 x)) h (m.put which f x) := by
  have := blk_set hm (slotI which f) (.int .i64 x)
  rw [Msg.put_cell] at this
  exact this
theorem MsAt.keep {w W : World} {g base h : Nat} {m : Msg} (hm : MsAt w h m) (hk : KeepW w W g base) (hh : h ≠ g) : MsAt W h m := hk.blk hm hh (by decide)
set_option maxHeartbeats 4000000 in
set_option maxRecDepth 100000 in
theorem message_text.calls (h : Nat) (f : Int) (w : World) : Calls Try.prog 45 #[.pointer (some ⟨h, 0, none⟩), .int .i64 f] w fun e w' => e = .returned (.pointer (some ⟨h, if f = 0 then 2 else 16, none⟩)) ∧ w' = w := by
  by_cases hf : f = 0
  · have d : (f == 0) = true := beq_iff_eq.2 hf
    rw [if_pos hf]
    clear hf
    go_enter Try.func45, Try.ntmps45
    go_wp2
    go_ret
    exact ⟨rfl, rfl⟩
  · have d : (f == 0) = false := beq_eq_false_iff_ne.2 hf
    rw [if_neg hf]
    clear hf
    go_enter Try.func45, Try.ntmps45
    go_wp2
    go_ret
    exact ⟨rfl, rfl⟩
set_option maxHeartbeats 4000000 in
set_option maxRecDepth 100000 in
theorem message_int.calls (h : Nat) (which f : Int) (w : World) : Calls Try.prog 53 #[.pointer (some ⟨h, 0, none⟩), .int .i64 which, .int .i64 f] w fun e w' => e = .returned (.pointer (some ⟨h, slotI which f, none⟩)) ∧ w' = w := by
  obtain ⟨s, hs⟩ : ∃ s, s = slotI which f := ⟨_, rfl⟩
  have HS := Aside0.mk hs
  rw [← hs]
  clear hs
  by_cases h2 : f = 2
  · have d2 : (f == 2) = true := beq_iff_eq.2 h2
    have e : s = 3 := by rw [HS.out]; unfold slotI; simp [*]
    subst e
    clear h2 HS
    go_enter Try.func53, Try.ntmps53
    go_wp2
    go_ret
    exact ⟨rfl, rfl⟩
  have d2 : (f == 2) = false := beq_eq_false_iff_ne.2 h2
  by_cases h3 : f = 3
  · have d3 : (f == 3) = true := beq_iff_eq.2 h3
    have e : s = 4 := by rw [HS.out]; unfold slotI; simp [*]
    subst e
    clear h2 h3 HS
    go_enter Try.func53, Try.ntmps53
    go_wp2
    go_ret
    exact ⟨rfl, rfl⟩
  have d3 : (f == 3) = false := beq_eq_false_iff_ne.2 h3
  by_cases h4 : f = 4
  · have d4 : (f == 4) = true := beq_iff_eq.2 h4
    have e : s = 5 := by rw [HS.out]; unfold slotI; simp [*]
    subst e
    clear h2 h3 h4 HS
    go_enter Try.func53, Try.ntmps53
    go_wp2
    go_ret
    exact ⟨rfl, rfl⟩
  have d4 : (f == 4) = false := beq_eq_false_iff_ne.2 h4
  by_cases h5 : f = 5
  · have d5 : (f == 5) = true := beq_iff_eq.2 h5
    have e : s = 6 := by rw [HS.out]; unfold slotI; simp [*]
    subst e
    clear h2 h3 h4 h5 HS
    go_enter Try.func53, Try.ntmps53
    go_wp2
    go_ret
    exact ⟨rfl, rfl⟩
  have d5 : (f == 5) = false := beq_eq_false_iff_ne.2 h5
  by_cases h6 : f = 6
  · have d6 : (f == 6) = true := beq_iff_eq.2 h6
    have e : s = 7 := by rw [HS.out]; unfold slotI; simp [*]
    subst e
    clear h2 h3 h4 h5 h6 HS
    go_enter Try.func53, Try.ntmps53
    go_wp2
    go_ret
    exact ⟨rfl, rfl⟩
  have d6 : (f == 6) = false := beq_eq_false_iff_ne.2 h6
  by_cases h8 : f = 8
  · have d8 : (f == 8) = true := beq_iff_eq.2 h8
    have e : s = 9 := by rw [HS.out]; unfold slotI; simp [*]
    subst e
    clear h2 h3 h4 h5 h6 h8 HS
    go_enter Try.func53, Try.ntmps53
    go_wp2
    go_ret
    exact ⟨rfl, rfl⟩
  have d8 : (f == 8) = false := beq_eq_false_iff_ne.2 h8
  by_cases h9 : f = 9
  · have d9 : (f == 9) = true := beq_iff_eq.2 h9
    have e : s = 10 := by rw [HS.out]; unfold slotI; simp [*]
    subst e
    clear h2 h3 h4 h5 h6 h8 h9 HS
    go_enter Try.func53, Try.ntmps53
    go_wp2
    go_ret
    exact ⟨rfl, rfl⟩
  have d9 : (f == 9) = false := beq_eq_false_iff_ne.2 h9
  by_cases h10 : f = 10
  · have d10 : (f == 10) = true := beq_iff_eq.2 h10
    have e : s = 11 := by rw [HS.out]; unfold slotI; simp [*]
    subst e
    clear h2 h3 h4 h5 h6 h8 h9 h10 HS
    go_enter Try.func53, Try.ntmps53
    go_wp2
    go_ret
    exact ⟨rfl, rfl⟩
  have d10 : (f == 10) = false := beq_eq_false_iff_ne.2 h10
  by_cases h12 : f = 12
  · have d12 : (f == 12) = true := beq_iff_eq.2 h12
    have e : s = 14 := by rw [HS.out]; unfold slotI; simp [*]
    subst e
    clear h2 h3 h4 h5 h6 h8 h9 h10 h12 HS
    go_enter Try.func53, Try.ntmps53
    go_wp2
    go_ret
    exact ⟨rfl, rfl⟩
  have d12 : (f == 12) = false := beq_eq_false_iff_ne.2 h12
  by_cases h13 : f = 13
  · have d13 : (f == 13) = true := beq_iff_eq.2 h13
    have e : s = 15 := by rw [HS.out]; unfold slotI; simp [*]
    subst e
    clear h2 h3 h4 h5 h6 h8 h9 h10 h12 h13 HS
    go_enter Try.func53, Try.ntmps53
    go_wp2
    go_ret
    exact ⟨rfl, rfl⟩
  have d13 : (f == 13) = false := beq_eq_false_iff_ne.2 h13
  by_cases h14 : f = 14
  · have d14 : (f == 14) = true := beq_iff_eq.2 h14
    have e : s = 21 := by rw [HS.out]; unfold slotI; simp [*]
    subst e
    clear h2 h3 h4 h5 h6 h8 h9 h10 h12 h13 h14 HS
    go_enter Try.func53, Try.ntmps53
    go_wp2
    go_ret
    exact ⟨rfl, rfl⟩
  have d14 : (f == 14) = false := beq_eq_false_iff_ne.2 h14
  by_cases h15 : f = 15
  · have d15 : (f == 15) = true := beq_iff_eq.2 h15
    have e : s = 22 := by rw [HS.out]; unfold slotI; simp [*]
    subst e
    clear h2 h3 h4 h5 h6 h8 h9 h10 h12 h13 h14 h15 HS
    go_enter Try.func53, Try.ntmps53
    go_wp2
    go_ret
    exact ⟨rfl, rfl⟩
  have d15 : (f == 15) = false := beq_eq_false_iff_ne.2 h15
  by_cases hw : which = 0
  · have dw : (which == 0) = true := beq_iff_eq.2 hw
    have e : s = 13 := by rw [HS.out]; unfold slotI; simp [*]
    subst e
    clear h2 h3 h4 h5 h6 h8 h9 h10 h12 h13 h14 h15 hw HS
    go_enter Try.func53, Try.ntmps53
    go_wp2
    go_ret
    exact ⟨rfl, rfl⟩
  · have dw : (which == 0) = false := beq_eq_false_iff_ne.2 hw
    have e : s = 20 := by rw [HS.out]; unfold slotI; simp [*]
    subst e
    clear h2 h3 h4 h5 h6 h8 h9 h10 h12 h13 h14 h15 hw HS
    go_enter Try.func53, Try.ntmps53
    go_wp2
    go_ret
    exact ⟨rfl, rfl⟩

end Go.Proofs.Ytncfofnikmfjbaa.PCi

namespace Go.Proofs.Ytncfofnikmfjbaa.PCi
open Go.RowKit Go.Proofs.YtncfofnikmfjbaaW.PrintWords Go.Proofs.YtncfofnikmfjbaaW.PrintLast Go.Proofs.YtncfofnikmfjbaaW.PrintMore
attribute [local go_sem] max2_int min2_int max_two min_two max_three min_three max_four min_four
set_option linter.unusedVariables false
set_option linter.unusedSimpArgs false

/-! ### codec: a reader at a block -/
structure KeepR (w w' : World) (g base : Nat) : Prop where
  below : Below base w w'
  keep : ∀ i o, i ≠ g → w.heap[i]? = some o → w'.heap[i]? = some o
theorem KeepR.refl (w : World) (g base : Nat) : KeepR w w g base := ⟨Below.refl _ _, fun _ _ _ h => h⟩
theorem KeepR.trans {w w1 w2 : World} {g base : Nat} (h : KeepR w w1 g base) (k : KeepR w1 w2 g base) : KeepR w w2 g base := ⟨h.below.trans k.below, fun i o hi ho => k.keep i o hi (h.keep i o hi ho)⟩
theorem KeepR.of_below {w w1 : World} {g base : Nat} (h : Below w.heap.size w w1) (hb : base ≤ w.heap.size) : KeepR w w1 g base := ⟨h.mono hb, fun i o _ ho => blk_below ho h⟩
theorem KeepR.drewN {w w1 : World} {g base : Nat} (h : KeepR w w1 g base) (n : Nat) : KeepR w (w1.drewN n) g base := ⟨pw_below_drewN h.below n, h.keep⟩
theorem KeepR.set {w w1 : World} {g base : Nat} (h : KeepR w w1 g base) (hg : base ≤ g) (j : Nat) (u : Value) : KeepR w (w1.setCell ⟨g, j, none⟩ u) g base :=
  ⟨h.below.setCell (p := ⟨g, j, none⟩) hg u, fun i o hi ho => (Below.heap_setCell w1 ⟨g, j, none⟩ u i hi).trans (h.keep i o hi ho)⟩
/-- A reader at block g, and what it has still to read (read at the world u). -/
def Rd (u W : World) (g : Nat) (l : List Int) (bad : Bool) : Prop := ∃ A c, W.heap[g]? = some (.cells #[.slice A l.length c, .bool bad] 88 (0, 0)) ∧ l.length ≤ c ∧ Kd.C (Kd.int .u8) u A l.length l ∧ Bp.Bytes l
theorem Rd.turn {u W : World} {g : Nat} {l : List Int} {bad : Bool} (h : Rd u W g l bad) (b : Bool) : Rd u (W.setCell ⟨g, 1, none⟩ (.bool b)) g l b := by
  obtain ⟨A, c, h1, h2⟩ := h
  exact ⟨A, c, by simpa using blk_set h1 1 (.bool b), h2⟩
theorem Rd.below {u W W1 : World} {g : Nat} {l : List Int} {bad : Bool} (h : Rd u W g l bad) (hb : Below W.heap.size W W1) : Rd u W1 g l bad := by
  obtain ⟨A, c, h1, h2⟩ := h
  exact ⟨A, c, blk_below h1 hb, h2⟩
theorem Rd.drewN {u W : World} {g : Nat} {l : List Int} {bad : Bool} (h : Rd u W g l bad) (n : Nat) : Rd u (W.drewN n) g l bad := h
theorem Rd.lt {u W : World} {g : Nat} {l : List Int} {bad : Bool} (h : Rd u W g l bad) : g < W.heap.size := by
  obtain ⟨A, c, h1, _⟩ := h
  exact blk_lt h1
theorem Rd.len {u W : World} {g : Nat} {l : List Int} {bad : Bool} (h : Rd u W g l bad) : (l.length : Int) ≤ 9223372036854775807 := by
  obtain ⟨A, c, _, _, h1, _⟩ := h
  have := h1.2.1
  omega
/-- Some bytes: what is read, what is left, is it over? -/
def rdBytes (n : Int) (l : List Int) (bad : Bool) : List Int × List Int × Bool := if bad = true ∨ (l.length : Int) < n then ([], l, true) else (l.take n.toNat, l.drop n.toNat, false)
set_option maxHeartbeats 4000000 in
set_option maxRecDepth 100000 in
theorem rd_bytes (u : World) (g : Nat) (l : List Int) (bad : Bool) (n : Int) (r l2 : List Int) (bad2 : Bool) (w : World) (hF : Rd u w g l bad) (hg : u.heap.size ≤ g) (hu : Below u.heap.size u w) (hn : 0 ≤ n) (h : rdBytes n l bad = (r, l2, bad2)) :
    Calls Try.prog 63 #[.pointer (some ⟨g, 0, none⟩), .int .i64 n] w fun e w' => (∃ A c, e = .returned (.slice A r.length c) ∧ r.length ≤ c ∧ Kd.C (Kd.int .u8) u A r.length r) ∧ Rd u w' g l2 bad2 ∧ KeepR w w' g u.heap.size := by
  have HF := Aside0.mk hF
  have HGE := Aside0.mk hg
  have HU := Aside0.mk hu
  clear hF hg hu
  unfold rdBytes at h
  obtain ⟨A, c, h1, h2, h3, h4⟩ := HF.out
  have q0 : w.cell? ⟨g, 0, none⟩ = some (.slice A l.length c) := (blk_cell h1 0).trans rfl
  have q1 : w.cell? ⟨g, 1, none⟩ = some (.bool bad) := (blk_cell h1 1).trans rfl
  have z0 : w.frozen? ⟨g, 0, none⟩ = false := blk_frozen h1 0
  have z1 : w.frozen? ⟨g, 1, none⟩ = false := blk_frozen h1 1
  cases bad with
  | true =>
    have hc : (true = true ∨ (l.length : Int) < n) := .inl rfl
    rw [if_pos hc, Prod.mk.injEq, Prod.mk.injEq] at h
    obtain ⟨rfl, rfl, rfl⟩ := h
    clear hn hc h1 h2 h3 h4
    go_enter Try.func63, Try.ntmps63
    go_wp2
    go_ret
    exact ⟨⟨none, 0, rfl, Nat.le_refl _, Kd.C_nil _ _⟩, HF.out.turn true, (KeepR.refl _ _ _).set HGE.out 1 _⟩
  | false =>
    by_cases d : (l.length : Int) < n
    · have d0 : decide ((l.length : Int) < n) = true := decide_eq_true d
      have hc : (false = true ∨ (l.length : Int) < n) := .inr d
      rw [if_pos hc, Prod.mk.injEq, Prod.mk.injEq] at h
      obtain ⟨rfl, rfl, rfl⟩ := h
      clear d hn hc h1 h2 h3 h4
      go_enter Try.func63, Try.ntmps63
      go_wp2
      go_ret
      exact ⟨⟨none, 0, rfl, Nat.le_refl _, Kd.C_nil _ _⟩, HF.out.turn true, (KeepR.refl _ _ _).set HGE.out 1 _⟩
    · have d0 : decide ((l.length : Int) < n) = false := decide_eq_false d
      rw [if_neg (by simp [d]), Prod.mk.injEq, Prod.mk.injEq] at h
      obtain ⟨rfl, rfl, rfl⟩ := h
      obtain ⟨i0, hi0, _, hsz, _⟩ := info_parts info_u8
      obtain ⟨A1, hcut1, hA1, hC1⟩ := print_drop_of (P := Try.prog) (Value.int .u8) 0 29 5 .i64 Try.underlying29 hi0 hsz A c l n hn (by omega) h2
      obtain ⟨hcut2, hA2, hC2⟩ := print_take_of (P := Try.prog) (Value.int .u8) 0 29 5 .i64 Try.underlying29 hi0 hsz A c l n hn (by omega) h2
      have R1 := Aside0.mk (Kd.C_of_reads (h1 := fun _ => rfl) (hA1 _ (Kd.reads_of_C h3)))
      have R2 := Aside0.mk (Kd.C_of_reads (h1 := fun _ => rfl) (hA2 _ (Kd.reads_of_C h3)))
      have C1 := Aside0.mk hC1
      have C2 := Aside0.mk hC2
      have G1 := Aside0.mk h1
      have B4 := Aside0.mk (show Bp.Bytes (l.drop n.toNat) from fun x hx => h4 x (List.mem_of_mem_drop hx))
      obtain ⟨la, hla⟩ : ∃ x, x = l.drop n.toNat := ⟨_, rfl⟩
      obtain ⟨lb, hlb⟩ : ∃ x, x = l.take n.toNat := ⟨_, rfl⟩
      rw [← hla] at hcut1 R1 C1 B4 ⊢
      rw [← hlb] at hcut2 R2 C2 ⊢
      clear hn d hA1 hC1 hA2 hC2 h1 h2 h3 h4 hla hlb hi0 hsz
      go_enter Try.func63, Try.ntmps63
      go_wp2
      go_ret
      exact ⟨⟨A, c, rfl, C2.out, R2.out⟩, ⟨A1, _, by simpa using blk_set G1.out 0 (.slice A1 la.length (c - n.toNat)), C1.out, R1.out, B4.out⟩, (KeepR.refl _ _ _).set HGE.out 0 _⟩
/-- A number of some bytes. -/
def rdNum (n : Nat) (l : List Int) (bad : Bool) : Int × List Int × Bool := if bad = true ∨ l.length < n then (0, l, true) else (wrap64 (Bp.be (l.take n)), l.drop n, false)
/-- A text. -/
def rdText (l : List Int) (bad : Bool) : ByteArray × List Int × Bool := (strOfNums (rdBytes (rdNum 2 l bad).1 (rdNum 2 l bad).2.1 (rdNum 2 l bad).2.2).1, (rdBytes (rdNum 2 l bad).1 (rdNum 2 l bad).2.1 (rdNum 2 l bad).2.2).2)
theorem get_be (l r : List Int) (n : Nat) (h1 : 1 ≤ n) (h8 : n ≤ 8) (hr : r = l.take n ∨ r = []) (hl : Bp.Bytes l) (hlen : r = [] ∨ n ≤ l.length) : ∃ ok, bits_Get.f 9 r 0 (n : Int) true = some ((if r = [] then 0 else Bp.be r), ok) := by
  by_cases he : r = []
  · subst he
    exact ⟨false, by rw [Bp.get_none [] (by simp) 0 n true (by simp; omega) 9]; rfl⟩
  · have hn : n ≤ l.length := hlen.resolve_left he
    have hr' : r = l.take n := hr.resolve_right he
    have hrl : r.length = n := by rw [hr', List.length_take]; omega
    refine ⟨true, ?_⟩
    rw [if_neg he]
    have := Bp.get_f r (fun x hx => hl x (by rw [hr'] at hx; exact List.mem_of_mem_take hx)) (by omega) 0 n true h1 h8 (by omega) 9 (Nat.le_refl _)
    rw [show ((0 : Nat) : Int) = 0 from rfl] at this
    rw [this]
    congr 2
    unfold Bp.get
    rw [if_pos rfl, List.drop_zero, List.take_of_length_le (by omega)]
theorem rdBytes_num {n : Nat} {l r l2 : List Int} {bad bad2 : Bool} (h : rdBytes (n : Int) l bad = (r, l2, bad2)) (h1 : 1 ≤ n) : (r = l.take n ∨ r = []) ∧ (r = [] ∨ n ≤ l.length) ∧ rdNum n l bad = (wrap64 (if r = [] then 0 else Bp.be r), l2, bad2) := by
  unfold rdBytes at h
  unfold rdNum
  by_cases hc : bad = true ∨ l.length < n
  · rw [if_pos (by rcases hc with hc | hc; exact .inl hc; exact .inr (by omega)), Prod.mk.injEq, Prod.mk.injEq] at h
    obtain ⟨rfl, rfl, rfl⟩ := h
    rw [if_pos hc]
    exact ⟨.inr rfl, .inl rfl, by rw [if_pos rfl, show wrap64 0 = 0 from by unfold wrap64; omega]⟩
  · have hn : n ≤ l.length := by
      rcases Nat.lt_or_ge l.length n with h_ | h_
      · exact absurd (.inr h_) hc
      · exact h_
    rw [if_neg (fun h_ => hc (h_.elim .inl (fun h_ => .inr (by omega)))), Prod.mk.injEq, Prod.mk.injEq] at h
    obtain ⟨h3, h4, h5⟩ := h
    rw [Int.toNat_natCast] at h3 h4
    have hne : r ≠ [] := fun e => by
      have : r.length = n := by rw [← h3, List.length_take]; omega
      rw [e] at this
      simp at this
      omega
    rw [if_neg hc, if_neg hne]
    subst h3 h4 h5
    exact ⟨.inl rfl, .inr hn, rfl⟩
theorem Rd.bytes {u W : World} {g : Nat} {l : List Int} {bad : Bool} (h : Rd u W g l bad) : Bp.Bytes l := by
  obtain ⟨A, c, _, _, _, h1⟩ := h
  exact h1
set_option maxHeartbeats 4000000 in
set_option maxRecDepth 100000 in
theorem rd_number (u : World) (g : Nat) (l : List Int) (bad : Bool) (n : Nat) (v : Int) (l2 : List Int) (bad2 : Bool) (w : World) (hF : Rd u w g l bad) (hg : u.heap.size ≤ g) (hu : Below u.heap.size u w) (h1 : 1 ≤ n) (h8 : n ≤ 8) (h : rdNum n l bad = (v, l2, bad2)) :
    Calls Try.prog 36 #[.pointer (some ⟨g, 0, none⟩), .int .i64 (n : Int)] w fun e w' => e = .returned (.int .i64 v) ∧ Rd u w' g l2 bad2 ∧ KeepR w w' g u.heap.size := by
  obtain ⟨⟨r, l3, bad3⟩, hr⟩ : ∃ x, x = rdBytes (n : Int) l bad := ⟨_, rfl⟩
  obtain ⟨k1, k2, k3⟩ := rdBytes_num hr.symm h1
  rw [h, Prod.mk.injEq, Prod.mk.injEq] at k3
  obtain ⟨rfl, rfl, rfl⟩ := k3
  obtain ⟨ok, hget⟩ := get_be l r n h1 h8 k1 hF.bytes k2
  obtain ⟨t, ht⟩ : ∃ t, t = (if r = [] then 0 else Bp.be r) := ⟨_, rfl⟩
  rw [← ht] at hget ⊢
  have HF := Aside0.mk hF
  have HGE := Aside0.mk hg
  have HU := Aside0.mk hu
  have HR := Aside0.mk hr.symm
  have HT := Aside0.mk hget
  clear hF hg hu h1 h8 h hr k1 k2 hget ht
  go_enter Try.func36, Try.ntmps36
  go_wp2_with fail
  refine (rd_bytes u g l bad n r l2 bad2 w HF.out HGE.out HU.out (by omega) HR.out).mono ?_
  rintro e w1 ⟨⟨A, c, rfl, h1, h2⟩, h3, h4⟩
  have H1 := Aside0.mk h1
  have H2 := Aside0.mk h2
  have H3 := Aside0.mk h3
  have H4 := Aside0.mk h4
  clear h1 h2 h3 h4
  go_wp2_with fail
  refine (bits_Get.calls 9 A c r 0 n true t ok w1 (Kd.C_below H2.out (HU.out.trans H4.out.below)) H1.out HT.out).mono ?_
  rintro e w2 ⟨rfl, ⟨m, rfl⟩⟩
  have H5 := Aside0.mk (H3.out.drewN m)
  have H6 := Aside0.mk (H4.out.drewN m)
  clear H3 H4
  go_wp2_with fail
  go_ret
  exact ⟨rfl, H5.out, H6.out⟩
theorem rdNum_le {n : Nat} {l : List Int} {bad : Bool} (hl : Bp.Bytes l) (hn : n ≤ 7) : 0 ≤ (rdNum n l bad).1 ∧ (rdNum n l bad).1 < 256 ^ n := by
  unfold rdNum
  have hp : (0 : Int) < 256 ^ n := Int.pow_pos (by decide)
  split
  · exact ⟨by simp, hp⟩
  · have h1 := Bp.be_range (l.take n) (fun x hx => hl x (List.mem_of_mem_take hx))
    have h2 : (256 : Int) ^ (l.take n).length ≤ 256 ^ n := Bp.pow256_le (by rw [List.length_take]; omega)
    have h3 : (256 : Int) ^ n ≤ 256 ^ 7 := Bp.pow256_le hn
    have h4 : (256 : Int) ^ 7 = 72057594037927936 := by decide
    have e : wrap64 (Bp.be (l.take n)) = Bp.be (l.take n) := by unfold wrap64; omega
    dsimp only
    rw [e]
    omega
set_option maxHeartbeats 4000000 in
set_option maxRecDepth 100000 in
theorem rd_text (u : World) (g : Nat) (l : List Int) (bad : Bool) (s : ByteArray) (l2 : List Int) (bad2 : Bool) (w : World) (hF : Rd u w g l bad) (hg : u.heap.size ≤ g) (hu : Below u.heap.size u w) (h : rdText l bad = (s, l2, bad2)) :
    Calls Try.prog 64 #[.pointer (some ⟨g, 0, none⟩)] w fun e w' => e = .returned (.string s) ∧ Rd u w' g l2 bad2 ∧ KeepR w w' g u.heap.size := by
  obtain ⟨⟨n, l3, bad3⟩, hn⟩ : ∃ x, x = rdNum 2 l bad := ⟨_, rfl⟩
  have hn0 := (rdNum_le (n := 2) (bad := bad) hF.bytes (by decide)).1
  unfold rdText at h
  rw [← hn] at h hn0
  obtain ⟨⟨r, l4, bad4⟩, hr⟩ : ∃ x, x = rdBytes n l3 bad3 := ⟨_, rfl⟩
  dsimp only at h hn0
  rw [← hr, Prod.mk.injEq, Prod.mk.injEq] at h
  obtain ⟨rfl, rfl, rfl⟩ := h
  dsimp only
  have HF := Aside0.mk hF
  have HGE := Aside0.mk hg
  have HU := Aside0.mk hu
  have HN := Aside0.mk hn.symm
  have HR := Aside0.mk hr.symm
  have HN0 := Aside0.mk hn0
  clear hF hg hu hn hr hn0
  go_enter Try.func64, Try.ntmps64
  go_wp2_with fail
  refine (rd_number u g l bad 2 n l3 bad3 w HF.out HGE.out HU.out (by decide) (by decide) HN.out).mono ?_
  rintro e w1 ⟨rfl, h3, h4⟩
  have H3 := Aside0.mk h3
  have H4 := Aside0.mk h4
  clear h3 h4
  go_wp2_with fail
  refine (rd_bytes u g l3 bad3 n r l4 bad4 w1 H3.out HGE.out (HU.out.trans H4.out.below) HN0.out HR.out).mono ?_
  rintro e w2 ⟨⟨A, c, rfl, h1, h2⟩, h3, h4⟩
  have H5 := Aside0.mk h3
  have H6 := Aside0.mk (H4.out.trans h4)
  have hcv := Kd.C_string (P := Try.prog) (A := A) (c := c) Try.underlying29 Try.underlying5 Try.underlying9 (Kd.C_below h2 (HU.out.trans H6.out.below))
  clear h1 h2 h3 h4 H3 H4
  go_wp2_with fail
  go_ret
  exact ⟨rfl, H5.out, H6.out⟩

end Go.Proofs.Ytncfofnikmfjbaa.PCi
