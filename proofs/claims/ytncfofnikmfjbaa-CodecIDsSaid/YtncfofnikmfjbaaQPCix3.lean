-- written by a program of this session (wip/tools/pr.py, over the kit's printer): not by hand
import Derived.Test.YtncfofnikmfjbaaQPCix2
namespace Go.Proofs.Ytncfofnikmfjbaa.PCi
open Go.RowKit Go.Proofs.YtncfofnikmfjbaaW.PrintWords Go.Proofs.YtncfofnikmfjbaaW.PrintLast Go.Proofs.YtncfofnikmfjbaaW.PrintMore
attribute [local go_sem] max2_int min2_int max_two min_two max_three min_three max_four min_four   -- for this text's walks alone
set_option linter.unusedVariables false
set_option linter.unusedSimpArgs false

attribute [local go_sem high] eqA98
-- NOT PRINTED: function 27 (codec_fields)

/-! ### bits_may: function 76 -/
def bits_may.f (l0 : List Int) (a1 : Int) (a2 : Int) : Option (Bool) := if a2 ≥ 1 then (if a2 ≤ 8 then (if a1 ≥ 0 then (some (decide (a1 ≤ (wrap64 ((l0.length : Int) - a2))))) else (some false)) else (some false)) else (some false)
set_option maxHeartbeats 8000000 in
set_option maxRecDepth 100000 in
theorem bits_may.calls (A0 : Option Addr) (c0 : Nat) (l0 : List Int) (a1 : Int) (a2 : Int) (r : Bool) (w : World) (hr0 : Kd.C (Kd.int .u8) w A0 l0.length l0) (hc0 : l0.length ≤ c0) (h : bits_may.f l0 a1 a2 = some r) :
    Calls Try.prog 76 #[.slice A0 l0.length c0, .int .i64 a1, .int .i64 a2] w fun e w' => e = .returned (.bool r) ∧ Drawn0 w w' := by
  have HR0 := Aside0.mk hr0
  have HC0 := Aside0.mk hc0
  clear hr0 hc0
  have H : (if a2 ≥ 1 then (if a2 ≤ 8 then (if a1 ≥ 0 then (some (decide (a1 ≤ (wrap64 ((l0.length : Int) - a2))))) else (some false)) else (some false)) else (some false)) = some r := h
  clear h
  by_cases c4 : a2 ≥ 1
  · rw [if_pos c4] at H
    have c4b0 : decide (1 ≤ a2) = true := decide_eq_true c4
    clear c4
    by_cases c5 : a2 ≤ 8
    · rw [if_pos c5] at H
      have c5b0 : decide (a2 ≤ 8) = true := decide_eq_true c5
      clear c5
      by_cases c6 : a1 ≥ 0
      · rw [if_pos c6] at H
        have c6b0 : decide (0 ≤ a1) = true := decide_eq_true c6
        clear c6
        obtain rfl := Option.some.inj H
        go_enter Try.func76, Try.ntmps76
        go_wp2
        go_ret
        exact ⟨by first | rfl | (simp; done) | (simp [*]; done) | exact congrArg Value.bool (ne_empty _) | exact congrArg Value.bool (eq_empty _), by repeat (first | exact Drawn0.refl _ | apply Drawn0.step)⟩
      · rw [if_neg c6] at H
        have c6b0 : decide (0 ≤ a1) = false := decide_eq_false c6
        clear c6
        obtain rfl := Option.some.inj H
        go_enter Try.func76, Try.ntmps76
        go_wp2
        go_ret
        exact ⟨by first | rfl | (simp; done) | (simp [*]; done) | exact congrArg Value.bool (ne_empty _) | exact congrArg Value.bool (eq_empty _), by repeat (first | exact Drawn0.refl _ | apply Drawn0.step)⟩
    · rw [if_neg c5] at H
      have c5b0 : decide (a2 ≤ 8) = false := decide_eq_false c5
      clear c5
      obtain rfl := Option.some.inj H
      go_enter Try.func76, Try.ntmps76
      go_wp2
      go_ret
      exact ⟨by first | rfl | (simp; done) | (simp [*]; done) | exact congrArg Value.bool (ne_empty _) | exact congrArg Value.bool (eq_empty _), by repeat (first | exact Drawn0.refl _ | apply Drawn0.step)⟩
  · rw [if_neg c4] at H
    have c4b0 : decide (1 ≤ a2) = false := decide_eq_false c4
    clear c4
    obtain rfl := Option.some.inj H
    go_enter Try.func76, Try.ntmps76
    go_wp2
    go_ret
    exact ⟨by first | rfl | (simp; done) | (simp [*]; done) | exact congrArg Value.bool (ne_empty _) | exact congrArg Value.bool (eq_empty _), by repeat (first | exact Drawn0.refl _ | apply Drawn0.step)⟩

/-! ### bits_Get: function 62 -/
def bits_Get.l0 : Nat → List Int → Int → Int → Bool → Int → Int → Int → Option (Int × Bool)
  | 0, _, _, _, _, _, _, _ => none
  | k + 1, x0, x1, x2, x3, x8, x17, x18 => if x18 < x17 then (if x3 = true then (if 0 ≤ (wrap64 (x1 + x18)) then (if (wrap64 (x1 + x18)) < (x0.length : Int) then (bits_Get.l0 k x0 x1 x2 x3 (Go.bits .or .u64 (IntKind.u64.wrap (x8 * 256)) (IntKind.u64.wrap (rd x0 (wrap64 (x1 + x18))))) x17 (wrap64 (x18 + 1))) else (none)) else (none)) else (if 0 ≤ (wrap64 (x1 + (wrap64 ((wrap64 (x2 - 1)) - x18)))) then (if (wrap64 (x1 + (wrap64 ((wrap64 (x2 - 1)) - x18)))) < (x0.length : Int) then (bits_Get.l0 k x0 x1 x2 x3 (Go.bits .or .u64 (IntKind.u64.wrap (x8 * 256)) (IntKind.u64.wrap (rd x0 (wrap64 (x1 + (wrap64 ((wrap64 (x2 - 1)) - x18))))))) x17 (wrap64 (x18 + 1))) else (none)) else (none))) else (some (x8, true))
def bits_Get.f (k : Nat) (l0 : List Int) (a1 : Int) (a2 : Int) (a3 : Bool) : Option (Int × Bool) := (bits_may.f l0 a1 a2).bind fun t101 => (if t101 = true then (bits_Get.l0 k l0 a1 a2 a3 0 a2 0) else (some (0, false)))
set_option maxHeartbeats 8000000 in
set_option maxRecDepth 100000 in
theorem bits_Get.calls (k : Nat) (A0 : Option Addr) (c0 : Nat) (l0 : List Int) (a1 : Int) (a2 : Int) (a3 : Bool) (r1 : Int) (r2 : Bool) (w : World) (hr0 : Kd.C (Kd.int .u8) w A0 l0.length l0) (hc0 : l0.length ≤ c0) (h : bits_Get.f k l0 a1 a2 a3 = some (r1, r2)) :
    Calls Try.prog 62 #[.slice A0 l0.length c0, .int .i64 a1, .int .i64 a2, .bool a3] w fun e w' => e = .returned (.tuple #[.int .u64 r1, .bool r2]) ∧ Drawn0 w w' := by
  have HR0 := Aside0.mk hr0
  have HC0 := Aside0.mk hc0
  clear hr0 hc0
  have H : ((bits_may.f l0 a1 a2).bind fun t101 => (if t101 = true then (bits_Get.l0 k l0 a1 a2 a3 0 a2 0) else (some (0, false)))) = some (r1, r2) := h
  clear h
  replace H := Option.bind_eq_some_iff.mp H
  obtain ⟨t101, A50, H⟩ := H
  replace H : (if t101 = true then (bits_Get.l0 k l0 a1 a2 a3 0 a2 0) else (some (0, false))) = some (r1, r2) := H
  have A5 := Aside0.mk A50
  clear A50
  by_cases c6 : t101 = true
  · subst c6
    have H1 : (bits_Get.l0 k l0 a1 a2 a3 0 a2 0) = some (r1, r2) := by rw [if_pos rfl] at H; exact H
    clear H
    have H := H1
    clear H1
    have H' := Aside0.mk H
    clear H
    go_enter Try.func62, Try.ntmps62
    go_wp2_with (first | ((with_reducible refine gate_callee (f := 76) rfl ?_); refine goesL_ (some 15) rfl rfl Try.func76 (by kernel_rfl) rfl #[.slice A0 l0.length c0, .int .i64 a1, .int .i64 a2] rfl (by (try simp only [List.map_toArray, List.map_cons, List.map_nil]); first | done | rfl | (simp only [List.length_drop, List.length_take]; rfl)) ?_; (with_reducible refine (bits_may.calls _ _ l0 a1 a2 true _ ?side1 ?side2 A5.out).mono ?_); (case side1 => repeat (first | exact HR0.out | (with_reducible refine Kd.C_alloc ?_ _) | (with_reducible refine Kd.C_drewN ?_ _) | (with_reducible refine Kd.C_drew ?_))); (case side2 => exact HC0.out); rintro e w' ⟨rfl, ⟨nd, rfl⟩⟩; refine ⟨_, rfl, ?_⟩))
    go_loopg [8, 18] k (fun kq v8 v18 w' => ∃ (x8_1 : Int) (x18_1 : Int), v8 = .int .u64 x8_1 ∧ v18 = .int .i64 x18_1 ∧ Aside0 (bits_Get.l0 kq l0 a1 a2 a3 x8_1 a2 x18_1 = some (r1, r2)) ∧ Aside0 (kq ≤ k) ∧ Drawn0 w w')
    case atStart => exact ⟨(0), (0), (by first | rfl | (simp; done) | (simp [*]; done) | exact congrArg Value.bool (ne_empty _) | exact congrArg Value.bool (eq_empty _)), (by first | rfl | (simp; done) | (simp [*]; done) | exact congrArg Value.bool (ne_empty _) | exact congrArg Value.bool (eq_empty _)), H', ⟨Nat.le_refl _⟩, by repeat (first | exact Drawn0.refl _ | apply Drawn0.step)⟩
    case round =>
      clear H'
      try clear p2
      try clear c6
      obtain ⟨x8_1, x18_1, rfl, rfl, HA, HK1, ⟨m1, rfl⟩⟩ := hrel
      cases gk with
      | zero => exact absurd HA.out (by first | (intro h_; exact nomatch (show (none : Option _) = some r from h_)) | simp [bits_Get.l0])
      | succ k1 =>
        have H := HA.out
        clear HA
        simp only [bits_Get.l0] at H
        by_cases c7 : x18_1 < a2
        · rw [if_pos c7] at H
          have c7b0 : decide (x18_1 < a2) = true := decide_eq_true c7
          clear c7
          by_cases c8 : a3 = true
          · subst c8
            have H1 : (if 0 ≤ (wrap64 (a1 + x18_1)) then (if (wrap64 (a1 + x18_1)) < (l0.length : Int) then (bits_Get.l0 k1 l0 a1 a2 true (Go.bits .or .u64 (IntKind.u64.wrap (x8_1 * 256)) (IntKind.u64.wrap (rd l0 (wrap64 (a1 + x18_1))))) a2 (wrap64 (x18_1 + 1))) else (none)) else (none)) = some (r1, r2) := by rw [if_pos rfl] at H; exact H
            clear H
            have H := H1
            clear H1
            obtain ⟨ji9, hji9⟩ : ∃ j_ : Int, (wrap64 (a1 + x18_1)) = j_ := ⟨_, rfl⟩
            replace H : (if 0 ≤ (ji9) then (if (ji9) < (l0.length : Int) then (bits_Get.l0 k1 l0 a1 a2 true (Go.bits .or .u64 (IntKind.u64.wrap (x8_1 * 256)) (IntKind.u64.wrap (rd l0 (ji9)))) a2 (wrap64 (x18_1 + 1))) else (none)) else (none)) = some (r1, r2) := by first | (rw [hji9] at H; exact H) | (simp only [hji9] at H ⊢; exact H)
            have hji9w : (IntKind.i64.wrap (a1 + x18_1)) = ji9 := (i64_w _).trans hji9
            by_cases c10 : 0 ≤ (ji9)
            · rw [if_pos c10] at H
              have c10b0 : decide (0 ≤ (ji9)) = true := decide_eq_true c10
              clear c10
              by_cases c11 : (ji9) < (l0.length : Int)
              · rw [if_pos c11] at H
                have c11b0 : decide ((ji9) < (l0.length : Int)) = true := decide_eq_true c11
                clear c11
                have H' := Aside0.mk H
                clear H
                have p102 : 0 ≤ ((ji9) : Int) := of_decide_eq_true (by first | (with_reducible assumption) | assumption)
                have q102 : (ji9) < (l0.length : Int) := of_decide_eq_true (by first | (with_reducible assumption) | assumption)
                obtain ⟨ad102, e102, hx102_0⟩ := Kd.at_int HR0.out (ji9) p102 q102
                cases e102
                replace p102 := eq_true p102
                replace q102 := eq_true q102
                go_wp2
                go_roundg k1
                case measure => have := HK1.out; omega
                case rel => exact ⟨(Go.bits .or .u64 (IntKind.u64.wrap (x8_1 * 256)) (IntKind.u64.wrap (rd l0 (ji9)))), (wrap64 (x18_1 + 1)), (by first | rfl | (simp; done) | (simp only [← hji9] <;> (first | rfl | simp)) | (simp [*]; done)), (by first | rfl | (simp; done) | (simp [*]; done) | exact congrArg Value.bool (ne_empty _) | exact congrArg Value.bool (eq_empty _)), H', ⟨by have := HK1.out; omega⟩, by repeat (first | exact Drawn0.refl _ | apply Drawn0.step)⟩
              · rw [if_neg c11] at H
                exact absurd H (by simp)
            · rw [if_neg c10] at H
              exact absurd H (by simp)
          · replace c8 := Bool.eq_false_iff.mpr c8
            subst c8
            have H1 : (if 0 ≤ (wrap64 (a1 + (wrap64 ((wrap64 (a2 - 1)) - x18_1)))) then (if (wrap64 (a1 + (wrap64 ((wrap64 (a2 - 1)) - x18_1)))) < (l0.length : Int) then (bits_Get.l0 k1 l0 a1 a2 false (Go.bits .or .u64 (IntKind.u64.wrap (x8_1 * 256)) (IntKind.u64.wrap (rd l0 (wrap64 (a1 + (wrap64 ((wrap64 (a2 - 1)) - x18_1))))))) a2 (wrap64 (x18_1 + 1))) else (none)) else (none)) = some (r1, r2) := by rw [if_neg (show ¬ (false = true) by decide)] at H; exact H
            clear H
            have H := H1
            clear H1
            obtain ⟨ji12, hji12⟩ : ∃ j_ : Int, (wrap64 (a1 + (wrap64 ((wrap64 (a2 - 1)) - x18_1)))) = j_ := ⟨_, rfl⟩
            replace H : (if 0 ≤ (ji12) then (if (ji12) < (l0.length : Int) then (bits_Get.l0 k1 l0 a1 a2 false (Go.bits .or .u64 (IntKind.u64.wrap (x8_1 * 256)) (IntKind.u64.wrap (rd l0 (ji12)))) a2 (wrap64 (x18_1 + 1))) else (none)) else (none)) = some (r1, r2) := by first | (rw [hji12] at H; exact H) | (simp only [hji12] at H ⊢; exact H)
            have hji12w : (IntKind.i64.wrap (a1 + (wrap64 ((wrap64 (a2 - 1)) - x18_1)))) = ji12 := (i64_w _).trans hji12
            by_cases c13 : 0 ≤ (ji12)
            · rw [if_pos c13] at H
              have c13b0 : decide (0 ≤ (ji12)) = true := decide_eq_true c13
              clear c13
              by_cases c14 : (ji12) < (l0.length : Int)
              · rw [if_pos c14] at H
                have c14b0 : decide ((ji12) < (l0.length : Int)) = true := decide_eq_true c14
                clear c14
                have H' := Aside0.mk H
                clear H
                have p103 : 0 ≤ ((ji12) : Int) := of_decide_eq_true (by first | (with_reducible assumption) | assumption)
                have q103 : (ji12) < (l0.length : Int) := of_decide_eq_true (by first | (with_reducible assumption) | assumption)
                obtain ⟨ad103, e103, hx103_0⟩ := Kd.at_int HR0.out (ji12) p103 q103
                cases e103
                replace p103 := eq_true p103
                replace q103 := eq_true q103
                go_wp2
                go_roundg k1
                case measure => have := HK1.out; omega
                case rel => exact ⟨(Go.bits .or .u64 (IntKind.u64.wrap (x8_1 * 256)) (IntKind.u64.wrap (rd l0 (ji12)))), (wrap64 (x18_1 + 1)), (by first | rfl | (simp; done) | (simp only [← hji12] <;> (first | rfl | simp)) | (simp [*]; done)), (by first | rfl | (simp; done) | (simp [*]; done) | exact congrArg Value.bool (ne_empty _) | exact congrArg Value.bool (eq_empty _)), H', ⟨by have := HK1.out; omega⟩, by repeat (first | exact Drawn0.refl _ | apply Drawn0.step)⟩
              · rw [if_neg c14] at H
                exact absurd H (by simp)
            · rw [if_neg c13] at H
              exact absurd H (by simp)
        · rw [if_neg c7] at H
          have c7b0 : decide (x18_1 < a2) = false := decide_eq_false c7
          clear c7
          simp only [Option.some.injEq, Prod.mk.injEq] at H
          obtain ⟨rfl, rfl⟩ := H
          go_wp2
          go_ret2
          exact ⟨by first | rfl | (simp; done) | (simp [*]; done) | exact congrArg Value.bool (ne_empty _) | exact congrArg Value.bool (eq_empty _), by repeat (first | exact Drawn0.refl _ | apply Drawn0.step)⟩
  · replace c6 := Bool.eq_false_iff.mpr c6
    subst c6
    have H1 : (some (0, false)) = some (r1, r2) := by rw [if_neg (show ¬ (false = true) by decide)] at H; exact H
    clear H
    have H := H1
    clear H1
    simp only [Option.some.injEq, Prod.mk.injEq] at H
    obtain ⟨rfl, rfl⟩ := H
    go_enter Try.func62, Try.ntmps62
    go_wp2_with (first | ((with_reducible refine gate_callee (f := 76) rfl ?_); refine goesL_ (some 15) rfl rfl Try.func76 (by kernel_rfl) rfl #[.slice A0 l0.length c0, .int .i64 a1, .int .i64 a2] rfl (by (try simp only [List.map_toArray, List.map_cons, List.map_nil]); first | done | rfl | (simp only [List.length_drop, List.length_take]; rfl)) ?_; (with_reducible refine (bits_may.calls _ _ l0 a1 a2 false _ ?side1 ?side2 A5.out).mono ?_); (case side1 => repeat (first | exact HR0.out | (with_reducible refine Kd.C_alloc ?_ _) | (with_reducible refine Kd.C_drewN ?_ _) | (with_reducible refine Kd.C_drew ?_))); (case side2 => exact HC0.out); rintro e w' ⟨rfl, ⟨nd, rfl⟩⟩; refine ⟨_, rfl, ?_⟩))
    go_ret2
    exact ⟨by first | rfl | (simp; done) | (simp [*]; done) | exact congrArg Value.bool (ne_empty _) | exact congrArg Value.bool (eq_empty _), by repeat (first | exact Drawn0.refl _ | apply Drawn0.step)⟩

-- NOT PRINTED: function 63 (codec_reader_bytes)

-- NOT PRINTED: function 36 (codec_reader_number)

-- NOT PRINTED: function 45 (codec_message_text)

-- NOT PRINTED: function 53 (codec_message_int)

-- NOT PRINTED: function 64 (codec_reader_text)

-- NOT PRINTED: function 65 (api_Record_65)

-- NOT PRINTED: function 67 (codec_all_string)

-- NOT PRINTED: function 68 (codec_all_int)

-- NOT PRINTED: function 70 (api_Batch_70)

-- NOT PRINTED: function 37 (codec_reader_field)

-- NOT PRINTED: function 16 (codec_ParseRequest)

theorem nil_of_C {α : Type} {d : Kd α} {w : World} {xs : List α} (h : d.C w none xs.length xs) : xs = [] := by
  cases xs with
  | nil => rfl
  | cons x xs => obtain ⟨ad, e, _⟩ := h.2.2 (by simp); cases e
/-! ### slices_Clone_byte_byte: function 77 -/
def slices_Clone_byte_byte.f (l0 : List Int) : Option (List Int) := (some (([] : List Int) : List Int)).bind fun y107 => (if y107.length + l0.length < 140737488355328 then (some (y107 ++ l0)) else (none))
set_option maxHeartbeats 8000000 in
set_option maxRecDepth 100000 in
theorem slices_Clone_byte_byte.calls (A0 : Option Addr) (c0 : Nat) (l0 : List Int) (r : List Int) (w : World) (hr0 : Kd.C (Kd.int .u8) w A0 l0.length l0) (hc0 : l0.length ≤ c0) (h : slices_Clone_byte_byte.f l0 = some r) :
    Calls Try.prog 77 #[.slice A0 l0.length c0] w fun e w' => ∃ v0_ : Value, e = .returned (v0_) ∧ Kd.R (Kd.int .u8) 5 w' w.heap.size (fun _ => True) v0_ r ∧ Below w.heap.size w w' := by
  have HR0 := Aside0.mk hr0
  have HC0 := Aside0.mk hc0
  clear hr0 hc0
  have HB := Aside0.mk (Below.refl w.heap.size w)
  have H : ((some (([] : List Int) : List Int)).bind fun y107 => (if y107.length + l0.length < 140737488355328 then (some (y107 ++ l0)) else (none))) = some r := h
  clear h
  obtain ⟨y107, hy107⟩ : ∃ y_ : List Int, y_ = (([] : List Int)) := ⟨_, rfl⟩
  replace H : (if y107.length + l0.length < 140737488355328 then (some (y107 ++ l0)) else (none)) = some r := by first | (rw [hy107]; with_reducible exact H) | (have H2_ := (Option.bind_some _ _).symm.trans H; rw [hy107]; with_reducible exact H2_) | (have H2_ := (Option.bind_some _ _).symm.trans H; with_reducible exact H2_) | with_reducible exact H | (rw [hy107]; exact H) | exact H
  have Ny107 := Aside0.mk hy107
  clear hy107
  by_cases c2 : y107.length + l0.length < 140737488355328
  · rw [if_pos c2] at H
    have LMc2 := Aside0.mk c2
    clear c2
    obtain ⟨y110, hy110⟩ : ∃ y_ : List Int, y_ = (y107 ++ l0) := ⟨_, rfl⟩
    replace H : (some y110) = some r := by first | (rw [hy110]; with_reducible exact H) | (have H2_ := (Option.bind_some _ _).symm.trans H; rw [hy110]; with_reducible exact H2_) | (have H2_ := (Option.bind_some _ _).symm.trans H; with_reducible exact H2_) | with_reducible exact H | (rw [hy110]; exact H) | exact H
    have Ny110 := Aside0.mk hy110
    clear hy110
    obtain rfl := Option.some.inj H
    have kn := fun (w : World) (a : Option Addr) (l c : Nat) => Go.run_eql_slice_nil (P := Try.prog) w 29 5 a l c Try.underlying29
    rcases A0 with _ | ad
    · have hl := nil_of_C HR0.out
      have e0 : y110 = [] := by rw [Ny110.out, Ny107.out, hl]; rfl
      have E0 := Aside0.mk e0
      clear e0 hl
      go_enter Try.func77, Try.ntmps77
      go_wp2
      go_ret
      exact ⟨_, rfl, by rw [E0.out]; exact Kd.R_nil _ _ _ _ _, by repeat (first | (with_reducible first | exact HB.out | apply below_alloc | apply pw_below_drewN | apply below_drew1) | exact HB.out)⟩
    · go_enter Try.func77, Try.ntmps77
      go_wp2_with (first | ((with_reducible refine gate_dst (N := 5) rfl ?_); refine Kd.R_lit (Kd.int .u8) _ 5 ?hg (N := 5) ?hd (xs := ([] : List Int)) (inner := []) (ok := fun _ => True) (okp := fun _ => True) ?hr ?hp (fun _ hk => hk) trivial (Below.refl _ _) (Nat.le_refl _) (by simp) ?_; (case hd => rfl); (case hg => rfl); (case hr => first | (go_simp; done) | (go_simp; rfl)); (case hp => exact (Reps.none _ _)); intro v108 w3 ho4 hb hg_ hnew_; clear hg_ hnew_; (first | rw [← Ny107.out] at ho4 | (simp only [Int.reduceToNat] at ho4; rw [← Ny107.out] at ho4)); have n0_ := Aside0.mk (Kd.R_lower ho4 (below_size (by repeat (first | (with_reducible first | exact HB.out | apply below_alloc | apply pw_below_drewN | apply below_drew1) | exact HB.out)))); have n1_ := Aside0.mk (below_step (by repeat (first | (with_reducible first | exact HB.out | apply below_alloc | apply pw_below_drewN | apply below_drew1) | exact HB.out)) hb); clear HB; have HO109 := n0_; have HB := n1_; clear n0_ n1_; clear hb ho4) | ((with_reducible refine gate_builtin (b := .append) (xs := #[.tmp 5, .tmp 6]) rfl ?_); at_builtin; refine Kd.R_append_rows (Kd.int .u8) (w0 := w) w.heap.size rfl (.tmp 5) (.tmp 6) 29 5 (.int .u8 0) 1 rfl Try.underlying29 info5 rfl (by decide) (by omega) v108 y107 l0 _ _ _ (fun _ => True) (fun _ => False) rfl rfl ?aO ?aR (fun _ _ h => h) (fun _ h => h.elim) ?aF ?aB ?aS ?aL ?_; (case aR => repeat (first | exact (Kd.C_below HR0.out HB.out) | (with_reducible refine Kd.C_alloc ?_ _) | (with_reducible refine Kd.C_drewN ?_ _) | (with_reducible refine Kd.C_drew ?_))); (case aB => exact (by repeat (first | (with_reducible first | exact HB.out | apply below_alloc | apply pw_below_drewN | apply below_drew1) | exact HB.out))); (case aF => exact (fun _ _ => trivial)); (case aO => exact (by (with_reducible repeat (first | apply Kd.R_alloc | apply Kd.R_drewN | apply Kd.R_drew)); exact HO109.out)); (case aS => exact (below_size (by repeat (first | (with_reducible first | exact HB.out | apply below_alloc | apply pw_below_drewN | apply below_drew1) | exact HB.out)))); (case aL => have := LMc2.out; omega); intro v111 w5 ho hb hg hat; rw [← Ny110.out] at ho; have n0_ := Aside0.mk (hb); have n1_ := Aside0.mk (ho); clear HB; clear HO109; have HB := n0_; have HO112 := n1_; clear n0_ n1_; clear ho hb hg hat))
      go_ret
      exact ⟨_, by first | rfl | (simp [errW_none, errW_some] <;> rfl) | (simp [*, errW_none, errW_some] <;> rfl), by (with_reducible repeat (first | apply Kd.R_alloc | apply Kd.R_drewN | apply Kd.R_drew)); exact HO112.out, by repeat (first | (with_reducible first | exact HB.out | apply below_alloc | apply pw_below_drewN | apply below_drew1) | exact HB.out)⟩
  · rw [if_neg c2] at H
    exact absurd H (by simp)

/-! ### bits_Put: function 43 -/
def bits_Put.l0 : Nat → Int → Int → Bool → Int → List Int → Int → Int → Option (List Int × Bool)
  | 0, _, _, _, _, _, _, _ => none
  | k + 1, x1, x2, x3, x4, x12, x22, x23 => if x23 < x22 then (if x3 = true then (if 0 ≤ (wrap64 (8 * x23)) then (if 0 ≤ (wrap64 (x1 + (wrap64 ((wrap64 (x2 - 1)) - x23)))) then (if (wrap64 (x1 + (wrap64 ((wrap64 (x2 - 1)) - x23)))) < (x12.length : Int) then (bits_Put.l0 k x1 x2 x3 x4 (x12.set ((wrap64 (x1 + (wrap64 ((wrap64 (x2 - 1)) - x23)))) : Int).toNat ((shr .u64 x4 (wrap64 (8 * x23))) % 256)) x22 (wrap64 (x23 + 1))) else (none)) else (none)) else (none)) else (if 0 ≤ (wrap64 (8 * x23)) then (if 0 ≤ (wrap64 (x1 + x23)) then (if (wrap64 (x1 + x23)) < (x12.length : Int) then (bits_Put.l0 k x1 x2 x3 x4 (x12.set ((wrap64 (x1 + x23)) : Int).toNat ((shr .u64 x4 (wrap64 (8 * x23))) % 256)) x22 (wrap64 (x23 + 1))) else (none)) else (none)) else (none))) else (some (x12, true))
def bits_Put.f (k : Nat) (l0 : List Int) (a1 : Int) (a2 : Int) (a3 : Bool) (a4 : Int) : Option (List Int × Bool) := (bits_may.f l0 a1 a2).bind fun t113 => (if t113 = true then ((slices_Clone_byte_byte.f l0).bind fun t114 => (bits_Put.l0 k a1 a2 a3 a4 t114 a2 0)) else (some (([] : List Int), false)))
set_option maxHeartbeats 8000000 in
set_option maxRecDepth 100000 in
theorem bits_Put.calls (k : Nat) (A0 : Option Addr) (c0 : Nat) (l0 : List Int) (a1 : Int) (a2 : Int) (a3 : Bool) (a4 : Int) (r1 : List Int) (r2 : Bool) (w : World) (hr0 : Kd.C (Kd.int .u8) w A0 l0.length l0) (hc0 : l0.length ≤ c0) (h : bits_Put.f k l0 a1 a2 a3 a4 = some (r1, r2)) :
    Calls Try.prog 43 #[.slice A0 l0.length c0, .int .i64 a1, .int .i64 a2, .bool a3, .int .u64 a4] w fun e w' => ∃ v0_ : Value, e = .returned (.tuple #[v0_, .bool r2]) ∧ Kd.R (Kd.int .u8) 5 w' w.heap.size (fun _ => True) v0_ r1 ∧ Below w.heap.size w w' := by
  have HR0 := Aside0.mk hr0
  have HC0 := Aside0.mk hc0
  clear hr0 hc0
  have HB := Aside0.mk (Below.refl w.heap.size w)
  have H : ((bits_may.f l0 a1 a2).bind fun t113 => (if t113 = true then ((slices_Clone_byte_byte.f l0).bind fun t114 => (bits_Put.l0 k a1 a2 a3 a4 t114 a2 0)) else (some (([] : List Int), false)))) = some (r1, r2) := h
  clear h
  replace H := Option.bind_eq_some_iff.mp H
  obtain ⟨t113, A60, H⟩ := H
  replace H : (if t113 = true then ((slices_Clone_byte_byte.f l0).bind fun t114 => (bits_Put.l0 k a1 a2 a3 a4 t114 a2 0)) else (some (([] : List Int), false))) = some (r1, r2) := H
  have A6 := Aside0.mk A60
  clear A60
  by_cases c7 : t113 = true
  · subst c7
    have H1 : ((slices_Clone_byte_byte.f l0).bind fun t114 => (bits_Put.l0 k a1 a2 a3 a4 t114 a2 0)) = some (r1, r2) := by rw [if_pos rfl] at H; exact H
    clear H
    have H := H1
    clear H1
    replace H := Option.bind_eq_some_iff.mp H
    obtain ⟨t114, A80, H⟩ := H
    replace H : (bits_Put.l0 k a1 a2 a3 a4 t114 a2 0) = some (r1, r2) := H
    have A8 := Aside0.mk A80
    clear A80
    have H' := Aside0.mk H
    clear H
    go_enter Try.func43, Try.ntmps43
    go_wp2_with (first | ((with_reducible refine gate_callee (f := 76) rfl ?_); refine goesL_ (some 18) rfl rfl Try.func76 (by kernel_rfl) rfl #[.slice A0 l0.length c0, .int .i64 a1, .int .i64 a2] rfl (by (try simp only [List.map_toArray, List.map_cons, List.map_nil]); first | done | rfl | (simp only [List.length_drop, List.length_take]; rfl)) ?_; (with_reducible refine (bits_may.calls _ _ l0 a1 a2 true _ ?side1 ?side2 A6.out).mono ?_); (case side1 => repeat (first | exact HR0.out | (with_reducible refine Kd.C_alloc ?_ _) | (with_reducible refine Kd.C_drewN ?_ _) | (with_reducible refine Kd.C_drew ?_))); (case side2 => exact HC0.out); rintro e w' ⟨rfl, ⟨nd, rfl⟩⟩; refine ⟨_, rfl, ?_⟩) | ((with_reducible refine gate_callee (f := 77) rfl ?_); refine goesL_ (some 21) rfl rfl Try.func77 (by kernel_rfl) rfl #[.slice A0 l0.length c0] rfl (by (try simp only [List.map_toArray, List.map_cons, List.map_nil]); first | done | rfl | (simp only [List.length_drop, List.length_take]; rfl)) ?_; (with_reducible refine (slices_Clone_byte_byte.calls _ _ l0 t114 _ ?side1 ?side2 A8.out).mono ?_); (case side1 => repeat (first | exact HR0.out | (with_reducible refine Kd.C_alloc ?_ _) | (with_reducible refine Kd.C_drewN ?_ _) | (with_reducible refine Kd.C_drew ?_))); (case side2 => exact HC0.out); rintro e w9 ⟨v115, rfl, ho0, hb⟩; refine ⟨_, rfl, ?_⟩; have n0_ := Aside0.mk (Kd.R_lower ho0 (below_size (by repeat (first | (with_reducible first | exact HB.out | apply below_alloc | apply pw_below_drewN | apply below_drew1) | exact HB.out)))); have n1_ := Aside0.mk (below_step (by repeat (first | (with_reducible first | exact HB.out | apply below_alloc | apply pw_below_drewN | apply below_drew1) | exact HB.out)) hb); clear HB; have HO116 := n0_; have HB := n1_; clear n0_ n1_; (try clear hb); (try clear hb2); (try clear hk); (try clear hi); (try clear ho0)))
    go_loopg [23] k (fun kq v23 w' => ∃ (x12_1 : List Int) (x23_1 : Int), v23 = .int .i64 x23_1 ∧ Aside0 (bits_Put.l0 kq a1 a2 a3 a4 x12_1 a2 x23_1 = some (r1, r2)) ∧ Aside0 (kq ≤ k) ∧ Aside0 (Kd.R (Kd.int .u8) 5 w' w.heap.size (fun _ => True) v115 x12_1) ∧ Aside0 (Below w.heap.size w w'))
    case atStart => exact ⟨(t114), (0), (by first | rfl | (simp; done) | (simp [*]; done) | exact congrArg Value.bool (ne_empty _) | exact congrArg Value.bool (eq_empty _)), H', ⟨Nat.le_refl _⟩, ⟨by (with_reducible repeat (first | apply Kd.R_alloc | apply Kd.R_drewN | apply Kd.R_drew)); exact HO116.out⟩, ⟨by repeat (first | (with_reducible first | exact HB.out | apply below_alloc | apply pw_below_drewN | apply below_drew1) | exact HB.out)⟩⟩
    case round =>
      clear H'
      try clear p2
      try clear c4
      try clear c7
      obtain ⟨x12_1, x23_1, rfl, HA, HK1, HO_12, HB⟩ := hrel
      cases gk with
      | zero => exact absurd HA.out (by first | (intro h_; exact nomatch (show (none : Option _) = some r from h_)) | simp [bits_Put.l0])
      | succ k1 =>
        have H := HA.out
        clear HA
        simp only [bits_Put.l0] at H
        by_cases c10 : x23_1 < a2
        · rw [if_pos c10] at H
          have c10b0 : decide (x23_1 < a2) = true := decide_eq_true c10
          clear c10
          by_cases c11 : a3 = true
          · subst c11
            have H1 : (if 0 ≤ (wrap64 (8 * x23_1)) then (if 0 ≤ (wrap64 (a1 + (wrap64 ((wrap64 (a2 - 1)) - x23_1)))) then (if (wrap64 (a1 + (wrap64 ((wrap64 (a2 - 1)) - x23_1)))) < (x12_1.length : Int) then (bits_Put.l0 k1 a1 a2 true a4 (x12_1.set ((wrap64 (a1 + (wrap64 ((wrap64 (a2 - 1)) - x23_1)))) : Int).toNat ((shr .u64 a4 (wrap64 (8 * x23_1))) % 256)) a2 (wrap64 (x23_1 + 1))) else (none)) else (none)) else (none)) = some (r1, r2) := by rw [if_pos rfl] at H; exact H
            clear H
            have H := H1
            clear H1
            obtain ⟨ji12, hji12⟩ : ∃ j_ : Int, (wrap64 (8 * x23_1)) = j_ := ⟨_, rfl⟩
            replace H : (if 0 ≤ (ji12) then (if 0 ≤ (wrap64 (a1 + (wrap64 ((wrap64 (a2 - 1)) - x23_1)))) then (if (wrap64 (a1 + (wrap64 ((wrap64 (a2 - 1)) - x23_1)))) < (x12_1.length : Int) then (bits_Put.l0 k1 a1 a2 true a4 (x12_1.set ((wrap64 (a1 + (wrap64 ((wrap64 (a2 - 1)) - x23_1)))) : Int).toNat ((shr .u64 a4 (ji12)) % 256)) a2 (wrap64 (x23_1 + 1))) else (none)) else (none)) else (none)) = some (r1, r2) := by first | (rw [hji12] at H; exact H) | (simp only [hji12] at H ⊢; exact H)
            have hji12w : (IntKind.i64.wrap (8 * x23_1)) = ji12 := (i64_w _).trans hji12
            by_cases c13 : 0 ≤ (ji12)
            · rw [if_pos c13] at H
              have c13b0 := eq_true c13
              have c13b1 : decide (0 ≤ (ji12)) = true := decide_eq_true c13
              clear c13
              obtain ⟨ji14, hji14⟩ : ∃ j_ : Int, (shr .u64 a4 (ji12)) = j_ := ⟨_, rfl⟩
              replace H : (if 0 ≤ (wrap64 (a1 + (wrap64 ((wrap64 (a2 - 1)) - x23_1)))) then (if (wrap64 (a1 + (wrap64 ((wrap64 (a2 - 1)) - x23_1)))) < (x12_1.length : Int) then (bits_Put.l0 k1 a1 a2 true a4 (x12_1.set ((wrap64 (a1 + (wrap64 ((wrap64 (a2 - 1)) - x23_1)))) : Int).toNat ((ji14) % 256)) a2 (wrap64 (x23_1 + 1))) else (none)) else (none)) = some (r1, r2) := by first | (rw [hji14] at H; exact H) | (simp only [hji14] at H ⊢; exact H)
              have hji14_ : (a4 / 2 ^ min (ji12).toNat 64) = ji14 := hji14
              have hji14z : (ji12) ≤ 64 → (a4 / 2 ^ (ji12).toNat) = ji14 := shr_small hji14
              obtain ⟨ji15, hji15⟩ : ∃ j_ : Int, (wrap64 (a1 + (wrap64 ((wrap64 (a2 - 1)) - x23_1)))) = j_ := ⟨_, rfl⟩
              replace H : (if 0 ≤ (ji15) then (if (ji15) < (x12_1.length : Int) then (bits_Put.l0 k1 a1 a2 true a4 (x12_1.set ((ji15) : Int).toNat ((ji14) % 256)) a2 (wrap64 (x23_1 + 1))) else (none)) else (none)) = some (r1, r2) := by first | (rw [hji15] at H; exact H) | (simp only [hji15] at H ⊢; exact H)
              have hji15w : (IntKind.i64.wrap (a1 + (wrap64 ((wrap64 (a2 - 1)) - x23_1)))) = ji15 := (i64_w _).trans hji15
              by_cases c16 : 0 ≤ (ji15)
              · rw [if_pos c16] at H
                have c16b0 : decide (0 ≤ (ji15)) = true := decide_eq_true c16
                clear c16
                by_cases c17 : (ji15) < (x12_1.length : Int)
                · rw [if_pos c17] at H
                  have c17b0 : decide ((ji15) < (x12_1.length : Int)) = true := decide_eq_true c17
                  clear c17
                  obtain ⟨y117, hy117⟩ : ∃ y_ : List Int, y_ = (x12_1.set ((ji15) : Int).toNat ((ji14) % 256)) := ⟨_, rfl⟩
                  replace H : (bits_Put.l0 k1 a1 a2 true a4 y117 a2 (wrap64 (x23_1 + 1))) = some (r1, r2) := by first | (rw [hy117]; with_reducible exact H) | (have H2_ := (Option.bind_some _ _).symm.trans H; rw [hy117]; with_reducible exact H2_) | (have H2_ := (Option.bind_some _ _).symm.trans H; with_reducible exact H2_) | with_reducible exact H | (rw [hy117]; exact H) | exact H
                  have Ny117 := Aside0.mk hy117
                  clear hy117
                  have H' := Aside0.mk H
                  clear H
                  have p18 : 0 ≤ ((ji15) : Int) := of_decide_eq_true (by first | (with_reducible assumption) | assumption)
                  have q18 : ((ji15) : Int) < ((x12_1.length : Int) : Int) := of_decide_eq_true (by first | (with_reducible assumption) | assumption)
                  obtain ⟨go18, co18, eo18, gb18, gl18, cl18, HG18⟩ := Kd.R_form HO_12.out (by omega)
                  (first | cases eo18 | (injection eo18 with ea_ en_ ec_; (first | subst ea_ | (injection ea_ with ea_; subst ea_)); subst ec_; clear en_))
                  have GB18 := Aside0.mk gb18
                  have GG18 := Aside0.mk HG18
                  clear gb18 gl18 HG18
                  obtain ⟨hx18_0, hf18_0⟩ := Kd.R_celln 0 HO_12.out ((ji15) : Int) p18 q18
                  replace p18 := eq_true p18
                  replace q18 := eq_true q18
                  have HP19 := Kd.R_putg HO_12.out ((ji15) : Int) ((ji14) % 256)
                  go_wp2_with (first | ((with_reducible refine gate_store (t := 5) (p := 41) rfl ?_); refine store_event (t := 5) (p := 41) (v := ?vo_w20) (w1 := (wr.setCell ⟨go18, ((ji15) : Int).toNat, none⟩ (.int .u8 ((ji14) % 256)))) ?hg ?ho ?hn ?hr ?_; (case ho => rfl); (case hg => rfl); (case hn => rfl); (case hr => first | (go_simp; done) | (go_simp; rfl)); intro w20 hw; have hg : wr.grownBy w20 (some go18) := (by rw [hw]; exact HP19.2); have hp_ : Kd.R (Kd.int .u8) 5 w20 w.heap.size (fun _ => True) (.slice (some ⟨go18, 0, none⟩) x12_1.length co18) y117 := (by rw [hw, Ny117.out]; exact HP19.1); clear HP19; have n0_ := Aside0.mk (hp_); have n1_ := Aside0.mk ((by rw [hw]; exact below_set (HB.out) GB18.out : Below w.heap.size w w20)); clear HO_12; clear HB; have HO_12 := n0_; have HB := n1_; clear n0_ n1_; clear hg hw hp_))
                  go_roundg k1
                  case measure => have := HK1.out; omega
                  case rel => exact ⟨(y117), (wrap64 (x23_1 + 1)), (by first | rfl | (simp; done) | (simp [*]; done) | exact congrArg Value.bool (ne_empty _) | exact congrArg Value.bool (eq_empty _)), H', ⟨by have := HK1.out; omega⟩, ⟨by (with_reducible repeat (first | apply Kd.R_alloc | apply Kd.R_drewN | apply Kd.R_drew)); exact HO_12.out⟩, ⟨by repeat (first | (with_reducible first | exact HB.out | apply below_alloc | apply pw_below_drewN | apply below_drew1) | exact HB.out)⟩⟩
                · rw [if_neg c17] at H
                  exact absurd H (by simp)
              · rw [if_neg c16] at H
                exact absurd H (by simp)
            · rw [if_neg c13] at H
              exact absurd H (by simp)
          · replace c11 := Bool.eq_false_iff.mpr c11
            subst c11
            have H1 : (if 0 ≤ (wrap64 (8 * x23_1)) then (if 0 ≤ (wrap64 (a1 + x23_1)) then (if (wrap64 (a1 + x23_1)) < (x12_1.length : Int) then (bits_Put.l0 k1 a1 a2 false a4 (x12_1.set ((wrap64 (a1 + x23_1)) : Int).toNat ((shr .u64 a4 (wrap64 (8 * x23_1))) % 256)) a2 (wrap64 (x23_1 + 1))) else (none)) else (none)) else (none)) = some (r1, r2) := by rw [if_neg (show ¬ (false = true) by decide)] at H; exact H
            clear H
            have H := H1
            clear H1
            obtain ⟨ji21, hji21⟩ : ∃ j_ : Int, (wrap64 (8 * x23_1)) = j_ := ⟨_, rfl⟩
            replace H : (if 0 ≤ (ji21) then (if 0 ≤ (wrap64 (a1 + x23_1)) then (if (wrap64 (a1 + x23_1)) < (x12_1.length : Int) then (bits_Put.l0 k1 a1 a2 false a4 (x12_1.set ((wrap64 (a1 + x23_1)) : Int).toNat ((shr .u64 a4 (ji21)) % 256)) a2 (wrap64 (x23_1 + 1))) else (none)) else (none)) else (none)) = some (r1, r2) := by first | (rw [hji21] at H; exact H) | (simp only [hji21] at H ⊢; exact H)
            have hji21w : (IntKind.i64.wrap (8 * x23_1)) = ji21 := (i64_w _).trans hji21
            by_cases c22 : 0 ≤ (ji21)
            · rw [if_pos c22] at H
              have c22b0 := eq_true c22
              have c22b1 : decide (0 ≤ (ji21)) = true := decide_eq_true c22
              clear c22
              obtain ⟨ji23, hji23⟩ : ∃ j_ : Int, (shr .u64 a4 (ji21)) = j_ := ⟨_, rfl⟩
              replace H : (if 0 ≤ (wrap64 (a1 + x23_1)) then (if (wrap64 (a1 + x23_1)) < (x12_1.length : Int) then (bits_Put.l0 k1 a1 a2 false a4 (x12_1.set ((wrap64 (a1 + x23_1)) : Int).toNat ((ji23) % 256)) a2 (wrap64 (x23_1 + 1))) else (none)) else (none)) = some (r1, r2) := by first | (rw [hji23] at H; exact H) | (simp only [hji23] at H ⊢; exact H)
              have hji23_ : (a4 / 2 ^ min (ji21).toNat 64) = ji23 := hji23
              have hji23z : (ji21) ≤ 64 → (a4 / 2 ^ (ji21).toNat) = ji23 := shr_small hji23
              obtain ⟨ji24, hji24⟩ : ∃ j_ : Int, (wrap64 (a1 + x23_1)) = j_ := ⟨_, rfl⟩
              replace H : (if 0 ≤ (ji24) then (if (ji24) < (x12_1.length : Int) then (bits_Put.l0 k1 a1 a2 false a4 (x12_1.set ((ji24) : Int).toNat ((ji23) % 256)) a2 (wrap64 (x23_1 + 1))) else (none)) else (none)) = some (r1, r2) := by first | (rw [hji24] at H; exact H) | (simp only [hji24] at H ⊢; exact H)
              have hji24w : (IntKind.i64.wrap (a1 + x23_1)) = ji24 := (i64_w _).trans hji24
              by_cases c25 : 0 ≤ (ji24)
              · rw [if_pos c25] at H
                have c25b0 : decide (0 ≤ (ji24)) = true := decide_eq_true c25
                clear c25
                by_cases c26 : (ji24) < (x12_1.length : Int)
                · rw [if_pos c26] at H
                  have c26b0 : decide ((ji24) < (x12_1.length : Int)) = true := decide_eq_true c26
                  clear c26
                  obtain ⟨y118, hy118⟩ : ∃ y_ : List Int, y_ = (x12_1.set ((ji24) : Int).toNat ((ji23) % 256)) := ⟨_, rfl⟩
                  replace H : (bits_Put.l0 k1 a1 a2 false a4 y118 a2 (wrap64 (x23_1 + 1))) = some (r1, r2) := by first | (rw [hy118]; with_reducible exact H) | (have H2_ := (Option.bind_some _ _).symm.trans H; rw [hy118]; with_reducible exact H2_) | (have H2_ := (Option.bind_some _ _).symm.trans H; with_reducible exact H2_) | with_reducible exact H | (rw [hy118]; exact H) | exact H
                  have Ny118 := Aside0.mk hy118
                  clear hy118
                  have H' := Aside0.mk H
                  clear H
                  have p27 : 0 ≤ ((ji24) : Int) := of_decide_eq_true (by first | (with_reducible assumption) | assumption)
                  have q27 : ((ji24) : Int) < ((x12_1.length : Int) : Int) := of_decide_eq_true (by first | (with_reducible assumption) | assumption)
                  obtain ⟨go27, co27, eo27, gb27, gl27, cl27, HG27⟩ := Kd.R_form HO_12.out (by omega)
                  (first | cases eo27 | (injection eo27 with ea_ en_ ec_; (first | subst ea_ | (injection ea_ with ea_; subst ea_)); subst ec_; clear en_))
                  have GB27 := Aside0.mk gb27
                  have GG27 := Aside0.mk HG27
                  clear gb27 gl27 HG27
                  obtain ⟨hx27_0, hf27_0⟩ := Kd.R_celln 0 HO_12.out ((ji24) : Int) p27 q27
                  replace p27 := eq_true p27
                  replace q27 := eq_true q27
                  have HP28 := Kd.R_putg HO_12.out ((ji24) : Int) ((ji23) % 256)
                  go_wp2_with (first | ((with_reducible refine gate_store (t := 5) (p := 41) rfl ?_); refine store_event (t := 5) (p := 41) (v := ?vo_w29) (w1 := (wr.setCell ⟨go27, ((ji24) : Int).toNat, none⟩ (.int .u8 ((ji23) % 256)))) ?hg ?ho ?hn ?hr ?_; (case ho => rfl); (case hg => rfl); (case hn => rfl); (case hr => first | (go_simp; done) | (go_simp; rfl)); intro w29 hw; have hg : wr.grownBy w29 (some go27) := (by rw [hw]; exact HP28.2); have hp_ : Kd.R (Kd.int .u8) 5 w29 w.heap.size (fun _ => True) (.slice (some ⟨go27, 0, none⟩) x12_1.length co27) y118 := (by rw [hw, Ny118.out]; exact HP28.1); clear HP28; have n0_ := Aside0.mk (hp_); have n1_ := Aside0.mk ((by rw [hw]; exact below_set (HB.out) GB27.out : Below w.heap.size w w29)); clear HO_12; clear HB; have HO_12 := n0_; have HB := n1_; clear n0_ n1_; clear hg hw hp_))
                  go_roundg k1
                  case measure => have := HK1.out; omega
                  case rel => exact ⟨(y118), (wrap64 (x23_1 + 1)), (by first | rfl | (simp; done) | (simp [*]; done) | exact congrArg Value.bool (ne_empty _) | exact congrArg Value.bool (eq_empty _)), H', ⟨by have := HK1.out; omega⟩, ⟨by (with_reducible repeat (first | apply Kd.R_alloc | apply Kd.R_drewN | apply Kd.R_drew)); exact HO_12.out⟩, ⟨by repeat (first | (with_reducible first | exact HB.out | apply below_alloc | apply pw_below_drewN | apply below_drew1) | exact HB.out)⟩⟩
                · rw [if_neg c26] at H
                  exact absurd H (by simp)
              · rw [if_neg c25] at H
                exact absurd H (by simp)
            · rw [if_neg c22] at H
              exact absurd H (by simp)
        · rw [if_neg c10] at H
          have c10b0 : decide (x23_1 < a2) = false := decide_eq_false c10
          clear c10
          simp only [Option.some.injEq, Prod.mk.injEq] at H
          obtain ⟨rfl, rfl⟩ := H
          go_wp2
          go_ret2
          exact ⟨_, by first | rfl | (simp [errW_none, errW_some] <;> rfl) | (simp [*, errW_none, errW_some] <;> rfl), by (with_reducible repeat (first | apply Kd.R_alloc | apply Kd.R_drewN | apply Kd.R_drew)); exact HO_12.out, by repeat (first | (with_reducible first | exact HB.out | apply below_alloc | apply pw_below_drewN | apply below_drew1) | exact HB.out)⟩
  · replace c7 := Bool.eq_false_iff.mpr c7
    subst c7
    have H1 : (some (([] : List Int), false)) = some (r1, r2) := by rw [if_neg (show ¬ (false = true) by decide)] at H; exact H
    clear H
    have H := H1
    clear H1
    simp only [Option.some.injEq, Prod.mk.injEq] at H
    obtain ⟨rfl, rfl⟩ := H
    go_enter Try.func43, Try.ntmps43
    go_wp2_with (first | ((with_reducible refine gate_callee (f := 76) rfl ?_); refine goesL_ (some 18) rfl rfl Try.func76 (by kernel_rfl) rfl #[.slice A0 l0.length c0, .int .i64 a1, .int .i64 a2] rfl (by (try simp only [List.map_toArray, List.map_cons, List.map_nil]); first | done | rfl | (simp only [List.length_drop, List.length_take]; rfl)) ?_; (with_reducible refine (bits_may.calls _ _ l0 a1 a2 false _ ?side1 ?side2 A6.out).mono ?_); (case side1 => repeat (first | exact HR0.out | (with_reducible refine Kd.C_alloc ?_ _) | (with_reducible refine Kd.C_drewN ?_ _) | (with_reducible refine Kd.C_drew ?_))); (case side2 => exact HC0.out); rintro e w' ⟨rfl, ⟨nd, rfl⟩⟩; refine ⟨_, rfl, ?_⟩))
    go_ret2
    exact ⟨_, by first | rfl | (simp [errW_none, errW_some] <;> rfl) | (simp [*, errW_none, errW_some] <;> rfl), by first | exact Kd.R_nil _ _ _ _ _ | exact Kd.N_nil _ _ _ _ _ | exact Kd.V_nil _ _ _ _ _ | exact Kd.Q_nil _ _ _ _ _ | exact Kd.S_nil _ _ _ _ _, by repeat (first | (with_reducible first | exact HB.out | apply below_alloc | apply pw_below_drewN | apply below_drew1) | exact HB.out)⟩

-- NOT PRINTED: function 28 (codec_writer_number)

-- NOT PRINTED: function 78 (codec_writer_many)

-- NOT PRINTED: function 44 (codec_writer_text)

-- NOT PRINTED: function 46 (api_Record_46)

-- NOT PRINTED: function 48 (codec_list_string)

-- NOT PRINTED: function 49 (codec_list_int)

-- NOT PRINTED: function 51 (api_Batch_51)

-- NOT PRINTED: function 29 (codec_writer_field)

-- NOT PRINTED: function 54 (codec_flatten)

/-! ### api_Record_55: function 55 -/
def api_Record_55.l0 : Nat → List (S98) → List (S98) → Int → Int → Option (Bool)
  | 0, _, _, _, _ => none
  | k + 1, x0, x1, x12, x13 => if x13 < x12 then (if 0 ≤ x13 then (if x13 < (x0.length : Int) then (if x13 < (x1.length : Int) then (if (!(((rd_T98 x0 x13).f0) == ((rd_T98 x1 x13).f0)) || (!((((rd_T98 x0 x13).f1).toList) == (((rd_T98 x1 x13).f1).toList)) || (!(((rd_T98 x0 x13).f2) == ((rd_T98 x1 x13).f2)) || (!((((rd_T98 x0 x13).f3).toList) == (((rd_T98 x1 x13).f3).toList)) || (!(((rd_T98 x0 x13).f4) == ((rd_T98 x1 x13).f4)) || (!(((rd_T98 x0 x13).f5) == ((rd_T98 x1 x13).f5)))))))) = true then (some false) else (api_Record_55.l0 k x0 x1 x12 (wrap64 (x13 + 1)))) else (none)) else (none)) else (none)) else (some true)
def api_Record_55.f (k : Nat) (l0 : List (S98)) (l1 : List (S98)) : Option (Bool) := if (l0.length : Int) = (l1.length : Int) then (api_Record_55.l0 k l0 l1 (l0.length : Int) 0) else (some false)
set_option maxRecDepth 100000 in
theorem api_Record_55.mono_l : ∀ k, (∀ y0 y1 y2 y3, LeO (api_Record_55.l0 k y0 y1 y2 y3) (api_Record_55.l0 (k + 1) y0 y1 y2 y3))
  | 0 => fun _ _ _ _ r h => by first | exact nomatch (show (none : Option _) = some r from h) | (rw [api_Record_55.l0] at h; cases h; done) | (simp [api_Record_55.l0] at h; done)
  | k + 1 => by
    have ih0 := api_Record_55.mono_l k
    · intro y0 y1 y2 y3
      unfold api_Record_55.l0
      repeat' first
      | (with_reducible exact ih0 _ _ _ _)
      | (with_reducible exact LeO.refl _)
      | (with_reducible exact LeO.none _)
      | (with_reducible refine LeO.ite ?_ ?_)
      | (with_reducible refine LeO.bind ?_ (fun _ => ?_))
      | exact ih0 _ _ _ _
      | exact LeO.none _
      | refine LeO.ite ?_ ?_
      | refine LeO.bind ?_ (fun _ => ?_)
theorem api_Record_55.mono : ∀ a0 a1 k, LeO (api_Record_55.f k a0 a1) (api_Record_55.f (k + 1) a0 a1) := by
  intro a0 a1 k
  have ih0 := api_Record_55.mono_l k
  unfold api_Record_55.f
  repeat' first
      | (with_reducible exact ih0 _ _ _ _)
      | (with_reducible exact LeO.refl _)
      | (with_reducible exact LeO.none _)
      | (with_reducible refine LeO.ite ?_ ?_)
      | (with_reducible refine LeO.bind ?_ (fun _ => ?_))
      | exact ih0 _ _ _ _
      | exact LeO.none _
      | refine LeO.ite ?_ ?_
      | refine LeO.bind ?_ (fun _ => ?_)
set_option maxHeartbeats 8000000 in
set_option maxRecDepth 100000 in
theorem api_Record_55.calls (k : Nat) (A0 : Option Addr) (c0 : Nat) (l0 : List (S98)) (A1 : Option Addr) (c1 : Nat) (l1 : List (S98)) (r : Bool) (w : World) (hr0 : Kd.C k98 w A0 l0.length l0) (hc0 : l0.length ≤ c0) (hr1 : Kd.C k98 w A1 l1.length l1) (hc1 : l1.length ≤ c1) (h : api_Record_55.f k l0 l1 = some r) :
    Calls Try.prog 55 #[.slice A0 l0.length c0, .slice A1 l1.length c1] w fun e w' => e = .returned (.bool r) ∧ Drawn0 w w' := by
  have hu98 := Try.underlying98
  have HR0 := Aside0.mk hr0
  have HC0 := Aside0.mk hc0
  clear hr0 hc0
  have HR1 := Aside0.mk hr1
  have HC1 := Aside0.mk hc1
  clear hr1 hc1
  have H : (if (l0.length : Int) = (l1.length : Int) then (api_Record_55.l0 k l0 l1 (l0.length : Int) 0) else (some false)) = some r := h
  clear h
  by_cases c3 : (l0.length : Int) = (l1.length : Int)
  · rw [if_pos c3] at H
    have c3b0 : ((l0.length : Int) == (l1.length : Int)) = true := beq_iff_eq.mpr c3
    have c3b1 : ((l0.length : Int) != (l1.length : Int)) = false := bne_eq_false_iff_eq.mpr c3
    have c3b2 : (l0.length == l1.length) = true := by first | simpa using c3 | (simp at c3 ⊢; omega)
    clear c3
    have H' := Aside0.mk H
    clear H
    go_enter Try.func55, Try.ntmps55
    go_wp2
    repeat (go_quiet (fail); try go_wp2)
    go_loopg [13] k (fun kq v13 w' => ∃ (x13_1 : Int), v13 = .int .i64 x13_1 ∧ Aside0 (api_Record_55.l0 kq l0 l1 (l0.length : Int) x13_1 = some r) ∧ Aside0 (kq ≤ k) ∧ Drawn0 w w')
    case atStart => exact ⟨(0), (by first | rfl | (simp; done) | (simp [*]; done) | exact congrArg Value.bool (ne_empty _) | exact congrArg Value.bool (eq_empty _)), H', ⟨Nat.le_refl _⟩, by repeat (first | exact Drawn0.refl _ | apply Drawn0.step)⟩
    case round =>
      clear H'
      try clear c1
      try clear p2
      try clear c3
      try clear c3b0
      try clear c3b1
      try clear c3b2
      obtain ⟨x13_1, rfl, HA, HK1, ⟨m1, rfl⟩⟩ := hrel
      cases gk with
      | zero => exact absurd HA.out (by first | (intro h_; exact nomatch (show (none : Option _) = some r from h_)) | simp [api_Record_55.l0])
      | succ k1 =>
        have H := HA.out
        clear HA
        simp only [api_Record_55.l0] at H
        by_cases c4 : x13_1 < (l0.length : Int)
        · rw [if_pos c4] at H
          have c4b0 : decide (x13_1 < (l0.length : Int)) = true := decide_eq_true c4
          clear c4
          by_cases c5 : 0 ≤ x13_1
          · rw [if_pos c5] at H
            have c5b0 : decide (0 ≤ x13_1) = true := decide_eq_true c5
            clear c5
            by_cases c6 : x13_1 < (l0.length : Int)
            · rw [if_pos c6] at H
              have c6b0 : decide (x13_1 < (l0.length : Int)) = true := decide_eq_true c6
              clear c6
              by_cases c7 : x13_1 < (l1.length : Int)
              · rw [if_pos c7] at H
                have c7b0 : decide (x13_1 < (l1.length : Int)) = true := decide_eq_true c7
                clear c7
                by_cases c8 : (!(((rd_T98 l0 x13_1).f0) == ((rd_T98 l1 x13_1).f0)) || (!((((rd_T98 l0 x13_1).f1).toList) == (((rd_T98 l1 x13_1).f1).toList)) || (!(((rd_T98 l0 x13_1).f2) == ((rd_T98 l1 x13_1).f2)) || (!((((rd_T98 l0 x13_1).f3).toList) == (((rd_T98 l1 x13_1).f3).toList)) || (!(((rd_T98 l0 x13_1).f4) == ((rd_T98 l1 x13_1).f4)) || (!(((rd_T98 l0 x13_1).f5) == ((rd_T98 l1 x13_1).f5)))))))) = true
                · rw [if_pos c8] at H
                  have c8b0 : (!(((rd_T98 l0 x13_1).f0) == ((rd_T98 l1 x13_1).f0)) || (!((((rd_T98 l0 x13_1).f1).toList) == (((rd_T98 l1 x13_1).f1).toList)) || (!(((rd_T98 l0 x13_1).f2) == ((rd_T98 l1 x13_1).f2)) || (!((((rd_T98 l0 x13_1).f3).toList) == (((rd_T98 l1 x13_1).f3).toList)) || (!(((rd_T98 l0 x13_1).f4) == ((rd_T98 l1 x13_1).f4)) || (!(((rd_T98 l0 x13_1).f5) == ((rd_T98 l1 x13_1).f5)))))))) = true := c8
                  clear c8
                  obtain rfl := Option.some.inj H
                  have p126 : 0 ≤ (x13_1 : Int) := of_decide_eq_true (by first | (with_reducible assumption) | assumption)
                  have q126 : x13_1 < (l0.length : Int) := of_decide_eq_true (by first | (with_reducible assumption) | assumption)
                  obtain ⟨ad126, e126, hx126_0, hx126_1, hx126_2, hx126_3, hx126_4, hx126_5⟩ := at_T98 HR0.out x13_1 p126 q126
                  cases e126
                  replace p126 := eq_true p126
                  replace q126 := eq_true q126
                  have p127 : 0 ≤ (x13_1 : Int) := of_decide_eq_true (by first | (with_reducible assumption) | assumption)
                  have q127 : x13_1 < (l1.length : Int) := of_decide_eq_true (by first | (with_reducible assumption) | assumption)
                  obtain ⟨ad127, e127, hx127_0, hx127_1, hx127_2, hx127_3, hx127_4, hx127_5⟩ := at_T98 HR1.out x13_1 p127 q127
                  cases e127
                  replace p127 := eq_true p127
                  replace q127 := eq_true q127
                  go_wp2
                  repeat (go_quiet (fail); try go_wp2)
                  go_ret
                  exact ⟨by first | rfl | (simp; done) | (simp [*]; done) | exact congrArg Value.bool (ne_empty _) | exact congrArg Value.bool (eq_empty _), by repeat (first | exact Drawn0.refl _ | apply Drawn0.step)⟩
                · rw [if_neg c8] at H
                  have c8b0 : (!(((rd_T98 l0 x13_1).f0) == ((rd_T98 l1 x13_1).f0)) || (!((((rd_T98 l0 x13_1).f1).toList) == (((rd_T98 l1 x13_1).f1).toList)) || (!(((rd_T98 l0 x13_1).f2) == ((rd_T98 l1 x13_1).f2)) || (!((((rd_T98 l0 x13_1).f3).toList) == (((rd_T98 l1 x13_1).f3).toList)) || (!(((rd_T98 l0 x13_1).f4) == ((rd_T98 l1 x13_1).f4)) || (!(((rd_T98 l0 x13_1).f5) == ((rd_T98 l1 x13_1).f5)))))))) = false := by simpa using c8
                  clear c8
                  have H' := Aside0.mk H
                  clear H
                  have p126 : 0 ≤ (x13_1 : Int) := of_decide_eq_true (by first | (with_reducible assumption) | assumption)
                  have q126 : x13_1 < (l0.length : Int) := of_decide_eq_true (by first | (with_reducible assumption) | assumption)
                  obtain ⟨ad126, e126, hx126_0, hx126_1, hx126_2, hx126_3, hx126_4, hx126_5⟩ := at_T98 HR0.out x13_1 p126 q126
                  cases e126
                  replace p126 := eq_true p126
                  replace q126 := eq_true q126
                  have p127 : 0 ≤ (x13_1 : Int) := of_decide_eq_true (by first | (with_reducible assumption) | assumption)
                  have q127 : x13_1 < (l1.length : Int) := of_decide_eq_true (by first | (with_reducible assumption) | assumption)
                  obtain ⟨ad127, e127, hx127_0, hx127_1, hx127_2, hx127_3, hx127_4, hx127_5⟩ := at_T98 HR1.out x13_1 p127 q127
                  cases e127
                  replace p127 := eq_true p127
                  replace q127 := eq_true q127
                  go_wp2
                  repeat (go_quiet (fail); try go_wp2)
                  go_roundg k1
                  case measure => have := HK1.out; omega
                  case rel => exact ⟨(wrap64 (x13_1 + 1)), (by first | rfl | (simp; done) | (simp [*]; done) | exact congrArg Value.bool (ne_empty _) | exact congrArg Value.bool (eq_empty _)), H', ⟨by have := HK1.out; omega⟩, by repeat (first | exact Drawn0.refl _ | apply Drawn0.step)⟩
              · rw [if_neg c7] at H
                exact absurd H (by simp)
            · rw [if_neg c6] at H
              exact absurd H (by simp)
          · rw [if_neg c5] at H
            exact absurd H (by simp)
        · rw [if_neg c4] at H
          have c4b0 : decide (x13_1 < (l0.length : Int)) = false := decide_eq_false c4
          clear c4
          obtain rfl := Option.some.inj H
          go_wp2
          repeat (go_quiet (fail); try go_wp2)
          go_ret
          exact ⟨by first | rfl | (simp; done) | (simp [*]; done) | exact congrArg Value.bool (ne_empty _) | exact congrArg Value.bool (eq_empty _), by repeat (first | exact Drawn0.refl _ | apply Drawn0.step)⟩
  · rw [if_neg c3] at H
    have c3b0 : ((l0.length : Int) == (l1.length : Int)) = false := beq_eq_false_iff_ne.mpr c3
    have c3b1 : ((l0.length : Int) != (l1.length : Int)) = true := bne_iff_ne.mpr c3
    have c3b2 : (l0.length == l1.length) = false := by first | simpa using c3 | (simp at c3 ⊢; omega)
    obtain rfl := Option.some.inj H
    go_enter Try.func55, Try.ntmps55
    go_wp2
    repeat (go_quiet (fail); try go_wp2)
    go_ret
    exact ⟨by first | rfl | (simp; done) | (simp [*]; done) | exact congrArg Value.bool (ne_empty _) | exact congrArg Value.bool (eq_empty _), by repeat (first | exact Drawn0.refl _ | apply Drawn0.step)⟩

/-! ### slices_Equal_string_string: function 56 -/
def slices_Equal_string_string.l0 : Nat → List ByteArray → List ByteArray → Int → Int → Option (Bool)
  | 0, _, _, _, _ => none
  | k + 1, x0, x1, x12, x13 => if x13 < x12 then (if 0 ≤ x13 then (if x13 < (x0.length : Int) then (if x13 < (x1.length : Int) then (if (rdOf ByteArray.empty x0 x13).toList = (rdOf ByteArray.empty x1 x13).toList then (slices_Equal_string_string.l0 k x0 x1 x12 (wrap64 (x13 + 1))) else (some false)) else (none)) else (none)) else (none)) else (some true)
def slices_Equal_string_string.f (k : Nat) (l0 : List ByteArray) (l1 : List ByteArray) : Option (Bool) := if (l0.length : Int) = (l1.length : Int) then (slices_Equal_string_string.l0 k l0 l1 (l0.length : Int) 0) else (some false)
set_option maxHeartbeats 8000000 in
set_option maxRecDepth 100000 in
theorem slices_Equal_string_string.calls (k : Nat) (A0 : Option Addr) (c0 : Nat) (l0 : List ByteArray) (A1 : Option Addr) (c1 : Nat) (l1 : List ByteArray) (r : Bool) (w : World) (hr0 : Kd.C Kd.string w A0 l0.length l0) (hc0 : l0.length ≤ c0) (hr1 : Kd.C Kd.string w A1 l1.length l1) (hc1 : l1.length ≤ c1) (h : slices_Equal_string_string.f k l0 l1 = some r) :
    Calls Try.prog 56 #[.slice A0 l0.length c0, .slice A1 l1.length c1] w fun e w' => e = .returned (.bool r) ∧ Drawn0 w w' := by
  have HR0 := Aside0.mk hr0
  have HC0 := Aside0.mk hc0
  clear hr0 hc0
  have HR1 := Aside0.mk hr1
  have HC1 := Aside0.mk hc1
  clear hr1 hc1
  have H : (if (l0.length : Int) = (l1.length : Int) then (slices_Equal_string_string.l0 k l0 l1 (l0.length : Int) 0) else (some false)) = some r := h
  clear h
  by_cases c3 : (l0.length : Int) = (l1.length : Int)
  · rw [if_pos c3] at H
    have c3b0 : ((l0.length : Int) == (l1.length : Int)) = true := beq_iff_eq.mpr c3
    have c3b1 : ((l0.length : Int) != (l1.length : Int)) = false := bne_eq_false_iff_eq.mpr c3
    have c3b2 : (l0.length == l1.length) = true := by first | simpa using c3 | (simp at c3 ⊢; omega)
    clear c3
    have H' := Aside0.mk H
    clear H
    go_enter Try.func56, Try.ntmps56
    go_wp2
    repeat (go_quiet (fail); try go_wp2)
    go_loopg [13] k (fun kq v13 w' => ∃ (x13_1 : Int), v13 = .int .i64 x13_1 ∧ Aside0 (slices_Equal_string_string.l0 kq l0 l1 (l0.length : Int) x13_1 = some r) ∧ Aside0 (kq ≤ k) ∧ Drawn0 w w')
    case atStart => exact ⟨(0), (by first | rfl | (simp; done) | (simp [*]; done) | exact congrArg Value.bool (ne_empty _) | exact congrArg Value.bool (eq_empty _)), H', ⟨Nat.le_refl _⟩, by repeat (first | exact Drawn0.refl _ | apply Drawn0.step)⟩
    case round =>
      clear H'
      try clear c1
      try clear p2
      try clear c3
      try clear c3b0
      try clear c3b1
      try clear c3b2
      obtain ⟨x13_1, rfl, HA, HK1, ⟨m1, rfl⟩⟩ := hrel
      cases gk with
      | zero => exact absurd HA.out (by first | (intro h_; exact nomatch (show (none : Option _) = some r from h_)) | simp [slices_Equal_string_string.l0])
      | succ k1 =>
        have H := HA.out
        clear HA
        simp only [slices_Equal_string_string.l0] at H
        by_cases c4 : x13_1 < (l0.length : Int)
        · rw [if_pos c4] at H
          have c4b0 : decide (x13_1 < (l0.length : Int)) = true := decide_eq_true c4
          clear c4
          by_cases c5 : 0 ≤ x13_1
          · rw [if_pos c5] at H
            have c5b0 : decide (0 ≤ x13_1) = true := decide_eq_true c5
            clear c5
            by_cases c6 : x13_1 < (l0.length : Int)
            · rw [if_pos c6] at H
              have c6b0 : decide (x13_1 < (l0.length : Int)) = true := decide_eq_true c6
              clear c6
              by_cases c7 : x13_1 < (l1.length : Int)
              · rw [if_pos c7] at H
                have c7b0 : decide (x13_1 < (l1.length : Int)) = true := decide_eq_true c7
                clear c7
                by_cases c8 : (rdOf ByteArray.empty l0 x13_1).toList = (rdOf ByteArray.empty l1 x13_1).toList
                · rw [if_pos c8] at H
                  have c8b0 : ((rdOf ByteArray.empty l0 x13_1).toList == (rdOf ByteArray.empty l1 x13_1).toList) = true := beq_iff_eq.mpr c8
                  have c8b1 : ((rdOf ByteArray.empty l0 x13_1).toList != (rdOf ByteArray.empty l1 x13_1).toList) = false := bne_eq_false_iff_eq.mpr c8
                  clear c8
                  have H' := Aside0.mk H
                  clear H
                  have p128 : 0 ≤ (x13_1 : Int) := of_decide_eq_true (by first | (with_reducible assumption) | assumption)
                  have q128 : x13_1 < (l0.length : Int) := of_decide_eq_true (by first | (with_reducible assumption) | assumption)
                  obtain ⟨ad128, e128, hx128_0⟩ := Kd.at_string HR0.out x13_1 p128 q128
                  cases e128
                  replace p128 := eq_true p128
                  replace q128 := eq_true q128
                  have p129 : 0 ≤ (x13_1 : Int) := of_decide_eq_true (by first | (with_reducible assumption) | assumption)
                  have q129 : x13_1 < (l1.length : Int) := of_decide_eq_true (by first | (with_reducible assumption) | assumption)
                  obtain ⟨ad129, e129, hx129_0⟩ := Kd.at_string HR1.out x13_1 p129 q129
                  cases e129
                  replace p129 := eq_true p129
                  replace q129 := eq_true q129
                  go_wp2
                  repeat (go_quiet (fail); try go_wp2)
                  go_roundg k1
                  case measure => have := HK1.out; omega
                  case rel => exact ⟨(wrap64 (x13_1 + 1)), (by first | rfl | (simp; done) | (simp [*]; done) | exact congrArg Value.bool (ne_empty _) | exact congrArg Value.bool (eq_empty _)), H', ⟨by have := HK1.out; omega⟩, by repeat (first | exact Drawn0.refl _ | apply Drawn0.step)⟩
                · rw [if_neg c8] at H
                  have c8b0 : ((rdOf ByteArray.empty l0 x13_1).toList == (rdOf ByteArray.empty l1 x13_1).toList) = false := beq_eq_false_iff_ne.mpr c8
                  have c8b1 : ((rdOf ByteArray.empty l0 x13_1).toList != (rdOf ByteArray.empty l1 x13_1).toList) = true := bne_iff_ne.mpr c8
                  obtain rfl := Option.some.inj H
                  have p128 : 0 ≤ (x13_1 : Int) := of_decide_eq_true (by first | (with_reducible assumption) | assumption)
                  have q128 : x13_1 < (l0.length : Int) := of_decide_eq_true (by first | (with_reducible assumption) | assumption)
                  obtain ⟨ad128, e128, hx128_0⟩ := Kd.at_string HR0.out x13_1 p128 q128
                  cases e128
                  replace p128 := eq_true p128
                  replace q128 := eq_true q128
                  have p129 : 0 ≤ (x13_1 : Int) := of_decide_eq_true (by first | (with_reducible assumption) | assumption)
                  have q129 : x13_1 < (l1.length : Int) := of_decide_eq_true (by first | (with_reducible assumption) | assumption)
                  obtain ⟨ad129, e129, hx129_0⟩ := Kd.at_string HR1.out x13_1 p129 q129
                  cases e129
                  replace p129 := eq_true p129
                  replace q129 := eq_true q129
                  go_wp2
                  repeat (go_quiet (fail); try go_wp2)
                  go_ret
                  exact ⟨by first | rfl | (simp; done) | (simp [*]; done) | exact congrArg Value.bool (ne_empty _) | exact congrArg Value.bool (eq_empty _), by repeat (first | exact Drawn0.refl _ | apply Drawn0.step)⟩
              · rw [if_neg c7] at H
                exact absurd H (by simp)
            · rw [if_neg c6] at H
              exact absurd H (by simp)
          · rw [if_neg c5] at H
            exact absurd H (by simp)
        · rw [if_neg c4] at H
          have c4b0 : decide (x13_1 < (l0.length : Int)) = false := decide_eq_false c4
          clear c4
          obtain rfl := Option.some.inj H
          go_wp2
          repeat (go_quiet (fail); try go_wp2)
          go_ret
          exact ⟨by first | rfl | (simp; done) | (simp [*]; done) | exact congrArg Value.bool (ne_empty _) | exact congrArg Value.bool (eq_empty _), by repeat (first | exact Drawn0.refl _ | apply Drawn0.step)⟩
  · rw [if_neg c3] at H
    have c3b0 : ((l0.length : Int) == (l1.length : Int)) = false := beq_eq_false_iff_ne.mpr c3
    have c3b1 : ((l0.length : Int) != (l1.length : Int)) = true := bne_iff_ne.mpr c3
    have c3b2 : (l0.length == l1.length) = false := by first | simpa using c3 | (simp at c3 ⊢; omega)
    obtain rfl := Option.some.inj H
    go_enter Try.func56, Try.ntmps56
    go_wp2
    repeat (go_quiet (fail); try go_wp2)
    go_ret
    exact ⟨by first | rfl | (simp; done) | (simp [*]; done) | exact congrArg Value.bool (ne_empty _) | exact congrArg Value.bool (eq_empty _), by repeat (first | exact Drawn0.refl _ | apply Drawn0.step)⟩

end Go.Proofs.Ytncfofnikmfjbaa.PCi
