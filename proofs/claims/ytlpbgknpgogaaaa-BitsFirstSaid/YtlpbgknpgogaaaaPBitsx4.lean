-- written by a program of this session (wip/tools/pr.py, over the kit's printer): not by hand
import Derived.Test.YtlpbgknpgogaaaaPBitsx0
import Derived.Test.YtlpbgknpgogaaaaPBitsx2
import Derived.Test.YtlpbgknpgogaaaaPBitsx3
namespace Go.Proofs.Ytlpbgknpgogaaaa.PBits
open Go.RowKit Go.Proofs.YtlpbgknpgogaaaaW.PrintWords Go.Proofs.YtlpbgknpgogaaaaW.PrintLast Go.Proofs.YtlpbgknpgogaaaaW.PrintMore
attribute [local go_sem] max2_int min2_int max_two min_two max_three min_three max_four min_four   -- for this text's walks alone
set_option linter.unusedVariables false
set_option linter.unusedSimpArgs false

/-! ### bits_Narrow: function 25 -/
def bits_Narrow.j0 : Nat → Int → Int → Bool → Bool → Option (Int × Bool)
  | 0, _, _, _, _ => none
  | k + 1, x0, x1, x2, x14 => if x14 = true then (some (0, false)) else ((bits_mask.f x1).bind fun t198 => (if x2 = true then ((bits_Widen.f k (Go.bits .and .u64 (IntKind.u64.wrap (x0)) t198) x1 x2).bind fun t199 => (if t199 = x0 then (some (Go.bits .and .u64 (IntKind.u64.wrap (x0)) t198, true)) else (some (0, false)))) else (if x0 < 0 then (some (0, false)) else ((bits_Widen.f k (Go.bits .and .u64 (IntKind.u64.wrap (x0)) t198) x1 x2).bind fun t200 => (if t200 = x0 then (some (Go.bits .and .u64 (IntKind.u64.wrap (x0)) t198, true)) else (some (0, false)))))))
def bits_Narrow.f (k : Nat) (a0 : Int) (a1 : Int) (a2 : Bool) : Option (Int × Bool) := if a1 < 1 then (bits_Narrow.j0 k a0 a1 a2 true) else (bits_Narrow.j0 k a0 a1 a2 (decide (a1 > 64)))
theorem bits_Narrow.mono_l : ∀ k, (∀ y0 y1 y2 y3, LeO (bits_Narrow.j0 k y0 y1 y2 y3) (bits_Narrow.j0 (k + 1) y0 y1 y2 y3))
  | 0 => fun _ _ _ _ r h => by simp [bits_Narrow.j0] at h
  | k + 1 => by
    have ih0 := bits_Narrow.mono_l k
    · intro y0 y1 y2 y3
      unfold bits_Narrow.j0
      repeat' first
      | (with_reducible exact ih0 _ _ _ _)
      | (with_reducible exact bits_Widen.mono _ _ _ _)
      | (with_reducible exact LeO.refl _)
      | (with_reducible exact LeO.none _)
      | (with_reducible refine LeO.ite ?_ ?_)
      | (with_reducible refine LeO.bind ?_ (fun _ => ?_))
      | exact ih0 _ _ _ _
      | exact bits_Widen.mono _ _ _ _
      | exact LeO.none _
      | refine LeO.ite ?_ ?_
      | refine LeO.bind ?_ (fun _ => ?_)
theorem bits_Narrow.mono : ∀ a0 a1 a2 k, LeO (bits_Narrow.f k a0 a1 a2) (bits_Narrow.f (k + 1) a0 a1 a2) := by
  intro a0 a1 a2 k
  have ih0 := bits_Narrow.mono_l k
  unfold bits_Narrow.f
  repeat' first
      | (with_reducible exact ih0 _ _ _ _)
      | (with_reducible exact bits_Widen.mono _ _ _ _)
      | (with_reducible exact LeO.refl _)
      | (with_reducible exact LeO.none _)
      | (with_reducible refine LeO.ite ?_ ?_)
      | (with_reducible refine LeO.bind ?_ (fun _ => ?_))
      | exact ih0 _ _ _ _
      | exact bits_Widen.mono _ _ _ _
      | exact LeO.none _
      | refine LeO.ite ?_ ?_
      | refine LeO.bind ?_ (fun _ => ?_)
set_option maxHeartbeats 8000000 in
set_option maxRecDepth 100000 in
theorem bits_Narrow.calls (k : Nat) (a0 : Int) (a1 : Int) (a2 : Bool) (r1 : Int) (r2 : Bool) (w : World) (h : bits_Narrow.f k a0 a1 a2 = some (r1, r2)) :
    Calls Try.prog 25 #[.int .i64 a0, .int .i64 a1, .bool a2] w fun e w' => e = .returned (.tuple #[.int .u64 r1, .bool r2]) ∧ Drawn0 w w' := by
  have H : (if a1 < 1 then (bits_Narrow.j0 k a0 a1 a2 true) else (bits_Narrow.j0 k a0 a1 a2 (decide (a1 > 64)))) = some (r1, r2) := h
  clear h
  have HC4 := Aside0.mk H
  clear H
  go_enter Try.func25, Try.ntmps25
  go_upto_region 1 with (fail)
  go_cut [14] (fun v14 wc => ∃ (kq : Nat) (x14_3 : Bool), v14 = .bool x14_3 ∧ Aside0 (bits_Narrow.j0 kq a0 a1 a2 x14_3 = some (r1, r2)) ∧ Aside0 (kq ≤ k) ∧ Drawn0 w wc)
  case first =>
    have H := HC4.out
    clear HC4
    by_cases c5 : a1 < 1
    · rw [if_pos c5] at H
      have c5b0 : decide (a1 < 1) = true := decide_eq_true c5
      clear c5
      (first | rw [c5b0] | (simp only [i64_w, i32_w]; rw [c5b0]) | skip)
      have H' := Aside0.mk H
      clear H
      go_wp2
      go_meet
      case rel => exact ⟨_, (true), (by first | rfl | (simp; done) | (simp [*]; done)), H', ⟨by first | omega | exact Nat.le_refl _⟩, by repeat (first | exact Drawn0.refl _ | apply Drawn0.step)⟩
    · rw [if_neg c5] at H
      have c5b0 : decide (a1 < 1) = false := decide_eq_false c5
      clear c5
      (first | rw [c5b0] | (simp only [i64_w, i32_w]; rw [c5b0]) | skip)
      have H' := Aside0.mk H
      clear H
      go_wp2
      go_meet
      case rel => exact ⟨_, (decide (a1 > 64)), (by first | rfl | (simp; done) | (simp [*]; done)), H', ⟨by first | omega | exact Nat.le_refl _⟩, by repeat (first | exact Drawn0.refl _ | apply Drawn0.step)⟩
  case rest =>
    clear HC4
    try clear c2
    try clear p2
    try clear c5
    try clear c5b0
    obtain ⟨kq, x14_3, rfl, HA, HJ3, ⟨mc3, rfl⟩⟩ := hcut
    cases kq with
    | zero => exact absurd HA.out (by simp [bits_Narrow.j0])
    | succ kj3 =>
      have H := HA.out
      clear HA
      simp only [bits_Narrow.j0] at H
      by_cases c6 : x14_3 = true
      · subst c6
        have H1 : (some (0, false)) = some (r1, r2) := by rw [if_pos rfl] at H; exact H
        clear H
        have H := H1
        clear H1
        simp only [Option.some.injEq, Prod.mk.injEq] at H
        obtain ⟨rfl, rfl⟩ := H
        go_wp2
        go_ret2
        exact ⟨by first | rfl | (simp; done) | (simp [*]; done), by repeat (first | exact Drawn0.refl _ | apply Drawn0.step)⟩
      · replace c6 := Bool.eq_false_iff.mpr c6
        subst c6
        have H1 : ((bits_mask.f a1).bind fun t198 => (if a2 = true then ((bits_Widen.f kj3 (Go.bits .and .u64 (IntKind.u64.wrap (a0)) t198) a1 a2).bind fun t199 => (if t199 = a0 then (some (Go.bits .and .u64 (IntKind.u64.wrap (a0)) t198, true)) else (some (0, false)))) else (if a0 < 0 then (some (0, false)) else ((bits_Widen.f kj3 (Go.bits .and .u64 (IntKind.u64.wrap (a0)) t198) a1 a2).bind fun t200 => (if t200 = a0 then (some (Go.bits .and .u64 (IntKind.u64.wrap (a0)) t198, true)) else (some (0, false))))))) = some (r1, r2) := by rw [if_neg (show ¬ (false = true) by decide)] at H; exact H
        clear H
        have H := H1
        clear H1
        replace H := Option.bind_eq_some_iff.mp H
        obtain ⟨t198, A70, H⟩ := H
        replace H : (if a2 = true then ((bits_Widen.f kj3 (Go.bits .and .u64 (IntKind.u64.wrap (a0)) t198) a1 a2).bind fun t199 => (if t199 = a0 then (some (Go.bits .and .u64 (IntKind.u64.wrap (a0)) t198, true)) else (some (0, false)))) else (if a0 < 0 then (some (0, false)) else ((bits_Widen.f kj3 (Go.bits .and .u64 (IntKind.u64.wrap (a0)) t198) a1 a2).bind fun t200 => (if t200 = a0 then (some (Go.bits .and .u64 (IntKind.u64.wrap (a0)) t198, true)) else (some (0, false)))))) = some (r1, r2) := H
        have A7 := Aside0.mk A70
        clear A70
        by_cases c8 : a2 = true
        · subst c8
          have H1 : ((bits_Widen.f kj3 (Go.bits .and .u64 (IntKind.u64.wrap (a0)) t198) a1 true).bind fun t199 => (if t199 = a0 then (some (Go.bits .and .u64 (IntKind.u64.wrap (a0)) t198, true)) else (some (0, false)))) = some (r1, r2) := by rw [if_pos rfl] at H; exact H
          clear H
          have H := H1
          clear H1
          replace H := Option.bind_eq_some_iff.mp H
          obtain ⟨t199, A90, H⟩ := H
          replace H : (if t199 = a0 then (some (Go.bits .and .u64 (IntKind.u64.wrap (a0)) t198, true)) else (some (0, false))) = some (r1, r2) := H
          have A9 := Aside0.mk A90
          clear A90
          by_cases c10 : t199 = a0
          · rw [if_pos c10] at H
            have c10b0 : (t199 == a0) = true := beq_iff_eq.mpr c10
            have c10b1 : (t199 != a0) = false := bne_eq_false_iff_eq.mpr c10
            clear c10
            simp only [Option.some.injEq, Prod.mk.injEq] at H
            obtain ⟨rfl, rfl⟩ := H
            go_wp2_with (first | ((with_reducible refine gate_callee (f := 43) rfl ?_); refine goesL_ (some 18) rfl rfl Try.func43 (by kernel_rfl) rfl #[.int .i64 a1] rfl (by (try simp only [List.map_toArray, List.map_cons, List.map_nil]); first | done | rfl | (simp only [List.length_drop, List.length_take]; rfl)) ?_; (with_reducible refine (bits_mask.calls a1 t198 _ A7.out).mono ?_); rintro e w' ⟨rfl, ⟨nd, rfl⟩⟩; refine ⟨_, rfl, ?_⟩) | (go_at_call 27; (with_reducible refine (bits_Widen.calls kj3 (Go.bits .and .u64 (IntKind.u64.wrap (a0)) t198) a1 true t199 _ A9.out).mono ?_); rintro e w' ⟨rfl, ⟨nd, rfl⟩⟩))
            go_ret2
            exact ⟨by first | rfl | (simp; done) | (simp [*]; done), by repeat (first | exact Drawn0.refl _ | apply Drawn0.step)⟩
          · rw [if_neg c10] at H
            have c10b0 : (t199 == a0) = false := beq_eq_false_iff_ne.mpr c10
            have c10b1 : (t199 != a0) = true := bne_iff_ne.mpr c10
            simp only [Option.some.injEq, Prod.mk.injEq] at H
            obtain ⟨rfl, rfl⟩ := H
            go_wp2_with (first | ((with_reducible refine gate_callee (f := 43) rfl ?_); refine goesL_ (some 18) rfl rfl Try.func43 (by kernel_rfl) rfl #[.int .i64 a1] rfl (by (try simp only [List.map_toArray, List.map_cons, List.map_nil]); first | done | rfl | (simp only [List.length_drop, List.length_take]; rfl)) ?_; (with_reducible refine (bits_mask.calls a1 t198 _ A7.out).mono ?_); rintro e w' ⟨rfl, ⟨nd, rfl⟩⟩; refine ⟨_, rfl, ?_⟩) | (go_at_call 27; (with_reducible refine (bits_Widen.calls kj3 (Go.bits .and .u64 (IntKind.u64.wrap (a0)) t198) a1 true t199 _ A9.out).mono ?_); rintro e w' ⟨rfl, ⟨nd, rfl⟩⟩))
            go_ret2
            exact ⟨by first | rfl | (simp; done) | (simp [*]; done), by repeat (first | exact Drawn0.refl _ | apply Drawn0.step)⟩
        · replace c8 := Bool.eq_false_iff.mpr c8
          subst c8
          have H1 : (if a0 < 0 then (some (0, false)) else ((bits_Widen.f kj3 (Go.bits .and .u64 (IntKind.u64.wrap (a0)) t198) a1 false).bind fun t200 => (if t200 = a0 then (some (Go.bits .and .u64 (IntKind.u64.wrap (a0)) t198, true)) else (some (0, false))))) = some (r1, r2) := by rw [if_neg (show ¬ (false = true) by decide)] at H; exact H
          clear H
          have H := H1
          clear H1
          by_cases c11 : a0 < 0
          · rw [if_pos c11] at H
            have c11b0 : decide (a0 < 0) = true := decide_eq_true c11
            clear c11
            simp only [Option.some.injEq, Prod.mk.injEq] at H
            obtain ⟨rfl, rfl⟩ := H
            go_wp2_with (first | ((with_reducible refine gate_callee (f := 43) rfl ?_); refine goesL_ (some 18) rfl rfl Try.func43 (by kernel_rfl) rfl #[.int .i64 a1] rfl (by (try simp only [List.map_toArray, List.map_cons, List.map_nil]); first | done | rfl | (simp only [List.length_drop, List.length_take]; rfl)) ?_; (with_reducible refine (bits_mask.calls a1 t198 _ A7.out).mono ?_); rintro e w' ⟨rfl, ⟨nd, rfl⟩⟩; refine ⟨_, rfl, ?_⟩))
            go_ret2
            exact ⟨by first | rfl | (simp; done) | (simp [*]; done), by repeat (first | exact Drawn0.refl _ | apply Drawn0.step)⟩
          · rw [if_neg c11] at H
            have c11b0 : decide (a0 < 0) = false := decide_eq_false c11
            clear c11
            replace H := Option.bind_eq_some_iff.mp H
            obtain ⟨t200, A120, H⟩ := H
            replace H : (if t200 = a0 then (some (Go.bits .and .u64 (IntKind.u64.wrap (a0)) t198, true)) else (some (0, false))) = some (r1, r2) := H
            have A12 := Aside0.mk A120
            clear A120
            by_cases c13 : t200 = a0
            · rw [if_pos c13] at H
              have c13b0 : (t200 == a0) = true := beq_iff_eq.mpr c13
              have c13b1 : (t200 != a0) = false := bne_eq_false_iff_eq.mpr c13
              clear c13
              simp only [Option.some.injEq, Prod.mk.injEq] at H
              obtain ⟨rfl, rfl⟩ := H
              go_wp2_with (first | ((with_reducible refine gate_callee (f := 43) rfl ?_); refine goesL_ (some 18) rfl rfl Try.func43 (by kernel_rfl) rfl #[.int .i64 a1] rfl (by (try simp only [List.map_toArray, List.map_cons, List.map_nil]); first | done | rfl | (simp only [List.length_drop, List.length_take]; rfl)) ?_; (with_reducible refine (bits_mask.calls a1 t198 _ A7.out).mono ?_); rintro e w' ⟨rfl, ⟨nd, rfl⟩⟩; refine ⟨_, rfl, ?_⟩) | (go_at_call 27; (with_reducible refine (bits_Widen.calls kj3 (Go.bits .and .u64 (IntKind.u64.wrap (a0)) t198) a1 false t200 _ A12.out).mono ?_); rintro e w' ⟨rfl, ⟨nd, rfl⟩⟩))
              go_ret2
              exact ⟨by first | rfl | (simp; done) | (simp [*]; done), by repeat (first | exact Drawn0.refl _ | apply Drawn0.step)⟩
            · rw [if_neg c13] at H
              have c13b0 : (t200 == a0) = false := beq_eq_false_iff_ne.mpr c13
              have c13b1 : (t200 != a0) = true := bne_iff_ne.mpr c13
              simp only [Option.some.injEq, Prod.mk.injEq] at H
              obtain ⟨rfl, rfl⟩ := H
              go_wp2_with (first | ((with_reducible refine gate_callee (f := 43) rfl ?_); refine goesL_ (some 18) rfl rfl Try.func43 (by kernel_rfl) rfl #[.int .i64 a1] rfl (by (try simp only [List.map_toArray, List.map_cons, List.map_nil]); first | done | rfl | (simp only [List.length_drop, List.length_take]; rfl)) ?_; (with_reducible refine (bits_mask.calls a1 t198 _ A7.out).mono ?_); rintro e w' ⟨rfl, ⟨nd, rfl⟩⟩; refine ⟨_, rfl, ?_⟩) | (go_at_call 27; (with_reducible refine (bits_Widen.calls kj3 (Go.bits .and .u64 (IntKind.u64.wrap (a0)) t198) a1 false t200 _ A12.out).mono ?_); rintro e w' ⟨rfl, ⟨nd, rfl⟩⟩))
              go_ret2
              exact ⟨by first | rfl | (simp; done) | (simp [*]; done), by repeat (first | exact Drawn0.refl _ | apply Drawn0.step)⟩

/-! ### bollardref1_Narrow: function 26 -/
mutual
def bollardref1_Narrow.j0 : Nat → Int → Int → Bool → Bool → Option (Int × Bool)
  | 0, _, _, _, _ => none
  | k + 1, x0, x1, x2, x22 => if x22 = true then (some (0, false)) else (if x1 = 64 then (bollardref1_Narrow.j1 k x0 x1 x2 true) else (if x2 = true then (bollardref1_Narrow.j1 k x0 x1 x2 false) else (bollardref1_Narrow.j1 k x0 x1 x2 (x1 == 63))))
def bollardref1_Narrow.j1 : Nat → Int → Int → Bool → Bool → Option (Int × Bool)
  | 0, _, _, _, _ => none
  | k + 1, x0, x1, x2, x32 => if x32 = true then (some (IntKind.u64.wrap (x0), true)) else (if x2 = true then (if 0 ≤ (wrap64 (x1 - 1)) then (if x1 < 64 then (if x0 < (wrap64 (-(shl .i64 1 (wrap64 (x1 - 1))))) then (bollardref1_Narrow.j2 k x0 x1 true) else (bollardref1_Narrow.j2 k x0 x1 (decide (x0 > (wrap64 ((shl .i64 1 (wrap64 (x1 - 1))) - 1)))))) else (bollardref1_Narrow.j2 k x0 x1 false)) else (none)) else (if 0 ≤ x1 then (if x0 > (wrap64 ((shl .i64 1 x1) - 1)) then (some (0, false)) else (some (IntKind.u64.wrap (x0), true))) else (none)))
def bollardref1_Narrow.j2 : Nat → Int → Int → Bool → Option (Int × Bool)
  | 0, _, _, _ => none
  | k + 1, x0, x1, x52 => if x52 = true then (some (0, false)) else (if 0 ≤ x1 then (some (Go.bits .and .u64 (IntKind.u64.wrap (x0)) (IntKind.u64.wrap ((shl .u64 1 x1) - 1)), true)) else (none))
end
def bollardref1_Narrow.f (k : Nat) (a0 : Int) (a1 : Int) (a2 : Bool) : Option (Int × Bool) := if a1 < 1 then (bollardref1_Narrow.j0 k a0 a1 a2 true) else (if a1 > 64 then (bollardref1_Narrow.j0 k a0 a1 a2 true) else (if a2 = true then (bollardref1_Narrow.j0 k a0 a1 a2 false) else (bollardref1_Narrow.j0 k a0 a1 a2 (decide (a0 < 0)))))
theorem bollardref1_Narrow.mono_l : ∀ k, (∀ y0 y1 y2 y3, LeO (bollardref1_Narrow.j0 k y0 y1 y2 y3) (bollardref1_Narrow.j0 (k + 1) y0 y1 y2 y3)) ∧ (∀ y0 y1 y2 y3, LeO (bollardref1_Narrow.j1 k y0 y1 y2 y3) (bollardref1_Narrow.j1 (k + 1) y0 y1 y2 y3)) ∧ (∀ y0 y1 y2, LeO (bollardref1_Narrow.j2 k y0 y1 y2) (bollardref1_Narrow.j2 (k + 1) y0 y1 y2))
  | 0 => ⟨fun _ _ _ _ r h => by simp [bollardref1_Narrow.j0] at h, fun _ _ _ _ r h => by simp [bollardref1_Narrow.j1] at h, fun _ _ _ r h => by simp [bollardref1_Narrow.j2] at h⟩
  | k + 1 => by
    obtain ⟨ih0, ih1, ih2⟩ := bollardref1_Narrow.mono_l k
    refine ⟨?_, ?_, ?_⟩
    · intro y0 y1 y2 y3
      unfold bollardref1_Narrow.j0
      repeat' first
      | (with_reducible exact ih0 _ _ _ _)
      | (with_reducible exact ih1 _ _ _ _)
      | (with_reducible exact ih2 _ _ _)
      | (with_reducible exact LeO.refl _)
      | (with_reducible exact LeO.none _)
      | (with_reducible refine LeO.ite ?_ ?_)
      | (with_reducible refine LeO.bind ?_ (fun _ => ?_))
      | exact ih0 _ _ _ _
      | exact ih1 _ _ _ _
      | exact ih2 _ _ _
      | exact LeO.none _
      | refine LeO.ite ?_ ?_
      | refine LeO.bind ?_ (fun _ => ?_)
    · intro y0 y1 y2 y3
      unfold bollardref1_Narrow.j1
      repeat' first
      | (with_reducible exact ih0 _ _ _ _)
      | (with_reducible exact ih1 _ _ _ _)
      | (with_reducible exact ih2 _ _ _)
      | (with_reducible exact LeO.refl _)
      | (with_reducible exact LeO.none _)
      | (with_reducible refine LeO.ite ?_ ?_)
      | (with_reducible refine LeO.bind ?_ (fun _ => ?_))
      | exact ih0 _ _ _ _
      | exact ih1 _ _ _ _
      | exact ih2 _ _ _
      | exact LeO.none _
      | refine LeO.ite ?_ ?_
      | refine LeO.bind ?_ (fun _ => ?_)
    · intro y0 y1 y2
      unfold bollardref1_Narrow.j2
      repeat' first
      | (with_reducible exact ih0 _ _ _ _)
      | (with_reducible exact ih1 _ _ _ _)
      | (with_reducible exact ih2 _ _ _)
      | (with_reducible exact LeO.refl _)
      | (with_reducible exact LeO.none _)
      | (with_reducible refine LeO.ite ?_ ?_)
      | (with_reducible refine LeO.bind ?_ (fun _ => ?_))
      | exact ih0 _ _ _ _
      | exact ih1 _ _ _ _
      | exact ih2 _ _ _
      | exact LeO.none _
      | refine LeO.ite ?_ ?_
      | refine LeO.bind ?_ (fun _ => ?_)
theorem bollardref1_Narrow.mono : ∀ a0 a1 a2 k, LeO (bollardref1_Narrow.f k a0 a1 a2) (bollardref1_Narrow.f (k + 1) a0 a1 a2) := by
  intro a0 a1 a2 k
  obtain ⟨ih0, ih1, ih2⟩ := bollardref1_Narrow.mono_l k
  unfold bollardref1_Narrow.f
  repeat' first
      | (with_reducible exact ih0 _ _ _ _)
      | (with_reducible exact ih1 _ _ _ _)
      | (with_reducible exact ih2 _ _ _)
      | (with_reducible exact LeO.refl _)
      | (with_reducible exact LeO.none _)
      | (with_reducible refine LeO.ite ?_ ?_)
      | (with_reducible refine LeO.bind ?_ (fun _ => ?_))
      | exact ih0 _ _ _ _
      | exact ih1 _ _ _ _
      | exact ih2 _ _ _
      | exact LeO.none _
      | refine LeO.ite ?_ ?_
      | refine LeO.bind ?_ (fun _ => ?_)
set_option maxHeartbeats 8000000 in
set_option maxRecDepth 100000 in
theorem bollardref1_Narrow.calls (k : Nat) (a0 : Int) (a1 : Int) (a2 : Bool) (r1 : Int) (r2 : Bool) (w : World) (h : bollardref1_Narrow.f k a0 a1 a2 = some (r1, r2)) :
    Calls Try.prog 26 #[.int .i64 a0, .int .i64 a1, .bool a2] w fun e w' => e = .returned (.tuple #[.int .u64 r1, .bool r2]) ∧ Drawn0 w w' := by
  have H : (if a1 < 1 then (bollardref1_Narrow.j0 k a0 a1 a2 true) else (if a1 > 64 then (bollardref1_Narrow.j0 k a0 a1 a2 true) else (if a2 = true then (bollardref1_Narrow.j0 k a0 a1 a2 false) else (bollardref1_Narrow.j0 k a0 a1 a2 (decide (a0 < 0)))))) = some (r1, r2) := h
  clear h
  have HC4 := Aside0.mk H
  clear H
  go_enter Try.func26, Try.ntmps26
  go_upto_region 1 with (fail)
  go_cut [22] (fun v22 wc => ∃ (kq : Nat) (x22_3 : Bool), v22 = .bool x22_3 ∧ Aside0 (bollardref1_Narrow.j0 kq a0 a1 a2 x22_3 = some (r1, r2)) ∧ Aside0 (kq ≤ k) ∧ Drawn0 w wc)
  case first =>
    have H := HC4.out
    clear HC4
    by_cases c5 : a1 < 1
    · rw [if_pos c5] at H
      have c5b0 : decide (a1 < 1) = true := decide_eq_true c5
      clear c5
      (first | rw [c5b0] | (simp only [i64_w, i32_w]; rw [c5b0]) | skip)
      have H' := Aside0.mk H
      clear H
      go_wp2
      go_meet
      case rel => exact ⟨_, (true), (by first | rfl | (simp; done) | (simp [*]; done)), H', ⟨by first | omega | exact Nat.le_refl _⟩, by repeat (first | exact Drawn0.refl _ | apply Drawn0.step)⟩
    · rw [if_neg c5] at H
      have c5b0 : decide (a1 < 1) = false := decide_eq_false c5
      clear c5
      (first | rw [c5b0] | (simp only [i64_w, i32_w]; rw [c5b0]) | skip)
      by_cases c6 : a1 > 64
      · rw [if_pos c6] at H
        have c6b0 : decide (64 < a1) = true := decide_eq_true c6
        clear c6
        have H' := Aside0.mk H
        clear H
        go_wp2
        go_meet
        case rel => exact ⟨_, (true), (by first | rfl | (simp; done) | (simp [*]; done)), H', ⟨by first | omega | exact Nat.le_refl _⟩, by repeat (first | exact Drawn0.refl _ | apply Drawn0.step)⟩
      · rw [if_neg c6] at H
        have c6b0 : decide (64 < a1) = false := decide_eq_false c6
        clear c6
        by_cases c7 : a2 = true
        · subst c7
          have H1 : (bollardref1_Narrow.j0 k a0 a1 true false) = some (r1, r2) := by rw [if_pos rfl] at H; exact H
          clear H
          have H := H1
          clear H1
          have H' := Aside0.mk H
          clear H
          go_wp2
          go_meet
          case rel => exact ⟨_, (false), (by first | rfl | (simp; done) | (simp [*]; done)), H', ⟨by first | omega | exact Nat.le_refl _⟩, by repeat (first | exact Drawn0.refl _ | apply Drawn0.step)⟩
        · replace c7 := Bool.eq_false_iff.mpr c7
          subst c7
          have H1 : (bollardref1_Narrow.j0 k a0 a1 false (decide (a0 < 0))) = some (r1, r2) := by rw [if_neg (show ¬ (false = true) by decide)] at H; exact H
          clear H
          have H := H1
          clear H1
          have H' := Aside0.mk H
          clear H
          go_wp2
          go_meet
          case rel => exact ⟨_, (decide (a0 < 0)), (by first | rfl | (simp; done) | (simp [*]; done)), H', ⟨by first | omega | exact Nat.le_refl _⟩, by repeat (first | exact Drawn0.refl _ | apply Drawn0.step)⟩
  case rest =>
    clear HC4
    try clear c2
    try clear p2
    try clear c5
    try clear c5b0
    try clear c6
    try clear c6b0
    try clear c7
    obtain ⟨kq, x22_3, rfl, HA, HJ3, ⟨mc3, rfl⟩⟩ := hcut
    cases kq with
    | zero => exact absurd HA.out (by simp [bollardref1_Narrow.j0])
    | succ kj3 =>
      have H := HA.out
      clear HA
      simp only [bollardref1_Narrow.j0] at H
      by_cases c8 : x22_3 = true
      · subst c8
        have H1 : (some (0, false)) = some (r1, r2) := by rw [if_pos rfl] at H; exact H
        clear H
        have H := H1
        clear H1
        simp only [Option.some.injEq, Prod.mk.injEq] at H
        obtain ⟨rfl, rfl⟩ := H
        go_wp2
        go_ret2
        exact ⟨by first | rfl | (simp; done) | (simp [*]; done), by repeat (first | exact Drawn0.refl _ | apply Drawn0.step)⟩
      · replace c8 := Bool.eq_false_iff.mpr c8
        subst c8
        have H1 : (if a1 = 64 then (bollardref1_Narrow.j1 kj3 a0 a1 a2 true) else (if a2 = true then (bollardref1_Narrow.j1 kj3 a0 a1 a2 false) else (bollardref1_Narrow.j1 kj3 a0 a1 a2 (a1 == 63)))) = some (r1, r2) := by rw [if_neg (show ¬ (false = true) by decide)] at H; exact H
        clear H
        have H := H1
        clear H1
        have HC9 := Aside0.mk H
        clear H
        go_upto_region 3 with (fail)
        go_cut [32] (fun v32 wc => ∃ (kq : Nat) (x32_8 : Bool), v32 = .bool x32_8 ∧ Aside0 (bollardref1_Narrow.j1 kq a0 a1 a2 x32_8 = some (r1, r2)) ∧ Aside0 (kq ≤ kj3) ∧ Drawn0 w wc)
        case first =>
          have H := HC9.out
          clear HC9
          by_cases c10 : a1 = 64
          · rw [if_pos c10] at H
            have c10b0 : (a1 == 64) = true := beq_iff_eq.mpr c10
            have c10b1 : (a1 != 64) = false := bne_eq_false_iff_eq.mpr c10
            clear c10
            (first | rw [c10b0] | (simp only [i64_w, i32_w]; rw [c10b0]) | skip)
            have H' := Aside0.mk H
            clear H
            go_wp2
            go_meet
            case rel => exact ⟨_, (true), (by first | rfl | (simp; done) | (simp [*]; done)), H', ⟨by have := HJ3.out; first | omega | exact Nat.le_refl _⟩, by repeat (first | exact Drawn0.refl _ | apply Drawn0.step)⟩
          · rw [if_neg c10] at H
            have c10b0 : (a1 == 64) = false := beq_eq_false_iff_ne.mpr c10
            have c10b1 : (a1 != 64) = true := bne_iff_ne.mpr c10
            (first | rw [c10b0] | (simp only [i64_w, i32_w]; rw [c10b0]) | skip)
            by_cases c11 : a2 = true
            · subst c11
              have H1 : (bollardref1_Narrow.j1 kj3 a0 a1 true false) = some (r1, r2) := by rw [if_pos rfl] at H; exact H
              clear H
              have H := H1
              clear H1
              have H' := Aside0.mk H
              clear H
              go_wp2
              go_meet
              case rel => exact ⟨_, (false), (by first | rfl | (simp; done) | (simp [*]; done)), H', ⟨by have := HJ3.out; first | omega | exact Nat.le_refl _⟩, by repeat (first | exact Drawn0.refl _ | apply Drawn0.step)⟩
            · replace c11 := Bool.eq_false_iff.mpr c11
              subst c11
              have H1 : (bollardref1_Narrow.j1 kj3 a0 a1 false (a1 == 63)) = some (r1, r2) := by rw [if_neg (show ¬ (false = true) by decide)] at H; exact H
              clear H
              have H := H1
              clear H1
              have H' := Aside0.mk H
              clear H
              go_wp2
              go_meet
              case rel => exact ⟨_, ((a1 == 63)), (by first | rfl | (simp; done) | (simp [*]; done)), H', ⟨by have := HJ3.out; first | omega | exact Nat.le_refl _⟩, by repeat (first | exact Drawn0.refl _ | apply Drawn0.step)⟩
        case rest =>
          clear HC9
          try clear c1
          try clear c2
          try clear p2
          try clear c3
          try clear c5
          try clear c5b0
          try clear c6
          try clear c6b0
          try clear c7
          try clear c8
          try clear c10
          try clear c10b0
          try clear c10b1
          try clear c11
          try clear p2
          obtain ⟨kq, x32_8, rfl, HA, HJ8, ⟨mc8, rfl⟩⟩ := hcut
          cases kq with
          | zero => exact absurd HA.out (by simp [bollardref1_Narrow.j1])
          | succ kj8 =>
            have H := HA.out
            clear HA
            simp only [bollardref1_Narrow.j1] at H
            by_cases c12 : x32_8 = true
            · subst c12
              have H1 : (some (IntKind.u64.wrap (a0), true)) = some (r1, r2) := by rw [if_pos rfl] at H; exact H
              clear H
              have H := H1
              clear H1
              simp only [Option.some.injEq, Prod.mk.injEq] at H
              obtain ⟨rfl, rfl⟩ := H
              go_wp2
              go_ret2
              exact ⟨by first | rfl | (simp; done) | (simp [*]; done), by repeat (first | exact Drawn0.refl _ | apply Drawn0.step)⟩
            · replace c12 := Bool.eq_false_iff.mpr c12
              subst c12
              have H1 : (if a2 = true then (if 0 ≤ (wrap64 (a1 - 1)) then (if a1 < 64 then (if a0 < (wrap64 (-(shl .i64 1 (wrap64 (a1 - 1))))) then (bollardref1_Narrow.j2 kj8 a0 a1 true) else (bollardref1_Narrow.j2 kj8 a0 a1 (decide (a0 > (wrap64 ((shl .i64 1 (wrap64 (a1 - 1))) - 1)))))) else (bollardref1_Narrow.j2 kj8 a0 a1 false)) else (none)) else (if 0 ≤ a1 then (if a0 > (wrap64 ((shl .i64 1 a1) - 1)) then (some (0, false)) else (some (IntKind.u64.wrap (a0), true))) else (none))) = some (r1, r2) := by rw [if_neg (show ¬ (false = true) by decide)] at H; exact H
              clear H
              have H := H1
              clear H1
              by_cases c13 : a2 = true
              · subst c13
                have H1 : (if 0 ≤ (wrap64 (a1 - 1)) then (if a1 < 64 then (if a0 < (wrap64 (-(shl .i64 1 (wrap64 (a1 - 1))))) then (bollardref1_Narrow.j2 kj8 a0 a1 true) else (bollardref1_Narrow.j2 kj8 a0 a1 (decide (a0 > (wrap64 ((shl .i64 1 (wrap64 (a1 - 1))) - 1)))))) else (bollardref1_Narrow.j2 kj8 a0 a1 false)) else (none)) = some (r1, r2) := by rw [if_pos rfl] at H; exact H
                clear H
                have H := H1
                clear H1
                obtain ⟨ji14, hji14⟩ : ∃ j_ : Int, (wrap64 (a1 - 1)) = j_ := ⟨_, rfl⟩
                replace H : (if 0 ≤ (ji14) then (if a1 < 64 then (if a0 < (wrap64 (-(shl .i64 1 (ji14)))) then (bollardref1_Narrow.j2 kj8 a0 a1 true) else (bollardref1_Narrow.j2 kj8 a0 a1 (decide (a0 > (wrap64 ((shl .i64 1 (ji14)) - 1)))))) else (bollardref1_Narrow.j2 kj8 a0 a1 false)) else (none)) = some (r1, r2) := by first | (rw [hji14] at H; exact H) | (simp only [hji14] at H ⊢; exact H)
                have hji14w : (IntKind.i64.wrap (a1 - 1)) = ji14 := (i64_w _).trans hji14
                by_cases c15 : 0 ≤ (ji14)
                · rw [if_pos c15] at H
                  have c15b0 := eq_true c15
                  have c15b1 : decide (0 ≤ (ji14)) = true := decide_eq_true c15
                  clear c15
                  obtain ⟨ji16, hji16⟩ : ∃ j_ : Int, (shl .i64 1 (ji14)) = j_ := ⟨_, rfl⟩
                  replace H : (if a1 < 64 then (if a0 < (wrap64 (-(ji16))) then (bollardref1_Narrow.j2 kj8 a0 a1 true) else (bollardref1_Narrow.j2 kj8 a0 a1 (decide (a0 > (wrap64 ((ji16) - 1)))))) else (bollardref1_Narrow.j2 kj8 a0 a1 false)) = some (r1, r2) := by first | (rw [hji16] at H; exact H) | (simp only [hji16] at H ⊢; exact H)
                  have hji16_ : (IntKind.i64.wrap (1 * 2 ^ min (ji14).toNat 64)) = ji16 := hji16
                  have hji16z : (ji14) ≤ 64 → (IntKind.i64.wrap (1 * 2 ^ (ji14).toNat)) = ji16 := shl_small hji16
                  have hji16u : (IntKind.i64.wrap (2 ^ min (ji14).toNat 64)) = ji16 := by have h_ := hji16_; rw [Int.one_mul] at h_; exact h_
                  have hji16v : (ji14) ≤ 64 → (IntKind.i64.wrap (2 ^ (ji14).toNat)) = ji16 := fun hle_ => by have h_ := hji16z hle_; rw [Int.one_mul] at h_; exact h_
                  have hji16y : (wrap64 (1 * 2 ^ min (ji14).toNat 64)) = ji16 := (i64_w _).symm.trans hji16_
                  have hji16x : (ji14) ≤ 64 → (wrap64 (1 * 2 ^ (ji14).toNat)) = ji16 := fun h_ => (i64_w _).symm.trans (hji16z h_)
                  have HC17 := Aside0.mk H
                  clear H
                  go_upto_region 7 with (fail)
                  go_cut [52] (fun v52 wc => ∃ (kq : Nat) (x52_16 : Bool), v52 = .bool x52_16 ∧ Aside0 (bollardref1_Narrow.j2 kq a0 a1 x52_16 = some (r1, r2)) ∧ Aside0 (kq ≤ kj8) ∧ Drawn0 w wc)
                  case first =>
                    have H := HC17.out
                    clear HC17
                    by_cases c18 : a1 < 64
                    · rw [if_pos c18] at H
                      have c18b0 : decide (a1 < 64) = true := decide_eq_true c18
                      clear c18
                      (first | rw [c18b0] | (simp only [i64_w, i32_w]; rw [c18b0]) | skip)
                      by_cases c19 : a0 < (wrap64 (-(ji16)))
                      · rw [if_pos c19] at H
                        have c19b0 : decide (a0 < (wrap64 (-(ji16)))) = true := decide_eq_true c19
                        clear c19
                        have H' := Aside0.mk H
                        clear H
                        go_wp2
                        go_meet
                        case rel => exact ⟨_, (true), (by first | rfl | (simp; done) | (simp [*]; done)), H', ⟨by have := HJ3.out; have := HJ8.out; first | omega | exact Nat.le_refl _⟩, by repeat (first | exact Drawn0.refl _ | apply Drawn0.step)⟩
                      · rw [if_neg c19] at H
                        have c19b0 : decide (a0 < (wrap64 (-(ji16)))) = false := decide_eq_false c19
                        clear c19
                        have H' := Aside0.mk H
                        clear H
                        go_wp2
                        go_meet
                        case rel => exact ⟨_, (decide (a0 > (wrap64 ((ji16) - 1)))), (by first | rfl | (simp; done) | (simp only [← hji16] <;> (first | rfl | simp)) | (simp [*]; done)), H', ⟨by have := HJ3.out; have := HJ8.out; first | omega | exact Nat.le_refl _⟩, by repeat (first | exact Drawn0.refl _ | apply Drawn0.step)⟩
                    · rw [if_neg c18] at H
                      have c18b0 : decide (a1 < 64) = false := decide_eq_false c18
                      clear c18
                      (first | rw [c18b0] | (simp only [i64_w, i32_w]; rw [c18b0]) | skip)
                      have H' := Aside0.mk H
                      clear H
                      go_wp2
                      go_meet
                      case rel => exact ⟨_, (false), (by first | rfl | (simp; done) | (simp [*]; done)), H', ⟨by have := HJ3.out; have := HJ8.out; first | omega | exact Nat.le_refl _⟩, by repeat (first | exact Drawn0.refl _ | apply Drawn0.step)⟩
                  case rest =>
                    clear HC17
                    try clear c1
                    try clear c2
                    try clear p2
                    try clear c3
                    try clear c5
                    try clear c5b0
                    try clear c6
                    try clear c6b0
                    try clear p6
                    try clear c7
                    try clear c8
                    try clear c10
                    try clear c10b0
                    try clear c10b1
                    try clear c11
                    try clear c12
                    try clear c13
                    try clear c15
                    try clear c15b0
                    try clear c15b1
                    try clear c18
                    try clear c18b0
                    try clear c19
                    try clear c19b0
                    try clear p2
                    obtain ⟨kq, x52_16, rfl, HA, HJ16, ⟨mc16, rfl⟩⟩ := hcut
                    cases kq with
                    | zero => exact absurd HA.out (by simp [bollardref1_Narrow.j2])
                    | succ kj16 =>
                      have H := HA.out
                      clear HA
                      simp only [bollardref1_Narrow.j2] at H
                      by_cases c20 : x52_16 = true
                      · subst c20
                        have H1 : (some (0, false)) = some (r1, r2) := by rw [if_pos rfl] at H; exact H
                        clear H
                        have H := H1
                        clear H1
                        simp only [Option.some.injEq, Prod.mk.injEq] at H
                        obtain ⟨rfl, rfl⟩ := H
                        go_wp2
                        go_ret2
                        exact ⟨by first | rfl | (simp; done) | (simp only [← hji14, ← hji16] <;> (first | rfl | simp)) | (simp [*]; done), by repeat (first | exact Drawn0.refl _ | apply Drawn0.step)⟩
                      · replace c20 := Bool.eq_false_iff.mpr c20
                        subst c20
                        have H1 : (if 0 ≤ a1 then (some (Go.bits .and .u64 (IntKind.u64.wrap (a0)) (IntKind.u64.wrap ((shl .u64 1 a1) - 1)), true)) else (none)) = some (r1, r2) := by rw [if_neg (show ¬ (false = true) by decide)] at H; exact H
                        clear H
                        have H := H1
                        clear H1
                        by_cases c21 : 0 ≤ a1
                        · rw [if_pos c21] at H
                          have c21b0 := eq_true c21
                          have c21b1 : decide (0 ≤ a1) = true := decide_eq_true c21
                          clear c21
                          obtain ⟨ji22, hji22⟩ : ∃ j_ : Int, (shl .u64 1 a1) = j_ := ⟨_, rfl⟩
                          replace H : (some (Go.bits .and .u64 (IntKind.u64.wrap (a0)) (IntKind.u64.wrap ((ji22) - 1)), true)) = some (r1, r2) := by first | (rw [hji22] at H; exact H) | (simp only [hji22] at H ⊢; exact H)
                          have hji22_ : (IntKind.u64.wrap (1 * 2 ^ min a1.toNat 64)) = ji22 := hji22
                          have hji22z : a1 ≤ 64 → (IntKind.u64.wrap (1 * 2 ^ a1.toNat)) = ji22 := shl_small hji22
                          have hji22u : (IntKind.u64.wrap (2 ^ min a1.toNat 64)) = ji22 := by have h_ := hji22_; rw [Int.one_mul] at h_; exact h_
                          have hji22v : a1 ≤ 64 → (IntKind.u64.wrap (2 ^ a1.toNat)) = ji22 := fun hle_ => by have h_ := hji22z hle_; rw [Int.one_mul] at h_; exact h_
                          simp only [Option.some.injEq, Prod.mk.injEq] at H
                          obtain ⟨rfl, rfl⟩ := H
                          go_wp2
                          go_ret2
                          exact ⟨by first | rfl | (simp; done) | (simp only [← hji14, ← hji16, ← hji22] <;> (first | rfl | simp)) | (simp [*]; done), by repeat (first | exact Drawn0.refl _ | apply Drawn0.step)⟩
                        · rw [if_neg c21] at H
                          exact absurd H (by simp)
                · rw [if_neg c15] at H
                  exact absurd H (by simp)
              · replace c13 := Bool.eq_false_iff.mpr c13
                subst c13
                have H1 : (if 0 ≤ a1 then (if a0 > (wrap64 ((shl .i64 1 a1) - 1)) then (some (0, false)) else (some (IntKind.u64.wrap (a0), true))) else (none)) = some (r1, r2) := by rw [if_neg (show ¬ (false = true) by decide)] at H; exact H
                clear H
                have H := H1
                clear H1
                by_cases c23 : 0 ≤ a1
                · rw [if_pos c23] at H
                  have c23b0 := eq_true c23
                  have c23b1 : decide (0 ≤ a1) = true := decide_eq_true c23
                  clear c23
                  obtain ⟨ji24, hji24⟩ : ∃ j_ : Int, (shl .i64 1 a1) = j_ := ⟨_, rfl⟩
                  replace H : (if a0 > (wrap64 ((ji24) - 1)) then (some (0, false)) else (some (IntKind.u64.wrap (a0), true))) = some (r1, r2) := by first | (rw [hji24] at H; exact H) | (simp only [hji24] at H ⊢; exact H)
                  have hji24_ : (IntKind.i64.wrap (1 * 2 ^ min a1.toNat 64)) = ji24 := hji24
                  have hji24z : a1 ≤ 64 → (IntKind.i64.wrap (1 * 2 ^ a1.toNat)) = ji24 := shl_small hji24
                  have hji24u : (IntKind.i64.wrap (2 ^ min a1.toNat 64)) = ji24 := by have h_ := hji24_; rw [Int.one_mul] at h_; exact h_
                  have hji24v : a1 ≤ 64 → (IntKind.i64.wrap (2 ^ a1.toNat)) = ji24 := fun hle_ => by have h_ := hji24z hle_; rw [Int.one_mul] at h_; exact h_
                  have hji24y : (wrap64 (1 * 2 ^ min a1.toNat 64)) = ji24 := (i64_w _).symm.trans hji24_
                  have hji24x : a1 ≤ 64 → (wrap64 (1 * 2 ^ a1.toNat)) = ji24 := fun h_ => (i64_w _).symm.trans (hji24z h_)
                  by_cases c25 : a0 > (wrap64 ((ji24) - 1))
                  · rw [if_pos c25] at H
                    have c25b0 : decide ((wrap64 ((ji24) - 1)) < a0) = true := decide_eq_true c25
                    clear c25
                    simp only [Option.some.injEq, Prod.mk.injEq] at H
                    obtain ⟨rfl, rfl⟩ := H
                    go_wp2
                    go_ret2
                    exact ⟨by first | rfl | (simp; done) | (simp only [← hji24] <;> (first | rfl | simp)) | (simp [*]; done), by repeat (first | exact Drawn0.refl _ | apply Drawn0.step)⟩
                  · rw [if_neg c25] at H
                    have c25b0 : decide ((wrap64 ((ji24) - 1)) < a0) = false := decide_eq_false c25
                    clear c25
                    simp only [Option.some.injEq, Prod.mk.injEq] at H
                    obtain ⟨rfl, rfl⟩ := H
                    go_wp2
                    go_ret2
                    exact ⟨by first | rfl | (simp; done) | (simp only [← hji24] <;> (first | rfl | simp)) | (simp [*]; done), by repeat (first | exact Drawn0.refl _ | apply Drawn0.step)⟩
                · rw [if_neg c23] at H
                  exact absurd H (by simp)

/-! ### bollardref1_Widen: function 28 -/
def bollardref1_Widen.j0 : Nat → Int → Int → Bool → Bool → Option (Int)
  | 0, _, _, _, _ => none
  | k + 1, x0, x1, x2, x12 => if x12 = true then (some 0) else (if x1 = 64 then (some (wrap64 (x0))) else (if 0 ≤ x1 then (if x2 = true then (if 0 ≤ (wrap64 (x1 - 1)) then (if (shr .u64 (Go.bits .and .u64 x0 (IntKind.u64.wrap ((shl .u64 1 x1) - 1))) (wrap64 (x1 - 1))) = 1 then (some (wrap64 ((wrap64 (Go.bits .and .u64 x0 (IntKind.u64.wrap ((shl .u64 1 x1) - 1)))) - (shl .i64 1 x1)))) else (some (wrap64 (Go.bits .and .u64 x0 (IntKind.u64.wrap ((shl .u64 1 x1) - 1)))))) else (none)) else (some (wrap64 (Go.bits .and .u64 x0 (IntKind.u64.wrap ((shl .u64 1 x1) - 1)))))) else (none)))
def bollardref1_Widen.f (k : Nat) (a0 : Int) (a1 : Int) (a2 : Bool) : Option (Int) := if a1 < 1 then (bollardref1_Widen.j0 k a0 a1 a2 true) else (bollardref1_Widen.j0 k a0 a1 a2 (decide (a1 > 64)))
theorem bollardref1_Widen.mono_l : ∀ k, (∀ y0 y1 y2 y3, LeO (bollardref1_Widen.j0 k y0 y1 y2 y3) (bollardref1_Widen.j0 (k + 1) y0 y1 y2 y3))
  | 0 => fun _ _ _ _ r h => by simp [bollardref1_Widen.j0] at h
  | k + 1 => by
    have ih0 := bollardref1_Widen.mono_l k
    · intro y0 y1 y2 y3
      unfold bollardref1_Widen.j0
      repeat' first
      | (with_reducible exact ih0 _ _ _ _)
      | (with_reducible exact LeO.refl _)
      | (with_reducible exact LeO.none _)
      | (with_reducible refine LeO.ite ?_ ?_)
      | (with_reducible refine LeO.bind ?_ (fun _ => ?_))
      | exact ih0 _ _ _ _
      | exact LeO.none _
      | refine LeO.ite ?_ ?_
      | refine LeO.bind ?_ (fun _ => ?_)
theorem bollardref1_Widen.mono : ∀ a0 a1 a2 k, LeO (bollardref1_Widen.f k a0 a1 a2) (bollardref1_Widen.f (k + 1) a0 a1 a2) := by
  intro a0 a1 a2 k
  have ih0 := bollardref1_Widen.mono_l k
  unfold bollardref1_Widen.f
  repeat' first
      | (with_reducible exact ih0 _ _ _ _)
      | (with_reducible exact LeO.refl _)
      | (with_reducible exact LeO.none _)
      | (with_reducible refine LeO.ite ?_ ?_)
      | (with_reducible refine LeO.bind ?_ (fun _ => ?_))
      | exact ih0 _ _ _ _
      | exact LeO.none _
      | refine LeO.ite ?_ ?_
      | refine LeO.bind ?_ (fun _ => ?_)
set_option maxHeartbeats 8000000 in
set_option maxRecDepth 100000 in
theorem bollardref1_Widen.calls (k : Nat) (a0 : Int) (a1 : Int) (a2 : Bool) (r : Int) (w : World) (h : bollardref1_Widen.f k a0 a1 a2 = some r) :
    Calls Try.prog 28 #[.int .u64 a0, .int .i64 a1, .bool a2] w fun e w' => e = .returned (.int .i64 r) ∧ Drawn0 w w' := by
  have H : (if a1 < 1 then (bollardref1_Widen.j0 k a0 a1 a2 true) else (bollardref1_Widen.j0 k a0 a1 a2 (decide (a1 > 64)))) = some r := h
  clear h
  have HC4 := Aside0.mk H
  clear H
  go_enter Try.func28, Try.ntmps28
  go_upto_region 1 with (fail)
  go_cut [12] (fun v12 wc => ∃ (kq : Nat) (x12_3 : Bool), v12 = .bool x12_3 ∧ Aside0 (bollardref1_Widen.j0 kq a0 a1 a2 x12_3 = some r) ∧ Aside0 (kq ≤ k) ∧ Drawn0 w wc)
  case first =>
    have H := HC4.out
    clear HC4
    by_cases c5 : a1 < 1
    · rw [if_pos c5] at H
      have c5b0 : decide (a1 < 1) = true := decide_eq_true c5
      clear c5
      (first | rw [c5b0] | (simp only [i64_w, i32_w]; rw [c5b0]) | skip)
      have H' := Aside0.mk H
      clear H
      go_wp2
      go_meet
      case rel => exact ⟨_, (true), (by first | rfl | (simp; done) | (simp [*]; done)), H', ⟨by first | omega | exact Nat.le_refl _⟩, by repeat (first | exact Drawn0.refl _ | apply Drawn0.step)⟩
    · rw [if_neg c5] at H
      have c5b0 : decide (a1 < 1) = false := decide_eq_false c5
      clear c5
      (first | rw [c5b0] | (simp only [i64_w, i32_w]; rw [c5b0]) | skip)
      have H' := Aside0.mk H
      clear H
      go_wp2
      go_meet
      case rel => exact ⟨_, (decide (a1 > 64)), (by first | rfl | (simp; done) | (simp [*]; done)), H', ⟨by first | omega | exact Nat.le_refl _⟩, by repeat (first | exact Drawn0.refl _ | apply Drawn0.step)⟩
  case rest =>
    clear HC4
    try clear c2
    try clear p2
    try clear c5
    try clear c5b0
    obtain ⟨kq, x12_3, rfl, HA, HJ3, ⟨mc3, rfl⟩⟩ := hcut
    cases kq with
    | zero => exact absurd HA.out (by simp [bollardref1_Widen.j0])
    | succ kj3 =>
      have H := HA.out
      clear HA
      simp only [bollardref1_Widen.j0] at H
      by_cases c6 : x12_3 = true
      · subst c6
        have H1 : (some 0) = some r := by rw [if_pos rfl] at H; exact H
        clear H
        have H := H1
        clear H1
        obtain rfl := Option.some.inj H
        go_wp2
        go_ret
        exact ⟨by first | rfl | (simp; done) | (simp [*]; done), by repeat (first | exact Drawn0.refl _ | apply Drawn0.step)⟩
      · replace c6 := Bool.eq_false_iff.mpr c6
        subst c6
        have H1 : (if a1 = 64 then (some (wrap64 (a0))) else (if 0 ≤ a1 then (if a2 = true then (if 0 ≤ (wrap64 (a1 - 1)) then (if (shr .u64 (Go.bits .and .u64 a0 (IntKind.u64.wrap ((shl .u64 1 a1) - 1))) (wrap64 (a1 - 1))) = 1 then (some (wrap64 ((wrap64 (Go.bits .and .u64 a0 (IntKind.u64.wrap ((shl .u64 1 a1) - 1)))) - (shl .i64 1 a1)))) else (some (wrap64 (Go.bits .and .u64 a0 (IntKind.u64.wrap ((shl .u64 1 a1) - 1)))))) else (none)) else (some (wrap64 (Go.bits .and .u64 a0 (IntKind.u64.wrap ((shl .u64 1 a1) - 1)))))) else (none))) = some r := by rw [if_neg (show ¬ (false = true) by decide)] at H; exact H
        clear H
        have H := H1
        clear H1
        by_cases c7 : a1 = 64
        · rw [if_pos c7] at H
          have c7b0 : (a1 == 64) = true := beq_iff_eq.mpr c7
          have c7b1 : (a1 != 64) = false := bne_eq_false_iff_eq.mpr c7
          clear c7
          obtain rfl := Option.some.inj H
          go_wp2
          go_ret
          exact ⟨by first | rfl | (simp; done) | (simp [*]; done), by repeat (first | exact Drawn0.refl _ | apply Drawn0.step)⟩
        · rw [if_neg c7] at H
          have c7b0 : (a1 == 64) = false := beq_eq_false_iff_ne.mpr c7
          have c7b1 : (a1 != 64) = true := bne_iff_ne.mpr c7
          by_cases c8 : 0 ≤ a1
          · rw [if_pos c8] at H
            have c8b0 := eq_true c8
            have c8b1 : decide (0 ≤ a1) = true := decide_eq_true c8
            clear c8
            obtain ⟨ji9, hji9⟩ : ∃ j_ : Int, (shl .u64 1 a1) = j_ := ⟨_, rfl⟩
            replace H : (if a2 = true then (if 0 ≤ (wrap64 (a1 - 1)) then (if (shr .u64 (Go.bits .and .u64 a0 (IntKind.u64.wrap ((ji9) - 1))) (wrap64 (a1 - 1))) = 1 then (some (wrap64 ((wrap64 (Go.bits .and .u64 a0 (IntKind.u64.wrap ((ji9) - 1)))) - (shl .i64 1 a1)))) else (some (wrap64 (Go.bits .and .u64 a0 (IntKind.u64.wrap ((ji9) - 1)))))) else (none)) else (some (wrap64 (Go.bits .and .u64 a0 (IntKind.u64.wrap ((ji9) - 1)))))) = some r := by first | (rw [hji9] at H; exact H) | (simp only [hji9] at H ⊢; exact H)
            have hji9_ : (IntKind.u64.wrap (1 * 2 ^ min a1.toNat 64)) = ji9 := hji9
            have hji9z : a1 ≤ 64 → (IntKind.u64.wrap (1 * 2 ^ a1.toNat)) = ji9 := shl_small hji9
            have hji9u : (IntKind.u64.wrap (2 ^ min a1.toNat 64)) = ji9 := by have h_ := hji9_; rw [Int.one_mul] at h_; exact h_
            have hji9v : a1 ≤ 64 → (IntKind.u64.wrap (2 ^ a1.toNat)) = ji9 := fun hle_ => by have h_ := hji9z hle_; rw [Int.one_mul] at h_; exact h_
            by_cases c10 : a2 = true
            · subst c10
              have H1 : (if 0 ≤ (wrap64 (a1 - 1)) then (if (shr .u64 (Go.bits .and .u64 a0 (IntKind.u64.wrap ((ji9) - 1))) (wrap64 (a1 - 1))) = 1 then (some (wrap64 ((wrap64 (Go.bits .and .u64 a0 (IntKind.u64.wrap ((ji9) - 1)))) - (shl .i64 1 a1)))) else (some (wrap64 (Go.bits .and .u64 a0 (IntKind.u64.wrap ((ji9) - 1)))))) else (none)) = some r := by rw [if_pos rfl] at H; exact H
              clear H
              have H := H1
              clear H1
              obtain ⟨ji11, hji11⟩ : ∃ j_ : Int, (wrap64 (a1 - 1)) = j_ := ⟨_, rfl⟩
              replace H : (if 0 ≤ (ji11) then (if (shr .u64 (Go.bits .and .u64 a0 (IntKind.u64.wrap ((ji9) - 1))) (ji11)) = 1 then (some (wrap64 ((wrap64 (Go.bits .and .u64 a0 (IntKind.u64.wrap ((ji9) - 1)))) - (shl .i64 1 a1)))) else (some (wrap64 (Go.bits .and .u64 a0 (IntKind.u64.wrap ((ji9) - 1)))))) else (none)) = some r := by first | (rw [hji11] at H; exact H) | (simp only [hji11] at H ⊢; exact H)
              have hji11w : (IntKind.i64.wrap (a1 - 1)) = ji11 := (i64_w _).trans hji11
              by_cases c12 : 0 ≤ (ji11)
              · rw [if_pos c12] at H
                have c12b0 := eq_true c12
                have c12b1 : decide (0 ≤ (ji11)) = true := decide_eq_true c12
                clear c12
                obtain ⟨ji13, hji13⟩ : ∃ j_ : Int, (shr .u64 (Go.bits .and .u64 a0 (IntKind.u64.wrap ((ji9) - 1))) (ji11)) = j_ := ⟨_, rfl⟩
                replace H : (if (ji13) = 1 then (some (wrap64 ((wrap64 (Go.bits .and .u64 a0 (IntKind.u64.wrap ((ji9) - 1)))) - (shl .i64 1 a1)))) else (some (wrap64 (Go.bits .and .u64 a0 (IntKind.u64.wrap ((ji9) - 1)))))) = some r := by first | (rw [hji13] at H; exact H) | (simp only [hji13] at H ⊢; exact H)
                have hji13_ : ((Go.bits .and .u64 a0 (IntKind.u64.wrap ((ji9) - 1))) / 2 ^ min (ji11).toNat 64) = ji13 := hji13
                have hji13z : (ji11) ≤ 64 → ((Go.bits .and .u64 a0 (IntKind.u64.wrap ((ji9) - 1))) / 2 ^ (ji11).toNat) = ji13 := shr_small hji13
                by_cases c14 : (ji13) = 1
                · rw [if_pos c14] at H
                  have c14b0 : ((ji13) == 1) = true := beq_iff_eq.mpr c14
                  have c14b1 : ((ji13) != 1) = false := bne_eq_false_iff_eq.mpr c14
                  clear c14
                  have c15b0 := eq_true (of_decide_eq_true (by first | (with_reducible assumption) | assumption) : 0 ≤ a1)
                  obtain ⟨ji16, hji16⟩ : ∃ j_ : Int, (shl .i64 1 a1) = j_ := ⟨_, rfl⟩
                  replace H : (some (wrap64 ((wrap64 (Go.bits .and .u64 a0 (IntKind.u64.wrap ((ji9) - 1)))) - (ji16)))) = some r := by first | (rw [hji16] at H; exact H) | (simp only [hji16] at H ⊢; exact H)
                  have hji16_ : (IntKind.i64.wrap (1 * 2 ^ min a1.toNat 64)) = ji16 := hji16
                  have hji16z : a1 ≤ 64 → (IntKind.i64.wrap (1 * 2 ^ a1.toNat)) = ji16 := shl_small hji16
                  have hji16u : (IntKind.i64.wrap (2 ^ min a1.toNat 64)) = ji16 := by have h_ := hji16_; rw [Int.one_mul] at h_; exact h_
                  have hji16v : a1 ≤ 64 → (IntKind.i64.wrap (2 ^ a1.toNat)) = ji16 := fun hle_ => by have h_ := hji16z hle_; rw [Int.one_mul] at h_; exact h_
                  have hji16y : (wrap64 (1 * 2 ^ min a1.toNat 64)) = ji16 := (i64_w _).symm.trans hji16_
                  have hji16x : a1 ≤ 64 → (wrap64 (1 * 2 ^ a1.toNat)) = ji16 := fun h_ => (i64_w _).symm.trans (hji16z h_)
                  obtain rfl := Option.some.inj H
                  go_wp2
                  go_ret
                  exact ⟨by first | rfl | (simp; done) | (simp only [← hji9, ← hji11, ← hji13, ← hji16] <;> (first | rfl | simp)) | (simp [*]; done), by repeat (first | exact Drawn0.refl _ | apply Drawn0.step)⟩
                · rw [if_neg c14] at H
                  have c14b0 : ((ji13) == 1) = false := beq_eq_false_iff_ne.mpr c14
                  have c14b1 : ((ji13) != 1) = true := bne_iff_ne.mpr c14
                  obtain rfl := Option.some.inj H
                  go_wp2
                  go_ret
                  exact ⟨by first | rfl | (simp; done) | (simp only [← hji9, ← hji11, ← hji13] <;> (first | rfl | simp)) | (simp [*]; done), by repeat (first | exact Drawn0.refl _ | apply Drawn0.step)⟩
              · rw [if_neg c12] at H
                exact absurd H (by simp)
            · replace c10 := Bool.eq_false_iff.mpr c10
              subst c10
              have H1 : (some (wrap64 (Go.bits .and .u64 a0 (IntKind.u64.wrap ((ji9) - 1))))) = some r := by rw [if_neg (show ¬ (false = true) by decide)] at H; exact H
              clear H
              have H := H1
              clear H1
              obtain rfl := Option.some.inj H
              go_wp2
              go_ret
              exact ⟨by first | rfl | (simp; done) | (simp only [← hji9] <;> (first | rfl | simp)) | (simp [*]; done), by repeat (first | exact Drawn0.refl _ | apply Drawn0.step)⟩
          · rw [if_neg c8] at H
            exact absurd H (by simp)

/-! ### bollardlaw1_BitsNarrow: function 6 -/
def bollardlaw1_BitsNarrow.f (k : Nat) (a0 : Int) (a1 : Int) (a2 : Int) (a3 : Bool) : Option (Bool) := (bits_Narrow.f k a0 a2 a3).bind fun bt201 => ((bollardref1_Narrow.f k a0 a2 a3).bind fun bt203 => (if bt201.1 = bt203.1 then (if (bt201.2 == bt203.2) = true then ((bits_Widen.f k a1 a2 a3).bind fun t205 => ((bollardref1_Widen.f k a1 a2 a3).bind fun t206 => (if t205 = t206 then ((bollardlaw1_awake.f k).bind fun t207 => (some t207)) else (some false)))) else (some false)) else (some false)))
theorem bollardlaw1_BitsNarrow.mono : ∀ a0 a1 a2 a3 k, LeO (bollardlaw1_BitsNarrow.f k a0 a1 a2 a3) (bollardlaw1_BitsNarrow.f (k + 1) a0 a1 a2 a3) := by
  intro a0 a1 a2 a3 k
  unfold bollardlaw1_BitsNarrow.f
  repeat' first
      | (with_reducible exact bits_Narrow.mono _ _ _ _)
      | (with_reducible exact bits_Widen.mono _ _ _ _)
      | (with_reducible exact bollardlaw1_awake.mono _)
      | (with_reducible exact bollardref1_Narrow.mono _ _ _ _)
      | (with_reducible exact bollardref1_Widen.mono _ _ _ _)
      | (with_reducible exact LeO.refl _)
      | (with_reducible exact LeO.none _)
      | (with_reducible refine LeO.ite ?_ ?_)
      | (with_reducible refine LeO.bind ?_ (fun _ => ?_))
      | exact bits_Narrow.mono _ _ _ _
      | exact bits_Widen.mono _ _ _ _
      | exact bollardlaw1_awake.mono _
      | exact bollardref1_Narrow.mono _ _ _ _
      | exact bollardref1_Widen.mono _ _ _ _
      | exact LeO.none _
      | refine LeO.ite ?_ ?_
      | refine LeO.bind ?_ (fun _ => ?_)
set_option maxHeartbeats 8000000 in
set_option maxRecDepth 100000 in
theorem bollardlaw1_BitsNarrow.calls (k : Nat) (a0 : Int) (a1 : Int) (a2 : Int) (a3 : Bool) (r : Bool) (w : World) (h : bollardlaw1_BitsNarrow.f k a0 a1 a2 a3 = some r) :
    Calls Try.prog 6 #[.int .i64 a0, .int .u64 a1, .int .i64 a2, .bool a3] w fun e w' => e = .returned (.bool r) ∧ Below w.heap.size w w' := by
  have HB := Aside0.mk (Below.refl w.heap.size w)
  have H : ((bits_Narrow.f k a0 a2 a3).bind fun bt201 => ((bollardref1_Narrow.f k a0 a2 a3).bind fun bt203 => (if bt201.1 = bt203.1 then (if (bt201.2 == bt203.2) = true then ((bits_Widen.f k a1 a2 a3).bind fun t205 => ((bollardref1_Widen.f k a1 a2 a3).bind fun t206 => (if t205 = t206 then ((bollardlaw1_awake.f k).bind fun t207 => (some t207)) else (some false)))) else (some false)) else (some false)))) = some r := h
  clear h
  replace H := Option.bind_eq_some_iff.mp H
  obtain ⟨⟨t201, t202⟩, A50, H⟩ := H
  replace H : ((bollardref1_Narrow.f k a0 a2 a3).bind fun bt203 => (if t201 = bt203.1 then (if (t202 == bt203.2) = true then ((bits_Widen.f k a1 a2 a3).bind fun t205 => ((bollardref1_Widen.f k a1 a2 a3).bind fun t206 => (if t205 = t206 then ((bollardlaw1_awake.f k).bind fun t207 => (some t207)) else (some false)))) else (some false)) else (some false))) = some r := H
  have A5 := Aside0.mk A50
  clear A50
  replace H := Option.bind_eq_some_iff.mp H
  obtain ⟨⟨t203, t204⟩, A60, H⟩ := H
  replace H : (if t201 = t203 then (if (t202 == t204) = true then ((bits_Widen.f k a1 a2 a3).bind fun t205 => ((bollardref1_Widen.f k a1 a2 a3).bind fun t206 => (if t205 = t206 then ((bollardlaw1_awake.f k).bind fun t207 => (some t207)) else (some false)))) else (some false)) else (some false)) = some r := H
  have A6 := Aside0.mk A60
  clear A60
  by_cases c7 : t201 = t203
  · rw [if_pos c7] at H
    have c7b0 : (t201 == t203) = true := beq_iff_eq.mpr c7
    have c7b1 : (t201 != t203) = false := bne_eq_false_iff_eq.mpr c7
    clear c7
    by_cases c8 : (t202 == t204) = true
    · rw [if_pos c8] at H
      have c8b0 : (t202 == t204) = true := c8
      (try (have c8b1 : decide (t202 = t204) = true := by simpa using c8))
      (try (have c8b2 : (t202 == t204) = true := by simpa using c8))
      clear c8
      replace H := Option.bind_eq_some_iff.mp H
      obtain ⟨t205, A90, H⟩ := H
      replace H : ((bollardref1_Widen.f k a1 a2 a3).bind fun t206 => (if t205 = t206 then ((bollardlaw1_awake.f k).bind fun t207 => (some t207)) else (some false))) = some r := H
      have A9 := Aside0.mk A90
      clear A90
      replace H := Option.bind_eq_some_iff.mp H
      obtain ⟨t206, A100, H⟩ := H
      replace H : (if t205 = t206 then ((bollardlaw1_awake.f k).bind fun t207 => (some t207)) else (some false)) = some r := H
      have A10 := Aside0.mk A100
      clear A100
      by_cases c11 : t205 = t206
      · rw [if_pos c11] at H
        have c11b0 : (t205 == t206) = true := beq_iff_eq.mpr c11
        have c11b1 : (t205 != t206) = false := bne_eq_false_iff_eq.mpr c11
        clear c11
        replace H := Option.bind_eq_some_iff.mp H
        obtain ⟨t207, A120, H⟩ := H
        replace H : (some t207) = some r := H
        have A12 := Aside0.mk A120
        clear A120
        obtain rfl := Option.some.inj H
        go_enter Try.func6, Try.ntmps6
        go_wp2_with (first | ((with_reducible refine gate_callee (f := 25) rfl ?_); refine goesL_ (some 17) rfl rfl Try.func25 (by kernel_rfl) rfl #[.int .i64 a0, .int .i64 a2, .bool a3] rfl (by (try simp only [List.map_toArray, List.map_cons, List.map_nil]); first | done | rfl | (simp only [List.length_drop, List.length_take]; rfl)) ?_; (with_reducible refine (bits_Narrow.calls k a0 a2 a3 t201 t202 _ A5.out).mono ?_); rintro e w' ⟨rfl, ⟨nd, rfl⟩⟩; refine ⟨_, rfl, ?_⟩) | ((with_reducible refine gate_callee (f := 26) rfl ?_); refine goesL_ (some 24) rfl rfl Try.func26 (by kernel_rfl) rfl #[.int .i64 a0, .int .i64 a2, .bool a3] rfl (by (try simp only [List.map_toArray, List.map_cons, List.map_nil]); first | done | rfl | (simp only [List.length_drop, List.length_take]; rfl)) ?_; (with_reducible refine (bollardref1_Narrow.calls k a0 a2 a3 t203 t204 _ A6.out).mono ?_); rintro e w' ⟨rfl, ⟨nd, rfl⟩⟩; refine ⟨_, rfl, ?_⟩) | (go_at_call 27; (with_reducible refine (bits_Widen.calls k a1 a2 a3 t205 _ A9.out).mono ?_); rintro e w' ⟨rfl, ⟨nd, rfl⟩⟩) | (go_at_call 28; (with_reducible refine (bollardref1_Widen.calls k a1 a2 a3 t206 _ A10.out).mono ?_); rintro e w' ⟨rfl, ⟨nd, rfl⟩⟩) | (go_at_call 17; (with_reducible refine (bollardlaw1_awake.calls k  t207 _ A12.out).mono ?_); rintro e w13 ⟨rfl, hb⟩; have n0_ := Aside0.mk (below_step (by repeat (first | (with_reducible first | exact HB.out | apply below_alloc | apply pw_below_drewN | apply below_drew1) | exact HB.out)) hb); clear HB; have HB := n0_; clear n0_; (try clear hb); (try clear hb2); (try clear hk); (try clear hi)))
        go_ret
        exact ⟨by first | rfl | (simp [errW_none, errW_some] <;> rfl) | (simp [*, errW_none, errW_some] <;> rfl), by repeat (first | (with_reducible first | exact HB.out | apply below_alloc | apply pw_below_drewN | apply below_drew1) | exact HB.out)⟩
      · rw [if_neg c11] at H
        have c11b0 : (t205 == t206) = false := beq_eq_false_iff_ne.mpr c11
        have c11b1 : (t205 != t206) = true := bne_iff_ne.mpr c11
        obtain rfl := Option.some.inj H
        go_enter Try.func6, Try.ntmps6
        go_wp2_with (first | ((with_reducible refine gate_callee (f := 25) rfl ?_); refine goesL_ (some 17) rfl rfl Try.func25 (by kernel_rfl) rfl #[.int .i64 a0, .int .i64 a2, .bool a3] rfl (by (try simp only [List.map_toArray, List.map_cons, List.map_nil]); first | done | rfl | (simp only [List.length_drop, List.length_take]; rfl)) ?_; (with_reducible refine (bits_Narrow.calls k a0 a2 a3 t201 t202 _ A5.out).mono ?_); rintro e w' ⟨rfl, ⟨nd, rfl⟩⟩; refine ⟨_, rfl, ?_⟩) | ((with_reducible refine gate_callee (f := 26) rfl ?_); refine goesL_ (some 24) rfl rfl Try.func26 (by kernel_rfl) rfl #[.int .i64 a0, .int .i64 a2, .bool a3] rfl (by (try simp only [List.map_toArray, List.map_cons, List.map_nil]); first | done | rfl | (simp only [List.length_drop, List.length_take]; rfl)) ?_; (with_reducible refine (bollardref1_Narrow.calls k a0 a2 a3 t203 t204 _ A6.out).mono ?_); rintro e w' ⟨rfl, ⟨nd, rfl⟩⟩; refine ⟨_, rfl, ?_⟩) | (go_at_call 27; (with_reducible refine (bits_Widen.calls k a1 a2 a3 t205 _ A9.out).mono ?_); rintro e w' ⟨rfl, ⟨nd, rfl⟩⟩) | (go_at_call 28; (with_reducible refine (bollardref1_Widen.calls k a1 a2 a3 t206 _ A10.out).mono ?_); rintro e w' ⟨rfl, ⟨nd, rfl⟩⟩))
        go_ret
        exact ⟨by first | rfl | (simp [errW_none, errW_some] <;> rfl) | (simp [*, errW_none, errW_some] <;> rfl), by repeat (first | (with_reducible first | exact HB.out | apply below_alloc | apply pw_below_drewN | apply below_drew1) | exact HB.out)⟩
    · rw [if_neg c8] at H
      have c8b0 : (t202 == t204) = false := by simpa using c8
      (try (have c8b1 : decide (t202 = t204) = false := by simpa using c8))
      (try (have c8b2 : (t202 == t204) = false := by simpa using c8))
      (try (have c8b3 : ¬ (t202 = t204) := by simpa using c8))
      clear c8
      obtain rfl := Option.some.inj H
      go_enter Try.func6, Try.ntmps6
      go_wp2_with (first | ((with_reducible refine gate_callee (f := 25) rfl ?_); refine goesL_ (some 17) rfl rfl Try.func25 (by kernel_rfl) rfl #[.int .i64 a0, .int .i64 a2, .bool a3] rfl (by (try simp only [List.map_toArray, List.map_cons, List.map_nil]); first | done | rfl | (simp only [List.length_drop, List.length_take]; rfl)) ?_; (with_reducible refine (bits_Narrow.calls k a0 a2 a3 t201 t202 _ A5.out).mono ?_); rintro e w' ⟨rfl, ⟨nd, rfl⟩⟩; refine ⟨_, rfl, ?_⟩) | ((with_reducible refine gate_callee (f := 26) rfl ?_); refine goesL_ (some 24) rfl rfl Try.func26 (by kernel_rfl) rfl #[.int .i64 a0, .int .i64 a2, .bool a3] rfl (by (try simp only [List.map_toArray, List.map_cons, List.map_nil]); first | done | rfl | (simp only [List.length_drop, List.length_take]; rfl)) ?_; (with_reducible refine (bollardref1_Narrow.calls k a0 a2 a3 t203 t204 _ A6.out).mono ?_); rintro e w' ⟨rfl, ⟨nd, rfl⟩⟩; refine ⟨_, rfl, ?_⟩))
      go_ret
      exact ⟨by first | rfl | (simp [errW_none, errW_some] <;> rfl) | (simp [*, errW_none, errW_some] <;> rfl), by repeat (first | (with_reducible first | exact HB.out | apply below_alloc | apply pw_below_drewN | apply below_drew1) | exact HB.out)⟩
  · rw [if_neg c7] at H
    have c7b0 : (t201 == t203) = false := beq_eq_false_iff_ne.mpr c7
    have c7b1 : (t201 != t203) = true := bne_iff_ne.mpr c7
    obtain rfl := Option.some.inj H
    go_enter Try.func6, Try.ntmps6
    go_wp2_with (first | ((with_reducible refine gate_callee (f := 25) rfl ?_); refine goesL_ (some 17) rfl rfl Try.func25 (by kernel_rfl) rfl #[.int .i64 a0, .int .i64 a2, .bool a3] rfl (by (try simp only [List.map_toArray, List.map_cons, List.map_nil]); first | done | rfl | (simp only [List.length_drop, List.length_take]; rfl)) ?_; (with_reducible refine (bits_Narrow.calls k a0 a2 a3 t201 t202 _ A5.out).mono ?_); rintro e w' ⟨rfl, ⟨nd, rfl⟩⟩; refine ⟨_, rfl, ?_⟩) | ((with_reducible refine gate_callee (f := 26) rfl ?_); refine goesL_ (some 24) rfl rfl Try.func26 (by kernel_rfl) rfl #[.int .i64 a0, .int .i64 a2, .bool a3] rfl (by (try simp only [List.map_toArray, List.map_cons, List.map_nil]); first | done | rfl | (simp only [List.length_drop, List.length_take]; rfl)) ?_; (with_reducible refine (bollardref1_Narrow.calls k a0 a2 a3 t203 t204 _ A6.out).mono ?_); rintro e w' ⟨rfl, ⟨nd, rfl⟩⟩; refine ⟨_, rfl, ?_⟩))
    go_ret
    exact ⟨by first | rfl | (simp [errW_none, errW_some] <;> rfl) | (simp [*, errW_none, errW_some] <;> rfl), by repeat (first | (with_reducible first | exact HB.out | apply below_alloc | apply pw_below_drewN | apply below_drew1) | exact HB.out)⟩

/-- THE ONE PURE STATEMENT of bollardlaw1_BitsNarrow: yours. -/
def bollardlaw1_BitsNarrow.Pure : Prop := ∀ (a0 : Int) (a1 : Int) (a2 : Int) (a3 : Bool), (Lit.int .i64 a0).wf = true → (Lit.int .u64 a1).wf = true → (Lit.int .i64 a2).wf = true → ∃ k, bollardlaw1_BitsNarrow.f k a0 a1 a2 a3 = some true
theorem bollardlaw1_BitsNarrow.walk (P : bollardlaw1_BitsNarrow.Pure) (a0 : Int) (a1 : Int) (a2 : Int) (a3 : Bool) (w : World) (w0 : (Lit.int .i64 a0).wf = true) (w1 : (Lit.int .u64 a1).wf = true) (w2 : (Lit.int .i64 a2).wf = true) :
    Calls Try.prog 6 #[.int .i64 a0, .int .u64 a1, .int .i64 a2, .bool a3] w fun e w' => e = .returned (.bool true) ∧ Below w.heap.size w w' := by
  obtain ⟨k, h⟩ := P a0 a1 a2 a3 w0 w1 w2
  refine (bollardlaw1_BitsNarrow.calls k a0 a1 a2 a3 true w h).mono ?_
  rintro e w' ⟨rfl, hd⟩
  exact ⟨rfl, hd⟩

end Go.Proofs.Ytlpbgknpgogaaaa.PBits
