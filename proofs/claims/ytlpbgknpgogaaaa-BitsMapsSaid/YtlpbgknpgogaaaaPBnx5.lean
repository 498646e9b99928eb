-- written by a program of this session (wip/tools/pr.py, over the kit's printer): not by hand
import Derived.Test.YtlpbgknpgogaaaaPBnx0
import Derived.Test.YtlpbgknpgogaaaaPBnx1
import Derived.Test.YtlpbgknpgogaaaaPBnx2
import Derived.Test.YtlpbgknpgogaaaaPBnx3
import Derived.Test.YtlpbgknpgogaaaaPBnx4
namespace Go.Proofs.Ytlpbgknpgogaaaa.PBn
open Go.RowKit Go.Proofs.YtlpbgknpgogaaaaW.PrintWords Go.Proofs.YtlpbgknpgogaaaaW.PrintLast Go.Proofs.YtlpbgknpgogaaaaW.PrintMore
attribute [local go_sem] max2_int min2_int max_two min_two max_three min_three max_four min_four   -- for this text's walks alone
set_option linter.unusedVariables false
set_option linter.unusedSimpArgs false

/-! ### bollardref1_First: function 40 -/
mutual
def bollardref1_First.l0 : Nat → List Int → Int → Int → Option (Int)
  | 0, _, _, _ => none
  | k + 1, x0, x1, x5 => if x5 < x1 then (bollardref1_First.j1 k x0 x1 x5 (decide ((wrap64 (Int.tdiv x5 8)) < (x0.length : Int)))) else (bollardref1_First.j1 k x0 x1 x5 false)
def bollardref1_First.j1 : Nat → List Int → Int → Int → Bool → Option (Int)
  | 0, _, _, _, _ => none
  | k + 1, x0, x1, x5, x15 => if x15 = true then ((bollardref1_Test.f x0 x5).bind fun t172 => (if t172 = true then (bollardref1_First.l0 k x0 x1 (wrap64 (x5 + 1))) else (some x5))) else (some (-1))
end
def bollardref1_First.f (k : Nat) (l0 : List Int) (a1 : Int) : Option (Int) := bollardref1_First.l0 k l0 a1 0
set_option maxRecDepth 100000 in
theorem bollardref1_First.mono_l : ∀ k, (∀ y0 y1 y2, LeO (bollardref1_First.l0 k y0 y1 y2) (bollardref1_First.l0 (k + 1) y0 y1 y2)) ∧ (∀ y0 y1 y2 y3, LeO (bollardref1_First.j1 k y0 y1 y2 y3) (bollardref1_First.j1 (k + 1) y0 y1 y2 y3))
  | 0 => ⟨fun _ _ _ r h => by first | exact nomatch (show (none : Option _) = some r from h) | (rw [bollardref1_First.l0] at h; cases h; done) | (simp [bollardref1_First.l0] at h; done), fun _ _ _ _ r h => by first | exact nomatch (show (none : Option _) = some r from h) | (rw [bollardref1_First.j1] at h; cases h; done) | (simp [bollardref1_First.j1] at h; done)⟩
  | k + 1 => by
    obtain ⟨ih0, ih1⟩ := bollardref1_First.mono_l k
    refine ⟨?_, ?_⟩
    · intro y0 y1 y2
      unfold bollardref1_First.l0
      repeat' first
      | (with_reducible exact ih0 _ _ _)
      | (with_reducible exact ih1 _ _ _ _)
      | (with_reducible exact LeO.refl _)
      | (with_reducible exact LeO.none _)
      | (with_reducible refine LeO.ite ?_ ?_)
      | (with_reducible refine LeO.bind ?_ (fun _ => ?_))
      | exact ih0 _ _ _
      | exact ih1 _ _ _ _
      | exact LeO.none _
      | refine LeO.ite ?_ ?_
      | refine LeO.bind ?_ (fun _ => ?_)
    · intro y0 y1 y2 y3
      unfold bollardref1_First.j1
      repeat' first
      | (with_reducible exact ih0 _ _ _)
      | (with_reducible exact ih1 _ _ _ _)
      | (with_reducible exact LeO.refl _)
      | (with_reducible exact LeO.none _)
      | (with_reducible refine LeO.ite ?_ ?_)
      | (with_reducible refine LeO.bind ?_ (fun _ => ?_))
      | exact ih0 _ _ _
      | exact ih1 _ _ _ _
      | exact LeO.none _
      | refine LeO.ite ?_ ?_
      | refine LeO.bind ?_ (fun _ => ?_)
theorem bollardref1_First.mono : ∀ a0 a1 k, LeO (bollardref1_First.f k a0 a1) (bollardref1_First.f (k + 1) a0 a1) := by
  intro a0 a1 k
  obtain ⟨ih0, ih1⟩ := bollardref1_First.mono_l k
  unfold bollardref1_First.f
  repeat' first
      | (with_reducible exact ih0 _ _ _)
      | (with_reducible exact ih1 _ _ _ _)
      | (with_reducible exact LeO.refl _)
      | (with_reducible exact LeO.none _)
      | (with_reducible refine LeO.ite ?_ ?_)
      | (with_reducible refine LeO.bind ?_ (fun _ => ?_))
      | exact ih0 _ _ _
      | exact ih1 _ _ _ _
      | exact LeO.none _
      | refine LeO.ite ?_ ?_
      | refine LeO.bind ?_ (fun _ => ?_)
set_option maxHeartbeats 8000000 in
set_option maxRecDepth 100000 in
theorem bollardref1_First.calls (k : Nat) (A0 : Option Addr) (c0 : Nat) (l0 : List Int) (a1 : Int) (r : Int) (w : World) (hr0 : Kd.C (Kd.int .u8) w A0 l0.length l0) (hc0 : l0.length ≤ c0) (h : bollardref1_First.f k l0 a1 = some r) :
    Calls Try.prog 40 #[.slice A0 l0.length c0, .int .i64 a1] w fun e w' => e = .returned (.int .i64 r) ∧ Drawn0 w w' := by
  have HR0 := Aside0.mk hr0
  have HC0 := Aside0.mk hc0
  clear hr0 hc0
  have H : (bollardref1_First.l0 k l0 a1 0) = some r := h
  clear h
  have H' := Aside0.mk H
  clear H
  go_enter Try.func40, Try.ntmps40
  go_wp2
  go_loopg [5] k (fun kq v5 w' => ∃ (x5_1 : Int), v5 = .int .i64 x5_1 ∧ Aside0 (bollardref1_First.l0 kq l0 a1 x5_1 = some r) ∧ Aside0 (kq ≤ k) ∧ Drawn0 w w')
  case atStart => exact ⟨(0), (by first | rfl | (simp; done) | (simp [*]; done) | exact congrArg Value.bool (ne_empty _) | exact congrArg Value.bool (eq_empty _)), H', ⟨Nat.le_refl _⟩, by repeat (first | exact Drawn0.refl _ | apply Drawn0.step)⟩
  case round =>
    clear H'
    try clear p2
    obtain ⟨x5_1, rfl, HA, HK1, ⟨m1, rfl⟩⟩ := hrel
    cases gk with
    | zero => exact absurd HA.out (by first | (intro h_; exact nomatch (show (none : Option _) = some r from h_)) | simp [bollardref1_First.l0])
    | succ k1 =>
      have H := HA.out
      clear HA
      simp only [bollardref1_First.l0] at H
      have HC3 := Aside0.mk H
      clear H
      go_upto_region 2 with (fail)
      go_cut [15] (fun v15 wc => ∃ (kq : Nat) (x15_2 : Bool), v15 = .bool x15_2 ∧ Aside0 (bollardref1_First.j1 kq l0 a1 x5_1 x15_2 = some r) ∧ Aside0 (kq ≤ k1) ∧ Drawn0 w wc)
      case first =>
        have H := HC3.out
        clear HC3
        by_cases c4 : x5_1 < a1
        · rw [if_pos c4] at H
          have c4b0 : decide (x5_1 < a1) = true := decide_eq_true c4
          clear c4
          (first | rw [c4b0] | (simp only [i64_w, i32_w]; rw [c4b0]) | skip)
          have H' := Aside0.mk H
          clear H
          go_wp2
          go_meet
          case rel => exact ⟨_, (decide ((wrap64 (Int.tdiv x5_1 8)) < (l0.length : Int))), (by first | rfl | (simp; done) | (simp [*]; done) | exact congrArg Value.bool (ne_empty _) | exact congrArg Value.bool (eq_empty _)), H', ⟨by have := HK1.out; first | omega | exact Nat.le_refl _⟩, by repeat (first | exact Drawn0.refl _ | apply Drawn0.step)⟩
        · rw [if_neg c4] at H
          have c4b0 : decide (x5_1 < a1) = false := decide_eq_false c4
          clear c4
          (first | rw [c4b0] | (simp only [i64_w, i32_w]; rw [c4b0]) | skip)
          have H' := Aside0.mk H
          clear H
          go_wp2
          go_meet
          case rel => exact ⟨_, (false), (by first | rfl | (simp; done) | (simp [*]; done) | exact congrArg Value.bool (ne_empty _) | exact congrArg Value.bool (eq_empty _)), H', ⟨by have := HK1.out; first | omega | exact Nat.le_refl _⟩, by repeat (first | exact Drawn0.refl _ | apply Drawn0.step)⟩
      case rest =>
        clear HC3
        try clear p2
        try clear c4
        try clear c4b0
        try clear p2
        obtain ⟨kq, x15_2, rfl, HA, HJ2, ⟨mc2, rfl⟩⟩ := hcut
        cases kq with
        | zero => exact absurd HA.out (by first | (intro h_; exact nomatch (show (none : Option _) = some r from h_)) | simp [bollardref1_First.j1])
        | succ kj2 =>
          have H := HA.out
          clear HA
          simp only [bollardref1_First.j1] at H
          by_cases c5 : x15_2 = true
          · subst c5
            have H1 : ((bollardref1_Test.f l0 x5_1).bind fun t172 => (if t172 = true then (bollardref1_First.l0 kj2 l0 a1 (wrap64 (x5_1 + 1))) else (some x5_1))) = some r := by rw [if_pos rfl] at H; exact H
            clear H
            have H := H1
            clear H1
            replace H := Option.bind_eq_some_iff.mp H
            obtain ⟨t172, A60, H⟩ := H
            replace H : (if t172 = true then (bollardref1_First.l0 kj2 l0 a1 (wrap64 (x5_1 + 1))) else (some x5_1)) = some r := H
            have A6 := Aside0.mk A60
            clear A60
            by_cases c7 : t172 = true
            · subst c7
              have H1 : (bollardref1_First.l0 kj2 l0 a1 (wrap64 (x5_1 + 1))) = some r := by rw [if_pos rfl] at H; exact H
              clear H
              have H := H1
              clear H1
              have H' := Aside0.mk H
              clear H
              go_wp2_with (first | ((with_reducible refine gate_callee (f := 37) rfl ?_); refine goesL_ (some 20) rfl rfl Try.func37 (by kernel_rfl) rfl #[.slice A0 l0.length c0, .int .i64 x5_1] rfl (by (try simp only [List.map_toArray, List.map_cons, List.map_nil]); first | done | rfl | (simp only [List.length_drop, List.length_take]; rfl)) ?_; (with_reducible refine (bollardref1_Test.calls _ _ l0 x5_1 true _ ?side1 ?side2 A6.out).mono ?_); (case side1 => repeat (first | exact HR0.out | (with_reducible refine Kd.C_alloc ?_ _) | (with_reducible refine Kd.C_drewN ?_ _) | (with_reducible refine Kd.C_drew ?_))); (case side2 => exact HC0.out); rintro e w' ⟨rfl, ⟨nd, rfl⟩⟩; refine ⟨_, rfl, ?_⟩))
              go_roundg kj2
              case measure => have := HK1.out; have := HJ2.out; omega
              case rel => exact ⟨(wrap64 (x5_1 + 1)), (by first | rfl | (simp; done) | (simp [*]; done) | exact congrArg Value.bool (ne_empty _) | exact congrArg Value.bool (eq_empty _)), H', ⟨by have := HK1.out; have := HJ2.out; omega⟩, by repeat (first | exact Drawn0.refl _ | apply Drawn0.step)⟩
            · replace c7 := Bool.eq_false_iff.mpr c7
              subst c7
              have H1 : (some x5_1) = some r := by rw [if_neg (show ¬ (false = true) by decide)] at H; exact H
              clear H
              have H := H1
              clear H1
              obtain rfl := Option.some.inj H
              go_wp2_with (first | ((with_reducible refine gate_callee (f := 37) rfl ?_); refine goesL_ (some 20) rfl rfl Try.func37 (by kernel_rfl) rfl #[.slice A0 l0.length c0, .int .i64 x5_1] rfl (by (try simp only [List.map_toArray, List.map_cons, List.map_nil]); first | done | rfl | (simp only [List.length_drop, List.length_take]; rfl)) ?_; (with_reducible refine (bollardref1_Test.calls _ _ l0 x5_1 false _ ?side1 ?side2 A6.out).mono ?_); (case side1 => repeat (first | exact HR0.out | (with_reducible refine Kd.C_alloc ?_ _) | (with_reducible refine Kd.C_drewN ?_ _) | (with_reducible refine Kd.C_drew ?_))); (case side2 => exact HC0.out); rintro e w' ⟨rfl, ⟨nd, rfl⟩⟩; refine ⟨_, rfl, ?_⟩))
              go_ret
              exact ⟨by first | rfl | (simp; done) | (simp [*]; done) | exact congrArg Value.bool (ne_empty _) | exact congrArg Value.bool (eq_empty _), by repeat (first | exact Drawn0.refl _ | apply Drawn0.step)⟩
          · replace c5 := Bool.eq_false_iff.mpr c5
            subst c5
            have H1 : (some (-1)) = some r := by rw [if_neg (show ¬ (false = true) by decide)] at H; exact H
            clear H
            have H := H1
            clear H1
            obtain rfl := Option.some.inj H
            go_wp2
            go_ret
            exact ⟨by first | rfl | (simp; done) | (simp [*]; done) | exact congrArg Value.bool (ne_empty _) | exact congrArg Value.bool (eq_empty _), by repeat (first | exact Drawn0.refl _ | apply Drawn0.step)⟩

/-! ### bits_Count: function 41 -/
mutual
def bits_Count.l0 : Nat → Int → Int → List Int → Int → Int → Option (Int)
  | 0, _, _, _, _, _ => none
  | k + 1, x1, x4, x8, x9, x10 => if x10 < x9 then (if 0 ≤ x10 then (if x10 < (x8.length : Int) then (bits_Count.l1 k x1 x4 x10 (rd x8 x10) x8 x9 x10 0) else (none)) else (none)) else (some x4)
def bits_Count.l1 : Nat → Int → Int → Int → Int → List Int → Int → Int → Int → Option (Int)
  | 0, _, _, _, _, _, _, _, _ => none
  | k + 1, x1, x4, x5, x6, x8, x9, x10, x15 => if x15 < 8 then (if (wrap64 ((wrap64 (8 * x5)) + x15)) < x1 then (if 0 ≤ x15 then (bits_Count.l1 k x1 (wrap64 (x4 + (wrap64 (Go.bits .and .u8 (shr .u8 x6 x15) 1)))) x5 x6 x8 x9 x10 (wrap64 (x15 + 1))) else (none)) else (bits_Count.l1 k x1 x4 x5 x6 x8 x9 x10 (wrap64 (x15 + 1)))) else (bits_Count.l0 k x1 x4 x8 x9 (wrap64 (x10 + 1)))
end
def bits_Count.f (k : Nat) (l0 : List Int) (a1 : Int) : Option (Int) := bits_Count.l0 k a1 0 l0 (l0.length : Int) 0
set_option maxRecDepth 100000 in
theorem bits_Count.mono_l : ∀ k, (∀ y0 y1 y2 y3 y4, LeO (bits_Count.l0 k y0 y1 y2 y3 y4) (bits_Count.l0 (k + 1) y0 y1 y2 y3 y4)) ∧ (∀ y0 y1 y2 y3 y4 y5 y6 y7, LeO (bits_Count.l1 k y0 y1 y2 y3 y4 y5 y6 y7) (bits_Count.l1 (k + 1) y0 y1 y2 y3 y4 y5 y6 y7))
  | 0 => ⟨fun _ _ _ _ _ r h => by first | exact nomatch (show (none : Option _) = some r from h) | (rw [bits_Count.l0] at h; cases h; done) | (simp [bits_Count.l0] at h; done), fun _ _ _ _ _ _ _ _ r h => by first | exact nomatch (show (none : Option _) = some r from h) | (rw [bits_Count.l1] at h; cases h; done) | (simp [bits_Count.l1] at h; done)⟩
  | k + 1 => by
    obtain ⟨ih0, ih1⟩ := bits_Count.mono_l k
    refine ⟨?_, ?_⟩
    · intro y0 y1 y2 y3 y4
      unfold bits_Count.l0
      repeat' first
      | (with_reducible exact ih0 _ _ _ _ _)
      | (with_reducible exact ih1 _ _ _ _ _ _ _ _)
      | (with_reducible exact LeO.refl _)
      | (with_reducible exact LeO.none _)
      | (with_reducible refine LeO.ite ?_ ?_)
      | (with_reducible refine LeO.bind ?_ (fun _ => ?_))
      | exact ih0 _ _ _ _ _
      | exact ih1 _ _ _ _ _ _ _ _
      | exact LeO.none _
      | refine LeO.ite ?_ ?_
      | refine LeO.bind ?_ (fun _ => ?_)
    · intro y0 y1 y2 y3 y4 y5 y6 y7
      unfold bits_Count.l1
      repeat' first
      | (with_reducible exact ih0 _ _ _ _ _)
      | (with_reducible exact ih1 _ _ _ _ _ _ _ _)
      | (with_reducible exact LeO.refl _)
      | (with_reducible exact LeO.none _)
      | (with_reducible refine LeO.ite ?_ ?_)
      | (with_reducible refine LeO.bind ?_ (fun _ => ?_))
      | exact ih0 _ _ _ _ _
      | exact ih1 _ _ _ _ _ _ _ _
      | exact LeO.none _
      | refine LeO.ite ?_ ?_
      | refine LeO.bind ?_ (fun _ => ?_)
theorem bits_Count.mono : ∀ a0 a1 k, LeO (bits_Count.f k a0 a1) (bits_Count.f (k + 1) a0 a1) := by
  intro a0 a1 k
  obtain ⟨ih0, ih1⟩ := bits_Count.mono_l k
  unfold bits_Count.f
  repeat' first
      | (with_reducible exact ih0 _ _ _ _ _)
      | (with_reducible exact ih1 _ _ _ _ _ _ _ _)
      | (with_reducible exact LeO.refl _)
      | (with_reducible exact LeO.none _)
      | (with_reducible refine LeO.ite ?_ ?_)
      | (with_reducible refine LeO.bind ?_ (fun _ => ?_))
      | exact ih0 _ _ _ _ _
      | exact ih1 _ _ _ _ _ _ _ _
      | exact LeO.none _
      | refine LeO.ite ?_ ?_
      | refine LeO.bind ?_ (fun _ => ?_)
set_option maxHeartbeats 8000000 in
set_option maxRecDepth 100000 in
theorem bits_Count.calls (k : Nat) (A0 : Option Addr) (c0 : Nat) (l0 : List Int) (a1 : Int) (r : Int) (w : World) (hr0 : Kd.C (Kd.int .u8) w A0 l0.length l0) (hc0 : l0.length ≤ c0) (h : bits_Count.f k l0 a1 = some r) :
    Calls Try.prog 41 #[.slice A0 l0.length c0, .int .i64 a1] w fun e w' => e = .returned (.int .i64 r) ∧ Drawn0 w w' := by
  have HR0 := Aside0.mk hr0
  have HC0 := Aside0.mk hc0
  clear hr0 hc0
  have H : (bits_Count.l0 k a1 0 l0 (l0.length : Int) 0) = some r := h
  clear h
  have H' := Aside0.mk H
  clear H
  go_enter Try.func41, Try.ntmps41
  go_wp2
  go_loopg [4, 10] k (fun kq v4 v10 w' => ∃ (x4_1 : Int) (x10_1 : Int), v4 = .int .i64 x4_1 ∧ v10 = .int .i64 x10_1 ∧ Aside0 (bits_Count.l0 kq a1 x4_1 l0 (l0.length : Int) x10_1 = some r) ∧ Aside0 (kq ≤ k) ∧ Drawn0 w w')
  case atStart => exact ⟨(0), (0), (by first | rfl | (simp; done) | (simp [*]; done) | exact congrArg Value.bool (ne_empty _) | exact congrArg Value.bool (eq_empty _)), (by first | rfl | (simp; done) | (simp [*]; done) | exact congrArg Value.bool (ne_empty _) | exact congrArg Value.bool (eq_empty _)), H', ⟨Nat.le_refl _⟩, by repeat (first | exact Drawn0.refl _ | apply Drawn0.step)⟩
  case round =>
    clear H'
    try clear p2
    obtain ⟨x4_1, x10_1, rfl, rfl, HA, HK1, ⟨m1, rfl⟩⟩ := hrel
    cases gk with
    | zero => exact absurd HA.out (by first | (intro h_; exact nomatch (show (none : Option _) = some r from h_)) | simp [bits_Count.l0])
    | succ k1 =>
      have H := HA.out
      clear HA
      simp only [bits_Count.l0] at H
      by_cases c3 : x10_1 < (l0.length : Int)
      · rw [if_pos c3] at H
        have c3b0 : decide (x10_1 < (l0.length : Int)) = true := decide_eq_true c3
        clear c3
        by_cases c4 : 0 ≤ x10_1
        · rw [if_pos c4] at H
          have c4b0 : decide (0 ≤ x10_1) = true := decide_eq_true c4
          clear c4
          by_cases c5 : x10_1 < (l0.length : Int)
          · rw [if_pos c5] at H
            have c5b0 : decide (x10_1 < (l0.length : Int)) = true := decide_eq_true c5
            clear c5
            have H' := Aside0.mk H
            clear H
            have p173 : 0 ≤ (x10_1 : Int) := of_decide_eq_true (by first | (with_reducible assumption) | assumption)
            have q173 : x10_1 < (l0.length : Int) := of_decide_eq_true (by first | (with_reducible assumption) | assumption)
            obtain ⟨ad173, e173, hx173_0⟩ := Kd.at_int HR0.out x10_1 p173 q173
            cases e173
            replace p173 := eq_true p173
            replace q173 := eq_true q173
            go_wp2
            go_loopg [4, 15] k1 (fun kq v4 v15 w' => ∃ (x4_2 : Int) (x15_2 : Int), v4 = .int .i64 x4_2 ∧ v15 = .int .i64 x15_2 ∧ Aside0 (bits_Count.l1 kq a1 x4_2 x10_1 (rd l0 x10_1) l0 (l0.length : Int) x10_1 x15_2 = some r) ∧ Aside0 (kq ≤ k1) ∧ Drawn0 w w')
            case atStart => exact ⟨(x4_1), (0), (by first | rfl | (simp; done) | (simp [*]; done) | exact congrArg Value.bool (ne_empty _) | exact congrArg Value.bool (eq_empty _)), (by first | rfl | (simp; done) | (simp [*]; done) | exact congrArg Value.bool (ne_empty _) | exact congrArg Value.bool (eq_empty _)), H', ⟨Nat.le_refl _⟩, by repeat (first | exact Drawn0.refl _ | apply Drawn0.step)⟩
            case round =>
              clear H'
              try clear p1
              try clear q1
              try clear hx1
              try clear p2
              try clear c3
              try clear c3b0
              try clear c4
              try clear c4b0
              try clear c5
              try clear c5b0
              try clear hx173_0
              try clear p173
              try clear p2
              try clear q173
              obtain ⟨x4_2, x15_2, rfl, rfl, HA, HK2, ⟨m2, rfl⟩⟩ := hrel
              cases gk with
              | zero => exact absurd HA.out (by first | (intro h_; exact nomatch (show (none : Option _) = some r from h_)) | simp [bits_Count.l1])
              | succ k2 =>
                have H := HA.out
                clear HA
                simp only [bits_Count.l1] at H
                by_cases c6 : x15_2 < 8
                · rw [if_pos c6] at H
                  have c6b0 : decide (x15_2 < 8) = true := decide_eq_true c6
                  clear c6
                  by_cases c7 : (wrap64 ((wrap64 (8 * x10_1)) + x15_2)) < a1
                  · rw [if_pos c7] at H
                    have c7b0 : decide ((wrap64 ((wrap64 (8 * x10_1)) + x15_2)) < a1) = true := decide_eq_true c7
                    clear c7
                    by_cases c8 : 0 ≤ x15_2
                    · rw [if_pos c8] at H
                      have c8b0 := eq_true c8
                      have c8b1 : decide (0 ≤ x15_2) = true := decide_eq_true c8
                      clear c8
                      obtain ⟨ji9, hji9⟩ : ∃ j_ : Int, (shr .u8 (rd l0 x10_1) x15_2) = j_ := ⟨_, rfl⟩
                      replace H : (bits_Count.l1 k2 a1 (wrap64 (x4_2 + (wrap64 (Go.bits .and .u8 (ji9) 1)))) x10_1 (rd l0 x10_1) l0 (l0.length : Int) x10_1 (wrap64 (x15_2 + 1))) = some r := by first | (rw [hji9] at H; exact H) | (simp only [hji9] at H ⊢; exact H)
                      have hji9_ : ((rd l0 x10_1) / 2 ^ min x15_2.toNat 8) = ji9 := hji9
                      have hji9z : x15_2 ≤ 8 → ((rd l0 x10_1) / 2 ^ x15_2.toNat) = ji9 := shr_small hji9
                      have H' := Aside0.mk H
                      clear H
                      go_wp2
                      go_roundg k2
                      case measure => have := HK1.out; have := HK2.out; omega
                      case rel => exact ⟨(wrap64 (x4_2 + (wrap64 (Go.bits .and .u8 (ji9) 1)))), (wrap64 (x15_2 + 1)), (by first | rfl | (simp; done) | (simp only [← hji9] <;> (first | rfl | simp)) | (simp [*]; done)), (by first | rfl | (simp; done) | (simp [*]; done) | exact congrArg Value.bool (ne_empty _) | exact congrArg Value.bool (eq_empty _)), H', ⟨by have := HK1.out; have := HK2.out; omega⟩, by repeat (first | exact Drawn0.refl _ | apply Drawn0.step)⟩
                    · rw [if_neg c8] at H
                      exact absurd H (by simp)
                  · rw [if_neg c7] at H
                    have c7b0 : decide ((wrap64 ((wrap64 (8 * x10_1)) + x15_2)) < a1) = false := decide_eq_false c7
                    clear c7
                    have H' := Aside0.mk H
                    clear H
                    go_wp2
                    go_roundg k2
                    case measure => have := HK1.out; have := HK2.out; omega
                    case rel => exact ⟨(x4_2), (wrap64 (x15_2 + 1)), (by first | rfl | (simp; done) | (simp [*]; done) | exact congrArg Value.bool (ne_empty _) | exact congrArg Value.bool (eq_empty _)), (by first | rfl | (simp; done) | (simp [*]; done) | exact congrArg Value.bool (ne_empty _) | exact congrArg Value.bool (eq_empty _)), H', ⟨by have := HK1.out; have := HK2.out; omega⟩, by repeat (first | exact Drawn0.refl _ | apply Drawn0.step)⟩
                · rw [if_neg c6] at H
                  have c6b0 : decide (x15_2 < 8) = false := decide_eq_false c6
                  clear c6
                  have H' := Aside0.mk H
                  clear H
                  go_wp2
                  go_roundg k2
                  case measure => have := HK1.out; have := HK2.out; omega
                  case rel => exact ⟨(x4_2), (wrap64 (x10_1 + 1)), (by first | rfl | (simp; done) | (simp [*]; done) | exact congrArg Value.bool (ne_empty _) | exact congrArg Value.bool (eq_empty _)), (by first | rfl | (simp; done) | (simp [*]; done) | exact congrArg Value.bool (ne_empty _) | exact congrArg Value.bool (eq_empty _)), H', ⟨by have := HK1.out; have := HK2.out; omega⟩, by repeat (first | exact Drawn0.refl _ | apply Drawn0.step)⟩
          · rw [if_neg c5] at H
            exact absurd H (by simp)
        · rw [if_neg c4] at H
          exact absurd H (by simp)
      · rw [if_neg c3] at H
        have c3b0 : decide (x10_1 < (l0.length : Int)) = false := decide_eq_false c3
        clear c3
        obtain rfl := Option.some.inj H
        go_wp2
        go_ret
        exact ⟨by first | rfl | (simp; done) | (simp [*]; done) | exact congrArg Value.bool (ne_empty _) | exact congrArg Value.bool (eq_empty _), by repeat (first | exact Drawn0.refl _ | apply Drawn0.step)⟩

/-! ### bollardref1_Count: function 42 -/
mutual
def bollardref1_Count.l0 : Nat → List Int → Int → Int → Int → Option (Int)
  | 0, _, _, _, _ => none
  | k + 1, x0, x1, x5, x6 => if x6 < x1 then (bollardref1_Count.j1 k x0 x1 x5 x6 (decide ((wrap64 (Int.tdiv x6 8)) < (x0.length : Int)))) else (bollardref1_Count.j1 k x0 x1 x5 x6 false)
def bollardref1_Count.j1 : Nat → List Int → Int → Int → Int → Bool → Option (Int)
  | 0, _, _, _, _, _ => none
  | k + 1, x0, x1, x5, x6, x16 => if x16 = true then ((bollardref1_Test.f x0 x6).bind fun t174 => (if t174 = true then (bollardref1_Count.l0 k x0 x1 (wrap64 (x5 + 1)) (wrap64 (x6 + 1))) else (bollardref1_Count.l0 k x0 x1 x5 (wrap64 (x6 + 1))))) else (some x5)
end
def bollardref1_Count.f (k : Nat) (l0 : List Int) (a1 : Int) : Option (Int) := bollardref1_Count.l0 k l0 a1 0 0
set_option maxRecDepth 100000 in
theorem bollardref1_Count.mono_l : ∀ k, (∀ y0 y1 y2 y3, LeO (bollardref1_Count.l0 k y0 y1 y2 y3) (bollardref1_Count.l0 (k + 1) y0 y1 y2 y3)) ∧ (∀ y0 y1 y2 y3 y4, LeO (bollardref1_Count.j1 k y0 y1 y2 y3 y4) (bollardref1_Count.j1 (k + 1) y0 y1 y2 y3 y4))
  | 0 => ⟨fun _ _ _ _ r h => by first | exact nomatch (show (none : Option _) = some r from h) | (rw [bollardref1_Count.l0] at h; cases h; done) | (simp [bollardref1_Count.l0] at h; done), fun _ _ _ _ _ r h => by first | exact nomatch (show (none : Option _) = some r from h) | (rw [bollardref1_Count.j1] at h; cases h; done) | (simp [bollardref1_Count.j1] at h; done)⟩
  | k + 1 => by
    obtain ⟨ih0, ih1⟩ := bollardref1_Count.mono_l k
    refine ⟨?_, ?_⟩
    · intro y0 y1 y2 y3
      unfold bollardref1_Count.l0
      repeat' first
      | (with_reducible exact ih0 _ _ _ _)
      | (with_reducible exact ih1 _ _ _ _ _)
      | (with_reducible exact LeO.refl _)
      | (with_reducible exact LeO.none _)
      | (with_reducible refine LeO.ite ?_ ?_)
      | (with_reducible refine LeO.bind ?_ (fun _ => ?_))
      | exact ih0 _ _ _ _
      | exact ih1 _ _ _ _ _
      | exact LeO.none _
      | refine LeO.ite ?_ ?_
      | refine LeO.bind ?_ (fun _ => ?_)
    · intro y0 y1 y2 y3 y4
      unfold bollardref1_Count.j1
      repeat' first
      | (with_reducible exact ih0 _ _ _ _)
      | (with_reducible exact ih1 _ _ _ _ _)
      | (with_reducible exact LeO.refl _)
      | (with_reducible exact LeO.none _)
      | (with_reducible refine LeO.ite ?_ ?_)
      | (with_reducible refine LeO.bind ?_ (fun _ => ?_))
      | exact ih0 _ _ _ _
      | exact ih1 _ _ _ _ _
      | exact LeO.none _
      | refine LeO.ite ?_ ?_
      | refine LeO.bind ?_ (fun _ => ?_)
theorem bollardref1_Count.mono : ∀ a0 a1 k, LeO (bollardref1_Count.f k a0 a1) (bollardref1_Count.f (k + 1) a0 a1) := by
  intro a0 a1 k
  obtain ⟨ih0, ih1⟩ := bollardref1_Count.mono_l k
  unfold bollardref1_Count.f
  repeat' first
      | (with_reducible exact ih0 _ _ _ _)
      | (with_reducible exact ih1 _ _ _ _ _)
      | (with_reducible exact LeO.refl _)
      | (with_reducible exact LeO.none _)
      | (with_reducible refine LeO.ite ?_ ?_)
      | (with_reducible refine LeO.bind ?_ (fun _ => ?_))
      | exact ih0 _ _ _ _
      | exact ih1 _ _ _ _ _
      | exact LeO.none _
      | refine LeO.ite ?_ ?_
      | refine LeO.bind ?_ (fun _ => ?_)
set_option maxHeartbeats 8000000 in
set_option maxRecDepth 100000 in
theorem bollardref1_Count.calls (k : Nat) (A0 : Option Addr) (c0 : Nat) (l0 : List Int) (a1 : Int) (r : Int) (w : World) (hr0 : Kd.C (Kd.int .u8) w A0 l0.length l0) (hc0 : l0.length ≤ c0) (h : bollardref1_Count.f k l0 a1 = some r) :
    Calls Try.prog 42 #[.slice A0 l0.length c0, .int .i64 a1] w fun e w' => e = .returned (.int .i64 r) ∧ Drawn0 w w' := by
  have HR0 := Aside0.mk hr0
  have HC0 := Aside0.mk hc0
  clear hr0 hc0
  have H : (bollardref1_Count.l0 k l0 a1 0 0) = some r := h
  clear h
  have H' := Aside0.mk H
  clear H
  go_enter Try.func42, Try.ntmps42
  go_wp2
  go_loopg [5, 6] k (fun kq v5 v6 w' => ∃ (x5_1 : Int) (x6_1 : Int), v5 = .int .i64 x5_1 ∧ v6 = .int .i64 x6_1 ∧ Aside0 (bollardref1_Count.l0 kq l0 a1 x5_1 x6_1 = some r) ∧ Aside0 (kq ≤ k) ∧ Drawn0 w w')
  case atStart => exact ⟨(0), (0), (by first | rfl | (simp; done) | (simp [*]; done) | exact congrArg Value.bool (ne_empty _) | exact congrArg Value.bool (eq_empty _)), (by first | rfl | (simp; done) | (simp [*]; done) | exact congrArg Value.bool (ne_empty _) | exact congrArg Value.bool (eq_empty _)), H', ⟨Nat.le_refl _⟩, by repeat (first | exact Drawn0.refl _ | apply Drawn0.step)⟩
  case round =>
    clear H'
    try clear p2
    obtain ⟨x5_1, x6_1, rfl, rfl, HA, HK1, ⟨m1, rfl⟩⟩ := hrel
    cases gk with
    | zero => exact absurd HA.out (by first | (intro h_; exact nomatch (show (none : Option _) = some r from h_)) | simp [bollardref1_Count.l0])
    | succ k1 =>
      have H := HA.out
      clear HA
      simp only [bollardref1_Count.l0] at H
      have HC3 := Aside0.mk H
      clear H
      go_upto_region 3 with (fail)
      go_cut [16] (fun v16 wc => ∃ (kq : Nat) (x16_2 : Bool), v16 = .bool x16_2 ∧ Aside0 (bollardref1_Count.j1 kq l0 a1 x5_1 x6_1 x16_2 = some r) ∧ Aside0 (kq ≤ k1) ∧ Drawn0 w wc)
      case first =>
        have H := HC3.out
        clear HC3
        by_cases c4 : x6_1 < a1
        · rw [if_pos c4] at H
          have c4b0 : decide (x6_1 < a1) = true := decide_eq_true c4
          clear c4
          (first | rw [c4b0] | (simp only [i64_w, i32_w]; rw [c4b0]) | skip)
          have H' := Aside0.mk H
          clear H
          go_wp2
          go_meet
          case rel => exact ⟨_, (decide ((wrap64 (Int.tdiv x6_1 8)) < (l0.length : Int))), (by first | rfl | (simp; done) | (simp [*]; done) | exact congrArg Value.bool (ne_empty _) | exact congrArg Value.bool (eq_empty _)), H', ⟨by have := HK1.out; first | omega | exact Nat.le_refl _⟩, by repeat (first | exact Drawn0.refl _ | apply Drawn0.step)⟩
        · rw [if_neg c4] at H
          have c4b0 : decide (x6_1 < a1) = false := decide_eq_false c4
          clear c4
          (first | rw [c4b0] | (simp only [i64_w, i32_w]; rw [c4b0]) | skip)
          have H' := Aside0.mk H
          clear H
          go_wp2
          go_meet
          case rel => exact ⟨_, (false), (by first | rfl | (simp; done) | (simp [*]; done) | exact congrArg Value.bool (ne_empty _) | exact congrArg Value.bool (eq_empty _)), H', ⟨by have := HK1.out; first | omega | exact Nat.le_refl _⟩, by repeat (first | exact Drawn0.refl _ | apply Drawn0.step)⟩
      case rest =>
        clear HC3
        try clear p2
        try clear c4
        try clear c4b0
        try clear p2
        obtain ⟨kq, x16_2, rfl, HA, HJ2, ⟨mc2, rfl⟩⟩ := hcut
        cases kq with
        | zero => exact absurd HA.out (by first | (intro h_; exact nomatch (show (none : Option _) = some r from h_)) | simp [bollardref1_Count.j1])
        | succ kj2 =>
          have H := HA.out
          clear HA
          simp only [bollardref1_Count.j1] at H
          by_cases c5 : x16_2 = true
          · subst c5
            have H1 : ((bollardref1_Test.f l0 x6_1).bind fun t174 => (if t174 = true then (bollardref1_Count.l0 kj2 l0 a1 (wrap64 (x5_1 + 1)) (wrap64 (x6_1 + 1))) else (bollardref1_Count.l0 kj2 l0 a1 x5_1 (wrap64 (x6_1 + 1))))) = some r := by rw [if_pos rfl] at H; exact H
            clear H
            have H := H1
            clear H1
            replace H := Option.bind_eq_some_iff.mp H
            obtain ⟨t174, A60, H⟩ := H
            replace H : (if t174 = true then (bollardref1_Count.l0 kj2 l0 a1 (wrap64 (x5_1 + 1)) (wrap64 (x6_1 + 1))) else (bollardref1_Count.l0 kj2 l0 a1 x5_1 (wrap64 (x6_1 + 1)))) = some r := H
            have A6 := Aside0.mk A60
            clear A60
            by_cases c7 : t174 = true
            · subst c7
              have H1 : (bollardref1_Count.l0 kj2 l0 a1 (wrap64 (x5_1 + 1)) (wrap64 (x6_1 + 1))) = some r := by rw [if_pos rfl] at H; exact H
              clear H
              have H := H1
              clear H1
              have H' := Aside0.mk H
              clear H
              go_wp2_with (first | ((with_reducible refine gate_callee (f := 37) rfl ?_); refine goesL_ (some 21) rfl rfl Try.func37 (by kernel_rfl) rfl #[.slice A0 l0.length c0, .int .i64 x6_1] rfl (by (try simp only [List.map_toArray, List.map_cons, List.map_nil]); first | done | rfl | (simp only [List.length_drop, List.length_take]; rfl)) ?_; (with_reducible refine (bollardref1_Test.calls _ _ l0 x6_1 true _ ?side1 ?side2 A6.out).mono ?_); (case side1 => repeat (first | exact HR0.out | (with_reducible refine Kd.C_alloc ?_ _) | (with_reducible refine Kd.C_drewN ?_ _) | (with_reducible refine Kd.C_drew ?_))); (case side2 => exact HC0.out); rintro e w' ⟨rfl, ⟨nd, rfl⟩⟩; refine ⟨_, rfl, ?_⟩))
              go_roundg kj2
              case measure => have := HK1.out; have := HJ2.out; omega
              case rel => exact ⟨(wrap64 (x5_1 + 1)), (wrap64 (x6_1 + 1)), (by first | rfl | (simp; done) | (simp [*]; done) | exact congrArg Value.bool (ne_empty _) | exact congrArg Value.bool (eq_empty _)), (by first | rfl | (simp; done) | (simp [*]; done) | exact congrArg Value.bool (ne_empty _) | exact congrArg Value.bool (eq_empty _)), H', ⟨by have := HK1.out; have := HJ2.out; omega⟩, by repeat (first | exact Drawn0.refl _ | apply Drawn0.step)⟩
            · replace c7 := Bool.eq_false_iff.mpr c7
              subst c7
              have H1 : (bollardref1_Count.l0 kj2 l0 a1 x5_1 (wrap64 (x6_1 + 1))) = some r := by rw [if_neg (show ¬ (false = true) by decide)] at H; exact H
              clear H
              have H := H1
              clear H1
              have H' := Aside0.mk H
              clear H
              go_wp2_with (first | ((with_reducible refine gate_callee (f := 37) rfl ?_); refine goesL_ (some 21) rfl rfl Try.func37 (by kernel_rfl) rfl #[.slice A0 l0.length c0, .int .i64 x6_1] rfl (by (try simp only [List.map_toArray, List.map_cons, List.map_nil]); first | done | rfl | (simp only [List.length_drop, List.length_take]; rfl)) ?_; (with_reducible refine (bollardref1_Test.calls _ _ l0 x6_1 false _ ?side1 ?side2 A6.out).mono ?_); (case side1 => repeat (first | exact HR0.out | (with_reducible refine Kd.C_alloc ?_ _) | (with_reducible refine Kd.C_drewN ?_ _) | (with_reducible refine Kd.C_drew ?_))); (case side2 => exact HC0.out); rintro e w' ⟨rfl, ⟨nd, rfl⟩⟩; refine ⟨_, rfl, ?_⟩))
              go_roundg kj2
              case measure => have := HK1.out; have := HJ2.out; omega
              case rel => exact ⟨(x5_1), (wrap64 (x6_1 + 1)), (by first | rfl | (simp; done) | (simp [*]; done) | exact congrArg Value.bool (ne_empty _) | exact congrArg Value.bool (eq_empty _)), (by first | rfl | (simp; done) | (simp [*]; done) | exact congrArg Value.bool (ne_empty _) | exact congrArg Value.bool (eq_empty _)), H', ⟨by have := HK1.out; have := HJ2.out; omega⟩, by repeat (first | exact Drawn0.refl _ | apply Drawn0.step)⟩
          · replace c5 := Bool.eq_false_iff.mpr c5
            subst c5
            have H1 : (some x5_1) = some r := by rw [if_neg (show ¬ (false = true) by decide)] at H; exact H
            clear H
            have H := H1
            clear H1
            obtain rfl := Option.some.inj H
            go_wp2
            go_ret
            exact ⟨by first | rfl | (simp; done) | (simp [*]; done) | exact congrArg Value.bool (ne_empty _) | exact congrArg Value.bool (eq_empty _), by repeat (first | exact Drawn0.refl _ | apply Drawn0.step)⟩

/-! ### bollardlaw1_BitsMaps -/
def bollardlaw1_BitsMaps.f (k : Nat) (l : List Int) (a : Int) (on : Bool) (n : Int) : Option Bool :=
  if 2000 < l.length then onlyTrue (bollardlaw1_awake.f k) else
    (bits_Set.f k l a on).bind fun c => (bits_Test.f l a).bind fun t => (bollardref1_Test.f l a).bind fun t2 => (bollardref1_Set.f k l a on).bind fun c2 => (bollardalike_Bytes.f k c c2).bind fun e => (bits_First.f k l n).bind fun f1 => (bollardref1_First.f k l n).bind fun f2 => (bits_Count.f k l n).bind fun n1 => (bollardref1_Count.f k l n).bind fun n2 => (bollardalike_Bytes.f k l l).bind fun u =>
      if t = t2 ∧ e = true ∧ f1 = f2 ∧ n1 = n2 ∧ u = true ∧ c.length ≤ 100000 then onlyTrue (bollardlaw1_awake.f k) else none
def MpSt (w W : World) (B : Option Addr) (cb : Nat) (A : Option Addr) (l : List Int) : Prop := Below w.heap.size w W ∧ Kd.C (Kd.int .u8) W B (l ++ [77]).length (l ++ [77]) ∧ Kd.C (Kd.int .u8) W A l.length l
theorem MpSt.below {w W W2 : World} {B : Option Addr} {cb : Nat} {A : Option Addr} {l : List Int} (h : MpSt w W B cb A l) (hb : Below W.heap.size W W2) : MpSt w W2 B cb A l := ⟨below_step h.1 hb, Kd.C_below h.2.1 hb, Kd.C_below h.2.2 hb⟩
theorem MpSt.p {w W : World} {B : Option Addr} {cb : Nat} {A : Option Addr} {l : List Int} (h : MpSt w W B cb A l) : Kd.C (Kd.int .u8) W B l.length l := by
  have := Kd.C_take (m := l.length) h.2.1 (by simp)
  rwa [List.take_left] at this
set_option maxHeartbeats 8000000 in
set_option maxRecDepth 100000 in
theorem bollardlaw1_BitsMaps.calls (k : Nat) (A0 : Option Addr) (c0 : Nat) (l0 : List Int) (a1 : Int) (a2 : Bool) (a3 : Int) (r : Bool) (w : World) (hr0 : Kd.C (Kd.int .u8) w A0 l0.length l0) (hc0 : l0.length ≤ c0) (h : bollardlaw1_BitsMaps.f k l0 a1 a2 a3 = some r) :
    Calls Try.prog 11 #[.slice A0 l0.length c0, .int .i64 a1, .bool a2, .int .i64 a3] w fun e w' => e = .returned (.bool r) ∧ Below w.heap.size w w' := by
  unfold bollardlaw1_BitsMaps.f at h
  have HR := Aside0.mk hr0
  have HC := Aside0.mk hc0
  clear hr0 hc0
  by_cases c1 : 2000 < l0.length
  · rw [if_pos c1] at h
    obtain ⟨rfl, ha⟩ := awoken h
    have d1 : decide ((2000 : Int) < (l0.length : Int)) = true := decide_eq_true (by omega)
    have HA := Aside0.mk ha
    clear h ha c1
    go_enter Try.func11, Try.ntmps11
    go_wp2_with fail
    refine (bollardlaw1_awake.calls k true w HA.out).mono ?_
    rintro e w1 ⟨rfl, hb⟩
    have HB := Aside0.mk hb
    clear hb
    go_wp2
    go_ret
    exact ⟨rfl, HB.out⟩
  · rw [if_neg c1] at h
    have d1 : decide ((2000 : Int) < (l0.length : Int)) = false := decide_eq_false (by omega)
    have HL := Aside0.mk (Nat.le_of_not_lt c1)
    obtain ⟨c, h1, g1_⟩ := Option.bind_eq_some_iff.mp h
    obtain ⟨t, h2, g2_⟩ := Option.bind_eq_some_iff.mp g1_
    obtain ⟨t2, h3, g3_⟩ := Option.bind_eq_some_iff.mp g2_
    obtain ⟨c2, h4, g4_⟩ := Option.bind_eq_some_iff.mp g3_
    obtain ⟨e, h5, g5_⟩ := Option.bind_eq_some_iff.mp g4_
    obtain ⟨f1, h6, g6_⟩ := Option.bind_eq_some_iff.mp g5_
    obtain ⟨f2, h7, g7_⟩ := Option.bind_eq_some_iff.mp g6_
    obtain ⟨n1, h8, g8_⟩ := Option.bind_eq_some_iff.mp g7_
    obtain ⟨n2, h9, g9_⟩ := Option.bind_eq_some_iff.mp g8_
    obtain ⟨u, h10, h11⟩ := Option.bind_eq_some_iff.mp g9_
    clear g1_ g2_ g3_ g4_ g5_ g6_ g7_ g8_ g9_ h
    by_cases c2_ : t = t2 ∧ e = true ∧ f1 = f2 ∧ n1 = n2 ∧ u = true ∧ c.length ≤ 100000
    case neg => rw [if_neg c2_] at h11; cases h11
    rw [if_pos c2_] at h11
    obtain ⟨q1, q2, q3, q4, q5, hcl⟩ := c2_
    rw [← q1] at h3
    rw [q2] at h5
    rw [← q3] at h7
    rw [← q4] at h9
    rw [q5] at h10
    clear q1 q2 q3 q4 q5
    obtain ⟨rfl, ha⟩ := awoken h11
    have HCL := Aside0.mk hcl
    have H1 := Aside0.mk h1
    have H2 := Aside0.mk h2
    have H3 := Aside0.mk h3
    have H4 := Aside0.mk h4
    have H5 := Aside0.mk h5
    have H6 := Aside0.mk h6
    have H7 := Aside0.mk h7
    have H8 := Aside0.mk h8
    have H9 := Aside0.mk h9
    have H10 := Aside0.mk h10
    have HA := Aside0.mk ha
    clear h1 h2 h3 h4 h5 h6 h7 h8 h9 h10 h11 ha hcl c1 t2 f2 n2 e u
    have g1 : (t == t) = true := beq_self_eq_true _
    have g2 : (f1 == f1) = true := beq_self_eq_true _
    have g3 : (n1 == n1) = true := beq_self_eq_true _
    go_enter Try.func11, Try.ntmps11
    go_wp2_with fail
    refine (bollardlaw1_lent.calls A0 c0 l0 _ HR.out HC.out (by have := HL.out; omega)).mono ?_
    rintro e w1 ⟨B, cb, rfl, hcb, hB, hb⟩
    have S1 := Aside0.mk (show MpSt w w1 B cb A0 l0 from ⟨hb, hB, Kd.C_below HR.out hb⟩)
    have HCB := Aside0.mk hcb
    have T1 := Aside0.mk S1.out
    clear hb hB hcb
    go_wp2_with fail
    refine (bits_Set.calls k B cb l0 a1 a2 c _ S1.out.p (by have := HCB.out; omega) H1.out).mono ?_
    rintro e w2 ⟨v, rfl, ho, hb⟩
    obtain ⟨Ac, cc, ec⟩ := Kd.R_slice ho
    subst ec
    have S2 := Aside0.mk (S1.out.below hb)
    have HW := Aside0.mk hb
    have HO := Aside0.mk ho
    clear hb ho S1
    go_wp2_with fail
    refine (bits_Test.calls B cb l0 a1 t _ S2.out.p (by have := HCB.out; omega) H2.out).mono ?_
    rintro e w3 ⟨rfl, hd⟩
    have hb := hd.below
    clear hd
    have HW_ := Aside0.mk (below_step HW.out hb)
    have HO_ := Aside0.mk (Kd.R_below HO.out hb)
    have S3 := Aside0.mk (S2.out.below hb)
    clear hb HW HO S2
    have HW := HW_
    have HO := HO_
    clear HW_ HO_
    go_wp2_with fail
    refine (bollardref1_Test.calls A0 c0 l0 a1 t _ S3.out.2.2 HC.out H3.out).mono ?_
    rintro e w4 ⟨rfl, hd⟩
    have hb := hd.below
    clear hd
    have HW_ := Aside0.mk (below_step HW.out hb)
    have HO_ := Aside0.mk (Kd.R_below HO.out hb)
    have S4 := Aside0.mk (S3.out.below hb)
    clear hb HW HO S3
    have HW := HW_
    have HO := HO_
    clear HW_ HO_
    go_wp2_with fail
    refine (bollardref1_Set.calls k A0 c0 l0 a1 a2 c2 _ S4.out.2.2 HC.out H4.out).mono ?_
    rintro e w5 ⟨v, rfl, ho, hb⟩
    obtain ⟨Ad, cd, ed⟩ := Kd.R_slice ho
    subst ed
    have HD := Aside0.mk (Kd.R_reads' ho).2
    have HW_ := Aside0.mk (below_step HW.out hb)
    have HO_ := Aside0.mk (Kd.R_below HO.out hb)
    have S5 := Aside0.mk (S4.out.below hb)
    clear hb HW HO S4
    have HW := HW_
    have HO := HO_
    clear HW_ HO_
    clear ho
    go_wp2_with fail
    refine (bollardalike_Bytes.calls k Ac cc c Ad cd c2 true _ (Kd.R_reads' HO.out).2.2 (Kd.R_reads' HO.out).2.1 HD.out.2 HD.out.1 H5.out).mono ?_
    rintro e w6 ⟨rfl, hd⟩
    have hb := hd.below
    clear hd
    have HW_ := Aside0.mk (below_step HW.out hb)
    have HO_ := Aside0.mk (Kd.R_below HO.out hb)
    have S6 := Aside0.mk (S5.out.below hb)
    clear hb HW HO S5
    have HW := HW_
    have HO := HO_
    clear HW_ HO_
    go_wp2_with fail
    refine (bits_First.calls k B cb l0 a3 f1 _ S6.out.p (by have := HCB.out; omega) H6.out).mono ?_
    rintro e w7 ⟨rfl, hd⟩
    have hb := hd.below
    clear hd
    have HW_ := Aside0.mk (below_step HW.out hb)
    have HO_ := Aside0.mk (Kd.R_below HO.out hb)
    have S7 := Aside0.mk (S6.out.below hb)
    clear hb HW HO S6
    have HW := HW_
    have HO := HO_
    clear HW_ HO_
    go_wp2_with fail
    refine (bollardref1_First.calls k A0 c0 l0 a3 f1 _ S7.out.2.2 HC.out H7.out).mono ?_
    rintro e w8 ⟨rfl, hd⟩
    have hb := hd.below
    clear hd
    have HW_ := Aside0.mk (below_step HW.out hb)
    have HO_ := Aside0.mk (Kd.R_below HO.out hb)
    have S8 := Aside0.mk (S7.out.below hb)
    clear hb HW HO S7
    have HW := HW_
    have HO := HO_
    clear HW_ HO_
    go_wp2_with fail
    refine (bits_Count.calls k B cb l0 a3 n1 _ S8.out.p (by have := HCB.out; omega) H8.out).mono ?_
    rintro e w9 ⟨rfl, hd⟩
    have hb := hd.below
    clear hd
    have HW_ := Aside0.mk (below_step HW.out hb)
    have HO_ := Aside0.mk (Kd.R_below HO.out hb)
    have S9 := Aside0.mk (S8.out.below hb)
    clear hb HW HO S8
    have HW := HW_
    have HO := HO_
    clear HW_ HO_
    go_wp2_with fail
    refine (bollardref1_Count.calls k A0 c0 l0 a3 n1 _ S9.out.2.2 HC.out H9.out).mono ?_
    rintro e w10 ⟨rfl, hd⟩
    have hb := hd.below
    clear hd
    have HW_ := Aside0.mk (below_step HW.out hb)
    have HO_ := Aside0.mk (Kd.R_below HO.out hb)
    have S10 := Aside0.mk (S9.out.below hb)
    clear hb HW HO S9
    have HW := HW_
    have HO := HO_
    clear HW_ HO_
    clear HD S10
    go_wp2_with fail
    go_loopg [12] (c.length + 1) (fun kq v12 w' => ∃ (i : Int) (xs : List Int), v12 = .int .i64 i ∧ Aside0 (0 ≤ i ∧ i ≤ (c.length : Int) ∧ kq + i.toNat = c.length + 1 ∧ xs.length = c.length) ∧ Aside0 (Kd.R (Kd.int .u8) 5 w' w1.heap.size (fun _ => True) (.slice Ac c.length cc) xs) ∧ Aside0 (Below w1.heap.size w1 w'))
    case atStart => exact ⟨0, c, rfl, ⟨by omega, by omega, by omega, rfl⟩, HO, HW⟩
    case round =>
      clear HO HW
      obtain ⟨i, xs, rfl, HI, HO, HW⟩ := hrel
      have b0 := HI.out.1
      by_cases e1 : i < (c.length : Int)
      · have d1 : decide (i < (c.length : Int)) = true := decide_eq_true e1
        have bi : i < 9223372036854775807 := by have := HCL.out; omega
        obtain ⟨go, co, eo, gb, gl, cl, HG⟩ := Kd.R_form HO.out (by have := HI.out; omega)
        injection eo with ea en ec
        subst ea
        obtain ⟨hx, hf⟩ := Kd.R_celln 0 HO.out i b0 e1
        have HP := Aside0.mk (Kd.R_putn HO.out i 99)
        have HB := Aside0.mk (below_set HW.out (j := i.toNat) (v := .int .u8 99) gb)
        have E1 := Aside0.mk e1
        have p0 := eq_true b0
        have p1 := eq_true e1
        clear e1 b0 gb gl HG en ec
        go_wp2_with fail
        go_roundg (c.length + 1 - (i + 1).toNat)
        case measure => have := HI.out; omega
        case rel => exact ⟨i + 1, xs.set i.toNat 99, by first | rfl | exact congrArg (Value.int .i64) (by have := HI.out.1; unfold wrap64; omega), ⟨by have := HI.out; omega, by have := E1.out; omega, by have := HI.out; have := E1.out; omega, by rw [List.length_set]; exact HI.out.2.2.2⟩, HP, HB⟩
      · have d1 : decide (i < (c.length : Int)) = false := decide_eq_false e1
        have S := Aside0.mk (T1.out.below HW.out)
        clear HO HI e1 b0 T1
        go_wp2_with fail
        refine (bollardlaw1_back.calls k B cb l0 A0 c0 l0 _ S.out.2.1 HCB.out S.out.2.2 HC.out rfl (by have := HL.out; omega) H10.out).mono ?_
        rintro e w11 ⟨rfl, hd⟩
        have hb := hd.below
        have HB := Aside0.mk (below_step S.out.1 hb)
        clear hb hd S
        go_wp2_with fail
        refine (bollardlaw1_awake.calls k true _ HA.out).mono ?_
        rintro e w12 ⟨rfl, hb⟩
        have HB2 := Aside0.mk (below_step HB.out hb)
        clear hb
        go_wp2
        go_ret
        exact ⟨rfl, HB2.out⟩

/-- THE ONE PURE STATEMENT of bollardlaw1_BitsMaps: mine. -/
def bollardlaw1_BitsMaps.Pure : Prop := ∀ (l0 : List Int) (a1 : Int) (a2 : Bool) (a3 : Int), (l0.length * 1 ≤ 140737488351232 ∧ ∀ y0 ∈ l0, (Lit.int .u8 y0).wf = true) → (Lit.int .i64 a1).wf = true → (Lit.int .i64 a3).wf = true → ∃ k, bollardlaw1_BitsMaps.f k l0 a1 a2 a3 = some true

end Go.Proofs.Ytlpbgknpgogaaaa.PBn
