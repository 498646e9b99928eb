-- written by a program of this session (wip/tools/pr.py, over the kit's printer): not by hand
import Derived.Test.YtcmkmjmhjjohkaaPRecx0
namespace Go.Proofs.Ytcmkmjmhjjohkaa.PRec
open Go.RowKit Go.Proofs.YtcmkmjmhjjohkaaW.PrintWords Go.Proofs.YtcmkmjmhjjohkaaW.PrintLast Go.Proofs.YtcmkmjmhjjohkaaW.PrintMore
attribute [local go_sem] max2_int min2_int max_two min_two max_three min_three max_four min_four   -- for this text's walks alone
set_option linter.unusedVariables false
set_option linter.unusedSimpArgs false

/-! ### bollardref1_Unvarint: function 29 -/
mutual
def bollardref1_Unvarint.l0 : Nat → List Int → Int → Int → Option (Int × Int)
  | 0, _, _, _ => none
  | k + 1, x0, x4, x5 => if x5 < 10 then (bollardref1_Unvarint.j1 k x0 x4 x5 (decide (x5 < (x0.length : Int)))) else (bollardref1_Unvarint.j1 k x0 x4 x5 false)
def bollardref1_Unvarint.j1 : Nat → List Int → Int → Int → Bool → Option (Int × Int)
  | 0, _, _, _, _ => none
  | k + 1, x0, x4, x5, x13 => if x13 = true then (if x5 = 9 then (if 0 ≤ x5 then (if x5 < (x0.length : Int) then (bollardref1_Unvarint.j2 k x0 x4 x5 (decide ((rd x0 x5) > 1))) else (none)) else (none)) else (bollardref1_Unvarint.j2 k x0 x4 x5 false)) else (some (0, 0))
def bollardref1_Unvarint.j2 : Nat → List Int → Int → Int → Bool → Option (Int × Int)
  | 0, _, _, _, _ => none
  | k + 1, x0, x4, x5, x24 => if x24 = true then (some (0, 0)) else (if 0 ≤ x5 then (if x5 < (x0.length : Int) then (if 0 ≤ (wrap64 (7 * x5)) then (if (rd x0 x5) < 128 then (if (rd x0 x5) = 0 then (if x5 > 0 then (some (0, 0)) else (some (Go.bits .or .u64 x4 (shl .u64 (IntKind.u64.wrap (Go.bits .and .u8 (rd x0 x5) 127)) (wrap64 (7 * x5))), wrap64 (x5 + 1)))) else (some (Go.bits .or .u64 x4 (shl .u64 (IntKind.u64.wrap (Go.bits .and .u8 (rd x0 x5) 127)) (wrap64 (7 * x5))), wrap64 (x5 + 1)))) else (bollardref1_Unvarint.l0 k x0 (Go.bits .or .u64 x4 (shl .u64 (IntKind.u64.wrap (Go.bits .and .u8 (rd x0 x5) 127)) (wrap64 (7 * x5)))) (wrap64 (x5 + 1)))) else (none)) else (none)) else (none))
end
def bollardref1_Unvarint.f (k : Nat) (l0 : List Int) : Option (Int × Int) := bollardref1_Unvarint.l0 k l0 0 0
theorem bollardref1_Unvarint.mono_l : ∀ k, (∀ y0 y1 y2, LeO (bollardref1_Unvarint.l0 k y0 y1 y2) (bollardref1_Unvarint.l0 (k + 1) y0 y1 y2)) ∧ (∀ y0 y1 y2 y3, LeO (bollardref1_Unvarint.j1 k y0 y1 y2 y3) (bollardref1_Unvarint.j1 (k + 1) y0 y1 y2 y3)) ∧ (∀ y0 y1 y2 y3, LeO (bollardref1_Unvarint.j2 k y0 y1 y2 y3) (bollardref1_Unvarint.j2 (k + 1) y0 y1 y2 y3))
  | 0 => ⟨fun _ _ _ r h => by simp [bollardref1_Unvarint.l0] at h, fun _ _ _ _ r h => by simp [bollardref1_Unvarint.j1] at h, fun _ _ _ _ r h => by simp [bollardref1_Unvarint.j2] at h⟩
  | k + 1 => by
    obtain ⟨ih0, ih1, ih2⟩ := bollardref1_Unvarint.mono_l k
    refine ⟨?_, ?_, ?_⟩
    · intro y0 y1 y2
      unfold bollardref1_Unvarint.l0
      repeat' first
      | (with_reducible exact ih0 _ _ _)
      | (with_reducible exact ih1 _ _ _ _)
      | (with_reducible exact ih2 _ _ _ _)
      | (with_reducible exact LeO.refl _)
      | (with_reducible exact LeO.none _)
      | (with_reducible refine LeO.ite ?_ ?_)
      | (with_reducible refine LeO.bind ?_ (fun _ => ?_))
      | exact ih0 _ _ _
      | exact ih1 _ _ _ _
      | exact ih2 _ _ _ _
      | exact LeO.none _
      | refine LeO.ite ?_ ?_
      | refine LeO.bind ?_ (fun _ => ?_)
    · intro y0 y1 y2 y3
      unfold bollardref1_Unvarint.j1
      repeat' first
      | (with_reducible exact ih0 _ _ _)
      | (with_reducible exact ih1 _ _ _ _)
      | (with_reducible exact ih2 _ _ _ _)
      | (with_reducible exact LeO.refl _)
      | (with_reducible exact LeO.none _)
      | (with_reducible refine LeO.ite ?_ ?_)
      | (with_reducible refine LeO.bind ?_ (fun _ => ?_))
      | exact ih0 _ _ _
      | exact ih1 _ _ _ _
      | exact ih2 _ _ _ _
      | exact LeO.none _
      | refine LeO.ite ?_ ?_
      | refine LeO.bind ?_ (fun _ => ?_)
    · intro y0 y1 y2 y3
      unfold bollardref1_Unvarint.j2
      repeat' first
      | (with_reducible exact ih0 _ _ _)
      | (with_reducible exact ih1 _ _ _ _)
      | (with_reducible exact ih2 _ _ _ _)
      | (with_reducible exact LeO.refl _)
      | (with_reducible exact LeO.none _)
      | (with_reducible refine LeO.ite ?_ ?_)
      | (with_reducible refine LeO.bind ?_ (fun _ => ?_))
      | exact ih0 _ _ _
      | exact ih1 _ _ _ _
      | exact ih2 _ _ _ _
      | exact LeO.none _
      | refine LeO.ite ?_ ?_
      | refine LeO.bind ?_ (fun _ => ?_)
theorem bollardref1_Unvarint.mono : ∀ a0 k, LeO (bollardref1_Unvarint.f k a0) (bollardref1_Unvarint.f (k + 1) a0) := by
  intro a0 k
  obtain ⟨ih0, ih1, ih2⟩ := bollardref1_Unvarint.mono_l k
  unfold bollardref1_Unvarint.f
  repeat' first
      | (with_reducible exact ih0 _ _ _)
      | (with_reducible exact ih1 _ _ _ _)
      | (with_reducible exact ih2 _ _ _ _)
      | (with_reducible exact LeO.refl _)
      | (with_reducible exact LeO.none _)
      | (with_reducible refine LeO.ite ?_ ?_)
      | (with_reducible refine LeO.bind ?_ (fun _ => ?_))
      | exact ih0 _ _ _
      | exact ih1 _ _ _ _
      | exact ih2 _ _ _ _
      | exact LeO.none _
      | refine LeO.ite ?_ ?_
      | refine LeO.bind ?_ (fun _ => ?_)
set_option maxHeartbeats 8000000 in
set_option maxRecDepth 100000 in
theorem bollardref1_Unvarint.calls (k : Nat) (A0 : Option Addr) (c0 : Nat) (l0 : List Int) (r1 : Int) (r2 : Int) (w : World) (hr0 : Kd.C (Kd.int .u8) w A0 l0.length l0) (hc0 : l0.length ≤ c0) (h : bollardref1_Unvarint.f k l0 = some (r1, r2)) :
    Calls Try.prog 29 #[.slice A0 l0.length c0] w fun e w' => e = .returned (.tuple #[.int .u64 r1, .int .i64 r2]) ∧ Drawn0 w w' := by
  have HR0 := Aside0.mk hr0
  have HC0 := Aside0.mk hc0
  clear hr0 hc0
  have H : (bollardref1_Unvarint.l0 k l0 0 0) = some (r1, r2) := h
  clear h
  have H' := Aside0.mk H
  clear H
  go_enter Try.func29, Try.ntmps29
  go_wp2
  go_loopg [4, 5] k (fun kq v4 v5 w' => ∃ (x4_1 : Int) (x5_1 : Int), v4 = .int .u64 x4_1 ∧ v5 = .int .i64 x5_1 ∧ Aside0 (bollardref1_Unvarint.l0 kq l0 x4_1 x5_1 = some (r1, r2)) ∧ Aside0 (kq ≤ k) ∧ Drawn0 w w')
  case atStart => exact ⟨(0), (0), (by first | rfl | (simp; done) | (simp [*]; done) | exact congrArg Value.bool (ne_empty _) | exact congrArg Value.bool (eq_empty _)), (by first | rfl | (simp; done) | (simp [*]; done) | exact congrArg Value.bool (ne_empty _) | exact congrArg Value.bool (eq_empty _)), H', ⟨Nat.le_refl _⟩, by repeat (first | exact Drawn0.refl _ | apply Drawn0.step)⟩
  case round =>
    clear H'
    obtain ⟨x4_1, x5_1, rfl, rfl, HA, HK1, ⟨m1, rfl⟩⟩ := hrel
    cases gk with
    | zero => exact absurd HA.out (by simp [bollardref1_Unvarint.l0])
    | succ k1 =>
      have H := HA.out
      clear HA
      simp only [bollardref1_Unvarint.l0] at H
      have HC2 := Aside0.mk H
      clear H
      go_upto_region 3 with (fail)
      go_cut [13] (fun v13 wc => ∃ (kq : Nat) (x13_1 : Bool), v13 = .bool x13_1 ∧ Aside0 (bollardref1_Unvarint.j1 kq l0 x4_1 x5_1 x13_1 = some (r1, r2)) ∧ Aside0 (kq ≤ k1) ∧ Drawn0 w wc)
      case first =>
        have H := HC2.out
        clear HC2
        by_cases c3 : x5_1 < 10
        · rw [if_pos c3] at H
          have c3b0 : decide (x5_1 < 10) = true := decide_eq_true c3
          clear c3
          (first | rw [c3b0] | (simp only [i64_w, i32_w]; rw [c3b0]) | skip)
          have H' := Aside0.mk H
          clear H
          go_wp2
          go_meet
          case rel => exact ⟨_, (decide (x5_1 < (l0.length : Int))), (by first | rfl | (simp; done) | (simp [*]; done) | exact congrArg Value.bool (ne_empty _) | exact congrArg Value.bool (eq_empty _)), H', ⟨by have := HK1.out; first | omega | exact Nat.le_refl _⟩, by repeat (first | exact Drawn0.refl _ | apply Drawn0.step)⟩
        · rw [if_neg c3] at H
          have c3b0 : decide (x5_1 < 10) = false := decide_eq_false c3
          clear c3
          (first | rw [c3b0] | (simp only [i64_w, i32_w]; rw [c3b0]) | skip)
          have H' := Aside0.mk H
          clear H
          go_wp2
          go_meet
          case rel => exact ⟨_, (false), (by first | rfl | (simp; done) | (simp [*]; done) | exact congrArg Value.bool (ne_empty _) | exact congrArg Value.bool (eq_empty _)), H', ⟨by have := HK1.out; first | omega | exact Nat.le_refl _⟩, by repeat (first | exact Drawn0.refl _ | apply Drawn0.step)⟩
      case rest =>
        clear HC2
        try clear c2
        try clear p2
        try clear c3
        try clear c3b0
        obtain ⟨kq, x13_1, rfl, HA, HJ1, ⟨mc1, rfl⟩⟩ := hcut
        cases kq with
        | zero => exact absurd HA.out (by simp [bollardref1_Unvarint.j1])
        | succ kj1 =>
          have H := HA.out
          clear HA
          simp only [bollardref1_Unvarint.j1] at H
          by_cases c4 : x13_1 = true
          · subst c4
            have H1 : (if x5_1 = 9 then (if 0 ≤ x5_1 then (if x5_1 < (l0.length : Int) then (bollardref1_Unvarint.j2 kj1 l0 x4_1 x5_1 (decide ((rd l0 x5_1) > 1))) else (none)) else (none)) else (bollardref1_Unvarint.j2 kj1 l0 x4_1 x5_1 false)) = some (r1, r2) := by rw [if_pos rfl] at H; exact H
            clear H
            have H := H1
            clear H1
            have HC5 := Aside0.mk H
            clear H
            go_upto_region 5 with (fail)
            go_cut [24] (fun v24 wc => ∃ (kq : Nat) (x24_4 : Bool), v24 = .bool x24_4 ∧ Aside0 (bollardref1_Unvarint.j2 kq l0 x4_1 x5_1 x24_4 = some (r1, r2)) ∧ Aside0 (kq ≤ kj1) ∧ Drawn0 w wc)
            case first =>
              have H := HC5.out
              clear HC5
              by_cases c6 : x5_1 = 9
              · rw [if_pos c6] at H
                have c6b0 : (x5_1 == 9) = true := beq_iff_eq.mpr c6
                have c6b1 : (x5_1 != 9) = false := bne_eq_false_iff_eq.mpr c6
                clear c6
                (first | rw [c6b0] | (simp only [i64_w, i32_w]; rw [c6b0]) | skip)
                by_cases c7 : 0 ≤ x5_1
                · rw [if_pos c7] at H
                  have c7b0 : decide (0 ≤ x5_1) = true := decide_eq_true c7
                  clear c7
                  by_cases c8 : x5_1 < (l0.length : Int)
                  · rw [if_pos c8] at H
                    have c8b0 : decide (x5_1 < (l0.length : Int)) = true := decide_eq_true c8
                    clear c8
                    have H' := Aside0.mk H
                    clear H
                    have p246 : 0 ≤ (x5_1 : Int) := of_decide_eq_true (by first | (with_reducible assumption) | assumption)
                    have q246 : x5_1 < (l0.length : Int) := of_decide_eq_true (by first | (with_reducible assumption) | assumption)
                    obtain ⟨ad246, e246, hx246_0⟩ := Kd.at_int HR0.out x5_1 p246 q246
                    cases e246
                    replace p246 := eq_true p246
                    replace q246 := eq_true q246
                    go_wp2
                    go_meet
                    case rel => exact ⟨_, (decide ((rd l0 x5_1) > 1)), (by first | rfl | (simp; done) | (simp [*]; done) | exact congrArg Value.bool (ne_empty _) | exact congrArg Value.bool (eq_empty _)), H', ⟨by have := HK1.out; have := HJ1.out; first | omega | exact Nat.le_refl _⟩, by repeat (first | exact Drawn0.refl _ | apply Drawn0.step)⟩
                  · rw [if_neg c8] at H
                    exact absurd H (by simp)
                · rw [if_neg c7] at H
                  exact absurd H (by simp)
              · rw [if_neg c6] at H
                have c6b0 : (x5_1 == 9) = false := beq_eq_false_iff_ne.mpr c6
                have c6b1 : (x5_1 != 9) = true := bne_iff_ne.mpr c6
                (first | rw [c6b0] | (simp only [i64_w, i32_w]; rw [c6b0]) | skip)
                have H' := Aside0.mk H
                clear H
                go_wp2
                go_meet
                case rel => exact ⟨_, (false), (by first | rfl | (simp; done) | (simp [*]; done) | exact congrArg Value.bool (ne_empty _) | exact congrArg Value.bool (eq_empty _)), H', ⟨by have := HK1.out; have := HJ1.out; first | omega | exact Nat.le_refl _⟩, by repeat (first | exact Drawn0.refl _ | apply Drawn0.step)⟩
            case rest =>
              clear HC5
              try clear c1
              try clear c2
              try clear p2
              try clear q2
              try clear hx2
              try clear c3
              try clear c3b0
              try clear c4
              try clear c6
              try clear c6b0
              try clear c6b1
              try clear c7
              try clear c7b0
              try clear c8
              try clear c8b0
              try clear hx246_0
              try clear p2
              try clear p246
              try clear q246
              obtain ⟨kq, x24_4, rfl, HA, HJ4, ⟨mc4, rfl⟩⟩ := hcut
              cases kq with
              | zero => exact absurd HA.out (by simp [bollardref1_Unvarint.j2])
              | succ kj4 =>
                have H := HA.out
                clear HA
                simp only [bollardref1_Unvarint.j2] at H
                by_cases c9 : x24_4 = true
                · subst c9
                  have H1 : (some (0, 0)) = some (r1, r2) := by rw [if_pos rfl] at H; exact H
                  clear H
                  have H := H1
                  clear H1
                  simp only [Option.some.injEq, Prod.mk.injEq] at H
                  obtain ⟨rfl, rfl⟩ := H
                  go_wp2
                  go_ret2
                  exact ⟨by first | rfl | (simp; done) | (simp [*]; done) | exact congrArg Value.bool (ne_empty _) | exact congrArg Value.bool (eq_empty _), by repeat (first | exact Drawn0.refl _ | apply Drawn0.step)⟩
                · replace c9 := Bool.eq_false_iff.mpr c9
                  subst c9
                  have H1 : (if 0 ≤ x5_1 then (if x5_1 < (l0.length : Int) then (if 0 ≤ (wrap64 (7 * x5_1)) then (if (rd l0 x5_1) < 128 then (if (rd l0 x5_1) = 0 then (if x5_1 > 0 then (some (0, 0)) else (some (Go.bits .or .u64 x4_1 (shl .u64 (IntKind.u64.wrap (Go.bits .and .u8 (rd l0 x5_1) 127)) (wrap64 (7 * x5_1))), wrap64 (x5_1 + 1)))) else (some (Go.bits .or .u64 x4_1 (shl .u64 (IntKind.u64.wrap (Go.bits .and .u8 (rd l0 x5_1) 127)) (wrap64 (7 * x5_1))), wrap64 (x5_1 + 1)))) else (bollardref1_Unvarint.l0 kj4 l0 (Go.bits .or .u64 x4_1 (shl .u64 (IntKind.u64.wrap (Go.bits .and .u8 (rd l0 x5_1) 127)) (wrap64 (7 * x5_1)))) (wrap64 (x5_1 + 1)))) else (none)) else (none)) else (none)) = some (r1, r2) := by rw [if_neg (show ¬ (false = true) by decide)] at H; exact H
                  clear H
                  have H := H1
                  clear H1
                  by_cases c10 : 0 ≤ x5_1
                  · rw [if_pos c10] at H
                    have c10b0 : decide (0 ≤ x5_1) = true := decide_eq_true c10
                    clear c10
                    by_cases c11 : x5_1 < (l0.length : Int)
                    · rw [if_pos c11] at H
                      have c11b0 : decide (x5_1 < (l0.length : Int)) = true := decide_eq_true c11
                      clear c11
                      obtain ⟨ji12, hji12⟩ : ∃ j_ : Int, (wrap64 (7 * x5_1)) = j_ := ⟨_, rfl⟩
                      replace H : (if 0 ≤ (ji12) then (if (rd l0 x5_1) < 128 then (if (rd l0 x5_1) = 0 then (if x5_1 > 0 then (some (0, 0)) else (some (Go.bits .or .u64 x4_1 (shl .u64 (IntKind.u64.wrap (Go.bits .and .u8 (rd l0 x5_1) 127)) (ji12)), wrap64 (x5_1 + 1)))) else (some (Go.bits .or .u64 x4_1 (shl .u64 (IntKind.u64.wrap (Go.bits .and .u8 (rd l0 x5_1) 127)) (ji12)), wrap64 (x5_1 + 1)))) else (bollardref1_Unvarint.l0 kj4 l0 (Go.bits .or .u64 x4_1 (shl .u64 (IntKind.u64.wrap (Go.bits .and .u8 (rd l0 x5_1) 127)) (ji12))) (wrap64 (x5_1 + 1)))) else (none)) = some (r1, r2) := by first | (rw [hji12] at H; exact H) | (simp only [hji12] at H ⊢; exact H)
                      have hji12w : (IntKind.i64.wrap (7 * x5_1)) = ji12 := (i64_w _).trans hji12
                      by_cases c13 : 0 ≤ (ji12)
                      · rw [if_pos c13] at H
                        have c13b0 := eq_true c13
                        have c13b1 : decide (0 ≤ (ji12)) = true := decide_eq_true c13
                        clear c13
                        obtain ⟨ji14, hji14⟩ : ∃ j_ : Int, (shl .u64 (IntKind.u64.wrap (Go.bits .and .u8 (rd l0 x5_1) 127)) (ji12)) = j_ := ⟨_, rfl⟩
                        replace H : (if (rd l0 x5_1) < 128 then (if (rd l0 x5_1) = 0 then (if x5_1 > 0 then (some (0, 0)) else (some (Go.bits .or .u64 x4_1 (ji14), wrap64 (x5_1 + 1)))) else (some (Go.bits .or .u64 x4_1 (ji14), wrap64 (x5_1 + 1)))) else (bollardref1_Unvarint.l0 kj4 l0 (Go.bits .or .u64 x4_1 (ji14)) (wrap64 (x5_1 + 1)))) = some (r1, r2) := by first | (rw [hji14] at H; exact H) | (simp only [hji14] at H ⊢; exact H)
                        have hji14_ : (IntKind.u64.wrap ((IntKind.u64.wrap (Go.bits .and .u8 (rd l0 x5_1) 127)) * 2 ^ min (ji12).toNat 64)) = ji14 := hji14
                        have hji14z : (ji12) ≤ 64 → (IntKind.u64.wrap ((IntKind.u64.wrap (Go.bits .and .u8 (rd l0 x5_1) 127)) * 2 ^ (ji12).toNat)) = ji14 := shl_small hji14
                        by_cases c15 : (rd l0 x5_1) < 128
                        · rw [if_pos c15] at H
                          have c15b0 : decide ((rd l0 x5_1) < 128) = true := decide_eq_true c15
                          clear c15
                          by_cases c16 : (rd l0 x5_1) = 0
                          · rw [if_pos c16] at H
                            have c16b0 : ((rd l0 x5_1) == 0) = true := beq_iff_eq.mpr c16
                            have c16b1 : ((rd l0 x5_1) != 0) = false := bne_eq_false_iff_eq.mpr c16
                            clear c16
                            by_cases c17 : x5_1 > 0
                            · rw [if_pos c17] at H
                              have c17b0 : decide (0 < x5_1) = true := decide_eq_true c17
                              clear c17
                              simp only [Option.some.injEq, Prod.mk.injEq] at H
                              obtain ⟨rfl, rfl⟩ := H
                              have p247 : 0 ≤ (x5_1 : Int) := of_decide_eq_true (by first | (with_reducible assumption) | assumption)
                              have q247 : x5_1 < (l0.length : Int) := of_decide_eq_true (by first | (with_reducible assumption) | assumption)
                              obtain ⟨ad247, e247, hx247_0⟩ := Kd.at_int HR0.out x5_1 p247 q247
                              cases e247
                              replace p247 := eq_true p247
                              replace q247 := eq_true q247
                              have p248 : 0 ≤ (x5_1 : Int) := of_decide_eq_true (by first | (with_reducible assumption) | assumption)
                              have q248 : x5_1 < (l0.length : Int) := of_decide_eq_true (by first | (with_reducible assumption) | assumption)
                              obtain ⟨ad248, e248, hx248_0⟩ := Kd.at_int HR0.out x5_1 p248 q248
                              obtain rfl : ad247 = ad248 := (by injection e248)
                              replace p248 := eq_true p248
                              replace q248 := eq_true q248
                              have p249 : 0 ≤ (x5_1 : Int) := of_decide_eq_true (by first | (with_reducible assumption) | assumption)
                              have q249 : x5_1 < (l0.length : Int) := of_decide_eq_true (by first | (with_reducible assumption) | assumption)
                              obtain ⟨ad249, e249, hx249_0⟩ := Kd.at_int HR0.out x5_1 p249 q249
                              obtain rfl : ad247 = ad249 := (by injection e249)
                              replace p249 := eq_true p249
                              replace q249 := eq_true q249
                              go_wp2
                              go_ret2
                              exact ⟨by first | rfl | (simp; done) | (simp only [← hji12, ← hji14] <;> (first | rfl | simp)) | (simp [*]; done), by repeat (first | exact Drawn0.refl _ | apply Drawn0.step)⟩
                            · rw [if_neg c17] at H
                              have c17b0 : decide (0 < x5_1) = false := decide_eq_false c17
                              clear c17
                              simp only [Option.some.injEq, Prod.mk.injEq] at H
                              obtain ⟨rfl, rfl⟩ := H
                              have p247 : 0 ≤ (x5_1 : Int) := of_decide_eq_true (by first | (with_reducible assumption) | assumption)
                              have q247 : x5_1 < (l0.length : Int) := of_decide_eq_true (by first | (with_reducible assumption) | assumption)
                              obtain ⟨ad247, e247, hx247_0⟩ := Kd.at_int HR0.out x5_1 p247 q247
                              cases e247
                              replace p247 := eq_true p247
                              replace q247 := eq_true q247
                              have p248 : 0 ≤ (x5_1 : Int) := of_decide_eq_true (by first | (with_reducible assumption) | assumption)
                              have q248 : x5_1 < (l0.length : Int) := of_decide_eq_true (by first | (with_reducible assumption) | assumption)
                              obtain ⟨ad248, e248, hx248_0⟩ := Kd.at_int HR0.out x5_1 p248 q248
                              obtain rfl : ad247 = ad248 := (by injection e248)
                              replace p248 := eq_true p248
                              replace q248 := eq_true q248
                              have p249 : 0 ≤ (x5_1 : Int) := of_decide_eq_true (by first | (with_reducible assumption) | assumption)
                              have q249 : x5_1 < (l0.length : Int) := of_decide_eq_true (by first | (with_reducible assumption) | assumption)
                              obtain ⟨ad249, e249, hx249_0⟩ := Kd.at_int HR0.out x5_1 p249 q249
                              obtain rfl : ad247 = ad249 := (by injection e249)
                              replace p249 := eq_true p249
                              replace q249 := eq_true q249
                              go_wp2
                              go_ret2
                              exact ⟨by first | rfl | (simp; done) | (simp only [← hji12, ← hji14] <;> (first | rfl | simp)) | (simp [*]; done), by repeat (first | exact Drawn0.refl _ | apply Drawn0.step)⟩
                          · rw [if_neg c16] at H
                            have c16b0 : ((rd l0 x5_1) == 0) = false := beq_eq_false_iff_ne.mpr c16
                            have c16b1 : ((rd l0 x5_1) != 0) = true := bne_iff_ne.mpr c16
                            simp only [Option.some.injEq, Prod.mk.injEq] at H
                            obtain ⟨rfl, rfl⟩ := H
                            have p247 : 0 ≤ (x5_1 : Int) := of_decide_eq_true (by first | (with_reducible assumption) | assumption)
                            have q247 : x5_1 < (l0.length : Int) := of_decide_eq_true (by first | (with_reducible assumption) | assumption)
                            obtain ⟨ad247, e247, hx247_0⟩ := Kd.at_int HR0.out x5_1 p247 q247
                            cases e247
                            replace p247 := eq_true p247
                            replace q247 := eq_true q247
                            have p248 : 0 ≤ (x5_1 : Int) := of_decide_eq_true (by first | (with_reducible assumption) | assumption)
                            have q248 : x5_1 < (l0.length : Int) := of_decide_eq_true (by first | (with_reducible assumption) | assumption)
                            obtain ⟨ad248, e248, hx248_0⟩ := Kd.at_int HR0.out x5_1 p248 q248
                            obtain rfl : ad247 = ad248 := (by injection e248)
                            replace p248 := eq_true p248
                            replace q248 := eq_true q248
                            have p249 : 0 ≤ (x5_1 : Int) := of_decide_eq_true (by first | (with_reducible assumption) | assumption)
                            have q249 : x5_1 < (l0.length : Int) := of_decide_eq_true (by first | (with_reducible assumption) | assumption)
                            obtain ⟨ad249, e249, hx249_0⟩ := Kd.at_int HR0.out x5_1 p249 q249
                            obtain rfl : ad247 = ad249 := (by injection e249)
                            replace p249 := eq_true p249
                            replace q249 := eq_true q249
                            go_wp2
                            go_ret2
                            exact ⟨by first | rfl | (simp; done) | (simp only [← hji12, ← hji14] <;> (first | rfl | simp)) | (simp [*]; done), by repeat (first | exact Drawn0.refl _ | apply Drawn0.step)⟩
                        · rw [if_neg c15] at H
                          have c15b0 : decide ((rd l0 x5_1) < 128) = false := decide_eq_false c15
                          clear c15
                          have H' := Aside0.mk H
                          clear H
                          have p247 : 0 ≤ (x5_1 : Int) := of_decide_eq_true (by first | (with_reducible assumption) | assumption)
                          have q247 : x5_1 < (l0.length : Int) := of_decide_eq_true (by first | (with_reducible assumption) | assumption)
                          obtain ⟨ad247, e247, hx247_0⟩ := Kd.at_int HR0.out x5_1 p247 q247
                          cases e247
                          replace p247 := eq_true p247
                          replace q247 := eq_true q247
                          have p248 : 0 ≤ (x5_1 : Int) := of_decide_eq_true (by first | (with_reducible assumption) | assumption)
                          have q248 : x5_1 < (l0.length : Int) := of_decide_eq_true (by first | (with_reducible assumption) | assumption)
                          obtain ⟨ad248, e248, hx248_0⟩ := Kd.at_int HR0.out x5_1 p248 q248
                          obtain rfl : ad247 = ad248 := (by injection e248)
                          replace p248 := eq_true p248
                          replace q248 := eq_true q248
                          go_wp2
                          go_roundg kj4
                          case measure => have := HK1.out; have := HJ1.out; have := HJ4.out; omega
                          case rel => exact ⟨(Go.bits .or .u64 x4_1 (ji14)), (wrap64 (x5_1 + 1)), (by first | rfl | (simp; done) | (simp only [← hji14] <;> (first | rfl | simp)) | (simp [*]; done)), (by first | rfl | (simp; done) | (simp [*]; done) | exact congrArg Value.bool (ne_empty _) | exact congrArg Value.bool (eq_empty _)), H', ⟨by have := HK1.out; have := HJ1.out; have := HJ4.out; omega⟩, by repeat (first | exact Drawn0.refl _ | apply Drawn0.step)⟩
                      · rw [if_neg c13] at H
                        exact absurd H (by simp)
                    · rw [if_neg c11] at H
                      exact absurd H (by simp)
                  · rw [if_neg c10] at H
                    exact absurd H (by simp)
          · replace c4 := Bool.eq_false_iff.mpr c4
            subst c4
            have H1 : (some (0, 0)) = some (r1, r2) := by rw [if_neg (show ¬ (false = true) by decide)] at H; exact H
            clear H
            have H := H1
            clear H1
            simp only [Option.some.injEq, Prod.mk.injEq] at H
            obtain ⟨rfl, rfl⟩ := H
            go_wp2
            go_ret2
            exact ⟨by first | rfl | (simp; done) | (simp [*]; done) | exact congrArg Value.bool (ne_empty _) | exact congrArg Value.bool (eq_empty _), by repeat (first | exact Drawn0.refl _ | apply Drawn0.step)⟩

/-! ### bollardref1_Zag: function 30 -/
def bollardref1_Zag.f (a0 : Int) : Option (Int) := some (Go.bits .xor .i64 (wrap64 (a0 / 2)) (wrap64 (-(wrap64 (Go.bits .and .u64 a0 1)))))
set_option maxHeartbeats 8000000 in
set_option maxRecDepth 100000 in
theorem bollardref1_Zag.calls (a0 : Int) (r : Int) (w : World) (h : bollardref1_Zag.f a0 = some r) :
    Calls Try.prog 30 #[.int .u64 a0] w fun e w' => e = .returned (.int .i64 r) ∧ Drawn0 w w' := by
  have H : (some (Go.bits .xor .i64 (wrap64 (a0 / 2)) (wrap64 (-(wrap64 (Go.bits .and .u64 a0 1)))))) = some r := h
  clear h
  obtain rfl := Option.some.inj H
  go_enter Try.func30, Try.ntmps30
  go_wp2
  go_ret
  exact ⟨by first | rfl | (simp; done) | (simp [*]; done) | exact congrArg Value.bool (ne_empty _) | exact congrArg Value.bool (eq_empty _), by repeat (first | exact Drawn0.refl _ | apply Drawn0.step)⟩

set_option maxHeartbeats 1000000 in
set_option maxRecDepth 100000 in
theorem reftext_no (k : Nat) (A : Option Addr) (c : Nat) (l : List Int) (i v n : Int) (w : World) (hr : Kd.C (Kd.int .u8) w A l.length l) (hc : l.length ≤ c) (hl : l.length ≤ 1000000000000000)
    (h0 : 0 ≤ i) (h1 : i ≤ (l.length : Int)) (hu : bollardref1_Unvarint.f k (l.drop i.toNat) = some (v, n)) (hv : 0 ≤ v) (hv2 : v < 18446744073709551616) (hn : 0 ≤ n) (hin : i + n ≤ (l.length : Int)) (hz : n = 0) :
    Calls Try.prog 31 #[.slice A l.length c, .int .i64 i] w fun e w' => e = .returned (.tuple #[.string ⟨#[]⟩, .int .i64 (-1)]) ∧ Drawn0 w w' := by
  have HU := Aside0.mk hu
  obtain ⟨i0, hi0, _, hsz, _⟩ := info_parts info5
  obtain ⟨A1, hcut, hA, hC⟩ := print_drop_of (P := Try.prog) (Value.int .u8) 0 25 5 .i64 Try.underlying25 hi0 hsz A c l i h0 h1 hc
  have HR := Aside0.mk (Kd.C_of_reads (h1 := fun _ => rfl) (hA _ (Kd.reads_of_C hr)))
  have HC := Aside0.mk hC
  have hcall : Calls Try.prog 29 #[.slice A1 (l.length - i.toNat) (c - i.toNat)] w fun e w' => e = .returned (.tuple #[.int .u64 v, .int .i64 n]) ∧ ∃ q, w' = w.drewN q := by
    have := bollardref1_Unvarint.calls k A1 _ (l.drop i.toNat) v n w HR.out HC.out HU.out
    rw [List.length_drop] at this
    exact this.mono fun _ _ h => ⟨h.1, h.2.out⟩
  have HK := Aside0.mk hcall
  have e0 : (n == 0) = true := by simpa using hz
  clear hA hC hi0 hsz hr hc hu hcall hz
  go_enter Try.func31, Try.ntmps31
  go_wp2_with (go_at_call 29; refine HK.out.mono ?_; rintro e w1 ⟨rfl, ⟨q, rfl⟩⟩)
  go_ret2
  exact ⟨rfl, ⟨⟨_, rfl⟩⟩⟩

set_option maxHeartbeats 1000000 in
set_option maxRecDepth 100000 in
theorem reftext_long (k : Nat) (A : Option Addr) (c : Nat) (l : List Int) (i v n : Int) (w : World) (hr : Kd.C (Kd.int .u8) w A l.length l) (hc : l.length ≤ c) (hl : l.length ≤ 1000000000000000)
    (h0 : 0 ≤ i) (h1 : i ≤ (l.length : Int)) (hu : bollardref1_Unvarint.f k (l.drop i.toNat) = some (v, n)) (hv : 0 ≤ v) (hv2 : v < 18446744073709551616) (hn : 0 ≤ n) (hin : i + n ≤ (l.length : Int)) (hz : n ≠ 0) (hb : 2000 < v) :
    Calls Try.prog 31 #[.slice A l.length c, .int .i64 i] w fun e w' => e = .returned (.tuple #[.string ⟨#[]⟩, .int .i64 (-1)]) ∧ Drawn0 w w' := by
  have HU := Aside0.mk hu
  obtain ⟨i0, hi0, _, hsz, _⟩ := info_parts info5
  obtain ⟨A1, hcut, hA, hC⟩ := print_drop_of (P := Try.prog) (Value.int .u8) 0 25 5 .i64 Try.underlying25 hi0 hsz A c l i h0 h1 hc
  have HR := Aside0.mk (Kd.C_of_reads (h1 := fun _ => rfl) (hA _ (Kd.reads_of_C hr)))
  have HC := Aside0.mk hC
  have hcall : Calls Try.prog 29 #[.slice A1 (l.length - i.toNat) (c - i.toNat)] w fun e w' => e = .returned (.tuple #[.int .u64 v, .int .i64 n]) ∧ ∃ q, w' = w.drewN q := by
    have := bollardref1_Unvarint.calls k A1 _ (l.drop i.toNat) v n w HR.out HC.out HU.out
    rw [List.length_drop] at this
    exact this.mono fun _ _ h => ⟨h.1, h.2.out⟩
  have HK := Aside0.mk hcall
  have e0 : (n == 0) = false := by simpa using hz
  have e1 : decide (2000 < v) = true := decide_eq_true hb
  clear hA hC hi0 hsz hr hc hu hcall hz hb
  go_enter Try.func31, Try.ntmps31
  go_wp2_with (go_at_call 29; refine HK.out.mono ?_; rintro e w1 ⟨rfl, ⟨q, rfl⟩⟩)
  go_ret2
  exact ⟨rfl, ⟨⟨_, rfl⟩⟩⟩

set_option maxHeartbeats 1000000 in
set_option maxRecDepth 100000 in
theorem reftext_cut (k : Nat) (A : Option Addr) (c : Nat) (l : List Int) (i v n : Int) (w : World) (hr : Kd.C (Kd.int .u8) w A l.length l) (hc : l.length ≤ c) (hl : l.length ≤ 1000000000000000)
    (h0 : 0 ≤ i) (h1 : i ≤ (l.length : Int)) (hu : bollardref1_Unvarint.f k (l.drop i.toNat) = some (v, n)) (hv : 0 ≤ v) (hv2 : v < 18446744073709551616) (hn : 0 ≤ n) (hin : i + n ≤ (l.length : Int)) (hz : n ≠ 0) (hb : v ≤ 2000) (hd : (l.length : Int) - i - n < v) :
    Calls Try.prog 31 #[.slice A l.length c, .int .i64 i] w fun e w' => e = .returned (.tuple #[.string ⟨#[]⟩, .int .i64 (-1)]) ∧ Drawn0 w w' := by
  have HU := Aside0.mk hu
  obtain ⟨i0, hi0, _, hsz, _⟩ := info_parts info5
  obtain ⟨A1, hcut, hA, hC⟩ := print_drop_of (P := Try.prog) (Value.int .u8) 0 25 5 .i64 Try.underlying25 hi0 hsz A c l i h0 h1 hc
  have HR := Aside0.mk (Kd.C_of_reads (h1 := fun _ => rfl) (hA _ (Kd.reads_of_C hr)))
  have HC := Aside0.mk hC
  have hcall : Calls Try.prog 29 #[.slice A1 (l.length - i.toNat) (c - i.toNat)] w fun e w' => e = .returned (.tuple #[.int .u64 v, .int .i64 n]) ∧ ∃ q, w' = w.drewN q := by
    have := bollardref1_Unvarint.calls k A1 _ (l.drop i.toNat) v n w HR.out HC.out HU.out
    rw [List.length_drop] at this
    exact this.mono fun _ _ h => ⟨h.1, h.2.out⟩
  have HK := Aside0.mk hcall
  have e0 : (n == 0) = false := by simpa using hz
  have e1 : decide (2000 < v) = false := decide_eq_false (by omega)
  have e2 : decide ((l.length : Int) - i - n < v) = true := decide_eq_true hd
  clear hA hC hi0 hsz hr hc hu hcall hz hd
  go_enter Try.func31, Try.ntmps31
  go_wp2_with (go_at_call 29; refine HK.out.mono ?_; rintro e w1 ⟨rfl, ⟨q, rfl⟩⟩)
  go_ret2
  exact ⟨rfl, ⟨⟨_, rfl⟩⟩⟩

set_option maxHeartbeats 1000000 in
set_option maxRecDepth 100000 in
theorem reftext_good (k : Nat) (A : Option Addr) (c : Nat) (l : List Int) (i v n : Int) (w : World) (hr : Kd.C (Kd.int .u8) w A l.length l) (hc : l.length ≤ c) (hl : l.length ≤ 1000000000000000)
    (h0 : 0 ≤ i) (h1 : i ≤ (l.length : Int)) (hu : bollardref1_Unvarint.f k (l.drop i.toNat) = some (v, n)) (hv : 0 ≤ v) (hv2 : v < 18446744073709551616) (hn : 0 ≤ n) (hin : i + n ≤ (l.length : Int)) (hz : n ≠ 0) (hb : v ≤ 2000) (hd : v ≤ (l.length : Int) - i - n) :
    Calls Try.prog 31 #[.slice A l.length c, .int .i64 i] w fun e w' => e = .returned (.tuple #[.string (strOfNums ((l.take (i + n + v).toNat).drop (i + n).toNat)), .int .i64 (i + n + v)]) ∧ Drawn0 w w' := by
  have HU := Aside0.mk hu
  obtain ⟨i0, hi0, _, hsz, _⟩ := info_parts info5
  obtain ⟨A1, hcut, hA, hC⟩ := print_drop_of (P := Try.prog) (Value.int .u8) 0 25 5 .i64 Try.underlying25 hi0 hsz A c l i h0 h1 hc
  have HR := Aside0.mk (Kd.C_of_reads (h1 := fun _ => rfl) (hA _ (Kd.reads_of_C hr)))
  have HC := Aside0.mk hC
  have hcall : Calls Try.prog 29 #[.slice A1 (l.length - i.toNat) (c - i.toNat)] w fun e w' => e = .returned (.tuple #[.int .u64 v, .int .i64 n]) ∧ ∃ q, w' = w.drewN q := by
    have := bollardref1_Unvarint.calls k A1 _ (l.drop i.toNat) v n w HR.out HC.out HU.out
    rw [List.length_drop] at this
    exact this.mono fun _ _ h => ⟨h.1, h.2.out⟩
  have HK := Aside0.mk hcall
  have e0 : (n == 0) = false := by simpa using hz
  have e1 : decide (2000 < v) = false := decide_eq_false (by omega)
  have e2 : decide ((l.length : Int) - i - n < v) = false := decide_eq_false (by omega)
  obtain ⟨A2, hcut2, hA2, hC2⟩ := print_mid_of (P := Try.prog) (Value.int .u8) 0 25 5 .i64 .i64 Try.underlying25 hi0 hsz A c l (i + n) (i + n + v) (by omega) (by omega) (by omega) hc
  have hlen : ((l.take (i + n + v).toNat).drop (i + n).toNat).length = (i + n + v).toNat - (i + n).toNat := by rw [List.length_drop, List.length_take]; omega
  have hcv : ∀ m, (convert 25 9 (.slice A2 ((i + n + v).toNat - (i + n).toNat) (c - (i + n).toNat))).run Try.prog (w.drewN m) = .ok (.string (strOfNums ((l.take (i + n + v).toNat).drop (i + n).toNat))) (w.drewN m) := fun m => Kd.C_string (P := Try.prog) (A := A2) (c := c - (i + n).toNat) Try.underlying25 Try.underlying5 Try.underlying9 (by rw [← hlen]; exact Kd.C_drewN (Kd.C_of_reads (h1 := fun _ => rfl) (hA2 _ (Kd.reads_of_C hr))) m)
  have b1 : 0 ≤ i + n := by omega
  have b2 : i + n ≤ i + n + v := by omega
  have b3 : i + n + v ≤ (l.length : Int) := by omega
  clear hlen hA2 hC2
  clear hA hC hi0 hsz hr hc hu hcall hz hd
  go_enter Try.func31, Try.ntmps31
  go_wp2_with (go_at_call 29; refine HK.out.mono ?_; rintro e w1 ⟨rfl, ⟨q, rfl⟩⟩)
  go_ret2
  exact ⟨rfl, ⟨⟨_, rfl⟩⟩⟩

/-! ### bollardref12_text -/
def bollardref12_text.f (k : Nat) (l0 : List Int) (a1 : Int) : Option (ByteArray × Int) :=
  if l0.length ≤ 1000000000000000 ∧ 0 ≤ a1 ∧ a1 ≤ (l0.length : Int) then (bollardref1_Unvarint.f k (l0.drop a1.toNat)).bind fun t =>
    if 0 ≤ t.1 ∧ t.1 < 18446744073709551616 ∧ 0 ≤ t.2 ∧ a1 + t.2 ≤ (l0.length : Int) then
      if t.2 = 0 then some (⟨#[]⟩, -1) else if 2000 < t.1 then some (⟨#[]⟩, -1) else if (l0.length : Int) - a1 - t.2 < t.1 then some (⟨#[]⟩, -1)
      else some (strOfNums ((l0.take (a1 + t.2 + t.1).toNat).drop (a1 + t.2).toNat), a1 + t.2 + t.1)
    else none
  else none
theorem bollardref12_text.mono : ∀ a0 a1 k, LeO (bollardref12_text.f k a0 a1) (bollardref12_text.f (k + 1) a0 a1) := by
  intro l i k
  unfold bollardref12_text.f
  exact LeO.ite (LeO.bind (bollardref1_Unvarint.mono _ _) (fun _ => LeO.refl _)) (LeO.refl _)
theorem bollardref12_text.calls (k : Nat) (A0 : Option Addr) (c0 : Nat) (l0 : List Int) (a1 : Int) (r1 : ByteArray) (r2 : Int) (w : World) (hr0 : Kd.C (Kd.int .u8) w A0 l0.length l0) (hc0 : l0.length ≤ c0) (h : bollardref12_text.f k l0 a1 = some (r1, r2)) :
    Calls Try.prog 31 #[.slice A0 l0.length c0, .int .i64 a1] w fun e w' => e = .returned (.tuple #[.string r1, .int .i64 r2]) ∧ Drawn0 w w' := by
  unfold bollardref12_text.f at h
  split at h
  case isFalse => cases h
  rename_i hb
  obtain ⟨⟨v, n⟩, hu, h⟩ := Option.bind_eq_some_iff.mp h
  dsimp only at h
  split at h
  case isFalse => cases h
  rename_i hc
  by_cases h1 : n = 0
  · rw [if_pos h1] at h
    obtain ⟨rfl, rfl⟩ := Prod.mk.inj (Option.some.inj h)
    exact reftext_no k A0 c0 l0 a1 v n w hr0 hc0 hb.1 hb.2.1 hb.2.2 hu hc.1 hc.2.1 hc.2.2.1 hc.2.2.2 h1
  rw [if_neg h1] at h
  by_cases h2 : 2000 < v
  · rw [if_pos h2] at h
    obtain ⟨rfl, rfl⟩ := Prod.mk.inj (Option.some.inj h)
    exact reftext_long k A0 c0 l0 a1 v n w hr0 hc0 hb.1 hb.2.1 hb.2.2 hu hc.1 hc.2.1 hc.2.2.1 hc.2.2.2 h1 h2
  rw [if_neg h2] at h
  by_cases h3 : (l0.length : Int) - a1 - n < v
  · rw [if_pos h3] at h
    obtain ⟨rfl, rfl⟩ := Prod.mk.inj (Option.some.inj h)
    exact reftext_cut k A0 c0 l0 a1 v n w hr0 hc0 hb.1 hb.2.1 hb.2.2 hu hc.1 hc.2.1 hc.2.2.1 hc.2.2.2 h1 (by omega) h3
  rw [if_neg h3] at h
  obtain ⟨rfl, rfl⟩ := Prod.mk.inj (Option.some.inj h)
  exact reftext_good k A0 c0 l0 a1 v n w hr0 hc0 hb.1 hb.2.1 hb.2.2 hu hc.1 hc.2.1 hc.2.2.1 hc.2.2.2 h1 (by omega) (by omega)

end Go.Proofs.Ytcmkmjmhjjohkaa.PRec
