-- written by a program of this session (wip/tools/pr.py, over the kit's printer): not by hand
import Derived.Test.YtgmeellapjimgaaQPBmx1
namespace Go.Proofs.Ytgmeellapjimgaa.PBm
open Go.RowKit Go.Proofs.YtgmeellapjimgaaW.PrintWords Go.Proofs.YtgmeellapjimgaaW.PrintLast Go.Proofs.YtgmeellapjimgaaW.PrintMore
attribute [local go_sem] max2_int min2_int max_two min_two max_three min_three max_four min_four   -- for this text's walks alone
set_option linter.unusedVariables false
set_option linter.unusedSimpArgs false

/-! ### bits_Unvarint: function 68 -/
mutual
def bits_Unvarint.l0 : Nat → Int → List Int → Int → Int → Option (Int × Int)
  | 0, _, _, _, _ => none
  | k + 1, x2, x6, x7, x8 => if x8 < x7 then (if 0 ≤ x8 then (if x8 < (x6.length : Int) then (if x8 = 10 then (bits_Unvarint.j1 k x2 x8 (rd x6 x8) x6 x7 x8 true) else (if x8 = 9 then (if (rd x6 x8) > 1 then (bits_Unvarint.j1 k x2 x8 (rd x6 x8) x6 x7 x8 true) else (if x8 > 0 then (bits_Unvarint.j1 k x2 x8 (rd x6 x8) x6 x7 x8 ((rd x6 x8) == 0)) else (bits_Unvarint.j1 k x2 x8 (rd x6 x8) x6 x7 x8 false))) else (if x8 > 0 then (bits_Unvarint.j1 k x2 x8 (rd x6 x8) x6 x7 x8 ((rd x6 x8) == 0)) else (bits_Unvarint.j1 k x2 x8 (rd x6 x8) x6 x7 x8 false)))) else (none)) else (none)) else (some (0, 0))
def bits_Unvarint.j1 : Nat → Int → Int → Int → List Int → Int → Int → Bool → Option (Int × Int)
  | 0, _, _, _, _, _, _, _ => none
  | k + 1, x2, x4, x5, x6, x7, x8, x30 => if x30 = true then (some (0, 0)) else (if 0 ≤ (wrap64 (7 * x4)) then (if x5 < 128 then (some (Go.bits .or .u64 x2 (shl .u64 (IntKind.u64.wrap (Go.bits .and .u8 x5 127)) (wrap64 (7 * x4))), wrap64 (x4 + 1))) else (bits_Unvarint.l0 k (Go.bits .or .u64 x2 (shl .u64 (IntKind.u64.wrap (Go.bits .and .u8 x5 127)) (wrap64 (7 * x4)))) x6 x7 (wrap64 (x8 + 1)))) else (none))
end
def bits_Unvarint.f (k : Nat) (l0 : List Int) : Option (Int × Int) := bits_Unvarint.l0 k 0 l0 (l0.length : Int) 0
set_option maxRecDepth 100000 in
theorem bits_Unvarint.mono_l : ∀ k, (∀ y0 y1 y2 y3, LeO (bits_Unvarint.l0 k y0 y1 y2 y3) (bits_Unvarint.l0 (k + 1) y0 y1 y2 y3)) ∧ (∀ y0 y1 y2 y3 y4 y5 y6, LeO (bits_Unvarint.j1 k y0 y1 y2 y3 y4 y5 y6) (bits_Unvarint.j1 (k + 1) y0 y1 y2 y3 y4 y5 y6))
  | 0 => ⟨fun _ _ _ _ r h => by first | exact nomatch (show (none : Option _) = some r from h) | (rw [bits_Unvarint.l0] at h; cases h; done) | (simp [bits_Unvarint.l0] at h; done), fun _ _ _ _ _ _ _ r h => by first | exact nomatch (show (none : Option _) = some r from h) | (rw [bits_Unvarint.j1] at h; cases h; done) | (simp [bits_Unvarint.j1] at h; done)⟩
  | k + 1 => by
    obtain ⟨ih0, ih1⟩ := bits_Unvarint.mono_l k
    refine ⟨?_, ?_⟩
    · intro y0 y1 y2 y3
      unfold bits_Unvarint.l0
      repeat' first
      | (with_reducible exact ih0 _ _ _ _)
      | (with_reducible exact ih1 _ _ _ _ _ _ _)
      | (with_reducible exact LeO.refl _)
      | (with_reducible exact LeO.none _)
      | (with_reducible refine LeO.ite ?_ ?_)
      | (with_reducible refine LeO.bind ?_ (fun _ => ?_))
      | exact ih0 _ _ _ _
      | exact ih1 _ _ _ _ _ _ _
      | exact LeO.none _
      | refine LeO.ite ?_ ?_
      | refine LeO.bind ?_ (fun _ => ?_)
    · intro y0 y1 y2 y3 y4 y5 y6
      unfold bits_Unvarint.j1
      repeat' first
      | (with_reducible exact ih0 _ _ _ _)
      | (with_reducible exact ih1 _ _ _ _ _ _ _)
      | (with_reducible exact LeO.refl _)
      | (with_reducible exact LeO.none _)
      | (with_reducible refine LeO.ite ?_ ?_)
      | (with_reducible refine LeO.bind ?_ (fun _ => ?_))
      | exact ih0 _ _ _ _
      | exact ih1 _ _ _ _ _ _ _
      | exact LeO.none _
      | refine LeO.ite ?_ ?_
      | refine LeO.bind ?_ (fun _ => ?_)
theorem bits_Unvarint.mono : ∀ a0 k, LeO (bits_Unvarint.f k a0) (bits_Unvarint.f (k + 1) a0) := by
  intro a0 k
  obtain ⟨ih0, ih1⟩ := bits_Unvarint.mono_l k
  unfold bits_Unvarint.f
  repeat' first
      | (with_reducible exact ih0 _ _ _ _)
      | (with_reducible exact ih1 _ _ _ _ _ _ _)
      | (with_reducible exact LeO.refl _)
      | (with_reducible exact LeO.none _)
      | (with_reducible refine LeO.ite ?_ ?_)
      | (with_reducible refine LeO.bind ?_ (fun _ => ?_))
      | exact ih0 _ _ _ _
      | exact ih1 _ _ _ _ _ _ _
      | exact LeO.none _
      | refine LeO.ite ?_ ?_
      | refine LeO.bind ?_ (fun _ => ?_)
set_option maxHeartbeats 8000000 in
set_option maxRecDepth 100000 in
theorem bits_Unvarint.calls (k : Nat) (A0 : Option Addr) (c0 : Nat) (l0 : List Int) (r1 : Int) (r2 : Int) (w : World) (hr0 : Kd.C (Kd.int .u8) w A0 l0.length l0) (hc0 : l0.length ≤ c0) (h : bits_Unvarint.f k l0 = some (r1, r2)) :
    Calls Try.prog 68 #[.slice A0 l0.length c0] w fun e w' => e = .returned (.tuple #[.int .u64 r1, .int .i64 r2]) ∧ Drawn0 w w' := by
  have HR0 := Aside0.mk hr0
  have HC0 := Aside0.mk hc0
  clear hr0 hc0
  have H : (bits_Unvarint.l0 k 0 l0 (l0.length : Int) 0) = some (r1, r2) := h
  clear h
  have H' := Aside0.mk H
  clear H
  go_enter Try.func68, Try.ntmps68
  go_wp2
  go_loopg [2, 8] k (fun kq v2 v8 w' => ∃ (x2_1 : Int) (x8_1 : Int), v2 = .int .u64 x2_1 ∧ v8 = .int .i64 x8_1 ∧ Aside0 (bits_Unvarint.l0 kq x2_1 l0 (l0.length : Int) x8_1 = some (r1, r2)) ∧ Aside0 (kq ≤ k) ∧ Drawn0 w w')
  case atStart => exact ⟨(0), (0), (by first | rfl | (simp; done) | (simp [*]; done) | exact congrArg Value.bool (ne_empty _) | exact congrArg Value.bool (eq_empty _)), (by first | rfl | (simp; done) | (simp [*]; done) | exact congrArg Value.bool (ne_empty _) | exact congrArg Value.bool (eq_empty _)), H', ⟨Nat.le_refl _⟩, by repeat (first | exact Drawn0.refl _ | apply Drawn0.step)⟩
  case round =>
    clear H'
    obtain ⟨x2_1, x8_1, rfl, rfl, HA, HK1, ⟨m1, rfl⟩⟩ := hrel
    cases gk with
    | zero => exact absurd HA.out (by first | (intro h_; exact nomatch (show (none : Option _) = some r from h_)) | simp [bits_Unvarint.l0])
    | succ k1 =>
      have H := HA.out
      clear HA
      simp only [bits_Unvarint.l0] at H
      by_cases c2 : x8_1 < (l0.length : Int)
      · rw [if_pos c2] at H
        have c2b0 : decide (x8_1 < (l0.length : Int)) = true := decide_eq_true c2
        clear c2
        by_cases c3 : 0 ≤ x8_1
        · rw [if_pos c3] at H
          have c3b0 : decide (0 ≤ x8_1) = true := decide_eq_true c3
          clear c3
          by_cases c4 : x8_1 < (l0.length : Int)
          · rw [if_pos c4] at H
            have c4b0 : decide (x8_1 < (l0.length : Int)) = true := decide_eq_true c4
            clear c4
            have HC5 := Aside0.mk H
            clear H
            have p214 : 0 ≤ (x8_1 : Int) := of_decide_eq_true (by first | (with_reducible assumption) | assumption)
            have q214 : x8_1 < (l0.length : Int) := of_decide_eq_true (by first | (with_reducible assumption) | assumption)
            obtain ⟨ad214, e214, hx214_0⟩ := Kd.at_int HR0.out x8_1 p214 q214
            cases e214
            replace p214 := eq_true p214
            replace q214 := eq_true q214
            go_upto_region 4 with (fail)
            go_cut [30] (fun v30 wc => ∃ (kq : Nat) (x30_4 : Bool), v30 = .bool x30_4 ∧ Aside0 (bits_Unvarint.j1 kq x2_1 x8_1 (rd l0 x8_1) l0 (l0.length : Int) x8_1 x30_4 = some (r1, r2)) ∧ Aside0 (kq ≤ k1) ∧ Drawn0 w wc)
            case first =>
              have H := HC5.out
              clear HC5
              by_cases c6 : x8_1 = 10
              · rw [if_pos c6] at H
                have c6b0 : (x8_1 == 10) = true := beq_iff_eq.mpr c6
                have c6b1 : (x8_1 != 10) = false := bne_eq_false_iff_eq.mpr c6
                clear c6
                (first | rw [c6b0] | (simp only [i64_w, i32_w]; rw [c6b0]) | skip)
                have H' := Aside0.mk H
                clear H
                go_wp2
                go_meet
                case rel => exact ⟨_, (true), (by first | rfl | (simp; done) | (simp [*]; done) | exact congrArg Value.bool (ne_empty _) | exact congrArg Value.bool (eq_empty _)), H', ⟨by have := HK1.out; first | omega | exact Nat.le_refl _⟩, by repeat (first | exact Drawn0.refl _ | apply Drawn0.step)⟩
              · rw [if_neg c6] at H
                have c6b0 : (x8_1 == 10) = false := beq_eq_false_iff_ne.mpr c6
                have c6b1 : (x8_1 != 10) = true := bne_iff_ne.mpr c6
                (first | rw [c6b0] | (simp only [i64_w, i32_w]; rw [c6b0]) | skip)
                by_cases c7 : x8_1 = 9
                · rw [if_pos c7] at H
                  have c7b0 : (x8_1 == 9) = true := beq_iff_eq.mpr c7
                  have c7b1 : (x8_1 != 9) = false := bne_eq_false_iff_eq.mpr c7
                  clear c7
                  by_cases c8 : (rd l0 x8_1) > 1
                  · rw [if_pos c8] at H
                    have c8b0 : decide (1 < (rd l0 x8_1)) = true := decide_eq_true c8
                    clear c8
                    have H' := Aside0.mk H
                    clear H
                    go_wp2
                    go_meet
                    case rel => exact ⟨_, (true), (by first | rfl | (simp; done) | (simp [*]; done) | exact congrArg Value.bool (ne_empty _) | exact congrArg Value.bool (eq_empty _)), H', ⟨by have := HK1.out; first | omega | exact Nat.le_refl _⟩, by repeat (first | exact Drawn0.refl _ | apply Drawn0.step)⟩
                  · rw [if_neg c8] at H
                    have c8b0 : decide (1 < (rd l0 x8_1)) = false := decide_eq_false c8
                    clear c8
                    by_cases c9 : x8_1 > 0
                    · rw [if_pos c9] at H
                      have c9b0 : decide (0 < x8_1) = true := decide_eq_true c9
                      clear c9
                      have H' := Aside0.mk H
                      clear H
                      go_wp2
                      go_meet
                      case rel => exact ⟨_, (((rd l0 x8_1) == 0)), (by first | rfl | (simp; done) | (simp [*]; done) | exact congrArg Value.bool (ne_empty _) | exact congrArg Value.bool (eq_empty _)), H', ⟨by have := HK1.out; first | omega | exact Nat.le_refl _⟩, by repeat (first | exact Drawn0.refl _ | apply Drawn0.step)⟩
                    · rw [if_neg c9] at H
                      have c9b0 : decide (0 < x8_1) = false := decide_eq_false c9
                      clear c9
                      have H' := Aside0.mk H
                      clear H
                      go_wp2
                      go_meet
                      case rel => exact ⟨_, (false), (by first | rfl | (simp; done) | (simp [*]; done) | exact congrArg Value.bool (ne_empty _) | exact congrArg Value.bool (eq_empty _)), H', ⟨by have := HK1.out; first | omega | exact Nat.le_refl _⟩, by repeat (first | exact Drawn0.refl _ | apply Drawn0.step)⟩
                · rw [if_neg c7] at H
                  have c7b0 : (x8_1 == 9) = false := beq_eq_false_iff_ne.mpr c7
                  have c7b1 : (x8_1 != 9) = true := bne_iff_ne.mpr c7
                  by_cases c10 : x8_1 > 0
                  · rw [if_pos c10] at H
                    have c10b0 : decide (0 < x8_1) = true := decide_eq_true c10
                    clear c10
                    have H' := Aside0.mk H
                    clear H
                    go_wp2
                    go_meet
                    case rel => exact ⟨_, (((rd l0 x8_1) == 0)), (by first | rfl | (simp; done) | (simp [*]; done) | exact congrArg Value.bool (ne_empty _) | exact congrArg Value.bool (eq_empty _)), H', ⟨by have := HK1.out; first | omega | exact Nat.le_refl _⟩, by repeat (first | exact Drawn0.refl _ | apply Drawn0.step)⟩
                  · rw [if_neg c10] at H
                    have c10b0 : decide (0 < x8_1) = false := decide_eq_false c10
                    clear c10
                    have H' := Aside0.mk H
                    clear H
                    go_wp2
                    go_meet
                    case rel => exact ⟨_, (false), (by first | rfl | (simp; done) | (simp [*]; done) | exact congrArg Value.bool (ne_empty _) | exact congrArg Value.bool (eq_empty _)), H', ⟨by have := HK1.out; first | omega | exact Nat.le_refl _⟩, by repeat (first | exact Drawn0.refl _ | apply Drawn0.step)⟩
            case rest =>
              clear HC5
              try clear c1
              try clear c2
              try clear c2b0
              try clear p2
              try clear q2
              try clear hx2
              try clear c3
              try clear c3b0
              try clear c4
              try clear c4b0
              try clear c6
              try clear c6b0
              try clear c6b1
              try clear c7
              try clear c7b0
              try clear c7b1
              try clear c8
              try clear c8b0
              try clear c9
              try clear c9b0
              try clear c10
              try clear c10b0
              try clear hx214_0
              try clear p214
              try clear q214
              obtain ⟨kq, x30_4, rfl, HA, HJ4, ⟨mc4, rfl⟩⟩ := hcut
              cases kq with
              | zero => exact absurd HA.out (by first | (intro h_; exact nomatch (show (none : Option _) = some r from h_)) | simp [bits_Unvarint.j1])
              | succ kj4 =>
                have H := HA.out
                clear HA
                simp only [bits_Unvarint.j1] at H
                by_cases c11 : x30_4 = true
                · subst c11
                  have H1 : (some (0, 0)) = some (r1, r2) := by rw [if_pos rfl] at H; exact H
                  clear H
                  have H := H1
                  clear H1
                  simp only [Option.some.injEq, Prod.mk.injEq] at H
                  obtain ⟨rfl, rfl⟩ := H
                  go_wp2
                  go_ret2
                  exact ⟨by first | rfl | (simp; done) | (simp [*]; done) | exact congrArg Value.bool (ne_empty _) | exact congrArg Value.bool (eq_empty _), by repeat (first | exact Drawn0.refl _ | apply Drawn0.step)⟩
                · replace c11 := Bool.eq_false_iff.mpr c11
                  subst c11
                  have H1 : (if 0 ≤ (wrap64 (7 * x8_1)) then (if (rd l0 x8_1) < 128 then (some (Go.bits .or .u64 x2_1 (shl .u64 (IntKind.u64.wrap (Go.bits .and .u8 (rd l0 x8_1) 127)) (wrap64 (7 * x8_1))), wrap64 (x8_1 + 1))) else (bits_Unvarint.l0 kj4 (Go.bits .or .u64 x2_1 (shl .u64 (IntKind.u64.wrap (Go.bits .and .u8 (rd l0 x8_1) 127)) (wrap64 (7 * x8_1)))) l0 (l0.length : Int) (wrap64 (x8_1 + 1)))) else (none)) = some (r1, r2) := by rw [if_neg (show ¬ (false = true) by decide)] at H; exact H
                  clear H
                  have H := H1
                  clear H1
                  obtain ⟨ji12, hji12⟩ : ∃ j_ : Int, (wrap64 (7 * x8_1)) = j_ := ⟨_, rfl⟩
                  replace H : (if 0 ≤ (ji12) then (if (rd l0 x8_1) < 128 then (some (Go.bits .or .u64 x2_1 (shl .u64 (IntKind.u64.wrap (Go.bits .and .u8 (rd l0 x8_1) 127)) (ji12)), wrap64 (x8_1 + 1))) else (bits_Unvarint.l0 kj4 (Go.bits .or .u64 x2_1 (shl .u64 (IntKind.u64.wrap (Go.bits .and .u8 (rd l0 x8_1) 127)) (ji12))) l0 (l0.length : Int) (wrap64 (x8_1 + 1)))) else (none)) = some (r1, r2) := by first | (rw [hji12] at H; exact H) | (simp only [hji12] at H ⊢; exact H)
                  have hji12w : (IntKind.i64.wrap (7 * x8_1)) = ji12 := (i64_w _).trans hji12
                  by_cases c13 : 0 ≤ (ji12)
                  · rw [if_pos c13] at H
                    have c13b0 := eq_true c13
                    have c13b1 : decide (0 ≤ (ji12)) = true := decide_eq_true c13
                    clear c13
                    obtain ⟨ji14, hji14⟩ : ∃ j_ : Int, (shl .u64 (IntKind.u64.wrap (Go.bits .and .u8 (rd l0 x8_1) 127)) (ji12)) = j_ := ⟨_, rfl⟩
                    replace H : (if (rd l0 x8_1) < 128 then (some (Go.bits .or .u64 x2_1 (ji14), wrap64 (x8_1 + 1))) else (bits_Unvarint.l0 kj4 (Go.bits .or .u64 x2_1 (ji14)) l0 (l0.length : Int) (wrap64 (x8_1 + 1)))) = some (r1, r2) := by first | (rw [hji14] at H; exact H) | (simp only [hji14] at H ⊢; exact H)
                    have hji14_ : (IntKind.u64.wrap ((IntKind.u64.wrap (Go.bits .and .u8 (rd l0 x8_1) 127)) * 2 ^ min (ji12).toNat 64)) = ji14 := hji14
                    have hji14z : (ji12) ≤ 64 → (IntKind.u64.wrap ((IntKind.u64.wrap (Go.bits .and .u8 (rd l0 x8_1) 127)) * 2 ^ (ji12).toNat)) = ji14 := shl_small hji14
                    by_cases c15 : (rd l0 x8_1) < 128
                    · rw [if_pos c15] at H
                      have c15b0 : decide ((rd l0 x8_1) < 128) = true := decide_eq_true c15
                      clear c15
                      simp only [Option.some.injEq, Prod.mk.injEq] at H
                      obtain ⟨rfl, rfl⟩ := H
                      go_wp2
                      go_ret2
                      exact ⟨by first | rfl | (simp; done) | (simp only [← hji12, ← hji14] <;> (first | rfl | simp)) | (simp [*]; done), by repeat (first | exact Drawn0.refl _ | apply Drawn0.step)⟩
                    · rw [if_neg c15] at H
                      have c15b0 : decide ((rd l0 x8_1) < 128) = false := decide_eq_false c15
                      clear c15
                      have H' := Aside0.mk H
                      clear H
                      go_wp2
                      go_roundg kj4
                      case measure => have := HK1.out; have := HJ4.out; omega
                      case rel => exact ⟨(Go.bits .or .u64 x2_1 (ji14)), (wrap64 (x8_1 + 1)), (by first | rfl | (simp; done) | (simp only [← hji14] <;> (first | rfl | simp)) | (simp [*]; done)), (by first | rfl | (simp; done) | (simp [*]; done) | exact congrArg Value.bool (ne_empty _) | exact congrArg Value.bool (eq_empty _)), H', ⟨by have := HK1.out; have := HJ4.out; omega⟩, by repeat (first | exact Drawn0.refl _ | apply Drawn0.step)⟩
                  · rw [if_neg c13] at H
                    exact absurd H (by simp)
          · rw [if_neg c4] at H
            exact absurd H (by simp)
        · rw [if_neg c3] at H
          exact absurd H (by simp)
      · rw [if_neg c2] at H
        have c2b0 : decide (x8_1 < (l0.length : Int)) = false := decide_eq_false c2
        clear c2
        simp only [Option.some.injEq, Prod.mk.injEq] at H
        obtain ⟨rfl, rfl⟩ := H
        go_wp2
        go_ret2
        exact ⟨by first | rfl | (simp; done) | (simp [*]; done) | exact congrArg Value.bool (ne_empty _) | exact congrArg Value.bool (eq_empty _), by repeat (first | exact Drawn0.refl _ | apply Drawn0.step)⟩

/-- One block alone may have turned. -/
structure Turned (g : Nat) (w w' : World) : Prop where
  os : w'.os = w.os
  tape : w'.tape = w.tape
  output : w'.output = w.output
  size : w'.heap.size = w.heap.size
  block : ∀ k, k ≠ g → w'.heap[k]? = w.heap[k]?
theorem Turned.refl (g : Nat) (w : World) : Turned g w w := ⟨rfl, rfl, rfl, rfl, fun _ _ => rfl⟩
theorem Turned.trans {g : Nat} {a b c : World} (h : Turned g a b) (k : Turned g b c) : Turned g a c := ⟨k.os.trans h.os, k.tape.trans h.tape, k.output.trans h.output, k.size.trans h.size, fun i hi => (k.block i hi).trans (h.block i hi)⟩
theorem Turned.drewN {g : Nat} {a b : World} (h : Turned g a b) (n : Nat) : Turned g a (b.drewN n) := ⟨h.os, h.tape, h.output, h.size, h.block⟩
theorem Turned.set {g : Nat} {a b : World} (h : Turned g a b) (j : Nat) (u : Value) : Turned g a (b.setCell ⟨g, j, none⟩ u) := by
  have hb := (Below.refl g b).setCell (p := ⟨g, j, none⟩) (Nat.le_refl _) u
  refine h.trans ⟨hb.os, hb.tape, hb.output, ?_, fun k hk => Below.heap_setCell b ⟨g, j, none⟩ u k hk⟩
  simp
theorem Turned.below {g B : Nat} {w0 w w' : World} (h : Turned g w w') (hb : Below B w0 w) (hg : B ≤ g) : Below B w0 w' :=
  ⟨h.os.trans hb.os, h.tape.trans hb.tape, h.output.trans hb.output, by rw [h.size]; exact hb.size, fun k hk => (h.block k (by omega)).trans (hb.block k hk)⟩

/-- A reader at block g: what it reads, the place, whether it is over. -/
def IsRd (w : World) (g : Nat) (A : Option Addr) (n c : Nat) (at_ : Int) (bad : Bool) : Prop := w.heap[g]? = some (.cells #[.slice A n c, .int .i64 at_, .bool bad] 92 (0, 0))
theorem IsRd.c0 {w : World} {g : Nat} {A : Option Addr} {n c : Nat} {at_ : Int} {bad : Bool} (h : IsRd w g A n c at_ bad) : w.cell? ⟨g, 0, none⟩ = some (.slice A n c) := (blk_cell h 0).trans rfl
theorem IsRd.c1 {w : World} {g : Nat} {A : Option Addr} {n c : Nat} {at_ : Int} {bad : Bool} (h : IsRd w g A n c at_ bad) : w.cell? ⟨g, 1, none⟩ = some (.int .i64 at_) := (blk_cell h 1).trans rfl
theorem IsRd.c2 {w : World} {g : Nat} {A : Option Addr} {n c : Nat} {at_ : Int} {bad : Bool} (h : IsRd w g A n c at_ bad) : w.cell? ⟨g, 2, none⟩ = some (.bool bad) := (blk_cell h 2).trans rfl
theorem IsRd.set1 {w : World} {g : Nat} {A : Option Addr} {n c : Nat} {at_ : Int} {bad : Bool} (h : IsRd w g A n c at_ bad) (x : Int) : IsRd (w.setCell ⟨g, 1, none⟩ (.int .i64 x)) g A n c x bad := by
  have := blk_set h 1 (.int .i64 x)
  simpa [IsRd] using this
theorem IsRd.set2 {w : World} {g : Nat} {A : Option Addr} {n c : Nat} {at_ : Int} {bad : Bool} (h : IsRd w g A n c at_ bad) (x : Bool) : IsRd (w.setCell ⟨g, 2, none⟩ (.bool x)) g A n c at_ x := by
  have := blk_set h 2 (.bool x)
  simpa [IsRd] using this
theorem IsRd.drewN {w : World} {g : Nat} {A : Option Addr} {n c : Nat} {at_ : Int} {bad : Bool} (h : IsRd w g A n c at_ bad) (m : Nat) : IsRd (w.drewN m) g A n c at_ bad := h

set_option maxHeartbeats 1000000 in
set_option maxRecDepth 100000 in
theorem varint_calls (k : Nat) (g : Nat) (A : Option Addr) (c : Nat) (l : List Int) (at_ : Int) (bad : Bool) (v n : Int) (w : World) (hb : IsRd w g A l.length c at_ bad) (hr : Kd.C (Kd.int .u8) w A l.length l) (hc : l.length ≤ c)
    (h0 : 0 ≤ at_) (h1 : at_ ≤ (l.length : Int)) (hu : bits_Unvarint.f k (l.drop at_.toNat) = some (v, n)) :
    Calls Try.prog 51 #[.pointer (some ⟨g, 0, none⟩)] w fun e w' => e = .returned (.int .u64 v) ∧ IsRd w' g A l.length c (wrap64 (at_ + n)) (bad || decide (n = 0)) ∧ Turned g w w' := by
  have HB := Aside0.mk hb
  have HU := Aside0.mk hu
  obtain ⟨i0, hi0, _, hsz, _⟩ := info_parts info5
  obtain ⟨A1, hcut, hA, hC⟩ := print_drop_of (P := Try.prog) (Value.int .u8) 0 27 5 .i64 Try.underlying27 hi0 hsz A c l at_ h0 h1 hc
  have HR := Aside0.mk (Kd.C_of_reads (h1 := fun _ => rfl) (hA _ (Kd.reads_of_C hr)))
  have HC := Aside0.mk hC
  have q0 := hb.c0
  have q1 := hb.c1
  have q2 := hb.c2
  have f1 : w.frozen? ⟨g, 1, none⟩ = false := blk_frozen hb 1
  have f2 : w.frozen? ⟨g, 2, none⟩ = false := blk_frozen hb 2
  have HT := Aside0.mk (Turned.refl g w)
  have hcall : ∀ m, Calls Try.prog 68 #[.slice A1 (l.length - at_.toNat) (c - at_.toNat)] (w.drewN m) fun e w' => e = .returned (.tuple #[.int .u64 v, .int .i64 n]) ∧ ∃ q, w' = (w.drewN m).drewN q := by
    intro m
    have := bits_Unvarint.calls k A1 _ (l.drop at_.toNat) v n (w.drewN m) (Kd.C_drewN HR.out _) HC.out HU.out
    rw [List.length_drop] at this
    exact this.mono fun _ _ h => ⟨h.1, h.2.out⟩
  have HK := Aside0.mk hcall
  clear hA hC hi0 hsz hb hr hc h0 h1 hu hcall
  by_cases hn : n = 0
  · have e0 : (n == 0) = true := by simpa using hn
    have EN := Aside0.mk hn
    clear hn
    go_enter Try.func51, Try.ntmps51
    go_wp2
    go_quiet ((go_at_call 68; exact Calls.quiet_of (HK.out _)))
    go_wp2
    go_ret
    refine ⟨rfl, ?_, ?_⟩
    · have := ((HB.out.drewN nq).set2 true).set1 (wrap64 (at_ + n))
      rw [EN.out, decide_eq_true rfl, Bool.or_true]
      rw [EN.out] at this
      exact this
    · exact ((HT.out.drewN nq).set 2 _).set 1 _
  · have e0 : (n == 0) = false := by simpa using hn
    have EN := Aside0.mk hn
    clear hn
    go_enter Try.func51, Try.ntmps51
    go_wp2
    go_quiet ((go_at_call 68; exact Calls.quiet_of (HK.out _)))
    go_wp2
    go_ret
    refine ⟨rfl, ?_, (HT.out.drewN nq).set 1 _⟩
    rw [decide_eq_false EN.out, Bool.or_false]
    exact (HB.out.drewN nq).set1 _
set_option maxHeartbeats 1000000 in
set_option maxRecDepth 100000 in
theorem text_none (g : Nat) (A : Option Addr) (n c : Nat) (at_ : Int) (is bad : Bool) (w : World) (hb : IsRd w g A n c at_ bad) (h : (!is || bad) = true) :
    Calls Try.prog 53 #[.pointer (some ⟨g, 0, none⟩), .bool is] w fun e w' => e = .returned (.string ⟨#[]⟩) ∧ w = w' := by
  have q2 := hb.c2
  cases is
  · go_enter Try.func53, Try.ntmps53
    go_wp2
    go_ret
    exact ⟨rfl, rfl⟩
  · have hbad : bad = true := by simpa using h
    subst hbad
    go_enter Try.func53, Try.ntmps53
    go_wp2
    go_ret
    exact ⟨rfl, rfl⟩

set_option maxHeartbeats 1000000 in
set_option maxRecDepth 100000 in
theorem text_bad (k : Nat) (g : Nat) (A : Option Addr) (c : Nat) (l : List Int) (at_ : Int) (v : Int) (w : World) (hb : IsRd w g A l.length c at_ false) (hr : ∀ W, Turned g w W → Kd.C (Kd.int .u8) W A l.length l) (hc : l.length ≤ c)
    (h0 : 0 ≤ at_) (h1 : at_ ≤ (l.length : Int)) (hl : l.length ≤ 1000000000000000) (hu : bits_Unvarint.f k (l.drop at_.toNat) = some (v, 0)) :
    Calls Try.prog 53 #[.pointer (some ⟨g, 0, none⟩), .bool true] w fun e w' => e = .returned (.string ⟨#[]⟩) ∧ IsRd w' g A l.length c at_ true ∧ Turned g w w' := by
  have q2 := hb.c2
  have hv := varint_calls k g A c l at_ false v 0 w hb (hr w (Turned.refl g w)) hc h0 h1 hu
  rw [show wrap64 (at_ + 0) = at_ from by unfold wrap64; omega] at hv
  have HV := Aside0.mk hv
  clear hv hb hr hu hc
  go_enter Try.func53, Try.ntmps53
  go_wp2_with (go_at_call 51; refine HV.out.mono ?_; rintro e w1 ⟨rfl, hb1, ht1⟩; have HB1 := Aside0.mk hb1; have HT1 := Aside0.mk ht1; have r2 := hb1.c2; have s2 : w1.frozen? ⟨g, 2, none⟩ = false := blk_frozen hb1 2; clear hb1 ht1)
  go_quiet (fail)
  have HB1 := Aside0.mk (HB1.out.drewN nq)
  have HT1 := Aside0.mk (HT1.out.drewN nq)
  go_wp2
  go_ret
  exact ⟨rfl, HB1.out.set2 true, HT1.out.set 2 _⟩

set_option maxHeartbeats 1000000 in
set_option maxRecDepth 100000 in
theorem text_long (k : Nat) (g : Nat) (A : Option Addr) (c : Nat) (l : List Int) (at_ at1 : Int) (v n : Int) (w : World) (hb : IsRd w g A l.length c at_ false) (hr : ∀ W, Turned g w W → Kd.C (Kd.int .u8) W A l.length l) (hc : l.length ≤ c)
    (h0 : 0 ≤ at_) (h1 : at_ ≤ (l.length : Int)) (hl : l.length ≤ 1000000000000000) (hu : bits_Unvarint.f k (l.drop at_.toNat) = some (v, n)) (hn : 0 < n) (e1 : at_ + n = at1) (h2 : at1 ≤ (l.length : Int)) (hv : (l.length : Int) - at1 < v) (hv2 : v < 18446744073709551616) :
    Calls Try.prog 53 #[.pointer (some ⟨g, 0, none⟩), .bool true] w fun e w' => e = .returned (.string ⟨#[]⟩) ∧ IsRd w' g A l.length c at1 true ∧ Turned g w w' := by
  have q2 := hb.c2
  have hv := varint_calls k g A c l at_ false v n w hb (hr w (Turned.refl g w)) hc h0 h1 hu
  rw [show wrap64 (at_ + n) = at1 from by unfold wrap64; omega, decide_eq_false (by omega)] at hv
  have HV := Aside0.mk hv
  have h3 : 0 ≤ at1 := by omega
  have d1 : decide ((l.length : Int) - at1 < v) = true := decide_eq_true (by omega)
  clear hv hb hr hu hc h0 h1 e1 hn
  go_enter Try.func53, Try.ntmps53
  go_wp2_with (go_at_call 51; refine HV.out.mono ?_; rintro e w1 ⟨rfl, hb1, ht1⟩; have HB1 := Aside0.mk hb1; have HT1 := Aside0.mk ht1; have r0 := hb1.c0; have r1 := hb1.c1; have r2 := hb1.c2; have s2 : w1.frozen? ⟨g, 2, none⟩ = false := blk_frozen hb1 2; clear hb1 ht1)
  go_quiet (fail)
  have HB1 := Aside0.mk (HB1.out.drewN nq)
  have HT1 := Aside0.mk (HT1.out.drewN nq)
  go_wp2
  go_ret
  exact ⟨rfl, HB1.out.set2 true, HT1.out.set 2 _⟩

set_option maxHeartbeats 1000000 in
set_option maxRecDepth 100000 in
theorem text_good (k : Nat) (g : Nat) (A : Option Addr) (c : Nat) (l : List Int) (at_ at1 at2 : Int) (v n : Int) (w : World) (hb : IsRd w g A l.length c at_ false) (hr : ∀ W, Turned g w W → Kd.C (Kd.int .u8) W A l.length l) (hc : l.length ≤ c)
    (h0 : 0 ≤ at_) (h1 : at_ ≤ (l.length : Int)) (hl : l.length ≤ 1000000000000000) (hu : bits_Unvarint.f k (l.drop at_.toNat) = some (v, n)) (hn : 0 < n) (e1 : at_ + n = at1) (h2 : at1 ≤ (l.length : Int)) (hv0 : 0 ≤ v) (hv : at1 + v = at2) (hv2 : at2 ≤ (l.length : Int)) :
    Calls Try.prog 53 #[.pointer (some ⟨g, 0, none⟩), .bool true] w fun e w' => e = .returned (.string (strOfNums ((l.take at2.toNat).drop at1.toNat))) ∧ IsRd w' g A l.length c at2 false ∧ Turned g w w' := by
  subst hv
  have q2 := hb.c2
  have hvv := varint_calls k g A c l at_ false v n w hb (hr w (Turned.refl g w)) hc h0 h1 hu
  rw [show wrap64 (at_ + n) = at1 from by unfold wrap64; omega, decide_eq_false (by omega)] at hvv
  have HV := Aside0.mk hvv
  have h3 : 0 ≤ at1 := by omega
  have h4 : at1 ≤ at1 + v := by omega
  have d1 : decide ((l.length : Int) - at1 < v) = false := decide_eq_false (by omega)
  have hb5 : v ≤ 1000000000000000 := by omega
  have hr1 := Aside0.mk hr
  obtain ⟨i0, hi0, _, hsz, _⟩ := info_parts info5
  obtain ⟨A2, hcut, hA, hC⟩ := print_mid_of (P := Try.prog) (Value.int .u8) 0 27 5 .i64 .i64 Try.underlying27 hi0 hsz A c l at1 (at1 + v) h3 h4 hv2 hc
  have HA := Aside0.mk hA
  clear hvv hb hr hu hc h0 h1 e1 hn hA hC hi0 hsz
  go_enter Try.func53, Try.ntmps53
  go_wp2_with (go_at_call 51; refine HV.out.mono ?_; rintro e w1 ⟨rfl, hb1, ht1⟩; have HB1 := Aside0.mk hb1; have HT1 := Aside0.mk ht1; have r0 := hb1.c0; have r1 := hb1.c1; have r2 := hb1.c2; have s1 : w1.frozen? ⟨g, 1, none⟩ = false := blk_frozen hb1 1; clear hb1 ht1)
  go_quiet (fail)
  have HB1 := Aside0.mk (HB1.out.drewN nq)
  have HT0 := HT1
  have HT1 := Aside0.mk (HT1.out.drewN nq)
  go_wp2
  have hlen : ((l.take (at1 + v).toNat).drop at1.toNat).length = (at1 + v).toNat - at1.toNat := by rw [List.length_drop, List.length_take]; omega
  have hcv : ∀ m, (convert 27 9 (.slice A2 ((at1 + v).toNat - at1.toNat) (c - at1.toNat))).run Try.prog (w1.drewN m) = .ok (.string (strOfNums ((l.take (at1 + v).toNat).drop at1.toNat))) (w1.drewN m) := fun m => Kd.C_string (P := Try.prog) (A := A2) (c := c - at1.toNat) Try.underlying27 Try.underlying5 Try.underlying9 (by rw [← hlen]; exact Kd.C_of_reads (h1 := fun _ => rfl) (HA.out _ (Kd.reads_of_C (hr1.out _ (HT0.out.drewN m)))))
  clear hlen
  have ew : IntKind.i64.wrap (at1 + v) = at1 + v := (i64_w _).trans (by unfold wrap64; omega)
  have ev : IntKind.i64.wrap v = v := (i64_w _).trans (by unfold wrap64; omega)
  go_quiet (fail)
  have HB1 := Aside0.mk (HB1.out.drewN nq)
  have HT1 := Aside0.mk (HT1.out.drewN nq)
  clear hcv hcut ew ev
  go_wp2
  go_ret
  exact ⟨rfl, HB1.out.set1 _, (HT0.out.drewN _).set 1 _⟩

/-! ### bits_Zag: function 52 -/
def bits_Zag.f (a0 : Int) : Option (Int) := some (Go.bits .xor .i64 (wrap64 (a0 / 2)) (wrap64 (-(wrap64 (Go.bits .and .u64 a0 1)))))
set_option maxHeartbeats 8000000 in
set_option maxRecDepth 100000 in
theorem bits_Zag.calls (a0 : Int) (r : Int) (w : World) (h : bits_Zag.f a0 = some r) :
    Calls Try.prog 52 #[.int .u64 a0] w fun e w' => e = .returned (.int .i64 r) ∧ Drawn0 w w' := by
  have H : (some (Go.bits .xor .i64 (wrap64 (a0 / 2)) (wrap64 (-(wrap64 (Go.bits .and .u64 a0 1)))))) = some r := h
  clear h
  obtain rfl := Option.some.inj H
  go_enter Try.func52, Try.ntmps52
  go_wp2
  go_ret
  exact ⟨by first | rfl | (simp; done) | (simp [*]; done) | exact congrArg Value.bool (ne_empty _) | exact congrArg Value.bool (eq_empty _), by repeat (first | exact Drawn0.refl _ | apply Drawn0.step)⟩


end Go.Proofs.Ytgmeellapjimgaa.PBm

-- written by a program of this session (wip/tools/pr.py, over the kit's printer): not by hand
namespace Go.Proofs.Ytgmeellapjimgaa.PBm
open Go.RowKit Go.Proofs.YtgmeellapjimgaaW.PrintWords Go.Proofs.YtgmeellapjimgaaW.PrintLast Go.Proofs.YtgmeellapjimgaaW.PrintMore
attribute [local go_sem] max2_int min2_int max_two min_two max_three min_three max_four min_four   -- for this text's walks alone
set_option linter.unusedVariables false
set_option linter.unusedSimpArgs false

/-- A number of the reader: its value and how many bytes it takes (0: there is none). -/
def rdNum (k : Nat) (l : List Int) (at_ : Int) : Option (Int × Int) :=
  (bits_Unvarint.f k (l.drop at_.toNat)).bind fun t => if 0 ≤ t.1 ∧ t.1 < 18446744073709551616 ∧ 0 ≤ t.2 ∧ 0 ≤ at_ ∧ at_ + t.2 ≤ (l.length : Int) then some t else none
/-- A text of the reader, the place behind it, is it over? -/
def rdText (k : Nat) (l : List Int) (at_ : Int) (is bad : Bool) : Option (ByteArray × Int × Bool) :=
  if (!is || bad) = true then some (⟨#[]⟩, at_, bad) else (rdNum k l at_).bind fun t =>
    if t.2 = 0 then some (⟨#[]⟩, at_, true) else if (l.length : Int) - (at_ + t.2) < t.1 then some (⟨#[]⟩, at_ + t.2, true)
    else some (strOfNums ((l.take (at_ + t.2 + t.1).toNat).drop (at_ + t.2).toNat), at_ + t.2 + t.1, false)
theorem rdNum_tells {k : Nat} {l : List Int} {at_ v n : Int} (h : rdNum k l at_ = some (v, n)) : bits_Unvarint.f k (l.drop at_.toNat) = some (v, n) ∧ 0 ≤ v ∧ v < 18446744073709551616 ∧ 0 ≤ n ∧ 0 ≤ at_ ∧ at_ + n ≤ (l.length : Int) := by
  obtain ⟨t, h1, h2⟩ := Option.bind_eq_some_iff.mp h
  split at h2
  · rename_i hc
    obtain rfl := Option.some.inj h2
    exact ⟨h1, hc⟩
  · cases h2
theorem varint_no (k : Nat) (g : Nat) (A : Option Addr) (c : Nat) (l : List Int) (at_ : Int) (v : Int) (w : World) (hb : IsRd w g A l.length c at_ false) (hr : Kd.C (Kd.int .u8) w A l.length l) (hc : l.length ≤ c) (hl : l.length ≤ 1000000000000000) (hu : rdNum k l at_ = some (v, 0)) :
    Calls Try.prog 51 #[.pointer (some ⟨g, 0, none⟩)] w fun e w' => e = .returned (.int .u64 v) ∧ IsRd w' g A l.length c at_ true ∧ Turned g w w' := by
  obtain ⟨hu, v0, v1, n0, a0, an⟩ := rdNum_tells hu
  have h := varint_calls k g A c l at_ false v 0 w hb hr hc a0 (by omega) hu
  rw [show wrap64 (at_ + 0) = at_ from by unfold wrap64; omega] at h
  exact h
theorem varint_yes (k : Nat) (g : Nat) (A : Option Addr) (c : Nat) (l : List Int) (at_ : Int) (v n : Int) (w : World) (hb : IsRd w g A l.length c at_ false) (hr : Kd.C (Kd.int .u8) w A l.length l) (hc : l.length ≤ c) (hl : l.length ≤ 1000000000000000) (hu : rdNum k l at_ = some (v, n)) (hn : n ≠ 0) :
    Calls Try.prog 51 #[.pointer (some ⟨g, 0, none⟩)] w fun e w' => e = .returned (.int .u64 v) ∧ IsRd w' g A l.length c (at_ + n) false ∧ Turned g w w' := by
  obtain ⟨hu, v0, v1, n0, a0, an⟩ := rdNum_tells hu
  have h := varint_calls k g A c l at_ false v n w hb hr hc a0 (by omega) hu
  rw [show wrap64 (at_ + n) = at_ + n from by unfold wrap64; omega, decide_eq_false hn] at h
  exact h
theorem text_calls (k : Nat) (g : Nat) (A : Option Addr) (c : Nat) (l : List Int) (at_ at2 : Int) (is bad bad2 : Bool) (s : ByteArray) (w : World) (hb : IsRd w g A l.length c at_ bad) (hr : ∀ W, Turned g w W → Kd.C (Kd.int .u8) W A l.length l) (hc : l.length ≤ c)
    (hl : l.length ≤ 1000000000000000) (h : rdText k l at_ is bad = some (s, at2, bad2)) :
    Calls Try.prog 53 #[.pointer (some ⟨g, 0, none⟩), .bool is] w fun e w' => e = .returned (.string s) ∧ IsRd w' g A l.length c at2 bad2 ∧ Turned g w w' := by
  unfold rdText at h
  by_cases c1 : (!is || bad) = true
  · rw [if_pos c1] at h
    simp only [Option.some.injEq, Prod.mk.injEq] at h
    obtain ⟨rfl, rfl, rfl⟩ := h
    exact (text_none g A l.length c at_ is bad w hb c1).mono fun e w' ⟨h1, h2⟩ => ⟨h1, h2 ▸ hb, h2 ▸ Turned.refl g w⟩
  · rw [if_neg c1] at h
    have hi : is = true := by cases is <;> simp at c1 ⊢
    have hbd : bad = false := by cases bad <;> cases is <;> simp at c1 ⊢
    subst hi hbd
    obtain ⟨⟨v, n⟩, h1, h2⟩ := Option.bind_eq_some_iff.mp h
    obtain ⟨hu, v0, v1, n0, a0, an⟩ := rdNum_tells h1
    dsimp only at h2
    by_cases c2 : n = 0
    · subst c2
      rw [if_pos rfl] at h2
      simp only [Option.some.injEq, Prod.mk.injEq] at h2
      obtain ⟨rfl, rfl, rfl⟩ := h2
      exact text_bad k g A c l at_ v w hb hr hc a0 (by omega) hl hu
    · rw [if_neg c2] at h2
      by_cases c3 : (l.length : Int) - (at_ + n) < v
      · rw [if_pos c3] at h2
        simp only [Option.some.injEq, Prod.mk.injEq] at h2
        obtain ⟨rfl, rfl, rfl⟩ := h2
        exact text_long k g A c l at_ (at_ + n) v n w hb hr hc a0 (by omega) hl hu (by omega) rfl an c3 v1
      · rw [if_neg c3] at h2
        simp only [Option.some.injEq, Prod.mk.injEq] at h2
        obtain ⟨rfl, rfl, rfl⟩ := h2
        exact text_good k g A c l at_ (at_ + n) (at_ + n + v) v n w hb hr hc a0 (by omega) hl hu (by omega) rfl an v0 rfl (by omega)

/-- Where Decode stands: the result's block, the reader's block behind it. -/
structure DecSt (w W : World) (A : Option Addr) (n c : Nat) (at_ : Int) (bad : Bool) (hk : Bool) (key : ByteArray) (hv : Bool) (val : ByteArray) (t o : Int) : Prop where
  rd : IsRd W (w.heap.size + 1) A n c at_ bad
  rc : W.heap[w.heap.size]? = some (.cells #[.bool hk, .string key, .bool hv, .string val, .int .i64 t, .int .i64 o] 45 (0, 0))
  bel : Below w.heap.size w W
section
variable {w W W2 : World} {A : Option Addr} {n c : Nat} {at_ at2 : Int} {bad bad2 : Bool} {hk : Bool} {key : ByteArray} {hv : Bool} {val : ByteArray} {t o : Int}
theorem DecSt.new (w : World) (A : Option Addr) (n c : Nat) : DecSt w ((w.alloc (.cells #[.bool false, .string ⟨#[]⟩, .bool false, .string ⟨#[]⟩, .int .i64 0, .int .i64 0] 45)).alloc (.cells #[.slice A n c, .int .i64 1, .bool false] 92)) A n c 1 false false ⟨#[]⟩ false ⟨#[]⟩ 0 0 := by
  refine ⟨?_, ?_, ?_⟩
  · have := heap_alloc_new (w.alloc (.cells #[.bool false, .string ⟨#[]⟩, .bool false, .string ⟨#[]⟩, .int .i64 0, .int .i64 0] 45)) (.cells #[.slice A n c, .int .i64 1, .bool false] 92)
    simpa [IsRd] using this
  · have := heap_alloc_new w (.cells #[.bool false, .string ⟨#[]⟩, .bool false, .string ⟨#[]⟩, .int .i64 0, .int .i64 0] 45)
    rw [Below.heap_alloc _ _ _ (by simp)]
    exact this
  · exact below_alloc (below_alloc (Below.refl _ _) _) _
theorem DecSt.turned (h : DecSt w W A n c at_ bad hk key hv val t o) (ht : Turned (w.heap.size + 1) W W2) (hb : IsRd W2 (w.heap.size + 1) A n c at2 bad2) : DecSt w W2 A n c at2 bad2 hk key hv val t o :=
  ⟨hb, (ht.block _ (by omega)).trans h.rc, ht.below h.bel (by omega)⟩
theorem DecSt.drewN (h : DecSt w W A n c at_ bad hk key hv val t o) (m : Nat) : DecSt w (W.drewN m) A n c at_ bad hk key hv val t o := ⟨h.rd, h.rc, pw_below_drewN h.bel m⟩
theorem DecSt.below (h : DecSt w W A n c at_ bad hk key hv val t o) (hb : Below W.heap.size W W2) : DecSt w W2 A n c at_ bad hk key hv val t o :=
  ⟨(hb.block _ (blk_lt h.rd)).trans h.rd, (hb.block _ (blk_lt h.rc)).trans h.rc, below_step h.bel hb⟩
theorem DecSt.set0 (h : DecSt w W A n c at_ bad hk key hv val t o) (x : Bool) : DecSt w (W.setCell ⟨w.heap.size, 0, none⟩ (.bool x)) A n c at_ bad x key hv val t o := ⟨blk_far h.rd (by simp) _, by simpa using blk_set h.rc 0 (.bool x), h.bel.setCell (Nat.le_refl _) _⟩
theorem DecSt.set1 (h : DecSt w W A n c at_ bad hk key hv val t o) (x : ByteArray) : DecSt w (W.setCell ⟨w.heap.size, 1, none⟩ (.string x)) A n c at_ bad hk x hv val t o := ⟨blk_far h.rd (by simp) _, by simpa using blk_set h.rc 1 (.string x), h.bel.setCell (Nat.le_refl _) _⟩
theorem DecSt.set2 (h : DecSt w W A n c at_ bad hk key hv val t o) (x : Bool) : DecSt w (W.setCell ⟨w.heap.size, 2, none⟩ (.bool x)) A n c at_ bad hk key x val t o := ⟨blk_far h.rd (by simp) _, by simpa using blk_set h.rc 2 (.bool x), h.bel.setCell (Nat.le_refl _) _⟩
theorem DecSt.set3 (h : DecSt w W A n c at_ bad hk key hv val t o) (x : ByteArray) : DecSt w (W.setCell ⟨w.heap.size, 3, none⟩ (.string x)) A n c at_ bad hk key hv x t o := ⟨blk_far h.rd (by simp) _, by simpa using blk_set h.rc 3 (.string x), h.bel.setCell (Nat.le_refl _) _⟩
theorem DecSt.set4 (h : DecSt w W A n c at_ bad hk key hv val t o) (x : Int) : DecSt w (W.setCell ⟨w.heap.size, 4, none⟩ (.int .i64 x)) A n c at_ bad hk key hv val x o := ⟨blk_far h.rd (by simp) _, by simpa using blk_set h.rc 4 (.int .i64 x), h.bel.setCell (Nat.le_refl _) _⟩
theorem DecSt.set5 (h : DecSt w W A n c at_ bad hk key hv val t o) (x : Int) : DecSt w (W.setCell ⟨w.heap.size, 5, none⟩ (.int .i64 x)) A n c at_ bad hk key hv val t x := ⟨blk_far h.rd (by simp) _, by simpa using blk_set h.rc 5 (.int .i64 x), h.bel.setCell (Nat.le_refl _) _⟩
theorem DecSt.rcells (h : DecSt w W A n c at_ bad hk key hv val t o) : W.cell? ⟨w.heap.size, 0, none⟩ = some (.bool hk) ∧ W.cell? ⟨w.heap.size, 1, none⟩ = some (.string key) ∧ W.cell? ⟨w.heap.size, 2, none⟩ = some (.bool hv) ∧ W.cell? ⟨w.heap.size, 3, none⟩ = some (.string val) ∧ W.cell? ⟨w.heap.size, 4, none⟩ = some (.int .i64 t) ∧ W.cell? ⟨w.heap.size, 5, none⟩ = some (.int .i64 o) :=
  ⟨(blk_cell h.rc 0).trans rfl, (blk_cell h.rc 1).trans rfl, (blk_cell h.rc 2).trans rfl, (blk_cell h.rc 3).trans rfl, (blk_cell h.rc 4).trans rfl, (blk_cell h.rc 5).trans rfl⟩
theorem DecSt.rfree (h : DecSt w W A n c at_ bad hk key hv val t o) : W.frozen? ⟨w.heap.size, 0, none⟩ = false ∧ W.frozen? ⟨w.heap.size, 1, none⟩ = false ∧ W.frozen? ⟨w.heap.size, 2, none⟩ = false ∧ W.frozen? ⟨w.heap.size, 3, none⟩ = false ∧ W.frozen? ⟨w.heap.size, 4, none⟩ = false ∧ W.frozen? ⟨w.heap.size, 5, none⟩ = false :=
  ⟨blk_frozen h.rc 0, blk_frozen h.rc 1, blk_frozen h.rc 2, blk_frozen h.rc 3, blk_frozen h.rc 4, blk_frozen h.rc 5⟩
theorem DecSt.pcells (h : DecSt w W A n c at_ bad hk key hv val t o) : W.cell? ⟨w.heap.size + 1, 0, none⟩ = some (.slice A n c) ∧ W.cell? ⟨w.heap.size + 1, 1, none⟩ = some (.int .i64 at_) ∧ W.cell? ⟨w.heap.size + 1, 2, none⟩ = some (.bool bad) := ⟨h.rd.c0, h.rd.c1, h.rd.c2⟩
end

set_option maxHeartbeats 2000000 in
set_option maxRecDepth 100000 in
theorem decode_empty (k : Nat) (A : Option Addr) (c : Nat) (l : List Int) (first : Int) (w : World) (hr : Kd.C (Kd.int .u8) w A l.length l) (hc : l.length ≤ c) (h0 : l.length = 0) :
    Calls Try.prog 36 #[.slice A l.length c, .int .i64 first] w fun e w' => e = .returned (.tuple #[.agg #[.bool false, .string ⟨#[]⟩, .bool false, .string ⟨#[]⟩, .int .i64 0, .int .i64 0], .int .i64 0, .int .i64 10]) ∧ Below w.heap.size w w' := by
  have HB := Aside0.mk (Below.refl w.heap.size w)
  have f0 : ((l.length : Int) == 0) = true := by rw [h0]; rfl
  clear hr hc h0
  go_enter Try.func36, Try.ntmps36
  go_wp2
  refine bodyPost_ret (v := .tuple #[.agg #[.bool false, .string ⟨#[]⟩, .bool false, .string ⟨#[]⟩, .int .i64 0, .int .i64 0], .int .i64 0, .int .i64 10]) (by simp [results, Try.results36, go_sem]) rfl ⟨rfl, ?_⟩
  repeat (with_reducible first | exact HB.out | apply below_alloc | apply pw_below_drewN | (refine below_set ?_ (by first | exact Nat.le_refl _ | omega)))

set_option maxHeartbeats 2000000 in
set_option maxRecDepth 100000 in
theorem decode_flags (k : Nat) (A : Option Addr) (c : Nat) (l : List Int) (first : Int) (w : World) (hr : Kd.C (Kd.int .u8) w A l.length l) (hc : l.length ≤ c) (h0 : 0 < l.length) (h1 : 3 < rd l 0) :
    Calls Try.prog 36 #[.slice A l.length c, .int .i64 first] w fun e w' => e = .returned (.tuple #[.agg #[.bool false, .string ⟨#[]⟩, .bool false, .string ⟨#[]⟩, .int .i64 0, .int .i64 0], .int .i64 0, .int .i64 10]) ∧ Below w.heap.size w w' := by
  have HB := Aside0.mk (Below.refl w.heap.size w)
  obtain ⟨ad, e, hx⟩ := Kd.at_int hr 0 (by decide) (by omega)
  cases e
  have qi : (0 < l.length) = True := eq_true (by omega)
  rw [show ((0 : Int)).toNat = 0 from rfl, Addr.add_zero'] at hx
  have hx' : ∀ o : Obj, (w.alloc o).cell? ad = some (.int .u8 (rd l 0)) := fun o => pw_cell_below (below_alloc (Below.refl _ _) o) hx
  have f0 : ((l.length : Int) == 0) = false := by simpa using (by omega : ¬ (l.length = 0))
  have f1 : decide (3 < rd l 0) = true := decide_eq_true h1
  clear hr hc h0 h1
  go_enter Try.func36, Try.ntmps36
  go_wp2
  refine bodyPost_ret (v := .tuple #[.agg #[.bool false, .string ⟨#[]⟩, .bool false, .string ⟨#[]⟩, .int .i64 0, .int .i64 0], .int .i64 0, .int .i64 10]) (by simp [results, Try.results36, go_sem]) rfl ⟨rfl, ?_⟩
  repeat (with_reducible first | exact HB.out | apply below_alloc | apply pw_below_drewN | (refine below_set ?_ (by first | exact Nat.le_refl _ | omega)))

set_option maxHeartbeats 2000000 in
set_option maxRecDepth 100000 in
theorem decode_first0 (k : Nat) (A : Option Addr) (c : Nat) (l : List Int) (first : Int) (w : World) (hr : Kd.C (Kd.int .u8) w A l.length l) (hc : l.length ≤ c) (h0 : 0 < l.length) (h1 : rd l 0 ≤ 3) (h2 : first < 0) :
    Calls Try.prog 36 #[.slice A l.length c, .int .i64 first] w fun e w' => e = .returned (.tuple #[.agg #[.bool false, .string ⟨#[]⟩, .bool false, .string ⟨#[]⟩, .int .i64 0, .int .i64 0], .int .i64 0, .int .i64 10]) ∧ Below w.heap.size w w' := by
  have HB := Aside0.mk (Below.refl w.heap.size w)
  obtain ⟨ad, e, hx⟩ := Kd.at_int hr 0 (by decide) (by omega)
  cases e
  have qi : (0 < l.length) = True := eq_true (by omega)
  rw [show ((0 : Int)).toNat = 0 from rfl, Addr.add_zero'] at hx
  have hx' : ∀ o : Obj, (w.alloc o).cell? ad = some (.int .u8 (rd l 0)) := fun o => pw_cell_below (below_alloc (Below.refl _ _) o) hx
  have f0 : ((l.length : Int) == 0) = false := by simpa using (by omega : ¬ (l.length = 0))
  have f1 : decide (3 < rd l 0) = false := decide_eq_false (by omega)
  have f2 : decide (first < 0) = true := decide_eq_true h2
  clear hr hc h0 h1 h2
  go_enter Try.func36, Try.ntmps36
  go_wp2
  refine bodyPost_ret (v := .tuple #[.agg #[.bool false, .string ⟨#[]⟩, .bool false, .string ⟨#[]⟩, .int .i64 0, .int .i64 0], .int .i64 0, .int .i64 10]) (by simp [results, Try.results36, go_sem]) rfl ⟨rfl, ?_⟩
  repeat (with_reducible first | exact HB.out | apply below_alloc | apply pw_below_drewN | (refine below_set ?_ (by first | exact Nat.le_refl _ | omega)))

set_option maxHeartbeats 2000000 in
set_option maxRecDepth 100000 in
theorem decode_first1 (k : Nat) (A : Option Addr) (c : Nat) (l : List Int) (first : Int) (w : World) (hr : Kd.C (Kd.int .u8) w A l.length l) (hc : l.length ≤ c) (h0 : 0 < l.length) (h1 : rd l 0 ≤ 3) (h2 : 0 ≤ first) (h3 : 1125899906842624 < first) :
    Calls Try.prog 36 #[.slice A l.length c, .int .i64 first] w fun e w' => e = .returned (.tuple #[.agg #[.bool false, .string ⟨#[]⟩, .bool false, .string ⟨#[]⟩, .int .i64 0, .int .i64 0], .int .i64 0, .int .i64 10]) ∧ Below w.heap.size w w' := by
  have HB := Aside0.mk (Below.refl w.heap.size w)
  obtain ⟨ad, e, hx⟩ := Kd.at_int hr 0 (by decide) (by omega)
  cases e
  have qi : (0 < l.length) = True := eq_true (by omega)
  rw [show ((0 : Int)).toNat = 0 from rfl, Addr.add_zero'] at hx
  have hx' : ∀ o : Obj, (w.alloc o).cell? ad = some (.int .u8 (rd l 0)) := fun o => pw_cell_below (below_alloc (Below.refl _ _) o) hx
  have f0 : ((l.length : Int) == 0) = false := by simpa using (by omega : ¬ (l.length = 0))
  have f1 : decide (3 < rd l 0) = false := decide_eq_false (by omega)
  have f2 : decide (first < 0) = false := decide_eq_false (by omega)
  have f3 : decide (1125899906842624 < first) = true := decide_eq_true h3
  clear hr hc h0 h1 h2 h3
  go_enter Try.func36, Try.ntmps36
  go_wp2
  refine bodyPost_ret (v := .tuple #[.agg #[.bool false, .string ⟨#[]⟩, .bool false, .string ⟨#[]⟩, .int .i64 0, .int .i64 0], .int .i64 0, .int .i64 10]) (by simp [results, Try.results36, go_sem]) rfl ⟨rfl, ?_⟩
  repeat (with_reducible first | exact HB.out | apply below_alloc | apply pw_below_drewN | (refine below_set ?_ (by first | exact Nat.le_refl _ | omega)))

set_option maxHeartbeats 2000000 in
set_option maxRecDepth 100000 in
theorem decode_none1 (k : Nat) (A : Option Addr) (c : Nat) (l : List Int) (first : Int) (v : Int) (w : World) (hr : Kd.C (Kd.int .u8) w A l.length l) (hc : l.length ≤ c) (h0 : 0 < l.length) (h1 : rd l 0 ≤ 3) (h2 : 0 ≤ first) (h3 : first ≤ 1125899906842624) (hl : l.length ≤ 1000000000000000) (hu : rdNum k l 1 = some (v, 0)) :
    Calls Try.prog 36 #[.slice A l.length c, .int .i64 first] w fun e w' => e = .returned (.tuple #[.agg #[.bool false, .string ⟨#[]⟩, .bool false, .string ⟨#[]⟩, .int .i64 0, .int .i64 0], .int .i64 0, .int .i64 10]) ∧ Below w.heap.size w w' := by
  obtain ⟨ad, e, hx⟩ := Kd.at_int hr 0 (by decide) (by omega)
  cases e
  have qi : (0 < l.length) = True := eq_true (by omega)
  rw [show ((0 : Int)).toNat = 0 from rfl, Addr.add_zero'] at hx
  have hx' : ∀ o : Obj, (w.alloc o).cell? ad = some (.int .u8 (rd l 0)) := fun o => pw_cell_below (below_alloc (Below.refl _ _) o) hx
  have HX := Aside0.mk hx
  have f0 : ((l.length : Int) == 0) = false := by simpa using (by omega : ¬ (l.length = 0))
  have f1 : decide (3 < rd l 0) = false := decide_eq_false (by omega)
  have f2 : decide (first < 0) = false := decide_eq_false (by omega)
  have f3 : decide (1125899906842624 < first) = false := decide_eq_false (by omega)
  have HR := Aside0.mk hr
  have HC := Aside0.mk hc
  have HL := Aside0.mk hl
  have HU0 := Aside0.mk hu
  clear hr hc hl h0 h1 h2 h3 hu
  go_enter Try.func36, Try.ntmps36
  go_wp2_with fail
  have S0 := Aside0.mk (DecSt.new w (some ad) l.length c)
  refine (varint_no k (w.heap.size + 1) (some ad) c l 1 v _ S0.out.rd (Kd.C_below HR.out S0.out.bel) HC.out HL.out HU0.out).mono ?_
  rintro e w1 ⟨rfl, hb, ht⟩
  have S1 := Aside0.mk (S0.out.turned ht hb)
  clear hb ht S0
  obtain ⟨p0, p1, p2⟩ := S1.out.pcells
  obtain ⟨r0, r1, r2, r3, r4, r5⟩ := S1.out.rcells
  obtain ⟨z0, z1, z2, z3, z4, z5⟩ := S1.out.rfree
  go_wp2
  refine bodyPost_ret (v := .tuple #[.agg #[.bool false, .string ⟨#[]⟩, .bool false, .string ⟨#[]⟩, .int .i64 0, .int .i64 0], .int .i64 0, .int .i64 10]) (by simp [results, Try.results36, go_sem, r0, r1, r2, r3, r4, r5]) rfl ⟨rfl, ?_⟩
  exact ((((((S1.out.set0 false).set1 ⟨#[]⟩).set2 false).set3 ⟨#[]⟩).set4 0).set5 0).bel

set_option maxHeartbeats 2000000 in
set_option maxRecDepth 100000 in
theorem decode_none2 (k : Nat) (A : Option Addr) (c : Nat) (l : List Int) (first : Int) (off n u ago : Int) (w : World) (hr : Kd.C (Kd.int .u8) w A l.length l) (hc : l.length ≤ c) (h0 : 0 < l.length) (h1 : rd l 0 ≤ 3) (h2 : 0 ≤ first) (h3 : first ≤ 1125899906842624) (hl : l.length ≤ 1000000000000000) (hu : rdNum k l 1 = some (off, n)) (hn : n ≠ 0) (hu2 : rdNum k l (1 + n) = some (u, 0)) (hz : bits_Zag.f u = some ago) :
    Calls Try.prog 36 #[.slice A l.length c, .int .i64 first] w fun e w' => e = .returned (.tuple #[.agg #[.bool false, .string ⟨#[]⟩, .bool false, .string ⟨#[]⟩, .int .i64 0, .int .i64 0], .int .i64 0, .int .i64 10]) ∧ Below w.heap.size w w' := by
  obtain ⟨ad, e, hx⟩ := Kd.at_int hr 0 (by decide) (by omega)
  cases e
  have qi : (0 < l.length) = True := eq_true (by omega)
  rw [show ((0 : Int)).toNat = 0 from rfl, Addr.add_zero'] at hx
  have hx' : ∀ o : Obj, (w.alloc o).cell? ad = some (.int .u8 (rd l 0)) := fun o => pw_cell_below (below_alloc (Below.refl _ _) o) hx
  have HX := Aside0.mk hx
  have f0 : ((l.length : Int) == 0) = false := by simpa using (by omega : ¬ (l.length = 0))
  have f1 : decide (3 < rd l 0) = false := decide_eq_false (by omega)
  have f2 : decide (first < 0) = false := decide_eq_false (by omega)
  have f3 : decide (1125899906842624 < first) = false := decide_eq_false (by omega)
  have HR := Aside0.mk hr
  have HC := Aside0.mk hc
  have HL := Aside0.mk hl
  have HU0 := Aside0.mk hu
  have HN0 := Aside0.mk hn
  have HU1 := Aside0.mk hu2
  have HZ := Aside0.mk hz
  clear hr hc hl h0 h1 hu hn hu2 hz
  go_enter Try.func36, Try.ntmps36
  go_wp2_with fail
  have S0 := Aside0.mk (DecSt.new w (some ad) l.length c)
  refine (varint_yes k (w.heap.size + 1) (some ad) c l 1 off n _ S0.out.rd (Kd.C_below HR.out S0.out.bel) HC.out HL.out HU0.out HN0.out).mono ?_
  rintro e w1 ⟨rfl, hb, ht⟩
  have S1 := Aside0.mk (S0.out.turned ht hb)
  clear hb ht S0
  obtain ⟨p0, p1, p2⟩ := S1.out.pcells
  go_wp2_with fail
  refine (varint_no k (w.heap.size + 1) (some ad) c l (1 + n) u _ S1.out.rd (Kd.C_below HR.out S1.out.bel) HC.out HL.out HU1.out).mono ?_
  rintro e w2 ⟨rfl, hb, ht⟩
  have S2 := Aside0.mk (S1.out.turned ht hb)
  clear hb ht S1
  clear p0 p1 p2
  go_wp2_with fail
  refine (bits_Zag.calls u ago _ HZ.out).mono ?_
  rintro e w3 ⟨rfl, ⟨q, rfl⟩⟩
  have S3 := Aside0.mk (S2.out.drewN q)
  clear S2
  obtain ⟨p0, p1, p2⟩ := S3.out.pcells
  obtain ⟨r0, r1, r2, r3, r4, r5⟩ := S3.out.rcells
  obtain ⟨z0, z1, z2, z3, z4, z5⟩ := S3.out.rfree
  go_wp2
  refine bodyPost_ret (v := .tuple #[.agg #[.bool false, .string ⟨#[]⟩, .bool false, .string ⟨#[]⟩, .int .i64 0, .int .i64 0], .int .i64 0, .int .i64 10]) (by simp [results, Try.results36, go_sem, r0, r1, r2, r3, r4, r5]) rfl ⟨rfl, ?_⟩
  exact ((((((S3.out.set0 false).set1 ⟨#[]⟩).set2 false).set3 ⟨#[]⟩).set4 0).set5 0).bel

set_option maxHeartbeats 2000000 in
set_option maxRecDepth 100000 in
theorem decode_off (k : Nat) (A : Option Addr) (c : Nat) (l : List Int) (first : Int) (off n u m ago : Int) (w : World) (hr : Kd.C (Kd.int .u8) w A l.length l) (hc : l.length ≤ c) (h0 : 0 < l.length) (h1 : rd l 0 ≤ 3) (h2 : 0 ≤ first) (h3 : first ≤ 1125899906842624) (hl : l.length ≤ 1000000000000000) (hu : rdNum k l 1 = some (off, n)) (hn : n ≠ 0) (hu2 : rdNum k l (1 + n) = some (u, m)) (hz : bits_Zag.f u = some ago) (hm : m ≠ 0) (h4 : 100 ≤ off) :
    Calls Try.prog 36 #[.slice A l.length c, .int .i64 first] w fun e w' => e = .returned (.tuple #[.agg #[.bool false, .string ⟨#[]⟩, .bool false, .string ⟨#[]⟩, .int .i64 0, .int .i64 0], .int .i64 0, .int .i64 10]) ∧ Below w.heap.size w w' := by
  obtain ⟨ad, e, hx⟩ := Kd.at_int hr 0 (by decide) (by omega)
  cases e
  have qi : (0 < l.length) = True := eq_true (by omega)
  rw [show ((0 : Int)).toNat = 0 from rfl, Addr.add_zero'] at hx
  have hx' : ∀ o : Obj, (w.alloc o).cell? ad = some (.int .u8 (rd l 0)) := fun o => pw_cell_below (below_alloc (Below.refl _ _) o) hx
  have HX := Aside0.mk hx
  have f0 : ((l.length : Int) == 0) = false := by simpa using (by omega : ¬ (l.length = 0))
  have f1 : decide (3 < rd l 0) = false := decide_eq_false (by omega)
  have f2 : decide (first < 0) = false := decide_eq_false (by omega)
  have f3 : decide (1125899906842624 < first) = false := decide_eq_false (by omega)
  have HR := Aside0.mk hr
  have HC := Aside0.mk hc
  have HL := Aside0.mk hl
  have HU0 := Aside0.mk hu
  have HN0 := Aside0.mk hn
  have HU1 := Aside0.mk hu2
  have HZ := Aside0.mk hz
  have HM := Aside0.mk hm
  have f4 : decide (100 ≤ off) = true := decide_eq_true h4
  clear hm h4
  clear hr hc hl h0 h1 hu hn hu2 hz
  go_enter Try.func36, Try.ntmps36
  go_wp2_with fail
  have S0 := Aside0.mk (DecSt.new w (some ad) l.length c)
  refine (varint_yes k (w.heap.size + 1) (some ad) c l 1 off n _ S0.out.rd (Kd.C_below HR.out S0.out.bel) HC.out HL.out HU0.out HN0.out).mono ?_
  rintro e w1 ⟨rfl, hb, ht⟩
  have S1 := Aside0.mk (S0.out.turned ht hb)
  clear hb ht S0
  obtain ⟨p0, p1, p2⟩ := S1.out.pcells
  go_wp2_with fail
  refine (varint_yes k (w.heap.size + 1) (some ad) c l (1 + n) u m _ S1.out.rd (Kd.C_below HR.out S1.out.bel) HC.out HL.out HU1.out HM.out).mono ?_
  rintro e w2 ⟨rfl, hb, ht⟩
  have S2 := Aside0.mk (S1.out.turned ht hb)
  clear hb ht S1
  clear p0 p1 p2
  go_wp2_with fail
  refine (bits_Zag.calls u ago _ HZ.out).mono ?_
  rintro e w3 ⟨rfl, ⟨q, rfl⟩⟩
  have S3 := Aside0.mk (S2.out.drewN q)
  clear S2
  obtain ⟨p0, p1, p2⟩ := S3.out.pcells
  obtain ⟨r0, r1, r2, r3, r4, r5⟩ := S3.out.rcells
  obtain ⟨z0, z1, z2, z3, z4, z5⟩ := S3.out.rfree
  go_wp2
  refine bodyPost_ret (v := .tuple #[.agg #[.bool false, .string ⟨#[]⟩, .bool false, .string ⟨#[]⟩, .int .i64 0, .int .i64 0], .int .i64 0, .int .i64 10]) (by simp [results, Try.results36, go_sem, r0, r1, r2, r3, r4, r5]) rfl ⟨rfl, ?_⟩
  exact ((((((S3.out.set0 false).set1 ⟨#[]⟩).set2 false).set3 ⟨#[]⟩).set4 0).set5 0).bel

set_option maxHeartbeats 2000000 in
set_option maxRecDepth 100000 in
theorem decode_ago0 (k : Nat) (A : Option Addr) (c : Nat) (l : List Int) (first : Int) (off n u m ago : Int) (w : World) (hr : Kd.C (Kd.int .u8) w A l.length l) (hc : l.length ≤ c) (h0 : 0 < l.length) (h1 : rd l 0 ≤ 3) (h2 : 0 ≤ first) (h3 : first ≤ 1125899906842624) (hl : l.length ≤ 1000000000000000) (hu : rdNum k l 1 = some (off, n)) (hn : n ≠ 0) (hu2 : rdNum k l (1 + n) = some (u, m)) (hz : bits_Zag.f u = some ago) (hm : m ≠ 0) (h4 : off < 100) (h5 : ago < -first) :
    Calls Try.prog 36 #[.slice A l.length c, .int .i64 first] w fun e w' => e = .returned (.tuple #[.agg #[.bool false, .string ⟨#[]⟩, .bool false, .string ⟨#[]⟩, .int .i64 0, .int .i64 0], .int .i64 0, .int .i64 10]) ∧ Below w.heap.size w w' := by
  obtain ⟨ad, e, hx⟩ := Kd.at_int hr 0 (by decide) (by omega)
  cases e
  have qi : (0 < l.length) = True := eq_true (by omega)
  rw [show ((0 : Int)).toNat = 0 from rfl, Addr.add_zero'] at hx
  have hx' : ∀ o : Obj, (w.alloc o).cell? ad = some (.int .u8 (rd l 0)) := fun o => pw_cell_below (below_alloc (Below.refl _ _) o) hx
  have HX := Aside0.mk hx
  have f0 : ((l.length : Int) == 0) = false := by simpa using (by omega : ¬ (l.length = 0))
  have f1 : decide (3 < rd l 0) = false := decide_eq_false (by omega)
  have f2 : decide (first < 0) = false := decide_eq_false (by omega)
  have f3 : decide (1125899906842624 < first) = false := decide_eq_false (by omega)
  have HR := Aside0.mk hr
  have HC := Aside0.mk hc
  have HL := Aside0.mk hl
  have HU0 := Aside0.mk hu
  have HN0 := Aside0.mk hn
  have HU1 := Aside0.mk hu2
  have HZ := Aside0.mk hz
  have HM := Aside0.mk hm
  have f4 : decide (100 ≤ off) = false := decide_eq_false (by omega)
  have f5 : decide (ago < -first) = true := decide_eq_true h5
  clear hm h4 h5
  clear hr hc hl h0 h1 hu hn hu2 hz
  go_enter Try.func36, Try.ntmps36
  go_wp2_with fail
  have S0 := Aside0.mk (DecSt.new w (some ad) l.length c)
  refine (varint_yes k (w.heap.size + 1) (some ad) c l 1 off n _ S0.out.rd (Kd.C_below HR.out S0.out.bel) HC.out HL.out HU0.out HN0.out).mono ?_
  rintro e w1 ⟨rfl, hb, ht⟩
  have S1 := Aside0.mk (S0.out.turned ht hb)
  clear hb ht S0
  obtain ⟨p0, p1, p2⟩ := S1.out.pcells
  go_wp2_with fail
  refine (varint_yes k (w.heap.size + 1) (some ad) c l (1 + n) u m _ S1.out.rd (Kd.C_below HR.out S1.out.bel) HC.out HL.out HU1.out HM.out).mono ?_
  rintro e w2 ⟨rfl, hb, ht⟩
  have S2 := Aside0.mk (S1.out.turned ht hb)
  clear hb ht S1
  clear p0 p1 p2
  go_wp2_with fail
  refine (bits_Zag.calls u ago _ HZ.out).mono ?_
  rintro e w3 ⟨rfl, ⟨q, rfl⟩⟩
  have S3 := Aside0.mk (S2.out.drewN q)
  clear S2
  obtain ⟨p0, p1, p2⟩ := S3.out.pcells
  obtain ⟨r0, r1, r2, r3, r4, r5⟩ := S3.out.rcells
  obtain ⟨z0, z1, z2, z3, z4, z5⟩ := S3.out.rfree
  go_wp2
  refine bodyPost_ret (v := .tuple #[.agg #[.bool false, .string ⟨#[]⟩, .bool false, .string ⟨#[]⟩, .int .i64 0, .int .i64 0], .int .i64 0, .int .i64 10]) (by simp [results, Try.results36, go_sem, r0, r1, r2, r3, r4, r5]) rfl ⟨rfl, ?_⟩
  exact ((((((S3.out.set0 false).set1 ⟨#[]⟩).set2 false).set3 ⟨#[]⟩).set4 0).set5 0).bel

set_option maxHeartbeats 2000000 in
set_option maxRecDepth 100000 in
theorem decode_ago1 (k : Nat) (A : Option Addr) (c : Nat) (l : List Int) (first : Int) (off n u m ago : Int) (w : World) (hr : Kd.C (Kd.int .u8) w A l.length l) (hc : l.length ≤ c) (h0 : 0 < l.length) (h1 : rd l 0 ≤ 3) (h2 : 0 ≤ first) (h3 : first ≤ 1125899906842624) (hl : l.length ≤ 1000000000000000) (hu : rdNum k l 1 = some (off, n)) (hn : n ≠ 0) (hu2 : rdNum k l (1 + n) = some (u, m)) (hz : bits_Zag.f u = some ago) (hm : m ≠ 0) (h4 : off < 100) (h5 : -first ≤ ago) (h6 : 1125899906842624 - first < ago) :
    Calls Try.prog 36 #[.slice A l.length c, .int .i64 first] w fun e w' => e = .returned (.tuple #[.agg #[.bool false, .string ⟨#[]⟩, .bool false, .string ⟨#[]⟩, .int .i64 0, .int .i64 0], .int .i64 0, .int .i64 10]) ∧ Below w.heap.size w w' := by
  obtain ⟨ad, e, hx⟩ := Kd.at_int hr 0 (by decide) (by omega)
  cases e
  have qi : (0 < l.length) = True := eq_true (by omega)
  rw [show ((0 : Int)).toNat = 0 from rfl, Addr.add_zero'] at hx
  have hx' : ∀ o : Obj, (w.alloc o).cell? ad = some (.int .u8 (rd l 0)) := fun o => pw_cell_below (below_alloc (Below.refl _ _) o) hx
  have HX := Aside0.mk hx
  have f0 : ((l.length : Int) == 0) = false := by simpa using (by omega : ¬ (l.length = 0))
  have f1 : decide (3 < rd l 0) = false := decide_eq_false (by omega)
  have f2 : decide (first < 0) = false := decide_eq_false (by omega)
  have f3 : decide (1125899906842624 < first) = false := decide_eq_false (by omega)
  have HR := Aside0.mk hr
  have HC := Aside0.mk hc
  have HL := Aside0.mk hl
  have HU0 := Aside0.mk hu
  have HN0 := Aside0.mk hn
  have HU1 := Aside0.mk hu2
  have HZ := Aside0.mk hz
  have HM := Aside0.mk hm
  have f4 : decide (100 ≤ off) = false := decide_eq_false (by omega)
  have f5 : decide (ago < -first) = false := decide_eq_false (by omega)
  have f6 : decide (1125899906842624 - first < ago) = true := decide_eq_true h6
  clear hm h4 h5 h6
  clear hr hc hl h0 h1 hu hn hu2 hz
  go_enter Try.func36, Try.ntmps36
  go_wp2_with fail
  have S0 := Aside0.mk (DecSt.new w (some ad) l.length c)
  refine (varint_yes k (w.heap.size + 1) (some ad) c l 1 off n _ S0.out.rd (Kd.C_below HR.out S0.out.bel) HC.out HL.out HU0.out HN0.out).mono ?_
  rintro e w1 ⟨rfl, hb, ht⟩
  have S1 := Aside0.mk (S0.out.turned ht hb)
  clear hb ht S0
  obtain ⟨p0, p1, p2⟩ := S1.out.pcells
  go_wp2_with fail
  refine (varint_yes k (w.heap.size + 1) (some ad) c l (1 + n) u m _ S1.out.rd (Kd.C_below HR.out S1.out.bel) HC.out HL.out HU1.out HM.out).mono ?_
  rintro e w2 ⟨rfl, hb, ht⟩
  have S2 := Aside0.mk (S1.out.turned ht hb)
  clear hb ht S1
  clear p0 p1 p2
  go_wp2_with fail
  refine (bits_Zag.calls u ago _ HZ.out).mono ?_
  rintro e w3 ⟨rfl, ⟨q, rfl⟩⟩
  have S3 := Aside0.mk (S2.out.drewN q)
  clear S2
  obtain ⟨p0, p1, p2⟩ := S3.out.pcells
  obtain ⟨r0, r1, r2, r3, r4, r5⟩ := S3.out.rcells
  obtain ⟨z0, z1, z2, z3, z4, z5⟩ := S3.out.rfree
  go_wp2
  refine bodyPost_ret (v := .tuple #[.agg #[.bool false, .string ⟨#[]⟩, .bool false, .string ⟨#[]⟩, .int .i64 0, .int .i64 0], .int .i64 0, .int .i64 10]) (by simp [results, Try.results36, go_sem, r0, r1, r2, r3, r4, r5]) rfl ⟨rfl, ?_⟩
  exact ((((((S3.out.set0 false).set1 ⟨#[]⟩).set2 false).set3 ⟨#[]⟩).set4 0).set5 0).bel

set_option maxHeartbeats 2000000 in
set_option maxRecDepth 100000 in
theorem decode_good (k : Nat) (A : Option Addr) (c : Nat) (l : List Int) (first : Int) (off n u m ago : Int) (hk hv : Bool) (key val : ByteArray) (at3 at4 : Int) (b3 b4 : Bool) (w : World) (hr : Kd.C (Kd.int .u8) w A l.length l) (hc : l.length ≤ c) (h0 : 0 < l.length) (h1 : rd l 0 ≤ 3) (h2 : 0 ≤ first) (h3 : first ≤ 1125899906842624) (hl : l.length ≤ 1000000000000000) (hu : rdNum k l 1 = some (off, n)) (hn : n ≠ 0) (hu2 : rdNum k l (1 + n) = some (u, m)) (hz : bits_Zag.f u = some ago) (hm : m ≠ 0) (h40 : 0 ≤ off) (h4 : off < 100) (h5 : -first ≤ ago) (h6 : ago ≤ 1125899906842624 - first) (f7 : decide (0 < Go.bits BinOp.and IntKind.u8 (rd l 0) 1) = hk) (f8 : decide (0 < Go.bits BinOp.and IntKind.u8 (rd l 0) 2) = hv) (ht1 : rdText k l (1 + n + m) hk false = some (key, at3, b3)) (ht2 : rdText k l at3 hv b3 = some (val, at4, b4)) (h9 : b4 = false) (h10 : record_Check.f k hk key hv val (first + ago) off = some 0) :
    Calls Try.prog 36 #[.slice A l.length c, .int .i64 first] w fun e w' => e = .returned (.tuple #[.agg #[.bool hk, .string key, .bool hv, .string val, .int .i64 (first + ago), .int .i64 off], .int .i64 at4, .int .i64 0]) ∧ Below w.heap.size w w' := by
  obtain ⟨ad, e, hx⟩ := Kd.at_int hr 0 (by decide) (by omega)
  cases e
  have qi : (0 < l.length) = True := eq_true (by omega)
  rw [show ((0 : Int)).toNat = 0 from rfl, Addr.add_zero'] at hx
  have hx' : ∀ o : Obj, (w.alloc o).cell? ad = some (.int .u8 (rd l 0)) := fun o => pw_cell_below (below_alloc (Below.refl _ _) o) hx
  have HX := Aside0.mk hx
  have f0 : ((l.length : Int) == 0) = false := by simpa using (by omega : ¬ (l.length = 0))
  have f1 : decide (3 < rd l 0) = false := decide_eq_false (by omega)
  have f2 : decide (first < 0) = false := decide_eq_false (by omega)
  have f3 : decide (1125899906842624 < first) = false := decide_eq_false (by omega)
  have HR := Aside0.mk hr
  have HC := Aside0.mk hc
  have HL := Aside0.mk hl
  have HU0 := Aside0.mk hu
  have HN0 := Aside0.mk hn
  have HU1 := Aside0.mk hu2
  have HZ := Aside0.mk hz
  have HM := Aside0.mk hm
  have HT1 := Aside0.mk ht1
  have HT2 := Aside0.mk ht2
  have f4 : decide (100 ≤ off) = false := decide_eq_false (by omega)
  have f5 : decide (ago < -first) = false := decide_eq_false (by omega)
  have f6 : decide (1125899906842624 - first < ago) = false := decide_eq_false (by omega)
  have HK := Aside0.mk h10
  have H9 := Aside0.mk h9
  clear h10 h9
  clear hr hc hl h0 h1 hu hn hu2 hz hm ht1 ht2
  go_enter Try.func36, Try.ntmps36
  go_wp2_with fail
  have S0 := Aside0.mk (DecSt.new w (some ad) l.length c)
  refine (varint_yes k (w.heap.size + 1) (some ad) c l 1 off n _ S0.out.rd (Kd.C_below HR.out S0.out.bel) HC.out HL.out HU0.out HN0.out).mono ?_
  rintro e w1 ⟨rfl, hb, ht⟩
  have S1 := Aside0.mk (S0.out.turned ht hb)
  clear hb ht S0
  obtain ⟨p0, p1, p2⟩ := S1.out.pcells
  go_wp2_with fail
  refine (varint_yes k (w.heap.size + 1) (some ad) c l (1 + n) u m _ S1.out.rd (Kd.C_below HR.out S1.out.bel) HC.out HL.out HU1.out HM.out).mono ?_
  rintro e w2 ⟨rfl, hb, ht⟩
  have S2 := Aside0.mk (S1.out.turned ht hb)
  clear hb ht S1
  clear p0 p1 p2
  go_wp2_with fail
  refine (bits_Zag.calls u ago _ HZ.out).mono ?_
  rintro e w3 ⟨rfl, ⟨q, rfl⟩⟩
  obtain ⟨p0, p1, p2⟩ := S2.out.pcells
  obtain ⟨r0, r1, r2, r3, r4, r5⟩ := S2.out.rcells
  obtain ⟨z0, z1, z2, z3, z4, z5⟩ := S2.out.rfree
  have hx3 := pw_cell_below S2.out.bel HX.out
  go_wp2
  refine wp_region_still_tail 16 (by kernel_rfl) (by kernel_rfl) ?_
  change wpStill _ _ (World.drew _) _ _ _
  simp only [List.take_succ_cons, List.take_zero, List.drop_succ_cons, List.drop_zero]
  repeat still_step
  try refine wpStill_nil ?_
  have S4 := Aside0.mk (S2.out.drewN (q + 1))
  change wpList _ _ _ _ _ (w2.drewN (q + 1))
  clear p0 p1 p2 r0 r1 r2 r3 r4 r5 z0 z1 z2 z3 z4 z5 hx3 S2
  generalize w2.drewN (q + 1) = w4 at S4 ⊢
  obtain ⟨p0, p1, p2⟩ := S4.out.pcells
  obtain ⟨r0, r1, r2, r3, r4, r5⟩ := S4.out.rcells
  obtain ⟨z0, z1, z2, z3, z4, z5⟩ := S4.out.rfree
  go_wp2_with fail
  have S5 := Aside0.mk ((((((S4.out.set0 hk).set1 ⟨#[]⟩).set2 hv).set3 ⟨#[]⟩).set4 (first + ago)).set5 off)
  refine (text_calls k (w.heap.size + 1) (some ad) c l (1 + n + m) at3 hk false b3 key _ S5.out.rd (fun W ht => Kd.C_below HR.out (ht.below S5.out.bel (by omega))) HC.out HL.out HT1.out).mono ?_
  rintro e w6 ⟨rfl, hb, ht⟩
  have S6 := Aside0.mk (S5.out.turned ht hb)
  clear p0 p1 p2 r0 r1 r2 r3 r4 r5 z0 z1 z2 z3 z4 z5 hb ht S4 S5
  obtain ⟨p0, p1, p2⟩ := S6.out.pcells
  obtain ⟨r0, r1, r2, r3, r4, r5⟩ := S6.out.rcells
  obtain ⟨z0, z1, z2, z3, z4, z5⟩ := S6.out.rfree
  go_wp2_with fail
  have S7 := Aside0.mk (S6.out.set1 key)
  refine (text_calls k (w.heap.size + 1) (some ad) c l at3 at4 hv b3 b4 val _ S7.out.rd (fun W ht => Kd.C_below HR.out (ht.below S7.out.bel (by omega))) HC.out HL.out HT2.out).mono ?_
  rintro e w8 ⟨rfl, hb, ht⟩
  have S8 := Aside0.mk (S7.out.turned ht hb)
  clear p0 p1 p2 r0 r1 r2 r3 r4 r5 z0 z1 z2 z3 z4 z5 hb ht S6 S7
  obtain rfl : b4 = false := H9.out
  obtain ⟨p0, p1, p2⟩ := S8.out.pcells
  obtain ⟨r0, r1, r2, r3, r4, r5⟩ := S8.out.rcells
  obtain ⟨z0, z1, z2, z3, z4, z5⟩ := S8.out.rfree
  go_wp2_with fail
  have S9 := Aside0.mk (S8.out.set3 val)
  refine (record_Check.calls k hk key hv val (first + ago) off 0 _ HK.out).mono ?_
  rintro e w10 ⟨rfl, hb⟩
  have S10 := Aside0.mk (S9.out.below hb)
  clear p0 p1 p2 r0 r1 r2 r3 r4 r5 z0 z1 z2 z3 z4 z5 hb S8 S9
  obtain ⟨p0, p1, p2⟩ := S10.out.pcells
  obtain ⟨r0, r1, r2, r3, r4, r5⟩ := S10.out.rcells
  obtain ⟨z0, z1, z2, z3, z4, z5⟩ := S10.out.rfree
  go_wp2_with fail
  go_region
  all_goals go_wp2
  refine bodyPost_ret (v := .tuple #[.agg #[.bool hk, .string key, .bool hv, .string val, .int .i64 (first + ago), .int .i64 off], .int .i64 at4, .int .i64 0]) (by simp [results, Try.results36, go_sem, r0, r1, r2, r3, r4, r5]) rfl ⟨rfl, ?_⟩
  exact (((((((S10.out.set0 hk).set1 key).set2 hv).set3 val).set4 (first + ago)).set5 off).drewN 1).bel

set_option maxHeartbeats 2000000 in
set_option maxRecDepth 100000 in
theorem decode_over (k : Nat) (A : Option Addr) (c : Nat) (l : List Int) (first : Int) (off n u m ago : Int) (hk hv : Bool) (key val : ByteArray) (at3 at4 : Int) (b3 b4 : Bool) (w : World) (hr : Kd.C (Kd.int .u8) w A l.length l) (hc : l.length ≤ c) (h0 : 0 < l.length) (h1 : rd l 0 ≤ 3) (h2 : 0 ≤ first) (h3 : first ≤ 1125899906842624) (hl : l.length ≤ 1000000000000000) (hu : rdNum k l 1 = some (off, n)) (hn : n ≠ 0) (hu2 : rdNum k l (1 + n) = some (u, m)) (hz : bits_Zag.f u = some ago) (hm : m ≠ 0) (h40 : 0 ≤ off) (h4 : off < 100) (h5 : -first ≤ ago) (h6 : ago ≤ 1125899906842624 - first) (f7 : decide (0 < Go.bits BinOp.and IntKind.u8 (rd l 0) 1) = hk) (f8 : decide (0 < Go.bits BinOp.and IntKind.u8 (rd l 0) 2) = hv) (ht1 : rdText k l (1 + n + m) hk false = some (key, at3, b3)) (ht2 : rdText k l at3 hv b3 = some (val, at4, b4)) (h9 : b4 = true) :
    Calls Try.prog 36 #[.slice A l.length c, .int .i64 first] w fun e w' => e = .returned (.tuple #[.agg #[.bool false, .string ⟨#[]⟩, .bool false, .string ⟨#[]⟩, .int .i64 0, .int .i64 0], .int .i64 0, .int .i64 10]) ∧ Below w.heap.size w w' := by
  obtain ⟨ad, e, hx⟩ := Kd.at_int hr 0 (by decide) (by omega)
  cases e
  have qi : (0 < l.length) = True := eq_true (by omega)
  rw [show ((0 : Int)).toNat = 0 from rfl, Addr.add_zero'] at hx
  have hx' : ∀ o : Obj, (w.alloc o).cell? ad = some (.int .u8 (rd l 0)) := fun o => pw_cell_below (below_alloc (Below.refl _ _) o) hx
  have HX := Aside0.mk hx
  have f0 : ((l.length : Int) == 0) = false := by simpa using (by omega : ¬ (l.length = 0))
  have f1 : decide (3 < rd l 0) = false := decide_eq_false (by omega)
  have f2 : decide (first < 0) = false := decide_eq_false (by omega)
  have f3 : decide (1125899906842624 < first) = false := decide_eq_false (by omega)
  have HR := Aside0.mk hr
  have HC := Aside0.mk hc
  have HL := Aside0.mk hl
  have HU0 := Aside0.mk hu
  have HN0 := Aside0.mk hn
  have HU1 := Aside0.mk hu2
  have HZ := Aside0.mk hz
  have HM := Aside0.mk hm
  have HT1 := Aside0.mk ht1
  have HT2 := Aside0.mk ht2
  have f4 : decide (100 ≤ off) = false := decide_eq_false (by omega)
  have f5 : decide (ago < -first) = false := decide_eq_false (by omega)
  have f6 : decide (1125899906842624 - first < ago) = false := decide_eq_false (by omega)
  have H9 := Aside0.mk h9
  clear h9
  clear hr hc hl h0 h1 hu hn hu2 hz hm ht1 ht2
  go_enter Try.func36, Try.ntmps36
  go_wp2_with fail
  have S0 := Aside0.mk (DecSt.new w (some ad) l.length c)
  refine (varint_yes k (w.heap.size + 1) (some ad) c l 1 off n _ S0.out.rd (Kd.C_below HR.out S0.out.bel) HC.out HL.out HU0.out HN0.out).mono ?_
  rintro e w1 ⟨rfl, hb, ht⟩
  have S1 := Aside0.mk (S0.out.turned ht hb)
  clear hb ht S0
  obtain ⟨p0, p1, p2⟩ := S1.out.pcells
  go_wp2_with fail
  refine (varint_yes k (w.heap.size + 1) (some ad) c l (1 + n) u m _ S1.out.rd (Kd.C_below HR.out S1.out.bel) HC.out HL.out HU1.out HM.out).mono ?_
  rintro e w2 ⟨rfl, hb, ht⟩
  have S2 := Aside0.mk (S1.out.turned ht hb)
  clear hb ht S1
  clear p0 p1 p2
  go_wp2_with fail
  refine (bits_Zag.calls u ago _ HZ.out).mono ?_
  rintro e w3 ⟨rfl, ⟨q, rfl⟩⟩
  obtain ⟨p0, p1, p2⟩ := S2.out.pcells
  obtain ⟨r0, r1, r2, r3, r4, r5⟩ := S2.out.rcells
  obtain ⟨z0, z1, z2, z3, z4, z5⟩ := S2.out.rfree
  have hx3 := pw_cell_below S2.out.bel HX.out
  go_wp2
  refine wp_region_still_tail 16 (by kernel_rfl) (by kernel_rfl) ?_
  change wpStill _ _ (World.drew _) _ _ _
  simp only [List.take_succ_cons, List.take_zero, List.drop_succ_cons, List.drop_zero]
  repeat still_step
  try refine wpStill_nil ?_
  have S4 := Aside0.mk (S2.out.drewN (q + 1))
  change wpList _ _ _ _ _ (w2.drewN (q + 1))
  clear p0 p1 p2 r0 r1 r2 r3 r4 r5 z0 z1 z2 z3 z4 z5 hx3 S2
  generalize w2.drewN (q + 1) = w4 at S4 ⊢
  obtain ⟨p0, p1, p2⟩ := S4.out.pcells
  obtain ⟨r0, r1, r2, r3, r4, r5⟩ := S4.out.rcells
  obtain ⟨z0, z1, z2, z3, z4, z5⟩ := S4.out.rfree
  go_wp2_with fail
  have S5 := Aside0.mk ((((((S4.out.set0 hk).set1 ⟨#[]⟩).set2 hv).set3 ⟨#[]⟩).set4 (first + ago)).set5 off)
  refine (text_calls k (w.heap.size + 1) (some ad) c l (1 + n + m) at3 hk false b3 key _ S5.out.rd (fun W ht => Kd.C_below HR.out (ht.below S5.out.bel (by omega))) HC.out HL.out HT1.out).mono ?_
  rintro e w6 ⟨rfl, hb, ht⟩
  have S6 := Aside0.mk (S5.out.turned ht hb)
  clear p0 p1 p2 r0 r1 r2 r3 r4 r5 z0 z1 z2 z3 z4 z5 hb ht S4 S5
  obtain ⟨p0, p1, p2⟩ := S6.out.pcells
  obtain ⟨r0, r1, r2, r3, r4, r5⟩ := S6.out.rcells
  obtain ⟨z0, z1, z2, z3, z4, z5⟩ := S6.out.rfree
  go_wp2_with fail
  have S7 := Aside0.mk (S6.out.set1 key)
  refine (text_calls k (w.heap.size + 1) (some ad) c l at3 at4 hv b3 b4 val _ S7.out.rd (fun W ht => Kd.C_below HR.out (ht.below S7.out.bel (by omega))) HC.out HL.out HT2.out).mono ?_
  rintro e w8 ⟨rfl, hb, ht⟩
  have S8 := Aside0.mk (S7.out.turned ht hb)
  clear p0 p1 p2 r0 r1 r2 r3 r4 r5 z0 z1 z2 z3 z4 z5 hb ht S6 S7
  obtain rfl : b4 = true := H9.out
  obtain ⟨p0, p1, p2⟩ := S8.out.pcells
  obtain ⟨r0, r1, r2, r3, r4, r5⟩ := S8.out.rcells
  obtain ⟨z0, z1, z2, z3, z4, z5⟩ := S8.out.rfree
  go_wp2
  refine bodyPost_ret (v := .tuple #[.agg #[.bool false, .string ⟨#[]⟩, .bool false, .string ⟨#[]⟩, .int .i64 0, .int .i64 0], .int .i64 0, .int .i64 10]) (by simp [results, Try.results36, go_sem, r0, r1, r2, r3, r4, r5]) rfl ⟨rfl, ?_⟩
  exact (((((((S8.out.set3 val).set0 false).set1 ⟨#[]⟩).set2 false).set3 ⟨#[]⟩).set4 0).set5 0).bel

set_option maxHeartbeats 2000000 in
set_option maxRecDepth 100000 in
theorem decode_wrong (k : Nat) (A : Option Addr) (c : Nat) (l : List Int) (first : Int) (off n u m ago : Int) (hk hv : Bool) (key val : ByteArray) (at3 at4 : Int) (b3 b4 : Bool) (e : Int) (w : World) (hr : Kd.C (Kd.int .u8) w A l.length l) (hc : l.length ≤ c) (h0 : 0 < l.length) (h1 : rd l 0 ≤ 3) (h2 : 0 ≤ first) (h3 : first ≤ 1125899906842624) (hl : l.length ≤ 1000000000000000) (hu : rdNum k l 1 = some (off, n)) (hn : n ≠ 0) (hu2 : rdNum k l (1 + n) = some (u, m)) (hz : bits_Zag.f u = some ago) (hm : m ≠ 0) (h40 : 0 ≤ off) (h4 : off < 100) (h5 : -first ≤ ago) (h6 : ago ≤ 1125899906842624 - first) (f7 : decide (0 < Go.bits BinOp.and IntKind.u8 (rd l 0) 1) = hk) (f8 : decide (0 < Go.bits BinOp.and IntKind.u8 (rd l 0) 2) = hv) (ht1 : rdText k l (1 + n + m) hk false = some (key, at3, b3)) (ht2 : rdText k l at3 hv b3 = some (val, at4, b4)) (h9 : b4 = false) (h10 : record_Check.f k hk key hv val (first + ago) off = some e) (h11 : e ≠ 0) :
    Calls Try.prog 36 #[.slice A l.length c, .int .i64 first] w fun e w' => e = .returned (.tuple #[.agg #[.bool false, .string ⟨#[]⟩, .bool false, .string ⟨#[]⟩, .int .i64 0, .int .i64 0], .int .i64 0, .int .i64 10]) ∧ Below w.heap.size w w' := by
  obtain ⟨ad, e, hx⟩ := Kd.at_int hr 0 (by decide) (by omega)
  cases e
  have qi : (0 < l.length) = True := eq_true (by omega)
  rw [show ((0 : Int)).toNat = 0 from rfl, Addr.add_zero'] at hx
  have hx' : ∀ o : Obj, (w.alloc o).cell? ad = some (.int .u8 (rd l 0)) := fun o => pw_cell_below (below_alloc (Below.refl _ _) o) hx
  have HX := Aside0.mk hx
  have f0 : ((l.length : Int) == 0) = false := by simpa using (by omega : ¬ (l.length = 0))
  have f1 : decide (3 < rd l 0) = false := decide_eq_false (by omega)
  have f2 : decide (first < 0) = false := decide_eq_false (by omega)
  have f3 : decide (1125899906842624 < first) = false := decide_eq_false (by omega)
  have HR := Aside0.mk hr
  have HC := Aside0.mk hc
  have HL := Aside0.mk hl
  have HU0 := Aside0.mk hu
  have HN0 := Aside0.mk hn
  have HU1 := Aside0.mk hu2
  have HZ := Aside0.mk hz
  have HM := Aside0.mk hm
  have HT1 := Aside0.mk ht1
  have HT2 := Aside0.mk ht2
  have f4 : decide (100 ≤ off) = false := decide_eq_false (by omega)
  have f5 : decide (ago < -first) = false := decide_eq_false (by omega)
  have f6 : decide (1125899906842624 - first < ago) = false := decide_eq_false (by omega)
  have HK := Aside0.mk h10
  have H9 := Aside0.mk h9
  have f11 : (e != 0) = true := bne_iff_ne.mpr h11
  clear h10 h9 h11
  clear hr hc hl h0 h1 hu hn hu2 hz hm ht1 ht2
  go_enter Try.func36, Try.ntmps36
  go_wp2_with fail
  have S0 := Aside0.mk (DecSt.new w (some ad) l.length c)
  refine (varint_yes k (w.heap.size + 1) (some ad) c l 1 off n _ S0.out.rd (Kd.C_below HR.out S0.out.bel) HC.out HL.out HU0.out HN0.out).mono ?_
  rintro e w1 ⟨rfl, hb, ht⟩
  have S1 := Aside0.mk (S0.out.turned ht hb)
  clear hb ht S0
  obtain ⟨p0, p1, p2⟩ := S1.out.pcells
  go_wp2_with fail
  refine (varint_yes k (w.heap.size + 1) (some ad) c l (1 + n) u m _ S1.out.rd (Kd.C_below HR.out S1.out.bel) HC.out HL.out HU1.out HM.out).mono ?_
  rintro e w2 ⟨rfl, hb, ht⟩
  have S2 := Aside0.mk (S1.out.turned ht hb)
  clear hb ht S1
  clear p0 p1 p2
  go_wp2_with fail
  refine (bits_Zag.calls u ago _ HZ.out).mono ?_
  rintro e w3 ⟨rfl, ⟨q, rfl⟩⟩
  obtain ⟨p0, p1, p2⟩ := S2.out.pcells
  obtain ⟨r0, r1, r2, r3, r4, r5⟩ := S2.out.rcells
  obtain ⟨z0, z1, z2, z3, z4, z5⟩ := S2.out.rfree
  have hx3 := pw_cell_below S2.out.bel HX.out
  go_wp2
  refine wp_region_still_tail 16 (by kernel_rfl) (by kernel_rfl) ?_
  change wpStill _ _ (World.drew _) _ _ _
  simp only [List.take_succ_cons, List.take_zero, List.drop_succ_cons, List.drop_zero]
  repeat still_step
  try refine wpStill_nil ?_
  have S4 := Aside0.mk (S2.out.drewN (q + 1))
  change wpList _ _ _ _ _ (w2.drewN (q + 1))
  clear p0 p1 p2 r0 r1 r2 r3 r4 r5 z0 z1 z2 z3 z4 z5 hx3 S2
  generalize w2.drewN (q + 1) = w4 at S4 ⊢
  obtain ⟨p0, p1, p2⟩ := S4.out.pcells
  obtain ⟨r0, r1, r2, r3, r4, r5⟩ := S4.out.rcells
  obtain ⟨z0, z1, z2, z3, z4, z5⟩ := S4.out.rfree
  go_wp2_with fail
  have S5 := Aside0.mk ((((((S4.out.set0 hk).set1 ⟨#[]⟩).set2 hv).set3 ⟨#[]⟩).set4 (first + ago)).set5 off)
  refine (text_calls k (w.heap.size + 1) (some ad) c l (1 + n + m) at3 hk false b3 key _ S5.out.rd (fun W ht => Kd.C_below HR.out (ht.below S5.out.bel (by omega))) HC.out HL.out HT1.out).mono ?_
  rintro e w6 ⟨rfl, hb, ht⟩
  have S6 := Aside0.mk (S5.out.turned ht hb)
  clear p0 p1 p2 r0 r1 r2 r3 r4 r5 z0 z1 z2 z3 z4 z5 hb ht S4 S5
  obtain ⟨p0, p1, p2⟩ := S6.out.pcells
  obtain ⟨r0, r1, r2, r3, r4, r5⟩ := S6.out.rcells
  obtain ⟨z0, z1, z2, z3, z4, z5⟩ := S6.out.rfree
  go_wp2_with fail
  have S7 := Aside0.mk (S6.out.set1 key)
  refine (text_calls k (w.heap.size + 1) (some ad) c l at3 at4 hv b3 b4 val _ S7.out.rd (fun W ht => Kd.C_below HR.out (ht.below S7.out.bel (by omega))) HC.out HL.out HT2.out).mono ?_
  rintro e w8 ⟨rfl, hb, ht⟩
  have S8 := Aside0.mk (S7.out.turned ht hb)
  clear p0 p1 p2 r0 r1 r2 r3 r4 r5 z0 z1 z2 z3 z4 z5 hb ht S6 S7
  obtain rfl : b4 = false := H9.out
  obtain ⟨p0, p1, p2⟩ := S8.out.pcells
  obtain ⟨r0, r1, r2, r3, r4, r5⟩ := S8.out.rcells
  obtain ⟨z0, z1, z2, z3, z4, z5⟩ := S8.out.rfree
  go_wp2_with fail
  have S9 := Aside0.mk (S8.out.set3 val)
  refine (record_Check.calls k hk key hv val (first + ago) off e _ HK.out).mono ?_
  rintro e w10 ⟨rfl, hb⟩
  have S10 := Aside0.mk (S9.out.below hb)
  clear p0 p1 p2 r0 r1 r2 r3 r4 r5 z0 z1 z2 z3 z4 z5 hb S8 S9
  obtain ⟨p0, p1, p2⟩ := S10.out.pcells
  obtain ⟨r0, r1, r2, r3, r4, r5⟩ := S10.out.rcells
  obtain ⟨z0, z1, z2, z3, z4, z5⟩ := S10.out.rfree
  go_wp2
  refine bodyPost_ret (v := .tuple #[.agg #[.bool false, .string ⟨#[]⟩, .bool false, .string ⟨#[]⟩, .int .i64 0, .int .i64 0], .int .i64 0, .int .i64 10]) (by simp [results, Try.results36, go_sem, r0, r1, r2, r3, r4, r5]) rfl ⟨rfl, ?_⟩
  exact ((((((S10.out.set0 false).set1 ⟨#[]⟩).set2 false).set3 ⟨#[]⟩).set4 0).set5 0).bel

/-- What Decode tells: the record, the place behind it, the error. -/
def record_Decode.bad : Option (Bool × ByteArray × Bool × ByteArray × Int × Int × Int × Int) := some (false, ⟨#[]⟩, false, ⟨#[]⟩, 0, 0, 0, 10)
def record_Decode.f (k : Nat) (l : List Int) (first : Int) : Option (Bool × ByteArray × Bool × ByteArray × Int × Int × Int × Int) :=
  if ¬ l.length ≤ 1000000000000000 then none else if l.length = 0 then record_Decode.bad else if 3 < rd l 0 then record_Decode.bad else if first < 0 then record_Decode.bad else if 1125899906842624 < first then record_Decode.bad
  else (rdNum k l 1).bind fun t => if t.2 = 0 then record_Decode.bad else (rdNum k l (1 + t.2)).bind fun u => (bits_Zag.f u.1).bind fun ago =>
    if u.2 = 0 then record_Decode.bad else if 100 ≤ t.1 then record_Decode.bad else if ago < -first then record_Decode.bad else if 1125899906842624 - first < ago then record_Decode.bad
    else (rdText k l (1 + t.2 + u.2) (decide (0 < Go.bits BinOp.and IntKind.u8 (rd l 0) 1)) false).bind fun x => (rdText k l x.2.1 (decide (0 < Go.bits BinOp.and IntKind.u8 (rd l 0) 2)) x.2.2).bind fun y =>
      if y.2.2 = true then record_Decode.bad else (record_Check.f k (decide (0 < Go.bits BinOp.and IntKind.u8 (rd l 0) 1)) x.1 (decide (0 < Go.bits BinOp.and IntKind.u8 (rd l 0) 2)) y.1 (first + ago) t.1).bind fun e =>
        if e = 0 then some (decide (0 < Go.bits BinOp.and IntKind.u8 (rd l 0) 1), x.1, decide (0 < Go.bits BinOp.and IntKind.u8 (rd l 0) 2), y.1, first + ago, t.1, y.2.1, 0) else record_Decode.bad
theorem rdNum.mono (k : Nat) (l : List Int) (at_ : Int) : LeO (rdNum k l at_) (rdNum (k + 1) l at_) := by
  unfold rdNum
  exact LeO.bind (bits_Unvarint.mono _ _) (fun _ => LeO.refl _)
theorem rdText.mono (k : Nat) (l : List Int) (at_ : Int) (is bad : Bool) : LeO (rdText k l at_ is bad) (rdText (k + 1) l at_ is bad) := by
  unfold rdText
  exact LeO.ite (LeO.refl _) (LeO.bind (rdNum.mono _ _ _) (fun _ => LeO.refl _))
theorem record_Decode.mono : ∀ a0 a1 k, LeO (record_Decode.f k a0 a1) (record_Decode.f (k + 1) a0 a1) := by
  intro l first k
  unfold record_Decode.f
  refine LeO.ite (LeO.refl _) (LeO.ite (LeO.refl _) (LeO.ite (LeO.refl _) (LeO.ite (LeO.refl _) (LeO.ite (LeO.refl _) ?_))))
  refine LeO.bind (rdNum.mono _ _ _) (fun _ => LeO.ite (LeO.refl _) (LeO.bind (rdNum.mono _ _ _) (fun _ => LeO.bind (LeO.refl _) (fun _ => ?_))))
  refine LeO.ite (LeO.refl _) (LeO.ite (LeO.refl _) (LeO.ite (LeO.refl _) (LeO.ite (LeO.refl _) ?_)))
  refine LeO.bind (rdText.mono _ _ _ _ _) (fun _ => LeO.bind (rdText.mono _ _ _ _ _) (fun _ => LeO.ite (LeO.refl _) (LeO.bind (record_Check.mono _ _ _ _ _ _ _) (fun _ => LeO.refl _))))
theorem record_Decode.calls (k : Nat) (A0 : Option Addr) (c0 : Nat) (l0 : List Int) (a1 : Int) (r1 : Bool) (r2 : ByteArray) (r3 : Bool) (r4 : ByteArray) (r5 : Int) (r6 : Int) (r7 : Int) (r8 : Int) (w : World) (hr0 : Kd.C (Kd.int .u8) w A0 l0.length l0) (hc0 : l0.length ≤ c0) (h : record_Decode.f k l0 a1 = some (r1, r2, r3, r4, r5, r6, r7, r8)) :
    Calls Try.prog 36 #[.slice A0 l0.length c0, .int .i64 a1] w fun e w' => e = .returned (.tuple #[.agg #[.bool r1, .string r2, .bool r3, .string r4, .int .i64 r5, .int .i64 r6], .int .i64 r7, .int .i64 r8]) ∧ Below w.heap.size w w' := by
  have bad : ∀ {r}, record_Decode.bad = some r → r = (false, ⟨#[]⟩, false, ⟨#[]⟩, 0, 0, 0, 10) := fun h => (Option.some.inj h).symm
  unfold record_Decode.f at h
  by_cases hl : l0.length ≤ 1000000000000000
  case neg => rw [if_pos hl] at h; cases h
  rw [if_neg (not_not_intro hl)] at h
  by_cases h0 : l0.length = 0
  · rw [if_pos h0] at h
    have q := bad h; simp only [Prod.mk.injEq] at q; obtain ⟨rfl, rfl, rfl, rfl, rfl, rfl, rfl, rfl⟩ := q
    exact decode_empty k A0 c0 l0 a1 w hr0 hc0 h0
  rw [if_neg h0] at h
  by_cases h1 : 3 < rd l0 0
  · rw [if_pos h1] at h
    have q := bad h; simp only [Prod.mk.injEq] at q; obtain ⟨rfl, rfl, rfl, rfl, rfl, rfl, rfl, rfl⟩ := q
    exact decode_flags k A0 c0 l0 a1 w hr0 hc0 (by omega) h1
  rw [if_neg h1] at h
  by_cases h2 : a1 < 0
  · rw [if_pos h2] at h
    have q := bad h; simp only [Prod.mk.injEq] at q; obtain ⟨rfl, rfl, rfl, rfl, rfl, rfl, rfl, rfl⟩ := q
    exact decode_first0 k A0 c0 l0 a1 w hr0 hc0 (by omega) (by omega) h2
  rw [if_neg h2] at h
  by_cases h3 : 1125899906842624 < a1
  · rw [if_pos h3] at h
    have q := bad h; simp only [Prod.mk.injEq] at q; obtain ⟨rfl, rfl, rfl, rfl, rfl, rfl, rfl, rfl⟩ := q
    exact decode_first1 k A0 c0 l0 a1 w hr0 hc0 (by omega) (by omega) (by omega) h3
  rw [if_neg h3] at h
  obtain ⟨⟨off, n⟩, hu, h⟩ := Option.bind_eq_some_iff.mp h
  dsimp only at h
  by_cases hn : n = 0
  · rw [if_pos hn] at h
    have q := bad h; simp only [Prod.mk.injEq] at q; obtain ⟨rfl, rfl, rfl, rfl, rfl, rfl, rfl, rfl⟩ := q
    subst hn
    exact decode_none1 k A0 c0 l0 a1 off w hr0 hc0 (by omega) (by omega) (by omega) (by omega) hl hu
  rw [if_neg hn] at h
  obtain ⟨⟨u, m⟩, hu2, h⟩ := Option.bind_eq_some_iff.mp h
  dsimp only at h
  obtain ⟨ago, hz, h⟩ := Option.bind_eq_some_iff.mp h
  by_cases hm : m = 0
  · rw [if_pos hm] at h
    have q := bad h; simp only [Prod.mk.injEq] at q; obtain ⟨rfl, rfl, rfl, rfl, rfl, rfl, rfl, rfl⟩ := q
    subst hm
    exact decode_none2 k A0 c0 l0 a1 off n u ago w hr0 hc0 (by omega) (by omega) (by omega) (by omega) hl hu hn hu2 hz
  rw [if_neg hm] at h
  by_cases h4 : 100 ≤ off
  · rw [if_pos h4] at h
    have q := bad h; simp only [Prod.mk.injEq] at q; obtain ⟨rfl, rfl, rfl, rfl, rfl, rfl, rfl, rfl⟩ := q
    exact decode_off k A0 c0 l0 a1 off n u m ago w hr0 hc0 (by omega) (by omega) (by omega) (by omega) hl hu hn hu2 hz hm h4
  rw [if_neg h4] at h
  by_cases h5 : ago < -a1
  · rw [if_pos h5] at h
    have q := bad h; simp only [Prod.mk.injEq] at q; obtain ⟨rfl, rfl, rfl, rfl, rfl, rfl, rfl, rfl⟩ := q
    exact decode_ago0 k A0 c0 l0 a1 off n u m ago w hr0 hc0 (by omega) (by omega) (by omega) (by omega) hl hu hn hu2 hz hm (by omega) h5
  rw [if_neg h5] at h
  by_cases h6 : 1125899906842624 - a1 < ago
  · rw [if_pos h6] at h
    have q := bad h; simp only [Prod.mk.injEq] at q; obtain ⟨rfl, rfl, rfl, rfl, rfl, rfl, rfl, rfl⟩ := q
    exact decode_ago1 k A0 c0 l0 a1 off n u m ago w hr0 hc0 (by omega) (by omega) (by omega) (by omega) hl hu hn hu2 hz hm (by omega) (by omega) h6
  rw [if_neg h6] at h
  obtain ⟨⟨key, at3, b3⟩, ht1, h⟩ := Option.bind_eq_some_iff.mp h
  dsimp only at h
  obtain ⟨⟨val, at4, b4⟩, ht2, h⟩ := Option.bind_eq_some_iff.mp h
  dsimp only at h
  have hoff : 0 ≤ off := (rdNum_tells hu).2.1
  by_cases h9 : b4 = true
  · rw [if_pos h9] at h
    have q := bad h; simp only [Prod.mk.injEq] at q; obtain ⟨rfl, rfl, rfl, rfl, rfl, rfl, rfl, rfl⟩ := q
    exact decode_over k A0 c0 l0 a1 off n u m ago _ _ key val at3 at4 b3 b4 w hr0 hc0 (by omega) (by omega) (by omega) (by omega) hl hu hn hu2 hz hm hoff (by omega) (by omega) (by omega) rfl rfl ht1 ht2 h9
  rw [if_neg h9] at h
  have h9' : b4 = false := by simpa using h9
  obtain ⟨e, hk, h⟩ := Option.bind_eq_some_iff.mp h
  by_cases h10 : e = 0
  · rw [if_pos h10] at h
    have q := (Option.some.inj h).symm; simp only [Prod.mk.injEq] at q; obtain ⟨rfl, rfl, rfl, rfl, rfl, rfl, rfl, rfl⟩ := q
    exact decode_good k A0 c0 l0 a1 _ n u m ago _ _ _ _ at3 _ b3 b4 w hr0 hc0 (by omega) (by omega) (by omega) (by omega) hl hu hn hu2 hz hm hoff (by omega) (by omega) (by omega) rfl rfl ht1 ht2 h9' (by rw [h10] at hk; exact hk)
  · rw [if_neg h10] at h
    have q := bad h; simp only [Prod.mk.injEq] at q; obtain ⟨rfl, rfl, rfl, rfl, rfl, rfl, rfl, rfl⟩ := q
    exact decode_wrong k A0 c0 l0 a1 off n u m ago _ _ key val at3 at4 b3 b4 e w hr0 hc0 (by omega) (by omega) (by omega) (by omega) hl hu hn hu2 hz hm hoff (by omega) (by omega) (by omega) rfl rfl ht1 ht2 h9' hk h10

/-! ### bytes_Equal: function 37 -/
def bytes_Equal.f (l0 : List Int) (l1 : List Int) : Option (Bool) := some ((strOfNums l0).toList == (strOfNums l1).toList)
set_option maxHeartbeats 8000000 in
set_option maxRecDepth 100000 in
theorem bytes_Equal.calls (A0 : Option Addr) (c0 : Nat) (l0 : List Int) (A1 : Option Addr) (c1 : Nat) (l1 : List Int) (r : Bool) (w : World) (hr0 : Kd.C (Kd.int .u8) w A0 l0.length l0) (hc0 : l0.length ≤ c0) (hr1 : Kd.C (Kd.int .u8) w A1 l1.length l1) (hc1 : l1.length ≤ c1) (h : bytes_Equal.f l0 l1 = some r) :
    Calls Try.prog 37 #[.slice A0 l0.length c0, .slice A1 l1.length c1] w fun e w' => e = .returned (.bool r) ∧ Drawn0 w w' := by
  have HR0 := Aside0.mk hr0
  have HC0 := Aside0.mk hc0
  clear hr0 hc0
  have HR1 := Aside0.mk hr1
  have HC1 := Aside0.mk hc1
  clear hr1 hc1
  have H : (some ((strOfNums l0).toList == (strOfNums l1).toList)) = some r := h
  clear h
  obtain rfl := Option.some.inj H
  have hcv3 := Kd.C_string (P := Try.prog) (A := A0) (c := c0) Try.underlying27 Try.underlying5 Try.underlying9 HR0.out
  have hcv4 := Kd.C_string (P := Try.prog) (A := A1) (c := c1) Try.underlying27 Try.underlying5 Try.underlying9 HR1.out
  go_enter Try.func37, Try.ntmps37
  go_wp2
  go_ret
  exact ⟨by first | rfl | (simp; done) | (simp [*]; done) | exact congrArg Value.bool (ne_empty _) | exact congrArg Value.bool (eq_empty _), by repeat (first | exact Drawn0.refl _ | apply Drawn0.step)⟩

end Go.Proofs.Ytgmeellapjimgaa.PBm
