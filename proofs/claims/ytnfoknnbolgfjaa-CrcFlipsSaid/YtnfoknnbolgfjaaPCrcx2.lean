-- written by a program of this session (wip/tools/pr.py, over the kit's printer): not by hand
import Derived.Test.YtnfoknnbolgfjaaPCrcx0
import Derived.Test.YtnfoknnbolgfjaaPCrcx1
namespace Go.Proofs.Ytnfoknnbolgfjaa.PCrc
open Go.RowKit Go.Proofs.YtnfoknnbolgfjaaW.PrintWords Go.Proofs.YtnfoknnbolgfjaaW.PrintLast Go.Proofs.YtnfoknnbolgfjaaW.PrintMore
attribute [local go_sem] max2_int min2_int max_two min_two max_three min_three max_four min_four   -- for this text's walks alone
set_option linter.unusedVariables false
set_option linter.unusedSimpArgs false

/-! ### bollardlaw2_CrcFlips: function 4 -/
mutual
def bollardlaw2_CrcFlips.j0 : Nat → List Int → Int → Int → Bool → Option (Bool)
  | 0, _, _, _, _ => none
  | k + 1, x0, x1, x2, x22 => if x22 = true then ((bollardlaw2_awake.f k).bind fun t124 => (some t124)) else (if (x0.length : Int) = 0 then (none) else (if (Int.tmod x1 (x0.length : Int)) < 0 then (bollardlaw2_CrcFlips.j1 k x0 (wrap64 (-(Int.tmod x1 (x0.length : Int)))) x2) else (bollardlaw2_CrcFlips.j1 k x0 (Int.tmod x1 (x0.length : Int)) x2)))
def bollardlaw2_CrcFlips.j1 : Nat → List Int → Int → Int → Option (Bool)
  | 0, _, _, _ => none
  | k + 1, x0, x1, x2 => if ([] : List Int).length + x0.length < 140737488355328 then (bollardlaw2_CrcFlips.l0 k x0 x1 x2 (([] : List Int) ++ x0) false 0) else (none)
def bollardlaw2_CrcFlips.l0 : Nat → List Int → Int → Int → List Int → Bool → Int → Option (Bool)
  | 0, _, _, _, _, _, _ => none
  | k + 1, x0, x1, x2, x7, x8, x9 => if x9 < 4 then (if (wrap64 (x1 + x9)) < (x7.length : Int) then (if 0 ≤ (wrap64 (8 * x9)) then (if 0 ≤ (wrap64 (x1 + x9)) then ((some (x7.set ((wrap64 (x1 + x9)) : Int).toNat (Go.bits .xor .u8 (rd x7 (wrap64 (x1 + x9))) ((shr .u32 x2 (wrap64 (8 * x9))) % 256)) : List Int)).bind fun y129 => (if x8 = true then (bollardlaw2_CrcFlips.l0 k x0 x1 x2 y129 true (wrap64 (x9 + 1))) else (bollardlaw2_CrcFlips.l0 k x0 x1 x2 y129 (((shr .u32 x2 (wrap64 (8 * x9))) % 256) != 0) (wrap64 (x9 + 1))))) else (none)) else (none)) else ((crc_Sum.f k x7).bind fun t130 => ((crc_Sum.f k x0).bind fun t131 => (if ((t130 != t131) == x8) = true then ((bollardlaw2_awake.f k).bind fun t132 => (some t132)) else (some false))))) else ((crc_Sum.f k x7).bind fun t133 => ((crc_Sum.f k x0).bind fun t134 => (if ((t133 != t134) == x8) = true then ((bollardlaw2_awake.f k).bind fun t135 => (some t135)) else (some false))))
end
def bollardlaw2_CrcFlips.f (k : Nat) (l0 : List Int) (a1 : Int) (a2 : Int) : Option (Bool) := if (l0.length : Int) > 3000 then (bollardlaw2_CrcFlips.j0 k l0 a1 a2 true) else (if (l0.length : Int) = 0 then (bollardlaw2_CrcFlips.j0 k l0 a1 a2 true) else (bollardlaw2_CrcFlips.j0 k l0 a1 a2 (a2 == 0)))
theorem bollardlaw2_CrcFlips.mono_l : ∀ k, (∀ y0 y1 y2 y3, LeO (bollardlaw2_CrcFlips.j0 k y0 y1 y2 y3) (bollardlaw2_CrcFlips.j0 (k + 1) y0 y1 y2 y3)) ∧ (∀ y0 y1 y2, LeO (bollardlaw2_CrcFlips.j1 k y0 y1 y2) (bollardlaw2_CrcFlips.j1 (k + 1) y0 y1 y2)) ∧ (∀ y0 y1 y2 y3 y4 y5, LeO (bollardlaw2_CrcFlips.l0 k y0 y1 y2 y3 y4 y5) (bollardlaw2_CrcFlips.l0 (k + 1) y0 y1 y2 y3 y4 y5))
  | 0 => ⟨fun _ _ _ _ r h => by simp [bollardlaw2_CrcFlips.j0] at h, fun _ _ _ r h => by simp [bollardlaw2_CrcFlips.j1] at h, fun _ _ _ _ _ _ r h => by simp [bollardlaw2_CrcFlips.l0] at h⟩
  | k + 1 => by
    obtain ⟨ih0, ih1, ih2⟩ := bollardlaw2_CrcFlips.mono_l k
    refine ⟨?_, ?_, ?_⟩
    · intro y0 y1 y2 y3
      unfold bollardlaw2_CrcFlips.j0
      repeat' first
      | (with_reducible exact ih0 _ _ _ _)
      | (with_reducible exact ih1 _ _ _)
      | (with_reducible exact ih2 _ _ _ _ _ _)
      | (with_reducible exact bollardlaw2_awake.mono _)
      | (with_reducible exact crc_Sum.mono _ _)
      | (with_reducible exact LeO.refl _)
      | (with_reducible exact LeO.none _)
      | (with_reducible refine LeO.ite ?_ ?_)
      | (with_reducible refine LeO.bind ?_ (fun _ => ?_))
      | exact ih0 _ _ _ _
      | exact ih1 _ _ _
      | exact ih2 _ _ _ _ _ _
      | exact bollardlaw2_awake.mono _
      | exact crc_Sum.mono _ _
      | exact LeO.none _
      | refine LeO.ite ?_ ?_
      | refine LeO.bind ?_ (fun _ => ?_)
    · intro y0 y1 y2
      unfold bollardlaw2_CrcFlips.j1
      repeat' first
      | (with_reducible exact ih0 _ _ _ _)
      | (with_reducible exact ih1 _ _ _)
      | (with_reducible exact ih2 _ _ _ _ _ _)
      | (with_reducible exact bollardlaw2_awake.mono _)
      | (with_reducible exact crc_Sum.mono _ _)
      | (with_reducible exact LeO.refl _)
      | (with_reducible exact LeO.none _)
      | (with_reducible refine LeO.ite ?_ ?_)
      | (with_reducible refine LeO.bind ?_ (fun _ => ?_))
      | exact ih0 _ _ _ _
      | exact ih1 _ _ _
      | exact ih2 _ _ _ _ _ _
      | exact bollardlaw2_awake.mono _
      | exact crc_Sum.mono _ _
      | exact LeO.none _
      | refine LeO.ite ?_ ?_
      | refine LeO.bind ?_ (fun _ => ?_)
    · intro y0 y1 y2 y3 y4 y5
      unfold bollardlaw2_CrcFlips.l0
      repeat' first
      | (with_reducible exact ih0 _ _ _ _)
      | (with_reducible exact ih1 _ _ _)
      | (with_reducible exact ih2 _ _ _ _ _ _)
      | (with_reducible exact bollardlaw2_awake.mono _)
      | (with_reducible exact crc_Sum.mono _ _)
      | (with_reducible exact LeO.refl _)
      | (with_reducible exact LeO.none _)
      | (with_reducible refine LeO.ite ?_ ?_)
      | (with_reducible refine LeO.bind ?_ (fun _ => ?_))
      | exact ih0 _ _ _ _
      | exact ih1 _ _ _
      | exact ih2 _ _ _ _ _ _
      | exact bollardlaw2_awake.mono _
      | exact crc_Sum.mono _ _
      | exact LeO.none _
      | refine LeO.ite ?_ ?_
      | refine LeO.bind ?_ (fun _ => ?_)
theorem bollardlaw2_CrcFlips.mono : ∀ a0 a1 a2 k, LeO (bollardlaw2_CrcFlips.f k a0 a1 a2) (bollardlaw2_CrcFlips.f (k + 1) a0 a1 a2) := by
  intro a0 a1 a2 k
  obtain ⟨ih0, ih1, ih2⟩ := bollardlaw2_CrcFlips.mono_l k
  unfold bollardlaw2_CrcFlips.f
  repeat' first
      | (with_reducible exact ih0 _ _ _ _)
      | (with_reducible exact ih1 _ _ _)
      | (with_reducible exact ih2 _ _ _ _ _ _)
      | (with_reducible exact bollardlaw2_awake.mono _)
      | (with_reducible exact crc_Sum.mono _ _)
      | (with_reducible exact LeO.refl _)
      | (with_reducible exact LeO.none _)
      | (with_reducible refine LeO.ite ?_ ?_)
      | (with_reducible refine LeO.bind ?_ (fun _ => ?_))
      | exact ih0 _ _ _ _
      | exact ih1 _ _ _
      | exact ih2 _ _ _ _ _ _
      | exact bollardlaw2_awake.mono _
      | exact crc_Sum.mono _ _
      | exact LeO.none _
      | refine LeO.ite ?_ ?_
      | refine LeO.bind ?_ (fun _ => ?_)
set_option maxHeartbeats 8000000 in
set_option maxRecDepth 100000 in
theorem bollardlaw2_CrcFlips.calls (k : Nat) (A0 : Option Addr) (c0 : Nat) (l0 : List Int) (a1 : Int) (a2 : Int) (r : Bool) (w : World) (hr0 : Kd.C (Kd.int .u8) w A0 l0.length l0) (hc0 : l0.length ≤ c0) (h : bollardlaw2_CrcFlips.f k l0 a1 a2 = some r) :
    Calls Try.prog 4 #[.slice A0 l0.length c0, .int .i64 a1, .int .u32 a2] w fun e w' => e = .returned (.bool r) ∧ Below w.heap.size w w' := by
  have HR0 := Aside0.mk hr0
  have HC0 := Aside0.mk hc0
  clear hr0 hc0
  have HB := Aside0.mk (Below.refl w.heap.size w)
  have H : (if (l0.length : Int) > 3000 then (bollardlaw2_CrcFlips.j0 k l0 a1 a2 true) else (if (l0.length : Int) = 0 then (bollardlaw2_CrcFlips.j0 k l0 a1 a2 true) else (bollardlaw2_CrcFlips.j0 k l0 a1 a2 (a2 == 0)))) = some r := h
  clear h
  have HC4 := Aside0.mk H
  clear H
  go_enter Try.func4, Try.ntmps4
  go_upto_region 1 with (fail)
  go_cut [22] (fun v22 wc => ∃ (kq : Nat) (x22_3 : Bool), v22 = .bool x22_3 ∧ Aside0 (bollardlaw2_CrcFlips.j0 kq l0 a1 a2 x22_3 = some r) ∧ Aside0 (kq ≤ k) ∧ Aside0 (Below w.heap.size w wc))
  case first =>
    have H := HC4.out
    clear HC4
    by_cases c5 : (l0.length : Int) > 3000
    · rw [if_pos c5] at H
      have c5b0 : decide (3000 < (l0.length : Int)) = true := decide_eq_true c5
      have c5b1 : decide (3000 < l0.length) = true := decide_eq_true (by omega)
      clear c5
      (first | rw [c5b0] | (simp only [i64_w, i32_w]; rw [c5b0]) | skip)
      have H' := Aside0.mk H
      clear H
      go_wp2
      go_meet
      case rel => exact ⟨_, (true), (by first | rfl | (simp; done) | (simp [*]; done)), H', ⟨by first | omega | exact Nat.le_refl _⟩, ⟨by repeat (first | (with_reducible first | exact HB.out | apply below_alloc | apply pw_below_drewN | apply below_drew1) | exact HB.out)⟩⟩
    · rw [if_neg c5] at H
      have c5b0 : decide (3000 < (l0.length : Int)) = false := decide_eq_false c5
      have c5b1 : decide (3000 < l0.length) = false := decide_eq_false (by omega)
      clear c5
      (first | rw [c5b0] | (simp only [i64_w, i32_w]; rw [c5b0]) | skip)
      by_cases c6 : (l0.length : Int) = 0
      · rw [if_pos c6] at H
        have c6b0 : ((l0.length : Int) == 0) = true := beq_iff_eq.mpr c6
        have c6b1 : ((l0.length : Int) != 0) = false := bne_eq_false_iff_eq.mpr c6
        clear c6
        have H' := Aside0.mk H
        clear H
        go_wp2
        go_meet
        case rel => exact ⟨_, (true), (by first | rfl | (simp; done) | (simp [*]; done)), H', ⟨by first | omega | exact Nat.le_refl _⟩, ⟨by repeat (first | (with_reducible first | exact HB.out | apply below_alloc | apply pw_below_drewN | apply below_drew1) | exact HB.out)⟩⟩
      · rw [if_neg c6] at H
        have c6b0 : ((l0.length : Int) == 0) = false := beq_eq_false_iff_ne.mpr c6
        have c6b1 : ((l0.length : Int) != 0) = true := bne_iff_ne.mpr c6
        have c6b2 : ¬ (l0 = []) := fun h_ => c6 (by rw [h_]; rfl)
        have H' := Aside0.mk H
        clear H
        go_wp2
        go_meet
        case rel => exact ⟨_, ((a2 == 0)), (by first | rfl | (simp; done) | (simp [*]; done)), H', ⟨by first | omega | exact Nat.le_refl _⟩, ⟨by repeat (first | (with_reducible first | exact HB.out | apply below_alloc | apply pw_below_drewN | apply below_drew1) | exact HB.out)⟩⟩
  case rest =>
    clear HC4
    try clear p2
    try clear c4
    try clear c5
    try clear c5b0
    try clear c5b1
    try clear c6
    try clear c6b0
    try clear c6b1
    try clear c6b2
    obtain ⟨kq, x22_3, rfl, HA, HJ3, HB⟩ := hcut
    cases kq with
    | zero => exact absurd HA.out (by simp [bollardlaw2_CrcFlips.j0])
    | succ kj3 =>
      have H := HA.out
      clear HA
      simp only [bollardlaw2_CrcFlips.j0] at H
      by_cases c7 : x22_3 = true
      · subst c7
        have H1 : ((bollardlaw2_awake.f kj3).bind fun t124 => (some t124)) = some r := by rw [if_pos rfl] at H; exact H
        clear H
        have H := H1
        clear H1
        replace H := Option.bind_eq_some_iff.mp H
        obtain ⟨t124, A80, H⟩ := H
        replace H : (some t124) = some r := H
        have A8 := Aside0.mk A80
        clear A80
        obtain rfl := Option.some.inj H
        go_wp2_with (first | ((with_reducible refine gate_callee (f := 13) rfl ?_); refine goesL_ (some 23) rfl rfl Try.func13 (by kernel_rfl) rfl #[] rfl (by (try simp only [List.map_toArray, List.map_cons, List.map_nil]); first | done | rfl | (simp only [List.length_drop, List.length_take]; rfl)) ?_; (with_reducible refine (bollardlaw2_awake.calls kj3  t124 _ A8.out).mono ?_); rintro e w9 ⟨rfl, hb⟩; refine ⟨_, rfl, ?_⟩; have n0_ := Aside0.mk (below_step (by repeat (first | (with_reducible first | exact HB.out | apply below_alloc | apply pw_below_drewN | apply below_drew1) | exact HB.out)) hb); clear HB; have HB := n0_; clear n0_; (try clear hb); (try clear hb2); (try clear hk); (try clear hi)))
        go_ret
        exact ⟨by first | rfl | (simp [errW_none, errW_some] <;> rfl) | (simp [*, errW_none, errW_some] <;> rfl), by repeat (first | (with_reducible first | exact HB.out | apply below_alloc | apply pw_below_drewN | apply below_drew1) | exact HB.out)⟩
      · replace c7 := Bool.eq_false_iff.mpr c7
        subst c7
        have H1 : (if (l0.length : Int) = 0 then (none) else (if (Int.tmod a1 (l0.length : Int)) < 0 then (bollardlaw2_CrcFlips.j1 kj3 l0 (wrap64 (-(Int.tmod a1 (l0.length : Int)))) a2) else (bollardlaw2_CrcFlips.j1 kj3 l0 (Int.tmod a1 (l0.length : Int)) a2))) = some r := by rw [if_neg (show ¬ (false = true) by decide)] at H; exact H
        clear H
        have H := H1
        clear H1
        by_cases c10 : (l0.length : Int) = 0
        · rw [if_pos c10] at H
          exact absurd H (by simp)
        · rw [if_neg c10] at H
          have c10b0 : ((l0.length : Int) == 0) = false := beq_eq_false_iff_ne.mpr c10
          have c10b1 : ((l0.length : Int) != 0) = true := bne_iff_ne.mpr c10
          have c10b2 : ¬ (l0 = []) := fun h_ => c10 (by rw [h_]; rfl)
          have HC11 := Aside0.mk H
          clear H
          go_upto_if 29 with (fail)
          go_cut [1] (fun v1 wc => ∃ (kq : Nat) (x1_10 : Int), v1 = .int .i64 x1_10 ∧ Aside0 (bollardlaw2_CrcFlips.j1 kq l0 x1_10 a2 = some r) ∧ Aside0 (kq ≤ kj3) ∧ Aside0 (Below w.heap.size w wc))
          case first =>
            have H := HC11.out
            clear HC11
            by_cases c12 : (Int.tmod a1 (l0.length : Int)) < 0
            · rw [if_pos c12] at H
              have c12b0 : decide ((Int.tmod a1 (l0.length : Int)) < 0) = true := decide_eq_true c12
              clear c12
              (first | rw [c12b0] | (simp only [i64_w, i32_w]; rw [c12b0]) | skip)
              have H' := Aside0.mk H
              clear H
              go_wp2
              go_meet
              case rel => exact ⟨_, (wrap64 (-(Int.tmod a1 (l0.length : Int)))), (by first | rfl | (simp; done) | (simp [*]; done)), H', ⟨by have := HJ3.out; first | omega | exact Nat.le_refl _⟩, ⟨by repeat (first | (with_reducible first | exact HB.out | apply below_alloc | apply pw_below_drewN | apply below_drew1) | exact HB.out)⟩⟩
            · rw [if_neg c12] at H
              have c12b0 : decide ((Int.tmod a1 (l0.length : Int)) < 0) = false := decide_eq_false c12
              clear c12
              (first | rw [c12b0] | (simp only [i64_w, i32_w]; rw [c12b0]) | skip)
              have H' := Aside0.mk H
              clear H
              go_wp2
              go_meet
              case rel => exact ⟨_, (Int.tmod a1 (l0.length : Int)), (by first | rfl | (simp; done) | (simp [*]; done)), H', ⟨by have := HJ3.out; first | omega | exact Nat.le_refl _⟩, ⟨by repeat (first | (with_reducible first | exact HB.out | apply below_alloc | apply pw_below_drewN | apply below_drew1) | exact HB.out)⟩⟩
          case rest =>
            clear HC11
            try clear c1
            try clear p2
            try clear c4
            try clear c5
            try clear c5b0
            try clear c5b1
            try clear c6
            try clear c6b0
            try clear c6b1
            try clear c6b2
            try clear p6
            try clear c7
            try clear c10
            try clear c10b0
            try clear c10b1
            try clear c10b2
            try clear c12
            try clear c12b0
            try clear p2
            obtain ⟨kq, x1_10, rfl, HA, HJ10, HB⟩ := hcut
            cases kq with
            | zero => exact absurd HA.out (by simp [bollardlaw2_CrcFlips.j1])
            | succ kj10 =>
              have H := HA.out
              clear HA
              simp only [bollardlaw2_CrcFlips.j1] at H
              by_cases c13 : ([] : List Int).length + l0.length < 140737488355328
              · rw [if_pos c13] at H
                have LMc13 := Aside0.mk c13
                clear c13
                obtain ⟨y125, hy125⟩ : ∃ y_ : List Int, y_ = (([] : List Int) ++ l0) := ⟨_, rfl⟩
                replace H : (bollardlaw2_CrcFlips.l0 kj10 l0 x1_10 a2 y125 false 0) = some r := by first | (rw [hy125]; with_reducible exact H) | (have H2_ := (Option.bind_some _ _).symm.trans H; rw [hy125]; with_reducible exact H2_) | (have H2_ := (Option.bind_some _ _).symm.trans H; with_reducible exact H2_) | with_reducible exact H | (rw [hy125]; exact H) | exact H
                have Ny125 := Aside0.mk hy125
                clear hy125
                have H' := Aside0.mk H
                clear H
                go_wp2_with (first | ((with_reducible refine gate_builtin (b := .append) (xs := #[.tmp 32, .tmp 33]) rfl ?_); (try (refine gate_guard (by rfl) ?_; dsimp only)); at_builtin; refine Kd.R_append_rows (Kd.int .u8) (w0 := w) w.heap.size rfl (.tmp 32) (.tmp 33) 22 5 (.int .u8 0) 1 rfl Try.underlying22 info5 rfl (by decide) (by omega) (.slice none 0 0) ([] : List Int) l0 _ _ _ (fun _ => True) (fun _ => False) rfl rfl ?aO ?aR (fun _ _ h => h) (fun _ h => h.elim) ?aF ?aB ?aS ?aL ?_; (case aR => repeat (first | exact (Kd.C_below HR0.out HB.out) | (with_reducible refine Kd.C_alloc ?_ _) | (with_reducible refine Kd.C_drewN ?_ _) | (with_reducible refine Kd.C_drew ?_))); (case aB => exact (by repeat (first | (with_reducible first | exact HB.out | apply below_alloc | apply pw_below_drewN | apply below_drew1) | exact HB.out))); (case aF => exact (fun _ _ => trivial)); (case aO => exact ((Kd.R_nil _ _ _ _ (fun _ => True)))); (case aS => exact (below_size (by repeat (first | (with_reducible first | exact HB.out | apply below_alloc | apply pw_below_drewN | apply below_drew1) | exact HB.out)))); (case aL => have := LMc13.out; omega); intro v126 w14 ho hb hg hat; rw [← Ny125.out] at ho; have n0_ := Aside0.mk (hb); have n1_ := Aside0.mk (ho); clear HB; have HB := n0_; have HO127 := n1_; clear n0_ n1_; clear ho hb hg hat))
                go_loopg [8, 9] kj10 (fun kq v8 v9 w' => ∃ (x7_3 : List Int) (x8_3 : Bool) (x9_3 : Int), v8 = .bool x8_3 ∧ v9 = .int .i64 x9_3 ∧ Aside0 (bollardlaw2_CrcFlips.l0 kq l0 x1_10 a2 x7_3 x8_3 x9_3 = some r) ∧ Aside0 (kq ≤ kj10) ∧ Aside0 (Kd.R (Kd.int .u8) 5 w' w.heap.size (fun _ => True) v126 x7_3) ∧ Aside0 (Below w.heap.size w w'))
                case atStart => exact ⟨(y125), (false), (0), (by first | rfl | (simp; done) | (simp [*]; done)), (by first | rfl | (simp; done) | (simp [*]; done)), H', ⟨Nat.le_refl _⟩, ⟨by (with_reducible repeat (first | apply Kd.R_alloc | apply Kd.R_drewN | apply Kd.R_drew)); exact HO127.out⟩, ⟨by repeat (first | (with_reducible first | exact HB.out | apply below_alloc | apply pw_below_drewN | apply below_drew1) | exact HB.out)⟩⟩
                case round =>
                  clear H'
                  try clear c1
                  try clear p2
                  try clear c4
                  try clear c5
                  try clear c5b0
                  try clear c5b1
                  try clear c6
                  try clear c6b0
                  try clear c6b1
                  try clear c6b2
                  try clear p6
                  try clear c7
                  try clear c10
                  try clear c10b0
                  try clear c10b1
                  try clear c10b2
                  try clear c12
                  try clear c12b0
                  try clear c13
                  try clear p2
                  try clear p6
                  obtain ⟨x7_3, x8_3, x9_3, rfl, rfl, HA, HK3, HO_7, HB⟩ := hrel
                  cases gk with
                  | zero => exact absurd HA.out (by simp [bollardlaw2_CrcFlips.l0])
                  | succ k3 =>
                    have H := HA.out
                    clear HA
                    simp only [bollardlaw2_CrcFlips.l0] at H
                    by_cases c15 : x9_3 < 4
                    · rw [if_pos c15] at H
                      have c15b0 : decide (x9_3 < 4) = true := decide_eq_true c15
                      clear c15
                      by_cases c16 : (wrap64 (x1_10 + x9_3)) < (x7_3.length : Int)
                      · rw [if_pos c16] at H
                        have c16b0 : decide ((wrap64 (x1_10 + x9_3)) < (x7_3.length : Int)) = true := decide_eq_true c16
                        clear c16
                        obtain ⟨ji17, hji17⟩ : ∃ j_ : Int, (wrap64 (8 * x9_3)) = j_ := ⟨_, rfl⟩
                        replace H : (if 0 ≤ (ji17) then (if 0 ≤ (wrap64 (x1_10 + x9_3)) then ((some (x7_3.set ((wrap64 (x1_10 + x9_3)) : Int).toNat (Go.bits .xor .u8 (rd x7_3 (wrap64 (x1_10 + x9_3))) ((shr .u32 a2 (ji17)) % 256)) : List Int)).bind fun y129 => (if x8_3 = true then (bollardlaw2_CrcFlips.l0 k3 l0 x1_10 a2 y129 true (wrap64 (x9_3 + 1))) else (bollardlaw2_CrcFlips.l0 k3 l0 x1_10 a2 y129 (((shr .u32 a2 (ji17)) % 256) != 0) (wrap64 (x9_3 + 1))))) else (none)) else (none)) = some r := by first | (rw [hji17] at H; exact H) | (simp only [hji17] at H ⊢; exact H)
                        have hji17w : (IntKind.i64.wrap (8 * x9_3)) = ji17 := (i64_w _).trans hji17
                        by_cases c18 : 0 ≤ (ji17)
                        · rw [if_pos c18] at H
                          have c18b0 := eq_true c18
                          have c18b1 : decide (0 ≤ (ji17)) = true := decide_eq_true c18
                          clear c18
                          obtain ⟨ji19, hji19⟩ : ∃ j_ : Int, (shr .u32 a2 (ji17)) = j_ := ⟨_, rfl⟩
                          replace H : (if 0 ≤ (wrap64 (x1_10 + x9_3)) then ((some (x7_3.set ((wrap64 (x1_10 + x9_3)) : Int).toNat (Go.bits .xor .u8 (rd x7_3 (wrap64 (x1_10 + x9_3))) ((ji19) % 256)) : List Int)).bind fun y129 => (if x8_3 = true then (bollardlaw2_CrcFlips.l0 k3 l0 x1_10 a2 y129 true (wrap64 (x9_3 + 1))) else (bollardlaw2_CrcFlips.l0 k3 l0 x1_10 a2 y129 (((ji19) % 256) != 0) (wrap64 (x9_3 + 1))))) else (none)) = some r := by first | (rw [hji19] at H; exact H) | (simp only [hji19] at H ⊢; exact H)
                          have hji19_ : (a2 / 2 ^ min (ji17).toNat 32) = ji19 := hji19
                          have hji19z : (ji17) ≤ 32 → (a2 / 2 ^ (ji17).toNat) = ji19 := shr_small hji19
                          obtain ⟨ji20, hji20⟩ : ∃ j_ : Int, (wrap64 (x1_10 + x9_3)) = j_ := ⟨_, rfl⟩
                          replace H : (if 0 ≤ (ji20) then ((some (x7_3.set ((ji20) : Int).toNat (Go.bits .xor .u8 (rd x7_3 (ji20)) ((ji19) % 256)) : List Int)).bind fun y129 => (if x8_3 = true then (bollardlaw2_CrcFlips.l0 k3 l0 x1_10 a2 y129 true (wrap64 (x9_3 + 1))) else (bollardlaw2_CrcFlips.l0 k3 l0 x1_10 a2 y129 (((ji19) % 256) != 0) (wrap64 (x9_3 + 1))))) else (none)) = some r := by first | (rw [hji20] at H; exact H) | (simp only [hji20] at H ⊢; exact H)
                          (try rw [hji20] at c16b0)
                          have hji20w : (IntKind.i64.wrap (x1_10 + x9_3)) = ji20 := (i64_w _).trans hji20
                          by_cases c21 : 0 ≤ (ji20)
                          · rw [if_pos c21] at H
                            have c21b0 : decide (0 ≤ (ji20)) = true := decide_eq_true c21
                            clear c21
                            obtain ⟨y129, hy129⟩ : ∃ y_ : List Int, y_ = (x7_3.set ((ji20) : Int).toNat (Go.bits .xor .u8 (rd x7_3 (ji20)) ((ji19) % 256))) := ⟨_, rfl⟩
                            replace H : (if x8_3 = true then (bollardlaw2_CrcFlips.l0 k3 l0 x1_10 a2 y129 true (wrap64 (x9_3 + 1))) else (bollardlaw2_CrcFlips.l0 k3 l0 x1_10 a2 y129 (((ji19) % 256) != 0) (wrap64 (x9_3 + 1)))) = some r := by first | (rw [hy129]; with_reducible exact H) | (have H2_ := (Option.bind_some _ _).symm.trans H; rw [hy129]; with_reducible exact H2_) | (have H2_ := (Option.bind_some _ _).symm.trans H; with_reducible exact H2_) | with_reducible exact H | (rw [hy129]; exact H) | exact H
                            have Ny129 := Aside0.mk hy129
                            clear hy129
                            by_cases c23 : x8_3 = true
                            · subst c23
                              have H1 : (bollardlaw2_CrcFlips.l0 k3 l0 x1_10 a2 y129 true (wrap64 (x9_3 + 1))) = some r := by rw [if_pos rfl] at H; exact H
                              clear H
                              have H := H1
                              clear H1
                              have H' := Aside0.mk H
                              clear H
                              obtain ⟨Ao24, co24, eo24⟩ := Kd.R_slice HO_7.out
                              subst eo24
                              have p128 : 0 ≤ ((ji20) : Int) := of_decide_eq_true (by first | (with_reducible assumption) | assumption)
                              have q128 : (ji20) < (x7_3.length : Int) := of_decide_eq_true (by first | (with_reducible assumption) | assumption)
                              obtain ⟨ad128, e128, hx128_0⟩ := Kd.at_int (Kd.R_reads' HO_7.out).2.2 (ji20) p128 q128
                              cases e128
                              replace p128 := eq_true p128
                              replace q128 := eq_true q128
                              have p22 : 0 ≤ ((ji20) : Int) := of_decide_eq_true (by first | (with_reducible assumption) | assumption)
                              have q22 : ((ji20) : Int) < ((x7_3.length : Int) : Int) := of_decide_eq_true (by first | (with_reducible assumption) | assumption)
                              obtain ⟨go22, co22, eo22, gb22, gl22, cl22, HG22⟩ := Kd.R_form HO_7.out (by omega)
                              (first | cases eo22 | (injection eo22 with ea_ en_ ec_; (first | subst ea_ | (injection ea_ with ea_; subst ea_)); subst ec_; clear en_))
                              have GB22 := Aside0.mk gb22
                              have GG22 := Aside0.mk HG22
                              clear gb22 gl22 HG22
                              (first | simp only [add_plain] at hx128_0 | skip)
                              obtain ⟨hx22_0, hf22_0⟩ := Kd.R_celln 0 HO_7.out ((ji20) : Int) p22 q22
                              replace p22 := eq_true p22
                              replace q22 := eq_true q22
                              have HP25 := Kd.R_putg HO_7.out ((ji20) : Int) (Go.bits .xor .u8 (rd x7_3 (ji20)) ((ji19) % 256))
                              go_wp2_with (first | ((with_reducible refine gate_store (t := 5) (p := 64) rfl ?_); refine store_event (t := 5) (p := 64) (v := ?vo_w26) (w1 := (wr.setCell ⟨go22, ((ji20) : Int).toNat, none⟩ (.int .u8 (Go.bits .xor .u8 (rd x7_3 (ji20)) ((ji19) % 256))))) ?hg ?ho ?hn ?hr ?_; (case ho => rfl); (case hg => rfl); (case hn => rfl); (case hr => first | (go_simp; done) | (go_simp; rfl)); intro w26 hw; have hg : wr.grownBy w26 (some go22) := (by rw [hw]; exact HP25.2); have hp_ : Kd.R (Kd.int .u8) 5 w26 w.heap.size (fun _ => True) (.slice (some ⟨go22, 0, none⟩) x7_3.length co24) y129 := (by rw [hw, Ny129.out]; exact HP25.1); clear HP25; have n0_ := Aside0.mk (hp_); have n1_ := Aside0.mk ((by rw [hw]; exact below_set (HB.out) GB22.out : Below w.heap.size w w26)); clear HO_7; clear HB; have HO_7 := n0_; have HB := n1_; clear n0_ n1_; clear hg hw hp_))
                              go_roundg k3
                              case measure => have := HJ3.out; have := HJ10.out; have := HK3.out; omega
                              case rel => exact ⟨(y129), (true), (wrap64 (x9_3 + 1)), (by first | rfl | (simp; done) | (simp [*]; done)), (by first | rfl | (simp; done) | (simp [*]; done)), H', ⟨by have := HJ3.out; have := HJ10.out; have := HK3.out; omega⟩, ⟨by (with_reducible repeat (first | apply Kd.R_alloc | apply Kd.R_drewN | apply Kd.R_drew)); exact HO_7.out⟩, ⟨by repeat (first | (with_reducible first | exact HB.out | apply below_alloc | apply pw_below_drewN | apply below_drew1) | exact HB.out)⟩⟩
                            · replace c23 := Bool.eq_false_iff.mpr c23
                              subst c23
                              have H1 : (bollardlaw2_CrcFlips.l0 k3 l0 x1_10 a2 y129 (((ji19) % 256) != 0) (wrap64 (x9_3 + 1))) = some r := by rw [if_neg (show ¬ (false = true) by decide)] at H; exact H
                              clear H
                              have H := H1
                              clear H1
                              have H' := Aside0.mk H
                              clear H
                              obtain ⟨Ao27, co27, eo27⟩ := Kd.R_slice HO_7.out
                              subst eo27
                              have p128 : 0 ≤ ((ji20) : Int) := of_decide_eq_true (by first | (with_reducible assumption) | assumption)
                              have q128 : (ji20) < (x7_3.length : Int) := of_decide_eq_true (by first | (with_reducible assumption) | assumption)
                              obtain ⟨ad128, e128, hx128_0⟩ := Kd.at_int (Kd.R_reads' HO_7.out).2.2 (ji20) p128 q128
                              cases e128
                              replace p128 := eq_true p128
                              replace q128 := eq_true q128
                              have p22 : 0 ≤ ((ji20) : Int) := of_decide_eq_true (by first | (with_reducible assumption) | assumption)
                              have q22 : ((ji20) : Int) < ((x7_3.length : Int) : Int) := of_decide_eq_true (by first | (with_reducible assumption) | assumption)
                              obtain ⟨go22, co22, eo22, gb22, gl22, cl22, HG22⟩ := Kd.R_form HO_7.out (by omega)
                              (first | cases eo22 | (injection eo22 with ea_ en_ ec_; (first | subst ea_ | (injection ea_ with ea_; subst ea_)); subst ec_; clear en_))
                              have GB22 := Aside0.mk gb22
                              have GG22 := Aside0.mk HG22
                              clear gb22 gl22 HG22
                              (first | simp only [add_plain] at hx128_0 | skip)
                              obtain ⟨hx22_0, hf22_0⟩ := Kd.R_celln 0 HO_7.out ((ji20) : Int) p22 q22
                              replace p22 := eq_true p22
                              replace q22 := eq_true q22
                              have HP28 := Kd.R_putg HO_7.out ((ji20) : Int) (Go.bits .xor .u8 (rd x7_3 (ji20)) ((ji19) % 256))
                              go_wp2_with (first | ((with_reducible refine gate_store (t := 5) (p := 64) rfl ?_); refine store_event (t := 5) (p := 64) (v := ?vo_w29) (w1 := (wr.setCell ⟨go22, ((ji20) : Int).toNat, none⟩ (.int .u8 (Go.bits .xor .u8 (rd x7_3 (ji20)) ((ji19) % 256))))) ?hg ?ho ?hn ?hr ?_; (case ho => rfl); (case hg => rfl); (case hn => rfl); (case hr => first | (go_simp; done) | (go_simp; rfl)); intro w29 hw; have hg : wr.grownBy w29 (some go22) := (by rw [hw]; exact HP28.2); have hp_ : Kd.R (Kd.int .u8) 5 w29 w.heap.size (fun _ => True) (.slice (some ⟨go22, 0, none⟩) x7_3.length co27) y129 := (by rw [hw, Ny129.out]; exact HP28.1); clear HP28; have n0_ := Aside0.mk (hp_); have n1_ := Aside0.mk ((by rw [hw]; exact below_set (HB.out) GB22.out : Below w.heap.size w w29)); clear HO_7; clear HB; have HO_7 := n0_; have HB := n1_; clear n0_ n1_; clear hg hw hp_))
                              go_roundg k3
                              case measure => have := HJ3.out; have := HJ10.out; have := HK3.out; omega
                              case rel => exact ⟨(y129), ((((ji19) % 256) != 0)), (wrap64 (x9_3 + 1)), (by first | rfl | (simp; done) | (simp only [← hji19] <;> (first | rfl | simp)) | (simp [*]; done)), (by first | rfl | (simp; done) | (simp [*]; done)), H', ⟨by have := HJ3.out; have := HJ10.out; have := HK3.out; omega⟩, ⟨by (with_reducible repeat (first | apply Kd.R_alloc | apply Kd.R_drewN | apply Kd.R_drew)); exact HO_7.out⟩, ⟨by repeat (first | (with_reducible first | exact HB.out | apply below_alloc | apply pw_below_drewN | apply below_drew1) | exact HB.out)⟩⟩
                          · rw [if_neg c21] at H
                            exact absurd H (by simp)
                        · rw [if_neg c18] at H
                          exact absurd H (by simp)
                      · rw [if_neg c16] at H
                        have c16b0 : decide ((wrap64 (x1_10 + x9_3)) < (x7_3.length : Int)) = false := decide_eq_false c16
                        clear c16
                        replace H := Option.bind_eq_some_iff.mp H
                        obtain ⟨t130, A300, H⟩ := H
                        replace H : ((crc_Sum.f k3 l0).bind fun t131 => (if ((t130 != t131) == x8_3) = true then ((bollardlaw2_awake.f k3).bind fun t132 => (some t132)) else (some false))) = some r := H
                        have A30 := Aside0.mk A300
                        clear A300
                        replace H := Option.bind_eq_some_iff.mp H
                        obtain ⟨t131, A310, H⟩ := H
                        replace H : (if ((t130 != t131) == x8_3) = true then ((bollardlaw2_awake.f k3).bind fun t132 => (some t132)) else (some false)) = some r := H
                        have A31 := Aside0.mk A310
                        clear A310
                        by_cases c32 : ((t130 != t131) == x8_3) = true
                        · rw [if_pos c32] at H
                          have c32b0 : ((t130 != t131) == x8_3) = true := c32
                          (try (have c32b1 : decide ((t130 != t131) = x8_3) = true := by simpa using c32))
                          (try (have c32b2 : ((t130 != t131) == x8_3) = true := by simpa using c32))
                          clear c32
                          replace H := Option.bind_eq_some_iff.mp H
                          obtain ⟨t132, A330, H⟩ := H
                          replace H : (some t132) = some r := H
                          have A33 := Aside0.mk A330
                          clear A330
                          obtain rfl := Option.some.inj H
                          obtain ⟨Ao34, co34, eo34⟩ := Kd.R_slice HO_7.out
                          subst eo34
                          go_wp2_with (first | ((with_reducible refine gate_callee (f := 14) rfl ?_); refine goesL_ (some 71) rfl rfl Try.func14 (by kernel_rfl) rfl #[.slice Ao34 x7_3.length co34] rfl (by (try simp only [List.map_toArray, List.map_cons, List.map_nil]); first | done | rfl | (simp only [List.length_drop, List.length_take]; rfl)) ?_; (with_reducible refine (crc_Sum.calls k3 _ _ x7_3 t130 _ ?side1 ?side2 A30.out).mono ?_); (case side1 => repeat (first | exact (Kd.R_reads' HO_7.out).2.2 | (with_reducible refine Kd.C_alloc ?_ _) | (with_reducible refine Kd.C_drewN ?_ _) | (with_reducible refine Kd.C_drew ?_))); (case side2 => exact (Kd.R_reads' HO_7.out).2.1); rintro e w' ⟨rfl, ⟨nd, rfl⟩⟩; refine ⟨_, rfl, ?_⟩) | ((with_reducible refine gate_callee (f := 14) rfl ?_); refine goesL_ (some 73) rfl rfl Try.func14 (by kernel_rfl) rfl #[.slice A0 l0.length c0] rfl (by (try simp only [List.map_toArray, List.map_cons, List.map_nil]); first | done | rfl | (simp only [List.length_drop, List.length_take]; rfl)) ?_; (with_reducible refine (crc_Sum.calls k3 _ _ l0 t131 _ ?side1 ?side2 A31.out).mono ?_); (case side1 => repeat (first | exact (Kd.C_below HR0.out (by repeat (first | (with_reducible first | exact HB.out | apply below_alloc | apply pw_below_drewN | apply below_drew1) | exact HB.out))) | (with_reducible refine Kd.C_alloc ?_ _) | (with_reducible refine Kd.C_drewN ?_ _) | (with_reducible refine Kd.C_drew ?_))); (case side2 => exact HC0.out); rintro e w' ⟨rfl, ⟨nd, rfl⟩⟩; refine ⟨_, rfl, ?_⟩) | (go_at_call 13; (with_reducible refine (bollardlaw2_awake.calls k3  t132 _ A33.out).mono ?_); rintro e w35 ⟨rfl, hb⟩; have n0_ := Aside0.mk (Kd.R_below (by (with_reducible repeat (first | apply Kd.R_alloc | apply Kd.R_drewN | apply Kd.R_drew)); exact HO_7.out) hb); have n1_ := Aside0.mk (below_step (by repeat (first | (with_reducible first | exact HB.out | apply below_alloc | apply pw_below_drewN | apply below_drew1) | exact HB.out)) hb); clear HO_7; clear HB; have HO_7 := n0_; have HB := n1_; clear n0_ n1_; (try clear hb); (try clear hb2); (try clear hk); (try clear hi)))
                          go_ret
                          exact ⟨by first | rfl | (simp [errW_none, errW_some] <;> rfl) | (simp [*, errW_none, errW_some] <;> rfl), by repeat (first | (with_reducible first | exact HB.out | apply below_alloc | apply pw_below_drewN | apply below_drew1) | exact HB.out)⟩
                        · rw [if_neg c32] at H
                          have c32b0 : ((t130 != t131) == x8_3) = false := by simpa using c32
                          (try (have c32b1 : decide ((t130 != t131) = x8_3) = false := by simpa using c32))
                          (try (have c32b2 : ((t130 != t131) == x8_3) = false := by simpa using c32))
                          (try (have c32b3 : ¬ ((t130 != t131) = x8_3) := by simpa using c32))
                          clear c32
                          obtain rfl := Option.some.inj H
                          obtain ⟨Ao36, co36, eo36⟩ := Kd.R_slice HO_7.out
                          subst eo36
                          go_wp2_with (first | ((with_reducible refine gate_callee (f := 14) rfl ?_); refine goesL_ (some 71) rfl rfl Try.func14 (by kernel_rfl) rfl #[.slice Ao36 x7_3.length co36] rfl (by (try simp only [List.map_toArray, List.map_cons, List.map_nil]); first | done | rfl | (simp only [List.length_drop, List.length_take]; rfl)) ?_; (with_reducible refine (crc_Sum.calls k3 _ _ x7_3 t130 _ ?side1 ?side2 A30.out).mono ?_); (case side1 => repeat (first | exact (Kd.R_reads' HO_7.out).2.2 | (with_reducible refine Kd.C_alloc ?_ _) | (with_reducible refine Kd.C_drewN ?_ _) | (with_reducible refine Kd.C_drew ?_))); (case side2 => exact (Kd.R_reads' HO_7.out).2.1); rintro e w' ⟨rfl, ⟨nd, rfl⟩⟩; refine ⟨_, rfl, ?_⟩) | ((with_reducible refine gate_callee (f := 14) rfl ?_); refine goesL_ (some 73) rfl rfl Try.func14 (by kernel_rfl) rfl #[.slice A0 l0.length c0] rfl (by (try simp only [List.map_toArray, List.map_cons, List.map_nil]); first | done | rfl | (simp only [List.length_drop, List.length_take]; rfl)) ?_; (with_reducible refine (crc_Sum.calls k3 _ _ l0 t131 _ ?side1 ?side2 A31.out).mono ?_); (case side1 => repeat (first | exact (Kd.C_below HR0.out (by repeat (first | (with_reducible first | exact HB.out | apply below_alloc | apply pw_below_drewN | apply below_drew1) | exact HB.out))) | (with_reducible refine Kd.C_alloc ?_ _) | (with_reducible refine Kd.C_drewN ?_ _) | (with_reducible refine Kd.C_drew ?_))); (case side2 => exact HC0.out); rintro e w' ⟨rfl, ⟨nd, rfl⟩⟩; refine ⟨_, rfl, ?_⟩))
                          go_ret
                          exact ⟨by first | rfl | (simp [errW_none, errW_some] <;> rfl) | (simp [*, errW_none, errW_some] <;> rfl), by repeat (first | (with_reducible first | exact HB.out | apply below_alloc | apply pw_below_drewN | apply below_drew1) | exact HB.out)⟩
                    · rw [if_neg c15] at H
                      have c15b0 : decide (x9_3 < 4) = false := decide_eq_false c15
                      clear c15
                      replace H := Option.bind_eq_some_iff.mp H
                      obtain ⟨t133, A370, H⟩ := H
                      replace H : ((crc_Sum.f k3 l0).bind fun t134 => (if ((t133 != t134) == x8_3) = true then ((bollardlaw2_awake.f k3).bind fun t135 => (some t135)) else (some false))) = some r := H
                      have A37 := Aside0.mk A370
                      clear A370
                      replace H := Option.bind_eq_some_iff.mp H
                      obtain ⟨t134, A380, H⟩ := H
                      replace H : (if ((t133 != t134) == x8_3) = true then ((bollardlaw2_awake.f k3).bind fun t135 => (some t135)) else (some false)) = some r := H
                      have A38 := Aside0.mk A380
                      clear A380
                      by_cases c39 : ((t133 != t134) == x8_3) = true
                      · rw [if_pos c39] at H
                        have c39b0 : ((t133 != t134) == x8_3) = true := c39
                        (try (have c39b1 : decide ((t133 != t134) = x8_3) = true := by simpa using c39))
                        (try (have c39b2 : ((t133 != t134) == x8_3) = true := by simpa using c39))
                        clear c39
                        replace H := Option.bind_eq_some_iff.mp H
                        obtain ⟨t135, A400, H⟩ := H
                        replace H : (some t135) = some r := H
                        have A40 := Aside0.mk A400
                        clear A400
                        obtain rfl := Option.some.inj H
                        obtain ⟨Ao41, co41, eo41⟩ := Kd.R_slice HO_7.out
                        subst eo41
                        go_wp2_with (first | ((with_reducible refine gate_callee (f := 14) rfl ?_); refine goesL_ (some 71) rfl rfl Try.func14 (by kernel_rfl) rfl #[.slice Ao41 x7_3.length co41] rfl (by (try simp only [List.map_toArray, List.map_cons, List.map_nil]); first | done | rfl | (simp only [List.length_drop, List.length_take]; rfl)) ?_; (with_reducible refine (crc_Sum.calls k3 _ _ x7_3 t133 _ ?side1 ?side2 A37.out).mono ?_); (case side1 => repeat (first | exact (Kd.R_reads' HO_7.out).2.2 | (with_reducible refine Kd.C_alloc ?_ _) | (with_reducible refine Kd.C_drewN ?_ _) | (with_reducible refine Kd.C_drew ?_))); (case side2 => exact (Kd.R_reads' HO_7.out).2.1); rintro e w' ⟨rfl, ⟨nd, rfl⟩⟩; refine ⟨_, rfl, ?_⟩) | ((with_reducible refine gate_callee (f := 14) rfl ?_); refine goesL_ (some 73) rfl rfl Try.func14 (by kernel_rfl) rfl #[.slice A0 l0.length c0] rfl (by (try simp only [List.map_toArray, List.map_cons, List.map_nil]); first | done | rfl | (simp only [List.length_drop, List.length_take]; rfl)) ?_; (with_reducible refine (crc_Sum.calls k3 _ _ l0 t134 _ ?side1 ?side2 A38.out).mono ?_); (case side1 => repeat (first | exact (Kd.C_below HR0.out (by repeat (first | (with_reducible first | exact HB.out | apply below_alloc | apply pw_below_drewN | apply below_drew1) | exact HB.out))) | (with_reducible refine Kd.C_alloc ?_ _) | (with_reducible refine Kd.C_drewN ?_ _) | (with_reducible refine Kd.C_drew ?_))); (case side2 => exact HC0.out); rintro e w' ⟨rfl, ⟨nd, rfl⟩⟩; refine ⟨_, rfl, ?_⟩) | (go_at_call 13; (with_reducible refine (bollardlaw2_awake.calls k3  t135 _ A40.out).mono ?_); rintro e w42 ⟨rfl, hb⟩; have n0_ := Aside0.mk (Kd.R_below (by (with_reducible repeat (first | apply Kd.R_alloc | apply Kd.R_drewN | apply Kd.R_drew)); exact HO_7.out) hb); have n1_ := Aside0.mk (below_step (by repeat (first | (with_reducible first | exact HB.out | apply below_alloc | apply pw_below_drewN | apply below_drew1) | exact HB.out)) hb); clear HO_7; clear HB; have HO_7 := n0_; have HB := n1_; clear n0_ n1_; (try clear hb); (try clear hb2); (try clear hk); (try clear hi)))
                        go_ret
                        exact ⟨by first | rfl | (simp [errW_none, errW_some] <;> rfl) | (simp [*, errW_none, errW_some] <;> rfl), by repeat (first | (with_reducible first | exact HB.out | apply below_alloc | apply pw_below_drewN | apply below_drew1) | exact HB.out)⟩
                      · rw [if_neg c39] at H
                        have c39b0 : ((t133 != t134) == x8_3) = false := by simpa using c39
                        (try (have c39b1 : decide ((t133 != t134) = x8_3) = false := by simpa using c39))
                        (try (have c39b2 : ((t133 != t134) == x8_3) = false := by simpa using c39))
                        (try (have c39b3 : ¬ ((t133 != t134) = x8_3) := by simpa using c39))
                        clear c39
                        obtain rfl := Option.some.inj H
                        obtain ⟨Ao43, co43, eo43⟩ := Kd.R_slice HO_7.out
                        subst eo43
                        go_wp2_with (first | ((with_reducible refine gate_callee (f := 14) rfl ?_); refine goesL_ (some 71) rfl rfl Try.func14 (by kernel_rfl) rfl #[.slice Ao43 x7_3.length co43] rfl (by (try simp only [List.map_toArray, List.map_cons, List.map_nil]); first | done | rfl | (simp only [List.length_drop, List.length_take]; rfl)) ?_; (with_reducible refine (crc_Sum.calls k3 _ _ x7_3 t133 _ ?side1 ?side2 A37.out).mono ?_); (case side1 => repeat (first | exact (Kd.R_reads' HO_7.out).2.2 | (with_reducible refine Kd.C_alloc ?_ _) | (with_reducible refine Kd.C_drewN ?_ _) | (with_reducible refine Kd.C_drew ?_))); (case side2 => exact (Kd.R_reads' HO_7.out).2.1); rintro e w' ⟨rfl, ⟨nd, rfl⟩⟩; refine ⟨_, rfl, ?_⟩) | ((with_reducible refine gate_callee (f := 14) rfl ?_); refine goesL_ (some 73) rfl rfl Try.func14 (by kernel_rfl) rfl #[.slice A0 l0.length c0] rfl (by (try simp only [List.map_toArray, List.map_cons, List.map_nil]); first | done | rfl | (simp only [List.length_drop, List.length_take]; rfl)) ?_; (with_reducible refine (crc_Sum.calls k3 _ _ l0 t134 _ ?side1 ?side2 A38.out).mono ?_); (case side1 => repeat (first | exact (Kd.C_below HR0.out (by repeat (first | (with_reducible first | exact HB.out | apply below_alloc | apply pw_below_drewN | apply below_drew1) | exact HB.out))) | (with_reducible refine Kd.C_alloc ?_ _) | (with_reducible refine Kd.C_drewN ?_ _) | (with_reducible refine Kd.C_drew ?_))); (case side2 => exact HC0.out); rintro e w' ⟨rfl, ⟨nd, rfl⟩⟩; refine ⟨_, rfl, ?_⟩))
                        go_ret
                        exact ⟨by first | rfl | (simp [errW_none, errW_some] <;> rfl) | (simp [*, errW_none, errW_some] <;> rfl), by repeat (first | (with_reducible first | exact HB.out | apply below_alloc | apply pw_below_drewN | apply below_drew1) | exact HB.out)⟩
              · rw [if_neg c13] at H
                exact absurd H (by simp)

/-- THE ONE PURE STATEMENT of bollardlaw2_CrcFlips: yours. -/
def bollardlaw2_CrcFlips.Pure : Prop := ∀ (l0 : List Int) (a1 : Int) (a2 : Int), l0.length ≤ maxLen → l0.length * 1 ≤ 140737488351232 → (∀ x ∈ l0, (Lit.int .u8 x).wf = true) → (Lit.int .i64 a1).wf = true → (Lit.int .u32 a2).wf = true → ∃ k, bollardlaw2_CrcFlips.f k l0 a1 a2 = some true
theorem bollardlaw2_CrcFlips.walk (P : bollardlaw2_CrcFlips.Pure) (a0 : Option Addr) (len0 cap0 : Nat) (z0 : List Int) (a1 : Int) (a2 : Int) (w : World) (w0 : (a0 = none ∧ len0 = 0 ∧ cap0 = 0 ∧ z0 = []) ∨ ∃ x, a0 = some x ∧ len0 ≤ cap0 ∧ cap0 ≤ maxLen ∧ z0.length = cap0 ∧ (∀ i, i < z0.length → w.cell? (x.add i) = some (.int .u8 (z0.getD i 0))) ∧ ∀ n ∈ z0, (Lit.int .u8 n).wf = true) (y0 : len0 * 1 ≤ 140737488351232) (w1 : (Lit.int .i64 a1).wf = true) (w2 : (Lit.int .u32 a2).wf = true) :
    Calls Try.prog 4 #[.slice a0 len0 cap0, .int .i64 a1, .int .u32 a2] w fun e w' => e = .returned (.bool true) ∧ Below w.heap.size w w' := by
  obtain ⟨l0, rfl, hr0, hm0, hw0, hc0⟩ := ReadsInt.ofRowC w0
  obtain ⟨k, h⟩ := P l0 a1 a2 hm0 y0 hw0 w1 w2
  refine (bollardlaw2_CrcFlips.calls k _ _ l0 a1 a2 true w (Kd.C_of_reads (d := (0 : Int)) (h1 := fun _ => rfl) hr0) hc0 h).mono ?_
  rintro e w' ⟨rfl, hd⟩
  exact ⟨rfl, hd⟩

/-! ### bollardlaw2_CrcPieces: function 5 -/
mutual
def bollardlaw2_CrcPieces.j0 : Nat → List Int → Int → Bool → Option (Bool)
  | 0, _, _, _ => none
  | k + 1, x0, x1, x14 => if x14 = true then ((bollardlaw2_awake.f k).bind fun t136 => (some t136)) else ((crc_Sum.f k ([] : List Int)).bind fun t137 => (bollardlaw2_CrcPieces.l0 k x0 x1 t137 0))
def bollardlaw2_CrcPieces.l0 : Nat → List Int → Int → Int → Int → Option (Bool)
  | 0, _, _, _, _ => none
  | k + 1, x0, x1, x5, x6 => if x6 < (x0.length : Int) then (if (wrap64 ((x0.length : Int) - x6)) > x1 then (if 0 ≤ x6 then (if x6 ≤ (wrap64 (x6 + x1)) then (if (wrap64 (x6 + x1)) ≤ (x0.length : Int) then ((crc_More.f k x5 ((x0.take ((wrap64 (x6 + x1)) : Int).toNat).drop (x6 : Int).toNat)).bind fun t139 => (bollardlaw2_CrcPieces.l0 k x0 x1 t139 (wrap64 (x6 + x1)))) else (none)) else (none)) else (none)) else (if 0 ≤ x6 then (if x6 ≤ (wrap64 (x6 + (wrap64 ((x0.length : Int) - x6)))) then (if (wrap64 (x6 + (wrap64 ((x0.length : Int) - x6)))) ≤ (x0.length : Int) then ((crc_More.f k x5 ((x0.take ((wrap64 (x6 + (wrap64 ((x0.length : Int) - x6)))) : Int).toNat).drop (x6 : Int).toNat)).bind fun t141 => (bollardlaw2_CrcPieces.l0 k x0 x1 t141 (wrap64 (x6 + (wrap64 ((x0.length : Int) - x6)))))) else (none)) else (none)) else (none))) else ((crc_Sum.f k x0).bind fun t142 => (if x5 = t142 then ((bollardlaw2_awake.f k).bind fun t143 => (some t143)) else (some false)))
end
def bollardlaw2_CrcPieces.f (k : Nat) (l0 : List Int) (a1 : Int) : Option (Bool) := if (l0.length : Int) > 3000 then (bollardlaw2_CrcPieces.j0 k l0 a1 true) else (bollardlaw2_CrcPieces.j0 k l0 a1 (decide (a1 < 1)))
theorem bollardlaw2_CrcPieces.mono_l : ∀ k, (∀ y0 y1 y2, LeO (bollardlaw2_CrcPieces.j0 k y0 y1 y2) (bollardlaw2_CrcPieces.j0 (k + 1) y0 y1 y2)) ∧ (∀ y0 y1 y2 y3, LeO (bollardlaw2_CrcPieces.l0 k y0 y1 y2 y3) (bollardlaw2_CrcPieces.l0 (k + 1) y0 y1 y2 y3))
  | 0 => ⟨fun _ _ _ r h => by simp [bollardlaw2_CrcPieces.j0] at h, fun _ _ _ _ r h => by simp [bollardlaw2_CrcPieces.l0] at h⟩
  | k + 1 => by
    obtain ⟨ih0, ih1⟩ := bollardlaw2_CrcPieces.mono_l k
    refine ⟨?_, ?_⟩
    · intro y0 y1 y2
      unfold bollardlaw2_CrcPieces.j0
      repeat' first
      | (with_reducible exact ih0 _ _ _)
      | (with_reducible exact ih1 _ _ _ _)
      | (with_reducible exact bollardlaw2_awake.mono _)
      | (with_reducible exact crc_More.mono _ _ _)
      | (with_reducible exact crc_Sum.mono _ _)
      | (with_reducible exact LeO.refl _)
      | (with_reducible exact LeO.none _)
      | (with_reducible refine LeO.ite ?_ ?_)
      | (with_reducible refine LeO.bind ?_ (fun _ => ?_))
      | exact ih0 _ _ _
      | exact ih1 _ _ _ _
      | exact bollardlaw2_awake.mono _
      | exact crc_More.mono _ _ _
      | exact crc_Sum.mono _ _
      | exact LeO.none _
      | refine LeO.ite ?_ ?_
      | refine LeO.bind ?_ (fun _ => ?_)
    · intro y0 y1 y2 y3
      unfold bollardlaw2_CrcPieces.l0
      repeat' first
      | (with_reducible exact ih0 _ _ _)
      | (with_reducible exact ih1 _ _ _ _)
      | (with_reducible exact bollardlaw2_awake.mono _)
      | (with_reducible exact crc_More.mono _ _ _)
      | (with_reducible exact crc_Sum.mono _ _)
      | (with_reducible exact LeO.refl _)
      | (with_reducible exact LeO.none _)
      | (with_reducible refine LeO.ite ?_ ?_)
      | (with_reducible refine LeO.bind ?_ (fun _ => ?_))
      | exact ih0 _ _ _
      | exact ih1 _ _ _ _
      | exact bollardlaw2_awake.mono _
      | exact crc_More.mono _ _ _
      | exact crc_Sum.mono _ _
      | exact LeO.none _
      | refine LeO.ite ?_ ?_
      | refine LeO.bind ?_ (fun _ => ?_)
theorem bollardlaw2_CrcPieces.mono : ∀ a0 a1 k, LeO (bollardlaw2_CrcPieces.f k a0 a1) (bollardlaw2_CrcPieces.f (k + 1) a0 a1) := by
  intro a0 a1 k
  obtain ⟨ih0, ih1⟩ := bollardlaw2_CrcPieces.mono_l k
  unfold bollardlaw2_CrcPieces.f
  repeat' first
      | (with_reducible exact ih0 _ _ _)
      | (with_reducible exact ih1 _ _ _ _)
      | (with_reducible exact bollardlaw2_awake.mono _)
      | (with_reducible exact crc_More.mono _ _ _)
      | (with_reducible exact crc_Sum.mono _ _)
      | (with_reducible exact LeO.refl _)
      | (with_reducible exact LeO.none _)
      | (with_reducible refine LeO.ite ?_ ?_)
      | (with_reducible refine LeO.bind ?_ (fun _ => ?_))
      | exact ih0 _ _ _
      | exact ih1 _ _ _ _
      | exact bollardlaw2_awake.mono _
      | exact crc_More.mono _ _ _
      | exact crc_Sum.mono _ _
      | exact LeO.none _
      | refine LeO.ite ?_ ?_
      | refine LeO.bind ?_ (fun _ => ?_)
set_option maxHeartbeats 8000000 in
set_option maxRecDepth 100000 in
theorem bollardlaw2_CrcPieces.calls (k : Nat) (A0 : Option Addr) (c0 : Nat) (l0 : List Int) (a1 : Int) (r : Bool) (w : World) (hr0 : Kd.C (Kd.int .u8) w A0 l0.length l0) (hc0 : l0.length ≤ c0) (h : bollardlaw2_CrcPieces.f k l0 a1 = some r) :
    Calls Try.prog 5 #[.slice A0 l0.length c0, .int .i64 a1] w fun e w' => e = .returned (.bool r) ∧ Below w.heap.size w w' := by
  have HR0 := Aside0.mk hr0
  have HC0 := Aside0.mk hc0
  clear hr0 hc0
  have HB := Aside0.mk (Below.refl w.heap.size w)
  have H : (if (l0.length : Int) > 3000 then (bollardlaw2_CrcPieces.j0 k l0 a1 true) else (bollardlaw2_CrcPieces.j0 k l0 a1 (decide (a1 < 1)))) = some r := h
  clear h
  have HC3 := Aside0.mk H
  clear H
  go_enter Try.func5, Try.ntmps5
  go_upto_region 1 with (fail)
  go_cut [14] (fun v14 wc => ∃ (kq : Nat) (x14_2 : Bool), v14 = .bool x14_2 ∧ Aside0 (bollardlaw2_CrcPieces.j0 kq l0 a1 x14_2 = some r) ∧ Aside0 (kq ≤ k) ∧ Aside0 (Below w.heap.size w wc))
  case first =>
    have H := HC3.out
    clear HC3
    by_cases c4 : (l0.length : Int) > 3000
    · rw [if_pos c4] at H
      have c4b0 : decide (3000 < (l0.length : Int)) = true := decide_eq_true c4
      have c4b1 : decide (3000 < l0.length) = true := decide_eq_true (by omega)
      clear c4
      (first | rw [c4b0] | (simp only [i64_w, i32_w]; rw [c4b0]) | skip)
      have H' := Aside0.mk H
      clear H
      go_wp2
      go_meet
      case rel => exact ⟨_, (true), (by first | rfl | (simp; done) | (simp [*]; done)), H', ⟨by first | omega | exact Nat.le_refl _⟩, ⟨by repeat (first | (with_reducible first | exact HB.out | apply below_alloc | apply pw_below_drewN | apply below_drew1) | exact HB.out)⟩⟩
    · rw [if_neg c4] at H
      have c4b0 : decide (3000 < (l0.length : Int)) = false := decide_eq_false c4
      have c4b1 : decide (3000 < l0.length) = false := decide_eq_false (by omega)
      clear c4
      (first | rw [c4b0] | (simp only [i64_w, i32_w]; rw [c4b0]) | skip)
      have H' := Aside0.mk H
      clear H
      go_wp2
      go_meet
      case rel => exact ⟨_, (decide (a1 < 1)), (by first | rfl | (simp; done) | (simp [*]; done)), H', ⟨by first | omega | exact Nat.le_refl _⟩, ⟨by repeat (first | (with_reducible first | exact HB.out | apply below_alloc | apply pw_below_drewN | apply below_drew1) | exact HB.out)⟩⟩
  case rest =>
    clear HC3
    try clear p2
    try clear c4
    try clear c4b0
    try clear c4b1
    obtain ⟨kq, x14_2, rfl, HA, HJ2, HB⟩ := hcut
    cases kq with
    | zero => exact absurd HA.out (by simp [bollardlaw2_CrcPieces.j0])
    | succ kj2 =>
      have H := HA.out
      clear HA
      simp only [bollardlaw2_CrcPieces.j0] at H
      by_cases c5 : x14_2 = true
      · subst c5
        have H1 : ((bollardlaw2_awake.f kj2).bind fun t136 => (some t136)) = some r := by rw [if_pos rfl] at H; exact H
        clear H
        have H := H1
        clear H1
        replace H := Option.bind_eq_some_iff.mp H
        obtain ⟨t136, A60, H⟩ := H
        replace H : (some t136) = some r := H
        have A6 := Aside0.mk A60
        clear A60
        obtain rfl := Option.some.inj H
        go_wp2_with (first | ((with_reducible refine gate_callee (f := 13) rfl ?_); refine goesL_ (some 15) rfl rfl Try.func13 (by kernel_rfl) rfl #[] rfl (by (try simp only [List.map_toArray, List.map_cons, List.map_nil]); first | done | rfl | (simp only [List.length_drop, List.length_take]; rfl)) ?_; (with_reducible refine (bollardlaw2_awake.calls kj2  t136 _ A6.out).mono ?_); rintro e w7 ⟨rfl, hb⟩; refine ⟨_, rfl, ?_⟩; have n0_ := Aside0.mk (below_step (by repeat (first | (with_reducible first | exact HB.out | apply below_alloc | apply pw_below_drewN | apply below_drew1) | exact HB.out)) hb); clear HB; have HB := n0_; clear n0_; (try clear hb); (try clear hb2); (try clear hk); (try clear hi)))
        go_ret
        exact ⟨by first | rfl | (simp [errW_none, errW_some] <;> rfl) | (simp [*, errW_none, errW_some] <;> rfl), by repeat (first | (with_reducible first | exact HB.out | apply below_alloc | apply pw_below_drewN | apply below_drew1) | exact HB.out)⟩
      · replace c5 := Bool.eq_false_iff.mpr c5
        subst c5
        have H1 : ((crc_Sum.f kj2 ([] : List Int)).bind fun t137 => (bollardlaw2_CrcPieces.l0 kj2 l0 a1 t137 0)) = some r := by rw [if_neg (show ¬ (false = true) by decide)] at H; exact H
        clear H
        have H := H1
        clear H1
        replace H := Option.bind_eq_some_iff.mp H
        obtain ⟨t137, A80, H⟩ := H
        replace H : (bollardlaw2_CrcPieces.l0 kj2 l0 a1 t137 0) = some r := H
        have A8 := Aside0.mk A80
        clear A80
        have H' := Aside0.mk H
        clear H
        go_wp2_with (first | ((with_reducible refine gate_callee (f := 14) rfl ?_); refine goesL_ (some 16) rfl rfl Try.func14 (by kernel_rfl) rfl #[.slice none 0 0] rfl (by (try simp only [List.map_toArray, List.map_cons, List.map_nil]); first | done | rfl | (simp only [List.length_drop, List.length_take]; rfl)) ?_; (refine (crc_Sum.calls kj2 _ _ ([] : List Int) t137 _ ?side1 ?side2 A8.out).mono ?_); (case side1 => exact Kd.C_nil _ _); (case side2 => exact Nat.le_refl _); rintro e w' ⟨rfl, ⟨nd, rfl⟩⟩; refine ⟨_, rfl, ?_⟩))
        go_loopg [5, 6] kj2 (fun kq v5 v6 w' => ∃ (x5_2 : Int) (x6_2 : Int), v5 = .int .u32 x5_2 ∧ v6 = .int .i64 x6_2 ∧ Aside0 (bollardlaw2_CrcPieces.l0 kq l0 a1 x5_2 x6_2 = some r) ∧ Aside0 (kq ≤ kj2) ∧ Aside0 (Below w.heap.size w w'))
        case atStart => exact ⟨(t137), (0), (by first | rfl | (simp; done) | (simp [*]; done)), (by first | rfl | (simp; done) | (simp [*]; done)), H', ⟨Nat.le_refl _⟩, ⟨by repeat (first | (with_reducible first | exact HB.out | apply below_alloc | apply pw_below_drewN | apply below_drew1) | exact HB.out)⟩⟩
        case round =>
          clear H'
          try clear c1
          try clear p2
          try clear c4
          try clear c4b0
          try clear c4b1
          try clear c5
          try clear p2
          obtain ⟨x5_2, x6_2, rfl, rfl, HA, HK2, HB⟩ := hrel
          cases gk with
          | zero => exact absurd HA.out (by simp [bollardlaw2_CrcPieces.l0])
          | succ k2 =>
            have H := HA.out
            clear HA
            simp only [bollardlaw2_CrcPieces.l0] at H
            by_cases c9 : x6_2 < (l0.length : Int)
            · rw [if_pos c9] at H
              have c9b0 : decide (x6_2 < (l0.length : Int)) = true := decide_eq_true c9
              clear c9
              by_cases c10 : (wrap64 ((l0.length : Int) - x6_2)) > a1
              · rw [if_pos c10] at H
                have c10b0 : decide (a1 < (wrap64 ((l0.length : Int) - x6_2))) = true := decide_eq_true c10
                clear c10
                by_cases c11 : 0 ≤ x6_2
                · rw [if_pos c11] at H
                  have c11b0 := eq_true c11
                  have c11b1 : decide (0 ≤ x6_2) = true := decide_eq_true c11
                  clear c11
                  by_cases c12 : x6_2 ≤ (wrap64 (x6_2 + a1))
                  · rw [if_pos c12] at H
                    have c12b0 := eq_true c12
                    have c12b1 : decide (x6_2 ≤ (wrap64 (x6_2 + a1))) = true := decide_eq_true c12
                    by_cases c13 : (wrap64 (x6_2 + a1)) ≤ (l0.length : Int)
                    · rw [if_pos c13] at H
                      have c13b0 := eq_true c13
                      have c13b1 : decide ((wrap64 (x6_2 + a1)) ≤ (l0.length : Int)) = true := decide_eq_true c13
                      replace H := Option.bind_eq_some_iff.mp H
                      obtain ⟨t139, A140, H⟩ := H
                      replace H : (bollardlaw2_CrcPieces.l0 k2 l0 a1 t139 (wrap64 (x6_2 + a1))) = some r := H
                      have A14 := Aside0.mk A140
                      clear A140
                      have H' := Aside0.mk H
                      clear H
                      obtain ⟨i015, hi015, _, hsz15, _⟩ := info_parts info5
                      obtain ⟨A15, hcut15, hA15, hC15⟩ := print_mid_of (P := Try.prog) (Value.int .u8) 0 22 5 .i64 .i64 Try.underlying22 hi015 hsz15 A0 c0 l0 x6_2 (wrap64 (x6_2 + a1)) (of_decide_eq_true (by first | (with_reducible assumption) | assumption)) (by first | omega | exact of_decide_eq_true (by first | (with_reducible assumption) | assumption)) (of_decide_eq_true (by first | (with_reducible assumption) | assumption)) HC0.out
                      have HR138 := Aside0.mk (Kd.C_of_reads (h1 := fun _ => rfl) (hA15 _ (Kd.reads_of_C HR0.out)))
                      have HC138 := Aside0.mk hC15
                      clear hA15 hC15 hi015 hsz15
                      go_wp2_with (first | ((with_reducible refine gate_callee (f := 16) rfl ?_); refine goesL_ (some 36) rfl rfl Try.func16 (by kernel_rfl) rfl #[.int .u32 x5_2, .slice A15 ((l0.take ((wrap64 (x6_2 + a1)) : Int).toNat).drop (x6_2 : Int).toNat).length (c0 - x6_2.toNat)] rfl (by (try simp only [List.map_toArray, List.map_cons, List.map_nil]); first | done | (rw [show ((l0.take ((wrap64 (x6_2 + a1)) : Int).toNat).drop (x6_2 : Int).toNat).length = ((wrap64 (x6_2 + a1)).toNat - x6_2.toNat) from (by rw [List.length_drop, List.length_take]; have h_ : ((wrap64 (x6_2 + a1)) : Int) ≤ (l0.length : Int) := of_decide_eq_true (by first | (with_reducible assumption) | assumption); omega)] <;> rfl) | rfl | (simp only [List.length_drop, List.length_take]; rfl)) ?_; (with_reducible refine (crc_More.calls k2 x5_2 _ _ ((l0.take ((wrap64 (x6_2 + a1)) : Int).toNat).drop (x6_2 : Int).toNat) t139 _ ?side1 ?side2 A14.out).mono ?_); (case side1 => repeat (first | exact (Kd.C_below HR138.out HB.out) | (with_reducible refine Kd.C_alloc ?_ _) | (with_reducible refine Kd.C_drewN ?_ _) | (with_reducible refine Kd.C_drew ?_))); (case side2 => exact HC138.out); rintro e w' ⟨rfl, ⟨nd, rfl⟩⟩; refine ⟨_, rfl, ?_⟩))
                      go_roundg k2
                      case measure => have := HJ2.out; have := HK2.out; omega
                      case rel => exact ⟨(t139), (wrap64 (x6_2 + a1)), (by first | rfl | (simp; done) | (simp [*]; done)), (by first | rfl | (simp; done) | (simp [*]; done)), H', ⟨by have := HJ2.out; have := HK2.out; omega⟩, ⟨by repeat (first | (with_reducible first | exact HB.out | apply below_alloc | apply pw_below_drewN | apply below_drew1) | exact HB.out)⟩⟩
                    · rw [if_neg c13] at H
                      exact absurd H (by simp)
                  · rw [if_neg c12] at H
                    exact absurd H (by simp)
                · rw [if_neg c11] at H
                  exact absurd H (by simp)
              · rw [if_neg c10] at H
                have c10b0 : decide (a1 < (wrap64 ((l0.length : Int) - x6_2))) = false := decide_eq_false c10
                clear c10
                by_cases c16 : 0 ≤ x6_2
                · rw [if_pos c16] at H
                  have c16b0 := eq_true c16
                  have c16b1 : decide (0 ≤ x6_2) = true := decide_eq_true c16
                  clear c16
                  by_cases c17 : x6_2 ≤ (wrap64 (x6_2 + (wrap64 ((l0.length : Int) - x6_2))))
                  · rw [if_pos c17] at H
                    have c17b0 := eq_true c17
                    have c17b1 : decide (x6_2 ≤ (wrap64 (x6_2 + (wrap64 ((l0.length : Int) - x6_2))))) = true := decide_eq_true c17
                    by_cases c18 : (wrap64 (x6_2 + (wrap64 ((l0.length : Int) - x6_2)))) ≤ (l0.length : Int)
                    · rw [if_pos c18] at H
                      have c18b0 := eq_true c18
                      have c18b1 : decide ((wrap64 (x6_2 + (wrap64 ((l0.length : Int) - x6_2)))) ≤ (l0.length : Int)) = true := decide_eq_true c18
                      replace H := Option.bind_eq_some_iff.mp H
                      obtain ⟨t141, A190, H⟩ := H
                      replace H : (bollardlaw2_CrcPieces.l0 k2 l0 a1 t141 (wrap64 (x6_2 + (wrap64 ((l0.length : Int) - x6_2))))) = some r := H
                      have A19 := Aside0.mk A190
                      clear A190
                      have H' := Aside0.mk H
                      clear H
                      obtain ⟨i020, hi020, _, hsz20, _⟩ := info_parts info5
                      obtain ⟨A20, hcut20, hA20, hC20⟩ := print_mid_of (P := Try.prog) (Value.int .u8) 0 22 5 .i64 .i64 Try.underlying22 hi020 hsz20 A0 c0 l0 x6_2 (wrap64 (x6_2 + (wrap64 ((l0.length : Int) - x6_2)))) (of_decide_eq_true (by first | (with_reducible assumption) | assumption)) (by first | omega | exact of_decide_eq_true (by first | (with_reducible assumption) | assumption)) (of_decide_eq_true (by first | (with_reducible assumption) | assumption)) HC0.out
                      have HR140 := Aside0.mk (Kd.C_of_reads (h1 := fun _ => rfl) (hA20 _ (Kd.reads_of_C HR0.out)))
                      have HC140 := Aside0.mk hC20
                      clear hA20 hC20 hi020 hsz20
                      go_wp2_with (first | ((with_reducible refine gate_callee (f := 16) rfl ?_); refine goesL_ (some 36) rfl rfl Try.func16 (by kernel_rfl) rfl #[.int .u32 x5_2, .slice A20 ((l0.take ((wrap64 (x6_2 + (wrap64 ((l0.length : Int) - x6_2)))) : Int).toNat).drop (x6_2 : Int).toNat).length (c0 - x6_2.toNat)] rfl (by (try simp only [List.map_toArray, List.map_cons, List.map_nil]); first | done | (rw [show ((l0.take ((wrap64 (x6_2 + (wrap64 ((l0.length : Int) - x6_2)))) : Int).toNat).drop (x6_2 : Int).toNat).length = ((wrap64 (x6_2 + (wrap64 ((l0.length : Int) - x6_2)))).toNat - x6_2.toNat) from (by rw [List.length_drop, List.length_take]; have h_ : ((wrap64 (x6_2 + (wrap64 ((l0.length : Int) - x6_2)))) : Int) ≤ (l0.length : Int) := of_decide_eq_true (by first | (with_reducible assumption) | assumption); omega)] <;> rfl) | rfl | (simp only [List.length_drop, List.length_take]; rfl)) ?_; (with_reducible refine (crc_More.calls k2 x5_2 _ _ ((l0.take ((wrap64 (x6_2 + (wrap64 ((l0.length : Int) - x6_2)))) : Int).toNat).drop (x6_2 : Int).toNat) t141 _ ?side1 ?side2 A19.out).mono ?_); (case side1 => repeat (first | exact (Kd.C_below HR140.out HB.out) | (with_reducible refine Kd.C_alloc ?_ _) | (with_reducible refine Kd.C_drewN ?_ _) | (with_reducible refine Kd.C_drew ?_))); (case side2 => exact HC140.out); rintro e w' ⟨rfl, ⟨nd, rfl⟩⟩; refine ⟨_, rfl, ?_⟩))
                      go_roundg k2
                      case measure => have := HJ2.out; have := HK2.out; omega
                      case rel => exact ⟨(t141), (wrap64 (x6_2 + (wrap64 ((l0.length : Int) - x6_2)))), (by first | rfl | (simp; done) | (simp [*]; done)), (by first | rfl | (simp; done) | (simp [*]; done)), H', ⟨by have := HJ2.out; have := HK2.out; omega⟩, ⟨by repeat (first | (with_reducible first | exact HB.out | apply below_alloc | apply pw_below_drewN | apply below_drew1) | exact HB.out)⟩⟩
                    · rw [if_neg c18] at H
                      exact absurd H (by simp)
                  · rw [if_neg c17] at H
                    exact absurd H (by simp)
                · rw [if_neg c16] at H
                  exact absurd H (by simp)
            · rw [if_neg c9] at H
              have c9b0 : decide (x6_2 < (l0.length : Int)) = false := decide_eq_false c9
              clear c9
              replace H := Option.bind_eq_some_iff.mp H
              obtain ⟨t142, A210, H⟩ := H
              replace H : (if x5_2 = t142 then ((bollardlaw2_awake.f k2).bind fun t143 => (some t143)) else (some false)) = some r := H
              have A21 := Aside0.mk A210
              clear A210
              by_cases c22 : x5_2 = t142
              · rw [if_pos c22] at H
                have c22b0 : (x5_2 == t142) = true := beq_iff_eq.mpr c22
                have c22b1 : (x5_2 != t142) = false := bne_eq_false_iff_eq.mpr c22
                clear c22
                replace H := Option.bind_eq_some_iff.mp H
                obtain ⟨t143, A230, H⟩ := H
                replace H : (some t143) = some r := H
                have A23 := Aside0.mk A230
                clear A230
                obtain rfl := Option.some.inj H
                go_wp2_with (first | ((with_reducible refine gate_callee (f := 14) rfl ?_); refine goesL_ (some 42) rfl rfl Try.func14 (by kernel_rfl) rfl #[.slice A0 l0.length c0] rfl (by (try simp only [List.map_toArray, List.map_cons, List.map_nil]); first | done | rfl | (simp only [List.length_drop, List.length_take]; rfl)) ?_; (with_reducible refine (crc_Sum.calls k2 _ _ l0 t142 _ ?side1 ?side2 A21.out).mono ?_); (case side1 => repeat (first | exact (Kd.C_below HR0.out HB.out) | (with_reducible refine Kd.C_alloc ?_ _) | (with_reducible refine Kd.C_drewN ?_ _) | (with_reducible refine Kd.C_drew ?_))); (case side2 => exact HC0.out); rintro e w' ⟨rfl, ⟨nd, rfl⟩⟩; refine ⟨_, rfl, ?_⟩) | (go_at_call 13; (with_reducible refine (bollardlaw2_awake.calls k2  t143 _ A23.out).mono ?_); rintro e w24 ⟨rfl, hb⟩; have n0_ := Aside0.mk (below_step (by repeat (first | (with_reducible first | exact HB.out | apply below_alloc | apply pw_below_drewN | apply below_drew1) | exact HB.out)) hb); clear HB; have HB := n0_; clear n0_; (try clear hb); (try clear hb2); (try clear hk); (try clear hi)))
                go_ret
                exact ⟨by first | rfl | (simp [errW_none, errW_some] <;> rfl) | (simp [*, errW_none, errW_some] <;> rfl), by repeat (first | (with_reducible first | exact HB.out | apply below_alloc | apply pw_below_drewN | apply below_drew1) | exact HB.out)⟩
              · rw [if_neg c22] at H
                have c22b0 : (x5_2 == t142) = false := beq_eq_false_iff_ne.mpr c22
                have c22b1 : (x5_2 != t142) = true := bne_iff_ne.mpr c22
                obtain rfl := Option.some.inj H
                go_wp2_with (first | ((with_reducible refine gate_callee (f := 14) rfl ?_); refine goesL_ (some 42) rfl rfl Try.func14 (by kernel_rfl) rfl #[.slice A0 l0.length c0] rfl (by (try simp only [List.map_toArray, List.map_cons, List.map_nil]); first | done | rfl | (simp only [List.length_drop, List.length_take]; rfl)) ?_; (with_reducible refine (crc_Sum.calls k2 _ _ l0 t142 _ ?side1 ?side2 A21.out).mono ?_); (case side1 => repeat (first | exact (Kd.C_below HR0.out HB.out) | (with_reducible refine Kd.C_alloc ?_ _) | (with_reducible refine Kd.C_drewN ?_ _) | (with_reducible refine Kd.C_drew ?_))); (case side2 => exact HC0.out); rintro e w' ⟨rfl, ⟨nd, rfl⟩⟩; refine ⟨_, rfl, ?_⟩))
                go_ret
                exact ⟨by first | rfl | (simp [errW_none, errW_some] <;> rfl) | (simp [*, errW_none, errW_some] <;> rfl), by repeat (first | (with_reducible first | exact HB.out | apply below_alloc | apply pw_below_drewN | apply below_drew1) | exact HB.out)⟩

/-- THE ONE PURE STATEMENT of bollardlaw2_CrcPieces: yours. -/
def bollardlaw2_CrcPieces.Pure : Prop := ∀ (l0 : List Int) (a1 : Int), l0.length ≤ maxLen → l0.length * 1 ≤ 140737488351232 → (∀ x ∈ l0, (Lit.int .u8 x).wf = true) → (Lit.int .i64 a1).wf = true → ∃ k, bollardlaw2_CrcPieces.f k l0 a1 = some true
theorem bollardlaw2_CrcPieces.walk (P : bollardlaw2_CrcPieces.Pure) (a0 : Option Addr) (len0 cap0 : Nat) (z0 : List Int) (a1 : Int) (w : World) (w0 : (a0 = none ∧ len0 = 0 ∧ cap0 = 0 ∧ z0 = []) ∨ ∃ x, a0 = some x ∧ len0 ≤ cap0 ∧ cap0 ≤ maxLen ∧ z0.length = cap0 ∧ (∀ i, i < z0.length → w.cell? (x.add i) = some (.int .u8 (z0.getD i 0))) ∧ ∀ n ∈ z0, (Lit.int .u8 n).wf = true) (y0 : len0 * 1 ≤ 140737488351232) (w1 : (Lit.int .i64 a1).wf = true) :
    Calls Try.prog 5 #[.slice a0 len0 cap0, .int .i64 a1] w fun e w' => e = .returned (.bool true) ∧ Below w.heap.size w w' := by
  obtain ⟨l0, rfl, hr0, hm0, hw0, hc0⟩ := ReadsInt.ofRowC w0
  obtain ⟨k, h⟩ := P l0 a1 hm0 y0 hw0 w1
  refine (bollardlaw2_CrcPieces.calls k _ _ l0 a1 true w (Kd.C_of_reads (d := (0 : Int)) (h1 := fun _ => rfl) hr0) hc0 h).mono ?_
  rintro e w' ⟨rfl, hd⟩
  exact ⟨rfl, hd⟩

end Go.Proofs.Ytnfoknnbolgfjaa.PCrc
