-- written by a program of this session (wip/tools/pr.py, over the kit's printer): not by hand
import Derived.Test.YtcmkmjmhjjohkaaPDecx0
import Derived.Test.YtcmkmjmhjjohkaaPDecx3
namespace Go.Proofs.Ytcmkmjmhjjohkaa.PDec
open Go.RowKit Go.Proofs.YtcmkmjmhjjohkaaW.PrintWords Go.Proofs.YtcmkmjmhjjohkaaW.PrintLast Go.Proofs.YtcmkmjmhjjohkaaW.PrintMore
attribute [local go_sem] max2_int min2_int max_two min_two max_three min_three max_four min_four   -- for this text's walks alone
set_option linter.unusedVariables false
set_option linter.unusedSimpArgs false

/-! ### bollardalike_Bytes: function 13 -/
def bollardalike_Bytes.l0 : Nat → List Int → List Int → Int → Option (Bool)
  | 0, _, _, _ => none
  | k + 1, x0, x1, x5 => if x5 < (x0.length : Int) then (if 0 ≤ x5 then (if x5 < (x1.length : Int) then (if (rd x0 x5) = (rd x1 x5) then (bollardalike_Bytes.l0 k x0 x1 (wrap64 (x5 + 1))) else (some false)) else (none)) else (none)) else (some true)
def bollardalike_Bytes.f (k : Nat) (l0 : List Int) (l1 : List Int) : Option (Bool) := if (l0.length : Int) = (l1.length : Int) then (bollardalike_Bytes.l0 k l0 l1 0) else (some false)
theorem bollardalike_Bytes.mono_l : ∀ k, (∀ y0 y1 y2, LeO (bollardalike_Bytes.l0 k y0 y1 y2) (bollardalike_Bytes.l0 (k + 1) y0 y1 y2))
  | 0 => fun _ _ _ r h => by simp [bollardalike_Bytes.l0] at h
  | k + 1 => by
    have ih0 := bollardalike_Bytes.mono_l k
    · intro y0 y1 y2
      unfold bollardalike_Bytes.l0
      repeat' first
      | (with_reducible exact ih0 _ _ _)
      | (with_reducible exact LeO.refl _)
      | (with_reducible exact LeO.none _)
      | (with_reducible refine LeO.ite ?_ ?_)
      | (with_reducible refine LeO.bind ?_ (fun _ => ?_))
      | exact ih0 _ _ _
      | exact LeO.none _
      | refine LeO.ite ?_ ?_
      | refine LeO.bind ?_ (fun _ => ?_)
theorem bollardalike_Bytes.mono : ∀ a0 a1 k, LeO (bollardalike_Bytes.f k a0 a1) (bollardalike_Bytes.f (k + 1) a0 a1) := by
  intro a0 a1 k
  have ih0 := bollardalike_Bytes.mono_l k
  unfold bollardalike_Bytes.f
  repeat' first
      | (with_reducible exact ih0 _ _ _)
      | (with_reducible exact LeO.refl _)
      | (with_reducible exact LeO.none _)
      | (with_reducible refine LeO.ite ?_ ?_)
      | (with_reducible refine LeO.bind ?_ (fun _ => ?_))
      | exact ih0 _ _ _
      | exact LeO.none _
      | refine LeO.ite ?_ ?_
      | refine LeO.bind ?_ (fun _ => ?_)
set_option maxHeartbeats 8000000 in
set_option maxRecDepth 100000 in
theorem bollardalike_Bytes.calls (k : Nat) (A0 : Option Addr) (c0 : Nat) (l0 : List Int) (A1 : Option Addr) (c1 : Nat) (l1 : List Int) (r : Bool) (w : World) (hr0 : Kd.C (Kd.int .u8) w A0 l0.length l0) (hc0 : l0.length ≤ c0) (hr1 : Kd.C (Kd.int .u8) w A1 l1.length l1) (hc1 : l1.length ≤ c1) (h : bollardalike_Bytes.f k l0 l1 = some r) :
    Calls Try.prog 13 #[.slice A0 l0.length c0, .slice A1 l1.length c1] w fun e w' => e = .returned (.bool r) ∧ Drawn0 w w' := by
  have HR0 := Aside0.mk hr0
  have HC0 := Aside0.mk hc0
  clear hr0 hc0
  have HR1 := Aside0.mk hr1
  have HC1 := Aside0.mk hc1
  clear hr1 hc1
  have H : (if (l0.length : Int) = (l1.length : Int) then (bollardalike_Bytes.l0 k l0 l1 0) else (some false)) = some r := h
  clear h
  by_cases c3 : (l0.length : Int) = (l1.length : Int)
  · rw [if_pos c3] at H
    have c3b0 : ((l0.length : Int) == (l1.length : Int)) = true := beq_iff_eq.mpr c3
    have c3b1 : ((l0.length : Int) != (l1.length : Int)) = false := bne_eq_false_iff_eq.mpr c3
    have c3b2 : (l0.length == l1.length) = true := by first | simpa using c3 | (simp at c3 ⊢; omega)
    clear c3
    have H' := Aside0.mk H
    clear H
    go_enter Try.func13, Try.ntmps13
    go_wp2
    repeat (go_quiet (fail); try go_wp2)
    go_loopg [5] k (fun kq v5 w' => ∃ (x5_1 : Int), v5 = .int .i64 x5_1 ∧ Aside0 (bollardalike_Bytes.l0 kq l0 l1 x5_1 = some r) ∧ Aside0 (kq ≤ k) ∧ Drawn0 w w')
    case atStart => exact ⟨(0), (by first | rfl | (simp; done) | (simp [*]; done) | exact congrArg Value.bool (ne_empty _) | exact congrArg Value.bool (eq_empty _)), H', ⟨Nat.le_refl _⟩, by repeat (first | exact Drawn0.refl _ | apply Drawn0.step)⟩
    case round =>
      clear H'
      try clear c1
      try clear p2
      try clear c3
      try clear c3b0
      try clear c3b1
      try clear c3b2
      obtain ⟨x5_1, rfl, HA, HK1, ⟨m1, rfl⟩⟩ := hrel
      cases gk with
      | zero => exact absurd HA.out (by simp [bollardalike_Bytes.l0])
      | succ k1 =>
        have H := HA.out
        clear HA
        simp only [bollardalike_Bytes.l0] at H
        by_cases c4 : x5_1 < (l0.length : Int)
        · rw [if_pos c4] at H
          have c4b0 : decide (x5_1 < (l0.length : Int)) = true := decide_eq_true c4
          clear c4
          by_cases c5 : 0 ≤ x5_1
          · rw [if_pos c5] at H
            have c5b0 : decide (0 ≤ x5_1) = true := decide_eq_true c5
            clear c5
            by_cases c6 : x5_1 < (l1.length : Int)
            · rw [if_pos c6] at H
              have c6b0 : decide (x5_1 < (l1.length : Int)) = true := decide_eq_true c6
              clear c6
              by_cases c7 : (rd l0 x5_1) = (rd l1 x5_1)
              · rw [if_pos c7] at H
                have c7b0 : ((rd l0 x5_1) == (rd l1 x5_1)) = true := beq_iff_eq.mpr c7
                have c7b1 : ((rd l0 x5_1) != (rd l1 x5_1)) = false := bne_eq_false_iff_eq.mpr c7
                clear c7
                have H' := Aside0.mk H
                clear H
                have p151 : 0 ≤ (x5_1 : Int) := of_decide_eq_true (by first | (with_reducible assumption) | assumption)
                have q151 : x5_1 < (l0.length : Int) := of_decide_eq_true (by first | (with_reducible assumption) | assumption)
                obtain ⟨ad151, e151, hx151_0⟩ := Kd.at_int HR0.out x5_1 p151 q151
                cases e151
                replace p151 := eq_true p151
                replace q151 := eq_true q151
                have p152 : 0 ≤ (x5_1 : Int) := of_decide_eq_true (by first | (with_reducible assumption) | assumption)
                have q152 : x5_1 < (l1.length : Int) := of_decide_eq_true (by first | (with_reducible assumption) | assumption)
                obtain ⟨ad152, e152, hx152_0⟩ := Kd.at_int HR1.out x5_1 p152 q152
                cases e152
                replace p152 := eq_true p152
                replace q152 := eq_true q152
                go_wp2
                repeat (go_quiet (fail); try go_wp2)
                go_roundg k1
                case measure => have := HK1.out; omega
                case rel => exact ⟨(wrap64 (x5_1 + 1)), (by first | rfl | (simp; done) | (simp [*]; done) | exact congrArg Value.bool (ne_empty _) | exact congrArg Value.bool (eq_empty _)), H', ⟨by have := HK1.out; omega⟩, by repeat (first | exact Drawn0.refl _ | apply Drawn0.step)⟩
              · rw [if_neg c7] at H
                have c7b0 : ((rd l0 x5_1) == (rd l1 x5_1)) = false := beq_eq_false_iff_ne.mpr c7
                have c7b1 : ((rd l0 x5_1) != (rd l1 x5_1)) = true := bne_iff_ne.mpr c7
                obtain rfl := Option.some.inj H
                have p151 : 0 ≤ (x5_1 : Int) := of_decide_eq_true (by first | (with_reducible assumption) | assumption)
                have q151 : x5_1 < (l0.length : Int) := of_decide_eq_true (by first | (with_reducible assumption) | assumption)
                obtain ⟨ad151, e151, hx151_0⟩ := Kd.at_int HR0.out x5_1 p151 q151
                cases e151
                replace p151 := eq_true p151
                replace q151 := eq_true q151
                have p152 : 0 ≤ (x5_1 : Int) := of_decide_eq_true (by first | (with_reducible assumption) | assumption)
                have q152 : x5_1 < (l1.length : Int) := of_decide_eq_true (by first | (with_reducible assumption) | assumption)
                obtain ⟨ad152, e152, hx152_0⟩ := Kd.at_int HR1.out x5_1 p152 q152
                cases e152
                replace p152 := eq_true p152
                replace q152 := eq_true q152
                go_wp2
                repeat (go_quiet (fail); try go_wp2)
                go_ret
                exact ⟨by first | rfl | (simp; done) | (simp [*]; done) | exact congrArg Value.bool (ne_empty _) | exact congrArg Value.bool (eq_empty _), by repeat (first | exact Drawn0.refl _ | apply Drawn0.step)⟩
            · rw [if_neg c6] at H
              exact absurd H (by simp)
          · rw [if_neg c5] at H
            exact absurd H (by simp)
        · rw [if_neg c4] at H
          have c4b0 : decide (x5_1 < (l0.length : Int)) = false := decide_eq_false c4
          clear c4
          obtain rfl := Option.some.inj H
          go_wp2
          repeat (go_quiet (fail); try go_wp2)
          go_ret
          exact ⟨by first | rfl | (simp; done) | (simp [*]; done) | exact congrArg Value.bool (ne_empty _) | exact congrArg Value.bool (eq_empty _), by repeat (first | exact Drawn0.refl _ | apply Drawn0.step)⟩
  · rw [if_neg c3] at H
    have c3b0 : ((l0.length : Int) == (l1.length : Int)) = false := beq_eq_false_iff_ne.mpr c3
    have c3b1 : ((l0.length : Int) != (l1.length : Int)) = true := bne_iff_ne.mpr c3
    have c3b2 : (l0.length == l1.length) = false := by first | simpa using c3 | (simp at c3 ⊢; omega)
    obtain rfl := Option.some.inj H
    go_enter Try.func13, Try.ntmps13
    go_wp2
    repeat (go_quiet (fail); try go_wp2)
    go_ret
    exact ⟨by first | rfl | (simp; done) | (simp [*]; done) | exact congrArg Value.bool (ne_empty _) | exact congrArg Value.bool (eq_empty _), by repeat (first | exact Drawn0.refl _ | apply Drawn0.step)⟩

/-! ### bollardlaw12_awake: function 10 -/
def bollardlaw12_awake.f (k : Nat)  : Option (Bool) := (record_Encode.f k true (⟨#[97]⟩ : ByteArray) false (⟨#[]⟩ : ByteArray) 5 0 5).bind fun bt153 => (if bt153.2 = 0 then ((bollardalike_Bytes.f k bt153.1 (([1, 0, 0, 1, 97] : List Int))).bind fun t160 => (some t160)) else (some false))
theorem bollardlaw12_awake.mono : ∀ k, LeO (bollardlaw12_awake.f k ) (bollardlaw12_awake.f (k + 1) ) := by
  intro  k
  unfold bollardlaw12_awake.f
  repeat' first
      | (with_reducible exact bollardalike_Bytes.mono _ _ _)
      | (with_reducible exact record_Encode.mono _ _ _ _ _ _ _ _)
      | (with_reducible exact LeO.refl _)
      | (with_reducible exact LeO.none _)
      | (with_reducible refine LeO.ite ?_ ?_)
      | (with_reducible refine LeO.bind ?_ (fun _ => ?_))
      | exact bollardalike_Bytes.mono _ _ _
      | exact record_Encode.mono _ _ _ _ _ _ _ _
      | exact LeO.none _
      | refine LeO.ite ?_ ?_
      | refine LeO.bind ?_ (fun _ => ?_)
set_option maxHeartbeats 8000000 in
set_option maxRecDepth 100000 in
theorem bollardlaw12_awake.calls (k : Nat)  (r : Bool) (w : World) (h : bollardlaw12_awake.f k  = some r) :
    Calls Try.prog 10 #[] w fun e w' => e = .returned (.bool r) ∧ Below w.heap.size w w' := by
  have hu23 := Try.underlying23
  have HB := Aside0.mk (Below.refl w.heap.size w)
  have H : ((record_Encode.f k true (⟨#[97]⟩ : ByteArray) false (⟨#[]⟩ : ByteArray) 5 0 5).bind fun bt153 => (if bt153.2 = 0 then ((bollardalike_Bytes.f k bt153.1 (([1, 0, 0, 1, 97] : List Int))).bind fun t160 => (some t160)) else (some false))) = some r := h
  clear h
  replace H := Option.bind_eq_some_iff.mp H
  obtain ⟨⟨t153, t156⟩, A10, H⟩ := H
  replace H : (if t156 = 0 then ((bollardalike_Bytes.f k t153 (([1, 0, 0, 1, 97] : List Int))).bind fun t160 => (some t160)) else (some false)) = some r := H
  have A1 := Aside0.mk A10
  clear A10
  by_cases c2 : t156 = 0
  · rw [if_pos c2] at H
    have c2b0 : (t156 == 0) = true := beq_iff_eq.mpr c2
    have c2b1 : (t156 != 0) = false := bne_eq_false_iff_eq.mpr c2
    clear c2
    obtain ⟨y157, hy157⟩ : ∃ y_ : List Int, y_ = (([1, 0, 0, 1, 97] : List Int)) := ⟨_, rfl⟩
    replace H : ((bollardalike_Bytes.f k t153 y157).bind fun t160 => (some t160)) = some r := by first | (rw [hy157]; with_reducible exact H) | (have H2_ := (Option.bind_some _ _).symm.trans H; rw [hy157]; with_reducible exact H2_) | (have H2_ := (Option.bind_some _ _).symm.trans H; with_reducible exact H2_) | with_reducible exact H | (rw [hy157]; exact H) | exact H
    have Ny157 := Aside0.mk hy157
    clear hy157
    replace H := Option.bind_eq_some_iff.mp H
    obtain ⟨t160, A30, H⟩ := H
    replace H : (some t160) = some r := H
    have A3 := Aside0.mk A30
    clear A30
    obtain rfl := Option.some.inj H
    go_enter Try.func10, Try.ntmps10
    go_wp2_with (first | ((with_reducible refine gate_callee (f := 11) rfl ?_); refine goesL_ (some 5) rfl rfl Try.func11 (by kernel_rfl) rfl #[.agg #[.bool true, .string (⟨#[97]⟩ : ByteArray), .bool false, .string (⟨#[]⟩ : ByteArray), .int .i64 5, .int .i64 0], .int .i64 5] rfl (by (try simp only [List.map_toArray, List.map_cons, List.map_nil]); first | done | rfl | (simp only [List.length_drop, List.length_take]; rfl)) ?_; (with_reducible refine (record_Encode.calls k true (⟨#[97]⟩ : ByteArray) false (⟨#[]⟩ : ByteArray) 5 0 5 t153 t156 _ A1.out).mono ?_); rintro e w4 ⟨v154, rfl, ho0, hb⟩; refine ⟨_, rfl, ?_⟩; have n0_ := Aside0.mk (Kd.R_lower ho0 (below_size (by repeat (first | (with_reducible first | exact HB.out | apply below_alloc | apply pw_below_drewN | apply below_drew1) | exact HB.out)))); have n1_ := Aside0.mk (below_step (by repeat (first | (with_reducible first | exact HB.out | apply below_alloc | apply pw_below_drewN | apply below_drew1) | exact HB.out)) hb); clear HB; have HO155 := n0_; have HB := n1_; clear n0_ n1_; (try clear hb); (try clear hb2); (try clear hk); (try clear hi); (try clear ho0)) | ((with_reducible refine gate_dst (N := 12) rfl ?_); (try (refine gate_guard (by rfl) ?_; dsimp only)); refine Kd.R_lit (Kd.int .u8) _ 5 ?hg (N := 12) ?hd (xs := ([1, 0, 0, 1, 97] : List Int)) (inner := [.int .u8 1, .int .u8 0, .int .u8 0, .int .u8 1, .int .u8 97]) (ok := fun _ => True) (okp := fun _ => True) ?hr ?hp (fun _ hk => hk) trivial (Below.refl _ _) (Nat.le_refl _) (by simp) ?_; (case hd => rfl); (case hg => rfl); (case hr => first | (go_simp; done) | (go_simp; rfl)); (case hp => exact (Reps.one (show Kd.M (Kd.int .u8) _ _ _ 1 [.int .u8 1] from rfl) (Reps.one (show Kd.M (Kd.int .u8) _ _ _ 0 [.int .u8 0] from rfl) (Reps.one (show Kd.M (Kd.int .u8) _ _ _ 0 [.int .u8 0] from rfl) (Reps.one (show Kd.M (Kd.int .u8) _ _ _ 1 [.int .u8 1] from rfl) (Reps.one (show Kd.M (Kd.int .u8) _ _ _ 97 [.int .u8 97] from rfl) (Reps.none _ _))))))); intro v158 w5 ho6 hb hg_ hnew_; clear hg_ hnew_; (first | rw [← Ny157.out] at ho6 | (simp only [Int.reduceToNat] at ho6; rw [← Ny157.out] at ho6)); have n0_ := Aside0.mk (Kd.R_elder' (by (with_reducible repeat (first | apply Kd.R_alloc | apply Kd.R_drewN | apply Kd.R_drew)); exact HO155.out) (Kd.R_base ho6) hb); have n1_ := Aside0.mk (Kd.R_lower (Kd.R_new' ho6 (Kd.R_lt (by (with_reducible repeat (first | apply Kd.R_alloc | apply Kd.R_drewN | apply Kd.R_drew)); exact HO155.out))) (below_size (by repeat (first | (with_reducible first | exact HB.out | apply below_alloc | apply pw_below_drewN | apply below_drew1) | exact HB.out)))); have n2_ := Aside0.mk (below_step (by repeat (first | (with_reducible first | exact HB.out | apply below_alloc | apply pw_below_drewN | apply below_drew1) | exact HB.out)) hb); clear HO155; clear HB; have HO155 := n0_; have HO159 := n1_; have HB := n2_; clear n0_ n1_ n2_; clear hb ho6; obtain ⟨Ao7, co7, eo7⟩ := Kd.R_slice HO155.out; subst eo7; obtain ⟨Ao8, co8, eo8⟩ := Kd.R_slice HO159.out; subst eo8) | (go_at_call 13; (with_reducible refine (bollardalike_Bytes.calls k _ _ t153 _ _ y157 t160 _ ?side1 ?side2 ?side3 ?side4 A3.out).mono ?_); (case side1 => repeat (first | exact (Kd.R_reads' HO155.out).2.2 | (with_reducible refine Kd.C_alloc ?_ _) | (with_reducible refine Kd.C_drewN ?_ _) | (with_reducible refine Kd.C_drew ?_))); (case side2 => exact (Kd.R_reads' HO155.out).2.1); (case side3 => repeat (first | exact (Kd.R_reads' HO159.out).2.2 | (with_reducible refine Kd.C_alloc ?_ _) | (with_reducible refine Kd.C_drewN ?_ _) | (with_reducible refine Kd.C_drew ?_))); (case side4 => exact (Kd.R_reads' HO159.out).2.1); rintro e w' ⟨rfl, ⟨nd, rfl⟩⟩))
    go_ret
    exact ⟨by first | rfl | (simp [errW_none, errW_some] <;> rfl) | (simp [*, errW_none, errW_some] <;> rfl), by repeat (first | (with_reducible first | exact HB.out | apply below_alloc | apply pw_below_drewN | apply below_drew1) | exact HB.out)⟩
  · rw [if_neg c2] at H
    have c2b0 : (t156 == 0) = false := beq_eq_false_iff_ne.mpr c2
    have c2b1 : (t156 != 0) = true := bne_iff_ne.mpr c2
    obtain rfl := Option.some.inj H
    go_enter Try.func10, Try.ntmps10
    go_wp2_with (first | ((with_reducible refine gate_callee (f := 11) rfl ?_); refine goesL_ (some 5) rfl rfl Try.func11 (by kernel_rfl) rfl #[.agg #[.bool true, .string (⟨#[97]⟩ : ByteArray), .bool false, .string (⟨#[]⟩ : ByteArray), .int .i64 5, .int .i64 0], .int .i64 5] rfl (by (try simp only [List.map_toArray, List.map_cons, List.map_nil]); first | done | rfl | (simp only [List.length_drop, List.length_take]; rfl)) ?_; (with_reducible refine (record_Encode.calls k true (⟨#[97]⟩ : ByteArray) false (⟨#[]⟩ : ByteArray) 5 0 5 t153 t156 _ A1.out).mono ?_); rintro e w9 ⟨v154, rfl, ho0, hb⟩; refine ⟨_, rfl, ?_⟩; have n0_ := Aside0.mk (Kd.R_lower ho0 (below_size (by repeat (first | (with_reducible first | exact HB.out | apply below_alloc | apply pw_below_drewN | apply below_drew1) | exact HB.out)))); have n1_ := Aside0.mk (below_step (by repeat (first | (with_reducible first | exact HB.out | apply below_alloc | apply pw_below_drewN | apply below_drew1) | exact HB.out)) hb); clear HB; have HO155 := n0_; have HB := n1_; clear n0_ n1_; (try clear hb); (try clear hb2); (try clear hk); (try clear hi); (try clear ho0)))
    go_ret
    exact ⟨by first | rfl | (simp [errW_none, errW_some] <;> rfl) | (simp [*, errW_none, errW_some] <;> rfl), by repeat (first | (with_reducible first | exact HB.out | apply below_alloc | apply pw_below_drewN | apply below_drew1) | exact HB.out)⟩

/-! ### bits_Unvarint: function 32 -/
mutual
def bits_Unvarint.l0 : Nat → Int → List Int → Int → Int → Option (Int × Int)
  | 0, _, _, _, _ => none
  | k + 1, x2, x6, x7, x8 => if x8 < x7 then (if 0 ≤ x8 then (if x8 < (x6.length : Int) then (if x8 = 10 then (bits_Unvarint.j1 k x2 x8 (rd x6 x8) x6 x7 x8 true) else (if x8 = 9 then (if (rd x6 x8) > 1 then (bits_Unvarint.j1 k x2 x8 (rd x6 x8) x6 x7 x8 true) else (if x8 > 0 then (bits_Unvarint.j1 k x2 x8 (rd x6 x8) x6 x7 x8 ((rd x6 x8) == 0)) else (bits_Unvarint.j1 k x2 x8 (rd x6 x8) x6 x7 x8 false))) else (if x8 > 0 then (bits_Unvarint.j1 k x2 x8 (rd x6 x8) x6 x7 x8 ((rd x6 x8) == 0)) else (bits_Unvarint.j1 k x2 x8 (rd x6 x8) x6 x7 x8 false)))) else (none)) else (none)) else (some (0, 0))
def bits_Unvarint.j1 : Nat → Int → Int → Int → List Int → Int → Int → Bool → Option (Int × Int)
  | 0, _, _, _, _, _, _, _ => none
  | k + 1, x2, x4, x5, x6, x7, x8, x30 => if x30 = true then (some (0, 0)) else (if 0 ≤ (wrap64 (7 * x4)) then (if x5 < 128 then (some (Go.bits .or .u64 x2 (shl .u64 (IntKind.u64.wrap (Go.bits .and .u8 x5 127)) (wrap64 (7 * x4))), wrap64 (x4 + 1))) else (bits_Unvarint.l0 k (Go.bits .or .u64 x2 (shl .u64 (IntKind.u64.wrap (Go.bits .and .u8 x5 127)) (wrap64 (7 * x4)))) x6 x7 (wrap64 (x8 + 1)))) else (none))
end
def bits_Unvarint.f (k : Nat) (l0 : List Int) : Option (Int × Int) := bits_Unvarint.l0 k 0 l0 (l0.length : Int) 0
theorem bits_Unvarint.mono_l : ∀ k, (∀ y0 y1 y2 y3, LeO (bits_Unvarint.l0 k y0 y1 y2 y3) (bits_Unvarint.l0 (k + 1) y0 y1 y2 y3)) ∧ (∀ y0 y1 y2 y3 y4 y5 y6, LeO (bits_Unvarint.j1 k y0 y1 y2 y3 y4 y5 y6) (bits_Unvarint.j1 (k + 1) y0 y1 y2 y3 y4 y5 y6))
  | 0 => ⟨fun _ _ _ _ r h => by simp [bits_Unvarint.l0] at h, fun _ _ _ _ _ _ _ r h => by simp [bits_Unvarint.j1] at h⟩
  | k + 1 => by
    obtain ⟨ih0, ih1⟩ := bits_Unvarint.mono_l k
    refine ⟨?_, ?_⟩
    · intro y0 y1 y2 y3
      unfold bits_Unvarint.l0
      repeat' first
      | (with_reducible exact ih0 _ _ _ _)
      | (with_reducible exact ih1 _ _ _ _ _ _ _)
      | (with_reducible exact LeO.refl _)
      | (with_reducible exact LeO.none _)
      | (with_reducible refine LeO.ite ?_ ?_)
      | (with_reducible refine LeO.bind ?_ (fun _ => ?_))
      | exact ih0 _ _ _ _
      | exact ih1 _ _ _ _ _ _ _
      | exact LeO.none _
      | refine LeO.ite ?_ ?_
      | refine LeO.bind ?_ (fun _ => ?_)
    · intro y0 y1 y2 y3 y4 y5 y6
      unfold bits_Unvarint.j1
      repeat' first
      | (with_reducible exact ih0 _ _ _ _)
      | (with_reducible exact ih1 _ _ _ _ _ _ _)
      | (with_reducible exact LeO.refl _)
      | (with_reducible exact LeO.none _)
      | (with_reducible refine LeO.ite ?_ ?_)
      | (with_reducible refine LeO.bind ?_ (fun _ => ?_))
      | exact ih0 _ _ _ _
      | exact ih1 _ _ _ _ _ _ _
      | exact LeO.none _
      | refine LeO.ite ?_ ?_
      | refine LeO.bind ?_ (fun _ => ?_)
theorem bits_Unvarint.mono : ∀ a0 k, LeO (bits_Unvarint.f k a0) (bits_Unvarint.f (k + 1) a0) := by
  intro a0 k
  obtain ⟨ih0, ih1⟩ := bits_Unvarint.mono_l k
  unfold bits_Unvarint.f
  repeat' first
      | (with_reducible exact ih0 _ _ _ _)
      | (with_reducible exact ih1 _ _ _ _ _ _ _)
      | (with_reducible exact LeO.refl _)
      | (with_reducible exact LeO.none _)
      | (with_reducible refine LeO.ite ?_ ?_)
      | (with_reducible refine LeO.bind ?_ (fun _ => ?_))
      | exact ih0 _ _ _ _
      | exact ih1 _ _ _ _ _ _ _
      | exact LeO.none _
      | refine LeO.ite ?_ ?_
      | refine LeO.bind ?_ (fun _ => ?_)
set_option maxHeartbeats 8000000 in
set_option maxRecDepth 100000 in
theorem bits_Unvarint.calls (k : Nat) (A0 : Option Addr) (c0 : Nat) (l0 : List Int) (r1 : Int) (r2 : Int) (w : World) (hr0 : Kd.C (Kd.int .u8) w A0 l0.length l0) (hc0 : l0.length ≤ c0) (h : bits_Unvarint.f k l0 = some (r1, r2)) :
    Calls Try.prog 32 #[.slice A0 l0.length c0] w fun e w' => e = .returned (.tuple #[.int .u64 r1, .int .i64 r2]) ∧ Drawn0 w w' := by
  have HR0 := Aside0.mk hr0
  have HC0 := Aside0.mk hc0
  clear hr0 hc0
  have H : (bits_Unvarint.l0 k 0 l0 (l0.length : Int) 0) = some (r1, r2) := h
  clear h
  have H' := Aside0.mk H
  clear H
  go_enter Try.func32, Try.ntmps32
  go_wp2
  go_loopg [2, 8] k (fun kq v2 v8 w' => ∃ (x2_1 : Int) (x8_1 : Int), v2 = .int .u64 x2_1 ∧ v8 = .int .i64 x8_1 ∧ Aside0 (bits_Unvarint.l0 kq x2_1 l0 (l0.length : Int) x8_1 = some (r1, r2)) ∧ Aside0 (kq ≤ k) ∧ Drawn0 w w')
  case atStart => exact ⟨(0), (0), (by first | rfl | (simp; done) | (simp [*]; done) | exact congrArg Value.bool (ne_empty _) | exact congrArg Value.bool (eq_empty _)), (by first | rfl | (simp; done) | (simp [*]; done) | exact congrArg Value.bool (ne_empty _) | exact congrArg Value.bool (eq_empty _)), H', ⟨Nat.le_refl _⟩, by repeat (first | exact Drawn0.refl _ | apply Drawn0.step)⟩
  case round =>
    clear H'
    obtain ⟨x2_1, x8_1, rfl, rfl, HA, HK1, ⟨m1, rfl⟩⟩ := hrel
    cases gk with
    | zero => exact absurd HA.out (by simp [bits_Unvarint.l0])
    | succ k1 =>
      have H := HA.out
      clear HA
      simp only [bits_Unvarint.l0] at H
      by_cases c2 : x8_1 < (l0.length : Int)
      · rw [if_pos c2] at H
        have c2b0 : decide (x8_1 < (l0.length : Int)) = true := decide_eq_true c2
        clear c2
        by_cases c3 : 0 ≤ x8_1
        · rw [if_pos c3] at H
          have c3b0 : decide (0 ≤ x8_1) = true := decide_eq_true c3
          clear c3
          by_cases c4 : x8_1 < (l0.length : Int)
          · rw [if_pos c4] at H
            have c4b0 : decide (x8_1 < (l0.length : Int)) = true := decide_eq_true c4
            clear c4
            have HC5 := Aside0.mk H
            clear H
            have p161 : 0 ≤ (x8_1 : Int) := of_decide_eq_true (by first | (with_reducible assumption) | assumption)
            have q161 : x8_1 < (l0.length : Int) := of_decide_eq_true (by first | (with_reducible assumption) | assumption)
            obtain ⟨ad161, e161, hx161_0⟩ := Kd.at_int HR0.out x8_1 p161 q161
            cases e161
            replace p161 := eq_true p161
            replace q161 := eq_true q161
            go_upto_region 4 with (fail)
            go_cut [30] (fun v30 wc => ∃ (kq : Nat) (x30_4 : Bool), v30 = .bool x30_4 ∧ Aside0 (bits_Unvarint.j1 kq x2_1 x8_1 (rd l0 x8_1) l0 (l0.length : Int) x8_1 x30_4 = some (r1, r2)) ∧ Aside0 (kq ≤ k1) ∧ Drawn0 w wc)
            case first =>
              have H := HC5.out
              clear HC5
              by_cases c6 : x8_1 = 10
              · rw [if_pos c6] at H
                have c6b0 : (x8_1 == 10) = true := beq_iff_eq.mpr c6
                have c6b1 : (x8_1 != 10) = false := bne_eq_false_iff_eq.mpr c6
                clear c6
                (first | rw [c6b0] | (simp only [i64_w, i32_w]; rw [c6b0]) | skip)
                have H' := Aside0.mk H
                clear H
                go_wp2
                go_meet
                case rel => exact ⟨_, (true), (by first | rfl | (simp; done) | (simp [*]; done) | exact congrArg Value.bool (ne_empty _) | exact congrArg Value.bool (eq_empty _)), H', ⟨by have := HK1.out; first | omega | exact Nat.le_refl _⟩, by repeat (first | exact Drawn0.refl _ | apply Drawn0.step)⟩
              · rw [if_neg c6] at H
                have c6b0 : (x8_1 == 10) = false := beq_eq_false_iff_ne.mpr c6
                have c6b1 : (x8_1 != 10) = true := bne_iff_ne.mpr c6
                (first | rw [c6b0] | (simp only [i64_w, i32_w]; rw [c6b0]) | skip)
                by_cases c7 : x8_1 = 9
                · rw [if_pos c7] at H
                  have c7b0 : (x8_1 == 9) = true := beq_iff_eq.mpr c7
                  have c7b1 : (x8_1 != 9) = false := bne_eq_false_iff_eq.mpr c7
                  clear c7
                  by_cases c8 : (rd l0 x8_1) > 1
                  · rw [if_pos c8] at H
                    have c8b0 : decide (1 < (rd l0 x8_1)) = true := decide_eq_true c8
                    clear c8
                    have H' := Aside0.mk H
                    clear H
                    go_wp2
                    go_meet
                    case rel => exact ⟨_, (true), (by first | rfl | (simp; done) | (simp [*]; done) | exact congrArg Value.bool (ne_empty _) | exact congrArg Value.bool (eq_empty _)), H', ⟨by have := HK1.out; first | omega | exact Nat.le_refl _⟩, by repeat (first | exact Drawn0.refl _ | apply Drawn0.step)⟩
                  · rw [if_neg c8] at H
                    have c8b0 : decide (1 < (rd l0 x8_1)) = false := decide_eq_false c8
                    clear c8
                    by_cases c9 : x8_1 > 0
                    · rw [if_pos c9] at H
                      have c9b0 : decide (0 < x8_1) = true := decide_eq_true c9
                      clear c9
                      have H' := Aside0.mk H
                      clear H
                      go_wp2
                      go_meet
                      case rel => exact ⟨_, (((rd l0 x8_1) == 0)), (by first | rfl | (simp; done) | (simp [*]; done) | exact congrArg Value.bool (ne_empty _) | exact congrArg Value.bool (eq_empty _)), H', ⟨by have := HK1.out; first | omega | exact Nat.le_refl _⟩, by repeat (first | exact Drawn0.refl _ | apply Drawn0.step)⟩
                    · rw [if_neg c9] at H
                      have c9b0 : decide (0 < x8_1) = false := decide_eq_false c9
                      clear c9
                      have H' := Aside0.mk H
                      clear H
                      go_wp2
                      go_meet
                      case rel => exact ⟨_, (false), (by first | rfl | (simp; done) | (simp [*]; done) | exact congrArg Value.bool (ne_empty _) | exact congrArg Value.bool (eq_empty _)), H', ⟨by have := HK1.out; first | omega | exact Nat.le_refl _⟩, by repeat (first | exact Drawn0.refl _ | apply Drawn0.step)⟩
                · rw [if_neg c7] at H
                  have c7b0 : (x8_1 == 9) = false := beq_eq_false_iff_ne.mpr c7
                  have c7b1 : (x8_1 != 9) = true := bne_iff_ne.mpr c7
                  by_cases c10 : x8_1 > 0
                  · rw [if_pos c10] at H
                    have c10b0 : decide (0 < x8_1) = true := decide_eq_true c10
                    clear c10
                    have H' := Aside0.mk H
                    clear H
                    go_wp2
                    go_meet
                    case rel => exact ⟨_, (((rd l0 x8_1) == 0)), (by first | rfl | (simp; done) | (simp [*]; done) | exact congrArg Value.bool (ne_empty _) | exact congrArg Value.bool (eq_empty _)), H', ⟨by have := HK1.out; first | omega | exact Nat.le_refl _⟩, by repeat (first | exact Drawn0.refl _ | apply Drawn0.step)⟩
                  · rw [if_neg c10] at H
                    have c10b0 : decide (0 < x8_1) = false := decide_eq_false c10
                    clear c10
                    have H' := Aside0.mk H
                    clear H
                    go_wp2
                    go_meet
                    case rel => exact ⟨_, (false), (by first | rfl | (simp; done) | (simp [*]; done) | exact congrArg Value.bool (ne_empty _) | exact congrArg Value.bool (eq_empty _)), H', ⟨by have := HK1.out; first | omega | exact Nat.le_refl _⟩, by repeat (first | exact Drawn0.refl _ | apply Drawn0.step)⟩
            case rest =>
              clear HC5
              try clear c1
              try clear p1
              try clear q1
              try clear hx1
              try clear c2
              try clear c2b0
              try clear p2
              try clear c3
              try clear c3b0
              try clear c4
              try clear c4b0
              try clear c6
              try clear c6b0
              try clear c6b1
              try clear c7
              try clear c7b0
              try clear c7b1
              try clear c8
              try clear c8b0
              try clear c9
              try clear c9b0
              try clear c10
              try clear c10b0
              try clear hx161_0
              try clear p161
              try clear q161
              obtain ⟨kq, x30_4, rfl, HA, HJ4, ⟨mc4, rfl⟩⟩ := hcut
              cases kq with
              | zero => exact absurd HA.out (by simp [bits_Unvarint.j1])
              | succ kj4 =>
                have H := HA.out
                clear HA
                simp only [bits_Unvarint.j1] at H
                by_cases c11 : x30_4 = true
                · subst c11
                  have H1 : (some (0, 0)) = some (r1, r2) := by rw [if_pos rfl] at H; exact H
                  clear H
                  have H := H1
                  clear H1
                  simp only [Option.some.injEq, Prod.mk.injEq] at H
                  obtain ⟨rfl, rfl⟩ := H
                  go_wp2
                  go_ret2
                  exact ⟨by first | rfl | (simp; done) | (simp [*]; done) | exact congrArg Value.bool (ne_empty _) | exact congrArg Value.bool (eq_empty _), by repeat (first | exact Drawn0.refl _ | apply Drawn0.step)⟩
                · replace c11 := Bool.eq_false_iff.mpr c11
                  subst c11
                  have H1 : (if 0 ≤ (wrap64 (7 * x8_1)) then (if (rd l0 x8_1) < 128 then (some (Go.bits .or .u64 x2_1 (shl .u64 (IntKind.u64.wrap (Go.bits .and .u8 (rd l0 x8_1) 127)) (wrap64 (7 * x8_1))), wrap64 (x8_1 + 1))) else (bits_Unvarint.l0 kj4 (Go.bits .or .u64 x2_1 (shl .u64 (IntKind.u64.wrap (Go.bits .and .u8 (rd l0 x8_1) 127)) (wrap64 (7 * x8_1)))) l0 (l0.length : Int) (wrap64 (x8_1 + 1)))) else (none)) = some (r1, r2) := by rw [if_neg (show ¬ (false = true) by decide)] at H; exact H
                  clear H
                  have H := H1
                  clear H1
                  obtain ⟨ji12, hji12⟩ : ∃ j_ : Int, (wrap64 (7 * x8_1)) = j_ := ⟨_, rfl⟩
                  replace H : (if 0 ≤ (ji12) then (if (rd l0 x8_1) < 128 then (some (Go.bits .or .u64 x2_1 (shl .u64 (IntKind.u64.wrap (Go.bits .and .u8 (rd l0 x8_1) 127)) (ji12)), wrap64 (x8_1 + 1))) else (bits_Unvarint.l0 kj4 (Go.bits .or .u64 x2_1 (shl .u64 (IntKind.u64.wrap (Go.bits .and .u8 (rd l0 x8_1) 127)) (ji12))) l0 (l0.length : Int) (wrap64 (x8_1 + 1)))) else (none)) = some (r1, r2) := by first | (rw [hji12] at H; exact H) | (simp only [hji12] at H ⊢; exact H)
                  have hji12w : (IntKind.i64.wrap (7 * x8_1)) = ji12 := (i64_w _).trans hji12
                  by_cases c13 : 0 ≤ (ji12)
                  · rw [if_pos c13] at H
                    have c13b0 := eq_true c13
                    have c13b1 : decide (0 ≤ (ji12)) = true := decide_eq_true c13
                    clear c13
                    obtain ⟨ji14, hji14⟩ : ∃ j_ : Int, (shl .u64 (IntKind.u64.wrap (Go.bits .and .u8 (rd l0 x8_1) 127)) (ji12)) = j_ := ⟨_, rfl⟩
                    replace H : (if (rd l0 x8_1) < 128 then (some (Go.bits .or .u64 x2_1 (ji14), wrap64 (x8_1 + 1))) else (bits_Unvarint.l0 kj4 (Go.bits .or .u64 x2_1 (ji14)) l0 (l0.length : Int) (wrap64 (x8_1 + 1)))) = some (r1, r2) := by first | (rw [hji14] at H; exact H) | (simp only [hji14] at H ⊢; exact H)
                    have hji14_ : (IntKind.u64.wrap ((IntKind.u64.wrap (Go.bits .and .u8 (rd l0 x8_1) 127)) * 2 ^ min (ji12).toNat 64)) = ji14 := hji14
                    have hji14z : (ji12) ≤ 64 → (IntKind.u64.wrap ((IntKind.u64.wrap (Go.bits .and .u8 (rd l0 x8_1) 127)) * 2 ^ (ji12).toNat)) = ji14 := shl_small hji14
                    by_cases c15 : (rd l0 x8_1) < 128
                    · rw [if_pos c15] at H
                      have c15b0 : decide ((rd l0 x8_1) < 128) = true := decide_eq_true c15
                      clear c15
                      simp only [Option.some.injEq, Prod.mk.injEq] at H
                      obtain ⟨rfl, rfl⟩ := H
                      go_wp2
                      go_ret2
                      exact ⟨by first | rfl | (simp; done) | (simp only [← hji12, ← hji14] <;> (first | rfl | simp)) | (simp [*]; done), by repeat (first | exact Drawn0.refl _ | apply Drawn0.step)⟩
                    · rw [if_neg c15] at H
                      have c15b0 : decide ((rd l0 x8_1) < 128) = false := decide_eq_false c15
                      clear c15
                      have H' := Aside0.mk H
                      clear H
                      go_wp2
                      go_roundg kj4
                      case measure => have := HK1.out; have := HJ4.out; omega
                      case rel => exact ⟨(Go.bits .or .u64 x2_1 (ji14)), (wrap64 (x8_1 + 1)), (by first | rfl | (simp; done) | (simp only [← hji14] <;> (first | rfl | simp)) | (simp [*]; done)), (by first | rfl | (simp; done) | (simp [*]; done) | exact congrArg Value.bool (ne_empty _) | exact congrArg Value.bool (eq_empty _)), H', ⟨by have := HK1.out; have := HJ4.out; omega⟩, by repeat (first | exact Drawn0.refl _ | apply Drawn0.step)⟩
                  · rw [if_neg c13] at H
                    exact absurd H (by simp)
          · rw [if_neg c4] at H
            exact absurd H (by simp)
        · rw [if_neg c3] at H
          exact absurd H (by simp)
      · rw [if_neg c2] at H
        have c2b0 : decide (x8_1 < (l0.length : Int)) = false := decide_eq_false c2
        clear c2
        simp only [Option.some.injEq, Prod.mk.injEq] at H
        obtain ⟨rfl, rfl⟩ := H
        go_wp2
        go_ret2
        exact ⟨by first | rfl | (simp; done) | (simp [*]; done) | exact congrArg Value.bool (ne_empty _) | exact congrArg Value.bool (eq_empty _), by repeat (first | exact Drawn0.refl _ | apply Drawn0.step)⟩

/-- One block alone may have turned. -/
structure Turned (g : Nat) (w w' : World) : Prop where
  os : w'.os = w.os
  tape : w'.tape = w.tape
  output : w'.output = w.output
  size : w'.heap.size = w.heap.size
  block : ∀ k, k ≠ g → w'.heap[k]? = w.heap[k]?
theorem Turned.refl (g : Nat) (w : World) : Turned g w w := ⟨rfl, rfl, rfl, rfl, fun _ _ => rfl⟩
theorem Turned.trans {g : Nat} {a b c : World} (h : Turned g a b) (k : Turned g b c) : Turned g a c := ⟨k.os.trans h.os, k.tape.trans h.tape, k.output.trans h.output, k.size.trans h.size, fun i hi => (k.block i hi).trans (h.block i hi)⟩
theorem Turned.drewN {g : Nat} {a b : World} (h : Turned g a b) (n : Nat) : Turned g a (b.drewN n) := ⟨h.os, h.tape, h.output, h.size, h.block⟩
theorem Turned.set {g : Nat} {a b : World} (h : Turned g a b) (j : Nat) (u : Value) : Turned g a (b.setCell ⟨g, j, none⟩ u) := by
  have hb := (Below.refl g b).setCell (p := ⟨g, j, none⟩) (Nat.le_refl _) u
  refine h.trans ⟨hb.os, hb.tape, hb.output, ?_, fun k hk => Below.heap_setCell b ⟨g, j, none⟩ u k hk⟩
  simp
theorem Turned.below {g B : Nat} {w0 w w' : World} (h : Turned g w w') (hb : Below B w0 w) (hg : B ≤ g) : Below B w0 w' :=
  ⟨h.os.trans hb.os, h.tape.trans hb.tape, h.output.trans hb.output, by rw [h.size]; exact hb.size, fun k hk => (h.block k (by omega)).trans (hb.block k hk)⟩

/-- A reader at block g: what it reads, the place, whether it is over. -/
def IsRd (w : World) (g : Nat) (A : Option Addr) (n c : Nat) (at_ : Int) (bad : Bool) : Prop := w.heap[g]? = some (.cells #[.slice A n c, .int .i64 at_, .bool bad] 55 (0, 0))
theorem IsRd.c0 {w : World} {g : Nat} {A : Option Addr} {n c : Nat} {at_ : Int} {bad : Bool} (h : IsRd w g A n c at_ bad) : w.cell? ⟨g, 0, none⟩ = some (.slice A n c) := (blk_cell h 0).trans rfl
theorem IsRd.c1 {w : World} {g : Nat} {A : Option Addr} {n c : Nat} {at_ : Int} {bad : Bool} (h : IsRd w g A n c at_ bad) : w.cell? ⟨g, 1, none⟩ = some (.int .i64 at_) := (blk_cell h 1).trans rfl
theorem IsRd.c2 {w : World} {g : Nat} {A : Option Addr} {n c : Nat} {at_ : Int} {bad : Bool} (h : IsRd w g A n c at_ bad) : w.cell? ⟨g, 2, none⟩ = some (.bool bad) := (blk_cell h 2).trans rfl
theorem IsRd.set1 {w : World} {g : Nat} {A : Option Addr} {n c : Nat} {at_ : Int} {bad : Bool} (h : IsRd w g A n c at_ bad) (x : Int) : IsRd (w.setCell ⟨g, 1, none⟩ (.int .i64 x)) g A n c x bad := by
  have := blk_set h 1 (.int .i64 x)
  simpa [IsRd] using this
theorem IsRd.set2 {w : World} {g : Nat} {A : Option Addr} {n c : Nat} {at_ : Int} {bad : Bool} (h : IsRd w g A n c at_ bad) (x : Bool) : IsRd (w.setCell ⟨g, 2, none⟩ (.bool x)) g A n c at_ x := by
  have := blk_set h 2 (.bool x)
  simpa [IsRd] using this
theorem IsRd.drewN {w : World} {g : Nat} {A : Option Addr} {n c : Nat} {at_ : Int} {bad : Bool} (h : IsRd w g A n c at_ bad) (m : Nat) : IsRd (w.drewN m) g A n c at_ bad := h

set_option maxHeartbeats 1000000 in
set_option maxRecDepth 100000 in
theorem varint_calls (k : Nat) (g : Nat) (A : Option Addr) (c : Nat) (l : List Int) (at_ : Int) (bad : Bool) (v n : Int) (w : World) (hb : IsRd w g A l.length c at_ bad) (hr : Kd.C (Kd.int .u8) w A l.length l) (hc : l.length ≤ c)
    (h0 : 0 ≤ at_) (h1 : at_ ≤ (l.length : Int)) (hu : bits_Unvarint.f k (l.drop at_.toNat) = some (v, n)) :
    Calls Try.prog 26 #[.pointer (some ⟨g, 0, none⟩)] w fun e w' => e = .returned (.int .u64 v) ∧ IsRd w' g A l.length c (wrap64 (at_ + n)) (bad || decide (n = 0)) ∧ Turned g w w' := by
  have HB := Aside0.mk hb
  have HU := Aside0.mk hu
  obtain ⟨i0, hi0, _, hsz, _⟩ := info_parts info5
  obtain ⟨A1, hcut, hA, hC⟩ := print_drop_of (P := Try.prog) (Value.int .u8) 0 25 5 .i64 Try.underlying25 hi0 hsz A c l at_ h0 h1 hc
  have HR := Aside0.mk (Kd.C_of_reads (h1 := fun _ => rfl) (hA _ (Kd.reads_of_C hr)))
  have HC := Aside0.mk hC
  have q0 := hb.c0
  have q1 := hb.c1
  have q2 := hb.c2
  have f1 : w.frozen? ⟨g, 1, none⟩ = false := blk_frozen hb 1
  have f2 : w.frozen? ⟨g, 2, none⟩ = false := blk_frozen hb 2
  have HT := Aside0.mk (Turned.refl g w)
  have hcall : ∀ m, Calls Try.prog 32 #[.slice A1 (l.length - at_.toNat) (c - at_.toNat)] (w.drewN m) fun e w' => e = .returned (.tuple #[.int .u64 v, .int .i64 n]) ∧ ∃ q, w' = (w.drewN m).drewN q := by
    intro m
    have := bits_Unvarint.calls k A1 _ (l.drop at_.toNat) v n (w.drewN m) (Kd.C_drewN HR.out _) HC.out HU.out
    rw [List.length_drop] at this
    exact this.mono fun _ _ h => ⟨h.1, h.2.out⟩
  have HK := Aside0.mk hcall
  clear hA hC hi0 hsz hb hr hc h0 h1 hu hcall
  by_cases hn : n = 0
  · have e0 : (n == 0) = true := by simpa using hn
    have EN := Aside0.mk hn
    clear hn
    go_enter Try.func26, Try.ntmps26
    go_wp2
    go_quiet ((go_at_call 32; exact Calls.quiet_of (HK.out _)))
    go_wp2
    go_ret
    refine ⟨rfl, ?_, ?_⟩
    · have := ((HB.out.drewN nq).set2 true).set1 (wrap64 (at_ + n))
      rw [EN.out, decide_eq_true rfl, Bool.or_true]
      rw [EN.out] at this
      exact this
    · exact ((HT.out.drewN nq).set 2 _).set 1 _
  · have e0 : (n == 0) = false := by simpa using hn
    have EN := Aside0.mk hn
    clear hn
    go_enter Try.func26, Try.ntmps26
    go_wp2
    go_quiet ((go_at_call 32; exact Calls.quiet_of (HK.out _)))
    go_wp2
    go_ret
    refine ⟨rfl, ?_, (HT.out.drewN nq).set 1 _⟩
    rw [decide_eq_false EN.out, Bool.or_false]
    exact (HB.out.drewN nq).set1 _
set_option maxHeartbeats 1000000 in
set_option maxRecDepth 100000 in
theorem text_none (g : Nat) (A : Option Addr) (n c : Nat) (at_ : Int) (is bad : Bool) (w : World) (hb : IsRd w g A n c at_ bad) (h : (!is || bad) = true) :
    Calls Try.prog 28 #[.pointer (some ⟨g, 0, none⟩), .bool is] w fun e w' => e = .returned (.string ⟨#[]⟩) ∧ w = w' := by
  have q2 := hb.c2
  cases is
  · go_enter Try.func28, Try.ntmps28
    go_wp2
    go_ret
    exact ⟨rfl, rfl⟩
  · have hbad : bad = true := by simpa using h
    subst hbad
    go_enter Try.func28, Try.ntmps28
    go_wp2
    go_ret
    exact ⟨rfl, rfl⟩

set_option maxHeartbeats 1000000 in
set_option maxRecDepth 100000 in
theorem text_bad (k : Nat) (g : Nat) (A : Option Addr) (c : Nat) (l : List Int) (at_ : Int) (v : Int) (w : World) (hb : IsRd w g A l.length c at_ false) (hr : ∀ W, Turned g w W → Kd.C (Kd.int .u8) W A l.length l) (hc : l.length ≤ c)
    (h0 : 0 ≤ at_) (h1 : at_ ≤ (l.length : Int)) (hl : l.length ≤ 1000000000000000) (hu : bits_Unvarint.f k (l.drop at_.toNat) = some (v, 0)) :
    Calls Try.prog 28 #[.pointer (some ⟨g, 0, none⟩), .bool true] w fun e w' => e = .returned (.string ⟨#[]⟩) ∧ IsRd w' g A l.length c at_ true ∧ Turned g w w' := by
  have q2 := hb.c2
  have hv := varint_calls k g A c l at_ false v 0 w hb (hr w (Turned.refl g w)) hc h0 h1 hu
  rw [show wrap64 (at_ + 0) = at_ from by unfold wrap64; omega] at hv
  have HV := Aside0.mk hv
  clear hv hb hr hu hc
  go_enter Try.func28, Try.ntmps28
  go_wp2_with (go_at_call 26; refine HV.out.mono ?_; rintro e w1 ⟨rfl, hb1, ht1⟩; have HB1 := Aside0.mk hb1; have HT1 := Aside0.mk ht1; have r2 := hb1.c2; have s2 : w1.frozen? ⟨g, 2, none⟩ = false := blk_frozen hb1 2; clear hb1 ht1)
  go_quiet (fail)
  have HB1 := Aside0.mk (HB1.out.drewN nq)
  have HT1 := Aside0.mk (HT1.out.drewN nq)
  go_wp2
  go_ret
  exact ⟨rfl, HB1.out.set2 true, HT1.out.set 2 _⟩

set_option maxHeartbeats 1000000 in
set_option maxRecDepth 100000 in
theorem text_long (k : Nat) (g : Nat) (A : Option Addr) (c : Nat) (l : List Int) (at_ at1 : Int) (v n : Int) (w : World) (hb : IsRd w g A l.length c at_ false) (hr : ∀ W, Turned g w W → Kd.C (Kd.int .u8) W A l.length l) (hc : l.length ≤ c)
    (h0 : 0 ≤ at_) (h1 : at_ ≤ (l.length : Int)) (hl : l.length ≤ 1000000000000000) (hu : bits_Unvarint.f k (l.drop at_.toNat) = some (v, n)) (hn : 0 < n) (e1 : at_ + n = at1) (h2 : at1 ≤ (l.length : Int)) (hv : (l.length : Int) - at1 < v) (hv2 : v < 18446744073709551616) :
    Calls Try.prog 28 #[.pointer (some ⟨g, 0, none⟩), .bool true] w fun e w' => e = .returned (.string ⟨#[]⟩) ∧ IsRd w' g A l.length c at1 true ∧ Turned g w w' := by
  have q2 := hb.c2
  have hv := varint_calls k g A c l at_ false v n w hb (hr w (Turned.refl g w)) hc h0 h1 hu
  rw [show wrap64 (at_ + n) = at1 from by unfold wrap64; omega, decide_eq_false (by omega)] at hv
  have HV := Aside0.mk hv
  have h3 : 0 ≤ at1 := by omega
  have d1 : decide ((l.length : Int) - at1 < v) = true := decide_eq_true (by omega)
  clear hv hb hr hu hc h0 h1 e1 hn
  go_enter Try.func28, Try.ntmps28
  go_wp2_with (go_at_call 26; refine HV.out.mono ?_; rintro e w1 ⟨rfl, hb1, ht1⟩; have HB1 := Aside0.mk hb1; have HT1 := Aside0.mk ht1; have r0 := hb1.c0; have r1 := hb1.c1; have r2 := hb1.c2; have s2 : w1.frozen? ⟨g, 2, none⟩ = false := blk_frozen hb1 2; clear hb1 ht1)
  go_quiet (fail)
  have HB1 := Aside0.mk (HB1.out.drewN nq)
  have HT1 := Aside0.mk (HT1.out.drewN nq)
  go_wp2
  go_ret
  exact ⟨rfl, HB1.out.set2 true, HT1.out.set 2 _⟩

set_option maxHeartbeats 1000000 in
set_option maxRecDepth 100000 in
theorem text_good (k : Nat) (g : Nat) (A : Option Addr) (c : Nat) (l : List Int) (at_ at1 at2 : Int) (v n : Int) (w : World) (hb : IsRd w g A l.length c at_ false) (hr : ∀ W, Turned g w W → Kd.C (Kd.int .u8) W A l.length l) (hc : l.length ≤ c)
    (h0 : 0 ≤ at_) (h1 : at_ ≤ (l.length : Int)) (hl : l.length ≤ 1000000000000000) (hu : bits_Unvarint.f k (l.drop at_.toNat) = some (v, n)) (hn : 0 < n) (e1 : at_ + n = at1) (h2 : at1 ≤ (l.length : Int)) (hv0 : 0 ≤ v) (hv : at1 + v = at2) (hv2 : at2 ≤ (l.length : Int)) :
    Calls Try.prog 28 #[.pointer (some ⟨g, 0, none⟩), .bool true] w fun e w' => e = .returned (.string (strOfNums ((l.take at2.toNat).drop at1.toNat))) ∧ IsRd w' g A l.length c at2 false ∧ Turned g w w' := by
  subst hv
  have q2 := hb.c2
  have hvv := varint_calls k g A c l at_ false v n w hb (hr w (Turned.refl g w)) hc h0 h1 hu
  rw [show wrap64 (at_ + n) = at1 from by unfold wrap64; omega, decide_eq_false (by omega)] at hvv
  have HV := Aside0.mk hvv
  have h3 : 0 ≤ at1 := by omega
  have h4 : at1 ≤ at1 + v := by omega
  have d1 : decide ((l.length : Int) - at1 < v) = false := decide_eq_false (by omega)
  have hb5 : v ≤ 1000000000000000 := by omega
  have hr1 := Aside0.mk hr
  obtain ⟨i0, hi0, _, hsz, _⟩ := info_parts info5
  obtain ⟨A2, hcut, hA, hC⟩ := print_mid_of (P := Try.prog) (Value.int .u8) 0 25 5 .i64 .i64 Try.underlying25 hi0 hsz A c l at1 (at1 + v) h3 h4 hv2 hc
  have HA := Aside0.mk hA
  clear hvv hb hr hu hc h0 h1 e1 hn hA hC hi0 hsz
  go_enter Try.func28, Try.ntmps28
  go_wp2_with (go_at_call 26; refine HV.out.mono ?_; rintro e w1 ⟨rfl, hb1, ht1⟩; have HB1 := Aside0.mk hb1; have HT1 := Aside0.mk ht1; have r0 := hb1.c0; have r1 := hb1.c1; have r2 := hb1.c2; have s1 : w1.frozen? ⟨g, 1, none⟩ = false := blk_frozen hb1 1; clear hb1 ht1)
  go_quiet (fail)
  have HB1 := Aside0.mk (HB1.out.drewN nq)
  have HT0 := HT1
  have HT1 := Aside0.mk (HT1.out.drewN nq)
  go_wp2
  have hlen : ((l.take (at1 + v).toNat).drop at1.toNat).length = (at1 + v).toNat - at1.toNat := by rw [List.length_drop, List.length_take]; omega
  have hcv : ∀ m, (convert 25 9 (.slice A2 ((at1 + v).toNat - at1.toNat) (c - at1.toNat))).run Try.prog (w1.drewN m) = .ok (.string (strOfNums ((l.take (at1 + v).toNat).drop at1.toNat))) (w1.drewN m) := fun m => Kd.C_string (P := Try.prog) (A := A2) (c := c - at1.toNat) Try.underlying25 Try.underlying5 Try.underlying9 (by rw [← hlen]; exact Kd.C_of_reads (h1 := fun _ => rfl) (HA.out _ (Kd.reads_of_C (hr1.out _ (HT0.out.drewN m)))))
  clear hlen
  have ew : IntKind.i64.wrap (at1 + v) = at1 + v := (i64_w _).trans (by unfold wrap64; omega)
  have ev : IntKind.i64.wrap v = v := (i64_w _).trans (by unfold wrap64; omega)
  go_quiet (fail)
  have HB1 := Aside0.mk (HB1.out.drewN nq)
  have HT1 := Aside0.mk (HT1.out.drewN nq)
  clear hcv hcut ew ev
  go_wp2
  go_ret
  exact ⟨rfl, HB1.out.set1 _, (HT0.out.drewN _).set 1 _⟩

/-! ### bits_Zag: function 27 -/
def bits_Zag.f (a0 : Int) : Option (Int) := some (Go.bits .xor .i64 (wrap64 (a0 / 2)) (wrap64 (-(wrap64 (Go.bits .and .u64 a0 1)))))
set_option maxHeartbeats 8000000 in
set_option maxRecDepth 100000 in
theorem bits_Zag.calls (a0 : Int) (r : Int) (w : World) (h : bits_Zag.f a0 = some r) :
    Calls Try.prog 27 #[.int .u64 a0] w fun e w' => e = .returned (.int .i64 r) ∧ Drawn0 w w' := by
  have H : (some (Go.bits .xor .i64 (wrap64 (a0 / 2)) (wrap64 (-(wrap64 (Go.bits .and .u64 a0 1)))))) = some r := h
  clear h
  obtain rfl := Option.some.inj H
  go_enter Try.func27, Try.ntmps27
  go_wp2
  go_ret
  exact ⟨by first | rfl | (simp; done) | (simp [*]; done) | exact congrArg Value.bool (ne_empty _) | exact congrArg Value.bool (eq_empty _), by repeat (first | exact Drawn0.refl _ | apply Drawn0.step)⟩


end Go.Proofs.Ytcmkmjmhjjohkaa.PDec
