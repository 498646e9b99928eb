-- written by a program of this session (wip/tools/pr.py, over the kit's printer): not by hand
import Derived.Test.YtgicdiblfcnelaaPFrx0
import Derived.Test.YtgicdiblfcnelaaPFrx2
import Derived.Test.YtgicdiblfcnelaaPFrx3
import Derived.Test.YtgicdiblfcnelaaPFrx4
import Derived.Test.YtgicdiblfcnelaaPFrx6
namespace Go.Proofs.Ytgicdiblfcnelaa.PFr
open Go.RowKit Go.Proofs.YtgicdiblfcnelaaW.PrintWords Go.Proofs.YtgicdiblfcnelaaW.PrintLast Go.Proofs.YtgicdiblfcnelaaW.PrintMore
attribute [local go_sem] max2_int min2_int max_two min_two max_three min_three max_four min_four   -- for this text's walks alone
set_option linter.unusedVariables false
set_option linter.unusedSimpArgs false

/-! ### bollardalike_Some: function 17 -/
def bollardalike_Some.l0 : Nat → Int → Int → List Int → Int → Option (List Int)
  | 0, _, _, _, _ => none
  | k + 1, x0, x1, x5, x6 => if x6 < x0 then (if 0 ≤ x6 then (if x6 < (x5.length : Int) then (bollardalike_Some.l0 k x0 x1 (x5.set (x6 : Int).toNat ((wrap64 (x1 + (wrap64 (Int.tdiv x6 7)))) % 256)) (wrap64 (x6 + 1))) else (none)) else (none)) else (some x5)
def bollardalike_Some.f (k : Nat) (a0 : Int) (a1 : Int) : Option (List Int) := if 0 ≤ a0 then (if (a0 : Int).toNat ≤ 281474976710656 then (bollardalike_Some.l0 k a0 a1 (List.replicate (a0 : Int).toNat 0) 0) else (none)) else (none)
set_option maxRecDepth 100000 in
theorem bollardalike_Some.mono_l : ∀ k, (∀ y0 y1 y2 y3, LeO (bollardalike_Some.l0 k y0 y1 y2 y3) (bollardalike_Some.l0 (k + 1) y0 y1 y2 y3))
  | 0 => fun _ _ _ _ r h => by first | exact nomatch (show (none : Option _) = some r from h) | (rw [bollardalike_Some.l0] at h; cases h; done) | (simp [bollardalike_Some.l0] at h; done)
  | k + 1 => by
    have ih0 := bollardalike_Some.mono_l k
    · intro y0 y1 y2 y3
      unfold bollardalike_Some.l0
      repeat' first
      | (with_reducible exact ih0 _ _ _ _)
      | (with_reducible exact LeO.refl _)
      | (with_reducible exact LeO.none _)
      | (with_reducible refine LeO.ite ?_ ?_)
      | (with_reducible refine LeO.bind ?_ (fun _ => ?_))
      | exact ih0 _ _ _ _
      | exact LeO.none _
      | refine LeO.ite ?_ ?_
      | refine LeO.bind ?_ (fun _ => ?_)
theorem bollardalike_Some.mono : ∀ a0 a1 k, LeO (bollardalike_Some.f k a0 a1) (bollardalike_Some.f (k + 1) a0 a1) := by
  intro a0 a1 k
  have ih0 := bollardalike_Some.mono_l k
  unfold bollardalike_Some.f
  repeat' first
      | (with_reducible exact ih0 _ _ _ _)
      | (with_reducible exact LeO.refl _)
      | (with_reducible exact LeO.none _)
      | (with_reducible refine LeO.ite ?_ ?_)
      | (with_reducible refine LeO.bind ?_ (fun _ => ?_))
      | exact ih0 _ _ _ _
      | exact LeO.none _
      | refine LeO.ite ?_ ?_
      | refine LeO.bind ?_ (fun _ => ?_)
set_option maxHeartbeats 8000000 in
set_option maxRecDepth 100000 in
theorem bollardalike_Some.calls (k : Nat) (a0 : Int) (a1 : Int) (r : List Int) (w : World) (h : bollardalike_Some.f k a0 a1 = some r) :
    Calls Try.prog 17 #[.int .i64 a0, .int .i64 a1] w fun e w' => ∃ v0_ : Value, e = .returned (v0_) ∧ Kd.R (Kd.int .u8) 5 w' w.heap.size (fun _ => True) v0_ r ∧ Below w.heap.size w w' := by
  have HB := Aside0.mk (Below.refl w.heap.size w)
  have H : (if 0 ≤ a0 then (if (a0 : Int).toNat ≤ 281474976710656 then (bollardalike_Some.l0 k a0 a1 (List.replicate (a0 : Int).toNat 0) 0) else (none)) else (none)) = some r := h
  clear h
  by_cases c3 : 0 ≤ a0
  · rw [if_pos c3] at H
    have c3b0 := eq_true c3
    have c3b1 : decide (0 ≤ a0) = true := decide_eq_true c3
    clear c3
    by_cases c4 : (a0 : Int).toNat ≤ 281474976710656
    · rw [if_pos c4] at H
      have c4b0 := eq_true c4
      have c4b1 : decide ((a0 : Int).toNat ≤ 281474976710656) = true := decide_eq_true c4
      clear c4
      obtain ⟨y118, hy118⟩ : ∃ y_ : List Int, y_ = (List.replicate (a0 : Int).toNat 0) := ⟨_, rfl⟩
      replace H : (bollardalike_Some.l0 k a0 a1 y118 0) = some r := by first | (rw [hy118]; with_reducible exact H) | (have H2_ := (Option.bind_some _ _).symm.trans H; rw [hy118]; with_reducible exact H2_) | (have H2_ := (Option.bind_some _ _).symm.trans H; with_reducible exact H2_) | with_reducible exact H | (rw [hy118]; exact H) | exact H
      have Ny118 := Aside0.mk hy118
      clear hy118
      have H' := Aside0.mk H
      clear H
      go_enter Try.func17, Try.ntmps17
      go_wp2_with (first | ((with_reducible refine gate_dst (N := 8) rfl ?_); refine Kd.R_make (Kd.int .u8) _ 5 rfl (N := 8) rfl 23 _ _ rfl a0 rfl rfl Try.underlying23 (.int .u8 0) 1 info5 rfl (by decide) (by omega) 0 (ok := fun _ => True) (okp := fun _ => True) rfl (fun _ hk => hk) trivial (of_decide_eq_true (by first | (with_reducible assumption) | assumption)) (Nat.le_trans (Nat.mul_le_mul_right _ (of_decide_eq_true (by first | (with_reducible assumption) | assumption) : a0.toNat ≤ 281474976710656)) (by omega)) (Below.refl _ _) (Nat.le_refl _) ?_; intro v119 w5 ho6 hb hg_ hnew_; clear hg_ hnew_; (first | rw [← Ny118.out] at ho6 | (simp only [Int.reduceToNat] at ho6; rw [← Ny118.out] at ho6)); have n0_ := Aside0.mk (Kd.R_lower ho6 (below_size (by repeat (first | (with_reducible first | exact HB.out | apply below_alloc | apply pw_below_drewN | apply below_drew1) | exact HB.out)))); have n1_ := Aside0.mk (below_step (by repeat (first | (with_reducible first | exact HB.out | apply below_alloc | apply pw_below_drewN | apply below_drew1) | exact HB.out)) hb); clear HB; have HO120 := n0_; have HB := n1_; clear n0_ n1_; clear hb ho6))
      go_loopg [6] k (fun kq v6 w' => ∃ (x5_1 : List Int) (x6_1 : Int), v6 = .int .i64 x6_1 ∧ Aside0 (bollardalike_Some.l0 kq a0 a1 x5_1 x6_1 = some r) ∧ Aside0 (kq ≤ k) ∧ Aside0 (Kd.R (Kd.int .u8) 5 w' w.heap.size (fun _ => True) v119 x5_1) ∧ Aside0 (Below w.heap.size w w'))
      case atStart => exact ⟨(y118), (0), (by first | rfl | (simp; done) | (simp [*]; done) | exact congrArg Value.bool (ne_empty _) | exact congrArg Value.bool (eq_empty _)), H', ⟨Nat.le_refl _⟩, ⟨by (with_reducible repeat (first | apply Kd.R_alloc | apply Kd.R_drewN | apply Kd.R_drew)); exact HO120.out⟩, ⟨by repeat (first | (with_reducible first | exact HB.out | apply below_alloc | apply pw_below_drewN | apply below_drew1) | exact HB.out)⟩⟩
      case round =>
        clear H'
        try clear c1
        try clear p2
        try clear c3
        try clear c3b0
        try clear c3b1
        try clear c4
        try clear c4b0
        try clear c4b1
        obtain ⟨x5_1, x6_1, rfl, HA, HK1, HO_5, HB⟩ := hrel
        cases gk with
        | zero => exact absurd HA.out (by first | (intro h_; exact nomatch (show (none : Option _) = some r from h_)) | simp [bollardalike_Some.l0])
        | succ k1 =>
          have H := HA.out
          clear HA
          simp only [bollardalike_Some.l0] at H
          by_cases c7 : x6_1 < a0
          · rw [if_pos c7] at H
            have c7b0 : decide (x6_1 < a0) = true := decide_eq_true c7
            clear c7
            by_cases c8 : 0 ≤ x6_1
            · rw [if_pos c8] at H
              have c8b0 : decide (0 ≤ x6_1) = true := decide_eq_true c8
              clear c8
              by_cases c9 : x6_1 < (x5_1.length : Int)
              · rw [if_pos c9] at H
                have c9b0 : decide (x6_1 < (x5_1.length : Int)) = true := decide_eq_true c9
                clear c9
                obtain ⟨y121, hy121⟩ : ∃ y_ : List Int, y_ = (x5_1.set (x6_1 : Int).toNat ((wrap64 (a1 + (wrap64 (Int.tdiv x6_1 7)))) % 256)) := ⟨_, rfl⟩
                replace H : (bollardalike_Some.l0 k1 a0 a1 y121 (wrap64 (x6_1 + 1))) = some r := by first | (rw [hy121]; with_reducible exact H) | (have H2_ := (Option.bind_some _ _).symm.trans H; rw [hy121]; with_reducible exact H2_) | (have H2_ := (Option.bind_some _ _).symm.trans H; with_reducible exact H2_) | with_reducible exact H | (rw [hy121]; exact H) | exact H
                have Ny121 := Aside0.mk hy121
                clear hy121
                have H' := Aside0.mk H
                clear H
                have p10 : 0 ≤ (x6_1 : Int) := of_decide_eq_true (by first | (with_reducible assumption) | assumption)
                have q10 : (x6_1 : Int) < ((x5_1.length : Int) : Int) := of_decide_eq_true (by first | (with_reducible assumption) | assumption)
                obtain ⟨go10, co10, eo10, gb10, gl10, cl10, HG10⟩ := Kd.R_form HO_5.out (by omega)
                (first | cases eo10 | (injection eo10 with ea_ en_ ec_; (first | subst ea_ | (injection ea_ with ea_; subst ea_)); subst ec_; clear en_))
                have GB10 := Aside0.mk gb10
                have GG10 := Aside0.mk HG10
                clear gb10 gl10 HG10
                obtain ⟨hx10_0, hf10_0⟩ := Kd.R_celln 0 HO_5.out (x6_1 : Int) p10 q10
                replace p10 := eq_true p10
                replace q10 := eq_true q10
                have HP11 := Kd.R_putg HO_5.out (x6_1 : Int) ((wrap64 (a1 + (wrap64 (Int.tdiv x6_1 7)))) % 256)
                go_wp2_with (first | ((with_reducible refine gate_store (t := 5) (p := 21) rfl ?_); refine store_event (t := 5) (p := 21) (v := ?vo_w12) (w1 := (wr.setCell ⟨go10, (x6_1 : Int).toNat, none⟩ (.int .u8 ((wrap64 (a1 + (wrap64 (Int.tdiv x6_1 7)))) % 256)))) ?hg ?ho ?hn ?hr ?_; (case ho => rfl); (case hg => rfl); (case hn => rfl); (case hr => first | (go_simp; done) | (go_simp; rfl)); intro w12 hw; have hg : wr.grownBy w12 (some go10) := (by rw [hw]; exact HP11.2); have hp_ : Kd.R (Kd.int .u8) 5 w12 w.heap.size (fun _ => True) (.slice (some ⟨go10, 0, none⟩) x5_1.length co10) y121 := (by rw [hw, Ny121.out]; exact HP11.1); clear HP11; have n0_ := Aside0.mk (hp_); have n1_ := Aside0.mk ((by rw [hw]; exact below_set (HB.out) GB10.out : Below w.heap.size w w12)); clear HO_5; clear HB; have HO_5 := n0_; have HB := n1_; clear n0_ n1_; clear hg hw hp_))
                go_roundg k1
                case measure => have := HK1.out; omega
                case rel => exact ⟨(y121), (wrap64 (x6_1 + 1)), (by first | rfl | (simp; done) | (simp [*]; done) | exact congrArg Value.bool (ne_empty _) | exact congrArg Value.bool (eq_empty _)), H', ⟨by have := HK1.out; omega⟩, ⟨by (with_reducible repeat (first | apply Kd.R_alloc | apply Kd.R_drewN | apply Kd.R_drew)); exact HO_5.out⟩, ⟨by repeat (first | (with_reducible first | exact HB.out | apply below_alloc | apply pw_below_drewN | apply below_drew1) | exact HB.out)⟩⟩
              · rw [if_neg c9] at H
                exact absurd H (by simp)
            · rw [if_neg c8] at H
              exact absurd H (by simp)
          · rw [if_neg c7] at H
            have c7b0 : decide (x6_1 < a0) = false := decide_eq_false c7
            clear c7
            obtain rfl := Option.some.inj H
            go_wp2
            go_ret
            exact ⟨_, by first | rfl | (simp [errW_none, errW_some] <;> rfl) | (simp [*, errW_none, errW_some] <;> rfl), by (with_reducible repeat (first | apply Kd.R_alloc | apply Kd.R_drewN | apply Kd.R_drew)); exact HO_5.out, by repeat (first | (with_reducible first | exact HB.out | apply below_alloc | apply pw_below_drewN | apply below_drew1) | exact HB.out)⟩
    · rw [if_neg c4] at H
      exact absurd H (by simp)
  · rw [if_neg c3] at H
    exact absurd H (by simp)

/-! ### bollardlaw19_FrameSizes -/
theorem some_l0 (n : Int) (h0 : 0 ≤ n) (h1 : n ≤ 8300) (m : Nat) : ∀ (k i : Nat) (xs : List Int), (i + m : Int) = n → (xs.length : Int) = n → m + 1 ≤ k → ∃ ys, bollardalike_Some.l0 k n 3 xs (i : Int) = some ys ∧ (ys.length : Int) = n := by
  induction m with
  | zero =>
    intro k i xs hi hx hk
    obtain ⟨K, rfl⟩ : ∃ K, k = K + 1 := ⟨k - 1, by omega⟩
    simp only [bollardalike_Some.l0]
    rw [if_neg (by omega)]
    exact ⟨xs, rfl, hx⟩
  | succ m ih =>
    intro k i xs hi hx hk
    obtain ⟨K, rfl⟩ : ∃ K, k = K + 1 := ⟨k - 1, by omega⟩
    simp only [bollardalike_Some.l0]
    rw [if_pos (by omega), if_pos (by omega), if_pos (by omega), show wrap64 ((i : Int) + 1) = ((i + 1 : Nat) : Int) from by unfold wrap64; omega]
    exact ih K (i + 1) _ (by omega) (by rw [List.length_set]; exact hx) (by omega)
theorem some_f (n : Int) (h0 : 0 ≤ n) (h1 : n ≤ 8300) : ∃ k ss, bollardalike_Some.f k n 3 = some ss ∧ (ss.length : Int) = n := by
  obtain ⟨ys, h2, h3⟩ := some_l0 n h0 h1 n.toNat (n.toNat + 1) 0 (List.replicate n.toNat 0) (by omega) (by rw [List.length_replicate]; omega) (Nat.le_refl _)
  refine ⟨n.toNat + 1, ys, ?_, h3⟩
  unfold bollardalike_Some.f
  rw [if_pos h0, if_pos (by omega)]
  exact h2
theorem bytes_f (l : List Int) (hl : l.length ≤ 1000000000) : ∃ k, bollardalike_Bytes.f k l l = some true := by
  refine ⟨l.length + 1, ?_⟩
  unfold bollardalike_Bytes.f
  rw [if_pos rfl]
  exact bytes_same l (by omega) l.length _ 0 (Nat.zero_add _) (Nat.le_refl _)
/-- A part of a frame's body. -/
theorem feed_part (a b c d : Int) (y : List Int) : ∀ Q : List Int, ((Q.length + y.length : Nat) : Int) < lenP [a, b, c, d] → feedL (a :: b :: c :: d :: Q) y = ([], a :: b :: c :: d :: (Q ++ y), false) := by
  induction y with
  | nil => intro Q _; rw [List.append_nil]; rfl
  | cons x y ih =>
    intro Q hl
    have e : (a :: b :: c :: d :: Q) ++ [x] = a :: b :: c :: d :: (Q ++ [x]) := rfl
    have hlen : (a :: b :: c :: d :: (Q ++ [x])).length = Q.length + 5 := by simp
    simp only [List.length_cons] at hl
    rw [feed_more (by rw [e, hlen]; omega) (by rw [e, hlen, lenP_head]; omega), e, ih (Q ++ [x]) (by simp only [List.length_append, List.length_cons, List.length_nil]; omega), List.append_assoc]
    rfl
theorem feed_prefix (x : List Int) (h : x.length ≤ 8192) (i : Nat) (hi : i < (wrL x).length) : feedL [] ((wrL x).take i) = ([], (wrL x).take i, false) := by
  have hl := hdL_len (x.length : Int) (by omega) (by omega)
  rw [wrL_length] at hi
  unfold wrL
  have hh : ∃ a b c d, hdL (x.length : Int) = [a, b, c, d] := ⟨_, _, _, _, rfl⟩
  obtain ⟨a, b, c, d, hd⟩ := hh
  rw [hd] at hl ⊢
  rcases i with _ | _ | _ | _ | i
  · rfl
  · exact feed_early [] a [] (by decide)
  · exact (feed_early [] a [b] (by decide)).trans (feed_early [a] b [] (show 1 < 3 by decide))
  · exact feed_three a b c []
  · show feedL [] (a :: b :: c :: d :: (x.take i)) = ([], a :: b :: c :: d :: (x.take i), false)
    rw [feed_head a b c d _ (by rw [hl]; omega), feed_part a b c d (x.take i) [] (by rw [hl, List.length_take]; simp only [List.length_nil]; omega)]
    rfl
theorem feed_all (x : List Int) (h : x.length ≤ 8192) : feedL [] (wrL x) = ([x], [], false) := by
  have := feed_wrap x [] h
  rw [List.append_nil] at this
  rw [this]
  rfl
theorem own_C3 {wS w W : World} {g e base n c : Nat} {ok : Nat → Prop} {row : Option Nat} {A : Option Addr} {xs : List Int} (h : Kd.R (Kd.int .u8) e wS base ok (.slice A n c) xs) (hk1 : KeepBut wS w g none) (hk2 : KeepBut w W g row) (hne : ∀ k, (Value.slice A n c).ownBlock = some k → k ≠ g) (hrow : ∀ k, row = some k → wS.heap.size ≤ k) : Kd.C (Kd.int .u8) W A xs.length xs := by
  have h2 := Kd.R_move (own_only h) (w1 := W) (fun k hv => (hk2.2 k (Nat.lt_of_lt_of_le (Kd.R_lt h k hv) hk1.1) (hne k hv) (fun e => by have := hrow k e.symm; have := Kd.R_lt h k hv; omega)).trans (hk1.2 k (Kd.R_lt h k hv) (hne k hv) (by simp)))
  exact (Kd.R_reads' h2).2.2
set_option maxHeartbeats 1000000 in
set_option maxRecDepth 100000 in
theorem framesizes_over (n size : Int) (w : World) (g0 : 0 ≤ n) (g1 : n ≤ 8300) (g2 : 1 ≤ size) (g4 : 8192 < n) :
    Calls Try.prog 9 #[.int .i64 n, .int .i64 size] w fun e w' => e = .returned (.bool true) ∧ Below w.heap.size w w' := by
  have f0 : decide (n < 0) = false := decide_eq_false (by omega)
  have f1 : decide (8300 < n) = false := decide_eq_false (by omega)
  have f2 : decide (size < 1) = false := decide_eq_false (by omega)
  have f4 : decide (n ≤ 8192) = false := decide_eq_false (by omega)
  obtain ⟨ks, ss, hks, hsl⟩ := some_f n g0 g1
  have HKS := Aside0.mk hks
  have HSL := Aside0.mk hsl
  have HW := Aside0.mk (wrap_no ss (by omega))
  have HN := Aside0.mk (And.intro g0 (And.intro g1 g4))
  obtain ⟨hs, hhs⟩ : ∃ hs, hs = [(n / 16777216) % 256, (n / 65536) % 256, (n / 256) % 256, n % 256] := ⟨_, rfl⟩
  have hfd : feedX [] false hs = ([], [], true) := by rw [hhs]; exact feed_over_head _ _ _ _ [] (by rw [show lenP [_, _, _, _] = n from hdL_len n g0 (by omega)]; exact g4)
  have HHS := Aside0.mk hhs
  have HFD := Aside0.mk hfd
  clear g0 g1 g2 g4 hhs hfd
  clear hks hsl
  go_enter Try.func9, Try.ntmps9
  go_wp2_with fail
  refine (bollardalike_Some.calls ks n 3 ss _ HKS.out).mono ?_
  rintro e w1 ⟨v1, rfl, ho1, hb1⟩
  obtain ⟨A1, c1, e1⟩ := Kd.R_slice ho1
  subst e1
  have HO1 := Aside0.mk (Kd.R_reads' ho1).2
  have HB1 := Aside0.mk hb1
  clear ho1 hb1
  go_wp2_with fail
  refine (frame_Wrap.calls A1 c1 ss [] false w1 HO1.out.2 HO1.out.1 HW.out).mono ?_
  rintro e w2 ⟨v2, rfl, ho2, hb2⟩
  obtain ⟨A2, c2, e2⟩ : ∃ A c, v2 = .slice A 0 c := Kd.R_slice ho2
  subst e2
  have HB2 := Aside0.mk (below_step HB1.out hb2)
  clear ho2 hb2
  go_wp2_with fail
  refine (frame_New.calls _).mono ?_
  rintro e w3 ⟨rfl, hF, hb⟩
  have HF3 := Aside0.mk (FdX.fresh (base := w.heap.size) hF)
  have HB3 := Aside0.mk (below_step HB2.out hb)
  clear hF hb
  go_wp2_with fail
  obtain ⟨W, hW⟩ : ∃ W, W = w3.alloc (.cells #[.int .u8 (n / 16777216 % 256), .int .u8 (n / 65536 % 256), .int .u8 (n / 256 % 256), .int .u8 (n % 256)] 5 (0, 0)) := ⟨_, rfl⟩
  have hBa : Below w3.heap.size w3 W := by rw [hW]; exact below_alloc (Below.refl _ _) _
  have hLC : ∀ W', KeepBut W W' w2.heap.size none → Kd.C (Kd.int .u8) W' (some ⟨w3.heap.size, 0, none⟩) 4 hs := by
    intro W' hk
    have hb_ : W.heap[w3.heap.size]? = some (.cells (hs.map (Value.int .u8)).toArray 5 (0, 0)) := by rw [hW, HHS.out]; exact heap_alloc_new w3 _
    have h_ := mk_C W' w3.heap.size 5 hs (0, 0) (by rw [HHS.out]; exact (show 4 ≤ 9223372036854775807 by decide)) ((hk.2 _ (blk_lt hb_) (by have := HF3.out.lt; omega) (by simp)).trans hb_)
    rw [show hs.length = 4 from by rw [HHS.out]; rfl] at h_
    exact h_
  rw [← hW]
  have hcall := frame_Feed.calls w2.heap.size w.heap.size [] false _ (some ⟨w3.heap.size, 0, none⟩) 4 hs W [] [] true HB2.out.size (below_step HB3.out hBa).size (HF3.out.below hBa) (fun W' hk => by rw [show hs.length = 4 from by rw [HHS.out]; rfl]; exact hLC W' hk) (by rw [HHS.out]; exact Nat.le_refl 4) (by rw [HHS.out]; exact (show 0 + 4 ≤ 1000000000 by decide)) HFD.out
  rw [show hs.length = 4 from by rw [HHS.out]; rfl] at hcall
  have HB4 := Aside0.mk (below_step HB3.out hBa)
  refine hcall.mono ?_
  clear hcall hLC hBa hW
  rintro e w5 ⟨vo, v5, rfl, ho, hx, hu, hb, hk⟩
  have HB5 := Aside0.mk (HB4.out.trans hb)
  clear ho hx hu hb hk
  go_wp2_with fail
  refine (bollardlaw19_awake.calls _).mono ?_
  rintro e w9 ⟨rfl, hb9⟩
  have HB9 := Aside0.mk (below_step HB5.out hb9)
  clear hb9
  go_wp2
  go_ret
  exact ⟨rfl, HB9.out⟩
set_option maxHeartbeats 4000000 in
set_option maxRecDepth 100000 in
theorem framesizes_main (n size : Int) (w : World) (g0 : 0 ≤ n) (g1 : n ≤ 8300) (g2 : 1 ≤ size) (g4 : n ≤ 8192) (g5 : size ≤ 9223372036854775807) :
    Calls Try.prog 9 #[.int .i64 n, .int .i64 size] w fun e w' => e = .returned (.bool true) ∧ Below w.heap.size w w' := by
  have f0 : decide (n < 0) = false := decide_eq_false (by omega)
  have f1 : decide (8300 < n) = false := decide_eq_false (by omega)
  have f2 : decide (size < 1) = false := decide_eq_false (by omega)
  have f4 : decide (n ≤ 8192) = true := decide_eq_true g4
  obtain ⟨i0, hi0, -, hsz, -⟩ := info_parts info_u8
  have HI := Aside0.mk (And.intro hi0 hsz)
  obtain ⟨ks, ss, hks, hsl⟩ := some_f n g0 g1
  have HKS := Aside0.mk hks
  have HSL := Aside0.mk hsl
  obtain ⟨ws, hws⟩ : ∃ ws, ws = wrL ss := ⟨_, rfl⟩
  have HW := Aside0.mk (show frame_Wrap.f ss = some (ws, true) from by rw [hws]; exact wrap_f ss (by omega))
  have HWS := Aside0.mk hws
  have HWL := Aside0.mk (show (ws.length : Int) = n + 4 from by rw [hws, wrL_length]; omega)
  have HN := Aside0.mk (And.intro g0 (And.intro g4 (And.intro g2 g5)))
  have HLS := Aside0.mk (show ss.length ≤ 8192 from by omega)
  clear g0 g1 g2 g4 g5 hws hi0 hsz
  clear hks hsl
  go_enter Try.func9, Try.ntmps9
  go_wp2_with fail
  refine (bollardalike_Some.calls ks n 3 ss _ HKS.out).mono ?_
  rintro e w1 ⟨v1, rfl, ho1, hb1⟩
  obtain ⟨A1, c1, e1⟩ := Kd.R_slice ho1
  subst e1
  have HO1 := Aside0.mk (Kd.R_reads' ho1).2
  have HB1 := Aside0.mk hb1
  clear ho1 hb1
  go_wp2_with fail
  refine (frame_Wrap.calls A1 c1 ss ws true w1 HO1.out.2 HO1.out.1 HW.out).mono ?_
  rintro e w2 ⟨v2, rfl, ho2, hb2⟩
  obtain ⟨Aw, cw, e2⟩ := Kd.R_slice ho2
  subst e2
  have HB2 := Aside0.mk (below_step HB1.out hb2)
  have HO2 := Aside0.mk ho2
  clear ho2 hb2
  go_wp2_with fail
  refine (frame_New.calls _).mono ?_
  rintro e w3 ⟨rfl, hF, hb⟩
  have HF3 := Aside0.mk (FdX.fresh (base := w.heap.size) hF)
  have HB3 := Aside0.mk (below_step HB2.out hb)
  have HO3 := Aside0.mk (Kd.R_below HO2.out hb)
  have HOn := Aside0.mk (show ∀ k, (Value.slice Aw ws.length cw).ownBlock = some k → k ≠ w2.heap.size from fun k h e => by have := Kd.R_lt HO2.out k h; omega)
  have HGB := Aside0.mk HB2.out.size
  obtain ⟨gf, hgf⟩ : ∃ gf, gf = w2.heap.size := ⟨_, rfl⟩
  rw [← hgf] at HF3 HOn HGB ⊢
  have HCW := Aside0.mk (Kd.R_reads' HO3.out).2.1
  clear hF hb HO2 hgf HB2
  go_wp2_with fail
  go_loopg [11, 12] (ws.length + 1) (fun kq v11 v12 w' => ∃ (i : Int) (P : List Int) (vf : Value), v11 = .int .i64 (if i = (ws.length : Int) then 1 else 0) ∧ v12 = .int .i64 i ∧ Aside0 (0 ≤ i ∧ i ≤ (ws.length : Int) ∧ kq + i.toNat = ws.length + 1) ∧ Aside0 (P = if i = (ws.length : Int) then [] else ws.take i.toNat) ∧ Aside0 (FdX w' gf w.heap.size P false vf) ∧ Aside0 (∀ k, vf.ownBlock = some k → w3.heap.size ≤ k) ∧ Aside0 (Below w.heap.size w w') ∧ Aside0 (KeepBut w3 w' gf none))
  case atStart => exact ⟨0, [], _, by rw [if_neg (by have := HWL.out; have := HN.out; omega)], rfl, ⟨by omega, by omega, by simp⟩, ⟨by rw [if_neg (by have := HWL.out; have := HN.out; omega)]; rfl⟩, HF3, ⟨fun k h => by cases h⟩, HB3, ⟨KeepBut.refl _ _ _⟩⟩
  case round =>
    obtain ⟨i, P, vf, rfl, rfl, HK, HP, HFr, HVF, HBr, HKr⟩ := hrel
    by_cases hi : i < (ws.length : Int)
    · have d1 : decide (i < (ws.length : Int)) = true := decide_eq_true hi
      have hit : ¬ i = (ws.length : Int) := by omega
      have HP2 := Aside0.mk (show P = ws.take i.toNat from by have h_ := HP.out; rw [if_neg hit] at h_; exact h_)
      rw [if_neg hit]
      clear HP hit
      obtain ⟨m, hm⟩ : ∃ m : Int, m = (ws.length : Int) - i := ⟨_, rfl⟩
      have ew0 : IntKind.i64.wrap ((ws.length : Int) - i) = m := (i64_w _).trans (by have := HK.out; have := HN.out; have := HWL.out; unfold wrap64; omega)
      have HM := Aside0.mk hm
      clear hm
      by_cases c2 : size < m
      · skip
        have d2 : decide (size < m) = true := decide_eq_true c2
        have b1 : 1 ≤ size := by have := HN.out; have := HM.out; omega
        have b2 : i + size ≤ (ws.length : Int) := by have := HM.out; omega
        have b0 := HK.out.1
        have b3 : i + size < (ws.length : Int) := by have := HM.out; omega
        have ew1 : IntKind.i64.wrap (i + size) = i + size := (i64_w _).trans (by have := HN.out; have := HWL.out; unfold wrap64; omega)
        obtain ⟨A2, hcut, hA, hC⟩ := print_mid_of (P := Try.prog) (Value.int .u8) 0 23 5 .i64 .i64 Try.underlying23 HI.out.1 HI.out.2 Aw cw ws i (i + size) b0 (by omega) (by omega) HCW.out
        obtain ⟨sl, hsl⟩ : ∃ sl, sl = (ws.take (i + size).toNat).drop i.toNat := ⟨_, rfl⟩
        rw [← hsl] at hA hC hcut
        have HA := Aside0.mk hA
        have HC2 := Aside0.mk hC
        have HSLT := Aside0.mk (show ws.take (i + size).toNat = ws.take i.toNat ++ sl from by have h_ := List.take_append_drop i.toNat (ws.take (i + size).toNat); rw [List.take_take, Nat.min_eq_left (by omega)] at h_; rw [hsl]; exact h_.symm)
        have HSZ := Aside0.mk (show sl.length ≤ 9000 from by have := HN.out; have := HWL.out; rw [hsl, List.length_drop, List.length_take]; omega)
        have hpre := feed_prefix ss HLS.out i.toNat (by rw [← HWS.out]; omega)
        rw [← HWS.out] at hpre
        have hp2 := feed_prefix ss HLS.out (i + size).toNat (by rw [← HWS.out]; omega)
        rw [← HWS.out] at hp2
        obtain ⟨P2, hP2⟩ : ∃ P2, P2 = ws.take (i + size).toNat := ⟨_, rfl⟩
        rw [← hP2] at hp2
        have hfe : feedX P false sl = ([], P2, false) := by have h_ := feedX_append (ws.take i.toNat) sl [] false (fun h => by cases h); rw [← HSLT.out, ← hP2, show feedX [] false P2 = ([], P2, false) from hp2, show feedX [] false (ws.take i.toNat) = ([], ws.take i.toNat, false) from hpre] at h_; rw [HP2.out]; exact Prod.ext (by simpa using (congrArg Prod.fst h_).symm) (congrArg Prod.snd h_).symm
        have HPL := Aside0.mk (show (P2.length : Int) = i + size from by rw [hP2, List.length_take]; omega)
        have HP3 := Aside0.mk hP2
        have e8 : wrap64 (P2.length : Int) = i + size := by have := HPL.out; have := HWL.out; have := HN.out; unfold wrap64; omega
        have e9 : (P2.length : Int) = i + size := HPL.out
        have d4 : decide (i + size < (ws.length : Int)) = true := decide_eq_true b3
        have d5 : (i + size == (ws.length : Int)) = false := beq_eq_false_iff_ne.mpr (by omega)
        have HFE := Aside0.mk hfe
        have HB0 := Aside0.mk (And.intro b0 (And.intro b1 b2))
        have HB3_ := Aside0.mk b3
        have HPLn := Aside0.mk (show P.length ≤ 9000 from by have := HN.out; have := HWL.out; rw [HP2.out, List.length_take]; omega)
        clear hA hC hsl b0 b1 b2 b3 c2 hpre hp2 hfe hP2
        go_wp2_with fail
        refine (frame_Feed.calls gf w.heap.size P false vf A2 _ sl wr [] P2 false HGB.out HBr.out.size HFr.out (fun W hk => Kd.C_of_reads (h1 := fun _ => rfl) (HA.out _ (Kd.reads_of_C (own_C3 HO3.out HKr.out hk HOn.out HVF.out)))) HC2.out (by have := HPLn.out; have := HSZ.out; omega) HFE.out).mono ?_
        rintro e x4 ⟨vz, vg, rfl, hoz, hxg, hug, hbg, hkg⟩
        have HG4 := Aside0.mk hxg
        have HB4 := Aside0.mk (HBr.out.trans hbg)
        have HK4 := Aside0.mk (show KeepBut w3 x4 gf none from KeepBut.trans HKr.out hkg (match hv : vf.ownBlock with | none => .inl rfl | some k => .inr ⟨k, rfl, HVF.out k hv⟩))
        have HV4 := Aside0.mk (show ∀ k, vg.ownBlock = some k → w3.heap.size ≤ k from fun k hk => hug.elim (fun h => HVF.out k (h ▸ hk)) (fun h => h.elim (fun h => by rw [h] at hk; cases hk) (fun ⟨b, h, hb⟩ => by rw [h] at hk; injection hk with hk; have := HKr.out.1; omega)))
        obtain ⟨Az, cz, ez⟩ : ∃ A c, vz = .slice A 0 c := Kd.R_slice hoz
        subst ez
        clear hoz hxg hug hbg hkg
        go_wp2_with (go_at_call 15; refine (HG4.out.waiting (by have := HPL.out; have := HWL.out; have := HN.out; have := HB0.out; omega)).mono ?_; rintro e_ w_ ⟨rfl, m1, rfl⟩; rw [HPL.out])
        go_quiet (fail)
        go_wp2_with fail
        go_roundg (ws.length + 1 - (i + size).toNat)
        case measure => have := HB0.out; have := HK.out; omega
        case rel => exact ⟨i + size, P2, vg, by rw [if_neg (by have := HB3_.out; omega)], rfl, ⟨by have := HB0.out; omega, by have := HB0.out; omega, by have := HB0.out; omega⟩, ⟨by rw [if_neg (by have := HB3_.out; omega)]; exact HP3.out⟩, ⟨HG4.out.below (pw_below_drewN (pw_below_drewN (Below.refl _ _) _) _)⟩, HV4, ⟨pw_below_drewN (pw_below_drewN HB4.out _) _⟩, ⟨keep_drewN (keep_drewN HK4.out _) _⟩⟩
      · skip
        have d2 : decide (size < m) = false := decide_eq_false c2
        have b1 : 1 ≤ m := by have := HN.out; have := HM.out; omega
        have b2 : i + m ≤ (ws.length : Int) := by have := HM.out; omega
        have b0 := HK.out.1
        have b3 : i + m = (ws.length : Int) := by have := HM.out; omega
        have ew1 : IntKind.i64.wrap (i + m) = (ws.length : Int) := (i64_w _).trans (by have := HN.out; have := HWL.out; unfold wrap64; omega)
        obtain ⟨A2, hcut, hA, hC⟩ := print_mid_of (P := Try.prog) (Value.int .u8) 0 23 5 .i64 .i64 Try.underlying23 HI.out.1 HI.out.2 Aw cw ws i (ws.length : Int) b0 (by omega) (by omega) HCW.out
        obtain ⟨sl, hsl⟩ : ∃ sl, sl = (ws.take ((ws.length : Int)).toNat).drop i.toNat := ⟨_, rfl⟩
        rw [← hsl] at hA hC hcut
        have HA := Aside0.mk hA
        have HC2 := Aside0.mk hC
        have HSLT := Aside0.mk (show ws.take ((ws.length : Int)).toNat = ws.take i.toNat ++ sl from by have h_ := List.take_append_drop i.toNat (ws.take ((ws.length : Int)).toNat); rw [List.take_take, Nat.min_eq_left (by omega)] at h_; rw [hsl]; exact h_.symm)
        have HSZ := Aside0.mk (show sl.length ≤ 9000 from by have := HN.out; have := HWL.out; rw [hsl, List.length_drop, List.length_take]; omega)
        have hpre := feed_prefix ss HLS.out i.toNat (by rw [← HWS.out]; omega)
        rw [← HWS.out] at hpre
        have hp2 := feed_all ss HLS.out
        rw [← HWS.out] at hp2
        have hfe : feedX P false sl = ([ss], [], false) := by have h_ := feedX_append (ws.take i.toNat) sl [] false (fun h => by cases h); rw [← HSLT.out, List.take_of_length_le (by omega), show feedX [] false ws = ([ss], [], false) from hp2, show feedX [] false (ws.take i.toNat) = ([], ws.take i.toNat, false) from hpre] at h_; rw [HP2.out]; exact Prod.ext (by simpa using (congrArg Prod.fst h_).symm) (congrArg Prod.snd h_).symm
        have HFE := Aside0.mk hfe
        have HB0 := Aside0.mk (And.intro b0 (And.intro b1 b2))
        have HB3_ := Aside0.mk b3
        have HPLn := Aside0.mk (show P.length ≤ 9000 from by have := HN.out; have := HWL.out; rw [HP2.out, List.length_take]; omega)
        clear hA hC hsl b0 b1 b2 b3 c2 hpre hp2 hfe
        go_wp2_with fail
        refine (frame_Feed.calls gf w.heap.size P false vf A2 _ sl wr [ss] [] false HGB.out HBr.out.size HFr.out (fun W hk => Kd.C_of_reads (h1 := fun _ => rfl) (HA.out _ (Kd.reads_of_C (own_C3 HO3.out HKr.out hk HOn.out HVF.out)))) HC2.out (by have := HPLn.out; have := HSZ.out; omega) HFE.out).mono ?_
        rintro e x4 ⟨vz, vg, rfl, hoz, hxg, hug, hbg, hkg⟩
        have HG4 := Aside0.mk hxg
        have HB4 := Aside0.mk (HBr.out.trans hbg)
        have HK4 := Aside0.mk (show KeepBut w3 x4 gf none from KeepBut.trans HKr.out hkg (match hv : vf.ownBlock with | none => .inl rfl | some k => .inr ⟨k, rfl, HVF.out k hv⟩))
        have HV4 := Aside0.mk (show ∀ k, vg.ownBlock = some k → w3.heap.size ≤ k from fun k hk => hug.elim (fun h => HVF.out k (h ▸ hk)) (fun h => h.elim (fun h => by rw [h] at hk; cases hk) (fun ⟨b, h, hb⟩ => by rw [h] at hk; injection hk with hk; have := HKr.out.1; omega)))
        obtain ⟨Az, cz, ez⟩ : ∃ A c, vz = .slice A 1 c := Kd.R_slice hoz
        subst ez
        have HZ4 := Aside0.mk (Kd.R_reads' hoz).2.2
        clear hoz hxg hug hbg hkg
        obtain ⟨ad, A5, c5, rfl, hc5, hl5, hC5⟩ := at_L1 HZ4.out 0 (by decide) (by simp)
        have hx5 : x4.cell? ad = some (.slice A5 ss.length c5) := by
          have h_ := hc5
          rw [show ((0 : Int)).toNat = 0 from rfl, Addr.add_zero'] at h_
          exact h_
        have HC5 := Aside0.mk (show Kd.C (Kd.int .u8) x4 A5 ss.length ss from hC5)
        have HL5 := Aside0.mk (show ss.length ≤ c5 from hl5)
        clear hc5 hC5 hl5 HZ4
        obtain ⟨kb, hkb⟩ := bytes_f ss (by have := HLS.out; omega)
        have HKB := Aside0.mk hkb
        clear hkb
        go_wp2_with fail
        refine start_ (n := 18) (S := fun w' => w'.cell? ad = some (.slice A5 ss.length c5)) (ds := []) #[false, false, false, false, false, false, false, false, false, false, false, false, false, false, false, false, false, false] (by kernel_rfl) rfl rfl hx5 (fun hHeld => ?_)
        clear hx5
        have n0_ := Aside0.mk (HG4.out.below (below_drew1 (Below.refl _ _)))
        have n1_ := Aside0.mk (below_drew1 HB4.out)
        have n2_ := Aside0.mk (keep_drew HK4.out)
        have n3_ := Aside0.mk (Kd.C_drew HC5.out)
        clear HG4 HB4 HK4 HC5
        generalize x4.drew = x5 at n0_ n1_ n2_ n3_ hHeld ⊢
        refine pure_ (i := 0) (N := some 116) (v := ?_) (a' := ?_) #[true, false, false, false, false, false, false, false, false, false, false, false, false, false, false, false, false, false] rfl rfl (by kernel_rfl) (fun _ _ _ h => h) (Or.inl ⟨by rfl, ?_⟩) ?_ ?_
        rotate_left
        · intro w'
          go_simp
          with_reducible rfl
        rotate_left
        · simp only [Act.put, List.setIfInBounds_toArray, List.set_cons_zero, List.set_cons_succ, i64_w, i32_w]
          rfl
        refine pure_ (i := 1) (N := some 117) (v := ?_) (a' := ?_) #[true, true, false, false, false, false, false, false, false, false, false, false, false, false, false, false, false, false] rfl rfl (by kernel_rfl) (fun _ _ _ h => h) (Or.inl ⟨by rfl, ?_⟩) ?_ ?_
        rotate_left
        · intro w'
          go_simp
          with_reducible rfl
        rotate_left
        · simp only [Act.put, List.setIfInBounds_toArray, List.set_cons_zero, List.set_cons_succ, i64_w, i32_w]
          rfl
        refine pure_ (i := 2) (N := some 118) (v := ?_) (a' := ?_) #[true, true, true, false, false, false, false, false, false, false, false, false, false, false, false, false, false, false] rfl rfl (by kernel_rfl) (fun _ _ _ h => h) (Or.inl ⟨by rfl, ?_⟩) ?_ ?_
        rotate_left
        · intro w'
          go_simp
          with_reducible rfl
        rotate_left
        · simp only [Act.put, List.setIfInBounds_toArray, List.set_cons_zero, List.set_cons_succ, i64_w, i32_w]
          rfl
        refine pure_ (i := 3) (N := some 119) (v := ?_) (a' := ?_) #[true, true, true, true, false, false, false, false, false, false, false, false, false, false, false, false, false, false] rfl rfl (by kernel_rfl) (fun _ _ _ h => h) (Or.inl ⟨by rfl, ?_⟩) ?_ ?_
        rotate_left
        · intro w'
          go_simp
          with_reducible rfl
        rotate_left
        · simp only [Act.put, List.setIfInBounds_toArray, List.set_cons_zero, List.set_cons_succ, i64_w, i32_w]
          rfl
        refine pure_ (i := 4) (N := some 120) (v := ?_) (a' := ?_) #[true, true, true, true, true, false, false, false, false, false, false, false, false, false, false, false, false, false] rfl rfl (by kernel_rfl) (fun _ _ _ h => h) (Or.inl ⟨by rfl, ?_⟩) ?_ ?_
        rotate_left
        · intro w'
          go_simp
          with_reducible rfl
        rotate_left
        · simp only [Act.put, List.setIfInBounds_toArray, List.set_cons_zero, List.set_cons_succ, i64_w, i32_w]
          rfl
        refine pure_ (i := 5) (N := some 121) (v := ?_) (a' := ?_) #[true, true, true, true, true, true, false, false, false, false, false, false, false, false, false, false, false, false] rfl rfl (by kernel_rfl) (fun _ _ _ h => h) (Or.inl ⟨by rfl, ?_⟩) ?_ ?_
        rotate_left
        · intro w'
          go_simp
          with_reducible rfl
        rotate_left
        · simp only [Act.put, List.setIfInBounds_toArray, List.set_cons_zero, List.set_cons_succ, i64_w, i32_w]
          rfl
        refine pure_ (i := 6) (N := some 122) (v := ?_) (a' := ?_) #[true, true, true, true, true, true, true, false, false, false, false, false, false, false, false, false, false, false] rfl rfl (by kernel_rfl) (fun _ _ _ h => h) (Or.inl ⟨by rfl, ?_⟩) ?_ ?_
        rotate_left
        · intro w'
          go_simp
          with_reducible rfl
        rotate_left
        · simp only [Act.put, List.setIfInBounds_toArray, List.set_cons_zero, List.set_cons_succ, i64_w, i32_w]
          rfl
        refine pure_ (i := 7) (N := some 123) (v := ?_) (a' := ?_) #[true, true, true, true, true, true, true, true, false, false, false, false, false, false, false, false, false, false] rfl rfl (by kernel_rfl) (fun _ _ _ h => h) (Or.inl ⟨by rfl, ?_⟩) ?_ ?_
        rotate_left
        · intro w'
          go_simp
          with_reducible rfl
        rotate_left
        · simp only [Act.put, List.setIfInBounds_toArray, List.set_cons_zero, List.set_cons_succ, i64_w, i32_w]
          rfl
        refine pure_ (i := 8) (N := some 124) (v := ?_) (a' := ?_) #[true, true, true, true, true, true, true, true, true, false, false, false, false, false, false, false, false, false] rfl rfl (by kernel_rfl) (fun _ _ _ h => h) (Or.inl ⟨by rfl, ?_⟩) ?_ ?_
        rotate_left
        · intro w'
          go_simp
          with_reducible rfl
        rotate_left
        · simp only [Act.put, List.setIfInBounds_toArray, List.set_cons_zero, List.set_cons_succ, i64_w, i32_w]
          rfl
        refine pure_ (i := 9) (N := some 125) (v := ?_) (a' := ?_) #[true, true, true, true, true, true, true, true, true, true, false, false, false, false, false, false, false, false] rfl rfl (by kernel_rfl) (fun _ _ _ h => h) (Or.inl ⟨by rfl, ?_⟩) ?_ ?_
        rotate_left
        · intro w'
          go_simp
          with_reducible rfl
        rotate_left
        · simp only [Act.put, List.setIfInBounds_toArray, List.set_cons_zero, List.set_cons_succ, i64_w, i32_w]
          rfl
        refine pure_ (i := 10) (N := some 126) (v := ?_) (a' := ?_) #[true, true, true, true, true, true, true, true, true, true, true, false, false, false, false, false, false, false] rfl rfl (by kernel_rfl) (fun _ _ _ h => h) (Or.inl ⟨by rfl, ?_⟩) ?_ ?_
        rotate_left
        · intro w'
          go_simp
          with_reducible rfl
        rotate_left
        · simp only [Act.put, List.setIfInBounds_toArray, List.set_cons_zero, List.set_cons_succ, i64_w, i32_w]
          rfl
        refine take_ (i := 11) (N := some 127) (v := ?_) (a' := ?_) #[true, true, true, true, true, true, true, true, true, true, true, true, false, false, false, false, false, false] rfl rfl (by kernel_rfl) (fun _ _ _ h => h) (Or.inl ⟨by rfl, ?_⟩) hHeld ?_ ?_
        rotate_left
        · intro w' s0
          go_simp
          with_reducible rfl
        rotate_left
        · simp only [Act.put, List.setIfInBounds_toArray, List.set_cons_zero, List.set_cons_succ, i64_w, i32_w]
          rfl
        refine pure_ (i := 12) (N := some 128) (v := ?_) (a' := ?_) #[true, true, true, true, true, true, true, true, true, true, true, true, true, false, false, false, false, false] rfl rfl (by kernel_rfl) (fun _ _ _ h => h) (Or.inl ⟨by rfl, ?_⟩) ?_ ?_
        rotate_left
        · intro w'
          go_simp
          with_reducible rfl
        rotate_left
        · simp only [Act.put, List.setIfInBounds_toArray, List.set_cons_zero, List.set_cons_succ, i64_w, i32_w]
          rfl
        refine one_ (i := 13) (N := some 129) #[true, true, true, true, true, true, true, true, true, true, true, true, true, true, false, false, false, false] rfl rfl (by kernel_rfl) (by decide) (fun K hK => ?_)
        refine goes_ Try.func17 (by kernel_rfl) rfl #[.int .i64 n, .int .i64 3] (by rfl) rfl rfl (by (try simp only [List.map_toArray, List.map_cons, List.map_nil]); first | done | rfl) ?_
        refine (bollardalike_Some.calls ks n 3 ss _ HKS.out).mono ?_
        rintro e x6 ⟨v6, rfl, ho6, hb6⟩
        obtain ⟨A6, c6, e6⟩ := Kd.R_slice ho6
        subst e6
        refine ⟨_, rfl, ?_⟩
        have m0_ := Aside0.mk (n0_.out.below hb6)
        have m1_ := Aside0.mk (below_step n1_.out hb6)
        have m2_ := Aside0.mk (KeepBut.trans n2_.out (KeepBut.of_below hb6 gf none) (.inl rfl))
        have m3_ := Aside0.mk (Kd.C_below n3_.out hb6)
        have m4_ := Aside0.mk (Kd.R_reads' ho6).2
        have hc6 := pw_cell_below hb6 hHeld
        clear n0_ n1_ n2_ n3_ ho6 hb6 hHeld
        refine hK.out _ _ hc6 (fun hHeld => ?_)
        clear hc6
        clear hK K
        refine norm_ (a' := ?_) ?_ ?_
        rotate_left
        · show Act.put _ (some 129) _ = _
          simp only [Act.put, List.setIfInBounds_toArray, List.set_cons_zero, List.set_cons_succ, i64_w, i32_w]
          rfl
        refine one_ (i := 14) (N := some 130) #[true, true, true, true, true, true, true, true, true, true, true, true, true, true, true, false, false, false] rfl rfl (by kernel_rfl) (by decide) (fun K hK => ?_)
        refine goes_ Try.func18 (by kernel_rfl) rfl #[.slice A5 ss.length c5, .slice A6 ss.length c6] (by rfl) rfl rfl (by (try simp only [List.map_toArray, List.map_cons, List.map_nil]); first | done | rfl) ?_
        refine (bollardalike_Bytes.calls kb A5 c5 ss A6 c6 ss true _ m3_.out HL5.out m4_.out.2 m4_.out.1 HKB.out).mono ?_
        rintro e x7 ⟨rfl, ⟨t7, rfl⟩⟩
        refine ⟨_, rfl, ?_⟩
        refine hK.out _ _ hHeld (fun hHeld => ?_)
        clear hK K
        refine norm_ (a' := ?_) ?_ ?_
        rotate_left
        · show Act.put _ (some 130) _ = _
          simp only [Act.put, List.setIfInBounds_toArray, List.set_cons_zero, List.set_cons_succ, i64_w, i32_w]
          rfl
        refine pure_ (i := 15) (N := some 131) (v := ?_) (a' := ?_) #[true, true, true, true, true, true, true, true, true, true, true, true, true, true, true, true, false, false] rfl rfl (by kernel_rfl) (fun _ _ _ h => h) (Or.inl ⟨by rfl, ?_⟩) ?_ ?_
        rotate_left
        · intro w'
          go_simp
          with_reducible rfl
        rotate_left
        · simp only [Act.put, List.setIfInBounds_toArray, List.set_cons_zero, List.set_cons_succ, i64_w, i32_w]
          rfl
        refine pure_ (i := 16) (N := some 132) (v := ?_) (a' := ?_) #[true, true, true, true, true, true, true, true, true, true, true, true, true, true, true, true, true, false] rfl rfl (by kernel_rfl) (fun _ _ _ h => h) (Or.inl ⟨by rfl, ?_⟩) ?_ ?_
        rotate_left
        · intro w'
          go_simp
          with_reducible rfl
        rotate_left
        · simp only [Act.put, List.setIfInBounds_toArray, List.set_cons_zero, List.set_cons_succ, i64_w, i32_w]
          rfl
        refine pure_ (i := 17) (N := some 133) (v := ?_) (a' := ?_) #[true, true, true, true, true, true, true, true, true, true, true, true, true, true, true, true, true, true] rfl rfl (by kernel_rfl) (fun _ _ _ h => h) (Or.inl ⟨by rfl, ?_⟩) ?_ ?_
        rotate_left
        · intro w'
          go_simp
          with_reducible rfl
        rotate_left
        · simp only [Act.put, List.setIfInBounds_toArray, List.set_cons_zero, List.set_cons_succ, i64_w, i32_w]
          rfl
        refine done_ (by kernel_rfl) ?_
        go_wp2_with fail
        go_roundg 1
        case measure => have := HB0.out; have := HB3_.out; have := HK.out; omega
        case rel => exact ⟨(ws.length : Int), [], vg, by rw [if_pos rfl], rfl, ⟨by omega, by omega, by omega⟩, ⟨by rw [if_pos rfl]⟩, ⟨m0_.out.below (pw_below_drewN (Below.refl _ _) _)⟩, HV4, ⟨pw_below_drewN m1_.out _⟩, ⟨keep_drewN m2_.out _⟩⟩
    · have d1 : decide (i < (ws.length : Int)) = false := decide_eq_false hi
      have hit : i = (ws.length : Int) := by have := HK.out; omega
      have HP2 := Aside0.mk (show P = [] from by have h_ := HP.out; rw [if_pos hit] at h_; exact h_)
      rw [if_pos hit]
      clear HP hit
      go_wp2_with fail
      refine (HFr.out.waiting (by rw [HP2.out]; decide)).mono ?_
      rintro e x7 ⟨rfl, m1, rfl⟩
      rw [HP2.out]
      go_wp2_with fail
      refine (bollardlaw19_awake.calls _).mono ?_
      rintro e w9 ⟨rfl, hb9⟩
      have HB9 := Aside0.mk (below_step (pw_below_drewN HBr.out _) hb9)
      clear hb9
      go_wp2
      go_ret
      exact ⟨rfl, HB9.out⟩
set_option maxHeartbeats 1000000 in
set_option maxRecDepth 100000 in
theorem framesizes_guard0 (n size : Int) (w : World) (h0 : n < 0) :
    Calls Try.prog 9 #[.int .i64 n, .int .i64 size] w fun e w' => e = .returned (.bool true) ∧ Below w.heap.size w w' := by
  have f0 : decide (n < 0) = true := decide_eq_true (by omega)
  clear h0
  go_enter Try.func9, Try.ntmps9
  go_wp2_with fail
  refine (bollardlaw19_awake.calls _).mono ?_
  rintro e w9 ⟨rfl, hb9⟩
  have HB9 := Aside0.mk (hb9)
  clear hb9
  go_wp2
  go_ret
  exact ⟨rfl, HB9.out⟩
set_option maxHeartbeats 1000000 in
set_option maxRecDepth 100000 in
theorem framesizes_guard1 (n size : Int) (w : World) (h0 : 0 ≤ n) (h1 : 8300 < n) :
    Calls Try.prog 9 #[.int .i64 n, .int .i64 size] w fun e w' => e = .returned (.bool true) ∧ Below w.heap.size w w' := by
  have f0 : decide (n < 0) = false := decide_eq_false (by omega)
  have f1 : decide (8300 < n) = true := decide_eq_true (by omega)
  clear h0 h1
  go_enter Try.func9, Try.ntmps9
  go_wp2_with fail
  refine (bollardlaw19_awake.calls _).mono ?_
  rintro e w9 ⟨rfl, hb9⟩
  have HB9 := Aside0.mk (hb9)
  clear hb9
  go_wp2
  go_ret
  exact ⟨rfl, HB9.out⟩
set_option maxHeartbeats 1000000 in
set_option maxRecDepth 100000 in
theorem framesizes_guard2 (n size : Int) (w : World) (h0 : 0 ≤ n) (h1 : n ≤ 8300) (h2 : size < 1) :
    Calls Try.prog 9 #[.int .i64 n, .int .i64 size] w fun e w' => e = .returned (.bool true) ∧ Below w.heap.size w w' := by
  have f0 : decide (n < 0) = false := decide_eq_false (by omega)
  have f1 : decide (8300 < n) = false := decide_eq_false (by omega)
  have f2 : decide (size < 1) = true := decide_eq_true (by omega)
  clear h0 h1 h2
  go_enter Try.func9, Try.ntmps9
  go_wp2_with fail
  refine (bollardlaw19_awake.calls _).mono ?_
  rintro e w9 ⟨rfl, hb9⟩
  have HB9 := Aside0.mk (hb9)
  clear hb9
  go_wp2
  go_ret
  exact ⟨rfl, HB9.out⟩
def bollardlaw19_FrameSizes.f (n size : Int) : Option Bool := if size ≤ 9223372036854775807 then some true else none
theorem bollardlaw19_FrameSizes.calls (n size : Int) (r : Bool) (w : World) (h : bollardlaw19_FrameSizes.f n size = some r) :
    Calls Try.prog 9 #[.int .i64 n, .int .i64 size] w fun e w' => e = .returned (.bool r) ∧ Below w.heap.size w w' := by
  unfold bollardlaw19_FrameSizes.f at h
  split at h
  case isFalse => cases h
  rename_i hb
  obtain rfl := Option.some.inj h
  by_cases h0 : n < 0
  case pos => exact framesizes_guard0 n size w (by omega)
  by_cases h1 : 8300 < n
  case pos => exact framesizes_guard1 n size w (by omega) (by omega)
  by_cases h2 : size < 1
  case pos => exact framesizes_guard2 n size w (by omega) (by omega) (by omega)
  by_cases h4 : 8192 < n
  case pos => exact framesizes_over n size w (by omega) (by omega) (by omega) h4
  exact framesizes_main n size w (by omega) (by omega) (by omega) (by omega) hb

/-- THE ONE PURE STATEMENT of bollardlaw19_FrameSizes: mine. -/
def bollardlaw19_FrameSizes.Pure : Prop := ∀ (a0 : Int) (a1 : Int), (Lit.int .i64 a0).wf = true → (Lit.int .i64 a1).wf = true → bollardlaw19_FrameSizes.f a0 a1 = some true

end Go.Proofs.Ytgicdiblfcnelaa.PFr
