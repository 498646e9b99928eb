import Derived.Test.YtdlkofmcioalfaaQPureCheckSaw
import Derived.Outline
import Derived.StillTailTactics
import Derived.RegionTactic
import Derived.BigRegion
import Derived.Lib.BufferWrite
import Derived.Test.YtdlkofmcioalfaaQPCkx3
namespace Go.Proofs.Ytdlkofmcioalfaa.PCk
open Go.RowKit Go.Proofs.YtdlkofmcioalfaaW.PrintWords Go.Proofs.YtdlkofmcioalfaaW.PrintLast Go.Proofs.YtdlkofmcioalfaaW.PrintMore
attribute [local go_sem] max2_int min2_int max_two min_two max_three min_three max_four min_four
set_option linter.unusedVariables false
set_option linter.unusedSimpArgs false

/-! ### again -/
noncomputable def refL : List (S35) → (List Fct × List Snt × List Spn) → List Fct × List Snt × List Spn
  | [], x => x
  | s :: l, x => refL l (refF s.f0 s.f1 s.f2 s.f3 s.f4 s.f5 x.1 x.2.1 x.2.2).2
theorem refL_append (l : List (S35)) : ∀ (k : List (S35)) (x : List Fct × List Snt × List Spn), refL (k ++ l) x = refL l (refL k x)
  | [], x => rfl
  | s :: k, x => refL_append l k _
theorem Lens.last {F : List Fct} {T : List Snt} {P : List Spn} {l : List (S35)} {s : S35} (h : Lens F T P (tot (l ++ [s]))) (hl : l = []) : Lens F T P (tot (s :: [])) := by subst hl; exact h
set_option maxHeartbeats 16000000 in
set_option maxRecDepth 100000 in
theorem bollardlaw24_again.calls (A0 : Option Addr) (c0 : Nat) (l : List S35) (t : ByteArray) (p st nx fr : Int) (A5 : Option Addr) (c5 : Nat) (bl : List SB) (w : World) (hr0 : Kd.C k35 w A0 l.length l) (hc0 : l.length ≤ c0) (hr5 : Kd.C k61 w A5 bl.length bl) (hc5 : bl.length ≤ c5)
    (hok : ∀ s ∈ l, StOk s) (ha : SawArg t p st nx fr bl) (hT : tot (l ++ [⟨t, p, st, nx, fr, bl⟩]) ≤ 400) :
    Calls Try.prog 23 #[.slice A0 l.length c0, .agg #[.string t, .int .i64 p, .int .i64 st, .int .i64 nx, .int .i64 fr, .slice A5 bl.length c5]] w fun e w' => e = .returned (.int .i64 (refF t p st nx fr bl (refL l ([], [], [])).1 (refL l ([], [], [])).2.1 (refL l ([], [], [])).2.2).1) ∧ Below w.heap.size w w' := by
  have HL := Aside0.mk (show l.length ≤ 400 from by have h_ := tot_len (l ++ [⟨t, p, st, nx, fr, bl⟩]); rw [List.length_append] at h_; omega)
  have HR := Aside0.mk (And.intro hr0 hc0)
  have HR5 := Aside0.mk (And.intro hr5 hc5)
  have HOK := Aside0.mk hok
  have HA := Aside0.mk ha
  have HT := Aside0.mk hT
  clear hr0 hc0 hr5 hc5 hok ha hT
  go_enter Try.func23, Try.ntmps23
  go_upto_region 1 with fail
  (try simp only [Act.put, List.setIfInBounds_toArray, List.set_cons_zero, List.set_cons_succ])
  have B1 := Aside0.mk (show Below w.heap.size w (w.alloc (.cells #[.string t, .int .i64 p, .int .i64 st, .int .i64 nx, .int .i64 fr, .slice A5 bl.length c5] 35)) ∧ (w.alloc (.cells #[.string t, .int .i64 p, .int .i64 st, .int .i64 nx, .int .i64 fr, .slice A5 bl.length c5] 35)).heap[w.heap.size]? = some (.cells #[.string t, .int .i64 p, .int .i64 st, .int .i64 nx, .int .i64 fr, .slice A5 bl.length c5] 35 (0, 0)) from ⟨below_alloc (Below.refl _ _) _, heap_alloc_new w _⟩)
  generalize w.alloc (.cells #[.string t, .int .i64 p, .int .i64 st, .int .i64 nx, .int .i64 fr, .slice A5 bl.length c5] 35) = w1 at B1 ⊢
  obtain ⟨gs, hgs⟩ : ∃ gs, gs = w.heap.size := ⟨_, rfl⟩
  have GS := Aside0.mk hgs
  have B1b := Aside0.mk (show Below w.heap.size w w1 ∧ w1.heap[gs]? = some (.cells #[.string t, .int .i64 p, .int .i64 st, .int .i64 nx, .int .i64 fr, .slice A5 bl.length c5] 35 (0, 0)) from ⟨B1.out.1, by rw [hgs]; exact B1.out.2⟩)
  rw [← hgs]
  clear B1 hgs
  go_wp2_with fail
  (try simp only [Act.put, List.setIfInBounds_toArray, List.set_cons_zero, List.set_cons_succ])
  have LM := Aside0.mk (ChkP.start w.heap.size w1)
  have B3 := Aside0.mk (show Below w.heap.size w (w1.alloc (.cells #[.slice none 0 0, .slice none 0 0, .slice none 0 0] 32)) ∧ (w1.alloc (.cells #[.slice none 0 0, .slice none 0 0, .slice none 0 0] 32)).heap[gs]? = some (.cells #[.string t, .int .i64 p, .int .i64 st, .int .i64 nx, .int .i64 fr, .slice A5 bl.length c5] 35 (0, 0)) from ⟨below_step B1b.out.1 (bel1 w1 _), blk_below B1b.out.2 (bel1 w1 _)⟩)
  have GM := Aside0.mk (show w.heap.size ≤ w1.heap.size from B1b.out.1.size)
  clear B1b
  generalize w1.alloc (.cells #[.slice none 0 0, .slice none 0 0, .slice none 0 0] 32) = w3 at LM B3 ⊢
  obtain ⟨m, hm_⟩ : ∃ m, m = w1.heap.size := ⟨_, rfl⟩
  rw [← hm_] at LM GM ⊢
  clear hm_
  go_loopg [6] (l.length + 1) (fun kq v6 wr => ∃ (i : Int) (FA : List Fct) (SA : List Snt) (PA : List Spn), v6 = .int .i64 i ∧ Aside0 (kq + i.toNat = l.length + 1 ∧ 0 ≤ i ∧ i ≤ (l.length : Int)) ∧ Aside0 (ChkP w.heap.size wr m FA SA PA ∧ Below w.heap.size w wr ∧ wr.heap[gs]? = some (.cells #[.string t, .int .i64 p, .int .i64 st, .int .i64 nx, .int .i64 fr, .slice A5 bl.length c5] 35 (0, 0)) ∧ refL (l.drop i.toNat) (FA, SA, PA) = refL l ([], [], []) ∧ Lens FA SA PA (tot (l.drop i.toNat ++ [⟨t, p, st, nx, fr, bl⟩]))))
  case atStart => exact ⟨0, [], [], [], rfl, ⟨by simp, by omega, by omega⟩, ⟨LM.out, B3.out.1, B3.out.2, rfl, ⟨by simpa using HT.out, by simpa using HT.out, by simpa using HT.out⟩⟩⟩
  case round =>
    obtain ⟨i, FA, SA, PA, rfl, HI, HS⟩ := hrel
    clear LM B3
    by_cases hi : i < (l.length : Int)
    case neg =>
      have d1 : decide (i < (l.length : Int)) = false := decide_eq_false hi
      have he : l.drop i.toNat = [] := List.drop_of_length_le (by have := HI.out; omega)
      have HE := Aside0.mk (show (FA, SA, PA) = refL l ([], [], []) ∧ Lens FA SA PA (tot (⟨t, p, st, nx, fr, bl⟩ :: [])) from ⟨by have h_ := HS.out.2.2.2.1; rw [he] at h_; exact h_, HS.out.2.2.2.2.last he⟩)
      clear hi he
      have s0 := (blk_cell HS.out.2.2.1 0).trans rfl
      have s1 := (blk_cell HS.out.2.2.1 1).trans rfl
      have s2 := (blk_cell HS.out.2.2.1 2).trans rfl
      have s3 := (blk_cell HS.out.2.2.1 3).trans rfl
      have s4 := (blk_cell HS.out.2.2.1 4).trans rfl
      have s5 := (blk_cell HS.out.2.2.1 5).trans rfl
      go_wp2_with fail
      refine (ref_Saw.calls m FA SA PA t p st nx fr A5 c5 bl w _ HS.out.1 HS.out.2.1 GM.out HR5.out.1 HR5.out.2 HA.out HE.out.2.arg).mono ?_
      rintro e w7 ⟨rfl, hm7, hk7⟩
      have B7 := Aside0.mk (hk7.below HS.out.2.1 GM.out (Nat.le_refl _))
      clear hm7 hk7
      go_wp2_with fail
      go_ret
      refine ⟨?_, B7.out⟩
      rw [← HE.out.1]
      rfl
    case pos =>
      have d1 : decide (i < (l.length : Int)) = true := decide_eq_true hi
      have h0 := HI.out.2.1
      obtain ⟨ad, A6, c6, ea, x0, x1, x2, x3, x4, x5, l5, g5⟩ := at_T35 HR.out.1 i h0 hi
      have HOKi := Aside0.mk (show StOk (rd_T35 l i) from HOK.out _ (get_mem z35 h0 hi))
      have HD := Aside0.mk (show refL ((rd_T35 l i) :: l.drop (i + 1).toNat) (FA, SA, PA) = refL l ([], [], []) ∧ Lens FA SA PA (tot ((rd_T35 l i) :: (l.drop (i + 1).toNat ++ [⟨t, p, st, nx, fr, bl⟩]))) from ⟨by have h_ := HS.out.2.2.2.1; rw [drop_get z35 h0 hi] at h_; exact h_, by have h_ := HS.out.2.2.2.2; rw [drop_get z35 h0 hi, List.cons_append] at h_; exact h_⟩)
      have HC5 := Aside0.mk (And.intro g5 l5)
      have p1 := eq_true h0
      have p2 := eq_true hi
      have HI2 := Aside0.mk hi
      clear g5 l5 h0 hi
      cases ea
      have X0 := Aside0.mk x0
      have X1 := Aside0.mk x1
      have X2 := Aside0.mk x2
      have X3 := Aside0.mk x3
      have X4 := Aside0.mk x4
      have X5 := Aside0.mk x5
      clear x0 x1 x2 x3 x4 x5
      go_wp2_with fail
      refine start_ (n := 32) (S := fun w' => Below w.heap.size w w') (ds := []) #[false, false, false, false, false, false, false, false, false, false, false, false, false, false, false, false, false, false, false, false, false, false, false, false, false, false, false, false, false, false, false, false] (by kernel_rfl) rfl rfl (below_drew1 HS.out.2.1) (fun hHeld => ?_)
      have K2 := Aside0.mk (show ChkP w.heap.size wr.drew m FA SA PA ∧ wr.drew.heap[gs]? = some (.cells #[.string t, .int .i64 p, .int .i64 st, .int .i64 nx, .int .i64 fr, .slice A5 bl.length c5] 35 (0, 0)) from ⟨HS.out.1.below (below_drew1 (Below.refl _ _)), blk_below HS.out.2.2.1 (below_drew1 (Below.refl _ _))⟩)
      clear HS
      generalize wr.drew = w5 at K2 hHeld ⊢
      refine pure_ (i := 0) (N := (some 15)) (v := ?_) (a' := ?_) #[true, false, false, false, false, false, false, false, false, false, false, false, false, false, false, false, false, false, false, false, false, false, false, false, false, false, false, false, false, false, false, false] rfl rfl (by kernel_rfl) (fun _ _ _ h => h) (Or.inl ⟨by rfl, ?_⟩) ?_ ?_
      rotate_left
      · intro w'
        go_simp
        with_reducible rfl
      rotate_left
      · simp only [Act.put, List.setIfInBounds_toArray, List.set_cons_zero, List.set_cons_succ, i64_w, i32_w]
        rfl
      refine pure_ (i := 1) (N := (some 16)) (v := ?_) (a' := ?_) #[true, true, false, false, false, false, false, false, false, false, false, false, false, false, false, false, false, false, false, false, false, false, false, false, false, false, false, false, false, false, false, false] rfl rfl (by kernel_rfl) (fun _ _ _ h => h) (Or.inl ⟨by rfl, ?_⟩) ?_ ?_
      rotate_left
      · intro w'
        go_simp
        with_reducible rfl
      rotate_left
      · simp only [Act.put, List.setIfInBounds_toArray, List.set_cons_zero, List.set_cons_succ, i64_w, i32_w]
        rfl
      refine pure_ (i := 2) (N := (some 17)) (v := ?_) (a' := ?_) #[true, true, true, false, false, false, false, false, false, false, false, false, false, false, false, false, false, false, false, false, false, false, false, false, false, false, false, false, false, false, false, false] rfl rfl (by kernel_rfl) (fun _ _ _ h => h) (Or.inl ⟨by rfl, ?_⟩) ?_ ?_
      rotate_left
      · intro w'
        go_simp
        with_reducible rfl
      rotate_left
      · simp only [Act.put, List.setIfInBounds_toArray, List.set_cons_zero, List.set_cons_succ, i64_w, i32_w]
        rfl
      refine pure_ (i := 3) (N := (some 18)) (v := ?_) (a' := ?_) #[true, true, true, true, false, false, false, false, false, false, false, false, false, false, false, false, false, false, false, false, false, false, false, false, false, false, false, false, false, false, false, false] rfl rfl (by kernel_rfl) (fun _ _ _ h => h) (Or.inl ⟨by rfl, ?_⟩) ?_ ?_
      rotate_left
      · intro w'
        go_simp
        with_reducible rfl
      rotate_left
      · simp only [Act.put, List.setIfInBounds_toArray, List.set_cons_zero, List.set_cons_succ, i64_w, i32_w]
        rfl
      refine pure_ (i := 4) (N := (some 19)) (v := ?_) (a' := ?_) #[true, true, true, true, true, false, false, false, false, false, false, false, false, false, false, false, false, false, false, false, false, false, false, false, false, false, false, false, false, false, false, false] rfl rfl (by kernel_rfl) (fun _ _ _ h => h) (Or.inl ⟨by rfl, ?_⟩) ?_ ?_
      rotate_left
      · intro w'
        go_simp
        with_reducible rfl
      rotate_left
      · simp only [Act.put, List.setIfInBounds_toArray, List.set_cons_zero, List.set_cons_succ, i64_w, i32_w]
        rfl
      refine take_ (i := 5) (N := (some 20)) (v := ?_) (a' := ?_) #[true, true, true, true, true, true, false, false, false, false, false, false, false, false, false, false, false, false, false, false, false, false, false, false, false, false, false, false, false, false, false, false] rfl rfl (by kernel_rfl) (fun _ _ _ h => h) (Or.inl ⟨by rfl, ?_⟩) hHeld ?_ ?_
      rotate_left
      · rintro w' s0
        have c_ := pw_cell_below s0 X0.out
        go_simp
        with_reducible rfl
      rotate_left
      · simp only [Act.put, List.setIfInBounds_toArray, List.set_cons_zero, List.set_cons_succ, i64_w, i32_w]
        rfl
      refine pure_ (i := 6) (N := (some 21)) (v := ?_) (a' := ?_) #[true, true, true, true, true, true, true, false, false, false, false, false, false, false, false, false, false, false, false, false, false, false, false, false, false, false, false, false, false, false, false, false] rfl rfl (by kernel_rfl) (fun _ _ _ h => h) (Or.inl ⟨by rfl, ?_⟩) ?_ ?_
      rotate_left
      · intro w'
        go_simp
        with_reducible rfl
      rotate_left
      · simp only [Act.put, List.setIfInBounds_toArray, List.set_cons_zero, List.set_cons_succ, i64_w, i32_w]
        rfl
      refine pure_ (i := 7) (N := (some 22)) (v := ?_) (a' := ?_) #[true, true, true, true, true, true, true, true, false, false, false, false, false, false, false, false, false, false, false, false, false, false, false, false, false, false, false, false, false, false, false, false] rfl rfl (by kernel_rfl) (fun _ _ _ h => h) (Or.inl ⟨by rfl, ?_⟩) ?_ ?_
      rotate_left
      · intro w'
        go_simp
        with_reducible rfl
      rotate_left
      · simp only [Act.put, List.setIfInBounds_toArray, List.set_cons_zero, List.set_cons_succ, i64_w, i32_w]
        rfl
      refine pure_ (i := 8) (N := (some 23)) (v := ?_) (a' := ?_) #[true, true, true, true, true, true, true, true, true, false, false, false, false, false, false, false, false, false, false, false, false, false, false, false, false, false, false, false, false, false, false, false] rfl rfl (by kernel_rfl) (fun _ _ _ h => h) (Or.inl ⟨by rfl, ?_⟩) ?_ ?_
      rotate_left
      · intro w'
        go_simp
        with_reducible rfl
      rotate_left
      · simp only [Act.put, List.setIfInBounds_toArray, List.set_cons_zero, List.set_cons_succ, i64_w, i32_w]
        rfl
      refine pure_ (i := 9) (N := (some 24)) (v := ?_) (a' := ?_) #[true, true, true, true, true, true, true, true, true, true, false, false, false, false, false, false, false, false, false, false, false, false, false, false, false, false, false, false, false, false, false, false] rfl rfl (by kernel_rfl) (fun _ _ _ h => h) (Or.inl ⟨by rfl, ?_⟩) ?_ ?_
      rotate_left
      · intro w'
        go_simp
        with_reducible rfl
      rotate_left
      · simp only [Act.put, List.setIfInBounds_toArray, List.set_cons_zero, List.set_cons_succ, i64_w, i32_w]
        rfl
      refine take_ (i := 10) (N := (some 25)) (v := ?_) (a' := ?_) #[true, true, true, true, true, true, true, true, true, true, true, false, false, false, false, false, false, false, false, false, false, false, false, false, false, false, false, false, false, false, false, false] rfl rfl (by kernel_rfl) (fun _ _ _ h => h) (Or.inl ⟨by rfl, ?_⟩) hHeld ?_ ?_
      rotate_left
      · rintro w' s0
        have c_ := pw_cell_below s0 X1.out
        go_simp
        with_reducible rfl
      rotate_left
      · simp only [Act.put, List.setIfInBounds_toArray, List.set_cons_zero, List.set_cons_succ, i64_w, i32_w]
        rfl
      refine pure_ (i := 11) (N := (some 26)) (v := ?_) (a' := ?_) #[true, true, true, true, true, true, true, true, true, true, true, true, false, false, false, false, false, false, false, false, false, false, false, false, false, false, false, false, false, false, false, false] rfl rfl (by kernel_rfl) (fun _ _ _ h => h) (Or.inl ⟨by rfl, ?_⟩) ?_ ?_
      rotate_left
      · intro w'
        go_simp
        with_reducible rfl
      rotate_left
      · simp only [Act.put, List.setIfInBounds_toArray, List.set_cons_zero, List.set_cons_succ, i64_w, i32_w]
        rfl
      refine pure_ (i := 12) (N := (some 27)) (v := ?_) (a' := ?_) #[true, true, true, true, true, true, true, true, true, true, true, true, true, false, false, false, false, false, false, false, false, false, false, false, false, false, false, false, false, false, false, false] rfl rfl (by kernel_rfl) (fun _ _ _ h => h) (Or.inl ⟨by rfl, ?_⟩) ?_ ?_
      rotate_left
      · intro w'
        go_simp
        with_reducible rfl
      rotate_left
      · simp only [Act.put, List.setIfInBounds_toArray, List.set_cons_zero, List.set_cons_succ, i64_w, i32_w]
        rfl
      refine pure_ (i := 13) (N := (some 28)) (v := ?_) (a' := ?_) #[true, true, true, true, true, true, true, true, true, true, true, true, true, true, false, false, false, false, false, false, false, false, false, false, false, false, false, false, false, false, false, false] rfl rfl (by kernel_rfl) (fun _ _ _ h => h) (Or.inl ⟨by rfl, ?_⟩) ?_ ?_
      rotate_left
      · intro w'
        go_simp
        with_reducible rfl
      rotate_left
      · simp only [Act.put, List.setIfInBounds_toArray, List.set_cons_zero, List.set_cons_succ, i64_w, i32_w]
        rfl
      refine pure_ (i := 14) (N := (some 29)) (v := ?_) (a' := ?_) #[true, true, true, true, true, true, true, true, true, true, true, true, true, true, true, false, false, false, false, false, false, false, false, false, false, false, false, false, false, false, false, false] rfl rfl (by kernel_rfl) (fun _ _ _ h => h) (Or.inl ⟨by rfl, ?_⟩) ?_ ?_
      rotate_left
      · intro w'
        go_simp
        with_reducible rfl
      rotate_left
      · simp only [Act.put, List.setIfInBounds_toArray, List.set_cons_zero, List.set_cons_succ, i64_w, i32_w]
        rfl
      refine take_ (i := 15) (N := (some 30)) (v := ?_) (a' := ?_) #[true, true, true, true, true, true, true, true, true, true, true, true, true, true, true, true, false, false, false, false, false, false, false, false, false, false, false, false, false, false, false, false] rfl rfl (by kernel_rfl) (fun _ _ _ h => h) (Or.inl ⟨by rfl, ?_⟩) hHeld ?_ ?_
      rotate_left
      · rintro w' s0
        have c_ := pw_cell_below s0 X2.out
        go_simp
        with_reducible rfl
      rotate_left
      · simp only [Act.put, List.setIfInBounds_toArray, List.set_cons_zero, List.set_cons_succ, i64_w, i32_w]
        rfl
      refine pure_ (i := 16) (N := (some 31)) (v := ?_) (a' := ?_) #[true, true, true, true, true, true, true, true, true, true, true, true, true, true, true, true, true, false, false, false, false, false, false, false, false, false, false, false, false, false, false, false] rfl rfl (by kernel_rfl) (fun _ _ _ h => h) (Or.inl ⟨by rfl, ?_⟩) ?_ ?_
      rotate_left
      · intro w'
        go_simp
        with_reducible rfl
      rotate_left
      · simp only [Act.put, List.setIfInBounds_toArray, List.set_cons_zero, List.set_cons_succ, i64_w, i32_w]
        rfl
      refine pure_ (i := 17) (N := (some 32)) (v := ?_) (a' := ?_) #[true, true, true, true, true, true, true, true, true, true, true, true, true, true, true, true, true, true, false, false, false, false, false, false, false, false, false, false, false, false, false, false] rfl rfl (by kernel_rfl) (fun _ _ _ h => h) (Or.inl ⟨by rfl, ?_⟩) ?_ ?_
      rotate_left
      · intro w'
        go_simp
        with_reducible rfl
      rotate_left
      · simp only [Act.put, List.setIfInBounds_toArray, List.set_cons_zero, List.set_cons_succ, i64_w, i32_w]
        rfl
      refine pure_ (i := 18) (N := (some 33)) (v := ?_) (a' := ?_) #[true, true, true, true, true, true, true, true, true, true, true, true, true, true, true, true, true, true, true, false, false, false, false, false, false, false, false, false, false, false, false, false] rfl rfl (by kernel_rfl) (fun _ _ _ h => h) (Or.inl ⟨by rfl, ?_⟩) ?_ ?_
      rotate_left
      · intro w'
        go_simp
        with_reducible rfl
      rotate_left
      · simp only [Act.put, List.setIfInBounds_toArray, List.set_cons_zero, List.set_cons_succ, i64_w, i32_w]
        rfl
      refine pure_ (i := 19) (N := (some 34)) (v := ?_) (a' := ?_) #[true, true, true, true, true, true, true, true, true, true, true, true, true, true, true, true, true, true, true, true, false, false, false, false, false, false, false, false, false, false, false, false] rfl rfl (by kernel_rfl) (fun _ _ _ h => h) (Or.inl ⟨by rfl, ?_⟩) ?_ ?_
      rotate_left
      · intro w'
        go_simp
        with_reducible rfl
      rotate_left
      · simp only [Act.put, List.setIfInBounds_toArray, List.set_cons_zero, List.set_cons_succ, i64_w, i32_w]
        rfl
      refine take_ (i := 20) (N := (some 35)) (v := ?_) (a' := ?_) #[true, true, true, true, true, true, true, true, true, true, true, true, true, true, true, true, true, true, true, true, true, false, false, false, false, false, false, false, false, false, false, false] rfl rfl (by kernel_rfl) (fun _ _ _ h => h) (Or.inl ⟨by rfl, ?_⟩) hHeld ?_ ?_
      rotate_left
      · rintro w' s0
        have c_ := pw_cell_below s0 X3.out
        go_simp
        with_reducible rfl
      rotate_left
      · simp only [Act.put, List.setIfInBounds_toArray, List.set_cons_zero, List.set_cons_succ, i64_w, i32_w]
        rfl
      refine pure_ (i := 21) (N := (some 36)) (v := ?_) (a' := ?_) #[true, true, true, true, true, true, true, true, true, true, true, true, true, true, true, true, true, true, true, true, true, true, false, false, false, false, false, false, false, false, false, false] rfl rfl (by kernel_rfl) (fun _ _ _ h => h) (Or.inl ⟨by rfl, ?_⟩) ?_ ?_
      rotate_left
      · intro w'
        go_simp
        with_reducible rfl
      rotate_left
      · simp only [Act.put, List.setIfInBounds_toArray, List.set_cons_zero, List.set_cons_succ, i64_w, i32_w]
        rfl
      refine pure_ (i := 22) (N := (some 37)) (v := ?_) (a' := ?_) #[true, true, true, true, true, true, true, true, true, true, true, true, true, true, true, true, true, true, true, true, true, true, true, false, false, false, false, false, false, false, false, false] rfl rfl (by kernel_rfl) (fun _ _ _ h => h) (Or.inl ⟨by rfl, ?_⟩) ?_ ?_
      rotate_left
      · intro w'
        go_simp
        with_reducible rfl
      rotate_left
      · simp only [Act.put, List.setIfInBounds_toArray, List.set_cons_zero, List.set_cons_succ, i64_w, i32_w]
        rfl
      refine pure_ (i := 23) (N := (some 38)) (v := ?_) (a' := ?_) #[true, true, true, true, true, true, true, true, true, true, true, true, true, true, true, true, true, true, true, true, true, true, true, true, false, false, false, false, false, false, false, false] rfl rfl (by kernel_rfl) (fun _ _ _ h => h) (Or.inl ⟨by rfl, ?_⟩) ?_ ?_
      rotate_left
      · intro w'
        go_simp
        with_reducible rfl
      rotate_left
      · simp only [Act.put, List.setIfInBounds_toArray, List.set_cons_zero, List.set_cons_succ, i64_w, i32_w]
        rfl
      refine pure_ (i := 24) (N := (some 39)) (v := ?_) (a' := ?_) #[true, true, true, true, true, true, true, true, true, true, true, true, true, true, true, true, true, true, true, true, true, true, true, true, true, false, false, false, false, false, false, false] rfl rfl (by kernel_rfl) (fun _ _ _ h => h) (Or.inl ⟨by rfl, ?_⟩) ?_ ?_
      rotate_left
      · intro w'
        go_simp
        with_reducible rfl
      rotate_left
      · simp only [Act.put, List.setIfInBounds_toArray, List.set_cons_zero, List.set_cons_succ, i64_w, i32_w]
        rfl
      refine take_ (i := 25) (N := (some 40)) (v := ?_) (a' := ?_) #[true, true, true, true, true, true, true, true, true, true, true, true, true, true, true, true, true, true, true, true, true, true, true, true, true, true, false, false, false, false, false, false] rfl rfl (by kernel_rfl) (fun _ _ _ h => h) (Or.inl ⟨by rfl, ?_⟩) hHeld ?_ ?_
      rotate_left
      · rintro w' s0
        have c_ := pw_cell_below s0 X4.out
        go_simp
        with_reducible rfl
      rotate_left
      · simp only [Act.put, List.setIfInBounds_toArray, List.set_cons_zero, List.set_cons_succ, i64_w, i32_w]
        rfl
      refine pure_ (i := 26) (N := (some 41)) (v := ?_) (a' := ?_) #[true, true, true, true, true, true, true, true, true, true, true, true, true, true, true, true, true, true, true, true, true, true, true, true, true, true, true, false, false, false, false, false] rfl rfl (by kernel_rfl) (fun _ _ _ h => h) (Or.inl ⟨by rfl, ?_⟩) ?_ ?_
      rotate_left
      · intro w'
        go_simp
        with_reducible rfl
      rotate_left
      · simp only [Act.put, List.setIfInBounds_toArray, List.set_cons_zero, List.set_cons_succ, i64_w, i32_w]
        rfl
      refine pure_ (i := 27) (N := (some 42)) (v := ?_) (a' := ?_) #[true, true, true, true, true, true, true, true, true, true, true, true, true, true, true, true, true, true, true, true, true, true, true, true, true, true, true, true, false, false, false, false] rfl rfl (by kernel_rfl) (fun _ _ _ h => h) (Or.inl ⟨by rfl, ?_⟩) ?_ ?_
      rotate_left
      · intro w'
        go_simp
        with_reducible rfl
      rotate_left
      · simp only [Act.put, List.setIfInBounds_toArray, List.set_cons_zero, List.set_cons_succ, i64_w, i32_w]
        rfl
      refine pure_ (i := 28) (N := (some 43)) (v := ?_) (a' := ?_) #[true, true, true, true, true, true, true, true, true, true, true, true, true, true, true, true, true, true, true, true, true, true, true, true, true, true, true, true, true, false, false, false] rfl rfl (by kernel_rfl) (fun _ _ _ h => h) (Or.inl ⟨by rfl, ?_⟩) ?_ ?_
      rotate_left
      · intro w'
        go_simp
        with_reducible rfl
      rotate_left
      · simp only [Act.put, List.setIfInBounds_toArray, List.set_cons_zero, List.set_cons_succ, i64_w, i32_w]
        rfl
      refine pure_ (i := 29) (N := (some 44)) (v := ?_) (a' := ?_) #[true, true, true, true, true, true, true, true, true, true, true, true, true, true, true, true, true, true, true, true, true, true, true, true, true, true, true, true, true, true, false, false] rfl rfl (by kernel_rfl) (fun _ _ _ h => h) (Or.inl ⟨by rfl, ?_⟩) ?_ ?_
      rotate_left
      · intro w'
        go_simp
        with_reducible rfl
      rotate_left
      · simp only [Act.put, List.setIfInBounds_toArray, List.set_cons_zero, List.set_cons_succ, i64_w, i32_w]
        rfl
      refine take_ (i := 30) (N := (some 45)) (v := ?_) (a' := ?_) #[true, true, true, true, true, true, true, true, true, true, true, true, true, true, true, true, true, true, true, true, true, true, true, true, true, true, true, true, true, true, true, false] rfl rfl (by kernel_rfl) (fun _ _ _ h => h) (Or.inl ⟨by rfl, ?_⟩) hHeld ?_ ?_
      rotate_left
      · rintro w' s0
        have c_ := pw_cell_below s0 X5.out
        go_simp
        with_reducible rfl
      rotate_left
      · simp only [Act.put, List.setIfInBounds_toArray, List.set_cons_zero, List.set_cons_succ, i64_w, i32_w]
        rfl
      refine one_ (i := 31) (N := (some 46)) #[true, true, true, true, true, true, true, true, true, true, true, true, true, true, true, true, true, true, true, true, true, true, true, true, true, true, true, true, true, true, true, true] rfl rfl (by kernel_rfl) (by decide) (fun K hK => ?_)
      refine goes_ Try.func12 (by kernel_rfl) rfl #[.pointer (some ⟨m, 0, none⟩), .string (rd_T35 l i).f0, .int .i64 (rd_T35 l i).f1, .int .i64 (rd_T35 l i).f2, .int .i64 (rd_T35 l i).f3, .int .i64 (rd_T35 l i).f4, .slice A6 (rd_T35 l i).f5.length c6] (by rfl) rfl rfl (by (try simp only [List.map_toArray, List.map_cons, List.map_nil]); first | done | rfl) ?_
      refine (ref_Saw.calls m FA SA PA (rd_T35 l i).f0 (rd_T35 l i).f1 (rd_T35 l i).f2 (rd_T35 l i).f3 (rd_T35 l i).f4 A6 c6 (rd_T35 l i).f5 w w5 K2.out.1 hHeld GM.out HC5.out.1 HC5.out.2 (HOKi.out.arg _ (Nat.le_trans HOKi.out.1 (by decide))) HD.out.2.arg).mono ?_
      rintro e w7 ⟨rfl, hm7, hk7⟩
      refine ⟨_, rfl, ?_⟩
      obtain ⟨cm, hcm⟩ := K2.out.1.blk
      have K4 := Aside0.mk (show ChkP w.heap.size w7 m _ _ _ ∧ Below w.heap.size w w7 ∧ w7.heap[gs]? = some (.cells #[.string t, .int .i64 p, .int .i64 st, .int .i64 nx, .int .i64 fr, .slice A5 bl.length c5] 35 (0, 0)) from ⟨hm7, hk7.below hHeld GM.out (Nat.le_refl _), hk7.step K2.out.2 hcm⟩)
      have HD2 := Aside0.mk (And.intro HD.out.1 HD.out.2.next)
      clear hm7 hk7 hcm K2 HD hHeld
      refine hK.out _ _ K4.out.2.1 (fun hHeld => ?_)
      clear hK K
      refine norm_ (a' := ?_) ?_ ?_
      rotate_left
      · show Act.put _ (some 46) _ = _
        simp only [Act.put, List.setIfInBounds_toArray, List.set_cons_zero, List.set_cons_succ, i64_w, i32_w]
        rfl
      refine done_ (by kernel_rfl) ?_
      clear hHeld
      have e1 : IntKind.i64.wrap (i + 1) = i + 1 := (i64_w _).trans (by have := HI.out; have := HL.out; unfold wrap64; omega)
      go_wp2_with fail
      go_roundg (l.length + 1 - (i + 1).toNat)
      case measure => have := HI.out; have := HI2.out; omega
      case rel => exact ⟨i + 1, _, _, _, by first | rfl | rw [e1], ⟨by have := HI.out; have := HI2.out; omega, by have := HI.out; omega, by have := HI2.out; omega⟩, ⟨K4.out.1, K4.out.2.1, K4.out.2.2, HD2.out.1, HD2.out.2⟩⟩

end Go.Proofs.Ytdlkofmcioalfaa.PCk

namespace Go.Proofs.Ytdlkofmcioalfaa.PCk
open Go.RowKit Go.Proofs.YtdlkofmcioalfaaW.PrintWords Go.Proofs.YtdlkofmcioalfaaW.PrintLast Go.Proofs.YtdlkofmcioalfaaW.PrintMore
attribute [local go_sem] max2_int min2_int max_two min_two max_three min_three max_four min_four
set_option linter.unusedVariables false
set_option linter.unusedSimpArgs false

/-! ### CheckAfter -/
theorem kd_new {α : Type} {d : Kd α} {W : World} {base e : Nat} {ok : Nat → Prop} {v v2 : Value} {xs : List α} (h : Kd.R d e W base ok v xs) (h2 : ∃ b, v2.ownBlock = some b ∧ W.heap.size ≤ b) : (∀ b, v2.ownBlock = some b → some b ≠ v.ownBlock) ∧ ∀ b, v.ownBlock = some b → some b ≠ v2.ownBlock := by
  obtain ⟨b2, e2, hle⟩ := h2
  refine ⟨fun b hb he => ?_, fun b hb he => ?_⟩
  · rw [hb] at e2
    injection e2 with e2
    have := own_lt h.2.choose_spec.1 b he.symm
    omega
  · rw [e2] at he
    injection he with he
    have := own_lt h.2.choose_spec.1 b hb
    omega
theorem info_step : (Try.prog.info? 35).map (fun i => (i.zero, i.size, i.bytes)) = some (some (.agg #[(.string ByteArray.empty), (.int .i64 0), (.int .i64 0), (.int .i64 0), (.int .i64 0), (.slice none 0 0)]), 6, 72) := by kernel_rfl
theorem tot_append (l k : List (S35)) : tot (l ++ k) = tot l + tot k := by simp [tot]
theorem tot_take (l : List (S35)) (n : Nat) : tot (l.take n) ≤ tot l := by
  have := tot_append (l.take n) (l.drop n)
  rw [List.take_append_drop] at this
  omega
theorem sawF_same {t : ByteArray} {p st nx fr : Int} {l : List SB} {E R S : Value → Option Value} (h : (sawF t p st nx fr l E R S).1 ≠ 0) : (sawF t p st nx fr l E R S).2 = (E, R, S) := by
  unfold sawF at h ⊢
  repeat' split at h
  all_goals first | (exfalso; exact h rfl) | skip
  all_goals simp_all
abbrev Simx (E R S : Value → Option Value) (x : List Fct × List Snt × List Spn) : Prop := Sim E R S x.1 x.2.1 x.2.2
theorem refL_snoc {l0 : List (S35)} {i : Int} (h0 : 0 ≤ i) (hi : i < (l0.length : Int)) : refL (l0.take (i + 1).toNat) ([], [], []) = (refF (rd_T35 l0 i).f0 (rd_T35 l0 i).f1 (rd_T35 l0 i).f2 (rd_T35 l0 i).f3 (rd_T35 l0 i).f4 (rd_T35 l0 i).f5 (refL (l0.take i.toNat) ([], [], [])).1 (refL (l0.take i.toNat) ([], [], [])).2.1 (refL (l0.take i.toNat) ([], [], [])).2.2).2 := by
  have e : l0.take (i + 1).toNat = l0.take i.toNat ++ [rd_T35 l0 i] := by
    have h1 : (i + 1).toNat = i.toNat + 1 := by omega
    have hl : i.toNat < l0.length := by omega
    rw [h1, List.take_add_one, List.getElem?_eq_getElem hl]
    congr 1
    show [l0[i.toNat]] = [l0.getD i.toNat z35]
    rw [List.getD_eq_getElem?_getD, List.getElem?_eq_getElem hl]
    rfl
  rw [e, refL_append]
  rfl
set_option maxHeartbeats 16000000 in
set_option maxRecDepth 100000 in
theorem bollardlaw24_CheckAfter.calls (k : Nat) (A0 : Option Addr) (c0 : Nat) (l0 : List S35) (t : ByteArray) (p st nx fr : Int) (A5 : Option Addr) (c5 : Nat) (bl : List SB) (r : Bool) (w : World) (hr0 : Kd.C k35 w A0 l0.length l0) (hc0 : l0.length ≤ c0) (hr5 : Kd.C k61 w A5 bl.length bl) (hc5 : bl.length ≤ c5) (h : bollardlaw24_CheckAfter.f k l0 t p st nx fr bl = some r) :
    Calls Try.prog 7 #[.slice A0 l0.length c0, .agg #[.string t, .int .i64 p, .int .i64 st, .int .i64 nx, .int .i64 fr, .slice A5 bl.length c5]] w fun e w' => e = .returned (.bool r) ∧ Below w.heap.size w w' := by
  unfold bollardlaw24_CheckAfter.f at h
  split at h
  case isFalse => cases h
  rename_i hcond
  obtain rfl := Option.some.inj h
  clear h
  obtain ⟨h0, h1, h2, h3, h4, h5, ⟨h6, h7⟩, h8⟩ := hcond
  have hw : (l0.map wt1).sum + 1 + (wt1 (⟨t, p, st, nx, fr, bl⟩ : S35) + 0) ≤ 1048576 := h8
  obtain ⟨hlen, hok⟩ := St_ok h0
  have hokb : StOk (⟨t, p, st, nx, fr, bl⟩ : S35) := by
    refine ⟨h1, h2, h3, h4, h5, by show bl.length ≤ _; omega, fun b hb => ?_⟩
    obtain ⟨b1, b2, b3, b4, b5, b6⟩ := h7 b hb
    exact ⟨b1, b2, b3, b4, by omega, fun r hr => (b6 r hr).2.2.2.2.2⟩
  have hT0 : tot (l0 ++ [(⟨t, p, st, nx, fr, bl⟩ : S35)]) ≤ 1048576 := by
    have h9 := wt_tot l0
    have h10 := wt_tot1 (⟨t, p, st, nx, fr, bl⟩ : S35)
    rw [tot_append, tot_cons, show tot ([] : List (S35)) = 0 from rfl]
    omega
  clear h0 h1 h2 h3 h4 h5 h6 h7 h8 hw
  have hl1 : (l0 ++ [(⟨t, p, st, nx, fr, bl⟩ : S35)]).length ≤ 1048576 := Nat.le_trans (tot_len _) hT0
  have hoka : ∀ s ∈ l0 ++ [(⟨t, p, st, nx, fr, bl⟩ : S35)], StOk s := fun s hs => by
    rcases List.mem_append.1 hs with hs | hs
    · exact hok s hs
    · rw [List.mem_singleton.1 hs]; exact hokb
  obtain ⟨ks, r1, hsm⟩ := small_some (l0 ++ [(⟨t, p, st, nx, fr, bl⟩ : S35)]) (by omega) (fun s hs => (hoka s hs).small)
  have hST : r1 = true → (∀ s ∈ l0 ++ [(⟨t, p, st, nx, fr, bl⟩ : S35)], GSt s) ∧ tot (l0 ++ [(⟨t, p, st, nx, fr, bl⟩ : S35)]) ≤ 400 := fun e => small_true _ (by rw [← e]; exact hsm) (by omega) (by omega)
  have HL := Aside0.mk (show l0.length + 1 ≤ 1048576 from by rw [List.length_append] at hl1; exact hl1)
  have HOK := Aside0.mk (And.intro hok hokb)
  have HSM := Aside0.mk hsm
  have HR := Aside0.mk (And.intro hr0 hc0)
  have HR5 := Aside0.mk (And.intro hr5 hc5)
  have HT := Aside0.mk hST
  clear hlen hok hsm hr0 hc0 hST hT0 hr5 hc5 hokb hoka hl1
  go_enter Try.func7, Try.ntmps7
  go_upto_region 1 with fail
  (try simp only [Act.put, List.setIfInBounds_toArray, List.set_cons_zero, List.set_cons_succ])
  have B1 := Aside0.mk (show Below w.heap.size w (w.alloc (.cells #[.string t, .int .i64 p, .int .i64 st, .int .i64 nx, .int .i64 fr, .slice A5 bl.length c5] 35)) ∧ (w.alloc (.cells #[.string t, .int .i64 p, .int .i64 st, .int .i64 nx, .int .i64 fr, .slice A5 bl.length c5] 35)).heap[w.heap.size]? = some (.cells #[.string t, .int .i64 p, .int .i64 st, .int .i64 nx, .int .i64 fr, .slice A5 bl.length c5] 35 (0, 0)) from ⟨below_alloc (Below.refl _ _) _, heap_alloc_new w _⟩)
  generalize w.alloc (.cells #[.string t, .int .i64 p, .int .i64 st, .int .i64 nx, .int .i64 fr, .slice A5 bl.length c5] 35) = w1 at B1 ⊢
  obtain ⟨gb0, hgs⟩ : ∃ gs, gs = w.heap.size := ⟨_, rfl⟩
  have B1b := Aside0.mk (show Below w.heap.size w w1 ∧ w1.heap[gb0]? = some (.cells #[.string t, .int .i64 p, .int .i64 st, .int .i64 nx, .int .i64 fr, .slice A5 bl.length c5] 35 (0, 0)) from ⟨B1.out.1, by rw [hgs]; exact B1.out.2⟩)
  rw [← hgs]
  clear B1 hgs
  refine start_ (n := 8) (S := fun w' => Below w1.drew.heap.size w1.drew w') (ds := []) #[false, false, false, false, false, false, false, false] (by kernel_rfl) rfl rfl (Below.refl _ _) (fun hHeld => ?_)
  have B2 := Aside0.mk (show Below w.heap.size w w1.drew ∧ w1.drew.heap[gb0]? = some (.cells #[.string t, .int .i64 p, .int .i64 st, .int .i64 nx, .int .i64 fr, .slice A5 bl.length c5] 35 (0, 0)) from ⟨below_drew1 B1b.out.1, blk_below B1b.out.2 (below_drew1 (Below.refl _ _))⟩)
  clear B1b
  generalize w1.drew = y4 at B2 hHeld ⊢
  refine pure_ (i := 1) (N := (some 13)) (v := ?_) (a' := ?_) #[false, true, false, false, false, false, false, false] rfl rfl (by kernel_rfl) (fun _ _ _ h => h) (Or.inl ⟨by rfl, ?_⟩) ?_ ?_
  rotate_left
  · intro w'
    go_simp
    with_reducible rfl
  rotate_left
  · simp only [Act.put, List.setIfInBounds_toArray, List.set_cons_zero, List.set_cons_succ, i64_w, i32_w]
    rfl
  refine take_ (i := 3) (N := (some 15)) (v := ?_) (a' := ?_) #[false, true, false, true, false, false, false, false] rfl rfl (by kernel_rfl) (fun _ _ _ h => h) (Or.inl ⟨by rfl, ?_⟩) hHeld ?_ ?_
  rotate_left
  · rintro w' s0
    have b_ := blk_below B2.out.2 s0
    have c_0 := (blk_cell b_ 0).trans rfl
    have c_1 := (blk_cell b_ 1).trans rfl
    have c_2 := (blk_cell b_ 2).trans rfl
    have c_3 := (blk_cell b_ 3).trans rfl
    have c_4 := (blk_cell b_ 4).trans rfl
    have c_5 := (blk_cell b_ 5).trans rfl
    clear b_ s0
    go_simp
    with_reducible rfl
  rotate_left
  · simp only [Act.put, List.setIfInBounds_toArray, List.set_cons_zero, List.set_cons_succ, i64_w, i32_w]
    rfl
  refine join_ (σ := (Value × Value × Value)) 3 #[true, true, true, true, true, false, false, false] (fun s_ => [(12, s_.1), (14, s_.2.1), (16, s_.2.2)]) (fun s_ w' => (Below y4.heap.size y4 w') ∧ Aside0 (Kd.R (Kd.fixed k35 w) 35 w' y4.heap.size (fun _ => True) s_.2.1 l0) ∧ Aside0 (Kd.R (Kd.fixed k35 w) 35 w' y4.heap.size (fun _ => True) s_.2.2 [(⟨t, p, st, nx, fr, bl⟩ : S35)])) ?_ ?_
  rotate_left
  · intro hCont
    refine two_ (i := 0) (j := 4) (Ni := (some 12)) (Nj := (some 16)) #[true, true, false, true, false, false, false, false] #[false, true, false, true, true, false, false, false] rfl rfl rfl rfl (by kernel_rfl) (by decide) (by decide) (fun K hK => ?_) (fun K hK => ?_)
    · refine Kd.R_lit_step (Kd.fixed k35 w) (w0 := y4) y4.heap.size 35 ?hg (N := 12) ?hd (xs := ([] : List S35)) (inner := []) (ok := fun _ => True) (okp := fun _ => True) ?hr ?hp (fun _ hk => hk) trivial hHeld hHeld.size (by simp) ?_; (case hd => rfl); (case hg => rfl); (case hr => first | (go_simp; done) | (go_simp; rfl)); (case hp => exact (Reps.none _ _)); intro v12 z1 ho_ hb_ hg_ hn_; have R12 := Aside0.mk ho_; clear ho_ hg_ hn_
      refine hK.out _ _ hb_ (fun hHeld => ?_)
      clear hK K
      refine norm_ (a' := ?_) ?_ ?_
      rotate_left
      · show Act.put _ (some 12) _ = _
        simp only [Act.put, List.setIfInBounds_toArray, List.set_cons_zero, List.set_cons_succ, i64_w, i32_w]
        rfl
      refine two_ (i := 2) (j := 4) (Ni := (some 14)) (Nj := (some 16)) #[true, true, true, true, false, false, false, false] #[true, true, false, true, true, false, false, false] rfl rfl rfl rfl (by kernel_rfl) (by decide) (by decide) (fun K hK => ?_) (fun K hK => ?_)
      · refine Kd.R_append_rows_step (Kd.fixed k35 w) (Rr := k35.K w) (w0 := y4) y4.heap.size (by rfl) (.tmp 12) (.tmp 13) 22 35 (.agg #[(.string ByteArray.empty), (.int .i64 0), (.int .i64 0), (.int .i64 0), (.int .i64 0), (.slice none 0 0)]) 72 rfl Try.underlying22 info_step rfl (show 0 < 6 from by decide) (by decide) v12 ([] : List S35) l0 A0 l0.length c0 (fun _ => True) (fun _ => False) rfl rfl R12.out (ReadsRow.imp_ HR.out.1 (below_step B2.out.1 hHeld) (fun _ _ h => h)) (fun _ _ h => h) (fun _ h => h.elim) (fun _ _ => trivial) hHeld hHeld.size ?aL ?_; (case aL => have := HL.out; simp only [List.length_nil]; omega); intro v14 z2 ho hb hg hat; rw [List.nil_append] at ho; have R14 := Aside0.mk ho; have hb_ := hb; clear ho hb hg hat R12
        refine hK.out _ _ hb_ (fun hHeld => ?_)
        clear hK K
        refine norm_ (a' := ?_) ?_ ?_
        rotate_left
        · show Act.put _ (some 14) _ = _
          simp only [Act.put, List.setIfInBounds_toArray, List.set_cons_zero, List.set_cons_succ, i64_w, i32_w]
          rfl
        refine one_ (i := 4) (N := (some 16)) #[true, true, true, true, true, false, false, false] rfl rfl (by kernel_rfl) (by decide) (fun K hK => ?_)
        refine Kd.R_lit_step (Kd.fixed k35 w) (w0 := y4) y4.heap.size 35 ?hg (N := 16) ?hd (xs := ([(⟨t, p, st, nx, fr, bl⟩ : S35)] : List S35)) (inner := [.string t, .int .i64 p, .int .i64 st, .int .i64 nx, .int .i64 fr, .slice A5 bl.length c5]) (ok := fun _ => True) (okp := fun _ => True) ?hr ?hp (fun _ hk => hk) trivial hHeld hHeld.size (by simp) ?_; (case hd => rfl); (case hg => rfl); (case hr => first | (go_simp; done) | (go_simp; rfl)); (case hp => exact (Reps.c6 (show Kd.M (Kd.fixed k35 w) _ _ _ (⟨t, p, st, nx, fr, bl⟩ : S35) [.string t, .int .i64 p, .int .i64 st, .int .i64 nx, .int .i64 fr, .slice A5 bl.length c5] from k35_mk w (⟨t, p, st, nx, fr, bl⟩ : S35) HR5.out.2 HR5.out.1) (Reps.none _ _))); intro v16 z3 ho_ hb_ hg_ hn_; have R16 := Aside0.mk ho_; have R14b := Aside0.mk (Kd.R_grown2 R14.out rfl hg_ (fun b hb => by cases hb)); clear R14; have R14 := R14b; clear R14b; clear ho_ hg_ hn_
        refine hK.out _ _ hb_ (fun hHeld => ?_)
        clear hK K
        refine norm_ (a' := ?_) ?_ ?_
        rotate_left
        · show Act.put _ (some 16) _ = _
          simp only [Act.put, List.setIfInBounds_toArray, List.set_cons_zero, List.set_cons_succ, i64_w, i32_w]
          rfl
        exact norm_ (by simp only [putAll, Act.put, List.setIfInBounds_toArray, List.set_cons_zero, List.set_cons_succ]) (hCont (v12, v14, v16) _ ⟨hHeld, R14, R16⟩)
      · refine Kd.R_lit_step (Kd.fixed k35 w) (w0 := y4) y4.heap.size 35 ?hg (N := 16) ?hd (xs := ([(⟨t, p, st, nx, fr, bl⟩ : S35)] : List S35)) (inner := [.string t, .int .i64 p, .int .i64 st, .int .i64 nx, .int .i64 fr, .slice A5 bl.length c5]) (ok := fun _ => True) (okp := fun _ => True) ?hr ?hp (fun _ hk => hk) trivial hHeld hHeld.size (by simp) ?_; (case hd => rfl); (case hg => rfl); (case hr => first | (go_simp; done) | (go_simp; rfl)); (case hp => exact (Reps.c6 (show Kd.M (Kd.fixed k35 w) _ _ _ (⟨t, p, st, nx, fr, bl⟩ : S35) [.string t, .int .i64 p, .int .i64 st, .int .i64 nx, .int .i64 fr, .slice A5 bl.length c5] from k35_mk w (⟨t, p, st, nx, fr, bl⟩ : S35) HR5.out.2 HR5.out.1) (Reps.none _ _))); intro v16 z2 ho_ hb_ hg_ hn_; have R16 := Aside0.mk ho_; have N_ := Aside0.mk (kd_new R12.out (hn_.imp (fun b h => h))).2; have R12b := Aside0.mk (Kd.R_grown2 R12.out rfl hg_ (fun b hb => by cases hb)); clear R12; have R12 := R12b; clear R12b; clear ho_ hg_ hn_
        refine hK.out _ _ hb_ (fun hHeld => ?_)
        clear hK K
        refine norm_ (a' := ?_) ?_ ?_
        rotate_left
        · show Act.put _ (some 16) _ = _
          simp only [Act.put, List.setIfInBounds_toArray, List.set_cons_zero, List.set_cons_succ, i64_w, i32_w]
          rfl
        refine one_ (i := 2) (N := (some 14)) #[true, true, true, true, true, false, false, false] rfl rfl (by kernel_rfl) (by decide) (fun K hK => ?_)
        refine Kd.R_append_rows_step (Kd.fixed k35 w) (Rr := k35.K w) (w0 := y4) y4.heap.size (by rfl) (.tmp 12) (.tmp 13) 22 35 (.agg #[(.string ByteArray.empty), (.int .i64 0), (.int .i64 0), (.int .i64 0), (.int .i64 0), (.slice none 0 0)]) 72 rfl Try.underlying22 info_step rfl (show 0 < 6 from by decide) (by decide) v12 ([] : List S35) l0 A0 l0.length c0 (fun _ => True) (fun _ => False) rfl rfl R12.out (ReadsRow.imp_ HR.out.1 (below_step B2.out.1 hHeld) (fun _ _ h => h)) (fun _ _ h => h) (fun _ h => h.elim) (fun _ _ => trivial) hHeld hHeld.size ?aL ?_; (case aL => have := HL.out; simp only [List.length_nil]; omega); intro v14 z3 ho hb hg hat; rw [List.nil_append] at ho; have R14 := Aside0.mk ho; have hb_ := hb; have R16b := Aside0.mk (Kd.R_grown2 R16.out rfl hg (N_.out)); clear R16; have R16 := R16b; clear R16b; clear ho hb hg hat R12
        refine hK.out _ _ hb_ (fun hHeld => ?_)
        clear hK K
        refine norm_ (a' := ?_) ?_ ?_
        rotate_left
        · show Act.put _ (some 14) _ = _
          simp only [Act.put, List.setIfInBounds_toArray, List.set_cons_zero, List.set_cons_succ, i64_w, i32_w]
          rfl
        exact norm_ (by simp only [putAll, Act.put, List.setIfInBounds_toArray, List.set_cons_zero, List.set_cons_succ]) (hCont (v12, v14, v16) _ ⟨hHeld, R14, R16⟩)
    · refine Kd.R_lit_step (Kd.fixed k35 w) (w0 := y4) y4.heap.size 35 ?hg (N := 16) ?hd (xs := ([(⟨t, p, st, nx, fr, bl⟩ : S35)] : List S35)) (inner := [.string t, .int .i64 p, .int .i64 st, .int .i64 nx, .int .i64 fr, .slice A5 bl.length c5]) (ok := fun _ => True) (okp := fun _ => True) ?hr ?hp (fun _ hk => hk) trivial hHeld hHeld.size (by simp) ?_; (case hd => rfl); (case hg => rfl); (case hr => first | (go_simp; done) | (go_simp; rfl)); (case hp => exact (Reps.c6 (show Kd.M (Kd.fixed k35 w) _ _ _ (⟨t, p, st, nx, fr, bl⟩ : S35) [.string t, .int .i64 p, .int .i64 st, .int .i64 nx, .int .i64 fr, .slice A5 bl.length c5] from k35_mk w (⟨t, p, st, nx, fr, bl⟩ : S35) HR5.out.2 HR5.out.1) (Reps.none _ _))); intro v16 z1 ho_ hb_ hg_ hn_; have R16 := Aside0.mk ho_; clear ho_ hg_ hn_
      refine hK.out _ _ hb_ (fun hHeld => ?_)
      clear hK K
      refine norm_ (a' := ?_) ?_ ?_
      rotate_left
      · show Act.put _ (some 16) _ = _
        simp only [Act.put, List.setIfInBounds_toArray, List.set_cons_zero, List.set_cons_succ, i64_w, i32_w]
        rfl
      refine one_ (i := 0) (N := (some 12)) #[true, true, false, true, true, false, false, false] rfl rfl (by kernel_rfl) (by decide) (fun K hK => ?_)
      refine Kd.R_lit_step (Kd.fixed k35 w) (w0 := y4) y4.heap.size 35 ?hg (N := 12) ?hd (xs := ([] : List S35)) (inner := []) (ok := fun _ => True) (okp := fun _ => True) ?hr ?hp (fun _ hk => hk) trivial hHeld hHeld.size (by simp) ?_; (case hd => rfl); (case hg => rfl); (case hr => first | (go_simp; done) | (go_simp; rfl)); (case hp => exact (Reps.none _ _)); intro v12 z2 ho_ hb_ hg_ hn_; have R12 := Aside0.mk ho_; have N_ := Aside0.mk (kd_new R16.out (hn_.imp (fun b h => h))).1; have R16b := Aside0.mk (Kd.R_grown2 R16.out rfl hg_ (fun b hb => by cases hb)); clear R16; have R16 := R16b; clear R16b; clear ho_ hg_ hn_
      refine hK.out _ _ hb_ (fun hHeld => ?_)
      clear hK K
      refine norm_ (a' := ?_) ?_ ?_
      rotate_left
      · show Act.put _ (some 12) _ = _
        simp only [Act.put, List.setIfInBounds_toArray, List.set_cons_zero, List.set_cons_succ, i64_w, i32_w]
        rfl
      refine one_ (i := 2) (N := (some 14)) #[true, true, true, true, true, false, false, false] rfl rfl (by kernel_rfl) (by decide) (fun K hK => ?_)
      refine Kd.R_append_rows_step (Kd.fixed k35 w) (Rr := k35.K w) (w0 := y4) y4.heap.size (by rfl) (.tmp 12) (.tmp 13) 22 35 (.agg #[(.string ByteArray.empty), (.int .i64 0), (.int .i64 0), (.int .i64 0), (.int .i64 0), (.slice none 0 0)]) 72 rfl Try.underlying22 info_step rfl (show 0 < 6 from by decide) (by decide) v12 ([] : List S35) l0 A0 l0.length c0 (fun _ => True) (fun _ => False) rfl rfl R12.out (ReadsRow.imp_ HR.out.1 (below_step B2.out.1 hHeld) (fun _ _ h => h)) (fun _ _ h => h) (fun _ h => h.elim) (fun _ _ => trivial) hHeld hHeld.size ?aL ?_; (case aL => have := HL.out; simp only [List.length_nil]; omega); intro v14 z3 ho hb hg hat; rw [List.nil_append] at ho; have R14 := Aside0.mk ho; have hb_ := hb; have R16b := Aside0.mk (Kd.R_grown2 R16.out rfl hg (N_.out)); clear R16; have R16 := R16b; clear R16b; clear ho hb hg hat R12
      refine hK.out _ _ hb_ (fun hHeld => ?_)
      clear hK K
      refine norm_ (a' := ?_) ?_ ?_
      rotate_left
      · show Act.put _ (some 14) _ = _
        simp only [Act.put, List.setIfInBounds_toArray, List.set_cons_zero, List.set_cons_succ, i64_w, i32_w]
        rfl
      exact norm_ (by simp only [putAll, Act.put, List.setIfInBounds_toArray, List.set_cons_zero, List.set_cons_succ]) (hCont (v12, v14, v16) _ ⟨hHeld, R14, R16⟩)
  rintro ⟨v12, v14, v16⟩ z4 ⟨hHeld, R14, R16⟩
  refine norm_ (a' := ?_) ?_ ?_
  rotate_left
  · simp only [putAll, Act.put, List.setIfInBounds_toArray, List.set_cons_zero, List.set_cons_succ]
    rfl
  obtain ⟨A7, c7, e7⟩ := Kd.R_slice R16.out
  subst e7
  refine one_ (i := 5) (N := (some 17)) #[true, true, true, true, true, true, false, false] rfl rfl (by kernel_rfl) (by decide) (fun K hK => ?_)
  refine Kd.R_append_rows_step (Kd.fixed k35 w) (Rr := k35.K w) (w0 := y4) y4.heap.size (by rfl) (.tmp 14) (.tmp 16) 22 35 (.agg #[(.string ByteArray.empty), (.int .i64 0), (.int .i64 0), (.int .i64 0), (.int .i64 0), (.slice none 0 0)]) 72 rfl Try.underlying22 info_step rfl (show 0 < 6 from by decide) (by decide) v14 l0 [(⟨t, p, st, nx, fr, bl⟩ : S35)] A7 [(⟨t, p, st, nx, fr, bl⟩ : S35)].length c7 (fun _ => True) (fun _ => False) rfl rfl R14.out (Kd.R_reads' R16.out).2.2 (fun _ _ h => h) (fun _ h => h.elim) (fun _ _ => trivial) hHeld hHeld.size ?aL ?_; (case aL => have := HL.out; simp only [List.length_singleton]; omega); intro v17 z5 ho hb hg hat; have R17 := Aside0.mk ho; have hb_ := hb; clear ho hb hg hat
  refine hK.out _ _ hb_ (fun hHeld => ?_)
  clear hK K
  refine norm_ (a' := ?_) ?_ ?_
  rotate_left
  · show Act.put _ (some 17) _ = _
    simp only [Act.put, List.setIfInBounds_toArray, List.set_cons_zero, List.set_cons_succ, i64_w, i32_w]
    rfl
  obtain ⟨A8, c8, e8⟩ := Kd.R_slice R17.out
  subst e8
  have HF := Aside0.mk (Kd.R_reads' R17.out).2
  clear R14 R16 R17 hb_
  refine one_ (i := 6) (N := (some 18)) #[true, true, true, true, true, true, true, false] rfl rfl (by kernel_rfl) (by decide) (fun K hK => ?_)
  refine goes_ Try.func8 (by kernel_rfl) rfl #[.slice A8 (l0 ++ [(⟨t, p, st, nx, fr, bl⟩ : S35)]).length c8] (by rfl) rfl rfl (by (try simp only [List.map_toArray, List.map_cons, List.map_nil]); first | done | rfl) ?_
  refine (bollardlaw24_small.calls ks A8 c8 (l0 ++ [(⟨t, p, st, nx, fr, bl⟩ : S35)]) r1 _ (Kd.C_read (w := z5) (d := k35) (dm := (Kd.fixed k35 w)) rfl (fun x cs hk_ => k35.K_below (below_step B2.out.1 hHeld) hk_) HF.out.2) HF.out.1 HSM.out).mono ?_
  rintro e w2 ⟨rfl, hb⟩
  refine ⟨_, rfl, ?_⟩
  have B3 := Aside0.mk (show Below w.heap.size w w2 ∧ w2.heap[gb0]? = some (.cells #[.string t, .int .i64 p, .int .i64 st, .int .i64 nx, .int .i64 fr, .slice A5 bl.length c5] 35 (0, 0)) from ⟨below_step (below_step B2.out.1 hHeld) hb, blk_below (blk_below B2.out.2 hHeld) hb⟩)
  have hb_ := below_step hHeld hb
  clear hHeld hb HF B2
  refine hK.out _ _ hb_ (fun hHeld => ?_)
  clear hK K
  refine norm_ (a' := ?_) ?_ ?_
  rotate_left
  · show Act.put _ (some 18) _ = _
    simp only [Act.put, List.setIfInBounds_toArray, List.set_cons_zero, List.set_cons_succ, i64_w, i32_w]
    rfl
  clear hb_
  cases r1 with
  | false =>
    refine pure_ (i := 7) (N := (some 19)) (v := ?_) (a' := ?_) #[true, true, true, true, true, true, true, true] rfl rfl (by kernel_rfl) (fun _ _ _ h => h) (Or.inl ⟨by rfl, ?_⟩) ?_ ?_
    rotate_left
    · intro w'
      go_simp
      with_reducible rfl
    rotate_left
    · simp only [Act.put, List.setIfInBounds_toArray, List.set_cons_zero, List.set_cons_succ, i64_w, i32_w]
      rfl
    refine done_ (by kernel_rfl) ?_
    clear hHeld
    go_wp2_with fail
    refine (bollardlaw24_awake.calls _).mono ?_
    rintro e w3 ⟨rfl, hb⟩
    have B4 := Aside0.mk (below_step B3.out.1 hb)
    clear hb
    go_wp2_with fail
    go_ret
    exact ⟨rfl, B4.out⟩
  | true =>
    refine pure_ (i := 7) (N := (some 19)) (v := ?_) (a' := ?_) #[true, true, true, true, true, true, true, true] rfl rfl (by kernel_rfl) (fun _ _ _ h => h) (Or.inl ⟨by rfl, ?_⟩) ?_ ?_
    rotate_left
    · intro w'
      go_simp
      with_reducible rfl
    rotate_left
    · simp only [Act.put, List.setIfInBounds_toArray, List.set_cons_zero, List.set_cons_succ, i64_w, i32_w]
      rfl
    refine done_ (by kernel_rfl) ?_
    clear hHeld
    have HG := Aside0.mk (HT.out rfl)
    clear HT
    go_wp2_with fail
    refine (check_New.calls _).mono ?_
    rintro e w3 ⟨ga, rfl, hga, hLa, hb⟩
    have K1 := Aside0.mk (show LogP w3 ga _ _ _ ∧ Below w.heap.size w w3 ∧ w3.heap[gb0]? = some (.cells #[.string t, .int .i64 p, .int .i64 st, .int .i64 nx, .int .i64 fr, .slice A5 bl.length c5] 35 (0, 0)) ∧ w.heap.size ≤ ga from ⟨hLa, below_step B3.out.1 hb, blk_below B3.out.2 hb, Nat.le_trans B3.out.1.size hga⟩)
    clear hga hLa hb B3
    go_wp2_with fail
    refine (check_New.calls _).mono ?_
    rintro e w4 ⟨gb, rfl, hga, hLa, hb⟩
    have K2 := Aside0.mk (show LogP w4 ga _ _ _ ∧ LogP w4 gb _ _ _ ∧ Below w.heap.size w w4 ∧ w4.heap[gb0]? = some (.cells #[.string t, .int .i64 p, .int .i64 st, .int .i64 nx, .int .i64 fr, .slice A5 bl.length c5] 35 (0, 0)) from ⟨K1.out.1.below hb, hLa, below_step K1.out.2.1 hb, blk_below K1.out.2.2.1 hb⟩)
    have GA := Aside0.mk (show w.heap.size ≤ ga ∧ w.heap.size ≤ gb ∧ gb ≠ ga from ⟨K1.out.2.2.2, Nat.le_trans K1.out.2.1.size hga, by obtain ⟨_, h_⟩ := K1.out.1.cells; have := blk_lt h_; omega⟩)
    clear hga hLa hb K1
    go_wp2_with fail
    go_loopg [7] (l0.length + 1) (fun kq v7 wr => ∃ (i : Int) (E R S : Value → Option Value), v7 = .int .i64 i ∧ Aside0 (kq + i.toNat = l0.length + 1 ∧ 0 ≤ i ∧ i ≤ (l0.length : Int)) ∧ Aside0 (LogP wr ga E R S ∧ LogP wr gb E R S ∧ Simx E R S (refL (l0.take i.toNat) ([], [], [])) ∧ Below w.heap.size w wr ∧ wr.heap[gb0]? = some (.cells #[.string t, .int .i64 p, .int .i64 st, .int .i64 nx, .int .i64 fr, .slice A5 bl.length c5] 35 (0, 0))))
    case atStart => exact ⟨0, _, _, _, rfl, ⟨by simp, by omega, by omega⟩, ⟨K2.out.1, K2.out.2.1, Sim.start, K2.out.2.2.1, K2.out.2.2.2⟩⟩
    case round =>
      obtain ⟨i, E, R, S, rfl, HI, HS⟩ := hrel
      clear K2
      by_cases hi : i < (l0.length : Int)
      case neg =>
        have d1 : decide (i < (l0.length : Int)) = false := decide_eq_false hi
        clear hi
        go_wp2_with fail
        refine (bollardlaw24_awake.calls _).mono ?_
        rintro e w5 ⟨rfl, hb⟩
        have B5 := Aside0.mk (below_step HS.out.2.2.2.1 hb)
        clear hb
        go_wp2_with fail
        go_ret
        exact ⟨rfl, B5.out⟩
      case pos =>
        have d1 : decide (i < (l0.length : Int)) = true := decide_eq_true hi
        have h0 := HI.out.2.1
        obtain ⟨ad, A6, c6, ea, x0, x1, x2, x3, x4, x5, l5, g5⟩ := at_T35 HR.out.1 i h0 hi
        replace x0 := pw_cell_below HS.out.2.2.2.1 x0
        replace x1 := pw_cell_below HS.out.2.2.2.1 x1
        replace x2 := pw_cell_below HS.out.2.2.2.1 x2
        replace x3 := pw_cell_below HS.out.2.2.2.1 x3
        replace x4 := pw_cell_below HS.out.2.2.2.1 x4
        replace x5 := pw_cell_below HS.out.2.2.2.1 x5
        have HOKi := Aside0.mk (And.intro (show StOk (rd_T35 l0 i) from HOK.out.1 _ (get_mem z35 h0 hi)) (show GSt (rd_T35 l0 i) from HG.out.1 _ (List.mem_append_left _ (get_mem z35 h0 hi))))
        have HSN := Aside0.mk (refL_snoc h0 hi)
        have HC5 := Aside0.mk (And.intro g5 l5)
        have p1 := eq_true h0
        have p2 := eq_true hi
        have HI2 := Aside0.mk hi
        clear g5 l5 h0 hi
        cases ea
        go_upto_region 9 with fail
        (try simp only [Act.put, List.setIfInBounds_toArray, List.set_cons_zero, List.set_cons_succ])
        have K1 := Aside0.mk (show LogP (wr.alloc (.cells #[.string (rd_T35 l0 i).f0, .int .i64 (rd_T35 l0 i).f1, .int .i64 (rd_T35 l0 i).f2, .int .i64 (rd_T35 l0 i).f3, .int .i64 (rd_T35 l0 i).f4, .slice A6 (rd_T35 l0 i).f5.length c6] 35)) ga E R S ∧ LogP (wr.alloc (.cells #[.string (rd_T35 l0 i).f0, .int .i64 (rd_T35 l0 i).f1, .int .i64 (rd_T35 l0 i).f2, .int .i64 (rd_T35 l0 i).f3, .int .i64 (rd_T35 l0 i).f4, .slice A6 (rd_T35 l0 i).f5.length c6] 35)) gb E R S ∧ Below w.heap.size w (wr.alloc (.cells #[.string (rd_T35 l0 i).f0, .int .i64 (rd_T35 l0 i).f1, .int .i64 (rd_T35 l0 i).f2, .int .i64 (rd_T35 l0 i).f3, .int .i64 (rd_T35 l0 i).f4, .slice A6 (rd_T35 l0 i).f5.length c6] 35)) ∧ (wr.alloc (.cells #[.string (rd_T35 l0 i).f0, .int .i64 (rd_T35 l0 i).f1, .int .i64 (rd_T35 l0 i).f2, .int .i64 (rd_T35 l0 i).f3, .int .i64 (rd_T35 l0 i).f4, .slice A6 (rd_T35 l0 i).f5.length c6] 35)).heap[gb0]? = some (.cells #[.string t, .int .i64 p, .int .i64 st, .int .i64 nx, .int .i64 fr, .slice A5 bl.length c5] 35 (0, 0)) ∧ (wr.alloc (.cells #[.string (rd_T35 l0 i).f0, .int .i64 (rd_T35 l0 i).f1, .int .i64 (rd_T35 l0 i).f2, .int .i64 (rd_T35 l0 i).f3, .int .i64 (rd_T35 l0 i).f4, .slice A6 (rd_T35 l0 i).f5.length c6] 35)).heap[wr.heap.size]? = some (.cells #[.string (rd_T35 l0 i).f0, .int .i64 (rd_T35 l0 i).f1, .int .i64 (rd_T35 l0 i).f2, .int .i64 (rd_T35 l0 i).f3, .int .i64 (rd_T35 l0 i).f4, .slice A6 (rd_T35 l0 i).f5.length c6] 35 (0, 0)) from ⟨HS.out.1.below (bel1 wr _), HS.out.2.1.below (bel1 wr _), below_step HS.out.2.2.2.1 (bel1 wr _), blk_below HS.out.2.2.2.2 (bel1 wr _), heap_alloc_new wr _⟩)
        have HREL := Aside0.mk HS.out.2.2.1
        have HGS := Aside0.mk (show ga ≠ wr.heap.size ∧ gb ≠ wr.heap.size from ⟨by obtain ⟨_, h_⟩ := HS.out.1.cells; have := blk_lt h_; omega, by obtain ⟨_, h_⟩ := HS.out.2.1.cells; have := blk_lt h_; omega⟩)
        have HGB := Aside0.mk (show ga ≠ gb0 ∧ gb ≠ gb0 from ⟨fun e_ => by obtain ⟨_, h_⟩ := HS.out.1.cells; rw [e_, HS.out.2.2.2.2] at h_; injection h_ with h_; injection h_ with _ h_ _; exact absurd h_ (by decide), fun e_ => by obtain ⟨_, h_⟩ := HS.out.2.1.cells; rw [e_, HS.out.2.2.2.2] at h_; injection h_ with h_; injection h_ with _ h_ _; exact absurd h_ (by decide)⟩)
        clear x0 x1 x2 x3 x4 x5 HS
        generalize wr.alloc (.cells #[.string (rd_T35 l0 i).f0, .int .i64 (rd_T35 l0 i).f1, .int .i64 (rd_T35 l0 i).f2, .int .i64 (rd_T35 l0 i).f3, .int .i64 (rd_T35 l0 i).f4, .slice A6 (rd_T35 l0 i).f5.length c6] 35) = w4 at K1 ⊢
        obtain ⟨gs, hgs⟩ : ∃ gs, gs = wr.heap.size := ⟨_, rfl⟩
        rw [← hgs] at K1 HGS ⊢
        clear hgs
        have s0 := (blk_cell K1.out.2.2.2.2 0).trans rfl
        have s1 := (blk_cell K1.out.2.2.2.2 1).trans rfl
        have s2 := (blk_cell K1.out.2.2.2.2 2).trans rfl
        have s3 := (blk_cell K1.out.2.2.2.2 3).trans rfl
        have s4 := (blk_cell K1.out.2.2.2.2 4).trans rfl
        have s5 := (blk_cell K1.out.2.2.2.2 5).trans rfl
        go_wp2_with fail
        refine (check_Log_Saw.calls ga E R S (rd_T35 l0 i).f0 (rd_T35 l0 i).f1 (rd_T35 l0 i).f2 (rd_T35 l0 i).f3 (rd_T35 l0 i).f4 A6 c6 (rd_T35 l0 i).f5 w4 K1.out.1 (Kd.C_below HC5.out.1 K1.out.2.2.1) HC5.out.2 (HOKi.out.1.arg _ (Nat.le_trans HOKi.out.1.1 (by decide)))).mono ?_
        rintro e w5 ⟨rfl, hl5, hg5⟩
        obtain ⟨csa, hca⟩ := K1.out.1.cells
        have K2 := Aside0.mk (show LogP w5 ga _ _ _ ∧ LogP w5 gb E R S ∧ Below w.heap.size w w5 ∧ w5.heap[gb0]? = some (.cells #[.string t, .int .i64 p, .int .i64 st, .int .i64 nx, .int .i64 fr, .slice A5 bl.length c5] 35 (0, 0)) ∧ w5.heap[gs]? = some (.cells #[.string (rd_T35 l0 i).f0, .int .i64 (rd_T35 l0 i).f1, .int .i64 (rd_T35 l0 i).f2, .int .i64 (rd_T35 l0 i).f3, .int .i64 (rd_T35 l0 i).f4, .slice A6 (rd_T35 l0 i).f5.length c6] 35 (0, 0)) from ⟨hl5, K1.out.2.1.other hca GA.out.2.2 hg5, chg_old K1.out.2.2.1 GA.out.1 hg5, (hg5.block gb0 (blk_lt K1.out.2.2.2.1) (fun e_ => HGB.out.1 (Option.some.inj e_).symm)).trans K1.out.2.2.2.1, (hg5.block gs (blk_lt K1.out.2.2.2.2) (fun e_ => HGS.out.1 (Option.some.inj e_).symm)).trans K1.out.2.2.2.2⟩)
        clear hl5 hg5 hca K1
        clear s0 s1 s2 s3 s4 s5
        have s0 := (blk_cell K2.out.2.2.2.2 0).trans rfl
        have s1 := (blk_cell K2.out.2.2.2.2 1).trans rfl
        have s2 := (blk_cell K2.out.2.2.2.2 2).trans rfl
        have s3 := (blk_cell K2.out.2.2.2.2 3).trans rfl
        have s4 := (blk_cell K2.out.2.2.2.2 4).trans rfl
        have s5 := (blk_cell K2.out.2.2.2.2 5).trans rfl
        go_wp2_with fail
        refine (check_Log_Saw.calls gb E R S (rd_T35 l0 i).f0 (rd_T35 l0 i).f1 (rd_T35 l0 i).f2 (rd_T35 l0 i).f3 (rd_T35 l0 i).f4 A6 c6 (rd_T35 l0 i).f5 w5 K2.out.2.1 (Kd.C_below HC5.out.1 K2.out.2.2.1) HC5.out.2 (HOKi.out.1.arg _ (Nat.le_trans HOKi.out.1.1 (by decide)))).mono ?_
        rintro e w6 ⟨rfl, hl5, hg5⟩
        obtain ⟨csa, hca⟩ := K2.out.2.1.cells
        have K3 := Aside0.mk (show LogP w6 ga _ _ _ ∧ LogP w6 gb _ _ _ ∧ Below w.heap.size w w6 ∧ w6.heap[gb0]? = some (.cells #[.string t, .int .i64 p, .int .i64 st, .int .i64 nx, .int .i64 fr, .slice A5 bl.length c5] 35 (0, 0)) from ⟨K2.out.1.other hca GA.out.2.2.symm hg5, hl5, chg_old K2.out.2.2.1 GA.out.2.1 hg5, (hg5.block gb0 (blk_lt K2.out.2.2.2.1) (fun e_ => HGB.out.2 (Option.some.inj e_).symm)).trans K2.out.2.2.2.1⟩)
        clear hl5 hg5 hca K2
        clear s0 s1 s2 s3 s4 s5
        have hsim := HREL.out.saw (rd_T35 l0 i).f0 (rd_T35 l0 i).f1 (rd_T35 l0 i).f2 (rd_T35 l0 i).f3 (rd_T35 l0 i).f4 (rd_T35 l0 i).f5 (fun b hb => (HOKi.out.2.1 b hb).bnd)
        have HREL2 := Aside0.mk (show Simx _ _ _ (refL (l0.take (i + 1).toNat) ([], [], [])) from by rw [HSN.out]; exact hsim.2)
        clear hsim HREL HSN
        generalize (sawF (rd_T35 l0 i).f0 (rd_T35 l0 i).f1 (rd_T35 l0 i).f2 (rd_T35 l0 i).f3 (rd_T35 l0 i).f4 (rd_T35 l0 i).f5 E R S).1 = qa at ⊢
        generalize (sawF (rd_T35 l0 i).f0 (rd_T35 l0 i).f1 (rd_T35 l0 i).f2 (rd_T35 l0 i).f3 (rd_T35 l0 i).f4 (rd_T35 l0 i).f5 E R S).2.1 = E1 at K3 HREL2 ⊢
        generalize (sawF (rd_T35 l0 i).f0 (rd_T35 l0 i).f1 (rd_T35 l0 i).f2 (rd_T35 l0 i).f3 (rd_T35 l0 i).f4 (rd_T35 l0 i).f5 E R S).2.2.1 = R1 at K3 HREL2 ⊢
        generalize (sawF (rd_T35 l0 i).f0 (rd_T35 l0 i).f1 (rd_T35 l0 i).f2 (rd_T35 l0 i).f3 (rd_T35 l0 i).f4 (rd_T35 l0 i).f5 E R S).2.2.2 = S1 at K3 HREL2 ⊢
        have f1 : (qa != qa) = false := by simp
        have e1 : IntKind.i64.wrap (i + 1) = i + 1 := (i64_w _).trans (by have := HI.out; have := HL.out; unfold wrap64; omega)
        go_wp2_with fail
        obtain ⟨pl, hpl⟩ : ∃ x, x = l0.take (i + 1).toNat := ⟨_, rfl⟩
        rw [← hpl] at HREL2
        have hpn : pl.length = (i + 1).toNat := by rw [hpl, List.length_take]; have := HI.out; have := HI2.out; omega
        have HPL := Aside0.mk (show Kd.C k35 w (some ad) pl.length pl ∧ pl.length ≤ c0 ∧ (∀ s ∈ pl, StOk s) ∧ tot (pl ++ [(⟨t, p, st, nx, fr, bl⟩ : S35)]) ≤ 400 from ⟨by rw [hpl]; exact Kd.C_take HR.out.1 (by have := HI.out; have := HI2.out; omega), by have := HR.out.2; have := HI2.out; omega, fun s hs => HOK.out.1 s (List.mem_of_mem_take (hpl ▸ hs)), by have h_ := HG.out.2; rw [tot_append] at h_ ⊢; have := tot_take l0 (i + 1).toNat; rw [← hpl] at this; omega⟩)
        have hcut : ∀ W : World, (Instr.slice 22 (.slice (some ad) l0.length c0) none (some (.int .i64 (i + 1))) none).run Try.prog W = .ok (.slice (some ad) pl.length c0) W := by
          rw [hpn]
          obtain ⟨i0_, hi0_, _⟩ := Option.map_eq_some_iff.1 info_step
          exact cut_to 22 35 .i64 Try.underlying22 hi0_ (some ad) l0.length c0 (i + 1) (by have := HI.out; omega) (by have := HI2.out; omega) HR.out.2
        have HPE := Aside0.mk hpl
        clear hpl hpn
        refine start_ (n := 7) (S := fun w' => w'.heap[gb0]? = some (.cells #[.string t, .int .i64 p, .int .i64 st, .int .i64 nx, .int .i64 fr, .slice A5 bl.length c5] 35 (0, 0))) (ds := []) #[false, false, false, false, false, false, false] (by kernel_rfl) rfl rfl (blk_below K3.out.2.2.2 (below_drew1 (Below.refl _ _))) (fun hHeld => ?_)
        have K4 := Aside0.mk (show LogP w6.drew ga E1 R1 S1 ∧ LogP w6.drew gb E1 R1 S1 ∧ Below w.heap.size w w6.drew from ⟨K3.out.1.below (below_drew1 (Below.refl _ _)), K3.out.2.1.below (below_drew1 (Below.refl _ _)), below_drew1 K3.out.2.2.1⟩)
        clear K3
        generalize w6.drew = w7 at K4 hHeld ⊢
        refine pure_ (i := 0) (N := (some 64)) (v := ?_) (a' := ?_) #[true, false, false, false, false, false, false] rfl rfl (by kernel_rfl) (fun _ _ _ h => h) (Or.inl ⟨by rfl, ?_⟩) ?_ ?_
        rotate_left
        · intro w'
          go_simp
          with_reducible rfl
        rotate_left
        · simp only [Act.put, List.setIfInBounds_toArray, List.set_cons_zero, List.set_cons_succ, i64_w, i32_w]
          rfl
        refine pure_ (i := 1) (N := (some 65)) (v := ?_) (a' := ?_) #[true, true, false, false, false, false, false] rfl rfl (by kernel_rfl) (fun _ _ _ h => h) (Or.inl ⟨by rfl, ?_⟩) ?_ ?_
        rotate_left
        · intro w'
          go_simp
          with_reducible rfl
        rotate_left
        · simp only [Act.put, List.setIfInBounds_toArray, List.set_cons_zero, List.set_cons_succ, i64_w, i32_w]
          rfl
        refine pure_ (i := 2) (N := (some 66)) (v := ?_) (a' := ?_) #[true, true, true, false, false, false, false] rfl rfl (by kernel_rfl) (fun _ _ _ h => h) (Or.inl ⟨by rfl, ?_⟩) ?_ ?_
        rotate_left
        · intro w'
          go_simp
          with_reducible rfl
        rotate_left
        · simp only [Act.put, List.setIfInBounds_toArray, List.set_cons_zero, List.set_cons_succ, i64_w, i32_w]
          rfl
        refine pure_ (i := 3) (N := (some 67)) (v := ?_) (a' := ?_) #[true, true, true, true, false, false, false] rfl rfl (by kernel_rfl) (fun _ _ _ h => h) (Or.inl ⟨by rfl, ?_⟩) ?_ ?_
        rotate_left
        · intro w'
          go_simp
          with_reducible rfl
        rotate_left
        · simp only [Act.put, List.setIfInBounds_toArray, List.set_cons_zero, List.set_cons_succ, i64_w, i32_w]
          rfl
        refine take_ (i := 4) (N := (some 68)) (v := ?_) (a' := ?_) #[true, true, true, true, true, false, false] rfl rfl (by kernel_rfl) (fun _ _ _ h => h) (Or.inl ⟨by rfl, ?_⟩) hHeld ?_ ?_
        rotate_left
        · rintro w' s_
          have c_0 := (blk_cell s_ 0).trans rfl
          have c_1 := (blk_cell s_ 1).trans rfl
          have c_2 := (blk_cell s_ 2).trans rfl
          have c_3 := (blk_cell s_ 3).trans rfl
          have c_4 := (blk_cell s_ 4).trans rfl
          have c_5 := (blk_cell s_ 5).trans rfl
          clear s_
          go_simp
          with_reducible rfl
        rotate_left
        · simp only [Act.put, List.setIfInBounds_toArray, List.set_cons_zero, List.set_cons_succ, i64_w, i32_w]
          rfl
        refine one_ (i := 5) (N := (some 69)) #[true, true, true, true, true, true, false] rfl rfl (by kernel_rfl) (by decide) (fun K hK => ?_)
        refine goes_ Try.func23 (by kernel_rfl) rfl #[.slice (some ad) pl.length c0, .agg #[.string t, .int .i64 p, .int .i64 st, .int .i64 nx, .int .i64 fr, .slice A5 bl.length c5]] (by rfl) rfl rfl (by (try simp only [List.map_toArray, List.map_cons, List.map_nil]); first | done | rfl) ?_
        refine (bollardlaw24_again.calls (some ad) c0 pl t p st nx fr A5 c5 bl w7 (Kd.C_below HPL.out.1 K4.out.2.2) HPL.out.2.1 (Kd.C_below HR5.out.1 K4.out.2.2) HR5.out.2 HPL.out.2.2.1 (HOK.out.2.arg _ (Nat.le_trans HOK.out.2.1 (by decide))) HPL.out.2.2.2).mono ?_
        rintro e w8 ⟨rfl, hb⟩
        refine ⟨_, rfl, ?_⟩
        have K5 := Aside0.mk (show LogP w8 ga E1 R1 S1 ∧ LogP w8 gb E1 R1 S1 ∧ Below w.heap.size w w8 ∧ w8.heap[gb0]? = some (.cells #[.string t, .int .i64 p, .int .i64 st, .int .i64 nx, .int .i64 fr, .slice A5 bl.length c5] 35 (0, 0)) from ⟨K4.out.1.below hb, K4.out.2.1.below hb, below_step K4.out.2.2 hb, blk_below hHeld hb⟩)
        clear K4 hHeld hb
        refine hK.out _ _ K5.out.2.2.2 (fun hHeld => ?_)
        clear hK K
        refine norm_ (a' := ?_) ?_ ?_
        rotate_left
        · show Act.put _ (some 69) _ = _
          simp only [Act.put, List.setIfInBounds_toArray, List.set_cons_zero, List.set_cons_succ, i64_w, i32_w]
          rfl
        refine pure_ (i := 6) (N := (some 11)) (v := ?_) (a' := ?_) #[true, true, true, true, true, true, true] rfl rfl (by kernel_rfl) (fun _ _ _ h => h) (Or.inl ⟨by rfl, ?_⟩) ?_ ?_
        rotate_left
        · intro w'
          go_simp
          with_reducible rfl
        rotate_left
        · simp only [Act.put, List.setIfInBounds_toArray, List.set_cons_zero, List.set_cons_succ, i64_w, i32_w]
          rfl
        refine done_ (by kernel_rfl) ?_
        clear hHeld
        have hsim := HREL2.out.saw t p st nx fr bl (fun b hb => ((HG.out.1 (⟨t, p, st, nx, fr, bl⟩ : S35) (List.mem_append_right _ (List.mem_singleton.2 rfl))).1 b hb).bnd)
        obtain ⟨wt, hwt⟩ : ∃ x, x = (refF t p st nx fr bl (refL pl ([], [], [])).1 (refL pl ([], [], [])).2.1 (refL pl ([], [], [])).2.2).1 := ⟨_, rfl⟩
        have HWT := Aside0.mk (hsim.1.trans hwt.symm)
        rw [← hwt]
        clear hwt hsim
        by_cases hz : wt = 0
        case pos =>
          subst hz
          go_wp2_with fail
          refine (bollardlaw24_awake.calls _).mono ?_
          rintro e w5 ⟨rfl, hb⟩
          have B5 := Aside0.mk (below_step K5.out.2.2.1 hb)
          clear hb
          go_wp2_with fail
          go_ret
          exact ⟨rfl, B5.out⟩
        case neg =>
          have f2 : (wt == 0) = false := beq_eq_false_iff_ne.mpr hz
          have HSA := Aside0.mk (sawF_same (by rw [HWT.out]; exact hz) : (sawF t p st nx fr bl E1 R1 S1).2 = (E1, R1, S1))
          clear hz
          have s0 := (blk_cell K5.out.2.2.2 0).trans rfl
          have s1 := (blk_cell K5.out.2.2.2 1).trans rfl
          have s2 := (blk_cell K5.out.2.2.2 2).trans rfl
          have s3 := (blk_cell K5.out.2.2.2 3).trans rfl
          have s4 := (blk_cell K5.out.2.2.2 4).trans rfl
          have s5 := (blk_cell K5.out.2.2.2 5).trans rfl
          go_wp2_with fail
          refine (check_Log_Saw.calls ga E1 R1 S1 t p st nx fr A5 c5 bl w8 K5.out.1 (Kd.C_below HR5.out.1 K5.out.2.2.1) HR5.out.2 (HOK.out.2.arg _ (Nat.le_trans HOK.out.2.1 (by decide)))).mono ?_
          rintro e w10 ⟨rfl, hl5, hg5⟩
          obtain ⟨csa, hca⟩ := K5.out.1.cells
          rw [HSA.out] at hl5
          have K6 := Aside0.mk (show LogP w10 ga E1 R1 S1 ∧ LogP w10 gb E1 R1 S1 ∧ Below w.heap.size w w10 ∧ w10.heap[gb0]? = some (.cells #[.string t, .int .i64 p, .int .i64 st, .int .i64 nx, .int .i64 fr, .slice A5 bl.length c5] 35 (0, 0)) from ⟨hl5, K5.out.2.1.other hca GA.out.2.2 hg5, chg_old K5.out.2.2.1 GA.out.1 hg5, (hg5.block gb0 (blk_lt K5.out.2.2.2) (fun e_ => HGB.out.1 (Option.some.inj e_).symm)).trans K5.out.2.2.2⟩)
          clear K5 hl5 hg5 hca s0 s1 s2 s3 s4 s5
          rw [HWT.out]
          have f3 : (wt != wt) = false := by simp
          go_wp2_with fail
          go_roundg (l0.length + 1 - (i + 1).toNat)
          case measure => have := HI.out; have := HI2.out; omega
          case rel => exact ⟨i + 1, _, _, _, by first | rfl | rw [e1], ⟨by have := HI.out; have := HI2.out; omega, by have := HI.out; omega, by have := HI2.out; omega⟩, ⟨K6.out.1, K6.out.2.1, by rw [← HPE.out]; exact HREL2.out, K6.out.2.2.1, K6.out.2.2.2⟩⟩

end Go.Proofs.Ytdlkofmcioalfaa.PCk

/- CheckAfter: what its law's f says; the walk stands in ChAF. -/
namespace Go.Proofs.Ytdlkofmcioalfaa.Pure
open Go Go.RowKit Go.Proofs.Ytdlkofmcioalfaa.PCk
theorem CheckAfter : bollardlaw24_CheckAfter.Pure := by
  intro l t p st nx fr bl h0 h1 h2 h3 h4 h5 h6 hb
  exact ⟨0, if_pos ⟨h0, h1, h2, h3, h4, h5, h6, hb⟩⟩
end Go.Proofs.Ytdlkofmcioalfaa.Pure
