-- written by a program of this session (wip/tools/pr.py, over the kit's printer): not by hand
import Derived.Test.YtgicdiblfcnelaaPFrx0
namespace Go.Proofs.Ytgicdiblfcnelaa.PFr
open Go.RowKit Go.Proofs.YtgicdiblfcnelaaW.PrintWords Go.Proofs.YtgicdiblfcnelaaW.PrintLast Go.Proofs.YtgicdiblfcnelaaW.PrintMore
attribute [local go_sem] max2_int min2_int max_two min_two max_three min_three max_four min_four   -- for this text's walks alone
set_option linter.unusedVariables false
set_option linter.unusedSimpArgs false

/-! ### frame: the feeder's cells; New, length, Waiting -/
/-- A feeder's cells. -/
def FdAt (W : World) (g : Nat) (h0 h1 h2 h3 rd : Int) (v : Value) (bad : Bool) : Prop := W.heap[g]? = some (.cells #[.int .u8 h0, .int .u8 h1, .int .u8 h2, .int .u8 h3, .int .i64 rd, v, .bool bad] 37 (0, 0))
section
variable {W : World} {g : Nat} {h0 h1 h2 h3 rd : Int} {v : Value} {bad : Bool}
theorem FdAt.c0 (h : FdAt W g h0 h1 h2 h3 rd v bad) : W.cell? ⟨g, 0, none⟩ = some (.int .u8 h0) := (blk_cell h 0).trans rfl
theorem FdAt.c1 (h : FdAt W g h0 h1 h2 h3 rd v bad) : W.cell? ⟨g, 1, none⟩ = some (.int .u8 h1) := (blk_cell h 1).trans rfl
theorem FdAt.c2 (h : FdAt W g h0 h1 h2 h3 rd v bad) : W.cell? ⟨g, 2, none⟩ = some (.int .u8 h2) := (blk_cell h 2).trans rfl
theorem FdAt.c3 (h : FdAt W g h0 h1 h2 h3 rd v bad) : W.cell? ⟨g, 3, none⟩ = some (.int .u8 h3) := (blk_cell h 3).trans rfl
theorem FdAt.c4 (h : FdAt W g h0 h1 h2 h3 rd v bad) : W.cell? ⟨g, 4, none⟩ = some (.int .i64 rd) := (blk_cell h 4).trans rfl
theorem FdAt.c5 (h : FdAt W g h0 h1 h2 h3 rd v bad) : W.cell? ⟨g, 5, none⟩ = some v := (blk_cell h 5).trans rfl
theorem FdAt.c6 (h : FdAt W g h0 h1 h2 h3 rd v bad) : W.cell? ⟨g, 6, none⟩ = some (.bool bad) := (blk_cell h 6).trans rfl
theorem FdAt.drewN (h : FdAt W g h0 h1 h2 h3 rd v bad) (m : Nat) : FdAt (W.drewN m) g h0 h1 h2 h3 rd v bad := h
theorem FdAt.keep {W1 : World} (h : FdAt W g h0 h1 h2 h3 rd v bad) (hk : W1.heap[g]? = W.heap[g]?) : FdAt W1 g h0 h1 h2 h3 rd v bad := hk.trans h
theorem FdAt.set0 (h : FdAt W g h0 h1 h2 h3 rd v bad) (x : Int) : FdAt (W.setCell ⟨g, 0, none⟩ (.int .u8 x)) g x h1 h2 h3 rd v bad := by simpa [FdAt] using blk_set h 0 (.int .u8 x)
theorem FdAt.set1 (h : FdAt W g h0 h1 h2 h3 rd v bad) (x : Int) : FdAt (W.setCell ⟨g, 1, none⟩ (.int .u8 x)) g h0 x h2 h3 rd v bad := by simpa [FdAt] using blk_set h 1 (.int .u8 x)
theorem FdAt.set2 (h : FdAt W g h0 h1 h2 h3 rd v bad) (x : Int) : FdAt (W.setCell ⟨g, 2, none⟩ (.int .u8 x)) g h0 h1 x h3 rd v bad := by simpa [FdAt] using blk_set h 2 (.int .u8 x)
theorem FdAt.set3 (h : FdAt W g h0 h1 h2 h3 rd v bad) (x : Int) : FdAt (W.setCell ⟨g, 3, none⟩ (.int .u8 x)) g h0 h1 h2 x rd v bad := by simpa [FdAt] using blk_set h 3 (.int .u8 x)
theorem FdAt.set4 (h : FdAt W g h0 h1 h2 h3 rd v bad) (x : Int) : FdAt (W.setCell ⟨g, 4, none⟩ (.int .i64 x)) g h0 h1 h2 h3 x v bad := by simpa [FdAt] using blk_set h 4 (.int .i64 x)
theorem FdAt.set5 (h : FdAt W g h0 h1 h2 h3 rd v bad) (x : Value) : FdAt (W.setCell ⟨g, 5, none⟩ x) g h0 h1 h2 h3 rd x bad := by simpa [FdAt] using blk_set h 5 x
theorem FdAt.set6 (h : FdAt W g h0 h1 h2 h3 rd v bad) (x : Bool) : FdAt (W.setCell ⟨g, 6, none⟩ (.bool x)) g h0 h1 h2 h3 rd v x := by simpa [FdAt] using blk_set h 6 (.bool x)
end

set_option maxHeartbeats 1000000 in
set_option maxRecDepth 100000 in
theorem frame_New.calls (w : World) : Calls Try.prog 11 #[] w fun e w' => e = .returned (.pointer (some ⟨w.heap.size, 0, none⟩)) ∧ FdAt w' w.heap.size 0 0 0 0 0 (.slice none 0 0) false ∧ Below w.heap.size w w' := by
  go_enter Try.func11, Try.ntmps11
  go_wp2
  go_ret
  exact ⟨rfl, heap_alloc_new w _, below_alloc (Below.refl _ _) _⟩

set_option maxHeartbeats 1000000 in
set_option maxRecDepth 100000 in
theorem frame_Waiting.calls (g : Nat) (h0 h1 h2 h3 rd : Int) (A : Option Addr) (n c : Nat) (bad : Bool) (w : World) (h : FdAt w g h0 h1 h2 h3 rd (.slice A n c) bad) (hr : 0 ≤ rd ∧ rd ≤ 4) (hn : n ≤ 1000000000) :
    Calls Try.prog 15 #[.pointer (some ⟨g, 0, none⟩)] w fun e w' => e = .returned (.int .i64 (rd + (n : Int))) ∧ ∃ m, w' = w.drewN m := by
  have q4 := h.c4
  have q5 := h.c5
  have ew : IntKind.i64.wrap (rd + (n : Int)) = rd + (n : Int) := (i64_w _).trans (by unfold wrap64; omega)
  clear h hr hn
  go_enter Try.func15, Try.ntmps15
  go_wp2
  go_quiet (fail)
  go_wp2
  go_ret
  exact ⟨rfl, _, rfl⟩

/-- The length as the code comes to it. -/
def lenV (h0 h1 h2 h3 : Int) : Int := Go.bits .or .i64 (wrap64 (Go.bits .or .i64 (wrap64 (Go.bits .or .i64 (wrap64 (Go.bits .or .i64 0 (wrap64 h0) * 256)) (wrap64 h1) * 256)) (wrap64 h2) * 256)) (wrap64 h3)
set_option maxHeartbeats 1000000 in
set_option maxRecDepth 100000 in
theorem frame_length.calls (g : Nat) (h0 h1 h2 h3 rd : Int) (v : Value) (bad : Bool) (w : World) (h : FdAt w g h0 h1 h2 h3 rd v bad) :
    Calls Try.prog 19 #[.pointer (some ⟨g, 0, none⟩)] w fun e w' => e = .returned (.int .i64 (lenV h0 h1 h2 h3)) ∧ w' = w := by
  have q0 := h.c0
  have q1 := h.c1
  have q2 := h.c2
  have q3 := h.c3
  clear h
  have x0 : ∀ w : World, (Instr.index 35 (.agg #[.int .u8 h0, .int .u8 h1, .int .u8 h2, .int .u8 h3]) (.int .i64 0)).run Try.prog w = .ok (.int .u8 h0) w := fun _ => by kernel_rfl
  have x1 : ∀ w : World, (Instr.index 35 (.agg #[.int .u8 h0, .int .u8 h1, .int .u8 h2, .int .u8 h3]) (.int .i64 1)).run Try.prog w = .ok (.int .u8 h1) w := fun _ => by kernel_rfl
  have x2 : ∀ w : World, (Instr.index 35 (.agg #[.int .u8 h0, .int .u8 h1, .int .u8 h2, .int .u8 h3]) (.int .i64 2)).run Try.prog w = .ok (.int .u8 h2) w := fun _ => by kernel_rfl
  have x3 : ∀ w : World, (Instr.index 35 (.agg #[.int .u8 h0, .int .u8 h1, .int .u8 h2, .int .u8 h3]) (.int .i64 3)).run Try.prog w = .ok (.int .u8 h3) w := fun _ => by kernel_rfl
  go_enter Try.func19, Try.ntmps19
  go_wp2
  refine wp_loop_rounds 5 ?_
  rw [rounds_succ]
  go_wp2
  rw [rounds_succ]
  go_wp2
  rw [rounds_succ]
  go_wp2
  rw [rounds_succ]
  go_wp2
  rw [rounds_succ]
  go_wp2
  go_ret
  exact ⟨rfl, rfl⟩
/-! ### frame: Feed -/
def lenP (P : List Int) : Int := lenV (P.getD 0 0) (P.getD 1 0) (P.getD 2 0) (P.getD 3 0)
/-- What is told of bytes that come behind those that wait: the frames, what waits then, is it over? -/
def feedL : List Int → List Int → List (List Int) × List Int × Bool
  | P, [] => ([], P, false)
  | P, x :: l => if (P ++ [x]).length = 4 ∧ 8192 < lenP (P ++ [x]) then ([], [], true)
    else if 4 ≤ (P ++ [x]).length ∧ (((P ++ [x]).length - 4 : Nat) : Int) = lenP (P ++ [x]) then ((P ++ [x]).drop 4 :: (feedL [] l).1, (feedL [] l).2)
    else feedL (P ++ [x]) l
abbrev kRow : Kd (List Int) := Kd.slice 5 (Kd.int .u8)
theorem frame_apart {W : World} {base : Nat} {ok ok' : Nat → Prop} {v vo : Value} {xs : List Int} {os : List (List Int)} (h : Kd.R (Kd.int .u8) 5 W base ok v xs) (ho : kRow.R 23 W base ok' vo os) : Kd.R (Kd.int .u8) 5 W base (fun k => ok k ∧ some k ≠ vo.ownBlock) v xs := by
  refine Kd.R_mono (Kd.R_bound h) (fun k hk => ⟨hk.1, fun e => ?_⟩)
  obtain ⟨inner, hown⟩ := Kd.R_own ho
  obtain ⟨cells, hc⟩ := own_typed hown k e.symm
  obtain ⟨_, _, _, q, hq, cells', hc'⟩ := hk
  rw [hc] at hc'
  injection hc' with hc'
  injection hc' with _ hc'
  simp [Kd.int, Kd.scalar] at hq
  subst hq
  exact absurd hc' (by decide)
/-- What holds of a feeder that is not over. -/
def FdS (W : World) (g base : Nat) (P : List Int) (v : Value) : Prop := FdAt W g (P.getD 0 0) (P.getD 1 0) (P.getD 2 0) (P.getD 3 0) ((min P.length 4 : Nat) : Int) v false ∧ Kd.R (Kd.int .u8) 5 W base (fun _ => True) v (P.drop 4)
/-- What Feed leaves. -/
def FeedPost (g base : Nat) (v : Value) (w : World) (oF : List (List Int)) (PF : List Int) (bF : Bool) (e : Ending) (w' : World) : Prop := ∃ vo v', e = .returned (.tuple #[vo, .bool (!bF)]) ∧
  kRow.R 23 w' base (fun k => (some k = v.ownBlock ∨ w.heap.size ≤ k) ∧ some k ≠ v'.ownBlock) vo oF ∧ (if bF = true then FdAt w' g 0 0 0 0 0 v' true ∧ v' = .slice none 0 0 else FdS w' g base PF v') ∧ (v'.ownBlock = v.ownBlock ∨ v'.ownBlock = none ∨ ∃ b, v'.ownBlock = some b ∧ w.heap.size ≤ b) ∧ Below base w w' ∧ KeepBut w w' g v.ownBlock
theorem keep_grown {w W w1 : World} {g : Nat} {row r1 : Option Nat} (h : KeepBut w W g row) (hg : W.grownBy w1 r1) (hr : r1 = row ∨ r1 = none ∨ ∃ b, r1 = some b ∧ w.heap.size ≤ b) : KeepBut w w1 g row := by
  refine ⟨Nat.le_trans h.1 hg.size, fun i hi h1 h2 => (hg.block i (Nat.lt_of_lt_of_le hi h.1) (fun e => ?_)).trans (h.2 i hi h1 h2)⟩
  rcases hr with rfl | rfl | ⟨b, rfl, hb⟩
  · exact h2 e
  · cases e
  · injection e with e
    omega
theorem own_only {k : IntKind} {e : Nat} {W : World} {base : Nat} {ok : Nat → Prop} {v : Value} {xs : List Int} (h : Kd.R (Kd.int k) e W base ok v xs) : Kd.R (Kd.int k) e W base (fun q => v.ownBlock = some q) v xs := ⟨fun _ hk => hk, h.2⟩
theorem info_sb : (Try.prog.info? 23).map (fun i => (i.zero, i.size, i.bytes)) = some (some (.slice none 0 0), 1, 24) := by kernel_rfl
theorem info_u8 : (Try.prog.info? 5).map (fun i => (i.zero, i.size, i.bytes)) = some (some (.int .u8 0), 1, 1) := by kernel_rfl
theorem frame_drop {l : List Int} {i : Int} (h0 : 0 ≤ i) (h : i < (l.length : Int)) : l.drop i.toNat = rd l i :: l.drop (i + 1).toNat := by
  have e : (i + 1).toNat = i.toNat + 1 := by omega
  have hl : i.toNat < l.length := by omega
  rw [List.drop_eq_getElem_cons hl, e]
  congr 1
  unfold rd
  rw [List.getD_eq_getElem?_getD, List.getElem?_eq_getElem hl]
  rfl
theorem feed_more {P l : List Int} {x : Int} (h1 : ¬ ((P ++ [x]).length = 4 ∧ 8192 < lenP (P ++ [x]))) (h2 : ¬ (4 ≤ (P ++ [x]).length ∧ (((P ++ [x]).length - 4 : Nat) : Int) = lenP (P ++ [x]))) : feedL P (x :: l) = feedL (P ++ [x]) l := by rw [feedL, if_neg h1, if_neg h2]
theorem feed_bad {P l : List Int} {x : Int} (h1 : (P ++ [x]).length = 4 ∧ 8192 < lenP (P ++ [x])) : feedL P (x :: l) = ([], [], true) := by rw [feedL, if_pos h1]
theorem feed_told {P l : List Int} {x : Int} (h1 : ¬ ((P ++ [x]).length = 4 ∧ 8192 < lenP (P ++ [x]))) (h2 : 4 ≤ (P ++ [x]).length ∧ (((P ++ [x]).length - 4 : Nat) : Int) = lenP (P ++ [x])) : feedL P (x :: l) = ((P ++ [x]).drop 4 :: (feedL [] l).1, (feedL [] l).2) := by rw [feedL, if_neg h1, if_pos h2]
set_option maxHeartbeats 4000000 in
set_option maxRecDepth 100000 in
theorem feed_live (g base : Nat) (P : List Int) (v : Value) (A : Option Addr) (c : Nat) (l : List Int) (w : World) (oF : List (List Int)) (PF : List Int) (bF : Bool) (hg : base ≤ g) (hw : base ≤ w.heap.size)
    (hF : FdS w g base P v) (hr : ∀ W, KeepBut w W g v.ownBlock → Kd.C (Kd.int .u8) W A l.length l) (hc : l.length ≤ c) (hP : P.length + l.length ≤ 1000000000) (hf : feedL P l = (oF, PF, bF)) :
    Calls Try.prog 12 #[.pointer (some ⟨g, 0, none⟩), .slice A l.length c] w (FeedPost g base v w oF PF bF) := by
  have HR := Aside0.mk hr
  have HF := Aside0.mk hF
  have HP := Aside0.mk hP
  have Hf := Aside0.mk hf
  have HG := Aside0.mk hg
  have HW := Aside0.mk hw
  have HC := Aside0.mk hc
  have q6 := hF.1.c6
  clear hr hF hP hf hg hw hc
  go_enter Try.func12, Try.ntmps12
  go_wp2
  go_loopg [4, 18] (l.length + 1) (fun kq v4 v18 w' => ∃ (i : Int) (os : List (List Int)) (Q : List Int) (u : Value), v18 = .int .i64 i ∧ Aside0 (kq + i.toNat = l.length + 1 ∧ 0 ≤ i ∧ i ≤ (l.length : Int) ∧ Q.length ≤ P.length + i.toNat ∧ os.length ≤ i.toNat) ∧ Aside0 (FdS w' g base Q u) ∧
    Aside0 (kRow.R 23 w' base (fun k => (some k = v.ownBlock ∨ w.heap.size ≤ k) ∧ some k ≠ u.ownBlock) v4 os) ∧ Aside0 (Below base w w') ∧ Aside0 (KeepBut w w' g v.ownBlock) ∧ Aside0 (u.ownBlock = v.ownBlock ∨ u.ownBlock = none ∨ ∃ b, u.ownBlock = some b ∧ w.heap.size ≤ b) ∧
    Aside0 ((os ++ (feedL Q (l.drop i.toNat)).1, (feedL Q (l.drop i.toNat)).2.1, (feedL Q (l.drop i.toNat)).2.2) = (oF, PF, bF)))
  case atStart => exact ⟨0, [], P, v, rfl, ⟨by simp, by omega, by omega, by simp, by simp⟩, HF, ⟨Kd.R_nil _ _ _ _ _⟩, ⟨Below.refl _ _⟩, ⟨KeepBut.refl _ _ _⟩, ⟨.inl rfl⟩, ⟨by rw [show (0 : Int).toNat = 0 from rfl, List.drop_zero, Hf.out]; rfl⟩⟩
  case round =>
    obtain ⟨i, os, Q, u, rfl, HN, HQ, HO, HB, HK, HU, HE⟩ := hrel
    by_cases hi : i < (l.length : Int)
    · have hd : decide (i < (l.length : Int)) = true := decide_eq_true hi
      obtain ⟨ad, rfl, hx⟩ := Kd.at_int (HR.out wr HK.out) i HN.out.2.1 hi
      obtain ⟨x, hxe⟩ : ∃ x, x = rd l i := ⟨_, rfl⟩
      rw [← hxe] at hx
      have HX := Aside0.mk hxe
      have p1 := eq_true HN.out.2.1
      have p2 := eq_true hi
      clear hxe
      rcases Q with _ | ⟨a, Q⟩
      · skip
        have HQ1 := Aside0.mk (show FdAt wr g 0 0 0 0 0 u false from HQ.out.1)
        have HQ2 := Aside0.mk (show Kd.R (Kd.int .u8) 5 wr base (fun _ => True) u [] from HQ.out.2)
        clear HQ
        obtain ⟨Au, cu, hu⟩ : ∃ A c, u = .slice A 0 c := Kd.R_slice HQ2.out
        subst hu
        have q4 := HQ1.out.c4
        go_wp2
        refine wp_region_still_tail 9 (by kernel_rfl) (by kernel_rfl) ?_
        change wpStill _ _ (World.drew _) _ _ _
        simp only [List.take_succ_cons, List.take_zero, List.drop_succ_cons, List.drop_zero]
        repeat still_step
        try refine wpStill_nil ?_
        change wpList _ _ _ _ _ (wr.drewN 1)
        have n0_ := Aside0.mk (HQ1.out.drewN 1)
        have n1_ := Aside0.mk (Kd.R_drewN HQ2.out 1)
        have n2_ := Aside0.mk (Kd.R_drewN HO.out 1)
        have n3_ := Aside0.mk (pw_below_drewN HB.out 1)
        have n4_ := Aside0.mk (keep_drewN HK.out 1)
        clear q4 hx HQ1 HQ2 HO HB HK
        generalize (wr).drewN 1 = w1 at n0_ n1_ n2_ n3_ n4_ ⊢
        have HQ1 := n0_
        have HQ2 := n1_
        have HO := n2_
        have HB := n3_
        have HK := n4_
        clear n0_ n1_ n2_ n3_ n4_
        have q4 := HQ1.out.c4
        have q0 := HQ1.out.c0
        have z0 := blk_frozen HQ1.out 0
        have z4 := blk_frozen HQ1.out 4
        have n0_ := Aside0.mk (HQ1.out.set0 x)
        have n1_ := Aside0.mk (Kd.R_set HQ2.out HQ1.out (by decide) 0 (.int .u8 x))
        have n2_ := Aside0.mk (Kd.R_set HO.out HQ1.out (by decide) 0 (.int .u8 x))
        have n3_ := Aside0.mk (HB.out.setCell (p := ⟨g, 0, none⟩) HG.out (.int .u8 x))
        have n4_ := Aside0.mk (KeepBut.set_ HK.out 0 (.int .u8 x))
        clear HQ1 HQ2 HO HB HK
        have HQ1 := n0_
        have HQ2 := n1_
        have HO := n2_
        have HB := n3_
        have HK := n4_
        clear n0_ n1_ n2_ n3_ n4_
        have n0_ := Aside0.mk (HQ1.out.set4 1)
        have n1_ := Aside0.mk (Kd.R_set HQ2.out HQ1.out (by decide) 4 (.int .i64 1))
        have n2_ := Aside0.mk (Kd.R_set HO.out HQ1.out (by decide) 4 (.int .i64 1))
        have n3_ := Aside0.mk (HB.out.setCell (p := ⟨g, 4, none⟩) HG.out (.int .i64 1))
        have n4_ := Aside0.mk (KeepBut.set_ HK.out 4 (.int .i64 1))
        clear HQ1 HQ2 HO HB HK
        have HQ1 := n0_
        have HQ2 := n1_
        have HO := n2_
        have HB := n3_
        have HK := n4_
        clear n0_ n1_ n2_ n3_ n4_
        go_wp2_with fail
        go_quiet (fail)
        have n0_ := Aside0.mk (HQ1.out.drewN nq)
        have n1_ := Aside0.mk (Kd.R_drewN HQ2.out nq)
        have n2_ := Aside0.mk (Kd.R_drewN HO.out nq)
        have n3_ := Aside0.mk (pw_below_drewN HB.out nq)
        have n4_ := Aside0.mk (keep_drewN HK.out nq)
        clear q4 q0 z0 z4 HQ1 HQ2 HO HB HK
        generalize ((World.setCell (World.setCell w1 ⟨g, 0, none⟩ (.int .u8 x)) ⟨g, 4, none⟩ (.int .i64 1))).drewN nq = w2 at n0_ n1_ n2_ n3_ n4_ ⊢
        have HQ1 := n0_
        have HQ2 := n1_
        have HO := n2_
        have HB := n3_
        have HK := n4_
        clear n0_ n1_ n2_ n3_ n4_
        go_wp2
        have HE2 := HE.out
        rw [frame_drop HN.out.2.1 hi, ← HX.out, feed_more (P := []) (fun h => absurd h.1 (by simp)) (fun h => absurd h.1 (by simp))] at HE2
        have HE2 := Aside0.mk HE2
        have e1 : wrap64 (i + 1) = i + 1 := by have := HN.out; have := HP.out; unfold wrap64; omega
        go_roundg (gk - 1)
        case measure => have := HN.out; omega
        case rel => exact ⟨i + 1, os, [x], _, by first | rfl | (rw [e1]), ⟨by have := HN.out; omega, by have := HN.out; omega, by omega, by have := HN.out; simp only [List.length_append, List.length_cons, List.length_nil] at this ⊢; omega, by have := HN.out; (try simp only [List.length_append, List.length_cons, List.length_nil]); omega⟩, ⟨HQ1.out, HQ2.out⟩, HO, HB, HK, HU, HE2⟩
      rcases Q with _ | ⟨b, Q⟩
      · skip
        have HQ1 := Aside0.mk (show FdAt wr g a 0 0 0 1 u false from HQ.out.1)
        have HQ2 := Aside0.mk (show Kd.R (Kd.int .u8) 5 wr base (fun _ => True) u [] from HQ.out.2)
        clear HQ
        obtain ⟨Au, cu, hu⟩ : ∃ A c, u = .slice A 0 c := Kd.R_slice HQ2.out
        subst hu
        have q4 := HQ1.out.c4
        go_wp2
        refine wp_region_still_tail 9 (by kernel_rfl) (by kernel_rfl) ?_
        change wpStill _ _ (World.drew _) _ _ _
        simp only [List.take_succ_cons, List.take_zero, List.drop_succ_cons, List.drop_zero]
        repeat still_step
        try refine wpStill_nil ?_
        change wpList _ _ _ _ _ (wr.drewN 1)
        have n0_ := Aside0.mk (HQ1.out.drewN 1)
        have n1_ := Aside0.mk (Kd.R_drewN HQ2.out 1)
        have n2_ := Aside0.mk (Kd.R_drewN HO.out 1)
        have n3_ := Aside0.mk (pw_below_drewN HB.out 1)
        have n4_ := Aside0.mk (keep_drewN HK.out 1)
        clear q4 hx HQ1 HQ2 HO HB HK
        generalize (wr).drewN 1 = w1 at n0_ n1_ n2_ n3_ n4_ ⊢
        have HQ1 := n0_
        have HQ2 := n1_
        have HO := n2_
        have HB := n3_
        have HK := n4_
        clear n0_ n1_ n2_ n3_ n4_
        have q4 := HQ1.out.c4
        have q1 := HQ1.out.c1
        have z1 := blk_frozen HQ1.out 1
        have z4 := blk_frozen HQ1.out 4
        have n0_ := Aside0.mk (HQ1.out.set1 x)
        have n1_ := Aside0.mk (Kd.R_set HQ2.out HQ1.out (by decide) 1 (.int .u8 x))
        have n2_ := Aside0.mk (Kd.R_set HO.out HQ1.out (by decide) 1 (.int .u8 x))
        have n3_ := Aside0.mk (HB.out.setCell (p := ⟨g, 1, none⟩) HG.out (.int .u8 x))
        have n4_ := Aside0.mk (KeepBut.set_ HK.out 1 (.int .u8 x))
        clear HQ1 HQ2 HO HB HK
        have HQ1 := n0_
        have HQ2 := n1_
        have HO := n2_
        have HB := n3_
        have HK := n4_
        clear n0_ n1_ n2_ n3_ n4_
        have n0_ := Aside0.mk (HQ1.out.set4 2)
        have n1_ := Aside0.mk (Kd.R_set HQ2.out HQ1.out (by decide) 4 (.int .i64 2))
        have n2_ := Aside0.mk (Kd.R_set HO.out HQ1.out (by decide) 4 (.int .i64 2))
        have n3_ := Aside0.mk (HB.out.setCell (p := ⟨g, 4, none⟩) HG.out (.int .i64 2))
        have n4_ := Aside0.mk (KeepBut.set_ HK.out 4 (.int .i64 2))
        clear HQ1 HQ2 HO HB HK
        have HQ1 := n0_
        have HQ2 := n1_
        have HO := n2_
        have HB := n3_
        have HK := n4_
        clear n0_ n1_ n2_ n3_ n4_
        go_wp2_with fail
        go_quiet (fail)
        have n0_ := Aside0.mk (HQ1.out.drewN nq)
        have n1_ := Aside0.mk (Kd.R_drewN HQ2.out nq)
        have n2_ := Aside0.mk (Kd.R_drewN HO.out nq)
        have n3_ := Aside0.mk (pw_below_drewN HB.out nq)
        have n4_ := Aside0.mk (keep_drewN HK.out nq)
        clear q4 q1 z1 z4 HQ1 HQ2 HO HB HK
        generalize ((World.setCell (World.setCell w1 ⟨g, 1, none⟩ (.int .u8 x)) ⟨g, 4, none⟩ (.int .i64 2))).drewN nq = w2 at n0_ n1_ n2_ n3_ n4_ ⊢
        have HQ1 := n0_
        have HQ2 := n1_
        have HO := n2_
        have HB := n3_
        have HK := n4_
        clear n0_ n1_ n2_ n3_ n4_
        go_wp2
        have HE2 := HE.out
        rw [frame_drop HN.out.2.1 hi, ← HX.out, feed_more (P := [a]) (fun h => absurd h.1 (by simp)) (fun h => absurd h.1 (by simp))] at HE2
        have HE2 := Aside0.mk HE2
        have e1 : wrap64 (i + 1) = i + 1 := by have := HN.out; have := HP.out; unfold wrap64; omega
        go_roundg (gk - 1)
        case measure => have := HN.out; omega
        case rel => exact ⟨i + 1, os, [a, x], _, by first | rfl | (rw [e1]), ⟨by have := HN.out; omega, by have := HN.out; omega, by omega, by have := HN.out; simp only [List.length_append, List.length_cons, List.length_nil] at this ⊢; omega, by have := HN.out; (try simp only [List.length_append, List.length_cons, List.length_nil]); omega⟩, ⟨HQ1.out, HQ2.out⟩, HO, HB, HK, HU, HE2⟩
      rcases Q with _ | ⟨d, Q⟩
      · skip
        have HQ1 := Aside0.mk (show FdAt wr g a b 0 0 2 u false from HQ.out.1)
        have HQ2 := Aside0.mk (show Kd.R (Kd.int .u8) 5 wr base (fun _ => True) u [] from HQ.out.2)
        clear HQ
        obtain ⟨Au, cu, hu⟩ : ∃ A c, u = .slice A 0 c := Kd.R_slice HQ2.out
        subst hu
        have q4 := HQ1.out.c4
        go_wp2
        refine wp_region_still_tail 9 (by kernel_rfl) (by kernel_rfl) ?_
        change wpStill _ _ (World.drew _) _ _ _
        simp only [List.take_succ_cons, List.take_zero, List.drop_succ_cons, List.drop_zero]
        repeat still_step
        try refine wpStill_nil ?_
        change wpList _ _ _ _ _ (wr.drewN 1)
        have n0_ := Aside0.mk (HQ1.out.drewN 1)
        have n1_ := Aside0.mk (Kd.R_drewN HQ2.out 1)
        have n2_ := Aside0.mk (Kd.R_drewN HO.out 1)
        have n3_ := Aside0.mk (pw_below_drewN HB.out 1)
        have n4_ := Aside0.mk (keep_drewN HK.out 1)
        clear q4 hx HQ1 HQ2 HO HB HK
        generalize (wr).drewN 1 = w1 at n0_ n1_ n2_ n3_ n4_ ⊢
        have HQ1 := n0_
        have HQ2 := n1_
        have HO := n2_
        have HB := n3_
        have HK := n4_
        clear n0_ n1_ n2_ n3_ n4_
        have q4 := HQ1.out.c4
        have q2 := HQ1.out.c2
        have z2 := blk_frozen HQ1.out 2
        have z4 := blk_frozen HQ1.out 4
        have n0_ := Aside0.mk (HQ1.out.set2 x)
        have n1_ := Aside0.mk (Kd.R_set HQ2.out HQ1.out (by decide) 2 (.int .u8 x))
        have n2_ := Aside0.mk (Kd.R_set HO.out HQ1.out (by decide) 2 (.int .u8 x))
        have n3_ := Aside0.mk (HB.out.setCell (p := ⟨g, 2, none⟩) HG.out (.int .u8 x))
        have n4_ := Aside0.mk (KeepBut.set_ HK.out 2 (.int .u8 x))
        clear HQ1 HQ2 HO HB HK
        have HQ1 := n0_
        have HQ2 := n1_
        have HO := n2_
        have HB := n3_
        have HK := n4_
        clear n0_ n1_ n2_ n3_ n4_
        have n0_ := Aside0.mk (HQ1.out.set4 3)
        have n1_ := Aside0.mk (Kd.R_set HQ2.out HQ1.out (by decide) 4 (.int .i64 3))
        have n2_ := Aside0.mk (Kd.R_set HO.out HQ1.out (by decide) 4 (.int .i64 3))
        have n3_ := Aside0.mk (HB.out.setCell (p := ⟨g, 4, none⟩) HG.out (.int .i64 3))
        have n4_ := Aside0.mk (KeepBut.set_ HK.out 4 (.int .i64 3))
        clear HQ1 HQ2 HO HB HK
        have HQ1 := n0_
        have HQ2 := n1_
        have HO := n2_
        have HB := n3_
        have HK := n4_
        clear n0_ n1_ n2_ n3_ n4_
        go_wp2_with fail
        go_quiet (fail)
        have n0_ := Aside0.mk (HQ1.out.drewN nq)
        have n1_ := Aside0.mk (Kd.R_drewN HQ2.out nq)
        have n2_ := Aside0.mk (Kd.R_drewN HO.out nq)
        have n3_ := Aside0.mk (pw_below_drewN HB.out nq)
        have n4_ := Aside0.mk (keep_drewN HK.out nq)
        clear q4 q2 z2 z4 HQ1 HQ2 HO HB HK
        generalize ((World.setCell (World.setCell w1 ⟨g, 2, none⟩ (.int .u8 x)) ⟨g, 4, none⟩ (.int .i64 3))).drewN nq = w2 at n0_ n1_ n2_ n3_ n4_ ⊢
        have HQ1 := n0_
        have HQ2 := n1_
        have HO := n2_
        have HB := n3_
        have HK := n4_
        clear n0_ n1_ n2_ n3_ n4_
        go_wp2
        have HE2 := HE.out
        rw [frame_drop HN.out.2.1 hi, ← HX.out, feed_more (P := [a, b]) (fun h => absurd h.1 (by simp)) (fun h => absurd h.1 (by simp))] at HE2
        have HE2 := Aside0.mk HE2
        have e1 : wrap64 (i + 1) = i + 1 := by have := HN.out; have := HP.out; unfold wrap64; omega
        go_roundg (gk - 1)
        case measure => have := HN.out; omega
        case rel => exact ⟨i + 1, os, [a, b, x], _, by first | rfl | (rw [e1]), ⟨by have := HN.out; omega, by have := HN.out; omega, by omega, by have := HN.out; simp only [List.length_append, List.length_cons, List.length_nil] at this ⊢; omega, by have := HN.out; (try simp only [List.length_append, List.length_cons, List.length_nil]); omega⟩, ⟨HQ1.out, HQ2.out⟩, HO, HB, HK, HU, HE2⟩
      rcases Q with _ | ⟨e, Q⟩
      · by_cases hbig : 8192 < lenV a b d x
        · skip
          have f8 : decide (8192 < lenV a b d x) = true := decide_eq_true hbig
          have Hbig := Aside0.mk hbig
          clear hbig
          have HQ1 := Aside0.mk (show FdAt wr g a b d 0 3 u false from HQ.out.1)
          have HQ2 := Aside0.mk (show Kd.R (Kd.int .u8) 5 wr base (fun _ => True) u [] from HQ.out.2)
          clear HQ
          obtain ⟨Au, cu, hu⟩ : ∃ A c, u = .slice A 0 c := Kd.R_slice HQ2.out
          subst hu
          have q4 := HQ1.out.c4
          go_wp2
          refine wp_region_still_tail 9 (by kernel_rfl) (by kernel_rfl) ?_
          change wpStill _ _ (World.drew _) _ _ _
          simp only [List.take_succ_cons, List.take_zero, List.drop_succ_cons, List.drop_zero]
          repeat still_step
          try refine wpStill_nil ?_
          change wpList _ _ _ _ _ (wr.drewN 1)
          have n0_ := Aside0.mk (HQ1.out.drewN 1)
          have n1_ := Aside0.mk (Kd.R_drewN HQ2.out 1)
          have n2_ := Aside0.mk (Kd.R_drewN HO.out 1)
          have n3_ := Aside0.mk (pw_below_drewN HB.out 1)
          have n4_ := Aside0.mk (keep_drewN HK.out 1)
          clear q4 hx HQ1 HQ2 HO HB HK
          generalize (wr).drewN 1 = w1 at n0_ n1_ n2_ n3_ n4_ ⊢
          have HQ1 := n0_
          have HQ2 := n1_
          have HO := n2_
          have HB := n3_
          have HK := n4_
          clear n0_ n1_ n2_ n3_ n4_
          have q4 := HQ1.out.c4
          have q3 := HQ1.out.c3
          have z3 := blk_frozen HQ1.out 3
          have z4 := blk_frozen HQ1.out 4
          have n0_ := Aside0.mk (HQ1.out.set3 x)
          have n1_ := Aside0.mk (Kd.R_set HQ2.out HQ1.out (by decide) 3 (.int .u8 x))
          have n2_ := Aside0.mk (Kd.R_set HO.out HQ1.out (by decide) 3 (.int .u8 x))
          have n3_ := Aside0.mk (HB.out.setCell (p := ⟨g, 3, none⟩) HG.out (.int .u8 x))
          have n4_ := Aside0.mk (KeepBut.set_ HK.out 3 (.int .u8 x))
          clear HQ1 HQ2 HO HB HK
          have HQ1 := n0_
          have HQ2 := n1_
          have HO := n2_
          have HB := n3_
          have HK := n4_
          clear n0_ n1_ n2_ n3_ n4_
          have n0_ := Aside0.mk (HQ1.out.set4 4)
          have n1_ := Aside0.mk (Kd.R_set HQ2.out HQ1.out (by decide) 4 (.int .i64 4))
          have n2_ := Aside0.mk (Kd.R_set HO.out HQ1.out (by decide) 4 (.int .i64 4))
          have n3_ := Aside0.mk (HB.out.setCell (p := ⟨g, 4, none⟩) HG.out (.int .i64 4))
          have n4_ := Aside0.mk (KeepBut.set_ HK.out 4 (.int .i64 4))
          clear HQ1 HQ2 HO HB HK
          have HQ1 := n0_
          have HQ2 := n1_
          have HO := n2_
          have HB := n3_
          have HK := n4_
          clear n0_ n1_ n2_ n3_ n4_
          go_wp2_with (go_at_call 19; refine (frame_length.calls g a b d x 4 _ false _ HQ1.out).mono ?_; rintro e_ w2 ⟨rfl, hw⟩; rw [← hw] at HQ1 HQ2 HO HB HK; clear hw q3 q4 z3 z4; have q0 := HQ1.out.c0; have q1 := HQ1.out.c1; have q2 := HQ1.out.c2; have q3 := HQ1.out.c3; have q4 := HQ1.out.c4; have q5 := HQ1.out.c5; have q6 := HQ1.out.c6; have z0 := blk_frozen HQ1.out 0; have z1 := blk_frozen HQ1.out 1; have z2 := blk_frozen HQ1.out 2; have z3 := blk_frozen HQ1.out 3; have z4 := blk_frozen HQ1.out 4; have z5 := blk_frozen HQ1.out 5; have z6 := blk_frozen HQ1.out 6)
          have n0_ := Aside0.mk (HQ1.out.set0 0)
          have n1_ := Aside0.mk (Kd.R_set HQ2.out HQ1.out (by decide) 0 (.int .u8 0))
          have n2_ := Aside0.mk (Kd.R_set HO.out HQ1.out (by decide) 0 (.int .u8 0))
          have n3_ := Aside0.mk (HB.out.setCell (p := ⟨g, 0, none⟩) HG.out (.int .u8 0))
          have n4_ := Aside0.mk (KeepBut.set_ HK.out 0 (.int .u8 0))
          clear HQ1 HQ2 HO HB HK
          have HQ1 := n0_
          have HQ2 := n1_
          have HO := n2_
          have HB := n3_
          have HK := n4_
          clear n0_ n1_ n2_ n3_ n4_
          have n0_ := Aside0.mk (HQ1.out.set1 0)
          have n1_ := Aside0.mk (Kd.R_set HQ2.out HQ1.out (by decide) 1 (.int .u8 0))
          have n2_ := Aside0.mk (Kd.R_set HO.out HQ1.out (by decide) 1 (.int .u8 0))
          have n3_ := Aside0.mk (HB.out.setCell (p := ⟨g, 1, none⟩) HG.out (.int .u8 0))
          have n4_ := Aside0.mk (KeepBut.set_ HK.out 1 (.int .u8 0))
          clear HQ1 HQ2 HO HB HK
          have HQ1 := n0_
          have HQ2 := n1_
          have HO := n2_
          have HB := n3_
          have HK := n4_
          clear n0_ n1_ n2_ n3_ n4_
          have n0_ := Aside0.mk (HQ1.out.set2 0)
          have n1_ := Aside0.mk (Kd.R_set HQ2.out HQ1.out (by decide) 2 (.int .u8 0))
          have n2_ := Aside0.mk (Kd.R_set HO.out HQ1.out (by decide) 2 (.int .u8 0))
          have n3_ := Aside0.mk (HB.out.setCell (p := ⟨g, 2, none⟩) HG.out (.int .u8 0))
          have n4_ := Aside0.mk (KeepBut.set_ HK.out 2 (.int .u8 0))
          clear HQ1 HQ2 HO HB HK
          have HQ1 := n0_
          have HQ2 := n1_
          have HO := n2_
          have HB := n3_
          have HK := n4_
          clear n0_ n1_ n2_ n3_ n4_
          have n0_ := Aside0.mk (HQ1.out.set3 0)
          have n1_ := Aside0.mk (Kd.R_set HQ2.out HQ1.out (by decide) 3 (.int .u8 0))
          have n2_ := Aside0.mk (Kd.R_set HO.out HQ1.out (by decide) 3 (.int .u8 0))
          have n3_ := Aside0.mk (HB.out.setCell (p := ⟨g, 3, none⟩) HG.out (.int .u8 0))
          have n4_ := Aside0.mk (KeepBut.set_ HK.out 3 (.int .u8 0))
          clear HQ1 HQ2 HO HB HK
          have HQ1 := n0_
          have HQ2 := n1_
          have HO := n2_
          have HB := n3_
          have HK := n4_
          clear n0_ n1_ n2_ n3_ n4_
          have n0_ := Aside0.mk (HQ1.out.set4 0)
          have n1_ := Aside0.mk (Kd.R_set HQ2.out HQ1.out (by decide) 4 (.int .i64 0))
          have n2_ := Aside0.mk (Kd.R_set HO.out HQ1.out (by decide) 4 (.int .i64 0))
          have n3_ := Aside0.mk (HB.out.setCell (p := ⟨g, 4, none⟩) HG.out (.int .i64 0))
          have n4_ := Aside0.mk (KeepBut.set_ HK.out 4 (.int .i64 0))
          clear HQ1 HQ2 HO HB HK
          have HQ1 := n0_
          have HQ2 := n1_
          have HO := n2_
          have HB := n3_
          have HK := n4_
          clear n0_ n1_ n2_ n3_ n4_
          have n0_ := Aside0.mk (HQ1.out.set5 (.slice none 0 0))
          have n1_ := Aside0.mk (Kd.R_set HQ2.out HQ1.out (by decide) 5 (.slice none 0 0))
          have n2_ := Aside0.mk (Kd.R_set HO.out HQ1.out (by decide) 5 (.slice none 0 0))
          have n3_ := Aside0.mk (HB.out.setCell (p := ⟨g, 5, none⟩) HG.out (.slice none 0 0))
          have n4_ := Aside0.mk (KeepBut.set_ HK.out 5 (.slice none 0 0))
          clear HQ1 HQ2 HO HB HK
          have HQ1 := n0_
          have HQ2 := n1_
          have HO := n2_
          have HB := n3_
          have HK := n4_
          clear n0_ n1_ n2_ n3_ n4_
          have n0_ := Aside0.mk (HQ1.out.set6 true)
          have n1_ := Aside0.mk (Kd.R_set HQ2.out HQ1.out (by decide) 6 (.bool true))
          have n2_ := Aside0.mk (Kd.R_set HO.out HQ1.out (by decide) 6 (.bool true))
          have n3_ := Aside0.mk (HB.out.setCell (p := ⟨g, 6, none⟩) HG.out (.bool true))
          have n4_ := Aside0.mk (KeepBut.set_ HK.out 6 (.bool true))
          clear HQ1 HQ2 HO HB HK
          have HQ1 := n0_
          have HQ2 := n1_
          have HO := n2_
          have HB := n3_
          have HK := n4_
          clear n0_ n1_ n2_ n3_ n4_
          have HO4 := Aside0.mk (Kd.R_mono (ok' := fun k => (some k = v.ownBlock ∨ w.heap.size ≤ k) ∧ some k ≠ (Value.slice none 0 0).ownBlock) HO.out (fun k hk => ⟨hk.1, by simp [Value.ownBlock]⟩))
          have he := HE.out
          rw [frame_drop HN.out.2.1 hi, ← HX.out, feed_bad (P := [a, b, d]) ⟨rfl, Hbig.out⟩] at he
          simp only [List.append_nil, Prod.mk.injEq] at he
          obtain ⟨rfl, rfl, rfl⟩ := he
          refine bodyPost_ret (v := .tuple #[u4, .bool false]) (by simp [results, Try.results12, go_sem]) rfl ?_
          exact ⟨u4, .slice none 0 0, rfl, HO4.out, by rw [if_pos rfl]; exact ⟨HQ1.out, rfl⟩, .inr (.inl rfl), HB.out, HK.out⟩
        by_cases hno : (0 : Int) = lenV a b d x
        · skip
          have f9 : ((0 : Int) == lenV a b d x) = true := beq_iff_eq.mpr hno
          have Hno := Aside0.mk hno
          clear hno
          have f8 : decide (8192 < lenV a b d x) = false := decide_eq_false hbig
          have Hbig := Aside0.mk hbig
          clear hbig
          have HQ1 := Aside0.mk (show FdAt wr g a b d 0 3 u false from HQ.out.1)
          have HQ2 := Aside0.mk (show Kd.R (Kd.int .u8) 5 wr base (fun _ => True) u [] from HQ.out.2)
          clear HQ
          obtain ⟨Au, cu, hu⟩ : ∃ A c, u = .slice A 0 c := Kd.R_slice HQ2.out
          subst hu
          have q4 := HQ1.out.c4
          go_wp2
          refine wp_region_still_tail 9 (by kernel_rfl) (by kernel_rfl) ?_
          change wpStill _ _ (World.drew _) _ _ _
          simp only [List.take_succ_cons, List.take_zero, List.drop_succ_cons, List.drop_zero]
          repeat still_step
          try refine wpStill_nil ?_
          change wpList _ _ _ _ _ (wr.drewN 1)
          have n0_ := Aside0.mk (HQ1.out.drewN 1)
          have n1_ := Aside0.mk (Kd.R_drewN HQ2.out 1)
          have n2_ := Aside0.mk (Kd.R_drewN HO.out 1)
          have n3_ := Aside0.mk (pw_below_drewN HB.out 1)
          have n4_ := Aside0.mk (keep_drewN HK.out 1)
          clear q4 hx HQ1 HQ2 HO HB HK
          generalize (wr).drewN 1 = w1 at n0_ n1_ n2_ n3_ n4_ ⊢
          have HQ1 := n0_
          have HQ2 := n1_
          have HO := n2_
          have HB := n3_
          have HK := n4_
          clear n0_ n1_ n2_ n3_ n4_
          have q4 := HQ1.out.c4
          have q3 := HQ1.out.c3
          have z3 := blk_frozen HQ1.out 3
          have z4 := blk_frozen HQ1.out 4
          have n0_ := Aside0.mk (HQ1.out.set3 x)
          have n1_ := Aside0.mk (Kd.R_set HQ2.out HQ1.out (by decide) 3 (.int .u8 x))
          have n2_ := Aside0.mk (Kd.R_set HO.out HQ1.out (by decide) 3 (.int .u8 x))
          have n3_ := Aside0.mk (HB.out.setCell (p := ⟨g, 3, none⟩) HG.out (.int .u8 x))
          have n4_ := Aside0.mk (KeepBut.set_ HK.out 3 (.int .u8 x))
          clear HQ1 HQ2 HO HB HK
          have HQ1 := n0_
          have HQ2 := n1_
          have HO := n2_
          have HB := n3_
          have HK := n4_
          clear n0_ n1_ n2_ n3_ n4_
          have n0_ := Aside0.mk (HQ1.out.set4 4)
          have n1_ := Aside0.mk (Kd.R_set HQ2.out HQ1.out (by decide) 4 (.int .i64 4))
          have n2_ := Aside0.mk (Kd.R_set HO.out HQ1.out (by decide) 4 (.int .i64 4))
          have n3_ := Aside0.mk (HB.out.setCell (p := ⟨g, 4, none⟩) HG.out (.int .i64 4))
          have n4_ := Aside0.mk (KeepBut.set_ HK.out 4 (.int .i64 4))
          clear HQ1 HQ2 HO HB HK
          have HQ1 := n0_
          have HQ2 := n1_
          have HO := n2_
          have HB := n3_
          have HK := n4_
          clear n0_ n1_ n2_ n3_ n4_
          go_wp2_with (go_at_call 19; refine (frame_length.calls g a b d x 4 _ false _ HQ1.out).mono ?_; rintro e_ w2 ⟨rfl, hw⟩; rw [← hw] at HQ1 HQ2 HO HB HK; clear hw q3 q4 z3 z4; have q0 := HQ1.out.c0; have q1 := HQ1.out.c1; have q2 := HQ1.out.c2; have q3 := HQ1.out.c3; have q4 := HQ1.out.c4; have q5 := HQ1.out.c5; have q6 := HQ1.out.c6; have z0 := blk_frozen HQ1.out 0; have z1 := blk_frozen HQ1.out 1; have z2 := blk_frozen HQ1.out 2; have z3 := blk_frozen HQ1.out 3; have z4 := blk_frozen HQ1.out 4; have z5 := blk_frozen HQ1.out 5; have z6 := blk_frozen HQ1.out 6)
          go_quiet ((go_at_call 19; exact Calls.quiet_of_same (frame_length.calls g a b d x 4 _ false _ (HQ1.out.drewN _))))
          have n0_ := Aside0.mk (HQ1.out.drewN nq)
          have n1_ := Aside0.mk (Kd.R_drewN HQ2.out nq)
          have n2_ := Aside0.mk (Kd.R_drewN HO.out nq)
          have n3_ := Aside0.mk (pw_below_drewN HB.out nq)
          have n4_ := Aside0.mk (keep_drewN HK.out nq)
          clear q0 q1 q2 q3 q4 q5 q6 z0 z1 z2 z3 z4 z5 z6 HQ1 HQ2 HO HB HK
          generalize (w2).drewN nq = w3 at n0_ n1_ n2_ n3_ n4_ ⊢
          have HQ1 := n0_
          have HQ2 := n1_
          have HO := n2_
          have HB := n3_
          have HK := n4_
          clear n0_ n1_ n2_ n3_ n4_
          have q0 := HQ1.out.c0
          have q1 := HQ1.out.c1
          have q2 := HQ1.out.c2
          have q3 := HQ1.out.c3
          have q4 := HQ1.out.c4
          have q5 := HQ1.out.c5
          have q6 := HQ1.out.c6
          have z0 := blk_frozen HQ1.out 0
          have z1 := blk_frozen HQ1.out 1
          have z2 := blk_frozen HQ1.out 2
          have z3 := blk_frozen HQ1.out 3
          have z4 := blk_frozen HQ1.out 4
          have z5 := blk_frozen HQ1.out 5
          have z6 := blk_frozen HQ1.out 6
          go_wp2_with (at_builtin; refine Kd.R_append kRow (w0 := w) base rfl (.tmp 82) (.tmp 87) 22 23 (.slice none 0 0) 24 rfl Try.underlying22 info_sb rfl (by decide) (by decide) u4 os [] [_] (fun k => some k = v.ownBlock ∨ w.heap.size ≤ k) _ rfl rfl ⟨_, rfl, frame_apart (own_only HQ2.out) HO.out⟩ ?aK ?aF (Kd.R_mono HO.out (fun _ hk => hk.1)) HB.out (Nat.le_trans HW.out HB.out.size) ?aL ?_; (case aK => exact fun k hk => ⟨HU.out.elim (fun h => .inl (by rw [← hk.1, h])) (fun h => h.elim (fun h => by rw [hk.1] at h; cases h) (fun ⟨b, h, hb⟩ => .inr (by rw [hk.1] at h; injection h with h; omega))), hk.2⟩); (case aF => exact fun k hk => .inr (Nat.le_trans HK.out.1 hk)); (case aL => have := HN.out; have := HP.out; omega); intro vo w4 ho hb hg hat; have n0_ := Aside0.mk (HQ1.out.keep (hg.block g (blk_lt HQ1.out) (Kd.R_ne HO.out HQ1.out (by decide)))); have n4_ := Aside0.mk (keep_grown HK.out hg (match hv : u4.ownBlock with | none => .inr (.inl rfl) | some k => (HO.out.1 k hv).1.elim (fun h => .inl h) (fun h => .inr (.inr ⟨k, rfl, h⟩)))); have HO4 := Aside0.mk (Kd.R_mono (ok' := fun k => (some k = v.ownBlock ∨ w.heap.size ≤ k) ∧ some k ≠ (Value.slice none 0 0).ownBlock) ho (fun k hk => ⟨hk, by simp [Value.ownBlock]⟩)); clear HO HB HK HQ1 HQ2 HU ho hat q0 q1 q2 q3 q4 q5 q6 z0 z1 z2 z3 z4 z5 z6; have HQ1 := n0_; have HO := HO4; have HB := Aside0.mk hb; have HK := n4_; clear n0_ HO4 hb n4_ hg; have HQ2 := Aside0.mk (Kd.R_nil (Kd.int .u8) 5 w4 base (fun _ => True)); have HU := Aside0.mk (show (Value.slice none 0 0).ownBlock = v.ownBlock ∨ (Value.slice none 0 0).ownBlock = none ∨ ∃ b, (Value.slice none 0 0).ownBlock = some b ∧ w.heap.size ≤ b from .inr (.inl rfl)); have q0 := HQ1.out.c0; have q1 := HQ1.out.c1; have q2 := HQ1.out.c2; have q3 := HQ1.out.c3; have q4 := HQ1.out.c4; have q5 := HQ1.out.c5; have q6 := HQ1.out.c6; have z0 := blk_frozen HQ1.out 0; have z1 := blk_frozen HQ1.out 1; have z2 := blk_frozen HQ1.out 2; have z3 := blk_frozen HQ1.out 3; have z4 := blk_frozen HQ1.out 4; have z5 := blk_frozen HQ1.out 5; have z6 := blk_frozen HQ1.out 6)
          have n0_ := Aside0.mk (HQ1.out.set0 0)
          have n1_ := Aside0.mk (Kd.R_set HQ2.out HQ1.out (by decide) 0 (.int .u8 0))
          have n2_ := Aside0.mk (Kd.R_set HO.out HQ1.out (by decide) 0 (.int .u8 0))
          have n3_ := Aside0.mk (HB.out.setCell (p := ⟨g, 0, none⟩) HG.out (.int .u8 0))
          have n4_ := Aside0.mk (KeepBut.set_ HK.out 0 (.int .u8 0))
          clear HQ1 HQ2 HO HB HK
          have HQ1 := n0_
          have HQ2 := n1_
          have HO := n2_
          have HB := n3_
          have HK := n4_
          clear n0_ n1_ n2_ n3_ n4_
          have n0_ := Aside0.mk (HQ1.out.set1 0)
          have n1_ := Aside0.mk (Kd.R_set HQ2.out HQ1.out (by decide) 1 (.int .u8 0))
          have n2_ := Aside0.mk (Kd.R_set HO.out HQ1.out (by decide) 1 (.int .u8 0))
          have n3_ := Aside0.mk (HB.out.setCell (p := ⟨g, 1, none⟩) HG.out (.int .u8 0))
          have n4_ := Aside0.mk (KeepBut.set_ HK.out 1 (.int .u8 0))
          clear HQ1 HQ2 HO HB HK
          have HQ1 := n0_
          have HQ2 := n1_
          have HO := n2_
          have HB := n3_
          have HK := n4_
          clear n0_ n1_ n2_ n3_ n4_
          have n0_ := Aside0.mk (HQ1.out.set2 0)
          have n1_ := Aside0.mk (Kd.R_set HQ2.out HQ1.out (by decide) 2 (.int .u8 0))
          have n2_ := Aside0.mk (Kd.R_set HO.out HQ1.out (by decide) 2 (.int .u8 0))
          have n3_ := Aside0.mk (HB.out.setCell (p := ⟨g, 2, none⟩) HG.out (.int .u8 0))
          have n4_ := Aside0.mk (KeepBut.set_ HK.out 2 (.int .u8 0))
          clear HQ1 HQ2 HO HB HK
          have HQ1 := n0_
          have HQ2 := n1_
          have HO := n2_
          have HB := n3_
          have HK := n4_
          clear n0_ n1_ n2_ n3_ n4_
          have n0_ := Aside0.mk (HQ1.out.set3 0)
          have n1_ := Aside0.mk (Kd.R_set HQ2.out HQ1.out (by decide) 3 (.int .u8 0))
          have n2_ := Aside0.mk (Kd.R_set HO.out HQ1.out (by decide) 3 (.int .u8 0))
          have n3_ := Aside0.mk (HB.out.setCell (p := ⟨g, 3, none⟩) HG.out (.int .u8 0))
          have n4_ := Aside0.mk (KeepBut.set_ HK.out 3 (.int .u8 0))
          clear HQ1 HQ2 HO HB HK
          have HQ1 := n0_
          have HQ2 := n1_
          have HO := n2_
          have HB := n3_
          have HK := n4_
          clear n0_ n1_ n2_ n3_ n4_
          have n0_ := Aside0.mk (HQ1.out.set4 0)
          have n1_ := Aside0.mk (Kd.R_set HQ2.out HQ1.out (by decide) 4 (.int .i64 0))
          have n2_ := Aside0.mk (Kd.R_set HO.out HQ1.out (by decide) 4 (.int .i64 0))
          have n3_ := Aside0.mk (HB.out.setCell (p := ⟨g, 4, none⟩) HG.out (.int .i64 0))
          have n4_ := Aside0.mk (KeepBut.set_ HK.out 4 (.int .i64 0))
          clear HQ1 HQ2 HO HB HK
          have HQ1 := n0_
          have HQ2 := n1_
          have HO := n2_
          have HB := n3_
          have HK := n4_
          clear n0_ n1_ n2_ n3_ n4_
          have n0_ := Aside0.mk (HQ1.out.set5 (.slice none 0 0))
          have n1_ := Aside0.mk (Kd.R_set HQ2.out HQ1.out (by decide) 5 (.slice none 0 0))
          have n2_ := Aside0.mk (Kd.R_set HO.out HQ1.out (by decide) 5 (.slice none 0 0))
          have n3_ := Aside0.mk (HB.out.setCell (p := ⟨g, 5, none⟩) HG.out (.slice none 0 0))
          have n4_ := Aside0.mk (KeepBut.set_ HK.out 5 (.slice none 0 0))
          clear HQ1 HQ2 HO HB HK
          have HQ1 := n0_
          have HQ2 := n1_
          have HO := n2_
          have HB := n3_
          have HK := n4_
          clear n0_ n1_ n2_ n3_ n4_
          have n0_ := Aside0.mk (HQ1.out.set6 false)
          have n1_ := Aside0.mk (Kd.R_set HQ2.out HQ1.out (by decide) 6 (.bool false))
          have n2_ := Aside0.mk (Kd.R_set HO.out HQ1.out (by decide) 6 (.bool false))
          have n3_ := Aside0.mk (HB.out.setCell (p := ⟨g, 6, none⟩) HG.out (.bool false))
          have n4_ := Aside0.mk (KeepBut.set_ HK.out 6 (.bool false))
          clear HQ1 HQ2 HO HB HK
          have HQ1 := n0_
          have HQ2 := n1_
          have HO := n2_
          have HB := n3_
          have HK := n4_
          clear n0_ n1_ n2_ n3_ n4_
          have HE2 := HE.out
          rw [frame_drop HN.out.2.1 hi, ← HX.out, feed_told (P := [a, b, d]) (fun h => absurd (show 8192 < lenV a b d x from h.2) (by have := Hbig.out; omega)) ⟨by simp, Hno.out⟩] at HE2
          rw [show os ++ ((([a, b, d] ++ [x]).drop 4 :: (feedL [] (l.drop (i + 1).toNat)).1, (feedL [] (l.drop (i + 1).toNat)).2) : List (List Int) × List Int × Bool).1 = (os ++ [[]]) ++ (feedL [] (l.drop (i + 1).toNat)).1 from by simp] at HE2
          have HE2 := Aside0.mk HE2
          have e1 : wrap64 (i + 1) = i + 1 := by have := HN.out; have := HP.out; unfold wrap64; omega
          go_roundg (gk - 1)
          case measure => have := HN.out; omega
          case rel => exact ⟨i + 1, (os ++ [[]]), [], (.slice none 0 0), by first | rfl | (rw [e1]), ⟨by have := HN.out; omega, by have := HN.out; omega, by omega, by have := HN.out; simp only [List.length_append, List.length_cons, List.length_nil] at this ⊢; omega, by have := HN.out; (try simp only [List.length_append, List.length_cons, List.length_nil]); omega⟩, ⟨HQ1.out, HQ2.out⟩, HO, HB, HK, HU, HE2⟩
        · skip
          have f9 : ((0 : Int) == lenV a b d x) = false := beq_eq_false_iff_ne.mpr hno
          have Hno := Aside0.mk hno
          clear hno
          have f8 : decide (8192 < lenV a b d x) = false := decide_eq_false hbig
          have Hbig := Aside0.mk hbig
          clear hbig
          have HQ1 := Aside0.mk (show FdAt wr g a b d 0 3 u false from HQ.out.1)
          have HQ2 := Aside0.mk (show Kd.R (Kd.int .u8) 5 wr base (fun _ => True) u [] from HQ.out.2)
          clear HQ
          obtain ⟨Au, cu, hu⟩ : ∃ A c, u = .slice A 0 c := Kd.R_slice HQ2.out
          subst hu
          have q4 := HQ1.out.c4
          go_wp2
          refine wp_region_still_tail 9 (by kernel_rfl) (by kernel_rfl) ?_
          change wpStill _ _ (World.drew _) _ _ _
          simp only [List.take_succ_cons, List.take_zero, List.drop_succ_cons, List.drop_zero]
          repeat still_step
          try refine wpStill_nil ?_
          change wpList _ _ _ _ _ (wr.drewN 1)
          have n0_ := Aside0.mk (HQ1.out.drewN 1)
          have n1_ := Aside0.mk (Kd.R_drewN HQ2.out 1)
          have n2_ := Aside0.mk (Kd.R_drewN HO.out 1)
          have n3_ := Aside0.mk (pw_below_drewN HB.out 1)
          have n4_ := Aside0.mk (keep_drewN HK.out 1)
          clear q4 hx HQ1 HQ2 HO HB HK
          generalize (wr).drewN 1 = w1 at n0_ n1_ n2_ n3_ n4_ ⊢
          have HQ1 := n0_
          have HQ2 := n1_
          have HO := n2_
          have HB := n3_
          have HK := n4_
          clear n0_ n1_ n2_ n3_ n4_
          have q4 := HQ1.out.c4
          have q3 := HQ1.out.c3
          have z3 := blk_frozen HQ1.out 3
          have z4 := blk_frozen HQ1.out 4
          have n0_ := Aside0.mk (HQ1.out.set3 x)
          have n1_ := Aside0.mk (Kd.R_set HQ2.out HQ1.out (by decide) 3 (.int .u8 x))
          have n2_ := Aside0.mk (Kd.R_set HO.out HQ1.out (by decide) 3 (.int .u8 x))
          have n3_ := Aside0.mk (HB.out.setCell (p := ⟨g, 3, none⟩) HG.out (.int .u8 x))
          have n4_ := Aside0.mk (KeepBut.set_ HK.out 3 (.int .u8 x))
          clear HQ1 HQ2 HO HB HK
          have HQ1 := n0_
          have HQ2 := n1_
          have HO := n2_
          have HB := n3_
          have HK := n4_
          clear n0_ n1_ n2_ n3_ n4_
          have n0_ := Aside0.mk (HQ1.out.set4 4)
          have n1_ := Aside0.mk (Kd.R_set HQ2.out HQ1.out (by decide) 4 (.int .i64 4))
          have n2_ := Aside0.mk (Kd.R_set HO.out HQ1.out (by decide) 4 (.int .i64 4))
          have n3_ := Aside0.mk (HB.out.setCell (p := ⟨g, 4, none⟩) HG.out (.int .i64 4))
          have n4_ := Aside0.mk (KeepBut.set_ HK.out 4 (.int .i64 4))
          clear HQ1 HQ2 HO HB HK
          have HQ1 := n0_
          have HQ2 := n1_
          have HO := n2_
          have HB := n3_
          have HK := n4_
          clear n0_ n1_ n2_ n3_ n4_
          go_wp2_with (go_at_call 19; refine (frame_length.calls g a b d x 4 _ false _ HQ1.out).mono ?_; rintro e_ w2 ⟨rfl, hw⟩; rw [← hw] at HQ1 HQ2 HO HB HK; clear hw q3 q4 z3 z4; have q0 := HQ1.out.c0; have q1 := HQ1.out.c1; have q2 := HQ1.out.c2; have q3 := HQ1.out.c3; have q4 := HQ1.out.c4; have q5 := HQ1.out.c5; have q6 := HQ1.out.c6; have z0 := blk_frozen HQ1.out 0; have z1 := blk_frozen HQ1.out 1; have z2 := blk_frozen HQ1.out 2; have z3 := blk_frozen HQ1.out 3; have z4 := blk_frozen HQ1.out 4; have z5 := blk_frozen HQ1.out 5; have z6 := blk_frozen HQ1.out 6)
          go_quiet ((go_at_call 19; exact Calls.quiet_of_same (frame_length.calls g a b d x 4 _ false _ (HQ1.out.drewN _))))
          have n0_ := Aside0.mk (HQ1.out.drewN nq)
          have n1_ := Aside0.mk (Kd.R_drewN HQ2.out nq)
          have n2_ := Aside0.mk (Kd.R_drewN HO.out nq)
          have n3_ := Aside0.mk (pw_below_drewN HB.out nq)
          have n4_ := Aside0.mk (keep_drewN HK.out nq)
          clear q0 q1 q2 q3 q4 q5 q6 z0 z1 z2 z3 z4 z5 z6 HQ1 HQ2 HO HB HK
          generalize (w2).drewN nq = w3 at n0_ n1_ n2_ n3_ n4_ ⊢
          have HQ1 := n0_
          have HQ2 := n1_
          have HO := n2_
          have HB := n3_
          have HK := n4_
          clear n0_ n1_ n2_ n3_ n4_
          have q0 := HQ1.out.c0
          have q1 := HQ1.out.c1
          have q2 := HQ1.out.c2
          have q3 := HQ1.out.c3
          have q4 := HQ1.out.c4
          have q5 := HQ1.out.c5
          have q6 := HQ1.out.c6
          have z0 := blk_frozen HQ1.out 0
          have z1 := blk_frozen HQ1.out 1
          have z2 := blk_frozen HQ1.out 2
          have z3 := blk_frozen HQ1.out 3
          have z4 := blk_frozen HQ1.out 4
          have z5 := blk_frozen HQ1.out 5
          have z6 := blk_frozen HQ1.out 6
          go_wp2
          have HE2 := HE.out
          rw [frame_drop HN.out.2.1 hi, ← HX.out, feed_more (P := [a, b, d]) (fun h => absurd (show 8192 < lenV a b d x from h.2) (by have := Hbig.out; omega)) (fun h => Hno.out h.2)] at HE2
          have HE2 := Aside0.mk HE2
          have e1 : wrap64 (i + 1) = i + 1 := by have := HN.out; have := HP.out; unfold wrap64; omega
          go_roundg (gk - 1)
          case measure => have := HN.out; omega
          case rel => exact ⟨i + 1, os, [a, b, d, x], _, by first | rfl | (rw [e1]), ⟨by have := HN.out; omega, by have := HN.out; omega, by omega, by have := HN.out; simp only [List.length_append, List.length_cons, List.length_nil] at this ⊢; omega, by have := HN.out; (try simp only [List.length_append, List.length_cons, List.length_nil]); omega⟩, ⟨HQ1.out, HQ2.out⟩, HO, HB, HK, HU, HE2⟩
      by_cases hno : ((Q.length + 1 : Nat) : Int) = lenV a b d e
      · skip
        have Hno := Aside0.mk hno
        clear hno
        have HQ1 := Aside0.mk (show FdAt wr g a b d e 4 u false from by have h_ := HQ.out.1; rw [show (min (a :: b :: d :: e :: Q).length 4) = 4 from Nat.min_eq_right (by simp)] at h_; exact h_)
        have HQ2 := Aside0.mk (show Kd.R (Kd.int .u8) 5 wr base (fun _ => True) u Q from HQ.out.2)
        clear HQ
        obtain ⟨Q1, hQ1⟩ : ∃ Q1, Q1 = Q ++ [x] := ⟨_, rfl⟩
        have HL1 := Aside0.mk (show Q1.length = Q.length + 1 by rw [hQ1, List.length_append]; rfl)
        have f9 : ((Q1.length : Int) == lenV a b d e) = true := by rw [HL1.out]; exact beq_iff_eq.mpr Hno.out
        have HQ_ := Aside0.mk hQ1
        clear hQ1
        obtain ⟨Au, cu, hu⟩ : ∃ A c, u = .slice A Q.length c := Kd.R_slice HQ2.out
        subst hu
        have q0 := HQ1.out.c0
        have q1 := HQ1.out.c1
        have q2 := HQ1.out.c2
        have q3 := HQ1.out.c3
        have q4 := HQ1.out.c4
        have q5 := HQ1.out.c5
        have q6 := HQ1.out.c6
        have z0 := blk_frozen HQ1.out 0
        have z1 := blk_frozen HQ1.out 1
        have z2 := blk_frozen HQ1.out 2
        have z3 := blk_frozen HQ1.out 3
        have z4 := blk_frozen HQ1.out 4
        have z5 := blk_frozen HQ1.out 5
        have z6 := blk_frozen HQ1.out 6
        go_wp2_with (at_builtin; refine Kd.R_append (Kd.int .u8) (w0 := w) base rfl (.tmp 61) (.tmp 63) 23 5 (.int .u8 0) 1 rfl Try.underlying23 info_u8 rfl (by decide) (by decide) _ Q x [.int .u8 x] (fun _ => True) (fun _ => False) rfl rfl rfl (fun _ hk => hk.elim) (fun _ _ => trivial) HQ2.out HB.out (Nat.le_trans HW.out HB.out.size) ?aL ?_; (case aL => have h1_ := HN.out; have h2_ := HP.out; simp only [List.length_cons] at h1_; omega); intro u1 w1 ho hb hg hat; rw [← HQ_.out] at ho; obtain ⟨A1, c1, hu1⟩ : ∃ A c, u1 = .slice A Q1.length c := Kd.R_slice ho; subst hu1; have n0_ := Aside0.mk (HQ1.out.keep (hg.block g (blk_lt HQ1.out) (Kd.R_ne HQ2.out HQ1.out (by decide)))); have n2_ := Aside0.mk (Kd.R_after HO.out hg hat); have n4_ := Aside0.mk (keep_grown HK.out hg HU.out); have n5_ := Aside0.mk (show (Value.slice A1 Q1.length c1).ownBlock = v.ownBlock ∨ (Value.slice A1 Q1.length c1).ownBlock = none ∨ ∃ b, (Value.slice A1 Q1.length c1).ownBlock = some b ∧ w.heap.size ≤ b from hat.elim (fun h => by rw [h]; exact HU.out) (fun ⟨b_, h, hb⟩ => .inr (.inr ⟨b_, h, Nat.le_trans HK.out.1 hb⟩))); clear HO HB HK HQ1 HQ2 HU hat hx q0 q1 q2 q3 q4 q5 q6 z0 z1 z2 z3 z4 z5 z6; have HQ1 := n0_; have HO := n2_; have HB := Aside0.mk hb; have HK := n4_; have HU := n5_; clear n0_ n2_ n4_ n5_ hb hg; have HQ2 := Aside0.mk ho; clear ho; have q0 := HQ1.out.c0; have q1 := HQ1.out.c1; have q2 := HQ1.out.c2; have q3 := HQ1.out.c3; have q4 := HQ1.out.c4; have q5 := HQ1.out.c5; have q6 := HQ1.out.c6; have z0 := blk_frozen HQ1.out 0; have z1 := blk_frozen HQ1.out 1; have z2 := blk_frozen HQ1.out 2; have z3 := blk_frozen HQ1.out 3; have z4 := blk_frozen HQ1.out 4; have z5 := blk_frozen HQ1.out 5; have z6 := blk_frozen HQ1.out 6)
        clear q0 q1 q2 q3 q4 q5 q6 z0 z1 z2 z3 z4 z5 z6
        have n0_ := Aside0.mk (HQ1.out.set5 (.slice A1 Q1.length c1))
        have n1_ := Aside0.mk (Kd.R_set HQ2.out HQ1.out (by decide) 5 (.slice A1 Q1.length c1))
        have n2_ := Aside0.mk (Kd.R_set HO.out HQ1.out (by decide) 5 (.slice A1 Q1.length c1))
        have n3_ := Aside0.mk (HB.out.setCell (p := ⟨g, 5, none⟩) HG.out (.slice A1 Q1.length c1))
        have n4_ := Aside0.mk (KeepBut.set_ HK.out 5 (.slice A1 Q1.length c1))
        clear HQ1 HQ2 HO HB HK
        have HQ1 := n0_
        have HQ2 := n1_
        have HO := n2_
        have HB := n3_
        have HK := n4_
        clear n0_ n1_ n2_ n3_ n4_
        generalize ((World.setCell w1 ⟨g, 5, none⟩ (.slice A1 Q1.length c1))) = w2 at HQ1 HQ2 HO HB HK ⊢
        have q0 := HQ1.out.c0
        have q1 := HQ1.out.c1
        have q2 := HQ1.out.c2
        have q3 := HQ1.out.c3
        have q4 := HQ1.out.c4
        have q5 := HQ1.out.c5
        have q6 := HQ1.out.c6
        have z0 := blk_frozen HQ1.out 0
        have z1 := blk_frozen HQ1.out 1
        have z2 := blk_frozen HQ1.out 2
        have z3 := blk_frozen HQ1.out 3
        have z4 := blk_frozen HQ1.out 4
        have z5 := blk_frozen HQ1.out 5
        have z6 := blk_frozen HQ1.out 6
        go_quiet ((go_at_call 19; exact Calls.quiet_of_same (frame_length.calls g a b d e 4 _ false _ (HQ1.out.drewN _))))
        have n0_ := Aside0.mk (HQ1.out.drewN nq)
        have n1_ := Aside0.mk (Kd.R_drewN HQ2.out nq)
        have n2_ := Aside0.mk (Kd.R_drewN HO.out nq)
        have n3_ := Aside0.mk (pw_below_drewN HB.out nq)
        have n4_ := Aside0.mk (keep_drewN HK.out nq)
        clear q0 q1 q2 q3 q4 q5 q6 z0 z1 z2 z3 z4 z5 z6 HQ1 HQ2 HO HB HK
        generalize (w2).drewN nq = w3 at n0_ n1_ n2_ n3_ n4_ ⊢
        have HQ1 := n0_
        have HQ2 := n1_
        have HO := n2_
        have HB := n3_
        have HK := n4_
        clear n0_ n1_ n2_ n3_ n4_
        have q0 := HQ1.out.c0
        have q1 := HQ1.out.c1
        have q2 := HQ1.out.c2
        have q3 := HQ1.out.c3
        have q4 := HQ1.out.c4
        have q5 := HQ1.out.c5
        have q6 := HQ1.out.c6
        have z0 := blk_frozen HQ1.out 0
        have z1 := blk_frozen HQ1.out 1
        have z2 := blk_frozen HQ1.out 2
        have z3 := blk_frozen HQ1.out 3
        have z4 := blk_frozen HQ1.out 4
        have z5 := blk_frozen HQ1.out 5
        have z6 := blk_frozen HQ1.out 6
        go_wp2_with (at_builtin; refine Kd.R_append kRow (w0 := w) base rfl (.tmp 82) (.tmp 87) 22 23 (.slice none 0 0) 24 rfl Try.underlying22 info_sb rfl (by decide) (by decide) u4 os Q1 [_] (fun k => some k = v.ownBlock ∨ w.heap.size ≤ k) _ rfl rfl ⟨_, rfl, frame_apart (own_only HQ2.out) HO.out⟩ ?aK ?aF (Kd.R_mono HO.out (fun _ hk => hk.1)) HB.out (Nat.le_trans HW.out HB.out.size) ?aL ?_; (case aK => exact fun k hk => ⟨HU.out.elim (fun h => .inl (by rw [← hk.1, h])) (fun h => h.elim (fun h => by rw [hk.1] at h; cases h) (fun ⟨b, h, hb⟩ => .inr (by rw [hk.1] at h; injection h with h; omega))), hk.2⟩); (case aF => exact fun k hk => .inr (Nat.le_trans HK.out.1 hk)); (case aL => have := HN.out; have := HP.out; omega); intro vo w4 ho hb hg hat; have n0_ := Aside0.mk (HQ1.out.keep (hg.block g (blk_lt HQ1.out) (Kd.R_ne HO.out HQ1.out (by decide)))); have n4_ := Aside0.mk (keep_grown HK.out hg (match hv : u4.ownBlock with | none => .inr (.inl rfl) | some k => (HO.out.1 k hv).1.elim (fun h => .inl h) (fun h => .inr (.inr ⟨k, rfl, h⟩)))); have HO4 := Aside0.mk (Kd.R_mono (ok' := fun k => (some k = v.ownBlock ∨ w.heap.size ≤ k) ∧ some k ≠ (Value.slice none 0 0).ownBlock) ho (fun k hk => ⟨hk, by simp [Value.ownBlock]⟩)); clear HO HB HK HQ1 HQ2 HU ho hat q0 q1 q2 q3 q4 q5 q6 z0 z1 z2 z3 z4 z5 z6; have HQ1 := n0_; have HO := HO4; have HB := Aside0.mk hb; have HK := n4_; clear n0_ HO4 hb n4_ hg; have HQ2 := Aside0.mk (Kd.R_nil (Kd.int .u8) 5 w4 base (fun _ => True)); have HU := Aside0.mk (show (Value.slice none 0 0).ownBlock = v.ownBlock ∨ (Value.slice none 0 0).ownBlock = none ∨ ∃ b, (Value.slice none 0 0).ownBlock = some b ∧ w.heap.size ≤ b from .inr (.inl rfl)); have q0 := HQ1.out.c0; have q1 := HQ1.out.c1; have q2 := HQ1.out.c2; have q3 := HQ1.out.c3; have q4 := HQ1.out.c4; have q5 := HQ1.out.c5; have q6 := HQ1.out.c6; have z0 := blk_frozen HQ1.out 0; have z1 := blk_frozen HQ1.out 1; have z2 := blk_frozen HQ1.out 2; have z3 := blk_frozen HQ1.out 3; have z4 := blk_frozen HQ1.out 4; have z5 := blk_frozen HQ1.out 5; have z6 := blk_frozen HQ1.out 6)
        have n0_ := Aside0.mk (HQ1.out.set0 0)
        have n1_ := Aside0.mk (Kd.R_set HQ2.out HQ1.out (by decide) 0 (.int .u8 0))
        have n2_ := Aside0.mk (Kd.R_set HO.out HQ1.out (by decide) 0 (.int .u8 0))
        have n3_ := Aside0.mk (HB.out.setCell (p := ⟨g, 0, none⟩) HG.out (.int .u8 0))
        have n4_ := Aside0.mk (KeepBut.set_ HK.out 0 (.int .u8 0))
        clear HQ1 HQ2 HO HB HK
        have HQ1 := n0_
        have HQ2 := n1_
        have HO := n2_
        have HB := n3_
        have HK := n4_
        clear n0_ n1_ n2_ n3_ n4_
        have n0_ := Aside0.mk (HQ1.out.set1 0)
        have n1_ := Aside0.mk (Kd.R_set HQ2.out HQ1.out (by decide) 1 (.int .u8 0))
        have n2_ := Aside0.mk (Kd.R_set HO.out HQ1.out (by decide) 1 (.int .u8 0))
        have n3_ := Aside0.mk (HB.out.setCell (p := ⟨g, 1, none⟩) HG.out (.int .u8 0))
        have n4_ := Aside0.mk (KeepBut.set_ HK.out 1 (.int .u8 0))
        clear HQ1 HQ2 HO HB HK
        have HQ1 := n0_
        have HQ2 := n1_
        have HO := n2_
        have HB := n3_
        have HK := n4_
        clear n0_ n1_ n2_ n3_ n4_
        have n0_ := Aside0.mk (HQ1.out.set2 0)
        have n1_ := Aside0.mk (Kd.R_set HQ2.out HQ1.out (by decide) 2 (.int .u8 0))
        have n2_ := Aside0.mk (Kd.R_set HO.out HQ1.out (by decide) 2 (.int .u8 0))
        have n3_ := Aside0.mk (HB.out.setCell (p := ⟨g, 2, none⟩) HG.out (.int .u8 0))
        have n4_ := Aside0.mk (KeepBut.set_ HK.out 2 (.int .u8 0))
        clear HQ1 HQ2 HO HB HK
        have HQ1 := n0_
        have HQ2 := n1_
        have HO := n2_
        have HB := n3_
        have HK := n4_
        clear n0_ n1_ n2_ n3_ n4_
        have n0_ := Aside0.mk (HQ1.out.set3 0)
        have n1_ := Aside0.mk (Kd.R_set HQ2.out HQ1.out (by decide) 3 (.int .u8 0))
        have n2_ := Aside0.mk (Kd.R_set HO.out HQ1.out (by decide) 3 (.int .u8 0))
        have n3_ := Aside0.mk (HB.out.setCell (p := ⟨g, 3, none⟩) HG.out (.int .u8 0))
        have n4_ := Aside0.mk (KeepBut.set_ HK.out 3 (.int .u8 0))
        clear HQ1 HQ2 HO HB HK
        have HQ1 := n0_
        have HQ2 := n1_
        have HO := n2_
        have HB := n3_
        have HK := n4_
        clear n0_ n1_ n2_ n3_ n4_
        have n0_ := Aside0.mk (HQ1.out.set4 0)
        have n1_ := Aside0.mk (Kd.R_set HQ2.out HQ1.out (by decide) 4 (.int .i64 0))
        have n2_ := Aside0.mk (Kd.R_set HO.out HQ1.out (by decide) 4 (.int .i64 0))
        have n3_ := Aside0.mk (HB.out.setCell (p := ⟨g, 4, none⟩) HG.out (.int .i64 0))
        have n4_ := Aside0.mk (KeepBut.set_ HK.out 4 (.int .i64 0))
        clear HQ1 HQ2 HO HB HK
        have HQ1 := n0_
        have HQ2 := n1_
        have HO := n2_
        have HB := n3_
        have HK := n4_
        clear n0_ n1_ n2_ n3_ n4_
        have n0_ := Aside0.mk (HQ1.out.set5 (.slice none 0 0))
        have n1_ := Aside0.mk (Kd.R_set HQ2.out HQ1.out (by decide) 5 (.slice none 0 0))
        have n2_ := Aside0.mk (Kd.R_set HO.out HQ1.out (by decide) 5 (.slice none 0 0))
        have n3_ := Aside0.mk (HB.out.setCell (p := ⟨g, 5, none⟩) HG.out (.slice none 0 0))
        have n4_ := Aside0.mk (KeepBut.set_ HK.out 5 (.slice none 0 0))
        clear HQ1 HQ2 HO HB HK
        have HQ1 := n0_
        have HQ2 := n1_
        have HO := n2_
        have HB := n3_
        have HK := n4_
        clear n0_ n1_ n2_ n3_ n4_
        have n0_ := Aside0.mk (HQ1.out.set6 false)
        have n1_ := Aside0.mk (Kd.R_set HQ2.out HQ1.out (by decide) 6 (.bool false))
        have n2_ := Aside0.mk (Kd.R_set HO.out HQ1.out (by decide) 6 (.bool false))
        have n3_ := Aside0.mk (HB.out.setCell (p := ⟨g, 6, none⟩) HG.out (.bool false))
        have n4_ := Aside0.mk (KeepBut.set_ HK.out 6 (.bool false))
        clear HQ1 HQ2 HO HB HK
        have HQ1 := n0_
        have HQ2 := n1_
        have HO := n2_
        have HB := n3_
        have HK := n4_
        clear n0_ n1_ n2_ n3_ n4_
        have HE2 := HE.out
        rw [frame_drop HN.out.2.1 hi, ← HX.out, feed_told (P := (a :: b :: d :: e :: Q)) (fun h => absurd h.1 (by simp)) ⟨by simp, by rw [show (((a :: b :: d :: e :: Q) ++ [x]).length - 4) = Q.length + 1 from by simp]; exact Hno.out⟩] at HE2
        rw [show os ++ ((((a :: b :: d :: e :: Q) ++ [x]).drop 4 :: (feedL [] (l.drop (i + 1).toNat)).1, (feedL [] (l.drop (i + 1).toNat)).2) : List (List Int) × List Int × Bool).1 = (os ++ [Q1]) ++ (feedL [] (l.drop (i + 1).toNat)).1 from by rw [HQ_.out]; simp] at HE2
        have HE2 := Aside0.mk HE2
        have e1 : wrap64 (i + 1) = i + 1 := by have := HN.out; have := HP.out; unfold wrap64; omega
        go_roundg (gk - 1)
        case measure => have := HN.out; omega
        case rel => exact ⟨i + 1, (os ++ [Q1]), [], (.slice none 0 0), by first | rfl | (rw [e1]), ⟨by have := HN.out; omega, by have := HN.out; omega, by omega, by have := HN.out; simp only [List.length_append, List.length_cons, List.length_nil] at this ⊢; omega, by have := HN.out; (try simp only [List.length_append, List.length_cons, List.length_nil]); omega⟩, ⟨HQ1.out, HQ2.out⟩, HO, HB, HK, HU, HE2⟩
      · skip
        have Hno := Aside0.mk hno
        clear hno
        have HQ1 := Aside0.mk (show FdAt wr g a b d e 4 u false from by have h_ := HQ.out.1; rw [show (min (a :: b :: d :: e :: Q).length 4) = 4 from Nat.min_eq_right (by simp)] at h_; exact h_)
        have HQ2 := Aside0.mk (show Kd.R (Kd.int .u8) 5 wr base (fun _ => True) u Q from HQ.out.2)
        clear HQ
        obtain ⟨Q1, hQ1⟩ : ∃ Q1, Q1 = Q ++ [x] := ⟨_, rfl⟩
        have HL1 := Aside0.mk (show Q1.length = Q.length + 1 by rw [hQ1, List.length_append]; rfl)
        have f9 : ((Q1.length : Int) == lenV a b d e) = false := by rw [HL1.out]; exact beq_eq_false_iff_ne.mpr Hno.out
        have HQ_ := Aside0.mk hQ1
        clear hQ1
        obtain ⟨Au, cu, hu⟩ : ∃ A c, u = .slice A Q.length c := Kd.R_slice HQ2.out
        subst hu
        have q0 := HQ1.out.c0
        have q1 := HQ1.out.c1
        have q2 := HQ1.out.c2
        have q3 := HQ1.out.c3
        have q4 := HQ1.out.c4
        have q5 := HQ1.out.c5
        have q6 := HQ1.out.c6
        have z0 := blk_frozen HQ1.out 0
        have z1 := blk_frozen HQ1.out 1
        have z2 := blk_frozen HQ1.out 2
        have z3 := blk_frozen HQ1.out 3
        have z4 := blk_frozen HQ1.out 4
        have z5 := blk_frozen HQ1.out 5
        have z6 := blk_frozen HQ1.out 6
        go_wp2_with (at_builtin; refine Kd.R_append (Kd.int .u8) (w0 := w) base rfl (.tmp 61) (.tmp 63) 23 5 (.int .u8 0) 1 rfl Try.underlying23 info_u8 rfl (by decide) (by decide) _ Q x [.int .u8 x] (fun _ => True) (fun _ => False) rfl rfl rfl (fun _ hk => hk.elim) (fun _ _ => trivial) HQ2.out HB.out (Nat.le_trans HW.out HB.out.size) ?aL ?_; (case aL => have h1_ := HN.out; have h2_ := HP.out; simp only [List.length_cons] at h1_; omega); intro u1 w1 ho hb hg hat; rw [← HQ_.out] at ho; obtain ⟨A1, c1, hu1⟩ : ∃ A c, u1 = .slice A Q1.length c := Kd.R_slice ho; subst hu1; have n0_ := Aside0.mk (HQ1.out.keep (hg.block g (blk_lt HQ1.out) (Kd.R_ne HQ2.out HQ1.out (by decide)))); have n2_ := Aside0.mk (Kd.R_after HO.out hg hat); have n4_ := Aside0.mk (keep_grown HK.out hg HU.out); have n5_ := Aside0.mk (show (Value.slice A1 Q1.length c1).ownBlock = v.ownBlock ∨ (Value.slice A1 Q1.length c1).ownBlock = none ∨ ∃ b, (Value.slice A1 Q1.length c1).ownBlock = some b ∧ w.heap.size ≤ b from hat.elim (fun h => by rw [h]; exact HU.out) (fun ⟨b_, h, hb⟩ => .inr (.inr ⟨b_, h, Nat.le_trans HK.out.1 hb⟩))); clear HO HB HK HQ1 HQ2 HU hat hx q0 q1 q2 q3 q4 q5 q6 z0 z1 z2 z3 z4 z5 z6; have HQ1 := n0_; have HO := n2_; have HB := Aside0.mk hb; have HK := n4_; have HU := n5_; clear n0_ n2_ n4_ n5_ hb hg; have HQ2 := Aside0.mk ho; clear ho; have q0 := HQ1.out.c0; have q1 := HQ1.out.c1; have q2 := HQ1.out.c2; have q3 := HQ1.out.c3; have q4 := HQ1.out.c4; have q5 := HQ1.out.c5; have q6 := HQ1.out.c6; have z0 := blk_frozen HQ1.out 0; have z1 := blk_frozen HQ1.out 1; have z2 := blk_frozen HQ1.out 2; have z3 := blk_frozen HQ1.out 3; have z4 := blk_frozen HQ1.out 4; have z5 := blk_frozen HQ1.out 5; have z6 := blk_frozen HQ1.out 6)
        clear q0 q1 q2 q3 q4 q5 q6 z0 z1 z2 z3 z4 z5 z6
        have n0_ := Aside0.mk (HQ1.out.set5 (.slice A1 Q1.length c1))
        have n1_ := Aside0.mk (Kd.R_set HQ2.out HQ1.out (by decide) 5 (.slice A1 Q1.length c1))
        have n2_ := Aside0.mk (Kd.R_set HO.out HQ1.out (by decide) 5 (.slice A1 Q1.length c1))
        have n3_ := Aside0.mk (HB.out.setCell (p := ⟨g, 5, none⟩) HG.out (.slice A1 Q1.length c1))
        have n4_ := Aside0.mk (KeepBut.set_ HK.out 5 (.slice A1 Q1.length c1))
        clear HQ1 HQ2 HO HB HK
        have HQ1 := n0_
        have HQ2 := n1_
        have HO := n2_
        have HB := n3_
        have HK := n4_
        clear n0_ n1_ n2_ n3_ n4_
        generalize ((World.setCell w1 ⟨g, 5, none⟩ (.slice A1 Q1.length c1))) = w2 at HQ1 HQ2 HO HB HK ⊢
        have q0 := HQ1.out.c0
        have q1 := HQ1.out.c1
        have q2 := HQ1.out.c2
        have q3 := HQ1.out.c3
        have q4 := HQ1.out.c4
        have q5 := HQ1.out.c5
        have q6 := HQ1.out.c6
        have z0 := blk_frozen HQ1.out 0
        have z1 := blk_frozen HQ1.out 1
        have z2 := blk_frozen HQ1.out 2
        have z3 := blk_frozen HQ1.out 3
        have z4 := blk_frozen HQ1.out 4
        have z5 := blk_frozen HQ1.out 5
        have z6 := blk_frozen HQ1.out 6
        go_quiet ((go_at_call 19; exact Calls.quiet_of_same (frame_length.calls g a b d e 4 _ false _ (HQ1.out.drewN _))))
        have n0_ := Aside0.mk (HQ1.out.drewN nq)
        have n1_ := Aside0.mk (Kd.R_drewN HQ2.out nq)
        have n2_ := Aside0.mk (Kd.R_drewN HO.out nq)
        have n3_ := Aside0.mk (pw_below_drewN HB.out nq)
        have n4_ := Aside0.mk (keep_drewN HK.out nq)
        clear q0 q1 q2 q3 q4 q5 q6 z0 z1 z2 z3 z4 z5 z6 HQ1 HQ2 HO HB HK
        generalize (w2).drewN nq = w3 at n0_ n1_ n2_ n3_ n4_ ⊢
        have HQ1 := n0_
        have HQ2 := n1_
        have HO := n2_
        have HB := n3_
        have HK := n4_
        clear n0_ n1_ n2_ n3_ n4_
        have q0 := HQ1.out.c0
        have q1 := HQ1.out.c1
        have q2 := HQ1.out.c2
        have q3 := HQ1.out.c3
        have q4 := HQ1.out.c4
        have q5 := HQ1.out.c5
        have q6 := HQ1.out.c6
        have z0 := blk_frozen HQ1.out 0
        have z1 := blk_frozen HQ1.out 1
        have z2 := blk_frozen HQ1.out 2
        have z3 := blk_frozen HQ1.out 3
        have z4 := blk_frozen HQ1.out 4
        have z5 := blk_frozen HQ1.out 5
        have z6 := blk_frozen HQ1.out 6
        go_wp2
        have HE2 := HE.out
        rw [frame_drop HN.out.2.1 hi, ← HX.out, feed_more (P := (a :: b :: d :: e :: Q)) (fun h => absurd h.1 (by simp)) (fun h => Hno.out (by have h2 := h.2; rw [show (((a :: b :: d :: e :: Q) ++ [x]).length - 4) = Q.length + 1 from by simp] at h2; exact h2))] at HE2
        rw [show (a :: b :: d :: e :: Q) ++ [x] = a :: b :: d :: e :: Q1 from by rw [HQ_.out]; rfl] at HE2
        have HE2 := Aside0.mk HE2
        have HQ1 := Aside0.mk (show FdAt w3 g a b d e ((min (a :: b :: d :: e :: Q1).length 4 : Nat) : Int) (.slice A1 Q1.length c1) false from by rw [show (min (a :: b :: d :: e :: Q1).length 4) = 4 from Nat.min_eq_right (by simp)]; exact HQ1.out)
        have HL2 := HL1.out
        have e1 : wrap64 (i + 1) = i + 1 := by have := HN.out; have := HP.out; unfold wrap64; omega
        go_roundg (gk - 1)
        case measure => have := HN.out; omega
        case rel => exact ⟨i + 1, os, (a :: b :: d :: e :: Q1), _, by first | rfl | (rw [e1]), ⟨by have := HN.out; omega, by have := HN.out; omega, by omega, by have := HN.out; simp only [List.length_append, List.length_cons, List.length_nil] at this ⊢; omega, by have := HN.out; (try simp only [List.length_append, List.length_cons, List.length_nil]); omega⟩, ⟨HQ1.out, HQ2.out⟩, HO, HB, HK, HU, HE2⟩
    · have hd : decide (i < (l.length : Int)) = false := decide_eq_false hi
      go_wp2
      have hd0 : l.drop i.toNat = [] := List.drop_eq_nil_of_le (by have := HN.out; omega)
      have he := HE.out
      rw [hd0] at he
      simp only [feedL, List.append_nil, Prod.mk.injEq] at he
      obtain ⟨rfl, rfl, rfl⟩ := he
      refine bodyPost_ret (v := .tuple #[u4, .bool true]) (by simp [results, Try.results12, go_sem]) rfl ?_
      exact ⟨u4, u, rfl, HO.out, by simpa using HQ.out, HU.out, HB.out, HK.out⟩
set_option maxHeartbeats 1000000 in
set_option maxRecDepth 100000 in
theorem feed_nil (v : Value) (w : World) : Calls Try.prog 12 #[.pointer none, v] w fun e w' => e = .returned (.tuple #[.slice none 0 0, .bool false]) ∧ w' = w := by
  go_enter Try.func12, Try.ntmps12
  go_wp2
  refine bodyPost_ret (v := .tuple #[.slice none 0 0, .bool false]) (by simp [results, Try.results12, go_sem]) rfl ⟨rfl, rfl⟩
set_option maxHeartbeats 1000000 in
set_option maxRecDepth 100000 in
theorem feed_over (g : Nat) (h0 h1 h2 h3 rd : Int) (u : Value) (v : Value) (w : World) (h : FdAt w g h0 h1 h2 h3 rd u true) : Calls Try.prog 12 #[.pointer (some ⟨g, 0, none⟩), v] w fun e w' => e = .returned (.tuple #[.slice none 0 0, .bool false]) ∧ w' = w := by
  have q6 := h.c6
  clear h
  go_enter Try.func12, Try.ntmps12
  go_wp2
  refine bodyPost_ret (v := .tuple #[.slice none 0 0, .bool false]) (by simp [results, Try.results12, go_sem]) rfl ⟨rfl, rfl⟩
/-! ### frame: what the laws' walks use -/
theorem mk_C (W : World) (g e : Nat) (xs : List Int) (fz : Nat × Nat) (hx : xs.length ≤ 9223372036854775807) (hb : W.heap[g]? = some (.cells (xs.map (Value.int .u8)).toArray e fz)) : Kd.C (Kd.int .u8) W (some ⟨g, 0, none⟩) xs.length xs := by
  refine Kd.C_of_reads (d := (0 : Int)) (h1 := fun _ => rfl) ⟨rfl, hx, fun _ => ⟨_, rfl, fun j hj => ?_⟩⟩
  have ha : (⟨g, 0, none⟩ : Addr).add j = ⟨g, j, none⟩ := by unfold Addr.add; split <;> simp_all
  rw [ha]
  unfold World.cell?
  simp only [hb]
  simp [List.getElem?_eq_getElem hj, List.getD_eq_getElem?_getD]
/-- A feeder, over or not. -/
def FdX (W : World) (g base : Nat) (P : List Int) (bad : Bool) (v : Value) : Prop := if bad = true then FdAt W g 0 0 0 0 0 v true ∧ v = .slice none 0 0 ∧ P = [] else FdS W g base P v
/-- What Feed tells, of a feeder that is over or not. -/
def feedX (P : List Int) (bad : Bool) (l : List Int) : List (List Int) × List Int × Bool := if bad = true then ([], [], true) else feedL P l
theorem feedL_bad (l : List Int) : ∀ P, (feedL P l).2.2 = true → (feedL P l).2.1 = [] := by
  induction l with
  | nil => intro P h; simp [feedL] at h
  | cons x l ih =>
    intro P h
    unfold feedL at h ⊢
    split
    · rfl
    · rename_i h1
      rw [if_neg h1] at h
      split
      · rename_i h2
        rw [if_pos h2] at h
        exact ih _ h
      · rename_i h2
        rw [if_neg h2] at h
        exact ih _ h
def FdP (g base : Nat) (v : Value) (w : World) (oF : List (List Int)) (PF : List Int) (bF : Bool) (e : Ending) (w' : World) : Prop := ∃ vo v', e = .returned (.tuple #[vo, .bool (!bF)]) ∧
  kRow.R 23 w' base (fun k => (some k = v.ownBlock ∨ w.heap.size ≤ k) ∧ some k ≠ v'.ownBlock) vo oF ∧ FdX w' g base PF bF v' ∧ (v'.ownBlock = v.ownBlock ∨ v'.ownBlock = none ∨ ∃ b, v'.ownBlock = some b ∧ w.heap.size ≤ b) ∧ Below base w w' ∧ KeepBut w w' g v.ownBlock
theorem frame_Feed.calls (g base : Nat) (P : List Int) (bad : Bool) (v : Value) (A : Option Addr) (c : Nat) (l : List Int) (w : World) (oF : List (List Int)) (PF : List Int) (bF : Bool) (hg : base ≤ g) (hw : base ≤ w.heap.size)
    (hF : FdX w g base P bad v) (hr : ∀ W, KeepBut w W g v.ownBlock → Kd.C (Kd.int .u8) W A l.length l) (hc : l.length ≤ c) (hP : P.length + l.length ≤ 1000000000) (hf : feedX P bad l = (oF, PF, bF)) :
    Calls Try.prog 12 #[.pointer (some ⟨g, 0, none⟩), .slice A l.length c] w (FdP g base v w oF PF bF) := by
  cases bad
  · have hf' : feedL P l = (oF, PF, bF) := hf
    refine (feed_live g base P v A c l w oF PF bF hg hw hF hr hc hP hf').mono ?_
    rintro e w' ⟨vo, v', he, ho, hx, hu, hb, hk⟩
    refine ⟨vo, v', he, ho, ?_, hu, hb, hk⟩
    unfold FdX
    split at hx
    · rename_i h1
      rw [if_pos h1]
      refine ⟨hx.1, hx.2, ?_⟩
      have := feedL_bad l P (by rw [hf']; exact h1)
      rw [hf'] at this
      exact this
    · rename_i h1
      rw [if_neg h1]
      exact hx
  · have hF' : FdAt w g 0 0 0 0 0 v true ∧ v = .slice none 0 0 ∧ P = [] := hF
    obtain ⟨h1, rfl, rfl⟩ := hF'
    simp only [feedX, if_true, Prod.mk.injEq] at hf
    obtain ⟨rfl, rfl, rfl⟩ := hf
    refine (feed_over g 0 0 0 0 0 _ _ w h1).mono ?_
    rintro e w' ⟨rfl, rfl⟩
    exact ⟨_, .slice none 0 0, rfl, Kd.R_nil _ _ _ _ _, hF, .inl rfl, Below.refl _ _, KeepBut.refl _ _ _⟩
theorem FdX.slice {W : World} {g base : Nat} {P : List Int} {bad : Bool} {v : Value} (h : FdX W g base P bad v) : ∃ h0 h1 h2 h3 A c, FdAt W g h0 h1 h2 h3 ((min P.length 4 : Nat) : Int) (.slice A (P.length - 4) c) bad := by
  cases bad
  · have h' : FdS W g base P v := h
    obtain ⟨A, c, rfl⟩ := Kd.R_slice h'.2
    rw [List.length_drop] at h'
    exact ⟨_, _, _, _, A, c, h'.1⟩
  · have h' : FdAt W g 0 0 0 0 0 v true ∧ v = .slice none 0 0 ∧ P = [] := h
    obtain ⟨h1, rfl, rfl⟩ := h'
    exact ⟨0, 0, 0, 0, none, 0, h1⟩
theorem FdX.waiting {W : World} {g base : Nat} {P : List Int} {bad : Bool} {v : Value} (h : FdX W g base P bad v) (hP : P.length ≤ 1000000000) : Calls Try.prog 15 #[.pointer (some ⟨g, 0, none⟩)] W fun e w' => e = .returned (.int .i64 (P.length : Int)) ∧ ∃ m, w' = W.drewN m := by
  obtain ⟨h0, h1, h2, h3, A, c, hF⟩ := h.slice
  refine (frame_Waiting.calls g h0 h1 h2 h3 _ A _ c bad W hF (by omega) (by omega)).mono ?_
  rintro e w' ⟨rfl, h⟩
  exact ⟨by rw [show ((min P.length 4 : Nat) : Int) + ((P.length - 4 : Nat) : Int) = (P.length : Int) by omega], h⟩
theorem FdX.step {W W1 : World} {g base : Nat} {P : List Int} {bad : Bool} {v : Value} (h : FdX W g base P bad v) (hg : W1.heap[g]? = W.heap[g]?) (hv : ∀ k, v.ownBlock = some k → W1.heap[k]? = W.heap[k]?) : FdX W1 g base P bad v := by
  cases bad
  · have h' : FdS W g base P v := h
    exact ⟨h'.1.keep hg, Kd.R_mono (Kd.R_move (own_only h'.2) hv) (fun _ _ => trivial)⟩
  · have h' : FdAt W g 0 0 0 0 0 v true ∧ v = .slice none 0 0 ∧ P = [] := h
    exact ⟨h'.1.keep hg, h'.2⟩
theorem FdX.lt {W : World} {g base : Nat} {P : List Int} {bad : Bool} {v : Value} (h : FdX W g base P bad v) : g < W.heap.size := by
  cases bad
  · exact blk_lt (show FdS W g base P v from h).1
  · exact blk_lt (show FdAt W g 0 0 0 0 0 v true ∧ v = .slice none 0 0 ∧ P = [] from h).1
theorem FdX.own {W : World} {g base : Nat} {P : List Int} {bad : Bool} {v : Value} (h : FdX W g base P bad v) : ∀ k, v.ownBlock = some k → base ≤ k ∧ k < W.heap.size := by
  intro k hk
  cases bad
  · have h' : FdS W g base P v := h
    exact ⟨Kd.R_base h'.2 k hk, Kd.R_lt h'.2 k hk⟩
  · have h' : FdAt W g 0 0 0 0 0 v true ∧ v = .slice none 0 0 ∧ P = [] := h
    rw [h'.2.1] at hk
    cases hk
theorem FdX.below {W W1 : World} {g base : Nat} {P : List Int} {bad : Bool} {v : Value} (h : FdX W g base P bad v) (hb : Below W.heap.size W W1) : FdX W1 g base P bad v := h.step (hb.block g h.lt) (fun k hk => hb.block k (h.own k hk).2)
theorem FdX.fresh {W : World} {g base : Nat} (h : FdAt W g 0 0 0 0 0 (.slice none 0 0) false) : FdX W g base [] false (.slice none 0 0) := ⟨h, Kd.R_nil _ _ _ _ _⟩
/-- A row elder than the law's call is read on. -/
theorem came_C {w0 w W : World} {g : Nat} {row : Option Nat} {A : Option Addr} {n : Nat} {l : List Int} (h : Kd.C (Kd.int .u8) w0 A n l) (hb : Below w0.heap.size w0 w) (hk : KeepBut w W g row) (hg : w0.heap.size ≤ g) (hr : ∀ k, row = some k → w0.heap.size ≤ k) : Kd.C (Kd.int .u8) W A n l :=
  (Kd.heap_int .u8).C (fun k hlt => (hk.2 k (Nat.lt_of_lt_of_le hlt hb.size) (by omega) (fun e => by have := hr k e.symm; omega)).trans (hb.block k hlt)) h
/-- A literal that was just laid. -/
theorem lit_C {w W : World} {g : Nat} {row : Option Nat} {xs : List Int} {cs : Array Value} (e : Nat) (hx : xs.length ≤ 9223372036854775807) (hcs : cs = (xs.map (Value.int .u8)).toArray) (hk : KeepBut (w.alloc (.cells cs e (0, 0))) W g row) (hg : w.heap.size ≠ g) (hr : ∀ k, row = some k → k < w.heap.size) : Kd.C (Kd.int .u8) W (some ⟨w.heap.size, 0, none⟩) xs.length xs := by
  subst hcs
  exact mk_C W w.heap.size e xs (0, 0) hx ((hk.2 w.heap.size (by simp) hg (fun e => by have := hr _ e.symm; omega)).trans (heap_alloc_new w _))
theorem awake_1 : feedX [] false [0, 0] = ([], [0, 0], false) := by decide
theorem awake_2 : feedX [0, 0] false [0, 1, 97, 0] = ([[97]], [0], false) := by decide +kernel
set_option maxHeartbeats 2000000 in
set_option maxRecDepth 100000 in
theorem bollardlaw19_awake.calls (w : World) : Calls Try.prog 10 #[] w fun e w' => e = .returned (.bool true) ∧ Below w.heap.size w w' := by
  go_enter Try.func10, Try.ntmps10
  go_wp2_with fail
  refine (frame_New.calls _).mono ?_
  rintro e w1 ⟨rfl, hF, hb⟩
  have HF := Aside0.mk (FdX.fresh (base := w.heap.size) hF)
  have HB := Aside0.mk hb
  clear hF hb
  go_wp2_with fail
  have HF1 := Aside0.mk (HF.out.below (below_alloc (Below.refl _ _) (.cells #[.int .u8 0, .int .u8 0] 5 (0, 0))))
  have HB1 := Aside0.mk (below_alloc HB.out (.cells #[.int .u8 0, .int .u8 0] 5 (0, 0)))
  refine (frame_Feed.calls w.heap.size w.heap.size [] false _ _ 2 [0, 0] _ _ _ _ (Nat.le_refl _) HB1.out.size HF1.out (fun W hk => lit_C 5 (by decide) rfl hk (by have := HF.out.lt; omega) (fun k hk => by cases hk)) (by decide) (by decide) awake_1).mono ?_
  rintro e w2 ⟨vo, v2, rfl, ho, hx, hu, hb, hk⟩
  obtain ⟨A2, c2, e2⟩ : ∃ A c, vo = .slice A 0 c := Kd.R_slice ho
  subst e2
  have HF2 := Aside0.mk hx
  have HB2 := Aside0.mk (HB1.out.trans hb)
  clear ho hx hu hb hk HF1 HB1 HF HB
  go_wp2_with fail
  have HF3 := Aside0.mk (HF2.out.below (below_alloc (Below.refl _ _) (.cells #[.int .u8 0, .int .u8 1, .int .u8 97, .int .u8 0] 5 (0, 0))))
  have HB3 := Aside0.mk (below_alloc HB2.out (.cells #[.int .u8 0, .int .u8 1, .int .u8 97, .int .u8 0] 5 (0, 0)))
  refine (frame_Feed.calls w.heap.size w.heap.size [0, 0] false _ _ 4 [0, 1, 97, 0] _ _ _ _ (Nat.le_refl _) HB3.out.size HF3.out (fun W hk => lit_C 5 (by decide) rfl hk (by have := HF2.out.lt; omega) (fun k hk => (HF2.out.own k hk).2)) (by decide) (by decide) awake_2).mono ?_
  rintro e w4 ⟨vo, v4, rfl, ho, hx, hu, hb, hk⟩
  obtain ⟨A4, c4, e4⟩ : ∃ A c, vo = .slice A 1 c := Kd.R_slice ho
  subst e4
  have HF4 := Aside0.mk hx
  have HB4 := Aside0.mk (HB3.out.trans hb)
  have HO4 := Aside0.mk (Kd.R_reads' ho).2.2
  clear ho hx hu hb hk HF3 HB3 HF2 HB2
  obtain ⟨ad, A5, c5, rfl, hc5, hl5, hC5⟩ := at_L1 HO4.out 0 (by decide) (by decide)
  have hx5 : w4.cell? ad = some (.slice A5 1 c5) := by
    have h_ := hc5
    rw [show ((0 : Int)).toNat = 0 from rfl, Addr.add_zero'] at h_
    exact h_
  have hs : strOfNums [97] = ⟨#[97]⟩ := by decide +kernel
  have hcv : (convert 23 9 (.slice A5 1 c5)).run Try.prog w4 = .ok (.string ⟨#[97]⟩) w4 := by
    have h_ := Kd.C_string (P := Try.prog) (A := A5) (c := c5) Try.underlying23 Try.underlying5 Try.underlying9 (show Kd.C (Kd.int .u8) w4 A5 [97].length [97] from hC5)
    rw [hs] at h_
    exact h_
  clear hc5 hl5 hC5 HO4 hs
  go_wp2_with (go_at_call 15; refine (HF4.out.waiting (by decide)).mono ?_; rintro e_ w_ ⟨rfl, m, rfl⟩)
  go_ret
  exact ⟨rfl, pw_below_drewN HB4.out m⟩

end Go.Proofs.Ytgicdiblfcnelaa.PFr
