import Derived.Test.YtdlkofmcioalfaaChP
import Derived.Outline
import Derived.StillTailTactics
import Derived.RegionTactic
import Derived.BigRegion
import Derived.Lib.BufferWrite
namespace Go.Proofs.Ytdlkofmcioalfaa.PCk
open Go.RowKit Go.Proofs.YtdlkofmcioalfaaW.PrintWords Go.Proofs.YtdlkofmcioalfaaW.PrintLast Go.Proofs.YtdlkofmcioalfaaW.PrintMore
attribute [local go_sem] max2_int min2_int max_two min_two max_three min_three max_four min_four
set_option linter.unusedVariables false
set_option linter.unusedSimpArgs false

/-! ### check.New, chapter 24's awake -/
set_option maxHeartbeats 4000000 in
set_option maxRecDepth 100000 in
theorem check_New.calls (w : World) : Calls Try.prog 10 #[] w fun e w' => ∃ g, e = .returned (.pointer (some ⟨g, 0, none⟩)) ∧ w.heap.size ≤ g ∧ LogP w' g N0 N0 N0 ∧ Below w.heap.size w w' := by
  go_enter Try.func10, Try.ntmps10
  go_wp2_with fail
  go_ret
  exact ⟨_, rfl, Nat.le_refl _, ⟨none, none, none, heap_alloc_new w _, fun _ => rfl, fun _ => rfl, fun _ => rfl, ShE.none, ShR.none, ShS.none⟩, bel1 w _⟩
set_option maxHeartbeats 4000000 in
set_option maxRecDepth 100000 in
theorem check_nil.calls (t : ByteArray) (p st nx fr : Int) (v : Value) (w : World) : Calls Try.prog 11 #[.pointer none, .string t, .int .i64 p, .int .i64 st, .int .i64 nx, .int .i64 fr, v] w fun e w' => e = .returned (.int .i64 0) ∧ Below w.heap.size w w' := by
  go_enter Try.func11, Try.ntmps11
  go_wp2_with fail
  go_ret
  exact ⟨rfl, Below.refl _ _⟩
theorem rows_C {W : World} {base : Nat} {v : Value} {xs : List SB} (h : Kd.R k61 61 W base (fun _ => True) v xs) : ∃ A c, v = .slice A xs.length c ∧ xs.length ≤ c ∧ Kd.C k61 W A xs.length xs := by
  obtain ⟨A, c, rfl⟩ := Kd.R_slice h
  exact ⟨A, c, rfl, (Kd.R_reads' h).2.1, (Kd.R_reads' h).2.2⟩
theorem rows_nil (w : World) : Kd.C k61 w none 0 [] := (Kd.R_reads' (Kd.R_nil k61 61 w 0 (fun _ => True))).2.2
theorem _root_.Go.World.grownBy.toBelow {w w1 : World} (h : w.grownBy w1 none) : Below w.heap.size w w1 := ⟨h.os, h.tape, h.output, h.size, fun k hk => h.block k hk (by simp)⟩
theorem aw_arg (st nx : Int) (l : List SB) (hs : (Lit.int .i64 st).wf = true) (hn : (Lit.int .i64 nx).wf = true) (hl : l.length ≤ 140737488355328) (hw : ∀ b ∈ l, ∃ i v, b = bx i v ∧ (Lit.int .i64 i).wf = true) : SawArg aT 0 st nx 0 l :=
  ⟨by decide, by decide, hs, hn, by decide, hl, fun b hb => by
    obtain ⟨i, v, rfl, hi⟩ := hw b hb
    exact bx_arg i hi v⟩
set_option maxHeartbeats 4000000 in
set_option maxRecDepth 100000 in
theorem bollardlaw24_awake.calls (w : World) : Calls Try.prog 9 #[] w fun e w' => e = .returned (.bool true) ∧ Below w.heap.size w w' := by
  have ONE := Aside0.mk (fun (i : Int) (v : ByteArray) (W : World) => bollardlaw24_one.calls i v i 1 0 0 [(⟨false, (⟨#[]⟩ : ByteArray), true, v, 0, 0⟩ : SR)] W rfl)
  go_enter Try.func9, Try.ntmps9
  go_wp2_with fail
  refine (check_New.calls _).mono ?_
  rintro e w1 ⟨g, rfl, hg, hL, hb⟩
  have G := Aside0.mk hg
  have B := Aside0.mk hb
  have L := Aside0.mk hL
  clear hg hb hL
  go_wp2_with fail
  refine (ONE.out 0 aX _).mono ?_
  rintro e w2 ⟨v2, rfl, hv_, hb_⟩
  have V2_ := Aside0.mk (Kd.R_lower hv_ B.out.size)
  have B_ := Aside0.mk (below_step B.out hb_)
  have L_ := Aside0.mk (L.out.below hb_)
  clear hv_ hb_ B L 
  have B := B_
  have L := L_
  have V2 := V2_
  clear B_ L_ V2_
  go_wp2_with fail
  refine (ONE.out 1 aY _).mono ?_
  rintro e w3 ⟨v3, rfl, hv_, hb_⟩
  have V3_ := Aside0.mk (Kd.R_lower hv_ B.out.size)
  have B_ := Aside0.mk (below_step B.out hb_)
  have L_ := Aside0.mk (L.out.below hb_)
  have V2_ := Aside0.mk (Kd.R_below V2.out hb_)
  clear hv_ hb_ B L V2
  have B := B_
  have L := L_
  have V2 := V2_
  have V3 := V3_
  clear B_ L_ V2_ V3_
  go_wp2_with (first | ((with_reducible refine gate_dst (N := 9) rfl ?_); (try refine gate_guard (by kernel_rfl) ?_); refine Kd.R_lit k61 (w0 := w) w.heap.size 61 ?hg (N := 9) ?hd (xs := ([bx 0 aX, bx 1 aY] : List SB)) (inner := [.int .i64 0, .int .i64 1, .int .i64 0, .int .i64 0, v2, .int .i64 1, .int .i64 1, .int .i64 0, .int .i64 0, v3]) (ok := fun _ => True) (okp := fun _ => True) ?hr ?hp (fun _ hk => hk) trivial B.out B.out.size (by simp) ?_; (case hd => rfl); (case hg => rfl); (case hr => first | (go_simp; done) | (go_simp; rfl)); (case hp => exact Reps.c5 (show Kd.M k61 _ _ _ (bx 0 aX) [.int .i64 0, .int .i64 1, .int .i64 0, .int .i64 0, v2] from k61_mkM _ _ _ (bx 0 aX) V2.out) (Reps.c5 (show Kd.M k61 _ _ _ (bx 1 aY) [.int .i64 1, .int .i64 1, .int .i64 0, .int .i64 0, v3] from k61_mkM _ _ _ (bx 1 aY) V3.out) (Reps.none _ _))); intro vl wl hvl_ hbl_ hgl_ hnl_; obtain ⟨Al, cl, el_, hcl_, hCl_⟩ := rows_C hvl_; subst el_; have LW_ := Aside0.mk (LogP.below L.out (World.grownBy.toBelow hgl_)); have BW_ := Aside0.mk hbl_; have CW := Aside0.mk (And.intro hcl_ hCl_); clear hvl_ hbl_ hgl_ hnl_ hcl_ hCl_ B L; have B := BW_; have L := LW_; clear BW_ LW_))
  refine (check_Log_Saw.calls g N0 N0 N0 aT 0 0 2 0 Al cl [bx 0 aX, bx 1 aY] _ L.out CW.out.2 CW.out.1 (aw_arg 0 2 [bx 0 aX, bx 1 aY] (by decide) (by decide) (by decide) (fun b hb => by simp only [List.mem_cons, List.not_mem_nil, or_false] at hb; rcases hb with rfl | rfl <;> exact ⟨_, _, rfl, by decide⟩))).mono ?_
  rintro e w4 ⟨rfl, hl_, hg_⟩
  have B_ := Aside0.mk (chg_old B.out G.out hg_)
  rw [aw1] at hl_
  have L_ := Aside0.mk hl_
  clear hl_ hg_ B L CW V2 V3
  rw [aw1]
  have B := B_
  have L := L_
  clear B_ L_
  go_wp2_with fail
  refine (check_Log_Saw.calls g awE awR awS aT 0 0 1 0 none 0 [] _ L.out (rows_nil _) (Nat.le_refl 0) (aw_arg 0 1 [] (by decide) (by decide) (by decide) (fun b hb => by cases hb))).mono ?_
  rintro e w5 ⟨rfl, hl_, hg_⟩
  have B_ := Aside0.mk (chg_old B.out G.out hg_)
  rw [aw2] at hl_
  have L_ := Aside0.mk hl_
  clear hl_ hg_ B L
  rw [aw2]
  have B := B_
  have L := L_
  clear B_ L_
  go_wp2_with fail
  refine (ONE.out 1 aY _).mono ?_
  rintro e w6 ⟨v6, rfl, hv_, hb_⟩
  have V6_ := Aside0.mk (Kd.R_lower hv_ B.out.size)
  have B_ := Aside0.mk (below_step B.out hb_)
  have L_ := Aside0.mk (L.out.below hb_)
  clear hv_ hb_ B L 
  have B := B_
  have L := L_
  have V6 := V6_
  clear B_ L_ V6_
  go_wp2_with fail
  refine (ONE.out 0 aX _).mono ?_
  rintro e w7 ⟨v7, rfl, hv_, hb_⟩
  have V7_ := Aside0.mk (Kd.R_lower hv_ B.out.size)
  have B_ := Aside0.mk (below_step B.out hb_)
  have L_ := Aside0.mk (L.out.below hb_)
  have V6_ := Aside0.mk (Kd.R_below V6.out hb_)
  clear hv_ hb_ B L V6
  have B := B_
  have L := L_
  have V6 := V6_
  have V7 := V7_
  clear B_ L_ V6_ V7_
  go_wp2_with (first | ((with_reducible refine gate_dst (N := 20) rfl ?_); (try refine gate_guard (by kernel_rfl) ?_); refine Kd.R_lit k61 (w0 := w) w.heap.size 61 ?hg (N := 20) ?hd (xs := ([bx 1 aY, bx 0 aX] : List SB)) (inner := [.int .i64 1, .int .i64 1, .int .i64 0, .int .i64 0, v6, .int .i64 0, .int .i64 1, .int .i64 0, .int .i64 0, v7]) (ok := fun _ => True) (okp := fun _ => True) ?hr ?hp (fun _ hk => hk) trivial B.out B.out.size (by simp) ?_; (case hd => rfl); (case hg => rfl); (case hr => first | (go_simp; done) | (go_simp; rfl)); (case hp => exact Reps.c5 (show Kd.M k61 _ _ _ (bx 1 aY) [.int .i64 1, .int .i64 1, .int .i64 0, .int .i64 0, v6] from k61_mkM _ _ _ (bx 1 aY) V6.out) (Reps.c5 (show Kd.M k61 _ _ _ (bx 0 aX) [.int .i64 0, .int .i64 1, .int .i64 0, .int .i64 0, v7] from k61_mkM _ _ _ (bx 0 aX) V7.out) (Reps.none _ _))); intro vl wl hvl_ hbl_ hgl_ hnl_; obtain ⟨Al, cl, el_, hcl_, hCl_⟩ := rows_C hvl_; subst el_; have LW_ := Aside0.mk (LogP.below L.out (World.grownBy.toBelow hgl_)); have BW_ := Aside0.mk hbl_; have CW := Aside0.mk (And.intro hcl_ hCl_); clear hvl_ hbl_ hgl_ hnl_ hcl_ hCl_ B L; have B := BW_; have L := LW_; clear BW_ LW_))
  refine (check_Log_Saw.calls g awE awR awS aT 0 0 2 0 Al cl [bx 1 aY, bx 0 aX] _ L.out CW.out.2 CW.out.1 (aw_arg 0 2 [bx 1 aY, bx 0 aX] (by decide) (by decide) (by decide) (fun b hb => by simp only [List.mem_cons, List.not_mem_nil, or_false] at hb; rcases hb with rfl | rfl <;> exact ⟨_, _, rfl, by decide⟩))).mono ?_
  rintro e w8 ⟨rfl, hl_, hg_⟩
  have B_ := Aside0.mk (chg_old B.out G.out hg_)
  rw [aw3] at hl_
  have L_ := Aside0.mk hl_
  clear hl_ hg_ B L CW V6 V7
  rw [aw3]
  have B := B_
  have L := L_
  clear B_ L_
  go_wp2_with fail
  refine (ONE.out 0 aZ _).mono ?_
  rintro e w9 ⟨v9, rfl, hv_, hb_⟩
  have V9_ := Aside0.mk (Kd.R_lower hv_ B.out.size)
  have B_ := Aside0.mk (below_step B.out hb_)
  have L_ := Aside0.mk (L.out.below hb_)
  clear hv_ hb_ B L 
  have B := B_
  have L := L_
  have V9 := V9_
  clear B_ L_ V9_
  go_wp2_with (first | ((with_reducible refine gate_dst (N := 27) rfl ?_); (try refine gate_guard (by kernel_rfl) ?_); refine Kd.R_lit k61 (w0 := w) w.heap.size 61 ?hg (N := 27) ?hd (xs := ([bx 0 aZ] : List SB)) (inner := [.int .i64 0, .int .i64 1, .int .i64 0, .int .i64 0, v9]) (ok := fun _ => True) (okp := fun _ => True) ?hr ?hp (fun _ hk => hk) trivial B.out B.out.size (by simp) ?_; (case hd => rfl); (case hg => rfl); (case hr => first | (go_simp; done) | (go_simp; rfl)); (case hp => exact Reps.c5 (show Kd.M k61 _ _ _ (bx 0 aZ) [.int .i64 0, .int .i64 1, .int .i64 0, .int .i64 0, v9] from k61_mkM _ _ _ (bx 0 aZ) V9.out) (Reps.none _ _)); intro vl wl hvl_ hbl_ hgl_ hnl_; obtain ⟨Al, cl, el_, hcl_, hCl_⟩ := rows_C hvl_; subst el_; have LW_ := Aside0.mk (LogP.below L.out (World.grownBy.toBelow hgl_)); have BW_ := Aside0.mk hbl_; have CW := Aside0.mk (And.intro hcl_ hCl_); clear hvl_ hbl_ hgl_ hnl_ hcl_ hCl_ B L; have B := BW_; have L := LW_; clear BW_ LW_))
  refine (check_Log_Saw.calls g awE awR awS aT 0 0 2 0 Al cl [bx 0 aZ] _ L.out CW.out.2 CW.out.1 (aw_arg 0 2 [bx 0 aZ] (by decide) (by decide) (by decide) (fun b hb => by simp only [List.mem_cons, List.not_mem_nil, or_false] at hb; rcases hb with rfl <;> exact ⟨_, _, rfl, by decide⟩))).mono ?_
  rintro e w10 ⟨rfl, hl_, hg_⟩
  have B_ := Aside0.mk (chg_old B.out G.out hg_)
  rw [aw4] at hl_
  have L_ := Aside0.mk hl_
  clear hl_ hg_ B L CW V9
  rw [aw4]
  have B := B_
  have L := L_
  clear B_ L_
  go_wp2_with fail
  go_ret
  exact ⟨rfl, B.out⟩

end Go.Proofs.Ytdlkofmcioalfaa.PCk
