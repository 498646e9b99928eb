-- written by a program of this session (wip/tools/pr.py, over the kit's printer): not by hand
import Derived.Test.YtnfoknnbolgfjaaPLbx0
import Derived.Test.YtnfoknnbolgfjaaPLbx2
import Derived.Test.YtnfoknnbolgfjaaPLbx3
namespace Go.Proofs.Ytnfoknnbolgfjaa.PLb
open Go.RowKit Go.Proofs.YtnfoknnbolgfjaaW.PrintWords Go.Proofs.YtnfoknnbolgfjaaW.PrintLast Go.Proofs.YtnfoknnbolgfjaaW.PrintMore
attribute [local go_sem] max2_int min2_int max_two min_two max_three min_three max_four min_four   -- for this text's walks alone
set_option linter.unusedVariables false
set_option linter.unusedSimpArgs false

set_option maxHeartbeats 4000000 in
set_option maxRecDepth 100000 in
theorem laycuts_less (k : Nat) (n i size : Int) (r : Bool) (w : World) (ha : bollardlaw6_awake.f = some r) (h0 : size < 0) :
    Calls Try.prog 12 #[.int .i64 n, .int .i64 i, .int .i64 size] w fun e w' => e = .returned (.bool r) ∧ Below w.heap.size w w' := by
  have HA := Aside0.mk ha
  have f0 : decide (size < 0) = true := decide_eq_true h0
  clear ha h0
  go_enter Try.func12, Try.ntmps12
  go_wp2_with fail
  refine (bollardlaw6_awake.calls r _ HA.out).mono ?_
  rintro e w9 ⟨rfl, hb9⟩
  have HB9 := Aside0.mk (below_step (show Below w.heap.size w _ from Below.refl _ _) hb9)
  clear hb9
  go_wp2
  go_ret
  exact ⟨rfl, HB9.out⟩

set_option maxHeartbeats 4000000 in
set_option maxRecDepth 100000 in
theorem laycuts_more (k : Nat) (n i size : Int) (r : Bool) (w : World) (ha : bollardlaw6_awake.f = some r) (h0 : 0 ≤ size) (h1 : 600 < size) :
    Calls Try.prog 12 #[.int .i64 n, .int .i64 i, .int .i64 size] w fun e w' => e = .returned (.bool r) ∧ Below w.heap.size w w' := by
  have HA := Aside0.mk ha
  have f0 : decide (size < 0) = false := decide_eq_false (by omega)
  have f1 : decide (600 < size) = true := decide_eq_true h1
  clear ha h0 h1
  go_enter Try.func12, Try.ntmps12
  go_wp2_with fail
  refine (bollardlaw6_awake.calls r _ HA.out).mono ?_
  rintro e w9 ⟨rfl, hb9⟩
  have HB9 := Aside0.mk (below_step (show Below w.heap.size w _ from Below.refl _ _) hb9)
  clear hb9
  go_wp2
  go_ret
  exact ⟨rfl, HB9.out⟩

set_option maxHeartbeats 4000000 in
set_option maxRecDepth 100000 in
theorem laycuts_bad (k : Nat) (n i size : Int) (r : Bool) (w : World) (ha : bollardlaw6_awake.f = some r) (h0 : 0 ≤ size) (h1 : size ≤ 600) (p1 p2 p3 p4 p5 p6 p7 e : Int) (hm : layout_Make.f n i = some (p1, p2, p3, p4, p5, p6, p7, e)) (h2 : e ≠ 0) :
    Calls Try.prog 12 #[.int .i64 n, .int .i64 i, .int .i64 size] w fun e w' => e = .returned (.bool r) ∧ Below w.heap.size w w' := by
  have HA := Aside0.mk ha
  have f0 : decide (size < 0) = false := decide_eq_false (by omega)
  have f1 : decide (600 < size) = false := decide_eq_false (by omega)
  have HM := Aside0.mk hm
  have f2 : (e != 0) = true := bne_iff_ne.mpr h2
  clear ha h0 h1 hm h2
  go_enter Try.func12, Try.ntmps12
  go_wp2_with fail
  refine (layout_Make.calls n i p1 p2 p3 p4 p5 p6 p7 e _ HM.out).mono ?_
  rintro e' w1 ⟨rfl, hb1⟩
  have HB1 := Aside0.mk hb1
  clear hb1
  go_wp2_with fail
  refine (bollardlaw6_awake.calls r _ HA.out).mono ?_
  rintro e w9 ⟨rfl, hb9⟩
  have HB9 := Aside0.mk (below_step (show Below w.heap.size w (w1.alloc (.cells #[.int .i64 p1, .int .i64 p2, .int .i64 p3, .int .i64 p4, .int .i64 p5, .int .i64 p6, .int .i64 p7] 32)) from below_alloc HB1.out _) hb9)
  clear hb9
  go_wp2
  go_ret
  exact ⟨rfl, HB9.out⟩

set_option maxHeartbeats 4000000 in
set_option maxRecDepth 100000 in
theorem laycuts_same (k : Nat) (n i size : Int) (r : Bool) (w : World) (ha : bollardlaw6_awake.f = some r) (h0 : 0 ≤ size) (h1 : size ≤ 600) (p1 p2 p3 p4 p5 p6 p7 : Int) (hm : layout_Make.f n i = some (p1, p2, p3, p4, p5, p6, p7, 0)) (l : List Int) (he : layout_Encode.f k p1 p2 p3 p4 p5 p6 p7 = some l) (hl : l.length = 512) (h2 : size = 512) (hd : layout_Decode.f k ((l ++ List.replicate (Int.toNat 100) 0).take size.toNat) = some (p1, p2, p3, p4, p5, p6, p7, 0)) :
    Calls Try.prog 12 #[.int .i64 n, .int .i64 i, .int .i64 size] w fun e w' => e = .returned (.bool r) ∧ Below w.heap.size w w' := by
  have HA := Aside0.mk ha
  subst h2
  have HM := Aside0.mk hm
  have HE := Aside0.mk he
  have HD := Aside0.mk hd
  have HL := Aside0.mk hl
  have HS := Aside0.mk (show 0 ≤ (512 : Int) ∧ (512 : Int) ≤ 600 from ⟨h0, h1⟩)
  clear ha hm he hd hl
  go_enter Try.func12, Try.ntmps12
  go_wp2_with fail
  refine (layout_Make.calls n i p1 p2 p3 p4 p5 p6 p7 0 _ HM.out).mono ?_
  rintro e' w1 ⟨rfl, hb1⟩
  have HB1 := Aside0.mk hb1
  clear hb1
  go_wp2_with fail
  refine (layout_Encode.calls k p1 p2 p3 p4 p5 p6 p7 l _ HE.out).mono ?_
  rintro e w2 ⟨v, rfl, hR, hb2⟩
  have BK := Aside0.mk (show w2.heap[w1.heap.size]? = some (.cells #[.int .i64 p1, .int .i64 p2, .int .i64 p3, .int .i64 p4, .int .i64 p5, .int .i64 p6, .int .i64 p7] 32) from (hb2.block _ (by simp)).trans (heap_alloc_new w1 _))
  have HB2 := Aside0.mk (below_step (show Below w.heap.size w (w1.alloc (.cells #[.int .i64 p1, .int .i64 p2, .int .i64 p3, .int .i64 p4, .int .i64 p5, .int .i64 p6, .int .i64 p7] 32)) from below_alloc HB1.out _) hb2)
  have HR := Aside0.mk (Kd.R_lower hR (below_size (show Below w.heap.size w (w1.alloc (.cells #[.int .i64 p1, .int .i64 p2, .int .i64 p3, .int .i64 p4, .int .i64 p5, .int .i64 p6, .int .i64 p7] 32)) from below_alloc HB1.out _)))
  have HNE := Aside0.mk (show v.ownBlock ≠ some w1.heap.size from fun h => by
    have := own_base (Kd.own_of_R hR) _ h
    simp at this
    omega)
  clear hb2 hR HB1
  go_wp2_with (at_builtin; refine Kd.R_append_zeros (Kd.int .u8) (w0 := w) w.heap.size rfl (.tmp 29) (.const (.int .i64 100)) 22 3 5 (.int .u8 0) 1 rfl Try.underlying22 Try.underlying3 info5 rfl (by decide) (by omega) v l (0 : Int) (100 : Int) (fun k_ => True) rfl rfl rfl ?aF ?aO (by decide) ?aB ?aS ?aL ?_; (case aF => exact (fun _ _ => trivial)); (case aO => exact HR.out); (case aB => exact HB2.out); (case aS => exact HB2.out.size); (case aL => have := HL.out; omega); intro v3 w3 ho hb hg hat; obtain ⟨m, hm⟩ : ∃ m, m = l ++ List.replicate (Int.toNat 100) (0 : Int) := ⟨_, rfl⟩; rw [← hm] at ho; have hml : m.length = 612 := (by have e1 := HL.out; have e2 := congrArg List.length hm; rw [List.length_append, List.length_replicate] at e2; omega); have HB3 := Aside0.mk hb; have BK3 := Aside0.mk ((hg.block _ (blk_lt BK.out) (fun h => HNE.out h.symm)).trans BK.out); obtain ⟨A3, c3, rfl, hlc, hC⟩ := Kd.R_reads ho; rw [hml] at hlc hC ⊢; have HL3 := Aside0.mk hlc; have HC3 := Aside0.mk hC; have HM3 := Aside0.mk hm; have HML := Aside0.mk hml; clear ho hb hg hat hm hml hlc hC BK HB2 HR HNE; obtain ⟨i0, hi0, _, hsz, _⟩ := info_parts info5; obtain ⟨hcut, hA2, hC2⟩ := print_take_of (P := Try.prog) (Value.int .u8) 0 22 5 .i64 Try.underlying22 hi0 hsz A3 c3 m 512 (by omega) (by have := HML.out; omega) (by rw [HML.out]; exact HL3.out); have HK2 := Aside0.mk (Kd.C_of_reads (h1 := fun _ => rfl) (hA2 _ (Kd.reads_of_C (show Kd.C (Kd.int .u8) w3 A3 m.length m by rw [HML.out]; exact HC3.out)))); have HL2 := Aside0.mk hC2; clear hA2 hC2 hi0 hsz; rw [HML.out] at hcut; skip)
  have hp := layout_Decode.calls k A3 c3 (m.take (512 : Int).toNat) p1 p2 p3 p4 p5 p6 p7 0 _ HK2.out HL2.out (by rw [HM3.out]; exact HD.out)
  rw [List.length_take, show (512 : Int).toNat = 512 from rfl] at hp
  refine hp.mono ?_
  rintro e w5 ⟨rfl, hb5⟩
  clear hp
  have BK5 := Aside0.mk ((hb5.block _ (blk_lt BK3.out)).trans BK3.out)
  have HB5 := Aside0.mk (below_step HB3.out hb5)
  clear hb5 BK3 HB3
  have s0 : ∀ o : Obj, (w5.alloc o).cell? ⟨w1.heap.size, 0, none⟩ = some (.int .i64 p1) := fun o => (blk_cell (blk_alloc BK5.out o) 0).trans rfl
  have s1 : ∀ o : Obj, (w5.alloc o).cell? ⟨w1.heap.size, 1, none⟩ = some (.int .i64 p2) := fun o => (blk_cell (blk_alloc BK5.out o) 1).trans rfl
  have s2 : ∀ o : Obj, (w5.alloc o).cell? ⟨w1.heap.size, 2, none⟩ = some (.int .i64 p3) := fun o => (blk_cell (blk_alloc BK5.out o) 2).trans rfl
  have s3 : ∀ o : Obj, (w5.alloc o).cell? ⟨w1.heap.size, 3, none⟩ = some (.int .i64 p4) := fun o => (blk_cell (blk_alloc BK5.out o) 3).trans rfl
  have s4 : ∀ o : Obj, (w5.alloc o).cell? ⟨w1.heap.size, 4, none⟩ = some (.int .i64 p5) := fun o => (blk_cell (blk_alloc BK5.out o) 4).trans rfl
  have s5 : ∀ o : Obj, (w5.alloc o).cell? ⟨w1.heap.size, 5, none⟩ = some (.int .i64 p6) := fun o => (blk_cell (blk_alloc BK5.out o) 5).trans rfl
  have s6 : ∀ o : Obj, (w5.alloc o).cell? ⟨w1.heap.size, 6, none⟩ = some (.int .i64 p7) := fun o => (blk_cell (blk_alloc BK5.out o) 6).trans rfl
  have e5 : (w5.alloc (.cells #[.int .i64 p1, .int .i64 p2, .int .i64 p3, .int .i64 p4, .int .i64 p5, .int .i64 p6, .int .i64 p7] 32)).heap[w5.heap.size]? = some (.cells #[.int .i64 p1, .int .i64 p2, .int .i64 p3, .int .i64 p4, .int .i64 p5, .int .i64 p6, .int .i64 p7] 32) := heap_alloc_new w5 _
  have u0 : (w5.alloc (.cells #[.int .i64 p1, .int .i64 p2, .int .i64 p3, .int .i64 p4, .int .i64 p5, .int .i64 p6, .int .i64 p7] 32)).cell? ⟨w5.heap.size, 0, none⟩ = some (.int .i64 p1) := (blk_cell e5 0).trans rfl
  have u1 : (w5.alloc (.cells #[.int .i64 p1, .int .i64 p2, .int .i64 p3, .int .i64 p4, .int .i64 p5, .int .i64 p6, .int .i64 p7] 32)).cell? ⟨w5.heap.size, 1, none⟩ = some (.int .i64 p2) := (blk_cell e5 1).trans rfl
  have u2 : (w5.alloc (.cells #[.int .i64 p1, .int .i64 p2, .int .i64 p3, .int .i64 p4, .int .i64 p5, .int .i64 p6, .int .i64 p7] 32)).cell? ⟨w5.heap.size, 2, none⟩ = some (.int .i64 p3) := (blk_cell e5 2).trans rfl
  have u3 : (w5.alloc (.cells #[.int .i64 p1, .int .i64 p2, .int .i64 p3, .int .i64 p4, .int .i64 p5, .int .i64 p6, .int .i64 p7] 32)).cell? ⟨w5.heap.size, 3, none⟩ = some (.int .i64 p4) := (blk_cell e5 3).trans rfl
  have u4 : (w5.alloc (.cells #[.int .i64 p1, .int .i64 p2, .int .i64 p3, .int .i64 p4, .int .i64 p5, .int .i64 p6, .int .i64 p7] 32)).cell? ⟨w5.heap.size, 4, none⟩ = some (.int .i64 p5) := (blk_cell e5 4).trans rfl
  have u5 : (w5.alloc (.cells #[.int .i64 p1, .int .i64 p2, .int .i64 p3, .int .i64 p4, .int .i64 p5, .int .i64 p6, .int .i64 p7] 32)).cell? ⟨w5.heap.size, 5, none⟩ = some (.int .i64 p6) := (blk_cell e5 5).trans rfl
  have u6 : (w5.alloc (.cells #[.int .i64 p1, .int .i64 p2, .int .i64 p3, .int .i64 p4, .int .i64 p5, .int .i64 p6, .int .i64 p7] 32)).cell? ⟨w5.heap.size, 6, none⟩ = some (.int .i64 p7) := (blk_cell e5 6).trans rfl
  clear e5
  clear BK5
  go_wp2_with fail
  refine (bollardlaw6_awake.calls r _ HA.out).mono ?_
  rintro e w9 ⟨rfl, hb9⟩
  have HB9 := Aside0.mk (below_step (show Below w.heap.size w (w5.alloc (.cells #[.int .i64 p1, .int .i64 p2, .int .i64 p3, .int .i64 p4, .int .i64 p5, .int .i64 p6, .int .i64 p7] 32)) from below_alloc HB5.out _) hb9)
  clear hb9
  go_wp2
  go_ret
  exact ⟨rfl, HB9.out⟩

set_option maxHeartbeats 4000000 in
set_option maxRecDepth 100000 in
theorem laycuts_other (k : Nat) (n i size : Int) (r : Bool) (w : World) (ha : bollardlaw6_awake.f = some r) (h0 : 0 ≤ size) (h1 : size ≤ 600) (p1 p2 p3 p4 p5 p6 p7 : Int) (hm : layout_Make.f n i = some (p1, p2, p3, p4, p5, p6, p7, 0)) (l : List Int) (he : layout_Encode.f k p1 p2 p3 p4 p5 p6 p7 = some l) (hl : l.length = 512) (h2 : size ≠ 512) (q1 q2 q3 q4 q5 q6 q7 q8 : Int) (h3 : q8 ≠ 0) (hd : layout_Decode.f k ((l ++ List.replicate (Int.toNat 100) 0).take size.toNat) = some (q1, q2, q3, q4, q5, q6, q7, q8)) :
    Calls Try.prog 12 #[.int .i64 n, .int .i64 i, .int .i64 size] w fun e w' => e = .returned (.bool r) ∧ Below w.heap.size w w' := by
  have HA := Aside0.mk ha
  have f0 : decide (size < 0) = false := decide_eq_false (by omega)
  have f1 : decide (600 < size) = false := decide_eq_false (by omega)
  have HM := Aside0.mk hm
  have f3 : (size == 512) = false := beq_eq_false_iff_ne.mpr h2
  have f4 : (q8 == 0) = false := beq_eq_false_iff_ne.mpr h3
  have f5 : (q8 != 0) = true := bne_iff_ne.mpr h3
  have HE := Aside0.mk he
  have HD := Aside0.mk hd
  have HL := Aside0.mk hl
  have HS := Aside0.mk (show 0 ≤ size ∧ size ≤ 600 from ⟨h0, h1⟩)
  have f9 : decide ((612 : Int) < size) = false := decide_eq_false (by omega)
  clear ha hm he hd hl
  go_enter Try.func12, Try.ntmps12
  go_wp2_with fail
  refine (layout_Make.calls n i p1 p2 p3 p4 p5 p6 p7 0 _ HM.out).mono ?_
  rintro e' w1 ⟨rfl, hb1⟩
  have HB1 := Aside0.mk hb1
  clear hb1
  go_wp2_with fail
  refine (layout_Encode.calls k p1 p2 p3 p4 p5 p6 p7 l _ HE.out).mono ?_
  rintro e w2 ⟨v, rfl, hR, hb2⟩
  have BK := Aside0.mk (show w2.heap[w1.heap.size]? = some (.cells #[.int .i64 p1, .int .i64 p2, .int .i64 p3, .int .i64 p4, .int .i64 p5, .int .i64 p6, .int .i64 p7] 32) from (hb2.block _ (by simp)).trans (heap_alloc_new w1 _))
  have HB2 := Aside0.mk (below_step (show Below w.heap.size w (w1.alloc (.cells #[.int .i64 p1, .int .i64 p2, .int .i64 p3, .int .i64 p4, .int .i64 p5, .int .i64 p6, .int .i64 p7] 32)) from below_alloc HB1.out _) hb2)
  have HR := Aside0.mk (Kd.R_lower hR (below_size (show Below w.heap.size w (w1.alloc (.cells #[.int .i64 p1, .int .i64 p2, .int .i64 p3, .int .i64 p4, .int .i64 p5, .int .i64 p6, .int .i64 p7] 32)) from below_alloc HB1.out _)))
  have HNE := Aside0.mk (show v.ownBlock ≠ some w1.heap.size from fun h => by
    have := own_base (Kd.own_of_R hR) _ h
    simp at this
    omega)
  clear hb2 hR HB1
  go_wp2_with (at_builtin; refine Kd.R_append_zeros (Kd.int .u8) (w0 := w) w.heap.size rfl (.tmp 29) (.const (.int .i64 100)) 22 3 5 (.int .u8 0) 1 rfl Try.underlying22 Try.underlying3 info5 rfl (by decide) (by omega) v l (0 : Int) (100 : Int) (fun k_ => True) rfl rfl rfl ?aF ?aO (by decide) ?aB ?aS ?aL ?_; (case aF => exact (fun _ _ => trivial)); (case aO => exact HR.out); (case aB => exact HB2.out); (case aS => exact HB2.out.size); (case aL => have := HL.out; omega); intro v3 w3 ho hb hg hat; obtain ⟨m, hm⟩ : ∃ m, m = l ++ List.replicate (Int.toNat 100) (0 : Int) := ⟨_, rfl⟩; rw [← hm] at ho; have hml : m.length = 612 := (by have e1 := HL.out; have e2 := congrArg List.length hm; rw [List.length_append, List.length_replicate] at e2; omega); have HB3 := Aside0.mk hb; have BK3 := Aside0.mk ((hg.block _ (blk_lt BK.out) (fun h => HNE.out h.symm)).trans BK.out); obtain ⟨A3, c3, rfl, hlc, hC⟩ := Kd.R_reads ho; rw [hml] at hlc hC ⊢; have HL3 := Aside0.mk hlc; have HC3 := Aside0.mk hC; have HM3 := Aside0.mk hm; have HML := Aside0.mk hml; clear ho hb hg hat hm hml hlc hC BK HB2 HR HNE; obtain ⟨i0, hi0, _, hsz, _⟩ := info_parts info5; obtain ⟨hcut, hA2, hC2⟩ := print_take_of (P := Try.prog) (Value.int .u8) 0 22 5 .i64 Try.underlying22 hi0 hsz A3 c3 m size (by omega) (by have := HML.out; omega) (by rw [HML.out]; exact HL3.out); have HK2 := Aside0.mk (Kd.C_of_reads (h1 := fun _ => rfl) (hA2 _ (Kd.reads_of_C (show Kd.C (Kd.int .u8) w3 A3 m.length m by rw [HML.out]; exact HC3.out)))); have HL2 := Aside0.mk hC2; clear hA2 hC2 hi0 hsz; rw [HML.out] at hcut; have c0 : 0 ≤ size := HS.out.1; have c1 : size ≤ 612 := by have := HS.out.2; omega)
  have hp := layout_Decode.calls k A3 c3 (m.take size.toNat) q1 q2 q3 q4 q5 q6 q7 q8 _ HK2.out HL2.out (by rw [HM3.out]; exact HD.out)
  rw [List.length_take] at hp
  refine hp.mono ?_
  rintro e w5 ⟨rfl, hb5⟩
  clear hp
  have BK5 := Aside0.mk ((hb5.block _ (blk_lt BK3.out)).trans BK3.out)
  have HB5 := Aside0.mk (below_step HB3.out hb5)
  clear hb5 BK3 HB3
  have s0 : ∀ o : Obj, (w5.alloc o).cell? ⟨w1.heap.size, 0, none⟩ = some (.int .i64 p1) := fun o => (blk_cell (blk_alloc BK5.out o) 0).trans rfl
  have s1 : ∀ o : Obj, (w5.alloc o).cell? ⟨w1.heap.size, 1, none⟩ = some (.int .i64 p2) := fun o => (blk_cell (blk_alloc BK5.out o) 1).trans rfl
  have s2 : ∀ o : Obj, (w5.alloc o).cell? ⟨w1.heap.size, 2, none⟩ = some (.int .i64 p3) := fun o => (blk_cell (blk_alloc BK5.out o) 2).trans rfl
  have s3 : ∀ o : Obj, (w5.alloc o).cell? ⟨w1.heap.size, 3, none⟩ = some (.int .i64 p4) := fun o => (blk_cell (blk_alloc BK5.out o) 3).trans rfl
  have s4 : ∀ o : Obj, (w5.alloc o).cell? ⟨w1.heap.size, 4, none⟩ = some (.int .i64 p5) := fun o => (blk_cell (blk_alloc BK5.out o) 4).trans rfl
  have s5 : ∀ o : Obj, (w5.alloc o).cell? ⟨w1.heap.size, 5, none⟩ = some (.int .i64 p6) := fun o => (blk_cell (blk_alloc BK5.out o) 5).trans rfl
  have s6 : ∀ o : Obj, (w5.alloc o).cell? ⟨w1.heap.size, 6, none⟩ = some (.int .i64 p7) := fun o => (blk_cell (blk_alloc BK5.out o) 6).trans rfl
  have e5 : (w5.alloc (.cells #[.int .i64 q1, .int .i64 q2, .int .i64 q3, .int .i64 q4, .int .i64 q5, .int .i64 q6, .int .i64 q7] 32)).heap[w5.heap.size]? = some (.cells #[.int .i64 q1, .int .i64 q2, .int .i64 q3, .int .i64 q4, .int .i64 q5, .int .i64 q6, .int .i64 q7] 32) := heap_alloc_new w5 _
  have u0 : (w5.alloc (.cells #[.int .i64 q1, .int .i64 q2, .int .i64 q3, .int .i64 q4, .int .i64 q5, .int .i64 q6, .int .i64 q7] 32)).cell? ⟨w5.heap.size, 0, none⟩ = some (.int .i64 q1) := (blk_cell e5 0).trans rfl
  have u1 : (w5.alloc (.cells #[.int .i64 q1, .int .i64 q2, .int .i64 q3, .int .i64 q4, .int .i64 q5, .int .i64 q6, .int .i64 q7] 32)).cell? ⟨w5.heap.size, 1, none⟩ = some (.int .i64 q2) := (blk_cell e5 1).trans rfl
  have u2 : (w5.alloc (.cells #[.int .i64 q1, .int .i64 q2, .int .i64 q3, .int .i64 q4, .int .i64 q5, .int .i64 q6, .int .i64 q7] 32)).cell? ⟨w5.heap.size, 2, none⟩ = some (.int .i64 q3) := (blk_cell e5 2).trans rfl
  have u3 : (w5.alloc (.cells #[.int .i64 q1, .int .i64 q2, .int .i64 q3, .int .i64 q4, .int .i64 q5, .int .i64 q6, .int .i64 q7] 32)).cell? ⟨w5.heap.size, 3, none⟩ = some (.int .i64 q4) := (blk_cell e5 3).trans rfl
  have u4 : (w5.alloc (.cells #[.int .i64 q1, .int .i64 q2, .int .i64 q3, .int .i64 q4, .int .i64 q5, .int .i64 q6, .int .i64 q7] 32)).cell? ⟨w5.heap.size, 4, none⟩ = some (.int .i64 q5) := (blk_cell e5 4).trans rfl
  have u5 : (w5.alloc (.cells #[.int .i64 q1, .int .i64 q2, .int .i64 q3, .int .i64 q4, .int .i64 q5, .int .i64 q6, .int .i64 q7] 32)).cell? ⟨w5.heap.size, 5, none⟩ = some (.int .i64 q6) := (blk_cell e5 5).trans rfl
  have u6 : (w5.alloc (.cells #[.int .i64 q1, .int .i64 q2, .int .i64 q3, .int .i64 q4, .int .i64 q5, .int .i64 q6, .int .i64 q7] 32)).cell? ⟨w5.heap.size, 6, none⟩ = some (.int .i64 q7) := (blk_cell e5 6).trans rfl
  clear e5
  clear BK5
  go_wp2_with fail
  refine (bollardlaw6_awake.calls r _ HA.out).mono ?_
  rintro e w9 ⟨rfl, hb9⟩
  have HB9 := Aside0.mk (below_step (show Below w.heap.size w (w5.alloc (.cells #[.int .i64 q1, .int .i64 q2, .int .i64 q3, .int .i64 q4, .int .i64 q5, .int .i64 q6, .int .i64 q7] 32)) from below_alloc HB5.out _) hb9)
  clear hb9
  go_wp2
  go_ret
  exact ⟨rfl, HB9.out⟩

/-! ### bollardlaw6_LayoutCuts -/
def bollardlaw6_LayoutCuts.f (k : Nat) (n i size : Int) : Option Bool :=
  if size < 0 then bollardlaw6_awake.f else if 600 < size then bollardlaw6_awake.f else (layout_Make.f n i).bind fun m => if m.2.2.2.2.2.2.2 = 0 then (layout_Encode.f k (m.1) (m.2.1) (m.2.2.1) (m.2.2.2.1) (m.2.2.2.2.1) (m.2.2.2.2.2.1) (m.2.2.2.2.2.2.1)).bind fun l => if l.length = 512 then (layout_Decode.f k ((l ++ List.replicate (Int.toNat 100) 0).take size.toNat)).bind fun q => if size = 512 then (if q.1 = m.1 ∧ q.2.1 = m.2.1 ∧ q.2.2.1 = m.2.2.1 ∧ q.2.2.2.1 = m.2.2.2.1 ∧ q.2.2.2.2.1 = m.2.2.2.2.1 ∧ q.2.2.2.2.2.1 = m.2.2.2.2.2.1 ∧ q.2.2.2.2.2.2.1 = m.2.2.2.2.2.2.1 ∧ q.2.2.2.2.2.2.2 = 0 then bollardlaw6_awake.f else none) else (if q.2.2.2.2.2.2.2 = 0 then none else bollardlaw6_awake.f) else none else bollardlaw6_awake.f
theorem bollardlaw6_LayoutCuts.mono : ∀ a0 a1 a2 k, LeO (bollardlaw6_LayoutCuts.f k a0 a1 a2) (bollardlaw6_LayoutCuts.f (k + 1) a0 a1 a2) := by
  intro n i size k
  unfold bollardlaw6_LayoutCuts.f
  repeat' first | (with_reducible exact LeO.refl _) | (with_reducible exact layout_Encode.mono _ _ _ _ _ _ _ _) | (with_reducible exact layout_Decode.mono _ _) | (with_reducible refine LeO.ite ?_ ?_) | (with_reducible refine LeO.bind ?_ (fun _ => ?_))
theorem bollardlaw6_LayoutCuts.calls (k : Nat) (n i size : Int) (r : Bool) (w : World) (h : bollardlaw6_LayoutCuts.f k n i size = some r) :
    Calls Try.prog 12 #[.int .i64 n, .int .i64 i, .int .i64 size] w fun e w' => e = .returned (.bool r) ∧ Below w.heap.size w w' := by
  unfold bollardlaw6_LayoutCuts.f at h
  by_cases h0 : size < 0
  · rw [if_pos h0] at h; exact laycuts_less k n i size r w h h0
  rw [if_neg h0] at h
  by_cases h1 : 600 < size
  · rw [if_pos h1] at h; exact laycuts_more k n i size r w h (by omega) h1
  rw [if_neg h1] at h
  obtain ⟨⟨p1, p2, p3, p4, p5, p6, p7, e⟩, hm, ga⟩ := Option.bind_eq_some_iff.mp h
  clear h
  dsimp only at ga
  by_cases h2 : e = 0
  case neg => rw [if_neg h2] at ga; exact laycuts_bad k n i size r w ga (by omega) (by omega) p1 p2 p3 p4 p5 p6 p7 e hm h2
  subst h2
  rw [if_pos rfl] at ga
  obtain ⟨l, he, gb⟩ := Option.bind_eq_some_iff.mp ga
  clear ga
  by_cases hl : l.length = 512
  case neg => rw [if_neg hl] at gb; cases gb
  rw [if_pos hl] at gb
  obtain ⟨⟨q1, q2, q3, q4, q5, q6, q7, q8⟩, hd, gc⟩ := Option.bind_eq_some_iff.mp gb
  clear gb
  dsimp only at gc
  by_cases h3 : size = 512
  · rw [if_pos h3] at gc
    by_cases h4 : q1 = p1 ∧ q2 = p2 ∧ q3 = p3 ∧ q4 = p4 ∧ q5 = p5 ∧ q6 = p6 ∧ q7 = p7 ∧ q8 = 0
    · rw [if_pos h4] at gc
      obtain ⟨rfl, rfl, rfl, rfl, rfl, rfl, rfl, rfl⟩ := h4
      exact laycuts_same k n i size r w gc (by omega) (by omega) _ _ _ _ _ _ _ hm l he hl h3 hd
    · rw [if_neg h4] at gc; cases gc
  · rw [if_neg h3] at gc
    by_cases h4 : q8 = 0
    · rw [if_pos h4] at gc; cases gc
    · rw [if_neg h4] at gc
      exact laycuts_other k n i size r w gc (by omega) (by omega) p1 p2 p3 p4 p5 p6 p7 hm l he hl h3 q1 q2 q3 q4 q5 q6 q7 q8 h4 hd

/-- THE ONE PURE STATEMENT of bollardlaw6_LayoutCuts: mine. -/
def bollardlaw6_LayoutCuts.Pure : Prop := ∀ (a0 : Int) (a1 : Int) (a2 : Int), (Lit.int .i64 a0).wf = true → (Lit.int .i64 a1).wf = true → (Lit.int .i64 a2).wf = true → ∃ k, bollardlaw6_LayoutCuts.f k a0 a1 a2 = some true

end Go.Proofs.Ytnfoknnbolgfjaa.PLb
