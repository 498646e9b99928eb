import Derived.Test.YtncfofnikmfjbaaQCfPRec
import Derived.Outline
import Derived.StillTailTactics
import Derived.RegionTactic
import Derived.BigRegion
import Derived.Lib.BufferWrite
namespace Go.Proofs.Ytncfofnikmfjbaa.PCi
open Go.RowKit Go.Proofs.YtncfofnikmfjbaaW.PrintWords Go.Proofs.YtncfofnikmfjbaaW.PrintLast Go.Proofs.YtncfofnikmfjbaaW.PrintMore
attribute [local go_sem] max2_int min2_int max_two min_two max_three min_three max_four min_four
set_option linter.unusedVariables false
set_option linter.unusedSimpArgs false

/-! ### bollardref20.Bag, Pen.field -/
structure Bg where
  kind : Int
  id : Int
  t0 : ByteArray
  t1 : ByteArray
  n : Nat → Int
  flag : Bool
  recs : Value
  bats : Value
  names : Value
  cnts : Value
def Bg.cells (b : Bg) : Array Value := #[.int .i64 b.kind, .int .i64 b.id, .string b.t0, .string b.t1, .int .i64 (b.n 0), .int .i64 (b.n 1), .int .i64 (b.n 2), .int .i64 (b.n 3), .int .i64 (b.n 4), .int .i64 (b.n 5), .int .i64 (b.n 6), .int .i64 (b.n 7), .int .i64 (b.n 8), .int .i64 (b.n 9), .int .i64 (b.n 10), .int .i64 (b.n 11), .int .i64 (b.n 12), .int .i64 (b.n 13), .int .i64 (b.n 14), .int .i64 (b.n 15), .int .i64 (b.n 16), .int .i64 (b.n 17), .int .i64 (b.n 18), .int .i64 (b.n 19), .bool b.flag, b.recs, b.bats, b.names, b.cnts]
theorem Bg.at_n (b : Bg) (s : Nat) (h : s < 20) : b.cells[4 + s]? = some (.int .i64 (b.n s)) := by
  obtain rfl | rfl | rfl | rfl | rfl | rfl | rfl | rfl | rfl | rfl | rfl | rfl | rfl | rfl | rfl | rfl | rfl | rfl | rfl | rfl : s = 0 ∨ s = 1 ∨ s = 2 ∨ s = 3 ∨ s = 4 ∨ s = 5 ∨ s = 6 ∨ s = 7 ∨ s = 8 ∨ s = 9 ∨ s = 10 ∨ s = 11 ∨ s = 12 ∨ s = 13 ∨ s = 14 ∨ s = 15 ∨ s = 16 ∨ s = 17 ∨ s = 18 ∨ s = 19 := by omega
  all_goals rfl
theorem info29 : (Try.prog.info? 74).map (·.size) = some 29 := by kernel_rfl
/-- Behind the two boxes. -/
theorem PfSt.new {w0 w : World} {g : Nat} {xs : List Int} {bad : Bool} (h : Pn w g w0.heap.size xs bad) (hb : w0.heap.size ≤ w.heap.size) (r b : Array Value) : Pn ((w.alloc (.cells r 85)).alloc (.cells b 74)) g w0.heap.size xs bad ∧ ((w.alloc (.cells r 85)).alloc (.cells b 74)).heap[w.heap.size]? = some (.cells r 85 (0, 0)) ∧ ((w.alloc (.cells r 85)).alloc (.cells b 74)).heap[w.heap.size + 1]? = some (.cells b 74 (0, 0)) ∧ KeepW w ((w.alloc (.cells r 85)).alloc (.cells b 74)) g w0.heap.size := by
  have hB : Below w.heap.size w ((w.alloc (.cells r 85)).alloc (.cells b 74)) := below_alloc (below_alloc (Below.refl _ _) _) _
  refine ⟨h.below hB, blk_alloc (heap_alloc_new w _) _, ?_, KeepW.of_below hB hb⟩
  have := heap_alloc_new (w.alloc (.cells r 85)) (.cells b 74)
  simpa using this

set_option maxHeartbeats 4000000 in
set_option maxRecDepth 100000 in
theorem pf_text0 (w0 : World) (g : Nat) (xs : List Int) (bad : Bool) (b : Bg) (w : World) (hF : Pn w g w0.heap.size xs bad) (hg : w0.heap.size ≤ g) (hB : Below w0.heap.size w0 w) (hx : xs.length + b.t0.size ≤ 900000000) :
    Calls Try.prog 34 #[.pointer (some ⟨g, 0, none⟩), .agg #[.int .i64 1, .int .i64 0], .agg b.cells] w fun e w' => e = .returned (.tuple #[]) ∧ Pn w' g w0.heap.size (xs ++ txt1 b.t0) (bad || txt2 b.t0) ∧ KeepW w w' g w0.heap.size := by
  have HGE := Aside0.mk hg
  have HB := Aside0.mk hB
  have HX := Aside0.mk hx
  have HLT := Aside0.mk hF.lt
  have S0 := Aside0.mk (PfSt.new hF hB.size #[.int .i64 1, .int .i64 0] b.cells)
  clear hF hg hB hx
  obtain ⟨q1, hq1⟩ : ∃ q, q = w.heap.size := ⟨_, rfl⟩
  obtain ⟨q2, hq2⟩ : ∃ q, q = w.heap.size + 1 := ⟨_, rfl⟩
  go_enter Try.func34, Try.ntmps34
  go_upto_region 1 with (fail)
  (try simp only [Act.put, List.setIfInBounds_toArray, List.set_cons_zero, List.set_cons_succ])
  generalize (w.alloc (.cells #[.int .i64 1, .int .i64 0] 85)).alloc (.cells b.cells 74) = y0 at S0 ⊢
  rw [← hq2, ← hq1] at S0
  rw [← hq2, ← hq1]
  have Q1 := Aside0.mk (show q1 ≠ g from by have := HLT.out; omega)
  have Q2 := Aside0.mk (show q2 ≠ g from by have := HLT.out; omega)
  clear hq1 hq2
  have r0 : y0.cell? ⟨q1, 0, none⟩ = some (.int .i64 1) := (blk_cell S0.out.2.1 0).trans rfl
  have r1 : y0.cell? ⟨q1, 1, none⟩ = some (.int .i64 0) := (blk_cell S0.out.2.1 1).trans rfl
  have b0 : y0.cell? ⟨q2, 2, none⟩ = some (.string b.t0) := (blk_cell S0.out.2.2.1 2).trans rfl
  go_wp2_with fail
  refine (pn_text w0 g xs bad b.t0 y0 S0.out.1 HGE.out (HB.out.trans S0.out.2.2.2.below) HX.out).mono ?_
  rintro e y ⟨rfl, h1, h2⟩
  have H1 := Aside0.mk h1
  have H2 := Aside0.mk (S0.out.2.2.2.trans h2)
  clear h1 h2
  go_wp2_with fail
  refine bodyPost_end (v := .tuple #[]) (by simp [results, Try.results34, go_sem]) rfl ?_
  exact ⟨rfl, H1.out, H2.out⟩
set_option maxHeartbeats 4000000 in
set_option maxRecDepth 100000 in
theorem pf_text1 (w0 : World) (g : Nat) (xs : List Int) (bad : Bool) (b : Bg) (w : World) (hF : Pn w g w0.heap.size xs bad) (hg : w0.heap.size ≤ g) (hB : Below w0.heap.size w0 w) (hx : xs.length + b.t1.size ≤ 900000000) :
    Calls Try.prog 34 #[.pointer (some ⟨g, 0, none⟩), .agg #[.int .i64 1, .int .i64 1], .agg b.cells] w fun e w' => e = .returned (.tuple #[]) ∧ Pn w' g w0.heap.size (xs ++ txt1 b.t1) (bad || txt2 b.t1) ∧ KeepW w w' g w0.heap.size := by
  have HGE := Aside0.mk hg
  have HB := Aside0.mk hB
  have HX := Aside0.mk hx
  have HLT := Aside0.mk hF.lt
  have S0 := Aside0.mk (PfSt.new hF hB.size #[.int .i64 1, .int .i64 1] b.cells)
  clear hF hg hB hx
  obtain ⟨q1, hq1⟩ : ∃ q, q = w.heap.size := ⟨_, rfl⟩
  obtain ⟨q2, hq2⟩ : ∃ q, q = w.heap.size + 1 := ⟨_, rfl⟩
  go_enter Try.func34, Try.ntmps34
  go_upto_region 1 with (fail)
  (try simp only [Act.put, List.setIfInBounds_toArray, List.set_cons_zero, List.set_cons_succ])
  generalize (w.alloc (.cells #[.int .i64 1, .int .i64 1] 85)).alloc (.cells b.cells 74) = y0 at S0 ⊢
  rw [← hq2, ← hq1] at S0
  rw [← hq2, ← hq1]
  have Q1 := Aside0.mk (show q1 ≠ g from by have := HLT.out; omega)
  have Q2 := Aside0.mk (show q2 ≠ g from by have := HLT.out; omega)
  clear hq1 hq2
  have r0 : y0.cell? ⟨q1, 0, none⟩ = some (.int .i64 1) := (blk_cell S0.out.2.1 0).trans rfl
  have r1 : y0.cell? ⟨q1, 1, none⟩ = some (.int .i64 1) := (blk_cell S0.out.2.1 1).trans rfl
  have b0 : y0.cell? ⟨q2, 3, none⟩ = some (.string b.t1) := (blk_cell S0.out.2.2.1 3).trans rfl
  go_wp2_with fail
  refine (pn_text w0 g xs bad b.t1 y0 S0.out.1 HGE.out (HB.out.trans S0.out.2.2.2.below) HX.out).mono ?_
  rintro e y ⟨rfl, h1, h2⟩
  have H1 := Aside0.mk h1
  have H2 := Aside0.mk (S0.out.2.2.2.trans h2)
  clear h1 h2
  go_wp2_with fail
  refine bodyPost_end (v := .tuple #[]) (by simp [results, Try.results34, go_sem]) rfl ?_
  exact ⟨rfl, H1.out, H2.out⟩
set_option maxHeartbeats 4000000 in
set_option maxRecDepth 100000 in
theorem pf_num (w0 : World) (g : Nat) (xs : List Int) (bad : Bool) (b : Bg) (s : Nat) (w : World) (hF : Pn w g w0.heap.size xs bad) (hg : w0.heap.size ≤ g) (hB : Below w0.heap.size w0 w) (hs : s < 20) (hx : xs.length ≤ 1000000000) :
    Calls Try.prog 34 #[.pointer (some ⟨g, 0, none⟩), .agg #[.int .i64 2, .int .i64 (s : Int)], .agg b.cells] w fun e w' => e = .returned (.tuple #[]) ∧ Pn w' g w0.heap.size (xs ++ nb (b.n s) 8) bad ∧ KeepW w w' g w0.heap.size := by
  have HS := Aside0.mk hs
  have p1 := eq_true (show (0 : Int) ≤ (s : Int) from by omega)
  have p2 := eq_true (show (s : Int) < 20 from by omega)
  have p3 : ((s : Int)).toNat = s := Int.toNat_natCast s
  clear hs
  have HGE := Aside0.mk hg
  have HB := Aside0.mk hB
  have HX := Aside0.mk hx
  have HLT := Aside0.mk hF.lt
  have S0 := Aside0.mk (PfSt.new hF hB.size #[.int .i64 2, .int .i64 (s : Int)] b.cells)
  clear hF hg hB hx
  obtain ⟨q1, hq1⟩ : ∃ q, q = w.heap.size := ⟨_, rfl⟩
  obtain ⟨q2, hq2⟩ : ∃ q, q = w.heap.size + 1 := ⟨_, rfl⟩
  go_enter Try.func34, Try.ntmps34
  go_upto_region 1 with (fail)
  (try simp only [Act.put, List.setIfInBounds_toArray, List.set_cons_zero, List.set_cons_succ])
  generalize (w.alloc (.cells #[.int .i64 2, .int .i64 (s : Int)] 85)).alloc (.cells b.cells 74) = y0 at S0 ⊢
  rw [← hq2, ← hq1] at S0
  rw [← hq2, ← hq1]
  have Q1 := Aside0.mk (show q1 ≠ g from by have := HLT.out; omega)
  have Q2 := Aside0.mk (show q2 ≠ g from by have := HLT.out; omega)
  clear hq1 hq2
  have r0 : y0.cell? ⟨q1, 0, none⟩ = some (.int .i64 2) := (blk_cell S0.out.2.1 0).trans rfl
  have r1 : y0.cell? ⟨q1, 1, none⟩ = some (.int .i64 (s : Int)) := (blk_cell S0.out.2.1 1).trans rfl
  obtain ⟨A, c, hg5, hr5⟩ := S0.out.1
  have HR5 := Aside0.mk hr5
  have L5 := Aside0.mk (show LySt w y0 g w0.heap.size q1 q2 A xs.length c bad #[.int .i64 2, .int .i64 (s : Int)] 85 b.cells 74 from ⟨hg5, S0.out.2.1, S0.out.2.2.1, S0.out.2.2.2⟩)
  clear hg5 hr5
  go_upto_region 5 with (fail)
  (try simp only [Act.put, List.setIfInBounds_toArray, List.set_cons_zero, List.set_cons_succ])
  clear r0 r1
  obtain ⟨z8, hz⟩ : ∃ x, x = xs ++ nb (b.n s) 8 := ⟨_, rfl⟩
  have Z8 := Aside0.mk hz
  clear hz
  refine start_ (n := 15) (S := fun w' => LySt w w' g w0.heap.size q1 q2 A xs.length c bad #[.int .i64 2, .int .i64 (s : Int)] 85 b.cells 74) (ds := [14]) #[false, false, false, false, false, false, false, false, false, false, false, false, false, false, false] (by kernel_rfl) rfl rfl (L5.out.drewN 1) (fun hHeld => ?_)
  refine pure_ (i := 0) (N := (some 25)) (v := ?_) (a' := ?_) #[true, false, false, false, false, false, false, false, false, false, false, false, false, false, false] rfl rfl (by kernel_rfl) (fun _ _ _ h => h) (Or.inl ⟨by rfl, ?_⟩) ?_ ?_
  rotate_left
  · intro w'
    go_simp
    with_reducible rfl
  rotate_left
  · simp only [Act.put, List.setIfInBounds_toArray, List.set_cons_zero, List.set_cons_succ, i64_w, i32_w]
    rfl
  refine pure_ (i := 1) (N := (some 26)) (v := ?_) (a' := ?_) #[true, true, false, false, false, false, false, false, false, false, false, false, false, false, false] rfl rfl (by kernel_rfl) (fun _ _ _ h => h) (Or.inl ⟨by rfl, ?_⟩) ?_ ?_
  rotate_left
  · intro w'
    go_simp
    with_reducible rfl
  rotate_left
  · simp only [Act.put, List.setIfInBounds_toArray, List.set_cons_zero, List.set_cons_succ, i64_w, i32_w]
    rfl
  refine pure_ (i := 2) (N := (some 27)) (v := ?_) (a' := ?_) #[true, true, true, false, false, false, false, false, false, false, false, false, false, false, false] rfl rfl (by kernel_rfl) (fun _ _ _ h => h) (Or.inl ⟨by rfl, ?_⟩) ?_ ?_
  rotate_left
  · intro w'
    go_simp
    with_reducible rfl
  rotate_left
  · simp only [Act.put, List.setIfInBounds_toArray, List.set_cons_zero, List.set_cons_succ, i64_w, i32_w]
    rfl
  refine pure_ (i := 3) (N := (some 28)) (v := ?_) (a' := ?_) #[true, true, true, true, false, false, false, false, false, false, false, false, false, false, false] rfl rfl (by kernel_rfl) (fun _ _ _ h => h) (Or.inl ⟨by rfl, ?_⟩) ?_ ?_
  rotate_left
  · intro w'
    go_simp
    with_reducible rfl
  rotate_left
  · simp only [Act.put, List.setIfInBounds_toArray, List.set_cons_zero, List.set_cons_succ, i64_w, i32_w]
    rfl
  refine take_ (i := 4) (N := (some 29)) (v := ?_) (a' := ?_) #[true, true, true, true, true, false, false, false, false, false, false, false, false, false, false] rfl rfl (by kernel_rfl) (fun _ _ _ h => h) (Or.inl ⟨by rfl, ?_⟩) hHeld ?_ ?_
  rotate_left
  · rintro w' s_
    have q0 : w'.cell? ⟨g, 0, none⟩ = some (.slice A xs.length c) := (blk_cell s_.1 0).trans rfl
    go_simp
    with_reducible rfl
  rotate_left
  · simp only [Act.put, List.setIfInBounds_toArray, List.set_cons_zero, List.set_cons_succ, i64_w, i32_w]
    rfl
  refine pure_ (i := 5) (N := (some 30)) (v := ?_) (a' := ?_) #[true, true, true, true, true, true, false, false, false, false, false, false, false, false, false] rfl rfl (by kernel_rfl) (fun _ _ _ h => h) (Or.inl ⟨by rfl, ?_⟩) ?_ ?_
  rotate_left
  · intro w'
    go_simp
    with_reducible rfl
  rotate_left
  · simp only [Act.put, List.setIfInBounds_toArray, List.set_cons_zero, List.set_cons_succ, i64_w, i32_w]
    rfl
  refine take_ (i := 6) (N := (some 31)) (v := ?_) (a' := ?_) #[true, true, true, true, true, true, true, false, false, false, false, false, false, false, false] rfl rfl (by kernel_rfl) (fun _ _ _ h => h) (Or.inl ⟨by rfl, ?_⟩) hHeld ?_ ?_
  rotate_left
  · rintro w' s_
    have q0 : w'.cell? ⟨q1, 1, none⟩ = some (.int .i64 (s : Int)) := (blk_cell s_.2.1 1).trans rfl
    go_simp
    with_reducible rfl
  rotate_left
  · simp only [Act.put, List.setIfInBounds_toArray, List.set_cons_zero, List.set_cons_succ, i64_w, i32_w]
    rfl
  refine pure_ (i := 7) (N := (some 32)) (v := ?_) (a' := ?_) #[true, true, true, true, true, true, true, true, false, false, false, false, false, false, false] rfl rfl (by kernel_rfl) (fun _ _ _ h => h) (Or.inl ⟨by rfl, ?_⟩) ?_ ?_
  rotate_left
  · intro w'
    go_simp
    with_reducible rfl
  rotate_left
  · simp only [Act.put, List.setIfInBounds_toArray, List.set_cons_zero, List.set_cons_succ, i64_w, i32_w]
    rfl
  refine pure_ (i := 8) (N := (some 33)) (v := ?_) (a' := ?_) #[true, true, true, true, true, true, true, true, true, false, false, false, false, false, false] rfl rfl (by kernel_rfl) (fun _ _ _ h => h) (Or.inl ⟨by rfl, ?_⟩) ?_ ?_
  rotate_left
  · intro w'
    go_simp
    with_reducible rfl
  rotate_left
  · simp only [Act.put, List.setIfInBounds_toArray, List.set_cons_zero, List.set_cons_succ, i64_w, i32_w]
    rfl
  refine take_ (i := 9) (N := (some 34)) (v := ?_) (a' := ?_) #[true, true, true, true, true, true, true, true, true, true, false, false, false, false, false] rfl rfl (by kernel_rfl) (fun _ _ _ h => h) (Or.inl ⟨by rfl, ?_⟩) hHeld ?_ ?_
  rotate_left
  · rintro w' s_
    have q0 : w'.cell? ⟨q2, 4 + s, none⟩ = some (.int .i64 (b.n s)) := (blk_cell s_.2.2.1 (4 + s)).trans (b.at_n s HS.out)
    go_simp
    with_reducible rfl
  rotate_left
  · simp only [Act.put, List.setIfInBounds_toArray, List.set_cons_zero, List.set_cons_succ, i64_w, i32_w]
    rfl
  refine pure_ (i := 10) (N := (some 35)) (v := ?_) (a' := ?_) #[true, true, true, true, true, true, true, true, true, true, true, false, false, false, false] rfl rfl (by kernel_rfl) (fun _ _ _ h => h) (Or.inl ⟨by rfl, ?_⟩) ?_ ?_
  rotate_left
  · intro w'
    go_simp
    with_reducible rfl
  rotate_left
  · simp only [Act.put, List.setIfInBounds_toArray, List.set_cons_zero, List.set_cons_succ, i64_w, i32_w]
    rfl
  refine one_ (i := 11) (N := (some 36)) #[true, true, true, true, true, true, true, true, true, true, true, true, false, false, false] rfl rfl (by kernel_rfl) (by decide) (fun K hK => ?_)
  refine goes_ Try.func33 (by kernel_rfl) rfl #[.slice A xs.length c, .int .i64 (8 : Nat), .int .u64 (IntKind.u64.wrap (b.n s))] (by rfl) rfl rfl (by (try simp only [List.map_toArray, List.map_cons, List.map_nil]); first | done | rfl) ?_
  refine (pn_lay w0 g xs bad (b.n s) 8 _ A c (HB.out.trans hHeld.2.2.2.below) hHeld.1 (Kd.R_drewN HR5.out 1) (by decide) (by decide) HX.out).mono ?_
  rintro e w8 ⟨⟨A6, c6, rfl, hr⟩, hg2, hk⟩
  refine ⟨_, rfl, ?_⟩
  rw [← Z8.out] at hr ⊢
  have HR8 := Aside0.mk hr
  clear hr
  refine hK.out _ _ (hHeld.call hg2 hk Q1.out Q2.out (by decide) (by decide)) (fun hHeld => ?_)
  clear hK K
  refine norm_ (a' := ?_) ?_ ?_
  rotate_left
  · show Act.put _ (some 36) _ = _
    simp only [Act.put, List.setIfInBounds_toArray, List.set_cons_zero, List.set_cons_succ, i64_w, i32_w]
    rfl
  refine pure_ (i := 12) (N := (some 37)) (v := ?_) (a' := ?_) #[true, true, true, true, true, true, true, true, true, true, true, true, true, false, false] rfl rfl (by kernel_rfl) (fun _ _ _ h => h) (Or.inl ⟨by rfl, ?_⟩) ?_ ?_
  rotate_left
  · intro w'
    go_simp
    with_reducible rfl
  rotate_left
  · simp only [Act.put, List.setIfInBounds_toArray, List.set_cons_zero, List.set_cons_succ, i64_w, i32_w]
    rfl
  refine pure_ (i := 13) (N := (some 38)) (v := ?_) (a' := ?_) #[true, true, true, true, true, true, true, true, true, true, true, true, true, true, false] rfl rfl (by kernel_rfl) (fun _ _ _ h => h) (Or.inl ⟨by rfl, ?_⟩) ?_ ?_
  rotate_left
  · intro w'
    go_simp
    with_reducible rfl
  rotate_left
  · simp only [Act.put, List.setIfInBounds_toArray, List.set_cons_zero, List.set_cons_succ, i64_w, i32_w]
    rfl
  refine last_ (i := 14) (N := none) #[true, true, true, true, true, true, true, true, true, true, true, true, true, true, true] rfl rfl (by kernel_rfl) (by decide) (fun K hK => ?_)
  have z0 : w8.frozen? ⟨g, 0, none⟩ = false := blk_frozen hHeld.1 0
  have q0 : w8.cell? ⟨g, 0, none⟩ = some (.slice A xs.length c) := (blk_cell hHeld.1 0).trans rfl
  have T8 := Aside0.mk (show Pn (w8.setCell ⟨g, 0, none⟩ (.slice A6 z8.length c6)) g w0.heap.size z8 bad ∧ KeepW w (w8.setCell ⟨g, 0, none⟩ (.slice A6 z8.length c6)) g w0.heap.size from ⟨Pn.mk' (by simpa using blk_set hHeld.1 0 (.slice A6 z8.length c6)) (Kd.R_set HR8.out hHeld.1 (by decide) 0 _), hHeld.2.2.2.set HGE.out 0 _⟩)
  clear HR8
  refine skip_ (w1 := ?_) (by rfl) rfl ?_ ?_
  rotate_left
  · go_simp
    rfl
  refine hK.out _ _ ?_
  clear hK K
  refine done_ (by kernel_rfl) ?_
  clear hHeld
  (try simp only [Exit.inBlock])
  refine bodyPost_end (v := .tuple #[]) (by simp [results, Try.results34, go_sem]) rfl ?_
  rw [← Z8.out]
  exact ⟨rfl, T8.out.1, T8.out.2⟩
set_option maxHeartbeats 4000000 in
set_option maxRecDepth 100000 in
theorem pf_flag0 (w0 : World) (g : Nat) (xs : List Int) (bad : Bool) (b : Bg) (w : World) (hF : Pn w g w0.heap.size xs bad) (hg : w0.heap.size ≤ g) (hB : Below w0.heap.size w0 w) (hf : b.flag = false) (hx : xs.length ≤ 1000000000) :
    Calls Try.prog 34 #[.pointer (some ⟨g, 0, none⟩), .agg #[.int .i64 3, .int .i64 7], .agg b.cells] w fun e w' => e = .returned (.tuple #[]) ∧ Pn w' g w0.heap.size (xs ++ [0]) bad ∧ KeepW w w' g w0.heap.size := by
  have HGE := Aside0.mk hg
  have HB := Aside0.mk hB
  have HX := Aside0.mk hx
  have HLT := Aside0.mk hF.lt
  have S0 := Aside0.mk (PfSt.new hF hB.size #[.int .i64 3, .int .i64 7] b.cells)
  clear hF hg hB hx
  obtain ⟨q1, hq1⟩ : ∃ q, q = w.heap.size := ⟨_, rfl⟩
  obtain ⟨q2, hq2⟩ : ∃ q, q = w.heap.size + 1 := ⟨_, rfl⟩
  go_enter Try.func34, Try.ntmps34
  go_upto_region 1 with (fail)
  (try simp only [Act.put, List.setIfInBounds_toArray, List.set_cons_zero, List.set_cons_succ])
  generalize (w.alloc (.cells #[.int .i64 3, .int .i64 7] 85)).alloc (.cells b.cells 74) = y0 at S0 ⊢
  rw [← hq2, ← hq1] at S0
  rw [← hq2, ← hq1]
  have Q1 := Aside0.mk (show q1 ≠ g from by have := HLT.out; omega)
  have Q2 := Aside0.mk (show q2 ≠ g from by have := HLT.out; omega)
  clear hq1 hq2
  have r0 : y0.cell? ⟨q1, 0, none⟩ = some (.int .i64 3) := (blk_cell S0.out.2.1 0).trans rfl
  have r1 : y0.cell? ⟨q1, 1, none⟩ = some (.int .i64 7) := (blk_cell S0.out.2.1 1).trans rfl
  have b0 : y0.cell? ⟨q2, 24, none⟩ = some (.bool false) := by rw [← hf]; exact (blk_cell S0.out.2.2.1 24).trans rfl
  obtain ⟨A, c, hg5, hr5⟩ := S0.out.1
  have HR1 := Aside0.mk hr5
  have HG1 := Aside0.mk hg5
  have HS1 := Aside0.mk (Nat.le_trans HB.out.size S0.out.2.2.2.below.size)
  have q0 : y0.cell? ⟨g, 0, none⟩ = some (.slice A xs.length c) := (blk_cell hg5 0).trans rfl
  clear hg5 hr5
  obtain ⟨z1, hz1⟩ : ∃ x, x = xs ++ [(0 : Int)] := ⟨_, rfl⟩
  have Z1 := Aside0.mk hz1
  clear hz1
  go_wp2_with ((with_reducible refine gate_builtin (b := .append) (xs := #[.tmp 47, .tmp 49]) rfl ?_); at_builtin; refine Kd.R_append (Kd.int .u8) (w0 := y0) w0.heap.size rfl (.tmp 47) (.tmp 49) 29 5 (.int .u8 0) 1 rfl Try.underlying29 info_u8 rfl (by decide) (by omega) (.slice A xs.length c) xs 0 [.int .u8 0] (fun _ => True) (fun _ => False) rfl rfl ?aP (fun _ hk => hk.elim) ?aF ?aO ?aB ?aS ?aL ?_; (case aP => exact rfl); (case aF => exact (fun _ _ => trivial)); (case aO => exact HR1.out); (case aB => exact Below.refl _ _); (case aS => exact HS1.out); (case aL => have := HX.out; omega); intro v2 w2 ho hb hg_ hat; rw [← Z1.out] at ho; obtain ⟨A2, c2, e2⟩ := Kd.R_slice ho; subst e2; have HO2 := Aside0.mk ho; have HK2 := Aside0.mk ((KeepW.refl y0 g w0.heap.size).grown HR1.out hg_ hb); have hG2 := hg_.block g (blk_lt HG1.out) (Kd.R_ne HR1.out HG1.out (by decide)); rw [HG1.out] at hG2; have HG2 := Aside0.mk hG2; have z0 : w2.frozen? ⟨g, 0, none⟩ = false := blk_frozen hG2 0; have q0 : w2.cell? ⟨g, 0, none⟩ = some (.slice A xs.length c) := (blk_cell hG2 0).trans rfl; clear ho hb hg_ hat hG2)
  refine bodyPost_end (v := .tuple #[]) (by simp [results, Try.results34, go_sem]) rfl ?_
  rw [← Z1.out]
  exact ⟨rfl, Pn.mk' (by simpa using blk_set HG2.out 0 (.slice A2 z1.length c2)) (Kd.R_set HO2.out HG2.out (by decide) 0 _), (S0.out.2.2.2.trans HK2.out).set HGE.out 0 _⟩
set_option maxHeartbeats 4000000 in
set_option maxRecDepth 100000 in
theorem pf_flag1 (w0 : World) (g : Nat) (xs : List Int) (bad : Bool) (b : Bg) (w : World) (hF : Pn w g w0.heap.size xs bad) (hg : w0.heap.size ≤ g) (hB : Below w0.heap.size w0 w) (hf : b.flag = true) (hx : xs.length ≤ 1000000000) :
    Calls Try.prog 34 #[.pointer (some ⟨g, 0, none⟩), .agg #[.int .i64 3, .int .i64 7], .agg b.cells] w fun e w' => e = .returned (.tuple #[]) ∧ Pn w' g w0.heap.size (xs ++ [1]) bad ∧ KeepW w w' g w0.heap.size := by
  have HGE := Aside0.mk hg
  have HB := Aside0.mk hB
  have HX := Aside0.mk hx
  have HLT := Aside0.mk hF.lt
  have S0 := Aside0.mk (PfSt.new hF hB.size #[.int .i64 3, .int .i64 7] b.cells)
  clear hF hg hB hx
  obtain ⟨q1, hq1⟩ : ∃ q, q = w.heap.size := ⟨_, rfl⟩
  obtain ⟨q2, hq2⟩ : ∃ q, q = w.heap.size + 1 := ⟨_, rfl⟩
  go_enter Try.func34, Try.ntmps34
  go_upto_region 1 with (fail)
  (try simp only [Act.put, List.setIfInBounds_toArray, List.set_cons_zero, List.set_cons_succ])
  generalize (w.alloc (.cells #[.int .i64 3, .int .i64 7] 85)).alloc (.cells b.cells 74) = y0 at S0 ⊢
  rw [← hq2, ← hq1] at S0
  rw [← hq2, ← hq1]
  have Q1 := Aside0.mk (show q1 ≠ g from by have := HLT.out; omega)
  have Q2 := Aside0.mk (show q2 ≠ g from by have := HLT.out; omega)
  clear hq1 hq2
  have r0 : y0.cell? ⟨q1, 0, none⟩ = some (.int .i64 3) := (blk_cell S0.out.2.1 0).trans rfl
  have r1 : y0.cell? ⟨q1, 1, none⟩ = some (.int .i64 7) := (blk_cell S0.out.2.1 1).trans rfl
  have b0 : y0.cell? ⟨q2, 24, none⟩ = some (.bool true) := by rw [← hf]; exact (blk_cell S0.out.2.2.1 24).trans rfl
  obtain ⟨A, c, hg5, hr5⟩ := S0.out.1
  have HR1 := Aside0.mk hr5
  have HG1 := Aside0.mk hg5
  have HS1 := Aside0.mk (Nat.le_trans HB.out.size S0.out.2.2.2.below.size)
  have q0 : y0.cell? ⟨g, 0, none⟩ = some (.slice A xs.length c) := (blk_cell hg5 0).trans rfl
  clear hg5 hr5
  obtain ⟨z1, hz1⟩ : ∃ x, x = xs ++ [(1 : Int)] := ⟨_, rfl⟩
  have Z1 := Aside0.mk hz1
  clear hz1
  go_wp2_with ((with_reducible refine gate_builtin (b := .append) (xs := #[.tmp 47, .tmp 49]) rfl ?_); at_builtin; refine Kd.R_append (Kd.int .u8) (w0 := y0) w0.heap.size rfl (.tmp 47) (.tmp 49) 29 5 (.int .u8 0) 1 rfl Try.underlying29 info_u8 rfl (by decide) (by omega) (.slice A xs.length c) xs 1 [.int .u8 1] (fun _ => True) (fun _ => False) rfl rfl ?aP (fun _ hk => hk.elim) ?aF ?aO ?aB ?aS ?aL ?_; (case aP => exact rfl); (case aF => exact (fun _ _ => trivial)); (case aO => exact HR1.out); (case aB => exact Below.refl _ _); (case aS => exact HS1.out); (case aL => have := HX.out; omega); intro v2 w2 ho hb hg_ hat; rw [← Z1.out] at ho; obtain ⟨A2, c2, e2⟩ := Kd.R_slice ho; subst e2; have HO2 := Aside0.mk ho; have HK2 := Aside0.mk ((KeepW.refl y0 g w0.heap.size).grown HR1.out hg_ hb); have hG2 := hg_.block g (blk_lt HG1.out) (Kd.R_ne HR1.out HG1.out (by decide)); rw [HG1.out] at hG2; have HG2 := Aside0.mk hG2; have z0 : w2.frozen? ⟨g, 0, none⟩ = false := blk_frozen hG2 0; have q0 : w2.cell? ⟨g, 0, none⟩ = some (.slice A xs.length c) := (blk_cell hG2 0).trans rfl; clear ho hb hg_ hat hG2)
  refine bodyPost_end (v := .tuple #[]) (by simp [results, Try.results34, go_sem]) rfl ?_
  rw [← Z1.out]
  exact ⟨rfl, Pn.mk' (by simpa using blk_set HG2.out 0 (.slice A2 z1.length c2)) (Kd.R_set HO2.out HG2.out (by decide) 0 _), (S0.out.2.2.2.trans HK2.out).set HGE.out 0 _⟩
set_option maxHeartbeats 4000000 in
set_option maxRecDepth 100000 in
theorem pf_recs (w0 : World) (g : Nat) (xs : List Int) (bad : Bool) (b : Bg) (A : Option Addr) (c : Nat) (l : List S98) (ys : List Int) (b2 : Bool) (w : World) (hF : Pn w g w0.heap.size xs bad) (hg : w0.heap.size ≤ g) (hB : Below w0.heap.size w0 w) (hu : b.recs = .slice A l.length c) (hl : ∀ W, Below w0.heap.size w W → Kd.C k98 W A l.length l) (hs : lw rec1 rec2 l (xs ++ nb (l.length : Nat) 2) (bad || decide (65535 < l.length)) = (ys, b2)) (hx : xs.length + (l.map recN).sum ≤ 700000000) :
    Calls Try.prog 34 #[.pointer (some ⟨g, 0, none⟩), .agg #[.int .i64 4, .int .i64 11], .agg b.cells] w fun e w' => e = .returned (.tuple #[]) ∧ Pn w' g w0.heap.size ys b2 ∧ KeepW w w' g w0.heap.size := by
  have HL := Aside0.mk hl
  have HS := Aside0.mk hs
  have HU := Aside0.mk hu
  clear hl hs hu
  have HGE := Aside0.mk hg
  have HB := Aside0.mk hB
  have HX := Aside0.mk hx
  have HLT := Aside0.mk hF.lt
  have S0 := Aside0.mk (PfSt.new hF hB.size #[.int .i64 4, .int .i64 11] b.cells)
  clear hF hg hB hx
  obtain ⟨q1, hq1⟩ : ∃ q, q = w.heap.size := ⟨_, rfl⟩
  obtain ⟨q2, hq2⟩ : ∃ q, q = w.heap.size + 1 := ⟨_, rfl⟩
  go_enter Try.func34, Try.ntmps34
  go_upto_region 1 with (fail)
  (try simp only [Act.put, List.setIfInBounds_toArray, List.set_cons_zero, List.set_cons_succ])
  generalize (w.alloc (.cells #[.int .i64 4, .int .i64 11] 85)).alloc (.cells b.cells 74) = y0 at S0 ⊢
  rw [← hq2, ← hq1] at S0
  rw [← hq2, ← hq1]
  have Q1 := Aside0.mk (show q1 ≠ g from by have := HLT.out; omega)
  have Q2 := Aside0.mk (show q2 ≠ g from by have := HLT.out; omega)
  clear hq1 hq2
  have r0 : y0.cell? ⟨q1, 0, none⟩ = some (.int .i64 4) := (blk_cell S0.out.2.1 0).trans rfl
  have r1 : y0.cell? ⟨q1, 1, none⟩ = some (.int .i64 11) := (blk_cell S0.out.2.1 1).trans rfl
  have b0 : y0.cell? ⟨q2, 25, none⟩ = some (.slice A l.length c) := by rw [← HU.out]; exact (blk_cell S0.out.2.2.1 25).trans rfl
  go_wp2_with fail
  refine (pn_records w0 g xs bad A c l ys b2 y0 S0.out.1 HGE.out (HB.out.trans S0.out.2.2.2.below) (fun W hW => HL.out W (S0.out.2.2.2.below.trans hW)) HX.out HS.out).mono ?_
  rintro e y ⟨rfl, h1, h2⟩
  have H1 := Aside0.mk h1
  have H2 := Aside0.mk (S0.out.2.2.2.trans h2)
  clear h1 h2
  go_wp2_with fail
  refine bodyPost_end (v := .tuple #[]) (by simp [results, Try.results34, go_sem]) rfl ?_
  exact ⟨rfl, H1.out, H2.out⟩

end Go.Proofs.Ytncfofnikmfjbaa.PCi
