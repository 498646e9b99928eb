import Derived.Test.YtncfofnikmfjbaaQCf9
import Derived.Outline
import Derived.StillTailTactics
import Derived.RegionTactic
import Derived.BigRegion
import Derived.Lib.BufferWrite
namespace Go.Proofs.Ytncfofnikmfjbaa.PCi
open Go.RowKit Go.Proofs.YtncfofnikmfjbaaW.PrintWords Go.Proofs.YtncfofnikmfjbaaW.PrintLast Go.Proofs.YtncfofnikmfjbaaW.PrintMore
attribute [local go_sem] max2_int min2_int max_two min_two max_three min_three max_four min_four
set_option linter.unusedVariables false
set_option linter.unusedSimpArgs false

/-! ### codec: the reader's field -/
/-- All stands but blocks g and h. -/
structure KeepM (w w' : World) (g h base : Nat) : Prop where
  below : Below base w w'
  keep : ∀ i o, i ≠ g → i ≠ h → w.heap[i]? = some o → w'.heap[i]? = some o
theorem KeepM.refl (w : World) (g h base : Nat) : KeepM w w g h base := ⟨Below.refl _ _, fun _ _ _ _ e => e⟩
theorem KeepM.trans {w w1 w2 : World} {g h base : Nat} (a : KeepM w w1 g h base) (b : KeepM w1 w2 g h base) : KeepM w w2 g h base := ⟨a.below.trans b.below, fun i o h1 h2 ho => b.keep i o h1 h2 (a.keep i o h1 h2 ho)⟩
theorem KeepR.M {w w1 : World} {g base : Nat} (h : KeepR w w1 g base) (k : Nat) : KeepM w w1 g k base := ⟨h.below, fun i o h1 _ ho => h.keep i o h1 ho⟩
theorem KeepM.drewN {w w1 : World} {g h base : Nat} (a : KeepM w w1 g h base) (n : Nat) : KeepM w (w1.drewN n) g h base := ⟨pw_below_drewN a.below n, a.keep⟩
theorem KeepM.setH {w w1 : World} {g h base : Nat} (a : KeepM w w1 g h base) (hh : base ≤ h) (j : Nat) (v : Value) : KeepM w (w1.setCell ⟨h, j, none⟩ v) g h base :=
  ⟨a.below.setCell (p := ⟨h, j, none⟩) hh v, fun i o h1 h2 ho => (Below.heap_setCell w1 ⟨h, j, none⟩ v i h2).trans (a.keep i o h1 h2 ho)⟩
theorem KeepM.R {α : Type} {d : Kd α} {e base b : Nat} {v : Value} {xs : List α} {w w2 : World} {g h : Nat} (hr : d.R e w base (fun k => k ≠ g ∧ k ≠ h) v xs) (k : KeepM w w2 g h b) : d.R e w2 base (fun k => k ≠ g ∧ k ≠ h) v xs := Kd.R_step hr (fun i hi hlt => by
  obtain ⟨o, ho⟩ : ∃ o, w.heap[i]? = some o := ⟨_, Array.getElem?_eq_getElem hlt⟩
  exact (k.keep i o hi.1 hi.2 ho).trans ho.symm)
/-- The variable's block, the message, the rest. -/
structure FrT (u w W : World) (g h : Nat) (m : Msg) : Prop where
  qb : W.heap[w.heap.size]? = some (.cells #[.pointer (some ⟨g, 0, none⟩)] 87 (0, 0))
  ms : MsAt W h m
  keep : KeepM w W g h u.heap.size
section
variable {u w W W2 : World} {g h : Nat} {l l2 : List Int} {bad b2 : Bool} {m : Msg}
theorem FrT.new (hm : MsAt w h m) (hu : Below u.heap.size u w) : FrT u w (w.alloc (.cells #[.pointer (some ⟨g, 0, none⟩)] 87)) g h m :=
  ⟨heap_alloc_new w _, blk_alloc hm _, (KeepR.of_below (below_alloc (Below.refl _ _) _) hu.size).M h⟩
theorem FrT.drewN (s : FrT u w W g h m) (n : Nat) : FrT u w (W.drewN n) g h m := ⟨s.qb, s.ms, s.keep.drewN n⟩
theorem FrT.q0 (s : FrT u w W g h m) : W.cell? ⟨w.heap.size, 0, none⟩ = some (.pointer (some ⟨g, 0, none⟩)) := (blk_cell s.qb 0).trans rfl
theorem FrT.step (s : FrT u w W g h m) (hg : g < w.heap.size) (hgh : g ≠ h) (k : KeepR W W2 g u.heap.size) : FrT u w W2 g h m := ⟨k.keep _ _ (by omega) s.qb, k.keep _ _ (Ne.symm hgh) s.ms, s.keep.trans (k.M h)⟩
theorem FrT.hq (s : FrT u w W g h m) (hg : g < w.heap.size) : ∀ W2, KeepR W W2 g u.heap.size → W2.cell? ⟨w.heap.size, 0, none⟩ = some (.pointer (some ⟨g, 0, none⟩)) := fun W2 k => (blk_cell (k.keep _ _ (by omega) s.qb) 0).trans rfl
theorem MsAt.set {j : Nat} {v : Value} {m2 : Msg} (hm : MsAt W h m) (e : m.cells.setIfInBounds j v = m2.cells) : MsAt (W.setCell ⟨h, j, none⟩ v) h m2 := by
  have := blk_set hm j v
  rw [e] at this
  exact this
end
set_option maxHeartbeats 4000000 in
set_option maxRecDepth 100000 in
theorem rf_text0 (u : World) (g h : Nat) (which : Int) (l : List Int) (bad : Bool) (l2 : List Int) (bad2 : Bool) (m : Msg) (w : World) (hF : Rd u w g l bad) (hg : u.heap.size ≤ g) (hh : u.heap.size ≤ h) (hgh : g ≠ h) (hu : Below u.heap.size u w) (hm : MsAt w h m) (s : ByteArray) (hx : rdText l bad = (s, l2, bad2)) :
    Calls Try.prog 37 #[.pointer (some ⟨g, 0, none⟩), .pointer (some ⟨h, 0, none⟩), .int .i64 which, .int .i64 0] w fun e w' => e = .returned (.tuple #[]) ∧ Rd u w' g l2 bad2 ∧ MsAt w' h { m with topic := s } ∧ KeepM w w' g h u.heap.size := by
  have HF := Aside0.mk hF
  have HGE := Aside0.mk hg
  have HU := Aside0.mk hu
  have HH := Aside0.mk hh
  have HGH := Aside0.mk hgh
  have HLT := Aside0.mk hF.lt
  have HMT := Aside0.mk (blk_lt hm)
  have R0 := Aside0.mk (hF.below (below_alloc (Below.refl _ _) (.cells #[.pointer (some ⟨g, 0, none⟩)] 87)))
  have S0 := Aside0.mk (FrT.new (g := g) hm hu)
  have HX := Aside0.mk hx
  clear hx
  clear hF hg hh hgh hu hm
  go_enter Try.func37, Try.ntmps37
  go_upto_region 5 with (fail)
  (try simp only [Act.put, List.setIfInBounds_toArray, List.set_cons_zero, List.set_cons_succ])
  generalize w.alloc (.cells #[.pointer (some ⟨g, 0, none⟩)] 87) = y0 at R0 S0 ⊢
  refine start_ (n := 7) (S := fun w' => FrT u w w' g h m) (ds := [6]) #[false, false, false, false, false, false, false] (by kernel_rfl) rfl rfl (S0.out.drewN 1) (fun hHeld => ?_)
  refine pure_ (i := 0) (N := (some 20)) (v := ?_) (a' := ?_) #[true, false, false, false, false, false, false] rfl rfl (by kernel_rfl) (fun _ _ _ h => h) (Or.inl ⟨by rfl, ?_⟩) ?_ ?_
  rotate_left
  · intro w'
    go_simp
    with_reducible rfl
  rotate_left
  · simp only [Act.put, List.setIfInBounds_toArray, List.set_cons_zero, List.set_cons_succ, i64_w, i32_w]
    rfl
  refine pure_ (i := 1) (N := (some 21)) (v := ?_) (a' := ?_) #[true, true, false, false, false, false, false] rfl rfl (by kernel_rfl) (fun _ _ _ h => h) (Or.inl ⟨by rfl, ?_⟩) ?_ ?_
  rotate_left
  · intro w'
    go_simp
    with_reducible rfl
  rotate_left
  · simp only [Act.put, List.setIfInBounds_toArray, List.set_cons_zero, List.set_cons_succ, i64_w, i32_w]
    rfl
  refine take_ (i := 3) (N := (some 23)) (v := ?_) (a' := ?_) #[true, true, false, true, false, false, false] rfl rfl (by kernel_rfl) (fun _ _ _ h => h) (Or.inl ⟨by rfl, ?_⟩) hHeld ?_ ?_
  rotate_left
  · rintro w' s
    have q0 := s.q0
    go_simp
    with_reducible rfl
  rotate_left
  · simp only [Act.put, List.setIfInBounds_toArray, List.set_cons_zero, List.set_cons_succ, i64_w, i32_w]
    rfl
  refine one_ (i := 2) (N := (some 22)) #[true, true, true, true, false, false, false] rfl rfl (by kernel_rfl) (by decide) (fun K hK => ?_)
  refine goes_ Try.func45 (by kernel_rfl) rfl #[.pointer (some ⟨h, 0, none⟩), .int .i64 0] (by rfl) rfl rfl (by (try simp only [List.map_toArray, List.map_cons, List.map_nil]); first | done | rfl) ?_
  refine (message_text.calls h 0 _).mono ?_
  rintro e w1 ⟨rfl, hw⟩
  refine ⟨_, rfl, ?_⟩
  subst hw
  refine hK.out _ _ hHeld (fun hHeld => ?_)
  clear hK K
  refine norm_ (a' := ?_) ?_ ?_
  rotate_left
  · show Act.put _ (some 22) _ = _
    simp only [Act.put, List.setIfInBounds_toArray, List.set_cons_zero, List.set_cons_succ, i64_w, i32_w]
    rfl
  refine one_ (i := 4) (N := (some 24)) #[true, true, true, true, true, false, false] rfl rfl (by kernel_rfl) (by decide) (fun K hK => ?_)
  refine goes_ Try.func64 (by kernel_rfl) rfl #[.pointer (some ⟨g, 0, none⟩)] (by rfl) rfl rfl (by (try simp only [List.map_toArray, List.map_cons, List.map_nil]); first | done | rfl) ?_
  refine (rd_text u g l bad s l2 bad2 _ (R0.out.drewN 1) HGE.out (HU.out.trans hHeld.keep.below) HX.out).mono ?_
  rintro e w1 ⟨rfl, h3, h4⟩
  refine ⟨_, rfl, ?_⟩
  have R1 := Aside0.mk h3
  have S1 := Aside0.mk (hHeld.step HLT.out HGH.out h4)
  refine hK.out _ _ S1.out (fun hHeld => ?_)
  clear hK K
  refine norm_ (a' := ?_) ?_ ?_
  rotate_left
  · show Act.put _ (some 24) _ = _
    simp only [Act.put, List.setIfInBounds_toArray, List.set_cons_zero, List.set_cons_succ, i64_w, i32_w]
    rfl
  refine pure_ (i := 5) (N := (some 25)) (v := ?_) (a' := ?_) #[true, true, true, true, true, true, false] rfl rfl (by kernel_rfl) (fun _ _ _ h => h) (Or.inl ⟨by rfl, ?_⟩) ?_ ?_
  rotate_left
  · intro w'
    go_simp
    with_reducible rfl
  rotate_left
  · simp only [Act.put, List.setIfInBounds_toArray, List.set_cons_zero, List.set_cons_succ, i64_w, i32_w]
    rfl
  refine last_ (i := 6) (N := none) #[true, true, true, true, true, true, true] rfl rfl (by kernel_rfl) (by decide) (fun K hK => ?_)
  have z0 : w1.frozen? ⟨h, 2, none⟩ = false := S1.out.ms.free 2
  have q0 : w1.cell? ⟨h, 2, none⟩ = some (.string m.topic) := (S1.out.ms.cell 2).trans rfl
  refine skip_ (w1 := ?_) (by rfl) rfl ?_ ?_
  rotate_left
  · go_simp
    rfl
  refine hK.out _ _ ?_
  clear hK K
  refine done_ (by kernel_rfl) ?_
  clear hHeld
  simp only [Exit.inBlock]
  refine bodyPost_end (v := .tuple #[]) (by simp [results, Try.results37, go_sem]) rfl ?_
  exact ⟨rfl, R1.out.far HGH.out _ _, S1.out.ms.set rfl, S1.out.keep.setH HH.out _ _⟩
set_option maxHeartbeats 4000000 in
set_option maxRecDepth 100000 in
theorem rf_text1 (u : World) (g h : Nat) (which : Int) (l : List Int) (bad : Bool) (l2 : List Int) (bad2 : Bool) (m : Msg) (w : World) (hF : Rd u w g l bad) (hg : u.heap.size ≤ g) (hh : u.heap.size ≤ h) (hgh : g ≠ h) (hu : Below u.heap.size u w) (hm : MsAt w h m) (s : ByteArray) (hx : rdText l bad = (s, l2, bad2)) :
    Calls Try.prog 37 #[.pointer (some ⟨g, 0, none⟩), .pointer (some ⟨h, 0, none⟩), .int .i64 which, .int .i64 1] w fun e w' => e = .returned (.tuple #[]) ∧ Rd u w' g l2 bad2 ∧ MsAt w' h { m with group := s } ∧ KeepM w w' g h u.heap.size := by
  have HF := Aside0.mk hF
  have HGE := Aside0.mk hg
  have HU := Aside0.mk hu
  have HH := Aside0.mk hh
  have HGH := Aside0.mk hgh
  have HLT := Aside0.mk hF.lt
  have HMT := Aside0.mk (blk_lt hm)
  have R0 := Aside0.mk (hF.below (below_alloc (Below.refl _ _) (.cells #[.pointer (some ⟨g, 0, none⟩)] 87)))
  have S0 := Aside0.mk (FrT.new (g := g) hm hu)
  have HX := Aside0.mk hx
  clear hx
  clear hF hg hh hgh hu hm
  go_enter Try.func37, Try.ntmps37
  go_upto_region 5 with (fail)
  (try simp only [Act.put, List.setIfInBounds_toArray, List.set_cons_zero, List.set_cons_succ])
  generalize w.alloc (.cells #[.pointer (some ⟨g, 0, none⟩)] 87) = y0 at R0 S0 ⊢
  refine start_ (n := 7) (S := fun w' => FrT u w w' g h m) (ds := [6]) #[false, false, false, false, false, false, false] (by kernel_rfl) rfl rfl (S0.out.drewN 1) (fun hHeld => ?_)
  refine pure_ (i := 0) (N := (some 20)) (v := ?_) (a' := ?_) #[true, false, false, false, false, false, false] rfl rfl (by kernel_rfl) (fun _ _ _ h => h) (Or.inl ⟨by rfl, ?_⟩) ?_ ?_
  rotate_left
  · intro w'
    go_simp
    with_reducible rfl
  rotate_left
  · simp only [Act.put, List.setIfInBounds_toArray, List.set_cons_zero, List.set_cons_succ, i64_w, i32_w]
    rfl
  refine pure_ (i := 1) (N := (some 21)) (v := ?_) (a' := ?_) #[true, true, false, false, false, false, false] rfl rfl (by kernel_rfl) (fun _ _ _ h => h) (Or.inl ⟨by rfl, ?_⟩) ?_ ?_
  rotate_left
  · intro w'
    go_simp
    with_reducible rfl
  rotate_left
  · simp only [Act.put, List.setIfInBounds_toArray, List.set_cons_zero, List.set_cons_succ, i64_w, i32_w]
    rfl
  refine take_ (i := 3) (N := (some 23)) (v := ?_) (a' := ?_) #[true, true, false, true, false, false, false] rfl rfl (by kernel_rfl) (fun _ _ _ h => h) (Or.inl ⟨by rfl, ?_⟩) hHeld ?_ ?_
  rotate_left
  · rintro w' s
    have q0 := s.q0
    go_simp
    with_reducible rfl
  rotate_left
  · simp only [Act.put, List.setIfInBounds_toArray, List.set_cons_zero, List.set_cons_succ, i64_w, i32_w]
    rfl
  refine one_ (i := 2) (N := (some 22)) #[true, true, true, true, false, false, false] rfl rfl (by kernel_rfl) (by decide) (fun K hK => ?_)
  refine goes_ Try.func45 (by kernel_rfl) rfl #[.pointer (some ⟨h, 0, none⟩), .int .i64 1] (by rfl) rfl rfl (by (try simp only [List.map_toArray, List.map_cons, List.map_nil]); first | done | rfl) ?_
  refine (message_text.calls h 1 _).mono ?_
  rintro e w1 ⟨rfl, hw⟩
  refine ⟨_, rfl, ?_⟩
  subst hw
  refine hK.out _ _ hHeld (fun hHeld => ?_)
  clear hK K
  refine norm_ (a' := ?_) ?_ ?_
  rotate_left
  · show Act.put _ (some 22) _ = _
    simp only [Act.put, List.setIfInBounds_toArray, List.set_cons_zero, List.set_cons_succ, i64_w, i32_w]
    rfl
  refine one_ (i := 4) (N := (some 24)) #[true, true, true, true, true, false, false] rfl rfl (by kernel_rfl) (by decide) (fun K hK => ?_)
  refine goes_ Try.func64 (by kernel_rfl) rfl #[.pointer (some ⟨g, 0, none⟩)] (by rfl) rfl rfl (by (try simp only [List.map_toArray, List.map_cons, List.map_nil]); first | done | rfl) ?_
  refine (rd_text u g l bad s l2 bad2 _ (R0.out.drewN 1) HGE.out (HU.out.trans hHeld.keep.below) HX.out).mono ?_
  rintro e w1 ⟨rfl, h3, h4⟩
  refine ⟨_, rfl, ?_⟩
  have R1 := Aside0.mk h3
  have S1 := Aside0.mk (hHeld.step HLT.out HGH.out h4)
  refine hK.out _ _ S1.out (fun hHeld => ?_)
  clear hK K
  refine norm_ (a' := ?_) ?_ ?_
  rotate_left
  · show Act.put _ (some 24) _ = _
    simp only [Act.put, List.setIfInBounds_toArray, List.set_cons_zero, List.set_cons_succ, i64_w, i32_w]
    rfl
  refine pure_ (i := 5) (N := (some 25)) (v := ?_) (a' := ?_) #[true, true, true, true, true, true, false] rfl rfl (by kernel_rfl) (fun _ _ _ h => h) (Or.inl ⟨by rfl, ?_⟩) ?_ ?_
  rotate_left
  · intro w'
    go_simp
    with_reducible rfl
  rotate_left
  · simp only [Act.put, List.setIfInBounds_toArray, List.set_cons_zero, List.set_cons_succ, i64_w, i32_w]
    rfl
  refine last_ (i := 6) (N := none) #[true, true, true, true, true, true, true] rfl rfl (by kernel_rfl) (by decide) (fun K hK => ?_)
  have z0 : w1.frozen? ⟨h, 16, none⟩ = false := S1.out.ms.free 16
  have q0 : w1.cell? ⟨h, 16, none⟩ = some (.string m.group) := (S1.out.ms.cell 16).trans rfl
  refine skip_ (w1 := ?_) (by rfl) rfl ?_ ?_
  rotate_left
  · go_simp
    rfl
  refine hK.out _ _ ?_
  clear hK K
  refine done_ (by kernel_rfl) ?_
  clear hHeld
  simp only [Exit.inBlock]
  refine bodyPost_end (v := .tuple #[]) (by simp [results, Try.results37, go_sem]) rfl ?_
  exact ⟨rfl, R1.out.far HGH.out _ _, S1.out.ms.set rfl, S1.out.keep.setH HH.out _ _⟩
set_option maxHeartbeats 4000000 in
set_option maxRecDepth 100000 in
theorem rf_num (u : World) (g h : Nat) (which f : Int) (l : List Int) (bad : Bool) (l2 : List Int) (bad2 : Bool) (m : Msg) (w : World) (hF : Rd u w g l bad) (hg : u.heap.size ≤ g) (hh : u.heap.size ≤ h) (hgh : g ≠ h) (hu : Below u.heap.size u w) (hm : MsAt w h m) (hf0 : f ≠ 0) (hf1 : f ≠ 1) (hf7 : f ≠ 7) (hf16 : f ≠ 16) (hf17 : f ≠ 17) (hf18 : f ≠ 18) (hf19 : f ≠ 19) (v : Int) (hx : rdInt l bad = (v, l2, bad2)) :
    Calls Try.prog 37 #[.pointer (some ⟨g, 0, none⟩), .pointer (some ⟨h, 0, none⟩), .int .i64 which, .int .i64 f] w fun e w' => e = .returned (.tuple #[]) ∧ Rd u w' g l2 bad2 ∧ MsAt w' h (m.put which f v) ∧ KeepM w w' g h u.heap.size := by
  have HF := Aside0.mk hF
  have HGE := Aside0.mk hg
  have HU := Aside0.mk hu
  have HH := Aside0.mk hh
  have HGH := Aside0.mk hgh
  have HLT := Aside0.mk hF.lt
  have HMT := Aside0.mk (blk_lt hm)
  have R0 := Aside0.mk (hF.below (below_alloc (Below.refl _ _) (.cells #[.pointer (some ⟨g, 0, none⟩)] 87)))
  have S0 := Aside0.mk (FrT.new (g := g) hm hu)
  have t0 : (f == 0) = false := beq_eq_false_iff_ne.2 hf0
  have t1 : (f == 1) = false := beq_eq_false_iff_ne.2 hf1
  have t7 : (f == 7) = false := beq_eq_false_iff_ne.2 hf7
  have t16 : (f == 16) = false := beq_eq_false_iff_ne.2 hf16
  have t17 : (f == 17) = false := beq_eq_false_iff_ne.2 hf17
  have t18 : (f == 18) = false := beq_eq_false_iff_ne.2 hf18
  have t19 : (f == 19) = false := beq_eq_false_iff_ne.2 hf19
  clear hf0 hf1 hf7 hf16 hf17 hf18 hf19
  have HX := Aside0.mk (show rdNum 8 l bad = (v, l2, bad2) from hx)
  clear hx
  clear hF hg hh hgh hu hm
  go_enter Try.func37, Try.ntmps37
  go_upto_region 2 with (fail)
  (try simp only [Act.put, List.setIfInBounds_toArray, List.set_cons_zero, List.set_cons_succ])
  generalize w.alloc (.cells #[.pointer (some ⟨g, 0, none⟩)] 87) = y0 at R0 S0 ⊢
  refine start_ (n := 8) (S := fun w' => FrT u w w' g h m) (ds := [7]) #[false, false, false, false, false, false, false, false] (by kernel_rfl) rfl rfl (S0.out.drewN 1) (fun hHeld => ?_)
  refine pure_ (i := 0) (N := (some 10)) (v := ?_) (a' := ?_) #[true, false, false, false, false, false, false, false] rfl rfl (by kernel_rfl) (fun _ _ _ h => h) (Or.inl ⟨by rfl, ?_⟩) ?_ ?_
  rotate_left
  · intro w'
    go_simp
    with_reducible rfl
  rotate_left
  · simp only [Act.put, List.setIfInBounds_toArray, List.set_cons_zero, List.set_cons_succ, i64_w, i32_w]
    rfl
  refine pure_ (i := 1) (N := (some 11)) (v := ?_) (a' := ?_) #[true, true, false, false, false, false, false, false] rfl rfl (by kernel_rfl) (fun _ _ _ h => h) (Or.inl ⟨by rfl, ?_⟩) ?_ ?_
  rotate_left
  · intro w'
    go_simp
    with_reducible rfl
  rotate_left
  · simp only [Act.put, List.setIfInBounds_toArray, List.set_cons_zero, List.set_cons_succ, i64_w, i32_w]
    rfl
  refine pure_ (i := 2) (N := (some 12)) (v := ?_) (a' := ?_) #[true, true, true, false, false, false, false, false] rfl rfl (by kernel_rfl) (fun _ _ _ h => h) (Or.inl ⟨by rfl, ?_⟩) ?_ ?_
  rotate_left
  · intro w'
    go_simp
    with_reducible rfl
  rotate_left
  · simp only [Act.put, List.setIfInBounds_toArray, List.set_cons_zero, List.set_cons_succ, i64_w, i32_w]
    rfl
  refine take_ (i := 4) (N := (some 14)) (v := ?_) (a' := ?_) #[true, true, true, false, true, false, false, false] rfl rfl (by kernel_rfl) (fun _ _ _ h => h) (Or.inl ⟨by rfl, ?_⟩) hHeld ?_ ?_
  rotate_left
  · rintro w' s
    have q0 := s.q0
    go_simp
    with_reducible rfl
  rotate_left
  · simp only [Act.put, List.setIfInBounds_toArray, List.set_cons_zero, List.set_cons_succ, i64_w, i32_w]
    rfl
  refine one_ (i := 3) (N := (some 13)) #[true, true, true, true, true, false, false, false] rfl rfl (by kernel_rfl) (by decide) (fun K hK => ?_)
  refine goes_ Try.func53 (by kernel_rfl) rfl #[.pointer (some ⟨h, 0, none⟩), .int .i64 which, .int .i64 f] (by rfl) rfl rfl (by (try simp only [List.map_toArray, List.map_cons, List.map_nil]); first | done | rfl) ?_
  refine (message_int.calls h which f _).mono ?_
  rintro e w1 ⟨rfl, hw⟩
  refine ⟨_, rfl, ?_⟩
  subst hw
  refine hK.out _ _ hHeld (fun hHeld => ?_)
  clear hK K
  refine norm_ (a' := ?_) ?_ ?_
  rotate_left
  · show Act.put _ (some 13) _ = _
    simp only [Act.put, List.setIfInBounds_toArray, List.set_cons_zero, List.set_cons_succ, i64_w, i32_w]
    rfl
  refine one_ (i := 5) (N := (some 15)) #[true, true, true, true, true, true, false, false] rfl rfl (by kernel_rfl) (by decide) (fun K hK => ?_)
  refine goes_ Try.func36 (by kernel_rfl) rfl #[.pointer (some ⟨g, 0, none⟩), .int .i64 8] (by rfl) rfl rfl (by (try simp only [List.map_toArray, List.map_cons, List.map_nil]); first | done | rfl) ?_
  refine (rd_number u g l bad 8 v l2 bad2 _ (R0.out.drewN 1) HGE.out (HU.out.trans hHeld.keep.below) (by decide) (by decide) HX.out).mono ?_
  rintro e w1 ⟨rfl, h3, h4⟩
  refine ⟨_, rfl, ?_⟩
  have R1 := Aside0.mk h3
  have S1 := Aside0.mk (hHeld.step HLT.out HGH.out h4)
  refine hK.out _ _ S1.out (fun hHeld => ?_)
  clear hK K
  refine norm_ (a' := ?_) ?_ ?_
  rotate_left
  · show Act.put _ (some 15) _ = _
    simp only [Act.put, List.setIfInBounds_toArray, List.set_cons_zero, List.set_cons_succ, i64_w, i32_w]
    rfl
  refine pure_ (i := 6) (N := (some 16)) (v := ?_) (a' := ?_) #[true, true, true, true, true, true, true, false] rfl rfl (by kernel_rfl) (fun _ _ _ h => h) (Or.inl ⟨by rfl, ?_⟩) ?_ ?_
  rotate_left
  · intro w'
    go_simp
    with_reducible rfl
  rotate_left
  · simp only [Act.put, List.setIfInBounds_toArray, List.set_cons_zero, List.set_cons_succ, i64_w, i32_w]
    rfl
  refine last_ (i := 7) (N := none) #[true, true, true, true, true, true, true, true] rfl rfl (by kernel_rfl) (by decide) (fun K hK => ?_)
  have z0 : w1.frozen? ⟨h, slotI which f, none⟩ = false := S1.out.ms.free _
  have q0 : w1.cell? ⟨h, slotI which f, none⟩ = some (.int .i64 (m.num which f)) := (S1.out.ms.cell _).trans (Msg.num_cell m which f)
  refine skip_ (w1 := ?_) (by rfl) rfl ?_ ?_
  rotate_left
  · go_simp
    rfl
  refine hK.out _ _ ?_
  clear hK K
  refine done_ (by kernel_rfl) ?_
  clear hHeld
  simp only [Exit.inBlock]
  refine bodyPost_end (v := .tuple #[]) (by simp [results, Try.results37, go_sem]) rfl ?_
  exact ⟨rfl, R1.out.far HGH.out _ _, S1.out.ms.put which f v, S1.out.keep.setH HH.out _ _⟩
set_option maxHeartbeats 4000000 in
set_option maxRecDepth 100000 in
theorem rf_flag_true (u : World) (g h : Nat) (which : Int) (l : List Int) (bad : Bool) (l2 : List Int) (bad2 : Bool) (m : Msg) (w : World) (hF : Rd u w g l bad) (hg : u.heap.size ≤ g) (hh : u.heap.size ≤ h) (hgh : g ≠ h) (hu : Below u.heap.size u w) (hm : MsAt w h m) (v : Int) (l1 : List Int) (hn : rdNum 1 l bad = (v, l1, true)) (hl : l2 = l1) (hb2 : bad2 = (true || decide (1 < v))) :
    Calls Try.prog 37 #[.pointer (some ⟨g, 0, none⟩), .pointer (some ⟨h, 0, none⟩), .int .i64 which, .int .i64 7] w fun e w' => e = .returned (.tuple #[]) ∧ Rd u w' g l2 bad2 ∧ MsAt w' h { m with comp := v == 1 } ∧ KeepM w w' g h u.heap.size := by
  have HF := Aside0.mk hF
  have HGE := Aside0.mk hg
  have HU := Aside0.mk hu
  have HH := Aside0.mk hh
  have HGH := Aside0.mk hgh
  have HLT := Aside0.mk hF.lt
  have HMT := Aside0.mk (blk_lt hm)
  have R0 := Aside0.mk (hF.below (below_alloc (Below.refl _ _) (.cells #[.pointer (some ⟨g, 0, none⟩)] 87)))
  have S0 := Aside0.mk (FrT.new (g := g) hm hu)
  have HN := Aside0.mk hn
  subst hl
  simp only [Bool.true_or, Bool.false_or] at hb2
  have HB2 := Aside0.mk hb2
  clear hn hb2
  clear hF hg hh hgh hu hm
  go_enter Try.func37, Try.ntmps37
  go_upto_region 7 with (fail)
  (try simp only [Act.put, List.setIfInBounds_toArray, List.set_cons_zero, List.set_cons_succ])
  generalize w.alloc (.cells #[.pointer (some ⟨g, 0, none⟩)] 87) = y0 at R0 S0 ⊢
  have q0 := S0.out.q0
  go_wp2_with fail
  refine (rd_number u g l bad 1 v l2 true y0 R0.out HGE.out (HU.out.trans S0.out.keep.below) (by decide) (by decide) HN.out).mono ?_
  rintro e y1 ⟨rfl, h3, h4⟩
  have R1 := Aside0.mk h3
  have S1 := Aside0.mk (S0.out.step HLT.out HGH.out h4)
  clear h3 h4 q0 S0 R0
  go_upto_region 8 with (fail)
  rename_i K_ hK_
  (try simp only [Act.put, List.setIfInBounds_toArray, List.set_cons_zero, List.set_cons_succ])
  refine start_ (n := 12) (S := fun w' => FrT u w w' g h m ∧ Rd u w' g l2 true) (ds := [11]) #[false, false, false, false, false, false, false, false, false, false, false, false] (by kernel_rfl) rfl rfl (And.intro (S1.out.drewN 1) R1.out) (fun hHeld => ?_)
  refine take_ (i := 0) (N := (some 30)) (v := ?_) (a' := ?_) #[true, false, false, false, false, false, false, false, false, false, false, false] rfl rfl (by kernel_rfl) (fun _ _ _ h => h) (Or.inl ⟨by rfl, ?_⟩) hHeld ?_ ?_
  rotate_left
  · rintro w' s
    have q0 := s.1.q0
    go_simp
    with_reducible rfl
  rotate_left
  · simp only [Act.put, List.setIfInBounds_toArray, List.set_cons_zero, List.set_cons_succ, i64_w, i32_w]
    rfl
  refine take_ (i := 1) (N := (some 31)) (v := ?_) (a' := ?_) #[true, true, false, false, false, false, false, false, false, false, false, false] rfl rfl (by kernel_rfl) (fun _ _ _ h => h) (Or.inl ⟨by rfl, ?_⟩) hHeld ?_ ?_
  rotate_left
  · rintro w' s
    have q0 := s.1.q0
    go_simp
    with_reducible rfl
  rotate_left
  · simp only [Act.put, List.setIfInBounds_toArray, List.set_cons_zero, List.set_cons_succ, i64_w, i32_w]
    rfl
  refine pure_ (i := 2) (N := (some 32)) (v := ?_) (a' := ?_) #[true, true, true, false, false, false, false, false, false, false, false, false] rfl rfl (by kernel_rfl) (fun _ _ _ h => h) (Or.inl ⟨by rfl, ?_⟩) ?_ ?_
  rotate_left
  · intro w'
    go_simp
    with_reducible rfl
  rotate_left
  · simp only [Act.put, List.setIfInBounds_toArray, List.set_cons_zero, List.set_cons_succ, i64_w, i32_w]
    rfl
  refine pure_ (i := 3) (N := (some 33)) (v := ?_) (a' := ?_) #[true, true, true, true, false, false, false, false, false, false, false, false] rfl rfl (by kernel_rfl) (fun _ _ _ h => h) (Or.inl ⟨by rfl, ?_⟩) ?_ ?_
  rotate_left
  · intro w'
    go_simp
    with_reducible rfl
  rotate_left
  · simp only [Act.put, List.setIfInBounds_toArray, List.set_cons_zero, List.set_cons_succ, i64_w, i32_w]
    rfl
  refine take_ (i := 4) (N := (some 34)) (v := ?_) (a' := ?_) #[true, true, true, true, true, false, false, false, false, false, false, false] rfl rfl (by kernel_rfl) (fun _ _ _ h => h) (Or.inl ⟨by rfl, ?_⟩) hHeld ?_ ?_
  rotate_left
  · rintro w' s
    obtain ⟨A, c, hg_, _⟩ := s.2
    have q0 : w'.cell? ⟨g, 1, none⟩ = some (.bool true) := (blk_cell hg_ 1).trans rfl
    go_simp
    with_reducible rfl
  rotate_left
  · simp only [Act.put, List.setIfInBounds_toArray, List.set_cons_zero, List.set_cons_succ, i64_w, i32_w]
    rfl
  refine pure_ (i := 5) (N := (some 35)) (v := ?_) (a' := ?_) #[true, true, true, true, true, true, false, false, false, false, false, false] rfl rfl (by kernel_rfl) (fun _ _ _ h => h) (Or.inl ⟨by rfl, ?_⟩) ?_ ?_
  rotate_left
  · intro w'
    go_simp
    with_reducible rfl
  rotate_left
  · simp only [Act.put, List.setIfInBounds_toArray, List.set_cons_zero, List.set_cons_succ, i64_w, i32_w]
    rfl
  refine pure_ (i := 6) (N := (some 36)) (v := undef) (a' := ?_) #[true, true, true, true, true, true, true, false, false, false, false, false] rfl rfl (by kernel_rfl) (fun _ _ _ h => h) (Or.inr ⟨by rfl, rfl⟩) ?_ ?_
  rotate_left
  · simp only [Act.put, List.setIfInBounds_toArray, List.set_cons_zero, List.set_cons_succ, i64_w, i32_w]
    rfl
  refine pure_ (i := 7) (N := (some 37)) (v := undef) (a' := ?_) #[true, true, true, true, true, true, true, true, false, false, false, false] rfl rfl (by kernel_rfl) (fun _ _ _ h => h) (Or.inr ⟨by rfl, rfl⟩) ?_ ?_
  rotate_left
  · simp only [Act.put, List.setIfInBounds_toArray, List.set_cons_zero, List.set_cons_succ, i64_w, i32_w]
    rfl
  refine pure_ (i := 8) (N := (some 38)) (v := ?_) (a' := ?_) #[true, true, true, true, true, true, true, true, true, false, false, false] rfl rfl (by kernel_rfl) (fun _ _ _ h => h) (Or.inl ⟨by rfl, ?_⟩) ?_ ?_
  rotate_left
  · intro w'
    go_simp
    with_reducible rfl
  rotate_left
  · simp only [Act.put, List.setIfInBounds_toArray, List.set_cons_zero, List.set_cons_succ, i64_w, i32_w]
    rfl
  refine pure_ (i := 9) (N := (some 39)) (v := ?_) (a' := ?_) #[true, true, true, true, true, true, true, true, true, true, false, false] rfl rfl (by kernel_rfl) (fun _ _ _ h => h) (Or.inl ⟨by rfl, ?_⟩) ?_ ?_
  rotate_left
  · intro w'
    go_simp
    with_reducible rfl
  rotate_left
  · simp only [Act.put, List.setIfInBounds_toArray, List.set_cons_zero, List.set_cons_succ, i64_w, i32_w]
    rfl
  refine pure_ (i := 10) (N := (some 40)) (v := ?_) (a' := ?_) #[true, true, true, true, true, true, true, true, true, true, true, false] rfl rfl (by kernel_rfl) (fun _ _ _ h => h) (Or.inl ⟨by rfl, ?_⟩) ?_ ?_
  rotate_left
  · intro w'
    go_simp
    with_reducible rfl
  rotate_left
  · simp only [Act.put, List.setIfInBounds_toArray, List.set_cons_zero, List.set_cons_succ, i64_w, i32_w]
    rfl
  refine last_ (i := 11) (N := none) #[true, true, true, true, true, true, true, true, true, true, true, true] rfl rfl (by kernel_rfl) (by decide) (fun K hK => ?_)
  obtain ⟨A, c, hg_, _⟩ := hHeld.2
  have z0 : (World.drew y1).frozen? ⟨g, 1, none⟩ = false := blk_frozen hg_ 1
  have q0 : (World.drew y1).cell? ⟨g, 1, none⟩ = some (.bool true) := (blk_cell hg_ 1).trans rfl
  clear hg_
  refine skip_ (w1 := ?_) (by rfl) rfl ?_ ?_
  rotate_left
  · go_simp
    rfl
  refine hK.out _ _ ?_
  clear hK K
  refine done_ (by kernel_rfl) ?_
  clear hHeld
  have R2 := Aside0.mk ((R1.out.turn true).drewN 1)
  have S2 := Aside0.mk ((S1.out.step HLT.out HGH.out ((KeepR.refl _ _ _).set HGE.out 1 (.bool true))).drewN 1)
  show K_ _ _
  refine hK_ _ _ ?_
  clear R1 S1
  change Code.wp _ _ _ _ (World.drewN (World.setCell y1 ⟨g, 1, none⟩ (.bool true)) 1)
  generalize World.drewN (World.setCell y1 ⟨g, 1, none⟩ (.bool true)) 1 = y2 at R2 S2 ⊢
  have z0 : y2.frozen? ⟨h, 8, none⟩ = false := S2.out.ms.free 8
  have q8 : y2.cell? ⟨h, 8, none⟩ = some (.bool m.comp) := (S2.out.ms.cell 8).trans rfl
  go_wp2_with fail
  refine bodyPost_end (v := .tuple #[]) (by simp [results, Try.results37, go_sem]) rfl ?_
  exact ⟨rfl, HB2.out ▸ R2.out.far HGH.out _ _, S2.out.ms.set rfl, S2.out.keep.setH HH.out _ _⟩
set_option maxHeartbeats 4000000 in
set_option maxRecDepth 100000 in
theorem rf_flag_false (u : World) (g h : Nat) (which : Int) (l : List Int) (bad : Bool) (l2 : List Int) (bad2 : Bool) (m : Msg) (w : World) (hF : Rd u w g l bad) (hg : u.heap.size ≤ g) (hh : u.heap.size ≤ h) (hgh : g ≠ h) (hu : Below u.heap.size u w) (hm : MsAt w h m) (v : Int) (l1 : List Int) (hn : rdNum 1 l bad = (v, l1, false)) (hl : l2 = l1) (hb2 : bad2 = (false || decide (1 < v))) :
    Calls Try.prog 37 #[.pointer (some ⟨g, 0, none⟩), .pointer (some ⟨h, 0, none⟩), .int .i64 which, .int .i64 7] w fun e w' => e = .returned (.tuple #[]) ∧ Rd u w' g l2 bad2 ∧ MsAt w' h { m with comp := v == 1 } ∧ KeepM w w' g h u.heap.size := by
  have HF := Aside0.mk hF
  have HGE := Aside0.mk hg
  have HU := Aside0.mk hu
  have HH := Aside0.mk hh
  have HGH := Aside0.mk hgh
  have HLT := Aside0.mk hF.lt
  have HMT := Aside0.mk (blk_lt hm)
  have R0 := Aside0.mk (hF.below (below_alloc (Below.refl _ _) (.cells #[.pointer (some ⟨g, 0, none⟩)] 87)))
  have S0 := Aside0.mk (FrT.new (g := g) hm hu)
  have HN := Aside0.mk hn
  subst hl
  simp only [Bool.true_or, Bool.false_or] at hb2
  have HB2 := Aside0.mk hb2
  clear hn hb2
  clear hF hg hh hgh hu hm
  go_enter Try.func37, Try.ntmps37
  go_upto_region 7 with (fail)
  (try simp only [Act.put, List.setIfInBounds_toArray, List.set_cons_zero, List.set_cons_succ])
  generalize w.alloc (.cells #[.pointer (some ⟨g, 0, none⟩)] 87) = y0 at R0 S0 ⊢
  have q0 := S0.out.q0
  go_wp2_with fail
  refine (rd_number u g l bad 1 v l2 false y0 R0.out HGE.out (HU.out.trans S0.out.keep.below) (by decide) (by decide) HN.out).mono ?_
  rintro e y1 ⟨rfl, h3, h4⟩
  have R1 := Aside0.mk h3
  have S1 := Aside0.mk (S0.out.step HLT.out HGH.out h4)
  clear h3 h4 q0 S0 R0
  go_upto_region 8 with (fail)
  rename_i K_ hK_
  (try simp only [Act.put, List.setIfInBounds_toArray, List.set_cons_zero, List.set_cons_succ])
  refine start_ (n := 12) (S := fun w' => FrT u w w' g h m ∧ Rd u w' g l2 false) (ds := [11]) #[false, false, false, false, false, false, false, false, false, false, false, false] (by kernel_rfl) rfl rfl (And.intro (S1.out.drewN 1) R1.out) (fun hHeld => ?_)
  refine take_ (i := 0) (N := (some 30)) (v := ?_) (a' := ?_) #[true, false, false, false, false, false, false, false, false, false, false, false] rfl rfl (by kernel_rfl) (fun _ _ _ h => h) (Or.inl ⟨by rfl, ?_⟩) hHeld ?_ ?_
  rotate_left
  · rintro w' s
    have q0 := s.1.q0
    go_simp
    with_reducible rfl
  rotate_left
  · simp only [Act.put, List.setIfInBounds_toArray, List.set_cons_zero, List.set_cons_succ, i64_w, i32_w]
    rfl
  refine take_ (i := 1) (N := (some 31)) (v := ?_) (a' := ?_) #[true, true, false, false, false, false, false, false, false, false, false, false] rfl rfl (by kernel_rfl) (fun _ _ _ h => h) (Or.inl ⟨by rfl, ?_⟩) hHeld ?_ ?_
  rotate_left
  · rintro w' s
    have q0 := s.1.q0
    go_simp
    with_reducible rfl
  rotate_left
  · simp only [Act.put, List.setIfInBounds_toArray, List.set_cons_zero, List.set_cons_succ, i64_w, i32_w]
    rfl
  refine pure_ (i := 2) (N := (some 32)) (v := ?_) (a' := ?_) #[true, true, true, false, false, false, false, false, false, false, false, false] rfl rfl (by kernel_rfl) (fun _ _ _ h => h) (Or.inl ⟨by rfl, ?_⟩) ?_ ?_
  rotate_left
  · intro w'
    go_simp
    with_reducible rfl
  rotate_left
  · simp only [Act.put, List.setIfInBounds_toArray, List.set_cons_zero, List.set_cons_succ, i64_w, i32_w]
    rfl
  refine pure_ (i := 3) (N := (some 33)) (v := ?_) (a' := ?_) #[true, true, true, true, false, false, false, false, false, false, false, false] rfl rfl (by kernel_rfl) (fun _ _ _ h => h) (Or.inl ⟨by rfl, ?_⟩) ?_ ?_
  rotate_left
  · intro w'
    go_simp
    with_reducible rfl
  rotate_left
  · simp only [Act.put, List.setIfInBounds_toArray, List.set_cons_zero, List.set_cons_succ, i64_w, i32_w]
    rfl
  refine take_ (i := 4) (N := (some 34)) (v := ?_) (a' := ?_) #[true, true, true, true, true, false, false, false, false, false, false, false] rfl rfl (by kernel_rfl) (fun _ _ _ h => h) (Or.inl ⟨by rfl, ?_⟩) hHeld ?_ ?_
  rotate_left
  · rintro w' s
    obtain ⟨A, c, hg_, _⟩ := s.2
    have q0 : w'.cell? ⟨g, 1, none⟩ = some (.bool false) := (blk_cell hg_ 1).trans rfl
    go_simp
    with_reducible rfl
  rotate_left
  · simp only [Act.put, List.setIfInBounds_toArray, List.set_cons_zero, List.set_cons_succ, i64_w, i32_w]
    rfl
  refine pure_ (i := 5) (N := (some 35)) (v := ?_) (a' := ?_) #[true, true, true, true, true, true, false, false, false, false, false, false] rfl rfl (by kernel_rfl) (fun _ _ _ h => h) (Or.inl ⟨by rfl, ?_⟩) ?_ ?_
  rotate_left
  · intro w'
    go_simp
    with_reducible rfl
  rotate_left
  · simp only [Act.put, List.setIfInBounds_toArray, List.set_cons_zero, List.set_cons_succ, i64_w, i32_w]
    rfl
  refine pure_ (i := 6) (N := (some 36)) (v := ?_) (a' := ?_) #[true, true, true, true, true, true, true, false, false, false, false, false] rfl rfl (by kernel_rfl) (fun _ _ _ h => h) (Or.inl ⟨by rfl, ?_⟩) ?_ ?_
  rotate_left
  · intro w'
    go_simp
    with_reducible rfl
  rotate_left
  · simp only [Act.put, List.setIfInBounds_toArray, List.set_cons_zero, List.set_cons_succ, i64_w, i32_w]
    rfl
  refine pure_ (i := 7) (N := (some 37)) (v := ?_) (a' := ?_) #[true, true, true, true, true, true, true, true, false, false, false, false] rfl rfl (by kernel_rfl) (fun _ _ _ h => h) (Or.inl ⟨by rfl, ?_⟩) ?_ ?_
  rotate_left
  · intro w'
    go_simp
    with_reducible rfl
  rotate_left
  · simp only [Act.put, List.setIfInBounds_toArray, List.set_cons_zero, List.set_cons_succ, i64_w, i32_w]
    rfl
  refine pure_ (i := 8) (N := (some 38)) (v := ?_) (a' := ?_) #[true, true, true, true, true, true, true, true, true, false, false, false] rfl rfl (by kernel_rfl) (fun _ _ _ h => h) (Or.inl ⟨by rfl, ?_⟩) ?_ ?_
  rotate_left
  · intro w'
    go_simp
    with_reducible rfl
  rotate_left
  · simp only [Act.put, List.setIfInBounds_toArray, List.set_cons_zero, List.set_cons_succ, i64_w, i32_w]
    rfl
  refine pure_ (i := 9) (N := (some 39)) (v := ?_) (a' := ?_) #[true, true, true, true, true, true, true, true, true, true, false, false] rfl rfl (by kernel_rfl) (fun _ _ _ h => h) (Or.inl ⟨by rfl, ?_⟩) ?_ ?_
  rotate_left
  · intro w'
    go_simp
    with_reducible rfl
  rotate_left
  · simp only [Act.put, List.setIfInBounds_toArray, List.set_cons_zero, List.set_cons_succ, i64_w, i32_w]
    rfl
  refine pure_ (i := 10) (N := (some 40)) (v := ?_) (a' := ?_) #[true, true, true, true, true, true, true, true, true, true, true, false] rfl rfl (by kernel_rfl) (fun _ _ _ h => h) (Or.inl ⟨by rfl, ?_⟩) ?_ ?_
  rotate_left
  · intro w'
    go_simp
    with_reducible rfl
  rotate_left
  · simp only [Act.put, List.setIfInBounds_toArray, List.set_cons_zero, List.set_cons_succ, i64_w, i32_w]
    rfl
  refine last_ (i := 11) (N := none) #[true, true, true, true, true, true, true, true, true, true, true, true] rfl rfl (by kernel_rfl) (by decide) (fun K hK => ?_)
  obtain ⟨A, c, hg_, _⟩ := hHeld.2
  have z0 : (World.drew y1).frozen? ⟨g, 1, none⟩ = false := blk_frozen hg_ 1
  have q0 : (World.drew y1).cell? ⟨g, 1, none⟩ = some (.bool false) := (blk_cell hg_ 1).trans rfl
  clear hg_
  refine skip_ (w1 := ?_) (by rfl) rfl ?_ ?_
  rotate_left
  · go_simp
    rfl
  refine hK.out _ _ ?_
  clear hK K
  refine done_ (by kernel_rfl) ?_
  clear hHeld
  have R2 := Aside0.mk ((R1.out.turn (decide (1 < v))).drewN 1)
  have S2 := Aside0.mk ((S1.out.step HLT.out HGH.out ((KeepR.refl _ _ _).set HGE.out 1 (.bool (decide (1 < v))))).drewN 1)
  show K_ _ _
  refine hK_ _ _ ?_
  clear R1 S1
  change Code.wp _ _ _ _ (World.drewN (World.setCell y1 ⟨g, 1, none⟩ (.bool (decide (1 < v)))) 1)
  generalize World.drewN (World.setCell y1 ⟨g, 1, none⟩ (.bool (decide (1 < v)))) 1 = y2 at R2 S2 ⊢
  have z0 : y2.frozen? ⟨h, 8, none⟩ = false := S2.out.ms.free 8
  have q8 : y2.cell? ⟨h, 8, none⟩ = some (.bool m.comp) := (S2.out.ms.cell 8).trans rfl
  go_wp2_with fail
  refine bodyPost_end (v := .tuple #[]) (by simp [results, Try.results37, go_sem]) rfl ?_
  exact ⟨rfl, HB2.out ▸ R2.out.far HGH.out _ _, S2.out.ms.set rfl, S2.out.keep.setH HH.out _ _⟩
set_option maxHeartbeats 4000000 in
set_option maxRecDepth 100000 in
theorem rf_recs (u : World) (g h : Nat) (which : Int) (l : List Int) (bad : Bool) (l2 : List Int) (bad2 : Bool) (m : Msg) (w : World) (hF : Rd u w g l bad) (hg : u.heap.size ≤ g) (hh : u.heap.size ≤ h) (hgh : g ≠ h) (hu : Below u.heap.size u w) (hm : MsAt w h m) (xs : List S98) (hx : rdList rdRec l bad = (xs, l2, bad2)) :
    Calls Try.prog 37 #[.pointer (some ⟨g, 0, none⟩), .pointer (some ⟨h, 0, none⟩), .int .i64 which, .int .i64 16] w fun e w' => e = .returned (.tuple #[]) ∧ Rd u w' g l2 bad2 ∧ (∃ v, MsAt w' h { m with u1 := v } ∧ Kd.R k98 98 w' w.heap.size (fun k => k ≠ g ∧ k ≠ h) v xs) ∧ KeepM w w' g h u.heap.size := by
  have HF := Aside0.mk hF
  have HGE := Aside0.mk hg
  have HU := Aside0.mk hu
  have HH := Aside0.mk hh
  have HGH := Aside0.mk hgh
  have HLT := Aside0.mk hF.lt
  have HMT := Aside0.mk (blk_lt hm)
  have R0 := Aside0.mk (hF.below (below_alloc (Below.refl _ _) (.cells #[.pointer (some ⟨g, 0, none⟩)] 87)))
  have S0 := Aside0.mk (FrT.new (g := g) hm hu)
  have HX := Aside0.mk hx
  clear hx
  clear hF hg hh hgh hu hm
  go_enter Try.func37, Try.ntmps37
  go_upto_region 11 with (fail)
  (try simp only [Act.put, List.setIfInBounds_toArray, List.set_cons_zero, List.set_cons_succ])
  generalize w.alloc (.cells #[.pointer (some ⟨g, 0, none⟩)] 87) = y0 at R0 S0 ⊢
  have q0 := S0.out.q0
  go_wp2_with fail
  refine (rd_allR u g l bad xs l2 bad2 y0 R0.out HGE.out (HU.out.trans S0.out.keep.below) HX.out).mono ?_
  rintro e w1 ⟨⟨v, rfl, ho⟩, h3, h4⟩
  have R1 := Aside0.mk h3
  have S1 := Aside0.mk (S0.out.step HLT.out HGH.out h4)
  have hy := S0.out.keep.below.size
  have O1 := Aside0.mk (Kd.R_mono (Kd.R_bound (Kd.R_lower ho hy)) (ok' := fun k => k ≠ g ∧ k ≠ h) (fun k hk => ⟨hk.1, fun e => by have := HMT.out; have := hk.2.1; omega⟩))
  obtain ⟨Av, cv, ev⟩ := Kd.R_slice ho
  subst ev
  clear h3 h4 ho hy q0
  have z0 : w1.frozen? ⟨h, 12, none⟩ = false := S1.out.ms.free 12
  have q0 : w1.cell? ⟨h, 12, none⟩ = some m.u1 := (S1.out.ms.cell 12).trans rfl
  go_wp2_with fail
  refine bodyPost_end (v := .tuple #[]) (by simp [results, Try.results37, go_sem]) rfl ?_
  exact ⟨rfl, R1.out.far HGH.out _ _, ⟨_, S1.out.ms.set rfl, Kd.R_set O1.out S1.out.ms (by decide) 12 _⟩, S1.out.keep.setH HH.out _ _⟩
set_option maxHeartbeats 4000000 in
set_option maxRecDepth 100000 in
theorem rf_names (u : World) (g h : Nat) (which : Int) (l : List Int) (bad : Bool) (l2 : List Int) (bad2 : Bool) (m : Msg) (w : World) (hF : Rd u w g l bad) (hg : u.heap.size ≤ g) (hh : u.heap.size ≤ h) (hgh : g ≠ h) (hu : Below u.heap.size u w) (hm : MsAt w h m) (xs : List ByteArray) (hx : rdList rdText l bad = (xs, l2, bad2)) :
    Calls Try.prog 37 #[.pointer (some ⟨g, 0, none⟩), .pointer (some ⟨h, 0, none⟩), .int .i64 which, .int .i64 17] w fun e w' => e = .returned (.tuple #[]) ∧ Rd u w' g l2 bad2 ∧ (∃ v, MsAt w' h { m with u2 := v } ∧ Kd.R Kd.string 9 w' w.heap.size (fun k => k ≠ g ∧ k ≠ h) v xs) ∧ KeepM w w' g h u.heap.size := by
  have HF := Aside0.mk hF
  have HGE := Aside0.mk hg
  have HU := Aside0.mk hu
  have HH := Aside0.mk hh
  have HGH := Aside0.mk hgh
  have HLT := Aside0.mk hF.lt
  have HMT := Aside0.mk (blk_lt hm)
  have R0 := Aside0.mk (hF.below (below_alloc (Below.refl _ _) (.cells #[.pointer (some ⟨g, 0, none⟩)] 87)))
  have S0 := Aside0.mk (FrT.new (g := g) hm hu)
  have HX := Aside0.mk hx
  clear hx
  clear hF hg hh hgh hu hm
  go_enter Try.func37, Try.ntmps37
  go_upto_region 13 with (fail)
  (try simp only [Act.put, List.setIfInBounds_toArray, List.set_cons_zero, List.set_cons_succ])
  generalize w.alloc (.cells #[.pointer (some ⟨g, 0, none⟩)] 87) = y0 at R0 S0 ⊢
  have q0 := S0.out.q0
  go_wp2_with fail
  refine (rd_allS u g l bad xs l2 bad2 y0 R0.out HGE.out (HU.out.trans S0.out.keep.below) HX.out).mono ?_
  rintro e w1 ⟨⟨v, rfl, ho⟩, h3, h4⟩
  have R1 := Aside0.mk h3
  have S1 := Aside0.mk (S0.out.step HLT.out HGH.out h4)
  have hy := S0.out.keep.below.size
  have O1 := Aside0.mk (Kd.R_mono (Kd.R_bound (Kd.R_lower ho hy)) (ok' := fun k => k ≠ g ∧ k ≠ h) (fun k hk => ⟨hk.1, fun e => by have := HMT.out; have := hk.2.1; omega⟩))
  obtain ⟨Av, cv, ev⟩ := Kd.R_slice ho
  subst ev
  clear h3 h4 ho hy q0
  have z0 : w1.frozen? ⟨h, 23, none⟩ = false := S1.out.ms.free 23
  have q0 : w1.cell? ⟨h, 23, none⟩ = some m.u2 := (S1.out.ms.cell 23).trans rfl
  go_wp2_with fail
  refine bodyPost_end (v := .tuple #[]) (by simp [results, Try.results37, go_sem]) rfl ?_
  exact ⟨rfl, R1.out.far HGH.out _ _, ⟨_, S1.out.ms.set rfl, Kd.R_set O1.out S1.out.ms (by decide) 23 _⟩, S1.out.keep.setH HH.out _ _⟩
set_option maxHeartbeats 4000000 in
set_option maxRecDepth 100000 in
theorem rf_counts (u : World) (g h : Nat) (which : Int) (l : List Int) (bad : Bool) (l2 : List Int) (bad2 : Bool) (m : Msg) (w : World) (hF : Rd u w g l bad) (hg : u.heap.size ≤ g) (hh : u.heap.size ≤ h) (hgh : g ≠ h) (hu : Below u.heap.size u w) (hm : MsAt w h m) (xs : List Int) (hx : rdList rdInt l bad = (xs, l2, bad2)) :
    Calls Try.prog 37 #[.pointer (some ⟨g, 0, none⟩), .pointer (some ⟨h, 0, none⟩), .int .i64 which, .int .i64 18] w fun e w' => e = .returned (.tuple #[]) ∧ Rd u w' g l2 bad2 ∧ (∃ v, MsAt w' h { m with u3 := v } ∧ Kd.R (Kd.int .i64) 3 w' w.heap.size (fun k => k ≠ g ∧ k ≠ h) v xs) ∧ KeepM w w' g h u.heap.size := by
  have HF := Aside0.mk hF
  have HGE := Aside0.mk hg
  have HU := Aside0.mk hu
  have HH := Aside0.mk hh
  have HGH := Aside0.mk hgh
  have HLT := Aside0.mk hF.lt
  have HMT := Aside0.mk (blk_lt hm)
  have R0 := Aside0.mk (hF.below (below_alloc (Below.refl _ _) (.cells #[.pointer (some ⟨g, 0, none⟩)] 87)))
  have S0 := Aside0.mk (FrT.new (g := g) hm hu)
  have HX := Aside0.mk hx
  clear hx
  clear hF hg hh hgh hu hm
  go_enter Try.func37, Try.ntmps37
  go_upto_region 15 with (fail)
  (try simp only [Act.put, List.setIfInBounds_toArray, List.set_cons_zero, List.set_cons_succ])
  generalize w.alloc (.cells #[.pointer (some ⟨g, 0, none⟩)] 87) = y0 at R0 S0 ⊢
  have q0 := S0.out.q0
  go_wp2_with fail
  refine (rd_allI u g l bad xs l2 bad2 y0 R0.out HGE.out (HU.out.trans S0.out.keep.below) w.heap.size (S0.out.hq HLT.out) HX.out).mono ?_
  rintro e w1 ⟨⟨v, rfl, ho⟩, h3, h4⟩
  have R1 := Aside0.mk h3
  have S1 := Aside0.mk (S0.out.step HLT.out HGH.out h4)
  have hy := S0.out.keep.below.size
  have O1 := Aside0.mk (Kd.R_mono (Kd.R_bound (Kd.R_lower ho hy)) (ok' := fun k => k ≠ g ∧ k ≠ h) (fun k hk => ⟨hk.1, fun e => by have := HMT.out; have := hk.2.1; omega⟩))
  obtain ⟨Av, cv, ev⟩ := Kd.R_slice ho
  subst ev
  clear h3 h4 ho hy q0
  have z0 : w1.frozen? ⟨h, 24, none⟩ = false := S1.out.ms.free 24
  have q0 : w1.cell? ⟨h, 24, none⟩ = some m.u3 := (S1.out.ms.cell 24).trans rfl
  go_wp2_with fail
  refine bodyPost_end (v := .tuple #[]) (by simp [results, Try.results37, go_sem]) rfl ?_
  exact ⟨rfl, R1.out.far HGH.out _ _, ⟨_, S1.out.ms.set rfl, Kd.R_set O1.out S1.out.ms (by decide) 24 _⟩, S1.out.keep.setH HH.out _ _⟩

end Go.Proofs.Ytncfofnikmfjbaa.PCi
