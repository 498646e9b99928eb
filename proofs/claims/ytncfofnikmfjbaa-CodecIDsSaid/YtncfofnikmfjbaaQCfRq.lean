import Derived.Test.YtncfofnikmfjbaaQCf12
import Derived.Test.YtncfofnikmfjbaaQCf5
import Derived.Outline
import Derived.StillTailTactics
import Derived.RegionTactic
import Derived.BigRegion
import Derived.Lib.BufferWrite
import Derived.Test.YtncfofnikmfjbaaQCf14
namespace Go.Proofs.Ytncfofnikmfjbaa.PCi
open Go.RowKit Go.Proofs.YtncfofnikmfjbaaW.PrintWords Go.Proofs.YtncfofnikmfjbaaW.PrintLast Go.Proofs.YtncfofnikmfjbaaW.PrintMore
attribute [local go_sem] max2_int min2_int max_two min_two max_three min_three max_four min_four
set_option linter.unusedVariables false
set_option linter.unusedSimpArgs false

/-! ### codec: the writer's field -/
structure FwS (w W : World) (g base h : Nat) (xs : List Int) (bad : Bool) (m : Msg) : Prop where
  wr : Wr W g base xs bad
  qb : W.heap[w.heap.size]? = some (.cells #[.pointer (some ⟨g, 0, none⟩)] 62 (0, 0))
  ms : MsAt W h m
  keep : KeepW w W g base
section
variable {w W W2 : World} {g base h : Nat} {xs ys : List Int} {bad b2 : Bool} {m : Msg}
theorem FwS.new (hF : Wr w g base xs bad) (hm : MsAt w h m) (hb : base ≤ w.heap.size) : FwS w (w.alloc (.cells #[.pointer (some ⟨g, 0, none⟩)] 62)) g base h xs bad m :=
  ⟨hF.below (below_alloc (Below.refl _ _) _), heap_alloc_new w _, blk_alloc hm _, KeepW.of_below (below_alloc (Below.refl _ _) _) hb⟩
theorem FwS.drewN (s : FwS w W g base h xs bad m) (n : Nat) : FwS w (W.drewN n) g base h xs bad m := ⟨s.wr.drewN n, s.qb, s.ms, s.keep.drewN n⟩
theorem FwS.q0 (s : FwS w W g base h xs bad m) : W.cell? ⟨w.heap.size, 0, none⟩ = some (.pointer (some ⟨g, 0, none⟩)) := (blk_cell s.qb 0).trans rfl
theorem FwS.hq (s : FwS w W g base h xs bad m) (hg : g < w.heap.size) : ∀ W2, KeepW W W2 g base → W2.cell? ⟨w.heap.size, 0, none⟩ = some (.pointer (some ⟨g, 0, none⟩)) := fun W2 k => (blk_cell (k.blk s.qb (by omega) (by decide)) 0).trans rfl
end
set_option maxHeartbeats 4000000 in
set_option maxRecDepth 100000 in
theorem wf_text0 (g base h : Nat) (which : Int) (xs : List Int) (bad : Bool) (m : Msg) (w : World) (hF : Wr w g base xs bad) (hg : base ≤ g) (hb : base ≤ w.heap.size) (hm : MsAt w h m) (hx : xs.length + m.topic.size ≤ 900000000) :
    Calls Try.prog 29 #[.pointer (some ⟨g, 0, none⟩), .pointer (some ⟨h, 0, none⟩), .int .i64 which, .int .i64 0] w fun e w' => e = .returned (.tuple #[]) ∧ Wr w' g base (xs ++ txt1 m.topic) (bad || txt2 m.topic) ∧ KeepW w w' g base := by
  have HGE := Aside0.mk hg
  have HB := Aside0.mk hb
  have S0 := Aside0.mk (FwS.new hF hm hb)
  have HLT := Aside0.mk hF.lt
  have HX := Aside0.mk hx
  clear hx
  clear hF hg hb hm
  go_enter Try.func29, Try.ntmps29
  go_upto_region 5 with (fail)
  (try simp only [Act.put, List.setIfInBounds_toArray, List.set_cons_zero, List.set_cons_succ])
  generalize w.alloc (.cells #[.pointer (some ⟨g, 0, none⟩)] 62) = y0 at S0 ⊢
  refine start_ (n := 7) (S := fun w' => FwS w w' g base h xs bad m) (ds := [6]) #[false, false, false, false, false, false, false] (by kernel_rfl) rfl rfl (S0.out.drewN 1) (fun hHeld => ?_)
  refine take_ (i := 0) (N := (some 21)) (v := ?_) (a' := ?_) #[true, false, false, false, false, false, false] rfl rfl (by kernel_rfl) (fun _ _ _ h => h) (Or.inl ⟨by rfl, ?_⟩) hHeld ?_ ?_
  rotate_left
  · rintro w' s
    have q0 := s.q0
    go_simp
    with_reducible rfl
  rotate_left
  · simp only [Act.put, List.setIfInBounds_toArray, List.set_cons_zero, List.set_cons_succ, i64_w, i32_w]
    rfl
  refine pure_ (i := 1) (N := (some 22)) (v := ?_) (a' := ?_) #[true, true, false, false, false, false, false] rfl rfl (by kernel_rfl) (fun _ _ _ h => h) (Or.inl ⟨by rfl, ?_⟩) ?_ ?_
  rotate_left
  · intro w'
    go_simp
    with_reducible rfl
  rotate_left
  · simp only [Act.put, List.setIfInBounds_toArray, List.set_cons_zero, List.set_cons_succ, i64_w, i32_w]
    rfl
  refine pure_ (i := 2) (N := (some 23)) (v := ?_) (a' := ?_) #[true, true, true, false, false, false, false] rfl rfl (by kernel_rfl) (fun _ _ _ h => h) (Or.inl ⟨by rfl, ?_⟩) ?_ ?_
  rotate_left
  · intro w'
    go_simp
    with_reducible rfl
  rotate_left
  · simp only [Act.put, List.setIfInBounds_toArray, List.set_cons_zero, List.set_cons_succ, i64_w, i32_w]
    rfl
  refine one_ (i := 3) (N := (some 24)) #[true, true, true, true, false, false, false] rfl rfl (by kernel_rfl) (by decide) (fun K hK => ?_)
  refine goes_ Try.func45 (by kernel_rfl) rfl #[.pointer (some ⟨h, 0, none⟩), .int .i64 0] (by rfl) rfl rfl (by (try simp only [List.map_toArray, List.map_cons, List.map_nil]); first | done | rfl) ?_
  refine (message_text.calls h 0 _).mono ?_
  rintro e w1 ⟨rfl, hw⟩
  refine ⟨_, rfl, ?_⟩
  subst hw
  refine hK.out _ _ hHeld (fun hHeld => ?_)
  clear hK K
  refine norm_ (a' := ?_) ?_ ?_
  rotate_left
  · show Act.put _ (some 24) _ = _
    simp only [Act.put, List.setIfInBounds_toArray, List.set_cons_zero, List.set_cons_succ, i64_w, i32_w]
    rfl
  refine pure_ (i := 4) (N := (some 25)) (v := ?_) (a' := ?_) #[true, true, true, true, true, false, false] rfl rfl (by kernel_rfl) (fun _ _ _ h => h) (Or.inl ⟨by rfl, ?_⟩) ?_ ?_
  rotate_left
  · intro w'
    go_simp
    with_reducible rfl
  rotate_left
  · simp only [Act.put, List.setIfInBounds_toArray, List.set_cons_zero, List.set_cons_succ, i64_w, i32_w]
    rfl
  refine take_ (i := 5) (N := (some 26)) (v := ?_) (a' := ?_) #[true, true, true, true, true, true, false] rfl rfl (by kernel_rfl) (fun _ _ _ h => h) (Or.inl ⟨by rfl, ?_⟩) hHeld ?_ ?_
  rotate_left
  · rintro w' s
    have q0 : w'.cell? ⟨h, 2, none⟩ = some (.string m.topic) := (s.ms.cell 2).trans rfl
    go_simp
    with_reducible rfl
  rotate_left
  · simp only [Act.put, List.setIfInBounds_toArray, List.set_cons_zero, List.set_cons_succ, i64_w, i32_w]
    rfl
  refine last_ (i := 6) (N := (some 27)) #[true, true, true, true, true, true, true] rfl rfl (by kernel_rfl) (by decide) (fun K hK => ?_)
  refine goes_ Try.func44 (by kernel_rfl) rfl #[.pointer (some ⟨g, 0, none⟩), .string m.topic] (by rfl) rfl rfl (by (try simp only [List.map_toArray, List.map_cons, List.map_nil]); first | done | rfl) ?_
  refine (wr_text g base xs bad m.topic _ hHeld.wr HGE.out (Nat.le_trans HB.out hHeld.keep.below.size) HX.out).mono ?_
  rintro e w2 ⟨rfl, h1, h2⟩
  refine ⟨_, rfl, ?_⟩
  have R1 := Aside0.mk h1
  have R2 := Aside0.mk (hHeld.keep.trans h2)
  refine hK.out _ _ ?_
  clear hK K
  refine norm_ (a' := ?_) ?_ ?_
  rotate_left
  · show Act.put _ (some 27) _ = _
    simp only [Act.put, List.setIfInBounds_toArray, List.set_cons_zero, List.set_cons_succ, i64_w, i32_w]
    rfl
  refine done_ (by kernel_rfl) ?_
  clear hHeld
  simp only [Exit.inBlock]
  refine bodyPost_end (v := .tuple #[]) (by simp [results, Try.results29, go_sem]) rfl ?_
  exact ⟨rfl, R1.out, R2.out⟩
set_option maxHeartbeats 4000000 in
set_option maxRecDepth 100000 in
theorem wf_text1 (g base h : Nat) (which : Int) (xs : List Int) (bad : Bool) (m : Msg) (w : World) (hF : Wr w g base xs bad) (hg : base ≤ g) (hb : base ≤ w.heap.size) (hm : MsAt w h m) (hx : xs.length + m.group.size ≤ 900000000) :
    Calls Try.prog 29 #[.pointer (some ⟨g, 0, none⟩), .pointer (some ⟨h, 0, none⟩), .int .i64 which, .int .i64 1] w fun e w' => e = .returned (.tuple #[]) ∧ Wr w' g base (xs ++ txt1 m.group) (bad || txt2 m.group) ∧ KeepW w w' g base := by
  have HGE := Aside0.mk hg
  have HB := Aside0.mk hb
  have S0 := Aside0.mk (FwS.new hF hm hb)
  have HLT := Aside0.mk hF.lt
  have HX := Aside0.mk hx
  clear hx
  clear hF hg hb hm
  go_enter Try.func29, Try.ntmps29
  go_upto_region 5 with (fail)
  (try simp only [Act.put, List.setIfInBounds_toArray, List.set_cons_zero, List.set_cons_succ])
  generalize w.alloc (.cells #[.pointer (some ⟨g, 0, none⟩)] 62) = y0 at S0 ⊢
  refine start_ (n := 7) (S := fun w' => FwS w w' g base h xs bad m) (ds := [6]) #[false, false, false, false, false, false, false] (by kernel_rfl) rfl rfl (S0.out.drewN 1) (fun hHeld => ?_)
  refine take_ (i := 0) (N := (some 21)) (v := ?_) (a' := ?_) #[true, false, false, false, false, false, false] rfl rfl (by kernel_rfl) (fun _ _ _ h => h) (Or.inl ⟨by rfl, ?_⟩) hHeld ?_ ?_
  rotate_left
  · rintro w' s
    have q0 := s.q0
    go_simp
    with_reducible rfl
  rotate_left
  · simp only [Act.put, List.setIfInBounds_toArray, List.set_cons_zero, List.set_cons_succ, i64_w, i32_w]
    rfl
  refine pure_ (i := 1) (N := (some 22)) (v := ?_) (a' := ?_) #[true, true, false, false, false, false, false] rfl rfl (by kernel_rfl) (fun _ _ _ h => h) (Or.inl ⟨by rfl, ?_⟩) ?_ ?_
  rotate_left
  · intro w'
    go_simp
    with_reducible rfl
  rotate_left
  · simp only [Act.put, List.setIfInBounds_toArray, List.set_cons_zero, List.set_cons_succ, i64_w, i32_w]
    rfl
  refine pure_ (i := 2) (N := (some 23)) (v := ?_) (a' := ?_) #[true, true, true, false, false, false, false] rfl rfl (by kernel_rfl) (fun _ _ _ h => h) (Or.inl ⟨by rfl, ?_⟩) ?_ ?_
  rotate_left
  · intro w'
    go_simp
    with_reducible rfl
  rotate_left
  · simp only [Act.put, List.setIfInBounds_toArray, List.set_cons_zero, List.set_cons_succ, i64_w, i32_w]
    rfl
  refine one_ (i := 3) (N := (some 24)) #[true, true, true, true, false, false, false] rfl rfl (by kernel_rfl) (by decide) (fun K hK => ?_)
  refine goes_ Try.func45 (by kernel_rfl) rfl #[.pointer (some ⟨h, 0, none⟩), .int .i64 1] (by rfl) rfl rfl (by (try simp only [List.map_toArray, List.map_cons, List.map_nil]); first | done | rfl) ?_
  refine (message_text.calls h 1 _).mono ?_
  rintro e w1 ⟨rfl, hw⟩
  refine ⟨_, rfl, ?_⟩
  subst hw
  refine hK.out _ _ hHeld (fun hHeld => ?_)
  clear hK K
  refine norm_ (a' := ?_) ?_ ?_
  rotate_left
  · show Act.put _ (some 24) _ = _
    simp only [Act.put, List.setIfInBounds_toArray, List.set_cons_zero, List.set_cons_succ, i64_w, i32_w]
    rfl
  refine pure_ (i := 4) (N := (some 25)) (v := ?_) (a' := ?_) #[true, true, true, true, true, false, false] rfl rfl (by kernel_rfl) (fun _ _ _ h => h) (Or.inl ⟨by rfl, ?_⟩) ?_ ?_
  rotate_left
  · intro w'
    go_simp
    with_reducible rfl
  rotate_left
  · simp only [Act.put, List.setIfInBounds_toArray, List.set_cons_zero, List.set_cons_succ, i64_w, i32_w]
    rfl
  refine take_ (i := 5) (N := (some 26)) (v := ?_) (a' := ?_) #[true, true, true, true, true, true, false] rfl rfl (by kernel_rfl) (fun _ _ _ h => h) (Or.inl ⟨by rfl, ?_⟩) hHeld ?_ ?_
  rotate_left
  · rintro w' s
    have q0 : w'.cell? ⟨h, 16, none⟩ = some (.string m.group) := (s.ms.cell 16).trans rfl
    go_simp
    with_reducible rfl
  rotate_left
  · simp only [Act.put, List.setIfInBounds_toArray, List.set_cons_zero, List.set_cons_succ, i64_w, i32_w]
    rfl
  refine last_ (i := 6) (N := (some 27)) #[true, true, true, true, true, true, true] rfl rfl (by kernel_rfl) (by decide) (fun K hK => ?_)
  refine goes_ Try.func44 (by kernel_rfl) rfl #[.pointer (some ⟨g, 0, none⟩), .string m.group] (by rfl) rfl rfl (by (try simp only [List.map_toArray, List.map_cons, List.map_nil]); first | done | rfl) ?_
  refine (wr_text g base xs bad m.group _ hHeld.wr HGE.out (Nat.le_trans HB.out hHeld.keep.below.size) HX.out).mono ?_
  rintro e w2 ⟨rfl, h1, h2⟩
  refine ⟨_, rfl, ?_⟩
  have R1 := Aside0.mk h1
  have R2 := Aside0.mk (hHeld.keep.trans h2)
  refine hK.out _ _ ?_
  clear hK K
  refine norm_ (a' := ?_) ?_ ?_
  rotate_left
  · show Act.put _ (some 27) _ = _
    simp only [Act.put, List.setIfInBounds_toArray, List.set_cons_zero, List.set_cons_succ, i64_w, i32_w]
    rfl
  refine done_ (by kernel_rfl) ?_
  clear hHeld
  simp only [Exit.inBlock]
  refine bodyPost_end (v := .tuple #[]) (by simp [results, Try.results29, go_sem]) rfl ?_
  exact ⟨rfl, R1.out, R2.out⟩
set_option maxHeartbeats 4000000 in
set_option maxRecDepth 100000 in
theorem wf_num (g base h : Nat) (which f : Int) (xs : List Int) (bad : Bool) (m : Msg) (w : World) (hF : Wr w g base xs bad) (hg : base ≤ g) (hb : base ≤ w.heap.size) (hm : MsAt w h m) (hx : xs.length ≤ 900000000) (hf0 : f ≠ 0) (hf1 : f ≠ 1) (hf7 : f ≠ 7) (hf16 : f ≠ 16) (hf17 : f ≠ 17) (hf18 : f ≠ 18) (hf19 : f ≠ 19) :
    Calls Try.prog 29 #[.pointer (some ⟨g, 0, none⟩), .pointer (some ⟨h, 0, none⟩), .int .i64 which, .int .i64 f] w fun e w' => e = .returned (.tuple #[]) ∧ Wr w' g base (xs ++ nb (m.num which f) 8) bad ∧ KeepW w w' g base := by
  have HGE := Aside0.mk hg
  have HB := Aside0.mk hb
  have S0 := Aside0.mk (FwS.new hF hm hb)
  have HLT := Aside0.mk hF.lt
  have t0 : (f == 0) = false := beq_eq_false_iff_ne.2 hf0
  have t1 : (f == 1) = false := beq_eq_false_iff_ne.2 hf1
  have t7 : (f == 7) = false := beq_eq_false_iff_ne.2 hf7
  have t16 : (f == 16) = false := beq_eq_false_iff_ne.2 hf16
  have t17 : (f == 17) = false := beq_eq_false_iff_ne.2 hf17
  have t18 : (f == 18) = false := beq_eq_false_iff_ne.2 hf18
  have t19 : (f == 19) = false := beq_eq_false_iff_ne.2 hf19
  clear hf0 hf1 hf7 hf16 hf17 hf18 hf19
  have HX := Aside0.mk hx
  clear hx
  clear hF hg hb hm
  go_enter Try.func29, Try.ntmps29
  go_upto_region 2 with (fail)
  (try simp only [Act.put, List.setIfInBounds_toArray, List.set_cons_zero, List.set_cons_succ])
  generalize w.alloc (.cells #[.pointer (some ⟨g, 0, none⟩)] 62) = y0 at S0 ⊢
  refine start_ (n := 8) (S := fun w' => FwS w w' g base h xs bad m) (ds := [7]) #[false, false, false, false, false, false, false, false] (by kernel_rfl) rfl rfl (S0.out.drewN 1) (fun hHeld => ?_)
  refine take_ (i := 0) (N := (some 10)) (v := ?_) (a' := ?_) #[true, false, false, false, false, false, false, false] rfl rfl (by kernel_rfl) (fun _ _ _ h => h) (Or.inl ⟨by rfl, ?_⟩) hHeld ?_ ?_
  rotate_left
  · rintro w' s
    have q0 := s.q0
    go_simp
    with_reducible rfl
  rotate_left
  · simp only [Act.put, List.setIfInBounds_toArray, List.set_cons_zero, List.set_cons_succ, i64_w, i32_w]
    rfl
  refine pure_ (i := 1) (N := (some 11)) (v := ?_) (a' := ?_) #[true, true, false, false, false, false, false, false] rfl rfl (by kernel_rfl) (fun _ _ _ h => h) (Or.inl ⟨by rfl, ?_⟩) ?_ ?_
  rotate_left
  · intro w'
    go_simp
    with_reducible rfl
  rotate_left
  · simp only [Act.put, List.setIfInBounds_toArray, List.set_cons_zero, List.set_cons_succ, i64_w, i32_w]
    rfl
  refine pure_ (i := 2) (N := (some 12)) (v := ?_) (a' := ?_) #[true, true, true, false, false, false, false, false] rfl rfl (by kernel_rfl) (fun _ _ _ h => h) (Or.inl ⟨by rfl, ?_⟩) ?_ ?_
  rotate_left
  · intro w'
    go_simp
    with_reducible rfl
  rotate_left
  · simp only [Act.put, List.setIfInBounds_toArray, List.set_cons_zero, List.set_cons_succ, i64_w, i32_w]
    rfl
  refine pure_ (i := 3) (N := (some 13)) (v := ?_) (a' := ?_) #[true, true, true, true, false, false, false, false] rfl rfl (by kernel_rfl) (fun _ _ _ h => h) (Or.inl ⟨by rfl, ?_⟩) ?_ ?_
  rotate_left
  · intro w'
    go_simp
    with_reducible rfl
  rotate_left
  · simp only [Act.put, List.setIfInBounds_toArray, List.set_cons_zero, List.set_cons_succ, i64_w, i32_w]
    rfl
  refine one_ (i := 4) (N := (some 14)) #[true, true, true, true, true, false, false, false] rfl rfl (by kernel_rfl) (by decide) (fun K hK => ?_)
  refine goes_ Try.func53 (by kernel_rfl) rfl #[.pointer (some ⟨h, 0, none⟩), .int .i64 which, .int .i64 f] (by rfl) rfl rfl (by (try simp only [List.map_toArray, List.map_cons, List.map_nil]); first | done | rfl) ?_
  refine (message_int.calls h which f _).mono ?_
  rintro e w1 ⟨rfl, hw⟩
  refine ⟨_, rfl, ?_⟩
  subst hw
  refine hK.out _ _ hHeld (fun hHeld => ?_)
  clear hK K
  refine norm_ (a' := ?_) ?_ ?_
  rotate_left
  · show Act.put _ (some 14) _ = _
    simp only [Act.put, List.setIfInBounds_toArray, List.set_cons_zero, List.set_cons_succ, i64_w, i32_w]
    rfl
  refine pure_ (i := 5) (N := (some 15)) (v := ?_) (a' := ?_) #[true, true, true, true, true, true, false, false] rfl rfl (by kernel_rfl) (fun _ _ _ h => h) (Or.inl ⟨by rfl, ?_⟩) ?_ ?_
  rotate_left
  · intro w'
    go_simp
    with_reducible rfl
  rotate_left
  · simp only [Act.put, List.setIfInBounds_toArray, List.set_cons_zero, List.set_cons_succ, i64_w, i32_w]
    rfl
  refine take_ (i := 6) (N := (some 16)) (v := ?_) (a' := ?_) #[true, true, true, true, true, true, true, false] rfl rfl (by kernel_rfl) (fun _ _ _ h => h) (Or.inl ⟨by rfl, ?_⟩) hHeld ?_ ?_
  rotate_left
  · rintro w' s
    have q0 : w'.cell? ⟨h, slotI which f, none⟩ = some (.int .i64 (m.num which f)) := (s.ms.cell (slotI which f)).trans (Msg.num_cell m which f)
    go_simp
    with_reducible rfl
  rotate_left
  · simp only [Act.put, List.setIfInBounds_toArray, List.set_cons_zero, List.set_cons_succ, i64_w, i32_w]
    rfl
  refine last_ (i := 7) (N := (some 17)) #[true, true, true, true, true, true, true, true] rfl rfl (by kernel_rfl) (by decide) (fun K hK => ?_)
  refine goes_ Try.func28 (by kernel_rfl) rfl #[.pointer (some ⟨g, 0, none⟩), .int .i64 (m.num which f), .int .i64 8] (by rfl) rfl rfl (by (try simp only [List.map_toArray, List.map_cons, List.map_nil]); first | done | rfl) ?_
  refine (wr_number g base xs bad (m.num which f) 8 _ hHeld.wr HGE.out (Nat.le_trans HB.out hHeld.keep.below.size) (by decide) (by decide) (by have := HX.out; omega)).mono ?_
  rintro e w2 ⟨rfl, h1, h2⟩
  refine ⟨_, rfl, ?_⟩
  have R1 := Aside0.mk h1
  have R2 := Aside0.mk (hHeld.keep.trans h2)
  refine hK.out _ _ ?_
  clear hK K
  refine norm_ (a' := ?_) ?_ ?_
  rotate_left
  · show Act.put _ (some 17) _ = _
    simp only [Act.put, List.setIfInBounds_toArray, List.set_cons_zero, List.set_cons_succ, i64_w, i32_w]
    rfl
  refine done_ (by kernel_rfl) ?_
  clear hHeld
  simp only [Exit.inBlock]
  refine bodyPost_end (v := .tuple #[]) (by simp [results, Try.results29, go_sem]) rfl ?_
  exact ⟨rfl, R1.out, R2.out⟩
set_option maxHeartbeats 4000000 in
set_option maxRecDepth 100000 in
theorem wf_flag0 (g base h : Nat) (which : Int) (xs : List Int) (bad : Bool) (m : Msg) (w : World) (hF : Wr w g base xs bad) (hg : base ≤ g) (hb : base ≤ w.heap.size) (hm : MsAt w h m) (hx : xs.length ≤ 900000000) (hv : m.comp = false) :
    Calls Try.prog 29 #[.pointer (some ⟨g, 0, none⟩), .pointer (some ⟨h, 0, none⟩), .int .i64 which, .int .i64 7] w fun e w' => e = .returned (.tuple #[]) ∧ Wr w' g base (xs ++ nb 0 1) bad ∧ KeepW w w' g base := by
  have HGE := Aside0.mk hg
  have HB := Aside0.mk hb
  have S0 := Aside0.mk (FwS.new hF hm hb)
  have HLT := Aside0.mk hF.lt
  have HX := Aside0.mk hx
  have HV := Aside0.mk hv
  clear hx hv
  clear hF hg hb hm
  go_enter Try.func29, Try.ntmps29
  go_upto_region 8 with (fail)
  (try simp only [Act.put, List.setIfInBounds_toArray, List.set_cons_zero, List.set_cons_succ])
  generalize w.alloc (.cells #[.pointer (some ⟨g, 0, none⟩)] 62) = y0 at S0 ⊢
  have q0 := S0.out.q0
  have q8 : y0.cell? ⟨h, 8, none⟩ = some (.bool false) := (S0.out.ms.cell 8).trans (congrArg (fun b => some (Value.bool b)) HV.out)
  go_wp2_with fail
  refine (wr_number g base xs bad 0 1 _ S0.out.wr HGE.out (Nat.le_trans HB.out S0.out.keep.below.size) (by decide) (by decide) (by have := HX.out; omega)).mono ?_
  rintro e w2 ⟨rfl, h1, h2⟩
  have R1 := Aside0.mk h1
  have R2 := Aside0.mk (S0.out.keep.trans h2)
  clear h1 h2
  go_wp2_with fail
  refine bodyPost_end (v := .tuple #[]) (by simp [results, Try.results29, go_sem]) rfl ?_
  exact ⟨rfl, R1.out, R2.out⟩
set_option maxHeartbeats 4000000 in
set_option maxRecDepth 100000 in
theorem wf_flag1 (g base h : Nat) (which : Int) (xs : List Int) (bad : Bool) (m : Msg) (w : World) (hF : Wr w g base xs bad) (hg : base ≤ g) (hb : base ≤ w.heap.size) (hm : MsAt w h m) (hx : xs.length ≤ 900000000) (hv : m.comp = true) :
    Calls Try.prog 29 #[.pointer (some ⟨g, 0, none⟩), .pointer (some ⟨h, 0, none⟩), .int .i64 which, .int .i64 7] w fun e w' => e = .returned (.tuple #[]) ∧ Wr w' g base (xs ++ nb 1 1) bad ∧ KeepW w w' g base := by
  have HGE := Aside0.mk hg
  have HB := Aside0.mk hb
  have S0 := Aside0.mk (FwS.new hF hm hb)
  have HLT := Aside0.mk hF.lt
  have HX := Aside0.mk hx
  have HV := Aside0.mk hv
  clear hx hv
  clear hF hg hb hm
  go_enter Try.func29, Try.ntmps29
  go_upto_region 8 with (fail)
  (try simp only [Act.put, List.setIfInBounds_toArray, List.set_cons_zero, List.set_cons_succ])
  generalize w.alloc (.cells #[.pointer (some ⟨g, 0, none⟩)] 62) = y0 at S0 ⊢
  have q0 := S0.out.q0
  have q8 : y0.cell? ⟨h, 8, none⟩ = some (.bool true) := (S0.out.ms.cell 8).trans (congrArg (fun b => some (Value.bool b)) HV.out)
  go_wp2_with fail
  refine (wr_number g base xs bad 1 1 _ S0.out.wr HGE.out (Nat.le_trans HB.out S0.out.keep.below.size) (by decide) (by decide) (by have := HX.out; omega)).mono ?_
  rintro e w2 ⟨rfl, h1, h2⟩
  have R1 := Aside0.mk h1
  have R2 := Aside0.mk (S0.out.keep.trans h2)
  clear h1 h2
  go_wp2_with fail
  refine bodyPost_end (v := .tuple #[]) (by simp [results, Try.results29, go_sem]) rfl ?_
  exact ⟨rfl, R1.out, R2.out⟩
set_option maxHeartbeats 4000000 in
set_option maxRecDepth 100000 in
theorem wf_recs (g base h : Nat) (which : Int) (xs : List Int) (bad : Bool) (m : Msg) (w : World) (hF : Wr w g base xs bad) (hg : base ≤ g) (hb : base ≤ w.heap.size) (hm : MsAt w h m) (A : Option Addr) (c : Nat) (l : List S98) (ys : List Int) (b2 : Bool) (hu : m.u1 = .slice A l.length c) (hl : ∀ W, Below base w W → Kd.C k98 W A l.length l) (hx : xs.length + (l.map recN).sum ≤ 700000000) (hs : lw rec1 rec2 l (xs ++ nb (l.length : Nat) 2) (bad || decide (65535 < l.length)) = (ys, b2)) :
    Calls Try.prog 29 #[.pointer (some ⟨g, 0, none⟩), .pointer (some ⟨h, 0, none⟩), .int .i64 which, .int .i64 16] w fun e w' => e = .returned (.tuple #[]) ∧ Wr w' g base ys b2 ∧ KeepW w w' g base := by
  have HGE := Aside0.mk hg
  have HB := Aside0.mk hb
  have S0 := Aside0.mk (FwS.new hF hm hb)
  have HLT := Aside0.mk hF.lt
  have HX := Aside0.mk hx
  have HS := Aside0.mk hs
  have HL := Aside0.mk hl
  have HU := Aside0.mk hu
  clear hx hs hl hu
  clear hF hg hb hm
  go_enter Try.func29, Try.ntmps29
  go_upto_region 12 with (fail)
  (try simp only [Act.put, List.setIfInBounds_toArray, List.set_cons_zero, List.set_cons_succ])
  generalize w.alloc (.cells #[.pointer (some ⟨g, 0, none⟩)] 62) = y0 at S0 ⊢
  refine start_ (n := 9) (S := fun w' => FwS w w' g base h xs bad m) (ds := [8]) #[false, false, false, false, false, false, false, false, false] (by kernel_rfl) rfl rfl (S0.out.drewN 1) (fun hHeld => ?_)
  refine take_ (i := 0) (N := (some 41)) (v := ?_) (a' := ?_) #[true, false, false, false, false, false, false, false, false] rfl rfl (by kernel_rfl) (fun _ _ _ h => h) (Or.inl ⟨by rfl, ?_⟩) hHeld ?_ ?_
  rotate_left
  · rintro w' s
    have q0 := s.q0
    go_simp
    with_reducible rfl
  rotate_left
  · simp only [Act.put, List.setIfInBounds_toArray, List.set_cons_zero, List.set_cons_succ, i64_w, i32_w]
    rfl
  refine pure_ (i := 1) (N := (some 42)) (v := ?_) (a' := ?_) #[true, true, false, false, false, false, false, false, false] rfl rfl (by kernel_rfl) (fun _ _ _ h => h) (Or.inl ⟨by rfl, ?_⟩) ?_ ?_
  rotate_left
  · intro w'
    go_simp
    with_reducible rfl
  rotate_left
  · simp only [Act.put, List.setIfInBounds_toArray, List.set_cons_zero, List.set_cons_succ, i64_w, i32_w]
    rfl
  refine pure_ (i := 2) (N := (some 43)) (v := ?_) (a' := ?_) #[true, true, true, false, false, false, false, false, false] rfl rfl (by kernel_rfl) (fun _ _ _ h => h) (Or.inl ⟨by rfl, ?_⟩) ?_ ?_
  rotate_left
  · intro w'
    go_simp
    with_reducible rfl
  rotate_left
  · simp only [Act.put, List.setIfInBounds_toArray, List.set_cons_zero, List.set_cons_succ, i64_w, i32_w]
    rfl
  refine pure_ (i := 3) (N := (some 44)) (v := ?_) (a' := ?_) #[true, true, true, true, false, false, false, false, false] rfl rfl (by kernel_rfl) (fun _ _ _ h => h) (Or.inl ⟨by rfl, ?_⟩) ?_ ?_
  rotate_left
  · intro w'
    go_simp
    with_reducible rfl
  rotate_left
  · simp only [Act.put, List.setIfInBounds_toArray, List.set_cons_zero, List.set_cons_succ, i64_w, i32_w]
    rfl
  refine pure_ (i := 4) (N := (some 45)) (v := ?_) (a' := ?_) #[true, true, true, true, true, false, false, false, false] rfl rfl (by kernel_rfl) (fun _ _ _ h => h) (Or.inl ⟨by rfl, ?_⟩) ?_ ?_
  rotate_left
  · intro w'
    go_simp
    with_reducible rfl
  rotate_left
  · simp only [Act.put, List.setIfInBounds_toArray, List.set_cons_zero, List.set_cons_succ, i64_w, i32_w]
    rfl
  refine take_ (i := 5) (N := (some 46)) (v := ?_) (a' := ?_) #[true, true, true, true, true, true, false, false, false] rfl rfl (by kernel_rfl) (fun _ _ _ h => h) (Or.inl ⟨by rfl, ?_⟩) hHeld ?_ ?_
  rotate_left
  · rintro w' s
    have q0 : w'.cell? ⟨h, 12, none⟩ = some (.slice A l.length c) := (s.ms.cell 12).trans (congrArg some HU.out)
    go_simp
    with_reducible rfl
  rotate_left
  · simp only [Act.put, List.setIfInBounds_toArray, List.set_cons_zero, List.set_cons_succ, i64_w, i32_w]
    rfl
  refine take_ (i := 6) (N := (some 47)) (v := ?_) (a' := ?_) #[true, true, true, true, true, true, true, false, false] rfl rfl (by kernel_rfl) (fun _ _ _ h => h) (Or.inl ⟨by rfl, ?_⟩) hHeld ?_ ?_
  rotate_left
  · rintro w' s
    have q0 := s.q0
    go_simp
    with_reducible rfl
  rotate_left
  · simp only [Act.put, List.setIfInBounds_toArray, List.set_cons_zero, List.set_cons_succ, i64_w, i32_w]
    rfl
  refine pure_ (i := 7) (N := (some 48)) (v := ?_) (a' := ?_) #[true, true, true, true, true, true, true, true, false] rfl rfl (by kernel_rfl) (fun _ _ _ h => h) (Or.inl ⟨by rfl, ?_⟩) ?_ ?_
  rotate_left
  · intro w'
    go_simp
    with_reducible rfl
  rotate_left
  · simp only [Act.put, List.setIfInBounds_toArray, List.set_cons_zero, List.set_cons_succ, i64_w, i32_w]
    rfl
  refine last_ (i := 8) (N := (some 49)) #[true, true, true, true, true, true, true, true, true] rfl rfl (by kernel_rfl) (by decide) (fun K hK => ?_)
  refine goes_ Try.func46 (by kernel_rfl) rfl #[.pointer (some ⟨g, 0, none⟩), .slice A l.length c, .func (Fn.func 47) #[.pointer (some ⟨g, 0, none⟩)] #[]] (by rfl) rfl rfl (by (try simp only [List.map_toArray, List.map_cons, List.map_nil]); first | done | rfl) ?_
  refine (wr_listR g base xs bad A c l ys b2 _ hHeld.wr HGE.out (Nat.le_trans HB.out hHeld.keep.below.size) (fun W hW => HL.out W (hHeld.keep.below.trans hW)) HX.out HS.out).mono ?_
  rintro e w2 ⟨rfl, h1, h2⟩
  refine ⟨_, rfl, ?_⟩
  have R1 := Aside0.mk h1
  have R2 := Aside0.mk (hHeld.keep.trans h2)
  refine hK.out _ _ ?_
  clear hK K
  refine norm_ (a' := ?_) ?_ ?_
  rotate_left
  · show Act.put _ (some 49) _ = _
    simp only [Act.put, List.setIfInBounds_toArray, List.set_cons_zero, List.set_cons_succ, i64_w, i32_w]
    rfl
  refine done_ (by kernel_rfl) ?_
  clear hHeld
  simp only [Exit.inBlock]
  refine bodyPost_end (v := .tuple #[]) (by simp [results, Try.results29, go_sem]) rfl ?_
  exact ⟨rfl, R1.out, R2.out⟩
set_option maxHeartbeats 4000000 in
set_option maxRecDepth 100000 in
theorem wf_names (g base h : Nat) (which : Int) (xs : List Int) (bad : Bool) (m : Msg) (w : World) (hF : Wr w g base xs bad) (hg : base ≤ g) (hb : base ≤ w.heap.size) (hm : MsAt w h m) (A : Option Addr) (c : Nat) (l : List ByteArray) (ys : List Int) (b2 : Bool) (hu : m.u2 = .slice A l.length c) (hl : ∀ W, Below base w W → Kd.C Kd.string W A l.length l) (hx : xs.length + (l.map txtN).sum ≤ 700000000) (hs : lw txt1 txt2 l (xs ++ nb (l.length : Nat) 2) (bad || decide (65535 < l.length)) = (ys, b2)) :
    Calls Try.prog 29 #[.pointer (some ⟨g, 0, none⟩), .pointer (some ⟨h, 0, none⟩), .int .i64 which, .int .i64 17] w fun e w' => e = .returned (.tuple #[]) ∧ Wr w' g base ys b2 ∧ KeepW w w' g base := by
  have HGE := Aside0.mk hg
  have HB := Aside0.mk hb
  have S0 := Aside0.mk (FwS.new hF hm hb)
  have HLT := Aside0.mk hF.lt
  have HX := Aside0.mk hx
  have HS := Aside0.mk hs
  have HL := Aside0.mk hl
  have HU := Aside0.mk hu
  clear hx hs hl hu
  clear hF hg hb hm
  go_enter Try.func29, Try.ntmps29
  go_upto_region 14 with (fail)
  (try simp only [Act.put, List.setIfInBounds_toArray, List.set_cons_zero, List.set_cons_succ])
  generalize w.alloc (.cells #[.pointer (some ⟨g, 0, none⟩)] 62) = y0 at S0 ⊢
  refine start_ (n := 9) (S := fun w' => FwS w w' g base h xs bad m) (ds := [8]) #[false, false, false, false, false, false, false, false, false] (by kernel_rfl) rfl rfl (S0.out.drewN 1) (fun hHeld => ?_)
  refine take_ (i := 0) (N := (some 52)) (v := ?_) (a' := ?_) #[true, false, false, false, false, false, false, false, false] rfl rfl (by kernel_rfl) (fun _ _ _ h => h) (Or.inl ⟨by rfl, ?_⟩) hHeld ?_ ?_
  rotate_left
  · rintro w' s
    have q0 := s.q0
    go_simp
    with_reducible rfl
  rotate_left
  · simp only [Act.put, List.setIfInBounds_toArray, List.set_cons_zero, List.set_cons_succ, i64_w, i32_w]
    rfl
  refine pure_ (i := 1) (N := (some 53)) (v := ?_) (a' := ?_) #[true, true, false, false, false, false, false, false, false] rfl rfl (by kernel_rfl) (fun _ _ _ h => h) (Or.inl ⟨by rfl, ?_⟩) ?_ ?_
  rotate_left
  · intro w'
    go_simp
    with_reducible rfl
  rotate_left
  · simp only [Act.put, List.setIfInBounds_toArray, List.set_cons_zero, List.set_cons_succ, i64_w, i32_w]
    rfl
  refine pure_ (i := 2) (N := (some 54)) (v := ?_) (a' := ?_) #[true, true, true, false, false, false, false, false, false] rfl rfl (by kernel_rfl) (fun _ _ _ h => h) (Or.inl ⟨by rfl, ?_⟩) ?_ ?_
  rotate_left
  · intro w'
    go_simp
    with_reducible rfl
  rotate_left
  · simp only [Act.put, List.setIfInBounds_toArray, List.set_cons_zero, List.set_cons_succ, i64_w, i32_w]
    rfl
  refine pure_ (i := 3) (N := (some 55)) (v := ?_) (a' := ?_) #[true, true, true, true, false, false, false, false, false] rfl rfl (by kernel_rfl) (fun _ _ _ h => h) (Or.inl ⟨by rfl, ?_⟩) ?_ ?_
  rotate_left
  · intro w'
    go_simp
    with_reducible rfl
  rotate_left
  · simp only [Act.put, List.setIfInBounds_toArray, List.set_cons_zero, List.set_cons_succ, i64_w, i32_w]
    rfl
  refine pure_ (i := 4) (N := (some 56)) (v := ?_) (a' := ?_) #[true, true, true, true, true, false, false, false, false] rfl rfl (by kernel_rfl) (fun _ _ _ h => h) (Or.inl ⟨by rfl, ?_⟩) ?_ ?_
  rotate_left
  · intro w'
    go_simp
    with_reducible rfl
  rotate_left
  · simp only [Act.put, List.setIfInBounds_toArray, List.set_cons_zero, List.set_cons_succ, i64_w, i32_w]
    rfl
  refine take_ (i := 5) (N := (some 57)) (v := ?_) (a' := ?_) #[true, true, true, true, true, true, false, false, false] rfl rfl (by kernel_rfl) (fun _ _ _ h => h) (Or.inl ⟨by rfl, ?_⟩) hHeld ?_ ?_
  rotate_left
  · rintro w' s
    have q0 : w'.cell? ⟨h, 23, none⟩ = some (.slice A l.length c) := (s.ms.cell 23).trans (congrArg some HU.out)
    go_simp
    with_reducible rfl
  rotate_left
  · simp only [Act.put, List.setIfInBounds_toArray, List.set_cons_zero, List.set_cons_succ, i64_w, i32_w]
    rfl
  refine take_ (i := 6) (N := (some 58)) (v := ?_) (a' := ?_) #[true, true, true, true, true, true, true, false, false] rfl rfl (by kernel_rfl) (fun _ _ _ h => h) (Or.inl ⟨by rfl, ?_⟩) hHeld ?_ ?_
  rotate_left
  · rintro w' s
    have q0 := s.q0
    go_simp
    with_reducible rfl
  rotate_left
  · simp only [Act.put, List.setIfInBounds_toArray, List.set_cons_zero, List.set_cons_succ, i64_w, i32_w]
    rfl
  refine pure_ (i := 7) (N := (some 59)) (v := ?_) (a' := ?_) #[true, true, true, true, true, true, true, true, false] rfl rfl (by kernel_rfl) (fun _ _ _ h => h) (Or.inl ⟨by rfl, ?_⟩) ?_ ?_
  rotate_left
  · intro w'
    go_simp
    with_reducible rfl
  rotate_left
  · simp only [Act.put, List.setIfInBounds_toArray, List.set_cons_zero, List.set_cons_succ, i64_w, i32_w]
    rfl
  refine last_ (i := 8) (N := (some 60)) #[true, true, true, true, true, true, true, true, true] rfl rfl (by kernel_rfl) (by decide) (fun K hK => ?_)
  refine goes_ Try.func48 (by kernel_rfl) rfl #[.pointer (some ⟨g, 0, none⟩), .slice A l.length c, .func (Fn.func 44) #[.pointer (some ⟨g, 0, none⟩)] #[]] (by rfl) rfl rfl (by (try simp only [List.map_toArray, List.map_cons, List.map_nil]); first | done | rfl) ?_
  refine (wr_listS g base xs bad A c l ys b2 _ hHeld.wr HGE.out (Nat.le_trans HB.out hHeld.keep.below.size) (fun W hW => HL.out W (hHeld.keep.below.trans hW)) HX.out HS.out).mono ?_
  rintro e w2 ⟨rfl, h1, h2⟩
  refine ⟨_, rfl, ?_⟩
  have R1 := Aside0.mk h1
  have R2 := Aside0.mk (hHeld.keep.trans h2)
  refine hK.out _ _ ?_
  clear hK K
  refine norm_ (a' := ?_) ?_ ?_
  rotate_left
  · show Act.put _ (some 60) _ = _
    simp only [Act.put, List.setIfInBounds_toArray, List.set_cons_zero, List.set_cons_succ, i64_w, i32_w]
    rfl
  refine done_ (by kernel_rfl) ?_
  clear hHeld
  simp only [Exit.inBlock]
  refine bodyPost_end (v := .tuple #[]) (by simp [results, Try.results29, go_sem]) rfl ?_
  exact ⟨rfl, R1.out, R2.out⟩
set_option maxHeartbeats 4000000 in
set_option maxRecDepth 100000 in
theorem wf_counts (g base h : Nat) (which : Int) (xs : List Int) (bad : Bool) (m : Msg) (w : World) (hF : Wr w g base xs bad) (hg : base ≤ g) (hb : base ≤ w.heap.size) (hm : MsAt w h m) (A : Option Addr) (c : Nat) (l : List Int) (ys : List Int) (b2 : Bool) (hu : m.u3 = .slice A l.length c) (hl : ∀ W, Below base w W → Kd.C (Kd.int .i64) W A l.length l) (hx : xs.length + (l.map intN).sum ≤ 700000000) (hs : lw int1 int2 l (xs ++ nb (l.length : Nat) 2) (bad || decide (65535 < l.length)) = (ys, b2)) :
    Calls Try.prog 29 #[.pointer (some ⟨g, 0, none⟩), .pointer (some ⟨h, 0, none⟩), .int .i64 which, .int .i64 18] w fun e w' => e = .returned (.tuple #[]) ∧ Wr w' g base ys b2 ∧ KeepW w w' g base := by
  have HGE := Aside0.mk hg
  have HB := Aside0.mk hb
  have S0 := Aside0.mk (FwS.new hF hm hb)
  have HLT := Aside0.mk hF.lt
  have HX := Aside0.mk hx
  have HS := Aside0.mk hs
  have HL := Aside0.mk hl
  have HU := Aside0.mk hu
  clear hx hs hl hu
  clear hF hg hb hm
  go_enter Try.func29, Try.ntmps29
  go_upto_region 16 with (fail)
  (try simp only [Act.put, List.setIfInBounds_toArray, List.set_cons_zero, List.set_cons_succ])
  generalize w.alloc (.cells #[.pointer (some ⟨g, 0, none⟩)] 62) = y0 at S0 ⊢
  refine start_ (n := 8) (S := fun w' => FwS w w' g base h xs bad m) (ds := [7]) #[false, false, false, false, false, false, false, false] (by kernel_rfl) rfl rfl (S0.out.drewN 1) (fun hHeld => ?_)
  refine take_ (i := 0) (N := (some 63)) (v := ?_) (a' := ?_) #[true, false, false, false, false, false, false, false] rfl rfl (by kernel_rfl) (fun _ _ _ h => h) (Or.inl ⟨by rfl, ?_⟩) hHeld ?_ ?_
  rotate_left
  · rintro w' s
    have q0 := s.q0
    go_simp
    with_reducible rfl
  rotate_left
  · simp only [Act.put, List.setIfInBounds_toArray, List.set_cons_zero, List.set_cons_succ, i64_w, i32_w]
    rfl
  refine pure_ (i := 1) (N := (some 64)) (v := ?_) (a' := ?_) #[true, true, false, false, false, false, false, false] rfl rfl (by kernel_rfl) (fun _ _ _ h => h) (Or.inl ⟨by rfl, ?_⟩) ?_ ?_
  rotate_left
  · intro w'
    go_simp
    with_reducible rfl
  rotate_left
  · simp only [Act.put, List.setIfInBounds_toArray, List.set_cons_zero, List.set_cons_succ, i64_w, i32_w]
    rfl
  refine pure_ (i := 2) (N := (some 65)) (v := ?_) (a' := ?_) #[true, true, true, false, false, false, false, false] rfl rfl (by kernel_rfl) (fun _ _ _ h => h) (Or.inl ⟨by rfl, ?_⟩) ?_ ?_
  rotate_left
  · intro w'
    go_simp
    with_reducible rfl
  rotate_left
  · simp only [Act.put, List.setIfInBounds_toArray, List.set_cons_zero, List.set_cons_succ, i64_w, i32_w]
    rfl
  refine pure_ (i := 3) (N := (some 66)) (v := ?_) (a' := ?_) #[true, true, true, true, false, false, false, false] rfl rfl (by kernel_rfl) (fun _ _ _ h => h) (Or.inl ⟨by rfl, ?_⟩) ?_ ?_
  rotate_left
  · intro w'
    go_simp
    with_reducible rfl
  rotate_left
  · simp only [Act.put, List.setIfInBounds_toArray, List.set_cons_zero, List.set_cons_succ, i64_w, i32_w]
    rfl
  refine pure_ (i := 4) (N := (some 67)) (v := ?_) (a' := ?_) #[true, true, true, true, true, false, false, false] rfl rfl (by kernel_rfl) (fun _ _ _ h => h) (Or.inl ⟨by rfl, ?_⟩) ?_ ?_
  rotate_left
  · intro w'
    go_simp
    with_reducible rfl
  rotate_left
  · simp only [Act.put, List.setIfInBounds_toArray, List.set_cons_zero, List.set_cons_succ, i64_w, i32_w]
    rfl
  refine take_ (i := 5) (N := (some 68)) (v := ?_) (a' := ?_) #[true, true, true, true, true, true, false, false] rfl rfl (by kernel_rfl) (fun _ _ _ h => h) (Or.inl ⟨by rfl, ?_⟩) hHeld ?_ ?_
  rotate_left
  · rintro w' s
    have q0 : w'.cell? ⟨h, 24, none⟩ = some (.slice A l.length c) := (s.ms.cell 24).trans (congrArg some HU.out)
    go_simp
    with_reducible rfl
  rotate_left
  · simp only [Act.put, List.setIfInBounds_toArray, List.set_cons_zero, List.set_cons_succ, i64_w, i32_w]
    rfl
  refine pure_ (i := 6) (N := (some 69)) (v := ?_) (a' := ?_) #[true, true, true, true, true, true, true, false] rfl rfl (by kernel_rfl) (fun _ _ _ h => h) (Or.inl ⟨by rfl, ?_⟩) ?_ ?_
  rotate_left
  · intro w'
    go_simp
    with_reducible rfl
  rotate_left
  · simp only [Act.put, List.setIfInBounds_toArray, List.set_cons_zero, List.set_cons_succ, i64_w, i32_w]
    rfl
  refine last_ (i := 7) (N := (some 70)) #[true, true, true, true, true, true, true, true] rfl rfl (by kernel_rfl) (by decide) (fun K hK => ?_)
  refine goes_ Try.func49 (by kernel_rfl) rfl #[.pointer (some ⟨g, 0, none⟩), .slice A l.length c, .func (Fn.func 50) #[] #[.pointer (some ⟨w.heap.size, 0, none⟩)]] (by rfl) rfl rfl (by (try simp only [List.map_toArray, List.map_cons, List.map_nil]); first | done | rfl) ?_
  refine (wr_listI g base xs bad A c l ys b2 _ hHeld.wr HGE.out (Nat.le_trans HB.out hHeld.keep.below.size) (fun W hW => HL.out W (hHeld.keep.below.trans hW)) HX.out w.heap.size (hHeld.hq HLT.out) HS.out).mono ?_
  rintro e w2 ⟨rfl, h1, h2⟩
  refine ⟨_, rfl, ?_⟩
  have R1 := Aside0.mk h1
  have R2 := Aside0.mk (hHeld.keep.trans h2)
  refine hK.out _ _ ?_
  clear hK K
  refine norm_ (a' := ?_) ?_ ?_
  rotate_left
  · show Act.put _ (some 70) _ = _
    simp only [Act.put, List.setIfInBounds_toArray, List.set_cons_zero, List.set_cons_succ, i64_w, i32_w]
    rfl
  refine done_ (by kernel_rfl) ?_
  clear hHeld
  simp only [Exit.inBlock]
  refine bodyPost_end (v := .tuple #[]) (by simp [results, Try.results29, go_sem]) rfl ?_
  exact ⟨rfl, R1.out, R2.out⟩

end Go.Proofs.Ytncfofnikmfjbaa.PCi

namespace Go.Proofs.Ytncfofnikmfjbaa.PCi
open Go.RowKit Go.Proofs.YtncfofnikmfjbaaW.PrintWords Go.Proofs.YtncfofnikmfjbaaW.PrintLast Go.Proofs.YtncfofnikmfjbaaW.PrintMore
attribute [local go_sem] max2_int min2_int max_two min_two max_three min_three max_four min_four
set_option linter.unusedVariables false
set_option linter.unusedSimpArgs false

/-! ### codec.Request -/
def wF (m : Msg) (rs : List S98) (f : Int) (s : List Int × Bool) : List Int × Bool :=
  if f = 0 then (s.1 ++ txt1 m.topic, s.2 || txt2 m.topic) else if f = 1 then (s.1 ++ txt1 m.group, s.2 || txt2 m.group) else if f = 7 then (s.1 ++ nb (if m.comp = true then 1 else 0) 1, s.2)
  else if f = 16 then lw rec1 rec2 rs (s.1 ++ nb (rs.length : Nat) 2) (s.2 || decide (65535 < rs.length)) else (s.1 ++ nb (m.num 0 f) 8, s.2)
def wFs (m : Msg) (rs : List S98) (L : List Int) (s : List Int × Bool) : List Int × Bool := L.foldl (fun s f => wF m rs f s) s
def rqN (m : Msg) (rs : List S98) : Nat := m.topic.size + (m.group.size + (rs.map recN).sum)
theorem lw_len {α : Type} (one : α → List Int) (ob : α → Bool) (wt : α → Nat) (h : ∀ x, (one x).length ≤ wt x) : ∀ (l : List α) (xs : List Int) (b : Bool), (lw one ob l xs b).1.length ≤ xs.length + (l.map wt).sum
  | [], xs, b => by simp [lw]
  | x :: l, xs, b => by
    rw [lw]
    split
    · simp only [List.map_cons, List.sum_cons]; omega
    · have := lw_len one ob wt h l (xs ++ one x) (b || ob x)
      have := h x
      rw [List.length_append] at *
      simp only [List.map_cons, List.sum_cons]
      omega
theorem wF_len (m : Msg) (rs : List S98) (f : Int) (s : List Int × Bool) : (wF m rs f s).1.length ≤ s.1.length + (rqN m rs + 8) := by
  unfold wF rqN
  split
  · rw [List.length_append]; have := txt_len m.topic; unfold txtN at this; omega
  split
  · rw [List.length_append]; have := txt_len m.group; unfold txtN at this; omega
  split
  · rw [List.length_append, nb_len]; omega
  split
  · have := lw_len rec1 rec2 recN recW_len rs (s.1 ++ nb (rs.length : Nat) 2) (s.2 || decide (65535 < rs.length))
    rw [List.length_append, nb_len] at this
    omega
  · rw [List.length_append, nb_len]; omega
theorem rq_wfield (g base h : Nat) (f : Int) (s : List Int × Bool) (m : Msg) (A : Option Addr) (c : Nat) (rs : List S98) (w : World) (hF : Wr w g base s.1 s.2) (hg : base ≤ g) (hb : base ≤ w.heap.size) (hm : MsAt w h m) (hu : m.u1 = .slice A rs.length c) (hl : ∀ W, Below base w W → Kd.C k98 W A rs.length rs)
    (hx : s.1.length + rqN m rs ≤ 690000000) (hf17 : f ≠ 17) (hf18 : f ≠ 18) (hf19 : f ≠ 19) :
    Calls Try.prog 29 #[.pointer (some ⟨g, 0, none⟩), .pointer (some ⟨h, 0, none⟩), .int .i64 0, .int .i64 f] w fun e w' => e = .returned (.tuple #[]) ∧ Wr w' g base (wF m rs f s).1 (wF m rs f s).2 ∧ KeepW w w' g base := by
  unfold rqN at hx
  unfold wF
  by_cases h0 : f = 0
  · subst h0
    exact wf_text0 g base h 0 s.1 s.2 m w hF hg hb hm (by omega)
  rw [if_neg h0]
  by_cases h1 : f = 1
  · subst h1
    exact wf_text1 g base h 0 s.1 s.2 m w hF hg hb hm (by omega)
  rw [if_neg h1]
  by_cases h7 : f = 7
  · subst h7
    rw [if_pos rfl]
    cases hc : m.comp
    · exact wf_flag0 g base h 0 s.1 s.2 m w hF hg hb hm (by omega) hc
    · exact wf_flag1 g base h 0 s.1 s.2 m w hF hg hb hm (by omega) hc
  rw [if_neg h7]
  by_cases h16 : f = 16
  · subst h16
    rw [if_pos rfl]
    exact wf_recs g base h 0 s.1 s.2 m w hF hg hb hm A c rs _ _ hu hl (by omega) rfl
  rw [if_neg h16]
  exact wf_num g base h 0 f s.1 s.2 m w hF hg hb hm (by omega) h0 h1 h7 h16 hf17 hf18 hf19
theorem wpl_loadG {P : Program} {ops : Array Oper} {rest : List Oper} {o : Oper} {a : Act} {w : World} {Q : Exit → Act → World → Prop} (hw : Region.wanted o (yielded ops a.tmps) = true) (ty : TypeId) (x : Operand) (ho : o.op = .load ty x) {g : Nat} {t : TypeId} {cs : Array Value} {fr : Nat × Nat} (d : TypeDesc) (hx : a.eval x = .pointer (some ⟨g, 0, none⟩)) (hg : w.heap[g]? = some (.cells cs t fr)) (hu : P.underlying ty = some d) (hd : (match d with | .struct _ | .array _ _ => true | _ => false) = true) (hi : (P.info? ty).map (·.size) = some cs.size)
    (h : wpList P ops Q rest (a.put o.dst (.agg cs)) w) : wpList P ops Q (o :: rest) a w := by
  refine wpList_step fun K hK => ?_
  rw [if_pos hw]
  unfold Oper.wp
  rw [load_eq (P := P) ty x d ho hx hg hu hd hi]
  exact hK _ _ h

end Go.Proofs.Ytncfofnikmfjbaa.PCi
