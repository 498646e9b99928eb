import Derived.Test.YtncfofnikmfjbaaQCf12
import Derived.Outline
import Derived.StillTailTactics
import Derived.RegionTactic
import Derived.BigRegion
import Derived.Lib.BufferWrite
import Derived.Test.YtncfofnikmfjbaaQPCix2
namespace Go.Proofs.Ytncfofnikmfjbaa.PCi
open Go.RowKit Go.Proofs.YtncfofnikmfjbaaW.PrintWords Go.Proofs.YtncfofnikmfjbaaW.PrintLast Go.Proofs.YtncfofnikmfjbaaW.PrintMore
attribute [local go_sem] max2_int min2_int max_two min_two max_three min_three max_four min_four
set_option linter.unusedVariables false
set_option linter.unusedSimpArgs false

/-! ### codec.flatten -/
def Msg.flat (m : Msg) : Array Value := #[.int .i64 m.kind, .int .i64 m.id, .int .i64 m.part, .int .i64 m.parts, .int .i64 m.seg, .int .i64 m.byt, .int .i64 m.age, .int .i64 m.delay, .int .i64 m.prod, .int .i64 m.seq, .int .i64 m.off, .int .i64 m.max, .int .i64 m.time, .int .i64 m.akind, .int .i64 m.aid, .int .i64 m.aoff, .int .i64 m.astart, .int .i64 m.anext, .string m.topic, .string m.group, .bool m.comp]
theorem store_step {P : Program} {ops : Array Oper} {oi : Oper} {a : Act} {w : World} {K : Act → World → Prop} {Q : Exit → Act → World → Prop} (hw : Region.wanted oi (yielded ops a.tmps) = true) (hN : oi.dst = none) (ty : TypeId) (x y : Operand) (ho : oi.op = .store ty x y) (g : Nat) (cells : Array Value) (hx : a.eval x = .pointer (some ⟨g, 0, none⟩)) (hy : a.eval y = .agg cells)
    (t : TypeId) (old : Array Value) (hg : w.heap[g]? = some (.cells old t (0, 0))) (hi : (P.info? ty).map (·.size) = some cells.size) (hold : old.size = cells.size) (h1 : cells.all (·.oneCell') = true) (h : K a (w.setRow g cells)) : if Region.wanted oi (yielded ops a.tmps) = true then Oper.wp P oi a w K Q else K (a.put none undef) w := by
  rw [if_pos hw]
  exact wp_store_row ty x y ho g cells hx hy t old hg hi hold h1 (by rw [hN]; exact h)
theorem info9 : (Try.prog.info? 46).map (·.size) = some 9 := by kernel_rfl
theorem info21 : (Try.prog.info? 122).map (·.size) = some 21 := by kernel_rfl
theorem allq (m : Msg) {A : Option Addr} {n c : Nat} (h : m.u1 = .slice A n c) : (#[.int .i64 m.kind, .int .i64 m.id, .string m.topic, .int .i64 m.part, .int .i64 m.parts, .int .i64 m.seg, .int .i64 m.byt, .int .i64 m.age, .bool m.comp, .int .i64 m.delay, .int .i64 m.prod, .int .i64 m.seq, m.u1, .int .i64 m.off, .int .i64 m.max, .int .i64 m.time, .string m.group] : Array Value).all (·.oneCell') = true := by
  rw [← Array.all_toList]
  simp [h, Value.oneCell']
theorem alls (m : Msg) {A2 A3 A4 : Option Addr} {n2 c2 n3 c3 n4 c4 : Nat} (h2 : m.u2 = .slice A2 n2 c2) (h3 : m.u3 = .slice A3 n3 c3) (h4 : m.u4 = .slice A4 n4 c4) : (#[.int .i64 m.akind, .int .i64 m.aid, .int .i64 m.acode, .int .i64 m.aoff, .int .i64 m.astart, .int .i64 m.anext, m.u2, m.u3, m.u4] : Array Value).all (·.oneCell') = true := by
  rw [← Array.all_toList]
  simp [h2, h3, h4, Value.oneCell']
theorem allf (m : Msg) : (#[.int .i64 m.kind, .int .i64 m.id, .int .i64 m.part, .int .i64 m.parts, .int .i64 m.seg, .int .i64 m.byt, .int .i64 m.age, .int .i64 m.delay, .int .i64 m.prod, .int .i64 m.seq, .int .i64 m.off, .int .i64 m.max, .int .i64 m.time, .int .i64 m.akind, .int .i64 m.aid, .int .i64 m.aoff, .int .i64 m.astart, .int .i64 m.anext, .string m.topic, .string m.group, .bool m.comp] : Array Value).all (·.oneCell') = true := by
  rw [← Array.all_toList]
  simp [Value.oneCell']
/-- The four slices are slices. -/
structure Msg.Sl (m : Msg) : Prop where
  h1 : ∃ A n c, m.u1 = .slice A n c
  h2 : ∃ A n c, m.u2 = .slice A n c
  h3 : ∃ A n c, m.u3 = .slice A n c
  h4 : ∃ A n c, m.u4 = .slice A n c
theorem flat_new (w : World) (m : Msg) : MsAt ((w.alloc (.cells #[.int .i64 m.kind, .int .i64 m.id, .string m.topic, .int .i64 m.part, .int .i64 m.parts, .int .i64 m.seg, .int .i64 m.byt, .int .i64 m.age, .bool m.comp, .int .i64 m.delay, .int .i64 m.prod, .int .i64 m.seq, m.u1, .int .i64 m.off, .int .i64 m.max, .int .i64 m.time, .string m.group, .int .i64 m.akind, .int .i64 m.aid, .int .i64 m.acode, .int .i64 m.aoff, .int .i64 m.astart, .int .i64 m.anext, m.u2, m.u3, m.u4] 67)).alloc (.cells #[.int .i64 0, .int .i64 0, .int .i64 0, .int .i64 0, .int .i64 0, .int .i64 0, .int .i64 0, .int .i64 0, .int .i64 0, .int .i64 0, .int .i64 0, .int .i64 0, .int .i64 0, .int .i64 0, .int .i64 0, .int .i64 0, .int .i64 0, .int .i64 0, .string ⟨#[]⟩, .string ⟨#[]⟩, .bool false] 122)) w.heap.size m ∧ ((w.alloc (.cells #[.int .i64 m.kind, .int .i64 m.id, .string m.topic, .int .i64 m.part, .int .i64 m.parts, .int .i64 m.seg, .int .i64 m.byt, .int .i64 m.age, .bool m.comp, .int .i64 m.delay, .int .i64 m.prod, .int .i64 m.seq, m.u1, .int .i64 m.off, .int .i64 m.max, .int .i64 m.time, .string m.group, .int .i64 m.akind, .int .i64 m.aid, .int .i64 m.acode, .int .i64 m.aoff, .int .i64 m.astart, .int .i64 m.anext, m.u2, m.u3, m.u4] 67)).alloc (.cells #[.int .i64 0, .int .i64 0, .int .i64 0, .int .i64 0, .int .i64 0, .int .i64 0, .int .i64 0, .int .i64 0, .int .i64 0, .int .i64 0, .int .i64 0, .int .i64 0, .int .i64 0, .int .i64 0, .int .i64 0, .int .i64 0, .int .i64 0, .int .i64 0, .string ⟨#[]⟩, .string ⟨#[]⟩, .bool false] 122)).heap[w.heap.size + 1]? = some (.cells #[.int .i64 0, .int .i64 0, .int .i64 0, .int .i64 0, .int .i64 0, .int .i64 0, .int .i64 0, .int .i64 0, .int .i64 0, .int .i64 0, .int .i64 0, .int .i64 0, .int .i64 0, .int .i64 0, .int .i64 0, .int .i64 0, .int .i64 0, .int .i64 0, .string ⟨#[]⟩, .string ⟨#[]⟩, .bool false] 122 (0, 0)) ∧ Below w.heap.size w ((w.alloc (.cells #[.int .i64 m.kind, .int .i64 m.id, .string m.topic, .int .i64 m.part, .int .i64 m.parts, .int .i64 m.seg, .int .i64 m.byt, .int .i64 m.age, .bool m.comp, .int .i64 m.delay, .int .i64 m.prod, .int .i64 m.seq, m.u1, .int .i64 m.off, .int .i64 m.max, .int .i64 m.time, .string m.group, .int .i64 m.akind, .int .i64 m.aid, .int .i64 m.acode, .int .i64 m.aoff, .int .i64 m.astart, .int .i64 m.anext, m.u2, m.u3, m.u4] 67)).alloc (.cells #[.int .i64 0, .int .i64 0, .int .i64 0, .int .i64 0, .int .i64 0, .int .i64 0, .int .i64 0, .int .i64 0, .int .i64 0, .int .i64 0, .int .i64 0, .int .i64 0, .int .i64 0, .int .i64 0, .int .i64 0, .int .i64 0, .int .i64 0, .int .i64 0, .string ⟨#[]⟩, .string ⟨#[]⟩, .bool false] 122)) := by
  refine ⟨blk_alloc (heap_alloc_new w _) _, ?_, below_alloc (below_alloc (Below.refl _ _) _) _⟩
  have := heap_alloc_new (w.alloc (.cells #[.int .i64 m.kind, .int .i64 m.id, .string m.topic, .int .i64 m.part, .int .i64 m.parts, .int .i64 m.seg, .int .i64 m.byt, .int .i64 m.age, .bool m.comp, .int .i64 m.delay, .int .i64 m.prod, .int .i64 m.seq, m.u1, .int .i64 m.off, .int .i64 m.max, .int .i64 m.time, .string m.group, .int .i64 m.akind, .int .i64 m.aid, .int .i64 m.acode, .int .i64 m.aoff, .int .i64 m.astart, .int .i64 m.anext, m.u2, m.u3, m.u4] 67)) (.cells #[.int .i64 0, .int .i64 0, .int .i64 0, .int .i64 0, .int .i64 0, .int .i64 0, .int .i64 0, .int .i64 0, .int .i64 0, .int .i64 0, .int .i64 0, .int .i64 0, .int .i64 0, .int .i64 0, .int .i64 0, .int .i64 0, .int .i64 0, .int .i64 0, .string ⟨#[]⟩, .string ⟨#[]⟩, .bool false] 122)
  simpa using this
set_option maxHeartbeats 4000000 in
set_option maxRecDepth 100000 in
theorem codec_flatten.calls (m : Msg) (hs : m.Sl) (w : World) : Calls Try.prog 54 #[.agg #[.int .i64 m.kind, .int .i64 m.id, .string m.topic, .int .i64 m.part, .int .i64 m.parts, .int .i64 m.seg, .int .i64 m.byt, .int .i64 m.age, .bool m.comp, .int .i64 m.delay, .int .i64 m.prod, .int .i64 m.seq, m.u1, .int .i64 m.off, .int .i64 m.max, .int .i64 m.time, .string m.group, .int .i64 m.akind, .int .i64 m.aid, .int .i64 m.acode, .int .i64 m.aoff, .int .i64 m.astart, .int .i64 m.anext, m.u2, m.u3, m.u4]] w fun e w' => e = .returned (.agg m.flat) ∧ Below w.heap.size w w' := by
  obtain ⟨A1, n1, c1, hs1⟩ := hs.h1
  obtain ⟨A2, n2, c2, hs2⟩ := hs.h2
  obtain ⟨A3, n3, c3, hs3⟩ := hs.h3
  obtain ⟨A4, n4, c4, hs4⟩ := hs.h4
  have HS1 := Aside0.mk hs1
  have HS2 := Aside0.mk hs2
  have HS3 := Aside0.mk hs3
  have HS4 := Aside0.mk hs4
  clear hs hs1 hs2 hs3 hs4
  go_enter Try.func54, Try.ntmps54
  go_upto_region 1 with (fail)
  (try simp only [Act.put, List.setIfInBounds_toArray, List.set_cons_zero, List.set_cons_succ])
  rename_i K_ hK_
  have S0 := Aside0.mk (flat_new w m)
  generalize ((w.alloc (.cells #[.int .i64 m.kind, .int .i64 m.id, .string m.topic, .int .i64 m.part, .int .i64 m.parts, .int .i64 m.seg, .int .i64 m.byt, .int .i64 m.age, .bool m.comp, .int .i64 m.delay, .int .i64 m.prod, .int .i64 m.seq, m.u1, .int .i64 m.off, .int .i64 m.max, .int .i64 m.time, .string m.group, .int .i64 m.akind, .int .i64 m.aid, .int .i64 m.acode, .int .i64 m.aoff, .int .i64 m.astart, .int .i64 m.anext, m.u2, m.u3, m.u4] 67)).alloc (.cells #[.int .i64 0, .int .i64 0, .int .i64 0, .int .i64 0, .int .i64 0, .int .i64 0, .int .i64 0, .int .i64 0, .int .i64 0, .int .i64 0, .int .i64 0, .int .i64 0, .int .i64 0, .int .i64 0, .int .i64 0, .int .i64 0, .int .i64 0, .int .i64 0, .string ⟨#[]⟩, .string ⟨#[]⟩, .bool false] 122)) = y0 at S0 ⊢
  refine start_ (n := 8) (S := fun w' => MsAt w' w.heap.size m ∧ w'.heap[w.heap.size + 1]? = some (.cells #[.int .i64 0, .int .i64 0, .int .i64 0, .int .i64 0, .int .i64 0, .int .i64 0, .int .i64 0, .int .i64 0, .int .i64 0, .int .i64 0, .int .i64 0, .int .i64 0, .int .i64 0, .int .i64 0, .int .i64 0, .int .i64 0, .int .i64 0, .int .i64 0, .string ⟨#[]⟩, .string ⟨#[]⟩, .bool false] 122 (0, 0)) ∧ Below w.heap.size w w') (ds := [7]) #[false, false, false, false, false, false, false, false] (by kernel_rfl) rfl rfl (And.intro S0.out.1 (And.intro S0.out.2.1 (pw_below_drewN S0.out.2.2 1))) (fun hHeld => ?_)
  refine pure_ (i := 0) (N := (some 5)) (v := ?_) (a' := ?_) #[true, false, false, false, false, false, false, false] rfl rfl (by kernel_rfl) (fun _ _ _ h => h) (Or.inl ⟨by rfl, ?_⟩) ?_ ?_
  rotate_left
  · intro w'
    go_simp
    with_reducible rfl
  rotate_left
  · simp only [Act.put, List.setIfInBounds_toArray, List.set_cons_zero, List.set_cons_succ, i64_w, i32_w]
    rfl
  refine pure_ (i := 2) (N := (some 7)) (v := ?_) (a' := ?_) #[true, false, true, false, false, false, false, false] rfl rfl (by kernel_rfl) (fun _ _ _ h => h) (Or.inl ⟨by rfl, ?_⟩) ?_ ?_
  rotate_left
  · intro w'
    go_simp
    with_reducible rfl
  rotate_left
  · simp only [Act.put, List.setIfInBounds_toArray, List.set_cons_zero, List.set_cons_succ, i64_w, i32_w]
    rfl
  refine take_ (i := 1) (N := (some 6)) (v := ?_) (a' := ?_) #[true, true, true, false, false, false, false, false] rfl rfl (by kernel_rfl) (fun _ _ _ h => h) (Or.inl ⟨by rfl, ?_⟩) hHeld ?_ ?_
  rotate_left
  · rintro w' s
    have y0 : w'.cell? ⟨w.heap.size, 0, none⟩ = some (.int .i64 m.kind) := (s.1.cell 0).trans rfl
    have y1 : w'.cell? ⟨w.heap.size, 1, none⟩ = some (.int .i64 m.id) := (s.1.cell 1).trans rfl
    have y2 : w'.cell? ⟨w.heap.size, 2, none⟩ = some (.string m.topic) := (s.1.cell 2).trans rfl
    have y3 : w'.cell? ⟨w.heap.size, 3, none⟩ = some (.int .i64 m.part) := (s.1.cell 3).trans rfl
    have y4 : w'.cell? ⟨w.heap.size, 4, none⟩ = some (.int .i64 m.parts) := (s.1.cell 4).trans rfl
    have y5 : w'.cell? ⟨w.heap.size, 5, none⟩ = some (.int .i64 m.seg) := (s.1.cell 5).trans rfl
    have y6 : w'.cell? ⟨w.heap.size, 6, none⟩ = some (.int .i64 m.byt) := (s.1.cell 6).trans rfl
    have y7 : w'.cell? ⟨w.heap.size, 7, none⟩ = some (.int .i64 m.age) := (s.1.cell 7).trans rfl
    have y8 : w'.cell? ⟨w.heap.size, 8, none⟩ = some (.bool m.comp) := (s.1.cell 8).trans rfl
    have y9 : w'.cell? ⟨w.heap.size, 9, none⟩ = some (.int .i64 m.delay) := (s.1.cell 9).trans rfl
    have y10 : w'.cell? ⟨w.heap.size, 10, none⟩ = some (.int .i64 m.prod) := (s.1.cell 10).trans rfl
    have y11 : w'.cell? ⟨w.heap.size, 11, none⟩ = some (.int .i64 m.seq) := (s.1.cell 11).trans rfl
    have y12 : w'.cell? ⟨w.heap.size, 12, none⟩ = some (m.u1) := (s.1.cell 12).trans rfl
    have y13 : w'.cell? ⟨w.heap.size, 13, none⟩ = some (.int .i64 m.off) := (s.1.cell 13).trans rfl
    have y14 : w'.cell? ⟨w.heap.size, 14, none⟩ = some (.int .i64 m.max) := (s.1.cell 14).trans rfl
    have y15 : w'.cell? ⟨w.heap.size, 15, none⟩ = some (.int .i64 m.time) := (s.1.cell 15).trans rfl
    have y16 : w'.cell? ⟨w.heap.size, 16, none⟩ = some (.string m.group) := (s.1.cell 16).trans rfl
    go_simp
    with_reducible rfl
  rotate_left
  · simp only [Act.put, List.setIfInBounds_toArray, List.set_cons_zero, List.set_cons_succ, i64_w, i32_w]
    rfl
  refine take_ (i := 3) (N := (some 8)) (v := ?_) (a' := ?_) #[true, true, true, true, false, false, false, false] rfl rfl (by kernel_rfl) (fun _ _ _ h => h) (Or.inl ⟨by rfl, ?_⟩) hHeld ?_ ?_
  rotate_left
  · rintro w' s
    have y17 : w'.cell? ⟨w.heap.size, 17, none⟩ = some (.int .i64 m.akind) := (s.1.cell 17).trans rfl
    have y18 : w'.cell? ⟨w.heap.size, 18, none⟩ = some (.int .i64 m.aid) := (s.1.cell 18).trans rfl
    have y19 : w'.cell? ⟨w.heap.size, 19, none⟩ = some (.int .i64 m.acode) := (s.1.cell 19).trans rfl
    have y20 : w'.cell? ⟨w.heap.size, 20, none⟩ = some (.int .i64 m.aoff) := (s.1.cell 20).trans rfl
    have y21 : w'.cell? ⟨w.heap.size, 21, none⟩ = some (.int .i64 m.astart) := (s.1.cell 21).trans rfl
    have y22 : w'.cell? ⟨w.heap.size, 22, none⟩ = some (.int .i64 m.anext) := (s.1.cell 22).trans rfl
    have y23 : w'.cell? ⟨w.heap.size, 23, none⟩ = some (m.u2) := (s.1.cell 23).trans rfl
    have y24 : w'.cell? ⟨w.heap.size, 24, none⟩ = some (m.u3) := (s.1.cell 24).trans rfl
    have y25 : w'.cell? ⟨w.heap.size, 25, none⟩ = some (m.u4) := (s.1.cell 25).trans rfl
    go_simp
    with_reducible rfl
  rotate_left
  · simp only [Act.put, List.setIfInBounds_toArray, List.set_cons_zero, List.set_cons_succ, i64_w, i32_w]
    rfl
  refine join_ (σ := (Nat × Nat)) 2 #[true, true, true, true, true, true, false, false] (fun s_ => [(3, .pointer (some ⟨s_.1, 0, none⟩)), (4, .pointer (some ⟨s_.2, 0, none⟩))]) (fun s_ w' => (MsAt w' w.heap.size m ∧ w'.heap[w.heap.size + 1]? = some (.cells #[.int .i64 0, .int .i64 0, .int .i64 0, .int .i64 0, .int .i64 0, .int .i64 0, .int .i64 0, .int .i64 0, .int .i64 0, .int .i64 0, .int .i64 0, .int .i64 0, .int .i64 0, .int .i64 0, .int .i64 0, .int .i64 0, .int .i64 0, .int .i64 0, .string ⟨#[]⟩, .string ⟨#[]⟩, .bool false] 122 (0, 0)) ∧ Below w.heap.size w w') ∧ Aside0 (w'.heap[s_.1]? = some (.cells #[.int .i64 0, .int .i64 0, .string ⟨#[]⟩, .int .i64 0, .int .i64 0, .int .i64 0, .int .i64 0, .int .i64 0, .bool false, .int .i64 0, .int .i64 0, .int .i64 0, .slice none 0 0, .int .i64 0, .int .i64 0, .int .i64 0, .string ⟨#[]⟩] 26 (0, 0)) ∧ w'.heap[s_.2]? = some (.cells #[.int .i64 0, .int .i64 0, .int .i64 0, .int .i64 0, .int .i64 0, .int .i64 0, .slice none 0 0, .slice none 0 0, .slice none 0 0] 46 (0, 0)) ∧ w.heap.size + 1 < s_.1 ∧ w.heap.size + 1 < s_.2 ∧ s_.1 ≠ s_.2)) ?_ ?_
  rotate_left
  · intro hCont
    refine two_ (i := 4) (j := 5) (Ni := (some 3)) (Nj := (some 4)) #[true, true, true, true, true, false, false, false] #[true, true, true, true, false, true, false, false] rfl rfl rfl rfl (by kernel_rfl) (by decide) (by decide) (fun K hK => ?_) (fun K hK => ?_)
    · refine box_step ?hg (N := 3) ?hd (cs := #[.int .i64 0, .int .i64 0, .string ⟨#[]⟩, .int .i64 0, .int .i64 0, .int .i64 0, .int .i64 0, .int .i64 0, .bool false, .int .i64 0, .int .i64 0, .int .i64 0, .slice none 0 0, .int .i64 0, .int .i64 0, .int .i64 0, .string ⟨#[]⟩]) (t := 26) ?hr ?_; (case hd => rfl); (case hg => rfl); (case hr => first | (go_simp; done) | (go_simp; rfl))
      intro ga hg y1 hbox hb
      have E1 := Aside0.mk (And.intro (blk_below hHeld.1 hb) (And.intro (blk_below hHeld.2.1 hb) (below_step hHeld.2.2 hb)))
      have X1 := Aside0.mk hbox
      have G1 := Aside0.mk (show w.heap.size + 1 < ga from by rw [hg]; exact blk_lt hHeld.2.1)
      clear hbox hb hg
      refine hK.out _ _ E1.out (fun hHeld => ?_)
      clear hK K
      refine norm_ (a' := ?_) ?_ ?_
      rotate_left
      · show Act.put _ (some 3) _ = _
        simp only [Act.put, List.setIfInBounds_toArray, List.set_cons_zero, List.set_cons_succ, i64_w, i32_w]
        rfl
      refine one_ (i := 5) (N := (some 4)) #[true, true, true, true, true, true, false, false] rfl rfl (by kernel_rfl) (by decide) (fun K hK => ?_)
      refine box_step ?hg (N := 4) ?hd (cs := #[.int .i64 0, .int .i64 0, .int .i64 0, .int .i64 0, .int .i64 0, .int .i64 0, .slice none 0 0, .slice none 0 0, .slice none 0 0]) (t := 46) ?hr ?_; (case hd => rfl); (case hg => rfl); (case hr => first | (go_simp; done) | (go_simp; rfl))
      intro gb hg y2 hbox hb
      have E2 := Aside0.mk (And.intro (blk_below hHeld.1 hb) (And.intro (blk_below hHeld.2.1 hb) (below_step hHeld.2.2 hb)))
      have X2 := Aside0.mk hbox
      have X3 := Aside0.mk (blk_below X1.out hb)
      have G2 := Aside0.mk (show w.heap.size + 1 < gb ∧ ga ≠ gb from by rw [hg]; exact ⟨blk_lt hHeld.2.1, Nat.ne_of_lt (blk_lt X1.out)⟩)
      clear hbox hb hg
      refine hK.out _ _ E2.out (fun hHeld => ?_)
      clear hK K
      refine norm_ (a' := ?_) ?_ ?_
      rotate_left
      · show Act.put _ (some 4) _ = _
        simp only [Act.put, List.setIfInBounds_toArray, List.set_cons_zero, List.set_cons_succ, i64_w, i32_w]
        rfl
      exact norm_ (by simp only [putAll, Act.put, List.setIfInBounds_toArray, List.set_cons_zero, List.set_cons_succ]) (hCont (ga, gb) _ ⟨hHeld, ⟨X3.out, X2.out, G1.out, G2.out.1, G2.out.2⟩⟩)
    · refine box_step ?hg (N := 4) ?hd (cs := #[.int .i64 0, .int .i64 0, .int .i64 0, .int .i64 0, .int .i64 0, .int .i64 0, .slice none 0 0, .slice none 0 0, .slice none 0 0]) (t := 46) ?hr ?_; (case hd => rfl); (case hg => rfl); (case hr => first | (go_simp; done) | (go_simp; rfl))
      intro ga hg y1 hbox hb
      have E1 := Aside0.mk (And.intro (blk_below hHeld.1 hb) (And.intro (blk_below hHeld.2.1 hb) (below_step hHeld.2.2 hb)))
      have X1 := Aside0.mk hbox
      have G1 := Aside0.mk (show w.heap.size + 1 < ga from by rw [hg]; exact blk_lt hHeld.2.1)
      clear hbox hb hg
      refine hK.out _ _ E1.out (fun hHeld => ?_)
      clear hK K
      refine norm_ (a' := ?_) ?_ ?_
      rotate_left
      · show Act.put _ (some 4) _ = _
        simp only [Act.put, List.setIfInBounds_toArray, List.set_cons_zero, List.set_cons_succ, i64_w, i32_w]
        rfl
      refine one_ (i := 4) (N := (some 3)) #[true, true, true, true, true, true, false, false] rfl rfl (by kernel_rfl) (by decide) (fun K hK => ?_)
      refine box_step ?hg (N := 3) ?hd (cs := #[.int .i64 0, .int .i64 0, .string ⟨#[]⟩, .int .i64 0, .int .i64 0, .int .i64 0, .int .i64 0, .int .i64 0, .bool false, .int .i64 0, .int .i64 0, .int .i64 0, .slice none 0 0, .int .i64 0, .int .i64 0, .int .i64 0, .string ⟨#[]⟩]) (t := 26) ?hr ?_; (case hd => rfl); (case hg => rfl); (case hr => first | (go_simp; done) | (go_simp; rfl))
      intro gb hg y2 hbox hb
      have E2 := Aside0.mk (And.intro (blk_below hHeld.1 hb) (And.intro (blk_below hHeld.2.1 hb) (below_step hHeld.2.2 hb)))
      have X2 := Aside0.mk hbox
      have X3 := Aside0.mk (blk_below X1.out hb)
      have G2 := Aside0.mk (show w.heap.size + 1 < gb ∧ ga ≠ gb from by rw [hg]; exact ⟨blk_lt hHeld.2.1, Nat.ne_of_lt (blk_lt X1.out)⟩)
      clear hbox hb hg
      refine hK.out _ _ E2.out (fun hHeld => ?_)
      clear hK K
      refine norm_ (a' := ?_) ?_ ?_
      rotate_left
      · show Act.put _ (some 3) _ = _
        simp only [Act.put, List.setIfInBounds_toArray, List.set_cons_zero, List.set_cons_succ, i64_w, i32_w]
        rfl
      exact norm_ (by simp only [putAll, Act.put, List.setIfInBounds_toArray, List.set_cons_zero, List.set_cons_succ]) (hCont (gb, ga) _ ⟨hHeld, ⟨X2.out, X3.out, G2.out.1, G1.out, Ne.symm G2.out.2⟩⟩)
  rintro ⟨g3, g4⟩ y3 ⟨hHeld, X⟩
  refine norm_ (a' := ?_) ?_ ?_
  rotate_left
  · simp only [putAll, Act.put, List.setIfInBounds_toArray, List.set_cons_zero, List.set_cons_succ]
    rfl
  refine one_ (i := 6) (N := none) #[true, true, true, true, true, true, true, false] rfl rfl (by kernel_rfl) (by decide) (fun K hK => ?_)
  refine store_step (by rfl) rfl 26 (.tmp 3) (.tmp 6) rfl g3 #[.int .i64 m.kind, .int .i64 m.id, .string m.topic, .int .i64 m.part, .int .i64 m.parts, .int .i64 m.seg, .int .i64 m.byt, .int .i64 m.age, .bool m.comp, .int .i64 m.delay, .int .i64 m.prod, .int .i64 m.seq, m.u1, .int .i64 m.off, .int .i64 m.max, .int .i64 m.time, .string m.group] rfl rfl 26 #[.int .i64 0, .int .i64 0, .string ⟨#[]⟩, .int .i64 0, .int .i64 0, .int .i64 0, .int .i64 0, .int .i64 0, .bool false, .int .i64 0, .int .i64 0, .int .i64 0, .slice none 0 0, .int .i64 0, .int .i64 0, .int .i64 0, .string ⟨#[]⟩] X.out.1 info17 rfl (allq m HS1.out) ?_
  refine hK.out _ _ ⟨(setRow_other _ _ _ _ (by have := X.out; omega)).trans hHeld.1, (setRow_other _ _ _ _ (by have := X.out; omega)).trans hHeld.2.1, below_row hHeld.2.2 (by have := X.out; omega) _⟩ (fun hHeld => ?_)
  clear hK K
  have X4 := Aside0.mk (And.intro (setRow_heap y3 g3 _ #[.int .i64 m.kind, .int .i64 m.id, .string m.topic, .int .i64 m.part, .int .i64 m.parts, .int .i64 m.seg, .int .i64 m.byt, .int .i64 m.age, .bool m.comp, .int .i64 m.delay, .int .i64 m.prod, .int .i64 m.seq, m.u1, .int .i64 m.off, .int .i64 m.max, .int .i64 m.time, .string m.group] _ _ X.out.1) ((setRow_other y3 g3 g4 #[.int .i64 m.kind, .int .i64 m.id, .string m.topic, .int .i64 m.part, .int .i64 m.parts, .int .i64 m.seg, .int .i64 m.byt, .int .i64 m.age, .bool m.comp, .int .i64 m.delay, .int .i64 m.prod, .int .i64 m.seq, m.u1, .int .i64 m.off, .int .i64 m.max, .int .i64 m.time, .string m.group] (Ne.symm X.out.2.2.2.2)).trans X.out.2.1))
  have H4 := Aside0.mk hHeld
  clear hHeld
  generalize y3.setRow g3 #[.int .i64 m.kind, .int .i64 m.id, .string m.topic, .int .i64 m.part, .int .i64 m.parts, .int .i64 m.seg, .int .i64 m.byt, .int .i64 m.age, .bool m.comp, .int .i64 m.delay, .int .i64 m.prod, .int .i64 m.seq, m.u1, .int .i64 m.off, .int .i64 m.max, .int .i64 m.time, .string m.group] = y4 at X4 H4 ⊢
  refine last_ (i := 7) (N := none) #[true, true, true, true, true, true, true, true] rfl rfl (by kernel_rfl) (by decide) (fun K hK => ?_)
  refine store_step (by rfl) rfl 46 (.tmp 4) (.tmp 8) rfl g4 #[.int .i64 m.akind, .int .i64 m.aid, .int .i64 m.acode, .int .i64 m.aoff, .int .i64 m.astart, .int .i64 m.anext, m.u2, m.u3, m.u4] rfl rfl 46 #[.int .i64 0, .int .i64 0, .int .i64 0, .int .i64 0, .int .i64 0, .int .i64 0, .slice none 0 0, .slice none 0 0, .slice none 0 0] X4.out.2 info9 rfl (alls m HS2.out HS3.out HS4.out) ?_
  refine hK.out _ _ ?_
  clear hK K
  refine done_ (by kernel_rfl) ?_
  clear hHeld
  show K_ _ _
  refine hK_ _ _ ?_
  have Y := Aside0.mk (show (y4.setRow g4 #[.int .i64 m.akind, .int .i64 m.aid, .int .i64 m.acode, .int .i64 m.aoff, .int .i64 m.astart, .int .i64 m.anext, m.u2, m.u3, m.u4]).heap[g3]? = some (.cells #[.int .i64 m.kind, .int .i64 m.id, .string m.topic, .int .i64 m.part, .int .i64 m.parts, .int .i64 m.seg, .int .i64 m.byt, .int .i64 m.age, .bool m.comp, .int .i64 m.delay, .int .i64 m.prod, .int .i64 m.seq, m.u1, .int .i64 m.off, .int .i64 m.max, .int .i64 m.time, .string m.group] 26 (0, 0)) ∧ (y4.setRow g4 #[.int .i64 m.akind, .int .i64 m.aid, .int .i64 m.acode, .int .i64 m.aoff, .int .i64 m.astart, .int .i64 m.anext, m.u2, m.u3, m.u4]).heap[g4]? = some (.cells #[.int .i64 m.akind, .int .i64 m.aid, .int .i64 m.acode, .int .i64 m.aoff, .int .i64 m.astart, .int .i64 m.anext, m.u2, m.u3, m.u4] 46 (0, 0)) ∧ (y4.setRow g4 #[.int .i64 m.akind, .int .i64 m.aid, .int .i64 m.acode, .int .i64 m.aoff, .int .i64 m.astart, .int .i64 m.anext, m.u2, m.u3, m.u4]).heap[w.heap.size + 1]? = some (.cells #[.int .i64 0, .int .i64 0, .int .i64 0, .int .i64 0, .int .i64 0, .int .i64 0, .int .i64 0, .int .i64 0, .int .i64 0, .int .i64 0, .int .i64 0, .int .i64 0, .int .i64 0, .int .i64 0, .int .i64 0, .int .i64 0, .int .i64 0, .int .i64 0, .string ⟨#[]⟩, .string ⟨#[]⟩, .bool false] 122 (0, 0)) ∧ Below w.heap.size w (y4.setRow g4 #[.int .i64 m.akind, .int .i64 m.aid, .int .i64 m.acode, .int .i64 m.aoff, .int .i64 m.astart, .int .i64 m.anext, m.u2, m.u3, m.u4]) from ⟨(setRow_other _ _ _ _ X.out.2.2.2.2).trans X4.out.1, setRow_heap _ _ _ _ _ _ X4.out.2, (setRow_other _ _ _ _ (by have := X.out; omega)).trans H4.out.2.1, below_row H4.out.2.2 (by have := X.out; omega) _⟩)
  generalize y4.setRow g4 #[.int .i64 m.akind, .int .i64 m.aid, .int .i64 m.acode, .int .i64 m.aoff, .int .i64 m.astart, .int .i64 m.anext, m.u2, m.u3, m.u4] = y5 at Y ⊢
  clear X X4 H4 S0
  have n0 : y5.cell? ⟨g3, 0, none⟩ = some (.int .i64 m.kind) := (blk_cell Y.out.1 0).trans rfl
  have n1 : y5.cell? ⟨g3, 1, none⟩ = some (.int .i64 m.id) := (blk_cell Y.out.1 1).trans rfl
  have n2 : y5.cell? ⟨g3, 2, none⟩ = some (.string m.topic) := (blk_cell Y.out.1 2).trans rfl
  have n3 : y5.cell? ⟨g3, 3, none⟩ = some (.int .i64 m.part) := (blk_cell Y.out.1 3).trans rfl
  have n4 : y5.cell? ⟨g3, 4, none⟩ = some (.int .i64 m.parts) := (blk_cell Y.out.1 4).trans rfl
  have n5 : y5.cell? ⟨g3, 5, none⟩ = some (.int .i64 m.seg) := (blk_cell Y.out.1 5).trans rfl
  have n6 : y5.cell? ⟨g3, 6, none⟩ = some (.int .i64 m.byt) := (blk_cell Y.out.1 6).trans rfl
  have n7 : y5.cell? ⟨g3, 7, none⟩ = some (.int .i64 m.age) := (blk_cell Y.out.1 7).trans rfl
  have n8 : y5.cell? ⟨g3, 8, none⟩ = some (.bool m.comp) := (blk_cell Y.out.1 8).trans rfl
  have n9 : y5.cell? ⟨g3, 9, none⟩ = some (.int .i64 m.delay) := (blk_cell Y.out.1 9).trans rfl
  have n10 : y5.cell? ⟨g3, 10, none⟩ = some (.int .i64 m.prod) := (blk_cell Y.out.1 10).trans rfl
  have n11 : y5.cell? ⟨g3, 11, none⟩ = some (.int .i64 m.seq) := (blk_cell Y.out.1 11).trans rfl
  have n12 : y5.cell? ⟨g3, 12, none⟩ = some (m.u1) := (blk_cell Y.out.1 12).trans rfl
  have n13 : y5.cell? ⟨g3, 13, none⟩ = some (.int .i64 m.off) := (blk_cell Y.out.1 13).trans rfl
  have n14 : y5.cell? ⟨g3, 14, none⟩ = some (.int .i64 m.max) := (blk_cell Y.out.1 14).trans rfl
  have n15 : y5.cell? ⟨g3, 15, none⟩ = some (.int .i64 m.time) := (blk_cell Y.out.1 15).trans rfl
  have n16 : y5.cell? ⟨g3, 16, none⟩ = some (.string m.group) := (blk_cell Y.out.1 16).trans rfl
  have p0 : y5.cell? ⟨g4, 0, none⟩ = some (.int .i64 m.akind) := (blk_cell Y.out.2.1 0).trans rfl
  have p1 : y5.cell? ⟨g4, 1, none⟩ = some (.int .i64 m.aid) := (blk_cell Y.out.2.1 1).trans rfl
  have p2 : y5.cell? ⟨g4, 2, none⟩ = some (.int .i64 m.acode) := (blk_cell Y.out.2.1 2).trans rfl
  have p3 : y5.cell? ⟨g4, 3, none⟩ = some (.int .i64 m.aoff) := (blk_cell Y.out.2.1 3).trans rfl
  have p4 : y5.cell? ⟨g4, 4, none⟩ = some (.int .i64 m.astart) := (blk_cell Y.out.2.1 4).trans rfl
  have p5 : y5.cell? ⟨g4, 5, none⟩ = some (.int .i64 m.anext) := (blk_cell Y.out.2.1 5).trans rfl
  have p6 : y5.cell? ⟨g4, 6, none⟩ = some (m.u2) := (blk_cell Y.out.2.1 6).trans rfl
  have p7 : y5.cell? ⟨g4, 7, none⟩ = some (m.u3) := (blk_cell Y.out.2.1 7).trans rfl
  have p8 : y5.cell? ⟨g4, 8, none⟩ = some (m.u4) := (blk_cell Y.out.2.1 8).trans rfl
  go_wp2_with (refine wpList_store_row rfl 122 (.tmp 2) (.tmp 58) rfl (w.heap.size + 1) #[.int .i64 m.kind, .int .i64 m.id, .int .i64 m.part, .int .i64 m.parts, .int .i64 m.seg, .int .i64 m.byt, .int .i64 m.age, .int .i64 m.delay, .int .i64 m.prod, .int .i64 m.seq, .int .i64 m.off, .int .i64 m.max, .int .i64 m.time, .int .i64 m.akind, .int .i64 m.aid, .int .i64 m.aoff, .int .i64 m.astart, .int .i64 m.anext, .string m.topic, .string m.group, .bool m.comp] rfl rfl 122 #[.int .i64 0, .int .i64 0, .int .i64 0, .int .i64 0, .int .i64 0, .int .i64 0, .int .i64 0, .int .i64 0, .int .i64 0, .int .i64 0, .int .i64 0, .int .i64 0, .int .i64 0, .int .i64 0, .int .i64 0, .int .i64 0, .int .i64 0, .int .i64 0, .string ⟨#[]⟩, .string ⟨#[]⟩, .bool false] Y.out.2.2.1 info21 rfl (allf m) ?_)
  refine bodyPost_ret (results_c1 rfl _ _ (w.heap.size + 1) 122 #[.int .i64 m.kind, .int .i64 m.id, .int .i64 m.part, .int .i64 m.parts, .int .i64 m.seg, .int .i64 m.byt, .int .i64 m.age, .int .i64 m.delay, .int .i64 m.prod, .int .i64 m.seq, .int .i64 m.off, .int .i64 m.max, .int .i64 m.time, .int .i64 m.akind, .int .i64 m.aid, .int .i64 m.aoff, .int .i64 m.astart, .int .i64 m.anext, .string m.topic, .string m.group, .bool m.comp] (0, 0) _ rfl (setRow_heap _ _ _ _ _ _ Y.out.2.2.1) Try.underlying122 rfl (by kernel_rfl)) rfl ?_
  exact ⟨rfl, below_row Y.out.2.2.2 (by omega) _⟩

end Go.Proofs.Ytncfofnikmfjbaa.PCi

namespace Go.Proofs.Ytncfofnikmfjbaa.PCi
open Go.RowKit Go.Proofs.YtncfofnikmfjbaaW.PrintWords Go.Proofs.YtncfofnikmfjbaaW.PrintLast Go.Proofs.YtncfofnikmfjbaaW.PrintMore
attribute [local go_sem] max2_int min2_int max_two min_two max_three min_three max_four min_four
set_option linter.unusedVariables false
set_option linter.unusedSimpArgs false

/-! ### codec.same -/
def Msg.ints (m : Msg) : List Int := [m.kind, m.id, m.part, m.parts, m.seg, m.byt, m.age, m.delay, m.prod, m.seq, m.off, m.max, m.time, m.akind, m.aid, m.aoff, m.astart, m.anext]
def Msg.lits (m : Msg) : List Lit := [.int .i64 m.kind, .int .i64 m.id, .int .i64 m.part, .int .i64 m.parts, .int .i64 m.seg, .int .i64 m.byt, .int .i64 m.age, .int .i64 m.delay, .int .i64 m.prod, .int .i64 m.seq, .int .i64 m.off, .int .i64 m.max, .int .i64 m.time, .int .i64 m.akind, .int .i64 m.aid, .int .i64 m.aoff, .int .i64 m.astart, .int .i64 m.anext, .string m.topic.data.toList, .string m.group.data.toList, .bool m.comp]
structure Msg.Wf (m : Msg) : Prop where
  ints : ∀ x ∈ m.ints, (Lit.int .i64 x).wf = true
  topic : m.topic.size ≤ maxLen
  group : m.group.size ≤ maxLen
theorem fl_cells : Try.prog.cellsOf 122 = 21 := by kernel_rfl
theorem fl_cells1 : Try.prog.cellsOf 120 = 18 := by kernel_rfl
theorem fl_cells2 : Try.prog.cellsOf 71 = 2 := by kernel_rfl
theorem fl_cells3 : Try.prog.cellsOf 9 = 1 := by kernel_rfl
theorem fl_cells4 : Try.prog.cellsOf 4 = 1 := by kernel_rfl
theorem fl_cells5 : Try.prog.cellsOf 3 = 1 := by kernel_rfl
theorem fl_key : Try.prog.keyTypeAt 4 122 = true := by kernel_rfl
set_option maxRecDepth 100000 in
theorem flat_lits (d : Nat) (m : Msg) (hm : m.Wf) : Try.prog.keyLits (d + 3) 122 m.flat.toList = some m.lits := by
  have hi : ∀ (e : Nat) (x : Int), x ∈ m.ints → Try.prog.keyLits (e + 1) 3 [.int .i64 x] = some [.int .i64 x] := fun e x hx => by
    unfold Program.keyLits
    simp only [Try.underlying3, hm.ints x hx, and_self, if_true]
  have hs : ∀ (e : Nat) (x : ByteArray), x.size ≤ maxLen → Try.prog.keyLits (e + 1) 9 [.string x] = some [.string x.data.toList] := fun e x hx => by
    unfold Program.keyLits
    simp only [Try.underlying9, hx, if_true]
  have hb : ∀ (e : Nat) (x : Bool), Try.prog.keyLits (e + 1) 4 [.bool x] = some [.bool x] := fun e x => by
    unfold Program.keyLits
    simp only [Try.underlying4]
  have h1 : Try.prog.keyLits (d + 2) 120 [.int .i64 m.kind, .int .i64 m.id, .int .i64 m.part, .int .i64 m.parts, .int .i64 m.seg, .int .i64 m.byt, .int .i64 m.age, .int .i64 m.delay, .int .i64 m.prod, .int .i64 m.seq, .int .i64 m.off, .int .i64 m.max, .int .i64 m.time, .int .i64 m.akind, .int .i64 m.aid, .int .i64 m.aoff, .int .i64 m.astart, .int .i64 m.anext] = some [.int .i64 m.kind, .int .i64 m.id, .int .i64 m.part, .int .i64 m.parts, .int .i64 m.seg, .int .i64 m.byt, .int .i64 m.age, .int .i64 m.delay, .int .i64 m.prod, .int .i64 m.seq, .int .i64 m.off, .int .i64 m.max, .int .i64 m.time, .int .i64 m.akind, .int .i64 m.aid, .int .i64 m.aoff, .int .i64 m.astart, .int .i64 m.anext] := by
    unfold Program.keyLits
    simp only [Try.underlying120, fl_cells1, fl_cells5]
    simp [List.range, List.range.loop, hi d m.kind (by simp [Msg.ints]), hi d m.id (by simp [Msg.ints]), hi d m.part (by simp [Msg.ints]), hi d m.parts (by simp [Msg.ints]), hi d m.seg (by simp [Msg.ints]), hi d m.byt (by simp [Msg.ints]), hi d m.age (by simp [Msg.ints]), hi d m.delay (by simp [Msg.ints]), hi d m.prod (by simp [Msg.ints]), hi d m.seq (by simp [Msg.ints]), hi d m.off (by simp [Msg.ints]), hi d m.max (by simp [Msg.ints]), hi d m.time (by simp [Msg.ints]), hi d m.akind (by simp [Msg.ints]), hi d m.aid (by simp [Msg.ints]), hi d m.aoff (by simp [Msg.ints]), hi d m.astart (by simp [Msg.ints]), hi d m.anext (by simp [Msg.ints])]
  have h2 : Try.prog.keyLits (d + 2) 71 [.string m.topic, .string m.group] = some [.string m.topic.data.toList, .string m.group.data.toList] := by
    unfold Program.keyLits
    simp only [Try.underlying71, fl_cells2, fl_cells3]
    simp [List.range, List.range.loop, hs d m.topic hm.topic, hs d m.group hm.group]
  unfold Program.keyLits
  simp only [Try.underlying122, fl_cells]
  simp [Msg.flat, fl_cells1, fl_cells2, fl_cells4, h1, h2, hb (d + 1) m.comp, Msg.lits]
theorem flat_eq (m n : Msg) (hm : m.Wf) (hn : n.Wf) : ∃ r : Bool, (∀ w : World, (Op.equal 122 (.agg m.flat) (.agg n.flat)).run Try.prog w = .ok r w) ∧ (r = true ↔ m.lits = n.lits) := by
  have hf : ∀ m : Msg, (Value.agg m.flat).formed Try.prog 122 = true := fun m => by simp [Value.formed, Try.underlying122, fl_cells, Msg.flat]
  have key := fun w => run_equalIn_deep (P := Try.prog) 9996 4 122 fl_key w 3 3 (.agg m.flat) (.agg n.flat) m.lits n.lits (hf m) (hf n) (flat_lits 0 m hm) (flat_lits 0 n hn)
  haveI := Classical.propDecidable (m.lits = n.lits)
  refine ⟨decide (m.lits = n.lits), fun w => ?_, by simp⟩
  obtain ⟨r, h1, h2⟩ := key w
  have : r = decide (m.lits = n.lits) := by cases r <;> simp_all
  rw [← this]
  exact h1
theorem same_new (w : World) (m n : Msg) : MsAt ((w.alloc (.cells #[.int .i64 m.kind, .int .i64 m.id, .string m.topic, .int .i64 m.part, .int .i64 m.parts, .int .i64 m.seg, .int .i64 m.byt, .int .i64 m.age, .bool m.comp, .int .i64 m.delay, .int .i64 m.prod, .int .i64 m.seq, m.u1, .int .i64 m.off, .int .i64 m.max, .int .i64 m.time, .string m.group, .int .i64 m.akind, .int .i64 m.aid, .int .i64 m.acode, .int .i64 m.aoff, .int .i64 m.astart, .int .i64 m.anext, m.u2, m.u3, m.u4] 67)).alloc (.cells #[.int .i64 n.kind, .int .i64 n.id, .string n.topic, .int .i64 n.part, .int .i64 n.parts, .int .i64 n.seg, .int .i64 n.byt, .int .i64 n.age, .bool n.comp, .int .i64 n.delay, .int .i64 n.prod, .int .i64 n.seq, n.u1, .int .i64 n.off, .int .i64 n.max, .int .i64 n.time, .string n.group, .int .i64 n.akind, .int .i64 n.aid, .int .i64 n.acode, .int .i64 n.aoff, .int .i64 n.astart, .int .i64 n.anext, n.u2, n.u3, n.u4] 67)) w.heap.size m ∧ MsAt ((w.alloc (.cells #[.int .i64 m.kind, .int .i64 m.id, .string m.topic, .int .i64 m.part, .int .i64 m.parts, .int .i64 m.seg, .int .i64 m.byt, .int .i64 m.age, .bool m.comp, .int .i64 m.delay, .int .i64 m.prod, .int .i64 m.seq, m.u1, .int .i64 m.off, .int .i64 m.max, .int .i64 m.time, .string m.group, .int .i64 m.akind, .int .i64 m.aid, .int .i64 m.acode, .int .i64 m.aoff, .int .i64 m.astart, .int .i64 m.anext, m.u2, m.u3, m.u4] 67)).alloc (.cells #[.int .i64 n.kind, .int .i64 n.id, .string n.topic, .int .i64 n.part, .int .i64 n.parts, .int .i64 n.seg, .int .i64 n.byt, .int .i64 n.age, .bool n.comp, .int .i64 n.delay, .int .i64 n.prod, .int .i64 n.seq, n.u1, .int .i64 n.off, .int .i64 n.max, .int .i64 n.time, .string n.group, .int .i64 n.akind, .int .i64 n.aid, .int .i64 n.acode, .int .i64 n.aoff, .int .i64 n.astart, .int .i64 n.anext, n.u2, n.u3, n.u4] 67)) (w.heap.size + 1) n ∧ Below w.heap.size w ((w.alloc (.cells #[.int .i64 m.kind, .int .i64 m.id, .string m.topic, .int .i64 m.part, .int .i64 m.parts, .int .i64 m.seg, .int .i64 m.byt, .int .i64 m.age, .bool m.comp, .int .i64 m.delay, .int .i64 m.prod, .int .i64 m.seq, m.u1, .int .i64 m.off, .int .i64 m.max, .int .i64 m.time, .string m.group, .int .i64 m.akind, .int .i64 m.aid, .int .i64 m.acode, .int .i64 m.aoff, .int .i64 m.astart, .int .i64 m.anext, m.u2, m.u3, m.u4] 67)).alloc (.cells #[.int .i64 n.kind, .int .i64 n.id, .string n.topic, .int .i64 n.part, .int .i64 n.parts, .int .i64 n.seg, .int .i64 n.byt, .int .i64 n.age, .bool n.comp, .int .i64 n.delay, .int .i64 n.prod, .int .i64 n.seq, n.u1, .int .i64 n.off, .int .i64 n.max, .int .i64 n.time, .string n.group, .int .i64 n.akind, .int .i64 n.aid, .int .i64 n.acode, .int .i64 n.aoff, .int .i64 n.astart, .int .i64 n.anext, n.u2, n.u3, n.u4] 67)) := by
  refine ⟨blk_alloc (heap_alloc_new w _) _, ?_, below_alloc (below_alloc (Below.refl _ _) _) _⟩
  have := heap_alloc_new (w.alloc (.cells #[.int .i64 m.kind, .int .i64 m.id, .string m.topic, .int .i64 m.part, .int .i64 m.parts, .int .i64 m.seg, .int .i64 m.byt, .int .i64 m.age, .bool m.comp, .int .i64 m.delay, .int .i64 m.prod, .int .i64 m.seq, m.u1, .int .i64 m.off, .int .i64 m.max, .int .i64 m.time, .string m.group, .int .i64 m.akind, .int .i64 m.aid, .int .i64 m.acode, .int .i64 m.aoff, .int .i64 m.astart, .int .i64 m.anext, m.u2, m.u3, m.u4] 67)) (.cells #[.int .i64 n.kind, .int .i64 n.id, .string n.topic, .int .i64 n.part, .int .i64 n.parts, .int .i64 n.seg, .int .i64 n.byt, .int .i64 n.age, .bool n.comp, .int .i64 n.delay, .int .i64 n.prod, .int .i64 n.seq, n.u1, .int .i64 n.off, .int .i64 n.max, .int .i64 n.time, .string n.group, .int .i64 n.akind, .int .i64 n.aid, .int .i64 n.acode, .int .i64 n.aoff, .int .i64 n.astart, .int .i64 n.anext, n.u2, n.u3, n.u4] 67)
  unfold MsAt Msg.cells
  simpa using this
theorem load_eq {P : Program} {w : World} {a : Act} {oi : Oper} (ty : TypeId) (x : Operand) {g : Nat} {t : TypeId} {cs : Array Value} {fr : Nat × Nat} (d : TypeDesc) (ho : oi.op = .load ty x) (hx : a.eval x = .pointer (some ⟨g, 0, none⟩)) (hg : w.heap[g]? = some (.cells cs t fr)) (hu : P.underlying ty = some d) (hd : (match d with | .struct _ | .array _ _ => true | _ => false) = true) (hi : (P.info? ty).map (·.size) = some cs.size) : (execOp a.eval oi).run P w = .ok (.value (.agg cs)) w := by
  unfold execOp
  simp [ho, hx, Instr.loadAt, Instr.sureAddr, run_loadVar_row w g t ty cs fr d hg hu hd hi, Result.andThen]
theorem bin_eq {P : Program} {w : World} {a : Act} {oi : Oper} (t t2 : TypeId) (x y : Operand) {xs ys : Array Value} {r : Bool} (ho : oi.op = .binOp .eql t x y t2) (hx : a.eval x = .agg xs) (hy : a.eval y = .agg ys) (hgd : P.eqGuardType P.depth t = false) (h : (Op.equal t (.agg xs) (.agg ys)).run P w = .ok r w) : (execOp a.eval oi).run P w = .ok (.value (.bool r)) w := by
  unfold execOp
  simp [ho, hx, hy, eqGuard, binOp, h, hgd, Result.andThen]

end Go.Proofs.Ytncfofnikmfjbaa.PCi
