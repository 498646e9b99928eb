import Derived.Test.YtncfofnikmfjbaaQCfPFld
import Derived.Test.YtncfofnikmfjbaaQCfRq
import Derived.Test.YtncfofnikmfjbaaQCf12
import Derived.Outline
import Derived.StillTailTactics
import Derived.RegionTactic
import Derived.BigRegion
import Derived.Lib.BufferWrite
import Derived.Test.YtncfofnikmfjbaaQPCix0
namespace Go.Proofs.Ytncfofnikmfjbaa.PCi
open Go.RowKit Go.Proofs.YtncfofnikmfjbaaW.PrintWords Go.Proofs.YtncfofnikmfjbaaW.PrintLast Go.Proofs.YtncfofnikmfjbaaW.PrintMore
attribute [local go_sem] max2_int min2_int max_two min_two max_three min_three max_four min_four
set_option linter.unusedVariables false
set_option linter.unusedSimpArgs false

/-! ### bollardref20.bag, unbag -/
def Bg.put (b : Bg) (s : Nat) (v : Int) : Bg := { b with n := fun j => if j = s then v else b.n j }
def bag0 (m : Msg) (v : Value) : Bg := ⟨m.kind, m.id, ⟨#[]⟩, ⟨#[]⟩, fun _ => 0, m.comp, v, .slice none 0 0, .slice none 0 0, .slice none 0 0⟩
def bagOf (m : Msg) (v : Value) : Bg := ((((((((((({ bag0 m v with t0 := m.topic, t1 := m.group }.put 2 m.part).put 3 m.parts).put 4 m.seg).put 5 m.byt).put 6 m.age).put 8 m.delay).put 9 m.prod).put 10 m.seq).put 12 m.off).put 13 m.max).put 14 m.time)
structure BagSt (w y : World) (h r b : Nat) (m : Msg) (A : Option Addr) (n c : Nat) (g : Bg) : Prop where
  rq : y.heap[h]? = some (.cells #[.int .i64 m.kind, .int .i64 m.id, .string m.topic, .int .i64 m.part, .int .i64 m.parts, .int .i64 m.seg, .int .i64 m.byt, .int .i64 m.age, .bool m.comp, .int .i64 m.delay, .int .i64 m.prod, .int .i64 m.seq, .slice A n c, .int .i64 m.off, .int .i64 m.max, .int .i64 m.time, .string m.group] 26 (0, 0))
  rs : y.heap[r]? = some (.cells #[.int .i64 0, .int .i64 0, .string ⟨#[]⟩, .string ⟨#[]⟩, .int .i64 0, .int .i64 0, .int .i64 0, .int .i64 0, .int .i64 0, .int .i64 0, .int .i64 0, .int .i64 0, .int .i64 0, .int .i64 0, .int .i64 0, .int .i64 0, .int .i64 0, .int .i64 0, .int .i64 0, .int .i64 0, .int .i64 0, .int .i64 0, .int .i64 0, .int .i64 0, .bool false, .slice none 0 0, .slice none 0 0, .slice none 0 0, .slice none 0 0] 74 (0, 0))
  bg : y.heap[b]? = some (.cells g.cells 74 (0, 0))
  below : Below w.heap.size w y
  lo : w.heap.size ≤ h
  hr : h < r
  rb : r < b
theorem BagSt.step {w y : World} {h r b : Nat} {m : Msg} {A : Option Addr} {n c : Nat} {g g2 : Bg} (s : BagSt w y h r b m A n c g) (j : Nat) (u : Value) (e : g.cells.setIfInBounds j u = g2.cells) : BagSt w (y.setCell ⟨b, j, none⟩ u) h r b m A n c g2 :=
  ⟨(Below.heap_setCell _ ⟨b, j, none⟩ _ h (by have := s.hr; have := s.rb; show h ≠ b; omega)).trans s.rq, (Below.heap_setCell _ ⟨b, j, none⟩ _ r (by have := s.rb; show r ≠ b; omega)).trans s.rs, e ▸ blk_set s.bg j u, s.below.setCell (p := ⟨b, j, none⟩) (by have := s.lo; have := s.hr; have := s.rb; dsimp only; omega) u, s.lo, s.hr, s.rb⟩
theorem bag_new (w : World) (m : Msg) (A : Option Addr) (n c : Nat) : ((w.alloc (.cells #[.int .i64 m.kind, .int .i64 m.id, .string m.topic, .int .i64 m.part, .int .i64 m.parts, .int .i64 m.seg, .int .i64 m.byt, .int .i64 m.age, .bool m.comp, .int .i64 m.delay, .int .i64 m.prod, .int .i64 m.seq, .slice A n c, .int .i64 m.off, .int .i64 m.max, .int .i64 m.time, .string m.group] 26)).alloc (.cells #[.int .i64 0, .int .i64 0, .string ⟨#[]⟩, .string ⟨#[]⟩, .int .i64 0, .int .i64 0, .int .i64 0, .int .i64 0, .int .i64 0, .int .i64 0, .int .i64 0, .int .i64 0, .int .i64 0, .int .i64 0, .int .i64 0, .int .i64 0, .int .i64 0, .int .i64 0, .int .i64 0, .int .i64 0, .int .i64 0, .int .i64 0, .int .i64 0, .int .i64 0, .bool false, .slice none 0 0, .slice none 0 0, .slice none 0 0, .slice none 0 0] 74)).heap[w.heap.size]? = some (.cells #[.int .i64 m.kind, .int .i64 m.id, .string m.topic, .int .i64 m.part, .int .i64 m.parts, .int .i64 m.seg, .int .i64 m.byt, .int .i64 m.age, .bool m.comp, .int .i64 m.delay, .int .i64 m.prod, .int .i64 m.seq, .slice A n c, .int .i64 m.off, .int .i64 m.max, .int .i64 m.time, .string m.group] 26 (0, 0)) ∧ ((w.alloc (.cells #[.int .i64 m.kind, .int .i64 m.id, .string m.topic, .int .i64 m.part, .int .i64 m.parts, .int .i64 m.seg, .int .i64 m.byt, .int .i64 m.age, .bool m.comp, .int .i64 m.delay, .int .i64 m.prod, .int .i64 m.seq, .slice A n c, .int .i64 m.off, .int .i64 m.max, .int .i64 m.time, .string m.group] 26)).alloc (.cells #[.int .i64 0, .int .i64 0, .string ⟨#[]⟩, .string ⟨#[]⟩, .int .i64 0, .int .i64 0, .int .i64 0, .int .i64 0, .int .i64 0, .int .i64 0, .int .i64 0, .int .i64 0, .int .i64 0, .int .i64 0, .int .i64 0, .int .i64 0, .int .i64 0, .int .i64 0, .int .i64 0, .int .i64 0, .int .i64 0, .int .i64 0, .int .i64 0, .int .i64 0, .bool false, .slice none 0 0, .slice none 0 0, .slice none 0 0, .slice none 0 0] 74)).heap[w.heap.size + 1]? = some (.cells #[.int .i64 0, .int .i64 0, .string ⟨#[]⟩, .string ⟨#[]⟩, .int .i64 0, .int .i64 0, .int .i64 0, .int .i64 0, .int .i64 0, .int .i64 0, .int .i64 0, .int .i64 0, .int .i64 0, .int .i64 0, .int .i64 0, .int .i64 0, .int .i64 0, .int .i64 0, .int .i64 0, .int .i64 0, .int .i64 0, .int .i64 0, .int .i64 0, .int .i64 0, .bool false, .slice none 0 0, .slice none 0 0, .slice none 0 0, .slice none 0 0] 74 (0, 0)) ∧ Below w.heap.size w ((w.alloc (.cells #[.int .i64 m.kind, .int .i64 m.id, .string m.topic, .int .i64 m.part, .int .i64 m.parts, .int .i64 m.seg, .int .i64 m.byt, .int .i64 m.age, .bool m.comp, .int .i64 m.delay, .int .i64 m.prod, .int .i64 m.seq, .slice A n c, .int .i64 m.off, .int .i64 m.max, .int .i64 m.time, .string m.group] 26)).alloc (.cells #[.int .i64 0, .int .i64 0, .string ⟨#[]⟩, .string ⟨#[]⟩, .int .i64 0, .int .i64 0, .int .i64 0, .int .i64 0, .int .i64 0, .int .i64 0, .int .i64 0, .int .i64 0, .int .i64 0, .int .i64 0, .int .i64 0, .int .i64 0, .int .i64 0, .int .i64 0, .int .i64 0, .int .i64 0, .int .i64 0, .int .i64 0, .int .i64 0, .int .i64 0, .bool false, .slice none 0 0, .slice none 0 0, .slice none 0 0, .slice none 0 0] 74)) := by
  refine ⟨blk_alloc (heap_alloc_new w _) _, ?_, below_alloc (below_alloc (Below.refl _ _) _) _⟩
  have := heap_alloc_new (w.alloc (.cells #[.int .i64 m.kind, .int .i64 m.id, .string m.topic, .int .i64 m.part, .int .i64 m.parts, .int .i64 m.seg, .int .i64 m.byt, .int .i64 m.age, .bool m.comp, .int .i64 m.delay, .int .i64 m.prod, .int .i64 m.seq, .slice A n c, .int .i64 m.off, .int .i64 m.max, .int .i64 m.time, .string m.group] 26)) (.cells #[.int .i64 0, .int .i64 0, .string ⟨#[]⟩, .string ⟨#[]⟩, .int .i64 0, .int .i64 0, .int .i64 0, .int .i64 0, .int .i64 0, .int .i64 0, .int .i64 0, .int .i64 0, .int .i64 0, .int .i64 0, .int .i64 0, .int .i64 0, .int .i64 0, .int .i64 0, .int .i64 0, .int .i64 0, .int .i64 0, .int .i64 0, .int .i64 0, .int .i64 0, .bool false, .slice none 0 0, .slice none 0 0, .slice none 0 0, .slice none 0 0] 74)
  simpa using this
theorem all29n (m : Msg) (A : Option Addr) (n c : Nat) : (#[.int .i64 m.kind, .int .i64 m.id, .string ⟨#[]⟩, .string ⟨#[]⟩, .int .i64 0, .int .i64 0, .int .i64 0, .int .i64 0, .int .i64 0, .int .i64 0, .int .i64 0, .int .i64 0, .int .i64 0, .int .i64 0, .int .i64 0, .int .i64 0, .int .i64 0, .int .i64 0, .int .i64 0, .int .i64 0, .int .i64 0, .int .i64 0, .int .i64 0, .int .i64 0, .bool m.comp, .slice A n c, .slice none 0 0, .slice none 0 0, .slice none 0 0] : Array Value).all (·.oneCell') = true := by
  rw [← Array.all_toList]
  simp [Value.oneCell']
theorem all29 (b : Bg) {A : Option Addr} {n c : Nat} (h : b.recs = .slice A n c) (h2 : b.bats = .slice none 0 0) (h3 : b.names = .slice none 0 0) (h4 : b.cnts = .slice none 0 0) : b.cells.all (·.oneCell') = true := by
  rw [← Array.all_toList]
  simp [Bg.cells, h, h2, h3, h4, Value.oneCell']

set_option maxHeartbeats 4000000 in
set_option maxRecDepth 100000 in
theorem bref_bag.calls (m : Msg) (A : Option Addr) (n c : Nat) (w : World) : Calls Try.prog 31 #[.agg #[.int .i64 m.kind, .int .i64 m.id, .string m.topic, .int .i64 m.part, .int .i64 m.parts, .int .i64 m.seg, .int .i64 m.byt, .int .i64 m.age, .bool m.comp, .int .i64 m.delay, .int .i64 m.prod, .int .i64 m.seq, .slice A n c, .int .i64 m.off, .int .i64 m.max, .int .i64 m.time, .string m.group]] w fun e w' => e = .returned (.agg (bagOf m (.slice A n c)).cells) ∧ Below w.heap.size w w' := by
  go_enter Try.func31, Try.ntmps31
  go_upto_region 1 with (fail)
  (try simp only [Act.put, List.setIfInBounds_toArray, List.set_cons_zero, List.set_cons_succ])
  have S0 := Aside0.mk (bag_new w m A n c)
  generalize (w.alloc (.cells #[.int .i64 m.kind, .int .i64 m.id, .string m.topic, .int .i64 m.part, .int .i64 m.parts, .int .i64 m.seg, .int .i64 m.byt, .int .i64 m.age, .bool m.comp, .int .i64 m.delay, .int .i64 m.prod, .int .i64 m.seq, .slice A n c, .int .i64 m.off, .int .i64 m.max, .int .i64 m.time, .string m.group] 26)).alloc (.cells #[.int .i64 0, .int .i64 0, .string ⟨#[]⟩, .string ⟨#[]⟩, .int .i64 0, .int .i64 0, .int .i64 0, .int .i64 0, .int .i64 0, .int .i64 0, .int .i64 0, .int .i64 0, .int .i64 0, .int .i64 0, .int .i64 0, .int .i64 0, .int .i64 0, .int .i64 0, .int .i64 0, .int .i64 0, .int .i64 0, .int .i64 0, .int .i64 0, .int .i64 0, .bool false, .slice none 0 0, .slice none 0 0, .slice none 0 0, .slice none 0 0] 74) = y0 at S0 ⊢
  obtain ⟨h, hh⟩ : ∃ h, h = w.heap.size := ⟨_, rfl⟩
  obtain ⟨r, hr⟩ : ∃ r, r = w.heap.size + 1 := ⟨_, rfl⟩
  rw [← hr, ← hh] at S0
  rw [← hr, ← hh]
  have HH := Aside0.mk (And.intro hh hr)
  clear hh hr
  have q0 : y0.cell? ⟨h, 0, none⟩ = some (.int .i64 m.kind) := (blk_cell S0.out.1 0).trans rfl
  have q1 : y0.cell? ⟨h, 1, none⟩ = some (.int .i64 m.id) := (blk_cell S0.out.1 1).trans rfl
  have q2 : y0.cell? ⟨h, 2, none⟩ = some (.string m.topic) := (blk_cell S0.out.1 2).trans rfl
  have q3 : y0.cell? ⟨h, 3, none⟩ = some (.int .i64 m.part) := (blk_cell S0.out.1 3).trans rfl
  have q4 : y0.cell? ⟨h, 4, none⟩ = some (.int .i64 m.parts) := (blk_cell S0.out.1 4).trans rfl
  have q5 : y0.cell? ⟨h, 5, none⟩ = some (.int .i64 m.seg) := (blk_cell S0.out.1 5).trans rfl
  have q6 : y0.cell? ⟨h, 6, none⟩ = some (.int .i64 m.byt) := (blk_cell S0.out.1 6).trans rfl
  have q7 : y0.cell? ⟨h, 7, none⟩ = some (.int .i64 m.age) := (blk_cell S0.out.1 7).trans rfl
  have q8 : y0.cell? ⟨h, 8, none⟩ = some (.bool m.comp) := (blk_cell S0.out.1 8).trans rfl
  have q9 : y0.cell? ⟨h, 9, none⟩ = some (.int .i64 m.delay) := (blk_cell S0.out.1 9).trans rfl
  have q10 : y0.cell? ⟨h, 10, none⟩ = some (.int .i64 m.prod) := (blk_cell S0.out.1 10).trans rfl
  have q11 : y0.cell? ⟨h, 11, none⟩ = some (.int .i64 m.seq) := (blk_cell S0.out.1 11).trans rfl
  have q12 : y0.cell? ⟨h, 12, none⟩ = some (.slice A n c) := (blk_cell S0.out.1 12).trans rfl
  have q13 : y0.cell? ⟨h, 13, none⟩ = some (.int .i64 m.off) := (blk_cell S0.out.1 13).trans rfl
  have q14 : y0.cell? ⟨h, 14, none⟩ = some (.int .i64 m.max) := (blk_cell S0.out.1 14).trans rfl
  have q15 : y0.cell? ⟨h, 15, none⟩ = some (.int .i64 m.time) := (blk_cell S0.out.1 15).trans rfl
  have q16 : y0.cell? ⟨h, 16, none⟩ = some (.string m.group) := (blk_cell S0.out.1 16).trans rfl
  go_upto_region 2 with (refine wpList_store_row rfl 74 (.tmp 3) (.tmp 13) rfl y0.heap.size #[.int .i64 m.kind, .int .i64 m.id, .string ⟨#[]⟩, .string ⟨#[]⟩, .int .i64 0, .int .i64 0, .int .i64 0, .int .i64 0, .int .i64 0, .int .i64 0, .int .i64 0, .int .i64 0, .int .i64 0, .int .i64 0, .int .i64 0, .int .i64 0, .int .i64 0, .int .i64 0, .int .i64 0, .int .i64 0, .int .i64 0, .int .i64 0, .int .i64 0, .int .i64 0, .bool m.comp, .slice A n c, .slice none 0 0, .slice none 0 0, .slice none 0 0] rfl rfl 74 #[.int .i64 0, .int .i64 0, .string ⟨#[]⟩, .string ⟨#[]⟩, .int .i64 0, .int .i64 0, .int .i64 0, .int .i64 0, .int .i64 0, .int .i64 0, .int .i64 0, .int .i64 0, .int .i64 0, .int .i64 0, .int .i64 0, .int .i64 0, .int .i64 0, .int .i64 0, .int .i64 0, .int .i64 0, .int .i64 0, .int .i64 0, .int .i64 0, .int .i64 0, .bool false, .slice none 0 0, .slice none 0 0, .slice none 0 0, .slice none 0 0] (heap_alloc_new y0 _) info29 rfl (all29n m A n c) ?_)
  (try simp only [Act.put, List.setIfInBounds_toArray, List.set_cons_zero, List.set_cons_succ])
  have hb_ := below_row (below_alloc (Below.refl y0.heap.size y0) (.cells #[.int .i64 0, .int .i64 0, .string ⟨#[]⟩, .string ⟨#[]⟩, .int .i64 0, .int .i64 0, .int .i64 0, .int .i64 0, .int .i64 0, .int .i64 0, .int .i64 0, .int .i64 0, .int .i64 0, .int .i64 0, .int .i64 0, .int .i64 0, .int .i64 0, .int .i64 0, .int .i64 0, .int .i64 0, .int .i64 0, .int .i64 0, .int .i64 0, .int .i64 0, .bool false, .slice none 0 0, .slice none 0 0, .slice none 0 0, .slice none 0 0] 74)) (Nat.le_refl _) #[.int .i64 m.kind, .int .i64 m.id, .string ⟨#[]⟩, .string ⟨#[]⟩, .int .i64 0, .int .i64 0, .int .i64 0, .int .i64 0, .int .i64 0, .int .i64 0, .int .i64 0, .int .i64 0, .int .i64 0, .int .i64 0, .int .i64 0, .int .i64 0, .int .i64 0, .int .i64 0, .int .i64 0, .int .i64 0, .int .i64 0, .int .i64 0, .int .i64 0, .int .i64 0, .bool m.comp, .slice A n c, .slice none 0 0, .slice none 0 0, .slice none 0 0]
  have S1 := Aside0.mk (show BagSt w ((y0.alloc (.cells #[.int .i64 0, .int .i64 0, .string ⟨#[]⟩, .string ⟨#[]⟩, .int .i64 0, .int .i64 0, .int .i64 0, .int .i64 0, .int .i64 0, .int .i64 0, .int .i64 0, .int .i64 0, .int .i64 0, .int .i64 0, .int .i64 0, .int .i64 0, .int .i64 0, .int .i64 0, .int .i64 0, .int .i64 0, .int .i64 0, .int .i64 0, .int .i64 0, .int .i64 0, .bool false, .slice none 0 0, .slice none 0 0, .slice none 0 0, .slice none 0 0] 74)).setRow y0.heap.size #[.int .i64 m.kind, .int .i64 m.id, .string ⟨#[]⟩, .string ⟨#[]⟩, .int .i64 0, .int .i64 0, .int .i64 0, .int .i64 0, .int .i64 0, .int .i64 0, .int .i64 0, .int .i64 0, .int .i64 0, .int .i64 0, .int .i64 0, .int .i64 0, .int .i64 0, .int .i64 0, .int .i64 0, .int .i64 0, .int .i64 0, .int .i64 0, .int .i64 0, .int .i64 0, .bool m.comp, .slice A n c, .slice none 0 0, .slice none 0 0, .slice none 0 0]) h r y0.heap.size m A n c (bag0 m (.slice A n c)) from ⟨blk_below S0.out.1 hb_, blk_below S0.out.2.1 hb_, setRow_heap _ _ _ _ _ _ (heap_alloc_new y0 _), (by have h_ := S0.out.2.2; rw [HH.out.1] at h_; exact below_step h_ hb_), Nat.le_of_eq HH.out.1.symm, by have := HH.out; omega, blk_lt S0.out.2.1⟩)
  clear hb_
  generalize (y0.alloc (.cells #[.int .i64 0, .int .i64 0, .string ⟨#[]⟩, .string ⟨#[]⟩, .int .i64 0, .int .i64 0, .int .i64 0, .int .i64 0, .int .i64 0, .int .i64 0, .int .i64 0, .int .i64 0, .int .i64 0, .int .i64 0, .int .i64 0, .int .i64 0, .int .i64 0, .int .i64 0, .int .i64 0, .int .i64 0, .int .i64 0, .int .i64 0, .int .i64 0, .int .i64 0, .bool false, .slice none 0 0, .slice none 0 0, .slice none 0 0, .slice none 0 0] 74)).setRow y0.heap.size #[.int .i64 m.kind, .int .i64 m.id, .string ⟨#[]⟩, .string ⟨#[]⟩, .int .i64 0, .int .i64 0, .int .i64 0, .int .i64 0, .int .i64 0, .int .i64 0, .int .i64 0, .int .i64 0, .int .i64 0, .int .i64 0, .int .i64 0, .int .i64 0, .int .i64 0, .int .i64 0, .int .i64 0, .int .i64 0, .int .i64 0, .int .i64 0, .int .i64 0, .int .i64 0, .bool m.comp, .slice A n c, .slice none 0 0, .slice none 0 0, .slice none 0 0] = y1 at S1 ⊢
  obtain ⟨b, hb⟩ : ∃ b, b = y0.heap.size := ⟨_, rfl⟩
  rw [← hb] at S1 ⊢
  clear hb S0 q0 q1 q2 q3 q4 q5 q6 q7 q8 q9 q10 q11 q12 q13 q14 q15 q16
  have q0 : y1.cell? ⟨h, 2, none⟩ = some (.string m.topic) := (blk_cell S1.out.rq 2).trans rfl
  have z0 : y1.frozen? ⟨b, 2, none⟩ = false := blk_frozen S1.out.bg 2
  have c0 : y1.cell? ⟨b, 2, none⟩ = some (.string ⟨#[]⟩) := (blk_cell S1.out.bg 2).trans rfl
  go_upto_region 3 with (fail)
  (try simp only [Act.put, List.setIfInBounds_toArray, List.set_cons_zero, List.set_cons_succ])
  have S2 := Aside0.mk (S1.out.step (g2 := ({ bag0 m (.slice A n c) with t0 := m.topic } : Bg)) 2 (.string m.topic) rfl)
  generalize y1.setCell ⟨b, 2, none⟩ (.string m.topic) = y2 at S2 ⊢
  clear S1 q0 z0 c0
  have q0 : y2.cell? ⟨h, 16, none⟩ = some (.string m.group) := (blk_cell S2.out.rq 16).trans rfl
  have z0 : y2.frozen? ⟨b, 3, none⟩ = false := blk_frozen S2.out.bg 3
  have c0 : y2.cell? ⟨b, 3, none⟩ = some (.string ⟨#[]⟩) := (blk_cell S2.out.bg 3).trans rfl
  go_upto_region 4 with (fail)
  (try simp only [Act.put, List.setIfInBounds_toArray, List.set_cons_zero, List.set_cons_succ])
  have S3 := Aside0.mk (S2.out.step (g2 := ({ bag0 m (.slice A n c) with t0 := m.topic, t1 := m.group } : Bg)) 3 (.string m.group) rfl)
  generalize y2.setCell ⟨b, 3, none⟩ (.string m.group) = y3 at S3 ⊢
  clear S2 q0 z0 c0
  have q0 : y3.cell? ⟨h, 3, none⟩ = some (.int .i64 m.part) := (blk_cell S3.out.rq 3).trans rfl
  have z0 : y3.frozen? ⟨b, 6, none⟩ = false := blk_frozen S3.out.bg 6
  have c0 : y3.cell? ⟨b, 6, none⟩ = some (.int .i64 0) := (blk_cell S3.out.bg 6).trans rfl
  go_upto_region 5 with (fail)
  (try simp only [Act.put, List.setIfInBounds_toArray, List.set_cons_zero, List.set_cons_succ])
  have S4 := Aside0.mk (S3.out.step (g2 := (({ bag0 m (.slice A n c) with t0 := m.topic, t1 := m.group } : Bg).put 2 m.part)) 6 (.int .i64 m.part) rfl)
  generalize y3.setCell ⟨b, 6, none⟩ (.int .i64 m.part) = y4 at S4 ⊢
  clear S3 q0 z0 c0
  have q0 : y4.cell? ⟨h, 4, none⟩ = some (.int .i64 m.parts) := (blk_cell S4.out.rq 4).trans rfl
  have z0 : y4.frozen? ⟨b, 7, none⟩ = false := blk_frozen S4.out.bg 7
  have c0 : y4.cell? ⟨b, 7, none⟩ = some (.int .i64 0) := (blk_cell S4.out.bg 7).trans rfl
  go_upto_region 6 with (fail)
  (try simp only [Act.put, List.setIfInBounds_toArray, List.set_cons_zero, List.set_cons_succ])
  have S5 := Aside0.mk (S4.out.step (g2 := ((({ bag0 m (.slice A n c) with t0 := m.topic, t1 := m.group } : Bg).put 2 m.part).put 3 m.parts)) 7 (.int .i64 m.parts) rfl)
  generalize y4.setCell ⟨b, 7, none⟩ (.int .i64 m.parts) = y5 at S5 ⊢
  clear S4 q0 z0 c0
  have q0 : y5.cell? ⟨h, 5, none⟩ = some (.int .i64 m.seg) := (blk_cell S5.out.rq 5).trans rfl
  have z0 : y5.frozen? ⟨b, 8, none⟩ = false := blk_frozen S5.out.bg 8
  have c0 : y5.cell? ⟨b, 8, none⟩ = some (.int .i64 0) := (blk_cell S5.out.bg 8).trans rfl
  go_upto_region 7 with (fail)
  (try simp only [Act.put, List.setIfInBounds_toArray, List.set_cons_zero, List.set_cons_succ])
  have S6 := Aside0.mk (S5.out.step (g2 := (((({ bag0 m (.slice A n c) with t0 := m.topic, t1 := m.group } : Bg).put 2 m.part).put 3 m.parts).put 4 m.seg)) 8 (.int .i64 m.seg) rfl)
  generalize y5.setCell ⟨b, 8, none⟩ (.int .i64 m.seg) = y6 at S6 ⊢
  clear S5 q0 z0 c0
  have q0 : y6.cell? ⟨h, 6, none⟩ = some (.int .i64 m.byt) := (blk_cell S6.out.rq 6).trans rfl
  have z0 : y6.frozen? ⟨b, 9, none⟩ = false := blk_frozen S6.out.bg 9
  have c0 : y6.cell? ⟨b, 9, none⟩ = some (.int .i64 0) := (blk_cell S6.out.bg 9).trans rfl
  go_upto_region 8 with (fail)
  (try simp only [Act.put, List.setIfInBounds_toArray, List.set_cons_zero, List.set_cons_succ])
  have S7 := Aside0.mk (S6.out.step (g2 := ((((({ bag0 m (.slice A n c) with t0 := m.topic, t1 := m.group } : Bg).put 2 m.part).put 3 m.parts).put 4 m.seg).put 5 m.byt)) 9 (.int .i64 m.byt) rfl)
  generalize y6.setCell ⟨b, 9, none⟩ (.int .i64 m.byt) = y7 at S7 ⊢
  clear S6 q0 z0 c0
  have q0 : y7.cell? ⟨h, 7, none⟩ = some (.int .i64 m.age) := (blk_cell S7.out.rq 7).trans rfl
  have z0 : y7.frozen? ⟨b, 10, none⟩ = false := blk_frozen S7.out.bg 10
  have c0 : y7.cell? ⟨b, 10, none⟩ = some (.int .i64 0) := (blk_cell S7.out.bg 10).trans rfl
  go_upto_region 9 with (fail)
  (try simp only [Act.put, List.setIfInBounds_toArray, List.set_cons_zero, List.set_cons_succ])
  have S8 := Aside0.mk (S7.out.step (g2 := (((((({ bag0 m (.slice A n c) with t0 := m.topic, t1 := m.group } : Bg).put 2 m.part).put 3 m.parts).put 4 m.seg).put 5 m.byt).put 6 m.age)) 10 (.int .i64 m.age) rfl)
  generalize y7.setCell ⟨b, 10, none⟩ (.int .i64 m.age) = y8 at S8 ⊢
  clear S7 q0 z0 c0
  have q0 : y8.cell? ⟨h, 9, none⟩ = some (.int .i64 m.delay) := (blk_cell S8.out.rq 9).trans rfl
  have z0 : y8.frozen? ⟨b, 12, none⟩ = false := blk_frozen S8.out.bg 12
  have c0 : y8.cell? ⟨b, 12, none⟩ = some (.int .i64 0) := (blk_cell S8.out.bg 12).trans rfl
  go_upto_region 10 with (fail)
  (try simp only [Act.put, List.setIfInBounds_toArray, List.set_cons_zero, List.set_cons_succ])
  have S9 := Aside0.mk (S8.out.step (g2 := ((((((({ bag0 m (.slice A n c) with t0 := m.topic, t1 := m.group } : Bg).put 2 m.part).put 3 m.parts).put 4 m.seg).put 5 m.byt).put 6 m.age).put 8 m.delay)) 12 (.int .i64 m.delay) rfl)
  generalize y8.setCell ⟨b, 12, none⟩ (.int .i64 m.delay) = y9 at S9 ⊢
  clear S8 q0 z0 c0
  have q0 : y9.cell? ⟨h, 10, none⟩ = some (.int .i64 m.prod) := (blk_cell S9.out.rq 10).trans rfl
  have z0 : y9.frozen? ⟨b, 13, none⟩ = false := blk_frozen S9.out.bg 13
  have c0 : y9.cell? ⟨b, 13, none⟩ = some (.int .i64 0) := (blk_cell S9.out.bg 13).trans rfl
  go_upto_region 11 with (fail)
  (try simp only [Act.put, List.setIfInBounds_toArray, List.set_cons_zero, List.set_cons_succ])
  have S10 := Aside0.mk (S9.out.step (g2 := (((((((({ bag0 m (.slice A n c) with t0 := m.topic, t1 := m.group } : Bg).put 2 m.part).put 3 m.parts).put 4 m.seg).put 5 m.byt).put 6 m.age).put 8 m.delay).put 9 m.prod)) 13 (.int .i64 m.prod) rfl)
  generalize y9.setCell ⟨b, 13, none⟩ (.int .i64 m.prod) = y10 at S10 ⊢
  clear S9 q0 z0 c0
  have q0 : y10.cell? ⟨h, 11, none⟩ = some (.int .i64 m.seq) := (blk_cell S10.out.rq 11).trans rfl
  have z0 : y10.frozen? ⟨b, 14, none⟩ = false := blk_frozen S10.out.bg 14
  have c0 : y10.cell? ⟨b, 14, none⟩ = some (.int .i64 0) := (blk_cell S10.out.bg 14).trans rfl
  go_upto_region 12 with (fail)
  (try simp only [Act.put, List.setIfInBounds_toArray, List.set_cons_zero, List.set_cons_succ])
  have S11 := Aside0.mk (S10.out.step (g2 := ((((((((({ bag0 m (.slice A n c) with t0 := m.topic, t1 := m.group } : Bg).put 2 m.part).put 3 m.parts).put 4 m.seg).put 5 m.byt).put 6 m.age).put 8 m.delay).put 9 m.prod).put 10 m.seq)) 14 (.int .i64 m.seq) rfl)
  generalize y10.setCell ⟨b, 14, none⟩ (.int .i64 m.seq) = y11 at S11 ⊢
  clear S10 q0 z0 c0
  have q0 : y11.cell? ⟨h, 13, none⟩ = some (.int .i64 m.off) := (blk_cell S11.out.rq 13).trans rfl
  have z0 : y11.frozen? ⟨b, 16, none⟩ = false := blk_frozen S11.out.bg 16
  have c0 : y11.cell? ⟨b, 16, none⟩ = some (.int .i64 0) := (blk_cell S11.out.bg 16).trans rfl
  go_upto_region 13 with (fail)
  (try simp only [Act.put, List.setIfInBounds_toArray, List.set_cons_zero, List.set_cons_succ])
  have S12 := Aside0.mk (S11.out.step (g2 := (((((((((({ bag0 m (.slice A n c) with t0 := m.topic, t1 := m.group } : Bg).put 2 m.part).put 3 m.parts).put 4 m.seg).put 5 m.byt).put 6 m.age).put 8 m.delay).put 9 m.prod).put 10 m.seq).put 12 m.off)) 16 (.int .i64 m.off) rfl)
  generalize y11.setCell ⟨b, 16, none⟩ (.int .i64 m.off) = y12 at S12 ⊢
  clear S11 q0 z0 c0
  have q0 : y12.cell? ⟨h, 14, none⟩ = some (.int .i64 m.max) := (blk_cell S12.out.rq 14).trans rfl
  have z0 : y12.frozen? ⟨b, 17, none⟩ = false := blk_frozen S12.out.bg 17
  have c0 : y12.cell? ⟨b, 17, none⟩ = some (.int .i64 0) := (blk_cell S12.out.bg 17).trans rfl
  go_upto_region 14 with (fail)
  (try simp only [Act.put, List.setIfInBounds_toArray, List.set_cons_zero, List.set_cons_succ])
  have S13 := Aside0.mk (S12.out.step (g2 := ((((((((((({ bag0 m (.slice A n c) with t0 := m.topic, t1 := m.group } : Bg).put 2 m.part).put 3 m.parts).put 4 m.seg).put 5 m.byt).put 6 m.age).put 8 m.delay).put 9 m.prod).put 10 m.seq).put 12 m.off).put 13 m.max)) 17 (.int .i64 m.max) rfl)
  generalize y12.setCell ⟨b, 17, none⟩ (.int .i64 m.max) = y13 at S13 ⊢
  clear S12 q0 z0 c0
  have q0 : y13.cell? ⟨h, 15, none⟩ = some (.int .i64 m.time) := (blk_cell S13.out.rq 15).trans rfl
  have z0 : y13.frozen? ⟨b, 18, none⟩ = false := blk_frozen S13.out.bg 18
  have c0 : y13.cell? ⟨b, 18, none⟩ = some (.int .i64 0) := (blk_cell S13.out.bg 18).trans rfl
  go_upto_region 15 with (fail)
  (try simp only [Act.put, List.setIfInBounds_toArray, List.set_cons_zero, List.set_cons_succ])
  have S14 := Aside0.mk (S13.out.step (g2 := (((((((((((({ bag0 m (.slice A n c) with t0 := m.topic, t1 := m.group } : Bg).put 2 m.part).put 3 m.parts).put 4 m.seg).put 5 m.byt).put 6 m.age).put 8 m.delay).put 9 m.prod).put 10 m.seq).put 12 m.off).put 13 m.max).put 14 m.time)) 18 (.int .i64 m.time) rfl)
  generalize y13.setCell ⟨b, 18, none⟩ (.int .i64 m.time) = y14 at S14 ⊢
  clear S13 q0 z0 c0
  have HC := Aside0.mk (show (bagOf m (.slice A n c)).cells.all (·.oneCell') = true from all29 (bagOf m (.slice A n c)) rfl rfl rfl rfl)
  have SE := Aside0.mk (show BagSt w y14 h r b m A n c (bagOf m (.slice A n c)) from S14.out)
  clear S14
  go_wp2_with (first | (refine wpl_loadG (by rfl) 74 (.tmp 3) rfl _ rfl SE.out.bg Try.underlying74 rfl info29 ?_) | (refine wpList_store_row rfl 74 (.tmp 2) (.tmp 70) rfl r (bagOf m (.slice A n c)).cells rfl rfl 74 #[.int .i64 0, .int .i64 0, .string ⟨#[]⟩, .string ⟨#[]⟩, .int .i64 0, .int .i64 0, .int .i64 0, .int .i64 0, .int .i64 0, .int .i64 0, .int .i64 0, .int .i64 0, .int .i64 0, .int .i64 0, .int .i64 0, .int .i64 0, .int .i64 0, .int .i64 0, .int .i64 0, .int .i64 0, .int .i64 0, .int .i64 0, .int .i64 0, .int .i64 0, .bool false, .slice none 0 0, .slice none 0 0, .slice none 0 0, .slice none 0 0] SE.out.rs info29 rfl HC.out ?_))
  refine bodyPost_ret (results_c1 rfl _ _ r 74 (bagOf m (.slice A n c)).cells (0, 0) _ rfl (setRow_heap _ _ _ _ _ _ SE.out.rs) Try.underlying74 rfl info29) rfl ?_
  exact ⟨rfl, below_row SE.out.below (by have := SE.out.lo; have := SE.out.hr; omega) _⟩
theorem unbag_new (w : World) (b : Bg) : ((w.alloc (.cells b.cells 74)).alloc (.cells #[.int .i64 0, .int .i64 0, .string ⟨#[]⟩, .int .i64 0, .int .i64 0, .int .i64 0, .int .i64 0, .int .i64 0, .bool false, .int .i64 0, .int .i64 0, .int .i64 0, .slice none 0 0, .int .i64 0, .int .i64 0, .int .i64 0, .string ⟨#[]⟩] 26)).heap[w.heap.size]? = some (.cells b.cells 74 (0, 0)) ∧ ((w.alloc (.cells b.cells 74)).alloc (.cells #[.int .i64 0, .int .i64 0, .string ⟨#[]⟩, .int .i64 0, .int .i64 0, .int .i64 0, .int .i64 0, .int .i64 0, .bool false, .int .i64 0, .int .i64 0, .int .i64 0, .slice none 0 0, .int .i64 0, .int .i64 0, .int .i64 0, .string ⟨#[]⟩] 26)).heap[w.heap.size + 1]? = some (.cells #[.int .i64 0, .int .i64 0, .string ⟨#[]⟩, .int .i64 0, .int .i64 0, .int .i64 0, .int .i64 0, .int .i64 0, .bool false, .int .i64 0, .int .i64 0, .int .i64 0, .slice none 0 0, .int .i64 0, .int .i64 0, .int .i64 0, .string ⟨#[]⟩] 26 (0, 0)) ∧ Below w.heap.size w ((w.alloc (.cells b.cells 74)).alloc (.cells #[.int .i64 0, .int .i64 0, .string ⟨#[]⟩, .int .i64 0, .int .i64 0, .int .i64 0, .int .i64 0, .int .i64 0, .bool false, .int .i64 0, .int .i64 0, .int .i64 0, .slice none 0 0, .int .i64 0, .int .i64 0, .int .i64 0, .string ⟨#[]⟩] 26)) := by
  refine ⟨blk_alloc (heap_alloc_new w _) _, ?_, below_alloc (below_alloc (Below.refl _ _) _) _⟩
  have := heap_alloc_new (w.alloc (.cells b.cells 74)) (.cells #[.int .i64 0, .int .i64 0, .string ⟨#[]⟩, .int .i64 0, .int .i64 0, .int .i64 0, .int .i64 0, .int .i64 0, .bool false, .int .i64 0, .int .i64 0, .int .i64 0, .slice none 0 0, .int .i64 0, .int .i64 0, .int .i64 0, .string ⟨#[]⟩] 26)
  simpa using this
theorem allU (b : Bg) (A : Option Addr) (n c : Nat) : (#[.int .i64 b.kind, .int .i64 b.id, .string b.t0, .int .i64 (b.n 2), .int .i64 (b.n 3), .int .i64 (b.n 4), .int .i64 (b.n 5), .int .i64 (b.n 6), .bool b.flag, .int .i64 (b.n 8), .int .i64 (b.n 9), .int .i64 (b.n 10), .slice A n c, .int .i64 (b.n 12), .int .i64 (b.n 13), .int .i64 (b.n 14), .string b.t1] : Array Value).all (·.oneCell') = true := by
  rw [← Array.all_toList]
  simp [Value.oneCell']
set_option maxHeartbeats 4000000 in
set_option maxRecDepth 100000 in
theorem bref_unbag.calls (b : Bg) (A : Option Addr) (n c : Nat) (hu : b.recs = .slice A n c) (w : World) : Calls Try.prog 35 #[.agg b.cells] w fun e w' => e = .returned (.agg #[.int .i64 b.kind, .int .i64 b.id, .string b.t0, .int .i64 (b.n 2), .int .i64 (b.n 3), .int .i64 (b.n 4), .int .i64 (b.n 5), .int .i64 (b.n 6), .bool b.flag, .int .i64 (b.n 8), .int .i64 (b.n 9), .int .i64 (b.n 10), .slice A n c, .int .i64 (b.n 12), .int .i64 (b.n 13), .int .i64 (b.n 14), .string b.t1]) ∧ Below w.heap.size w w' := by
  have HU := Aside0.mk hu
  clear hu
  go_enter Try.func35, Try.ntmps35
  go_upto_region 1 with (fail)
  (try simp only [Act.put, List.setIfInBounds_toArray, List.set_cons_zero, List.set_cons_succ])
  have S0 := Aside0.mk (unbag_new w b)
  generalize (w.alloc (.cells b.cells 74)).alloc (.cells #[.int .i64 0, .int .i64 0, .string ⟨#[]⟩, .int .i64 0, .int .i64 0, .int .i64 0, .int .i64 0, .int .i64 0, .bool false, .int .i64 0, .int .i64 0, .int .i64 0, .slice none 0 0, .int .i64 0, .int .i64 0, .int .i64 0, .string ⟨#[]⟩] 26) = y0 at S0 ⊢
  have q0 : y0.cell? ⟨w.heap.size, 0, none⟩ = some (.int .i64 b.kind) := (blk_cell S0.out.1 0).trans rfl
  have q1 : y0.cell? ⟨w.heap.size, 1, none⟩ = some (.int .i64 b.id) := (blk_cell S0.out.1 1).trans rfl
  have q2 : y0.cell? ⟨w.heap.size, 2, none⟩ = some (.string b.t0) := (blk_cell S0.out.1 2).trans rfl
  have q3 : y0.cell? ⟨w.heap.size, 3, none⟩ = some (.string b.t1) := (blk_cell S0.out.1 3).trans rfl
  have q24 : y0.cell? ⟨w.heap.size, 24, none⟩ = some (.bool b.flag) := (blk_cell S0.out.1 24).trans rfl
  have q25 : y0.cell? ⟨w.heap.size, 25, none⟩ = some (.slice A n c) := by rw [← HU.out]; exact (blk_cell S0.out.1 25).trans rfl
  have q6 : y0.cell? ⟨w.heap.size, 6, none⟩ = some (.int .i64 (b.n 2)) := (blk_cell S0.out.1 6).trans rfl
  have q7 : y0.cell? ⟨w.heap.size, 7, none⟩ = some (.int .i64 (b.n 3)) := (blk_cell S0.out.1 7).trans rfl
  have q8 : y0.cell? ⟨w.heap.size, 8, none⟩ = some (.int .i64 (b.n 4)) := (blk_cell S0.out.1 8).trans rfl
  have q9 : y0.cell? ⟨w.heap.size, 9, none⟩ = some (.int .i64 (b.n 5)) := (blk_cell S0.out.1 9).trans rfl
  have q10 : y0.cell? ⟨w.heap.size, 10, none⟩ = some (.int .i64 (b.n 6)) := (blk_cell S0.out.1 10).trans rfl
  have q11 : y0.cell? ⟨w.heap.size, 11, none⟩ = some (.int .i64 (b.n 7)) := (blk_cell S0.out.1 11).trans rfl
  have q12 : y0.cell? ⟨w.heap.size, 12, none⟩ = some (.int .i64 (b.n 8)) := (blk_cell S0.out.1 12).trans rfl
  have q13 : y0.cell? ⟨w.heap.size, 13, none⟩ = some (.int .i64 (b.n 9)) := (blk_cell S0.out.1 13).trans rfl
  have q14 : y0.cell? ⟨w.heap.size, 14, none⟩ = some (.int .i64 (b.n 10)) := (blk_cell S0.out.1 14).trans rfl
  have q15 : y0.cell? ⟨w.heap.size, 15, none⟩ = some (.int .i64 (b.n 11)) := (blk_cell S0.out.1 15).trans rfl
  have q16 : y0.cell? ⟨w.heap.size, 16, none⟩ = some (.int .i64 (b.n 12)) := (blk_cell S0.out.1 16).trans rfl
  have q17 : y0.cell? ⟨w.heap.size, 17, none⟩ = some (.int .i64 (b.n 13)) := (blk_cell S0.out.1 17).trans rfl
  have q18 : y0.cell? ⟨w.heap.size, 18, none⟩ = some (.int .i64 (b.n 14)) := (blk_cell S0.out.1 18).trans rfl
  go_wp2_with (refine wpList_store_row rfl 26 (.tmp 2) (.tmp 51) rfl (w.heap.size + 1) #[.int .i64 b.kind, .int .i64 b.id, .string b.t0, .int .i64 (b.n 2), .int .i64 (b.n 3), .int .i64 (b.n 4), .int .i64 (b.n 5), .int .i64 (b.n 6), .bool b.flag, .int .i64 (b.n 8), .int .i64 (b.n 9), .int .i64 (b.n 10), .slice A n c, .int .i64 (b.n 12), .int .i64 (b.n 13), .int .i64 (b.n 14), .string b.t1] rfl rfl 26 #[.int .i64 0, .int .i64 0, .string ⟨#[]⟩, .int .i64 0, .int .i64 0, .int .i64 0, .int .i64 0, .int .i64 0, .bool false, .int .i64 0, .int .i64 0, .int .i64 0, .slice none 0 0, .int .i64 0, .int .i64 0, .int .i64 0, .string ⟨#[]⟩] S0.out.2.1 info17 rfl (allU b A n c) ?_)
  refine bodyPost_ret (results_c1 rfl _ _ (w.heap.size + 1) 26 #[.int .i64 b.kind, .int .i64 b.id, .string b.t0, .int .i64 (b.n 2), .int .i64 (b.n 3), .int .i64 (b.n 4), .int .i64 (b.n 5), .int .i64 (b.n 6), .bool b.flag, .int .i64 (b.n 8), .int .i64 (b.n 9), .int .i64 (b.n 10), .slice A n c, .int .i64 (b.n 12), .int .i64 (b.n 13), .int .i64 (b.n 14), .string b.t1] (0, 0) _ rfl (setRow_heap _ _ _ _ _ _ S0.out.2.1) Try.underlying26 rfl info17) rfl ?_
  exact ⟨rfl, below_row S0.out.2.2 (by omega) _⟩


end Go.Proofs.Ytncfofnikmfjbaa.PCi

-- written by a program of this session (wip/tools/pr.py, over the kit's printer): not by hand
namespace Go.Proofs.Ytncfofnikmfjbaa.PCi
open Go.RowKit Go.Proofs.YtncfofnikmfjbaaW.PrintWords Go.Proofs.YtncfofnikmfjbaaW.PrintLast Go.Proofs.YtncfofnikmfjbaaW.PrintMore
attribute [local go_sem] max2_int min2_int max_two min_two max_three min_three max_four min_four   -- for this text's walks alone
set_option linter.unusedVariables false
set_option linter.unusedSimpArgs false

theorem eqA23 (d : Nat) (w : World) (x0 y0 : Int) (x1 y1 : Int) (x2 y2 : Int) (x3 y3 : Bool) (x4 y4 : Int) :
    (Op.equalIn (d + 2) 23 (.agg #[.int .i64 x0, .int .i64 x1, .int .i64 x2, .bool x3, .int .i64 x4]) (.agg #[.int .i64 y0, .int .i64 y1, .int .i64 y2, .bool y3, .int .i64 y4])).run Try.prog w = .ok (x0 == y0 && (x1 == y1 && (x2 == y2 && (x3 == y3 && (x4 == y4))))) w := by
  refine eqA_of Try.underlying23 (by kernel_rfl) ?_
  refine eqf_cons (by rfl) (by go_simp; rfl) (by go_simp; rfl) (by go_simp) ?_
  refine eqf_cons (by rfl) (by go_simp; rfl) (by go_simp; rfl) (by go_simp) ?_
  refine eqf_cons (by rfl) (by go_simp; rfl) (by go_simp; rfl) (by go_simp) ?_
  refine eqf_cons (by rfl) (by go_simp; rfl) (by go_simp; rfl) (by go_simp) ?_
  exact eqf_last (by rfl) (by go_simp; rfl) (by go_simp; rfl) (by go_simp)
end Go.Proofs.Ytncfofnikmfjbaa.PCi
