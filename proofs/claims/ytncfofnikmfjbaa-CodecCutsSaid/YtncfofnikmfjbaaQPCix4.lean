import Derived.Test.YtncfofnikmfjbaaQPCix7
import Derived.DeepKeys4
import Derived.Maps.OwnOps
import Derived.Outline
import Derived.StillTailTactics
import Derived.RegionTactic
import Derived.BigRegion
import Derived.Lib.BufferWrite
import Derived.Test.YtncfofnikmfjbaaQCf7
namespace Go.Proofs.Ytncfofnikmfjbaa.PCi
open Go.RowKit Go.Proofs.YtncfofnikmfjbaaW.PrintWords Go.Proofs.YtncfofnikmfjbaaW.PrintLast Go.Proofs.YtncfofnikmfjbaaW.PrintMore
attribute [local go_sem] max2_int min2_int max_two min_two max_three min_three max_four min_four
set_option linter.unusedVariables false
set_option linter.unusedSimpArgs false

/-! ### codec.fields -/
def wayT : List (Int × Int × List Int) := [(0, 1, [0, 3, 4, 5, 6, 7, 8]), (0, 2, [0]), (0, 3, []), (0, 4, [0, 2, 9, 10, 16]), (0, 5, [0, 2, 11, 12]), (0, 6, [0, 2, 13]), (0, 7, [1, 0, 2, 11]), (0, 8, [1, 0, 2]), (1, 1, []), (1, 2, []), (1, 3, [17, 18]), (1, 4, [11, 14, 15]), (1, 5, [14, 15, 19]), (1, 6, [11, 14, 15]), (1, 7, []), (1, 8, [11])]
def wayKey (i : Nat) : Value := .agg #[.int .i64 (wayT.getD i (0, 0, [])).1, .int .i64 (wayT.getD i (0, 0, [])).2.1]
def wayL (i : Nat) : List Int := (wayT.getD i (0, 0, [])).2.2
theorem way_law : WideMaps.KeyLaw Try.prog 104 := deep_law_laid (by kernel_rfl) (m := 2) (by omega) (of_decide_eq_true (by kernel_rfl)) (by kernel_rfl) (by rw [Try.underlying104])
theorem way_size : Try.prog.types.size = 202 := by kernel_rfl
theorem way_type : Try.prog.keyType 104 = true := by kernel_rfl
theorem way_cells : Try.prog.cellsOf 104 = 2 := by kernel_rfl
theorem way_cell1 : Try.prog.cellsOf 3 = 1 := by kernel_rfl
theorem way_lits (d : Nat) (a b : Int) (ha : (Lit.int .i64 a).wf = true) (hb : (Lit.int .i64 b).wf = true) : Try.prog.keyLits (d + 2) 104 [.int .i64 a, .int .i64 b] = some [.int .i64 a, .int .i64 b] := by
  unfold Program.keyLits
  simp only [Try.underlying104]
  simp [way_cells, Program.keyLits, Try.underlying3, way_cell1, ha, hb]
theorem way_key (a b : Int) (ha : (Lit.int .i64 a).wf = true) (hb : (Lit.int .i64 b).wf = true) : ∃ l, keyOf Try.prog 104 (.agg #[.int .i64 a, .int .i64 b]) = some l := by
  unfold keyOf
  rw [Try.underlying104]
  have hf : (Value.agg #[.int .i64 a, .int .i64 b]).formed Try.prog 104 = true := by simp [Value.formed, Try.underlying104, way_cells]
  have hl : Try.prog.keyLits (Try.prog.types.size + 1) 104 (Value.agg #[.int .i64 a, .int .i64 b]).cells.toList = some [.int .i64 a, .int .i64 b] := by rw [way_size]; exact way_lits 201 a b ha hb
  simp only [way_type, hf, hl, Bool.and_self, if_true, Option.map_some]
  exact ⟨_, rfl⟩
theorem wayKey_key {i : Nat} (h : i < 16) : ∃ l, keyOf Try.prog 104 (wayKey i) = some l := way_key _ _ ((by decide : ∀ i, i < 16 → (Lit.int .i64 (wayT.getD i (0, 0, [])).1).wf = true) i h) ((by decide : ∀ i, i < 16 → (Lit.int .i64 (wayT.getD i (0, 0, [])).2.1).wf = true) i h)
theorem wayKey_inj {i j : Nat} (hi : i < 16) (hj : j < 16) (h : wayKey i = wayKey j) : i = j := by
  unfold wayKey at h
  simp only [Value.agg.injEq, Array.mk.injEq, List.cons.injEq, Value.int.injEq, true_and, and_true] at h
  exact (by decide : ∀ i, i < 16 → ∀ j, j < 16 → (wayT.getD i (0, 0, [])).1 = (wayT.getD j (0, 0, [])).1 ∧ (wayT.getD i (0, 0, [])).2.1 = (wayT.getD j (0, 0, [])).2.1 → i = j) i hi j hj h
theorem below_new {B : Nat} {w w1 : World} (h : Below B w w1) (hB : B ≤ w1.heap.size) (o : Obj) : Below B w (w1.alloc o) := h.trans ((below_alloc (Below.refl w1.heap.size w1) o).mono hB)
/-- The table's block: what is listed is in it, nothing else. -/
def WayMap (w : World) (m : Nat) (S : Nat → Bool) (r : Nat → Value) : Prop := ∃ es clock, w.heap[m]? = some (.map es clock) ∧ (∀ x ∈ es.toList, ∃ i, i < 16 ∧ S i = true ∧ x.key = wayKey i ∧ x.val = r i) ∧ ∀ i, i < 16 → S i = true → ∃ x ∈ es.toList, x.key = wayKey i
def WayRow (w : World) (B : Nat) (L : List Int) (v : Value) : Prop := ∃ g, v = .slice (some ⟨g, 0, none⟩) L.length L.length ∧ B ≤ g ∧ w.heap[g]? = some (.cells (L.map (Value.int .i64)).toArray 3 (0, 0))
theorem WayRow.below {w w1 : World} {B : Nat} {L : List Int} {v : Value} (h : WayRow w B L v) (hb : ∀ (g : Nat) (o : Obj), w.heap[g]? = some o → (∀ es c, o ≠ .map es c) → w1.heap[g]? = some o) : WayRow w1 B L v := by
  obtain ⟨g, h1, h2, h3⟩ := h
  exact ⟨g, h1, h2, hb g _ h3 (fun _ _ e => by cases e)⟩
/-- The row is laid into the table. -/
theorem way_insert {w : World} {B m i : Nat} {S : Nat → Bool} {r : Nat → Value} (h : WayMap w m S r) (hi : i < 16) (hS : S i = false) {w0 : World} (hb : Below B w0 w) (hm : B ≤ m) :
    ∃ w1, (Instr.mapUpdate 105 (.map (some m)) (wayKey i) (r i)).run Try.prog w = .ok () w1 ∧ Below B w0 w1 ∧ WayMap w1 m (fun j => if j = i then true else S j) r ∧ (∀ (g : Nat) (o : Obj), w.heap[g]? = some o → (∀ es c, o ≠ .map es c) → w1.heap[g]? = some o) ∧ w1.heap.size = w.heap.size := by
  obtain ⟨es, clock, h1, h2, h3⟩ := h
  obtain ⟨l, hl⟩ := wayKey_key hi
  have hks : ∀ e ∈ es.toList, ∃ l, keyOf Try.prog 104 e.key = some l := fun e he => by
    obtain ⟨j, hj, _, hk, _⟩ := h2 e he
    rw [hk]
    exact wayKey_key hj
  rcases way_law.find w hl es.toList hks with ⟨f1, f2⟩ | ⟨j, e, f1, f2, f3⟩
  · refine ⟨{ w with heap := w.heap.setIfInBounds m (.map (es.push ⟨wayKey i, r i, clock⟩) (clock + 1)) }, ?_, ?_, ?_, ?_, by simp⟩
    · simp [Instr.mapUpdate, run_underlying Try.underlying105, MapKept.run_getObj_map h1, way_law.check w false hl, f1, MapKept.run_setObj_map _ h1, Result.andThen]
    · refine ⟨hb.os, hb.tape, hb.output, by simpa using hb.size, fun k hk => ?_⟩
      rw [(MapKept.heap_set h1).2 k (by omega)]
      exact hb.block k hk
    · refine ⟨_, _, (MapKept.heap_set h1).1, fun x hx => ?_, fun j hj hS2 => ?_⟩
      · simp only [Array.toList_push, List.mem_append, List.mem_singleton] at hx
        rcases hx with hx | rfl
        · obtain ⟨j, hj, hs, hk, hv⟩ := h2 x hx
          exact ⟨j, hj, by simp [hs], hk, hv⟩
        · exact ⟨i, hi, by simp, rfl, rfl⟩
      · by_cases hji : j = i
        · subst hji
          exact ⟨⟨wayKey j, r j, clock⟩, by simp, rfl⟩
        · simp only [if_neg hji] at hS2
          obtain ⟨x, hx, hk⟩ := h3 j hj hS2
          exact ⟨x, by simp [hx], hk⟩
    · intro g o hg ho
      by_cases hgm : g = m
      · subst hgm
        rw [h1] at hg
        exact absurd (Option.some.inj hg).symm (ho _ _)
      · rw [(MapKept.heap_set h1).2 g hgm]
        exact hg
  · obtain ⟨j2, hj2, hs, hk, _⟩ := h2 e (List.mem_of_getElem? f2)
    have := wayKey_inj hj2 hi (hk.symm.trans f3)
    subst this
    rw [hS] at hs
    cases hs
/-- The look-up: the row of the key, or none. -/
theorem way_lookup {w : World} {m : Nat} {r : Nat → Value} (h : WayMap w m (fun _ => true) r) (a b : Int) (ha : (Lit.int .i64 a).wf = true) (hb : (Lit.int .i64 b).wf = true) :
    (∃ i, i < 16 ∧ wayKey i = .agg #[.int .i64 a, .int .i64 b] ∧ (Instr.lookup 105 (.map (some m)) (.agg #[.int .i64 a, .int .i64 b]) true).run Try.prog w = .ok (.tuple #[r i, .bool true]) w) ∨
    ((∀ i, i < 16 → wayKey i ≠ .agg #[.int .i64 a, .int .i64 b]) ∧ (Instr.lookup 105 (.map (some m)) (.agg #[.int .i64 a, .int .i64 b]) true).run Try.prog w = .ok (.tuple #[.slice none 0 0, .bool false]) w) := by
  obtain ⟨es, clock, h1, h2, h3⟩ := h
  obtain ⟨l, hl⟩ := way_key a b ha hb
  have hks : ∀ e ∈ es.toList, ∃ l, keyOf Try.prog 104 e.key = some l := fun e he => by
    obtain ⟨j, hj, _, hk, _⟩ := h2 e he
    rw [hk]
    exact wayKey_key hj
  have hz : (zeroValue 43).run Try.prog w = .ok (.slice none 0 0) w := by kernel_rfl
  rcases way_law.find w hl es.toList hks with ⟨f1, f2⟩ | ⟨j, e, f1, f2, f3⟩
  · refine .inr ⟨fun i hi hk => ?_, by simp [Instr.lookup, run_underlying Try.underlying105, MapKept.run_getObj_map h1, way_law.check w _ hl, f1, hz, Result.andThen]⟩
    obtain ⟨x, hx, hk2⟩ := h3 i hi rfl
    exact f2 x hx (hk2.trans hk)
  · obtain ⟨i, hi, _, hk, hv⟩ := h2 e (List.mem_of_getElem? f2)
    exact .inl ⟨i, hi, hk.symm.trans f3, by simp [Instr.lookup, run_underlying Try.underlying105, MapKept.run_getObj_map h1, way_law.check w _ hl, f1, hv, Result.andThen]⟩
/-- What holds with b listed. -/
def FdsI (B : Nat) (w0 : World) (m : Nat) (r : Nat → Value) (b : Nat → Bool) (w : World) : Prop :=
  Below B w0 w ∧ B ≤ w.heap.size ∧ (b 0 = true → B ≤ m ∧ WayMap w m (fun i => b (3 * i + 3)) r) ∧ ∀ i, i < 16 → b (3 * i + 2) = true → WayRow w B (wayL i) (r i)
theorem FdsI.same {B : Nat} {w0 w : World} {m : Nat} {r : Nat → Value} {b : Nat → Bool} (h : FdsI B w0 m r b w) {j : Nat} (h0 : j ≠ 0) (h2 : ∀ i, i < 16 → j ≠ 3 * i + 2) (h3 : ∀ i, i < 16 → j ≠ 3 * i + 3) : FdsI B w0 m r (up b j) w := by
  refine ⟨h.1, h.2.1, fun hb => ?_, fun i hi hb => h.2.2.2 i hi (by rwa [up_ne (fun e => h2 i hi e.symm)] at hb)⟩
  rw [up_ne (fun e => h0 e.symm)] at hb
  obtain ⟨g1, es, clock, g2, g3, g4⟩ := h.2.2.1 hb
  dsimp only at g3 g4
  refine ⟨g1, es, clock, g2, fun x hx => ?_, fun i hi hs => g4 i hi (by dsimp only at hs; rwa [up_ne (fun e => h3 i hi e.symm)] at hs)⟩
  obtain ⟨i, hi, hs, hk, hv⟩ := g3 x hx
  exact ⟨i, hi, by dsimp only; rw [up_ne (fun e => h3 i hi e.symm)]; exact hs, hk, hv⟩
theorem FdsI.made {B : Nat} {w0 w : World} {m : Nat} {r : Nat → Value} {b : Nat → Bool} (h : FdsI B w0 m r b w) (hoff : ∀ i, i < 16 → b (3 * i + 3) = false) : FdsI B w0 w.heap.size r (up b 0) (w.alloc (.map #[] 0)) := by
  refine ⟨below_new h.1 h.2.1 _, by simp; have := h.2.1; omega, fun _ => ⟨h.2.1, #[], 0, heap_alloc_new w _, by simp, fun i hi hs => ?_⟩, fun i hi hb => (h.2.2.2 i hi (by rwa [up_ne (by omega)] at hb)).below (fun g o hg _ => blk_alloc hg _)⟩
  dsimp only at hs
  rw [up_ne (by omega), hoff i hi] at hs
  cases hs
theorem FdsI.row {B : Nat} {w0 w : World} {m : Nat} {r : Nat → Value} {b : Nat → Bool} (h : FdsI B w0 m r b w) (i : Nat) (hi : i < 16) (hoff : b (3 * i + 3) = false) (L : List Int) (hL : L = wayL i) :
    FdsI B w0 m (fun j => if j = i then .slice (some ⟨w.heap.size, 0, none⟩) L.length L.length else r j) (up b (3 * i + 2)) (w.alloc (.cells (L.map (Value.int .i64)).toArray 3)) := by
  subst hL
  refine ⟨below_new h.1 h.2.1 _, by simp; have := h.2.1; omega, fun hb => ?_, fun j hj hb => ?_⟩
  · rw [up_ne (by omega)] at hb
    obtain ⟨g1, es, clock, g2, g3, g4⟩ := h.2.2.1 hb
    dsimp only at g3 g4
    refine ⟨g1, es, clock, blk_alloc g2 _, fun x hx => ?_, fun j hj hs => g4 j hj (by dsimp only at hs; rwa [up_ne (by omega)] at hs)⟩
    obtain ⟨j, hj, hs, hk, hv⟩ := g3 x hx
    refine ⟨j, hj, by dsimp only; rw [up_ne (by omega)]; exact hs, hk, ?_⟩
    dsimp only
    rw [if_neg (fun e => by subst e; rw [hoff] at hs; cases hs)]
    exact hv
  · dsimp only
    by_cases hji : j = i
    · subst hji
      rw [if_pos rfl]
      exact ⟨w.heap.size, rfl, h.2.1, heap_alloc_new w _⟩
    · rw [if_neg hji]
      rw [up_ne (by omega)] at hb
      exact (h.2.2.2 j hj hb).below (fun g o hg _ => blk_alloc hg _)
theorem FdsI.put {B : Nat} {w0 w : World} {m : Nat} {r : Nat → Value} {b : Nat → Bool} (h : FdsI B w0 m r b w) (i : Nat) (hi : i < 16) (h0 : b 0 = true) (hoff : b (3 * i + 3) = false) :
    ∃ w1, (Instr.mapUpdate 105 (.map (some m)) (wayKey i) (r i)).run Try.prog w = .ok () w1 ∧ FdsI B w0 m r (up b (3 * i + 3)) w1 := by
  obtain ⟨g1, g2⟩ := h.2.2.1 h0
  obtain ⟨w1, k1, k2, k3, k4, k5⟩ := way_insert g2 hi hoff h.1 g1
  refine ⟨w1, k1, k2, by rw [k5]; exact h.2.1, fun _ => ⟨g1, ?_⟩, fun j hj hb => (h.2.2.2 j hj (by rwa [up_ne (by omega)] at hb)).below k4⟩
  obtain ⟨es, clock, e1, e2, e3⟩ := k3
  dsimp only at e2 e3
  refine ⟨es, clock, e1, fun x hx => ?_, fun j hj hs => e3 j hj ?_⟩
  · obtain ⟨j, hj, hs, hk, hv⟩ := e2 x hx
    refine ⟨j, hj, ?_, hk, hv⟩
    dsimp only
    by_cases hji : j = i
    · subst hji; exact up_self _ _
    · rw [up_ne (by omega)]; simpa [hji] using hs
  · by_cases hji : j = i
    · simp [hji]
    · simp only [if_neg hji]; dsimp only at hs; rwa [up_ne (by omega)] at hs
def fdsT : Bool × List (List Nat × List Nat) := (true, [([], []), ([], []), ([], []), ([0, 1, 2], [0, 1, 2]), ([], []), ([], []), ([0, 4, 5], [0, 4, 5]), ([], []), ([], []), ([0, 7, 8], [0, 7, 8]), ([], []), ([], []), ([0, 10, 11], [0, 10, 11]), ([], []), ([], []), ([0, 13, 14], [0, 13, 14]), ([], []), ([], []), ([0, 16, 17], [0, 16, 17]), ([], []), ([], []), ([0, 19, 20], [0, 19, 20]), ([], []), ([], []), ([0, 22, 23], [0, 22, 23]), ([], []), ([], []), ([0, 25, 26], [0, 25, 26]), ([], []), ([], []), ([0, 28, 29], [0, 28, 29]), ([], []), ([], []), ([0, 31, 32], [0, 31, 32]), ([], []), ([], []), ([0, 34, 35], [0, 34, 35]), ([], []), ([], []), ([0, 37, 38], [0, 37, 38]), ([], []), ([], []), ([0, 40, 41], [0, 40, 41]), ([], []), ([], []), ([0, 43, 44], [0, 43, 44]), ([], []), ([], []), ([0, 46, 47], [0, 46, 47]), ([0, 1, 2, 3, 4, 5, 6, 7, 8, 9, 10, 11, 12, 13, 14, 15, 16, 17, 18, 19, 20, 21, 22, 23, 24, 25, 26, 27, 28, 29, 30, 31, 32, 33, 34, 35, 36, 37, 38, 39, 40, 41, 42, 43, 44, 45, 46, 47, 48], [0]), ([49, 0, 1, 2, 3, 4, 5, 6, 7, 8, 9, 10, 11, 12, 13, 14, 15, 16, 17, 18, 19, 20, 21, 22, 23, 24, 25, 26, 27, 28, 29, 30, 31, 32, 33, 34, 35, 36, 37, 38, 39, 40, 41, 42, 43, 44, 45, 46, 47, 48, 49], [49])])
def fdsB : List Nat := [0, 0, 0, 7, 0, 0, 49, 0, 0, 385, 0, 0, 3073, 0, 0, 24577, 0, 0, 196609, 0, 0, 1572865, 0, 0, 12582913, 0, 0, 100663297, 0, 0, 805306369, 0, 0, 6442450945, 0, 0, 51539607553, 0, 0, 412316860417, 0, 0, 3298534883329, 0, 0, 26388279066625, 0, 0, 211106232532993, 562949953421311, 1125899906842623]
theorem fds_tab : rtab .any (opsOf Try.f27 1) = fdsT := by kernel_rfl
theorem fds_bits : waitsOk fdsT.2 fdsB = true := by kernel_rfl
/-- The slots that are filled. -/
def fdsL (m : Nat) (r : Nat → Value) (v1 v2 : Value) : List (Nat × Tmp × Value) := [(0, 9, (.map (some m))), (1, 10, (wayKey 0)), (2, 11, (r 0)), (4, 12, (wayKey 1)), (5, 13, (r 1)), (7, 14, (wayKey 2)), (8, 15, (r 2)), (10, 16, (wayKey 3)), (11, 17, (r 3)), (13, 18, (wayKey 4)), (14, 19, (r 4)), (16, 20, (wayKey 5)), (17, 21, (r 5)), (19, 22, (wayKey 6)), (20, 23, (r 6)), (22, 24, (wayKey 7)), (23, 25, (r 7)), (25, 26, (wayKey 8)), (26, 27, (r 8)), (28, 28, (wayKey 9)), (29, 29, (r 9)), (31, 30, (wayKey 10)), (32, 31, (r 10)), (34, 32, (wayKey 11)), (35, 33, (r 11)), (37, 34, (wayKey 12)), (38, 35, (r 12)), (40, 36, (wayKey 13)), (41, 37, (r 13)), (43, 38, (wayKey 14)), (44, 39, (r 14)), (46, 40, (wayKey 15)), (47, 41, (r 15)), (49, 42, v1), (50, 6, v2)]
def FdsR (B : Nat) (w0 : World) (a0 : Act) (b : Nat → Bool) (a : Act) (w : World) : Prop := ∃ m r v1 v2, a = putSel a0 b (fdsL m r v1 v2) ∧ FdsI B w0 m r b w ∧ (b 49 = true → v1 = .map (some m)) ∧ (b 50 = true → v2 = .map (some m))
theorem wpl_lookup {P : Program} {ops : Array Oper} {rest : List Oper} {o : Oper} {a : Act} {w : World} {Q : Exit → Act → World → Prop} (hg : o.guard = none) (t : TypeId) (m x : Operand) (c : Bool) (hop : o.op = Op.lookup t m x c) {vm vx v : Value} (hm : a.eval m = vm) (hx : a.eval x = vx)
    (hrun : (Instr.lookup t vm vx c).run P w = .ok v w) (h : wpList P ops Q rest (a.put o.dst v) w) : wpList P ops Q (o :: rest) a w := by
  refine wpList_plain hg fun K' hK' => ?_
  unfold Oper.wp
  simp [execOp, hop, hm, hx, hrun, Result.andThen]
  exact hK' _ _ h
/-- What it leaves. -/
def FdsPost (B : Nat) (f : Option (List Int)) (e : Ending) (w' : World) : Prop := (f = none ∧ e = .returned (.tuple #[.slice none 0 0, .bool false])) ∨ ∃ L v, f = some L ∧ e = .returned (.tuple #[v, .bool true]) ∧ WayRow w' B L v
/-- What 'fields' tells: the row of which and kind, or none. -/
def codec_fields.f (which kind : Int) : Option (List Int) := (wayT.find? fun e => decide (e.1 = which ∧ e.2.1 = kind)).map fun e => e.2.2
set_option maxHeartbeats 16000000 in
set_option maxRecDepth 100000 in
theorem codec_fields.calls (which kind : Int) (w : World) (h1 : (Lit.int .i64 which).wf = true) (h2 : (Lit.int .i64 kind).wf = true) :
    Calls Try.prog 27 #[.int .i64 which, .int .i64 kind] w fun e w' => FdsPost w.heap.size (codec_fields.f which kind) e w' ∧ Below w.heap.size w w' := by
  have H1 := Aside0.mk h1
  have H2 := Aside0.mk h2
  clear h1 h2
  go_enter Try.func27, Try.ntmps27
  go_upto_region 1 with (fail)
  rename_i K_ hK_
  refine start_ (n := 51) (S := fun w' => True) (ds := []) #[false, false, false, false, false, false, false, false, false, false, false, false, false, false, false, false, false, false, false, false, false, false, false, false, false, false, false, false, false, false, false, false, false, false, false, false, false, false, false, false, false, false, false, false, false, false, false, false, false, false, false] (by kernel_rfl) rfl rfl trivial (fun hHeld => ?_)
  refine inv_at (List.range 51) (FdsR w.heap.size w) fds_tab fds_bits (by kernel_rfl) (by kernel_rfl) ?_ ?_ ?_
  · exact ⟨0, fun _ => undef, undef, undef, by simp only [fdsL, putSel, Bool.false_eq_true, if_false], ⟨pw_below_drewN (Below.refl _ _) 1, Nat.le_refl _, fun h_ => absurd h_ (by decide), fun _ _ h_ => absurd h_ (by simp)⟩, fun h_ => absurd h_ (by decide), fun h_ => absurd h_ (by decide)⟩
  · rw [show List.range 51 = [0, 1, 2, 3, 4, 5, 6, 7, 8, 9, 10, 11, 12, 13, 14, 15, 16, 17, 18, 19, 20, 21, 22, 23, 24, 25, 26, 27, 28, 29, 30, 31, 32, 33, 34, 35, 36, 37, 38, 39, 40, 41, 42, 43, 44, 45, 46, 47, 48, 49, 50] from rfl]
    refine steps_cons ?_ ?_
    · rintro b a w' ⟨m, r, v1, v2, ha, hI, hv1, hv2⟩ hb_ hon hoff
      refine ⟨_, rfl, fun K hK => ?_⟩
      refine value_ (w1 := w'.alloc (.map #[] 0)) (v := .map (some w'.heap.size)) (by rfl) rfl ?_ ?_
      · go_simp
        try rfl
      refine hK.out _ _ ⟨w'.heap.size, r, v1, v2, (by rw [ha]; exact putSel_upk 0 hb_ rfl rfl rfl), hI.made (fun i hi => ?_), fun h_ => ?_, fun h_ => ?_⟩
      · exact hoff (3 * i + 3) ((by decide : ∀ i, i < 16 → ((List.range 51).contains (3 * i + 3) && (fdsB.getD (3 * i + 3) 0).testBit 0) = true) i hi)
      · rw [up_ne (by decide), (hoff 49 (by kernel_rfl))] at h_; cases h_
      · rw [up_ne (by decide), (hoff 50 (by kernel_rfl))] at h_; cases h_
    refine steps_cons ?_ ?_
    · rintro b a w' ⟨m, r, v1, v2, ha, hI, hv1, hv2⟩ hb_ hon hoff
      refine ⟨_, rfl, fun K hK => ?_⟩
      refine value_ (w1 := w') (v := wayKey 0) (by rfl) rfl ?_ ?_
      · go_simp
        try rfl
      exact hK.out _ _ ⟨m, r, v1, v2, (by rw [ha]; exact putSel_upk 1 hb_ rfl rfl rfl), hI.same (by decide) (by omega) (by omega), (fun h_ => hv1 (by rwa [up_ne (by decide)] at h_)), (fun h_ => hv2 (by rwa [up_ne (by decide)] at h_))⟩
    refine steps_cons ?_ ?_
    · rintro b a w' ⟨m, r, v1, v2, ha, hI, hv1, hv2⟩ hb_ hon hoff
      refine ⟨_, rfl, fun K hK => ?_⟩
      refine value_ (w1 := w'.alloc (.cells (([0, 3, 4, 5, 6, 7, 8] : List Int).map (Value.int .i64)).toArray 3)) (v := .slice (some ⟨w'.heap.size, 0, none⟩) 7 7) (by rfl) rfl ?_ ?_
      · go_simp
        try rfl
      refine hK.out _ _ ⟨m, fun j => if j = 0 then .slice (some ⟨w'.heap.size, 0, none⟩) 7 7 else r j, v1, v2, (by rw [ha]; exact putSel_upk 2 hb_ rfl rfl rfl), hI.row 0 (by decide) (hoff 3 (by kernel_rfl)) [0, 3, 4, 5, 6, 7, 8] rfl, (fun h_ => hv1 (by rwa [up_ne (by decide)] at h_)), (fun h_ => hv2 (by rwa [up_ne (by decide)] at h_))⟩
    refine steps_cons ?_ ?_
    · rintro b a w' ⟨m, r, v1, v2, ha, hI, hv1, hv2⟩ hb_ hon hoff
      refine ⟨_, rfl, fun K hK => ?_⟩
      have e9 : a.tmps[9]? = some (.map (some m)) := by rw [ha]; exact putSel_on (e := (0, 9, (.map (some m)))) 0 rfl rfl (hon 0 (by kernel_rfl)) rfl
      have e10 : a.tmps[10]? = some (wayKey 0) := by rw [ha]; exact putSel_on (e := (1, 10, (wayKey 0))) 1 rfl rfl (hon 1 (by kernel_rfl)) rfl
      have e11 : a.tmps[11]? = some (r 0) := by rw [ha]; exact putSel_on (e := (2, 11, (r 0))) 2 rfl rfl (hon 2 (by kernel_rfl)) rfl
      obtain ⟨w1, h1, h2⟩ := hI.put 0 (by decide) (hon 0 (by kernel_rfl)) hb_
      refine skip_ (w1 := w1) (by rfl) rfl ?_ ?_
      · simp [execOp, Act.eval, e9, e10, e11, h1, Result.andThen]
      exact hK.out _ _ ⟨m, r, v1, v2, (by rw [ha]; exact putSel_none (v := undef) rfl), h2, (fun h_ => hv1 (by rwa [up_ne (by decide)] at h_)), (fun h_ => hv2 (by rwa [up_ne (by decide)] at h_))⟩
    refine steps_cons ?_ ?_
    · rintro b a w' ⟨m, r, v1, v2, ha, hI, hv1, hv2⟩ hb_ hon hoff
      refine ⟨_, rfl, fun K hK => ?_⟩
      refine value_ (w1 := w') (v := wayKey 1) (by rfl) rfl ?_ ?_
      · go_simp
        try rfl
      exact hK.out _ _ ⟨m, r, v1, v2, (by rw [ha]; exact putSel_upk 3 hb_ rfl rfl rfl), hI.same (by decide) (by omega) (by omega), (fun h_ => hv1 (by rwa [up_ne (by decide)] at h_)), (fun h_ => hv2 (by rwa [up_ne (by decide)] at h_))⟩
    refine steps_cons ?_ ?_
    · rintro b a w' ⟨m, r, v1, v2, ha, hI, hv1, hv2⟩ hb_ hon hoff
      refine ⟨_, rfl, fun K hK => ?_⟩
      refine value_ (w1 := w'.alloc (.cells (([0] : List Int).map (Value.int .i64)).toArray 3)) (v := .slice (some ⟨w'.heap.size, 0, none⟩) 1 1) (by rfl) rfl ?_ ?_
      · go_simp
        try rfl
      refine hK.out _ _ ⟨m, fun j => if j = 1 then .slice (some ⟨w'.heap.size, 0, none⟩) 1 1 else r j, v1, v2, (by rw [ha]; exact putSel_upk 4 hb_ rfl rfl rfl), hI.row 1 (by decide) (hoff 6 (by kernel_rfl)) [0] rfl, (fun h_ => hv1 (by rwa [up_ne (by decide)] at h_)), (fun h_ => hv2 (by rwa [up_ne (by decide)] at h_))⟩
    refine steps_cons ?_ ?_
    · rintro b a w' ⟨m, r, v1, v2, ha, hI, hv1, hv2⟩ hb_ hon hoff
      refine ⟨_, rfl, fun K hK => ?_⟩
      have e9 : a.tmps[9]? = some (.map (some m)) := by rw [ha]; exact putSel_on (e := (0, 9, (.map (some m)))) 0 rfl rfl (hon 0 (by kernel_rfl)) rfl
      have e12 : a.tmps[12]? = some (wayKey 1) := by rw [ha]; exact putSel_on (e := (4, 12, (wayKey 1))) 3 rfl rfl (hon 4 (by kernel_rfl)) rfl
      have e13 : a.tmps[13]? = some (r 1) := by rw [ha]; exact putSel_on (e := (5, 13, (r 1))) 4 rfl rfl (hon 5 (by kernel_rfl)) rfl
      obtain ⟨w1, h1, h2⟩ := hI.put 1 (by decide) (hon 0 (by kernel_rfl)) hb_
      refine skip_ (w1 := w1) (by rfl) rfl ?_ ?_
      · simp [execOp, Act.eval, e9, e12, e13, h1, Result.andThen]
      exact hK.out _ _ ⟨m, r, v1, v2, (by rw [ha]; exact putSel_none (v := undef) rfl), h2, (fun h_ => hv1 (by rwa [up_ne (by decide)] at h_)), (fun h_ => hv2 (by rwa [up_ne (by decide)] at h_))⟩
    refine steps_cons ?_ ?_
    · rintro b a w' ⟨m, r, v1, v2, ha, hI, hv1, hv2⟩ hb_ hon hoff
      refine ⟨_, rfl, fun K hK => ?_⟩
      refine value_ (w1 := w') (v := wayKey 2) (by rfl) rfl ?_ ?_
      · go_simp
        try rfl
      exact hK.out _ _ ⟨m, r, v1, v2, (by rw [ha]; exact putSel_upk 5 hb_ rfl rfl rfl), hI.same (by decide) (by omega) (by omega), (fun h_ => hv1 (by rwa [up_ne (by decide)] at h_)), (fun h_ => hv2 (by rwa [up_ne (by decide)] at h_))⟩
    refine steps_cons ?_ ?_
    · rintro b a w' ⟨m, r, v1, v2, ha, hI, hv1, hv2⟩ hb_ hon hoff
      refine ⟨_, rfl, fun K hK => ?_⟩
      refine value_ (w1 := w'.alloc (.cells (([] : List Int).map (Value.int .i64)).toArray 3)) (v := .slice (some ⟨w'.heap.size, 0, none⟩) 0 0) (by rfl) rfl ?_ ?_
      · go_simp
        try rfl
      refine hK.out _ _ ⟨m, fun j => if j = 2 then .slice (some ⟨w'.heap.size, 0, none⟩) 0 0 else r j, v1, v2, (by rw [ha]; exact putSel_upk 6 hb_ rfl rfl rfl), hI.row 2 (by decide) (hoff 9 (by kernel_rfl)) [] rfl, (fun h_ => hv1 (by rwa [up_ne (by decide)] at h_)), (fun h_ => hv2 (by rwa [up_ne (by decide)] at h_))⟩
    refine steps_cons ?_ ?_
    · rintro b a w' ⟨m, r, v1, v2, ha, hI, hv1, hv2⟩ hb_ hon hoff
      refine ⟨_, rfl, fun K hK => ?_⟩
      have e9 : a.tmps[9]? = some (.map (some m)) := by rw [ha]; exact putSel_on (e := (0, 9, (.map (some m)))) 0 rfl rfl (hon 0 (by kernel_rfl)) rfl
      have e14 : a.tmps[14]? = some (wayKey 2) := by rw [ha]; exact putSel_on (e := (7, 14, (wayKey 2))) 5 rfl rfl (hon 7 (by kernel_rfl)) rfl
      have e15 : a.tmps[15]? = some (r 2) := by rw [ha]; exact putSel_on (e := (8, 15, (r 2))) 6 rfl rfl (hon 8 (by kernel_rfl)) rfl
      obtain ⟨w1, h1, h2⟩ := hI.put 2 (by decide) (hon 0 (by kernel_rfl)) hb_
      refine skip_ (w1 := w1) (by rfl) rfl ?_ ?_
      · simp [execOp, Act.eval, e9, e14, e15, h1, Result.andThen]
      exact hK.out _ _ ⟨m, r, v1, v2, (by rw [ha]; exact putSel_none (v := undef) rfl), h2, (fun h_ => hv1 (by rwa [up_ne (by decide)] at h_)), (fun h_ => hv2 (by rwa [up_ne (by decide)] at h_))⟩
    refine steps_cons ?_ ?_
    · rintro b a w' ⟨m, r, v1, v2, ha, hI, hv1, hv2⟩ hb_ hon hoff
      refine ⟨_, rfl, fun K hK => ?_⟩
      refine value_ (w1 := w') (v := wayKey 3) (by rfl) rfl ?_ ?_
      · go_simp
        try rfl
      exact hK.out _ _ ⟨m, r, v1, v2, (by rw [ha]; exact putSel_upk 7 hb_ rfl rfl rfl), hI.same (by decide) (by omega) (by omega), (fun h_ => hv1 (by rwa [up_ne (by decide)] at h_)), (fun h_ => hv2 (by rwa [up_ne (by decide)] at h_))⟩
    refine steps_cons ?_ ?_
    · rintro b a w' ⟨m, r, v1, v2, ha, hI, hv1, hv2⟩ hb_ hon hoff
      refine ⟨_, rfl, fun K hK => ?_⟩
      refine value_ (w1 := w'.alloc (.cells (([0, 2, 9, 10, 16] : List Int).map (Value.int .i64)).toArray 3)) (v := .slice (some ⟨w'.heap.size, 0, none⟩) 5 5) (by rfl) rfl ?_ ?_
      · go_simp
        try rfl
      refine hK.out _ _ ⟨m, fun j => if j = 3 then .slice (some ⟨w'.heap.size, 0, none⟩) 5 5 else r j, v1, v2, (by rw [ha]; exact putSel_upk 8 hb_ rfl rfl rfl), hI.row 3 (by decide) (hoff 12 (by kernel_rfl)) [0, 2, 9, 10, 16] rfl, (fun h_ => hv1 (by rwa [up_ne (by decide)] at h_)), (fun h_ => hv2 (by rwa [up_ne (by decide)] at h_))⟩
    refine steps_cons ?_ ?_
    · rintro b a w' ⟨m, r, v1, v2, ha, hI, hv1, hv2⟩ hb_ hon hoff
      refine ⟨_, rfl, fun K hK => ?_⟩
      have e9 : a.tmps[9]? = some (.map (some m)) := by rw [ha]; exact putSel_on (e := (0, 9, (.map (some m)))) 0 rfl rfl (hon 0 (by kernel_rfl)) rfl
      have e16 : a.tmps[16]? = some (wayKey 3) := by rw [ha]; exact putSel_on (e := (10, 16, (wayKey 3))) 7 rfl rfl (hon 10 (by kernel_rfl)) rfl
      have e17 : a.tmps[17]? = some (r 3) := by rw [ha]; exact putSel_on (e := (11, 17, (r 3))) 8 rfl rfl (hon 11 (by kernel_rfl)) rfl
      obtain ⟨w1, h1, h2⟩ := hI.put 3 (by decide) (hon 0 (by kernel_rfl)) hb_
      refine skip_ (w1 := w1) (by rfl) rfl ?_ ?_
      · simp [execOp, Act.eval, e9, e16, e17, h1, Result.andThen]
      exact hK.out _ _ ⟨m, r, v1, v2, (by rw [ha]; exact putSel_none (v := undef) rfl), h2, (fun h_ => hv1 (by rwa [up_ne (by decide)] at h_)), (fun h_ => hv2 (by rwa [up_ne (by decide)] at h_))⟩
    refine steps_cons ?_ ?_
    · rintro b a w' ⟨m, r, v1, v2, ha, hI, hv1, hv2⟩ hb_ hon hoff
      refine ⟨_, rfl, fun K hK => ?_⟩
      refine value_ (w1 := w') (v := wayKey 4) (by rfl) rfl ?_ ?_
      · go_simp
        try rfl
      exact hK.out _ _ ⟨m, r, v1, v2, (by rw [ha]; exact putSel_upk 9 hb_ rfl rfl rfl), hI.same (by decide) (by omega) (by omega), (fun h_ => hv1 (by rwa [up_ne (by decide)] at h_)), (fun h_ => hv2 (by rwa [up_ne (by decide)] at h_))⟩
    refine steps_cons ?_ ?_
    · rintro b a w' ⟨m, r, v1, v2, ha, hI, hv1, hv2⟩ hb_ hon hoff
      refine ⟨_, rfl, fun K hK => ?_⟩
      refine value_ (w1 := w'.alloc (.cells (([0, 2, 11, 12] : List Int).map (Value.int .i64)).toArray 3)) (v := .slice (some ⟨w'.heap.size, 0, none⟩) 4 4) (by rfl) rfl ?_ ?_
      · go_simp
        try rfl
      refine hK.out _ _ ⟨m, fun j => if j = 4 then .slice (some ⟨w'.heap.size, 0, none⟩) 4 4 else r j, v1, v2, (by rw [ha]; exact putSel_upk 10 hb_ rfl rfl rfl), hI.row 4 (by decide) (hoff 15 (by kernel_rfl)) [0, 2, 11, 12] rfl, (fun h_ => hv1 (by rwa [up_ne (by decide)] at h_)), (fun h_ => hv2 (by rwa [up_ne (by decide)] at h_))⟩
    refine steps_cons ?_ ?_
    · rintro b a w' ⟨m, r, v1, v2, ha, hI, hv1, hv2⟩ hb_ hon hoff
      refine ⟨_, rfl, fun K hK => ?_⟩
      have e9 : a.tmps[9]? = some (.map (some m)) := by rw [ha]; exact putSel_on (e := (0, 9, (.map (some m)))) 0 rfl rfl (hon 0 (by kernel_rfl)) rfl
      have e18 : a.tmps[18]? = some (wayKey 4) := by rw [ha]; exact putSel_on (e := (13, 18, (wayKey 4))) 9 rfl rfl (hon 13 (by kernel_rfl)) rfl
      have e19 : a.tmps[19]? = some (r 4) := by rw [ha]; exact putSel_on (e := (14, 19, (r 4))) 10 rfl rfl (hon 14 (by kernel_rfl)) rfl
      obtain ⟨w1, h1, h2⟩ := hI.put 4 (by decide) (hon 0 (by kernel_rfl)) hb_
      refine skip_ (w1 := w1) (by rfl) rfl ?_ ?_
      · simp [execOp, Act.eval, e9, e18, e19, h1, Result.andThen]
      exact hK.out _ _ ⟨m, r, v1, v2, (by rw [ha]; exact putSel_none (v := undef) rfl), h2, (fun h_ => hv1 (by rwa [up_ne (by decide)] at h_)), (fun h_ => hv2 (by rwa [up_ne (by decide)] at h_))⟩
    refine steps_cons ?_ ?_
    · rintro b a w' ⟨m, r, v1, v2, ha, hI, hv1, hv2⟩ hb_ hon hoff
      refine ⟨_, rfl, fun K hK => ?_⟩
      refine value_ (w1 := w') (v := wayKey 5) (by rfl) rfl ?_ ?_
      · go_simp
        try rfl
      exact hK.out _ _ ⟨m, r, v1, v2, (by rw [ha]; exact putSel_upk 11 hb_ rfl rfl rfl), hI.same (by decide) (by omega) (by omega), (fun h_ => hv1 (by rwa [up_ne (by decide)] at h_)), (fun h_ => hv2 (by rwa [up_ne (by decide)] at h_))⟩
    refine steps_cons ?_ ?_
    · rintro b a w' ⟨m, r, v1, v2, ha, hI, hv1, hv2⟩ hb_ hon hoff
      refine ⟨_, rfl, fun K hK => ?_⟩
      refine value_ (w1 := w'.alloc (.cells (([0, 2, 13] : List Int).map (Value.int .i64)).toArray 3)) (v := .slice (some ⟨w'.heap.size, 0, none⟩) 3 3) (by rfl) rfl ?_ ?_
      · go_simp
        try rfl
      refine hK.out _ _ ⟨m, fun j => if j = 5 then .slice (some ⟨w'.heap.size, 0, none⟩) 3 3 else r j, v1, v2, (by rw [ha]; exact putSel_upk 12 hb_ rfl rfl rfl), hI.row 5 (by decide) (hoff 18 (by kernel_rfl)) [0, 2, 13] rfl, (fun h_ => hv1 (by rwa [up_ne (by decide)] at h_)), (fun h_ => hv2 (by rwa [up_ne (by decide)] at h_))⟩
    refine steps_cons ?_ ?_
    · rintro b a w' ⟨m, r, v1, v2, ha, hI, hv1, hv2⟩ hb_ hon hoff
      refine ⟨_, rfl, fun K hK => ?_⟩
      have e9 : a.tmps[9]? = some (.map (some m)) := by rw [ha]; exact putSel_on (e := (0, 9, (.map (some m)))) 0 rfl rfl (hon 0 (by kernel_rfl)) rfl
      have e20 : a.tmps[20]? = some (wayKey 5) := by rw [ha]; exact putSel_on (e := (16, 20, (wayKey 5))) 11 rfl rfl (hon 16 (by kernel_rfl)) rfl
      have e21 : a.tmps[21]? = some (r 5) := by rw [ha]; exact putSel_on (e := (17, 21, (r 5))) 12 rfl rfl (hon 17 (by kernel_rfl)) rfl
      obtain ⟨w1, h1, h2⟩ := hI.put 5 (by decide) (hon 0 (by kernel_rfl)) hb_
      refine skip_ (w1 := w1) (by rfl) rfl ?_ ?_
      · simp [execOp, Act.eval, e9, e20, e21, h1, Result.andThen]
      exact hK.out _ _ ⟨m, r, v1, v2, (by rw [ha]; exact putSel_none (v := undef) rfl), h2, (fun h_ => hv1 (by rwa [up_ne (by decide)] at h_)), (fun h_ => hv2 (by rwa [up_ne (by decide)] at h_))⟩
    refine steps_cons ?_ ?_
    · rintro b a w' ⟨m, r, v1, v2, ha, hI, hv1, hv2⟩ hb_ hon hoff
      refine ⟨_, rfl, fun K hK => ?_⟩
      refine value_ (w1 := w') (v := wayKey 6) (by rfl) rfl ?_ ?_
      · go_simp
        try rfl
      exact hK.out _ _ ⟨m, r, v1, v2, (by rw [ha]; exact putSel_upk 13 hb_ rfl rfl rfl), hI.same (by decide) (by omega) (by omega), (fun h_ => hv1 (by rwa [up_ne (by decide)] at h_)), (fun h_ => hv2 (by rwa [up_ne (by decide)] at h_))⟩
    refine steps_cons ?_ ?_
    · rintro b a w' ⟨m, r, v1, v2, ha, hI, hv1, hv2⟩ hb_ hon hoff
      refine ⟨_, rfl, fun K hK => ?_⟩
      refine value_ (w1 := w'.alloc (.cells (([1, 0, 2, 11] : List Int).map (Value.int .i64)).toArray 3)) (v := .slice (some ⟨w'.heap.size, 0, none⟩) 4 4) (by rfl) rfl ?_ ?_
      · go_simp
        try rfl
      refine hK.out _ _ ⟨m, fun j => if j = 6 then .slice (some ⟨w'.heap.size, 0, none⟩) 4 4 else r j, v1, v2, (by rw [ha]; exact putSel_upk 14 hb_ rfl rfl rfl), hI.row 6 (by decide) (hoff 21 (by kernel_rfl)) [1, 0, 2, 11] rfl, (fun h_ => hv1 (by rwa [up_ne (by decide)] at h_)), (fun h_ => hv2 (by rwa [up_ne (by decide)] at h_))⟩
    refine steps_cons ?_ ?_
    · rintro b a w' ⟨m, r, v1, v2, ha, hI, hv1, hv2⟩ hb_ hon hoff
      refine ⟨_, rfl, fun K hK => ?_⟩
      have e9 : a.tmps[9]? = some (.map (some m)) := by rw [ha]; exact putSel_on (e := (0, 9, (.map (some m)))) 0 rfl rfl (hon 0 (by kernel_rfl)) rfl
      have e22 : a.tmps[22]? = some (wayKey 6) := by rw [ha]; exact putSel_on (e := (19, 22, (wayKey 6))) 13 rfl rfl (hon 19 (by kernel_rfl)) rfl
      have e23 : a.tmps[23]? = some (r 6) := by rw [ha]; exact putSel_on (e := (20, 23, (r 6))) 14 rfl rfl (hon 20 (by kernel_rfl)) rfl
      obtain ⟨w1, h1, h2⟩ := hI.put 6 (by decide) (hon 0 (by kernel_rfl)) hb_
      refine skip_ (w1 := w1) (by rfl) rfl ?_ ?_
      · simp [execOp, Act.eval, e9, e22, e23, h1, Result.andThen]
      exact hK.out _ _ ⟨m, r, v1, v2, (by rw [ha]; exact putSel_none (v := undef) rfl), h2, (fun h_ => hv1 (by rwa [up_ne (by decide)] at h_)), (fun h_ => hv2 (by rwa [up_ne (by decide)] at h_))⟩
    refine steps_cons ?_ ?_
    · rintro b a w' ⟨m, r, v1, v2, ha, hI, hv1, hv2⟩ hb_ hon hoff
      refine ⟨_, rfl, fun K hK => ?_⟩
      refine value_ (w1 := w') (v := wayKey 7) (by rfl) rfl ?_ ?_
      · go_simp
        try rfl
      exact hK.out _ _ ⟨m, r, v1, v2, (by rw [ha]; exact putSel_upk 15 hb_ rfl rfl rfl), hI.same (by decide) (by omega) (by omega), (fun h_ => hv1 (by rwa [up_ne (by decide)] at h_)), (fun h_ => hv2 (by rwa [up_ne (by decide)] at h_))⟩
    refine steps_cons ?_ ?_
    · rintro b a w' ⟨m, r, v1, v2, ha, hI, hv1, hv2⟩ hb_ hon hoff
      refine ⟨_, rfl, fun K hK => ?_⟩
      refine value_ (w1 := w'.alloc (.cells (([1, 0, 2] : List Int).map (Value.int .i64)).toArray 3)) (v := .slice (some ⟨w'.heap.size, 0, none⟩) 3 3) (by rfl) rfl ?_ ?_
      · go_simp
        try rfl
      refine hK.out _ _ ⟨m, fun j => if j = 7 then .slice (some ⟨w'.heap.size, 0, none⟩) 3 3 else r j, v1, v2, (by rw [ha]; exact putSel_upk 16 hb_ rfl rfl rfl), hI.row 7 (by decide) (hoff 24 (by kernel_rfl)) [1, 0, 2] rfl, (fun h_ => hv1 (by rwa [up_ne (by decide)] at h_)), (fun h_ => hv2 (by rwa [up_ne (by decide)] at h_))⟩
    refine steps_cons ?_ ?_
    · rintro b a w' ⟨m, r, v1, v2, ha, hI, hv1, hv2⟩ hb_ hon hoff
      refine ⟨_, rfl, fun K hK => ?_⟩
      have e9 : a.tmps[9]? = some (.map (some m)) := by rw [ha]; exact putSel_on (e := (0, 9, (.map (some m)))) 0 rfl rfl (hon 0 (by kernel_rfl)) rfl
      have e24 : a.tmps[24]? = some (wayKey 7) := by rw [ha]; exact putSel_on (e := (22, 24, (wayKey 7))) 15 rfl rfl (hon 22 (by kernel_rfl)) rfl
      have e25 : a.tmps[25]? = some (r 7) := by rw [ha]; exact putSel_on (e := (23, 25, (r 7))) 16 rfl rfl (hon 23 (by kernel_rfl)) rfl
      obtain ⟨w1, h1, h2⟩ := hI.put 7 (by decide) (hon 0 (by kernel_rfl)) hb_
      refine skip_ (w1 := w1) (by rfl) rfl ?_ ?_
      · simp [execOp, Act.eval, e9, e24, e25, h1, Result.andThen]
      exact hK.out _ _ ⟨m, r, v1, v2, (by rw [ha]; exact putSel_none (v := undef) rfl), h2, (fun h_ => hv1 (by rwa [up_ne (by decide)] at h_)), (fun h_ => hv2 (by rwa [up_ne (by decide)] at h_))⟩
    refine steps_cons ?_ ?_
    · rintro b a w' ⟨m, r, v1, v2, ha, hI, hv1, hv2⟩ hb_ hon hoff
      refine ⟨_, rfl, fun K hK => ?_⟩
      refine value_ (w1 := w') (v := wayKey 8) (by rfl) rfl ?_ ?_
      · go_simp
        try rfl
      exact hK.out _ _ ⟨m, r, v1, v2, (by rw [ha]; exact putSel_upk 17 hb_ rfl rfl rfl), hI.same (by decide) (by omega) (by omega), (fun h_ => hv1 (by rwa [up_ne (by decide)] at h_)), (fun h_ => hv2 (by rwa [up_ne (by decide)] at h_))⟩
    refine steps_cons ?_ ?_
    · rintro b a w' ⟨m, r, v1, v2, ha, hI, hv1, hv2⟩ hb_ hon hoff
      refine ⟨_, rfl, fun K hK => ?_⟩
      refine value_ (w1 := w'.alloc (.cells (([] : List Int).map (Value.int .i64)).toArray 3)) (v := .slice (some ⟨w'.heap.size, 0, none⟩) 0 0) (by rfl) rfl ?_ ?_
      · go_simp
        try rfl
      refine hK.out _ _ ⟨m, fun j => if j = 8 then .slice (some ⟨w'.heap.size, 0, none⟩) 0 0 else r j, v1, v2, (by rw [ha]; exact putSel_upk 18 hb_ rfl rfl rfl), hI.row 8 (by decide) (hoff 27 (by kernel_rfl)) [] rfl, (fun h_ => hv1 (by rwa [up_ne (by decide)] at h_)), (fun h_ => hv2 (by rwa [up_ne (by decide)] at h_))⟩
    refine steps_cons ?_ ?_
    · rintro b a w' ⟨m, r, v1, v2, ha, hI, hv1, hv2⟩ hb_ hon hoff
      refine ⟨_, rfl, fun K hK => ?_⟩
      have e9 : a.tmps[9]? = some (.map (some m)) := by rw [ha]; exact putSel_on (e := (0, 9, (.map (some m)))) 0 rfl rfl (hon 0 (by kernel_rfl)) rfl
      have e26 : a.tmps[26]? = some (wayKey 8) := by rw [ha]; exact putSel_on (e := (25, 26, (wayKey 8))) 17 rfl rfl (hon 25 (by kernel_rfl)) rfl
      have e27 : a.tmps[27]? = some (r 8) := by rw [ha]; exact putSel_on (e := (26, 27, (r 8))) 18 rfl rfl (hon 26 (by kernel_rfl)) rfl
      obtain ⟨w1, h1, h2⟩ := hI.put 8 (by decide) (hon 0 (by kernel_rfl)) hb_
      refine skip_ (w1 := w1) (by rfl) rfl ?_ ?_
      · simp [execOp, Act.eval, e9, e26, e27, h1, Result.andThen]
      exact hK.out _ _ ⟨m, r, v1, v2, (by rw [ha]; exact putSel_none (v := undef) rfl), h2, (fun h_ => hv1 (by rwa [up_ne (by decide)] at h_)), (fun h_ => hv2 (by rwa [up_ne (by decide)] at h_))⟩
    refine steps_cons ?_ ?_
    · rintro b a w' ⟨m, r, v1, v2, ha, hI, hv1, hv2⟩ hb_ hon hoff
      refine ⟨_, rfl, fun K hK => ?_⟩
      refine value_ (w1 := w') (v := wayKey 9) (by rfl) rfl ?_ ?_
      · go_simp
        try rfl
      exact hK.out _ _ ⟨m, r, v1, v2, (by rw [ha]; exact putSel_upk 19 hb_ rfl rfl rfl), hI.same (by decide) (by omega) (by omega), (fun h_ => hv1 (by rwa [up_ne (by decide)] at h_)), (fun h_ => hv2 (by rwa [up_ne (by decide)] at h_))⟩
    refine steps_cons ?_ ?_
    · rintro b a w' ⟨m, r, v1, v2, ha, hI, hv1, hv2⟩ hb_ hon hoff
      refine ⟨_, rfl, fun K hK => ?_⟩
      refine value_ (w1 := w'.alloc (.cells (([] : List Int).map (Value.int .i64)).toArray 3)) (v := .slice (some ⟨w'.heap.size, 0, none⟩) 0 0) (by rfl) rfl ?_ ?_
      · go_simp
        try rfl
      refine hK.out _ _ ⟨m, fun j => if j = 9 then .slice (some ⟨w'.heap.size, 0, none⟩) 0 0 else r j, v1, v2, (by rw [ha]; exact putSel_upk 20 hb_ rfl rfl rfl), hI.row 9 (by decide) (hoff 30 (by kernel_rfl)) [] rfl, (fun h_ => hv1 (by rwa [up_ne (by decide)] at h_)), (fun h_ => hv2 (by rwa [up_ne (by decide)] at h_))⟩
    refine steps_cons ?_ ?_
    · rintro b a w' ⟨m, r, v1, v2, ha, hI, hv1, hv2⟩ hb_ hon hoff
      refine ⟨_, rfl, fun K hK => ?_⟩
      have e9 : a.tmps[9]? = some (.map (some m)) := by rw [ha]; exact putSel_on (e := (0, 9, (.map (some m)))) 0 rfl rfl (hon 0 (by kernel_rfl)) rfl
      have e28 : a.tmps[28]? = some (wayKey 9) := by rw [ha]; exact putSel_on (e := (28, 28, (wayKey 9))) 19 rfl rfl (hon 28 (by kernel_rfl)) rfl
      have e29 : a.tmps[29]? = some (r 9) := by rw [ha]; exact putSel_on (e := (29, 29, (r 9))) 20 rfl rfl (hon 29 (by kernel_rfl)) rfl
      obtain ⟨w1, h1, h2⟩ := hI.put 9 (by decide) (hon 0 (by kernel_rfl)) hb_
      refine skip_ (w1 := w1) (by rfl) rfl ?_ ?_
      · simp [execOp, Act.eval, e9, e28, e29, h1, Result.andThen]
      exact hK.out _ _ ⟨m, r, v1, v2, (by rw [ha]; exact putSel_none (v := undef) rfl), h2, (fun h_ => hv1 (by rwa [up_ne (by decide)] at h_)), (fun h_ => hv2 (by rwa [up_ne (by decide)] at h_))⟩
    refine steps_cons ?_ ?_
    · rintro b a w' ⟨m, r, v1, v2, ha, hI, hv1, hv2⟩ hb_ hon hoff
      refine ⟨_, rfl, fun K hK => ?_⟩
      refine value_ (w1 := w') (v := wayKey 10) (by rfl) rfl ?_ ?_
      · go_simp
        try rfl
      exact hK.out _ _ ⟨m, r, v1, v2, (by rw [ha]; exact putSel_upk 21 hb_ rfl rfl rfl), hI.same (by decide) (by omega) (by omega), (fun h_ => hv1 (by rwa [up_ne (by decide)] at h_)), (fun h_ => hv2 (by rwa [up_ne (by decide)] at h_))⟩
    refine steps_cons ?_ ?_
    · rintro b a w' ⟨m, r, v1, v2, ha, hI, hv1, hv2⟩ hb_ hon hoff
      refine ⟨_, rfl, fun K hK => ?_⟩
      refine value_ (w1 := w'.alloc (.cells (([17, 18] : List Int).map (Value.int .i64)).toArray 3)) (v := .slice (some ⟨w'.heap.size, 0, none⟩) 2 2) (by rfl) rfl ?_ ?_
      · go_simp
        try rfl
      refine hK.out _ _ ⟨m, fun j => if j = 10 then .slice (some ⟨w'.heap.size, 0, none⟩) 2 2 else r j, v1, v2, (by rw [ha]; exact putSel_upk 22 hb_ rfl rfl rfl), hI.row 10 (by decide) (hoff 33 (by kernel_rfl)) [17, 18] rfl, (fun h_ => hv1 (by rwa [up_ne (by decide)] at h_)), (fun h_ => hv2 (by rwa [up_ne (by decide)] at h_))⟩
    refine steps_cons ?_ ?_
    · rintro b a w' ⟨m, r, v1, v2, ha, hI, hv1, hv2⟩ hb_ hon hoff
      refine ⟨_, rfl, fun K hK => ?_⟩
      have e9 : a.tmps[9]? = some (.map (some m)) := by rw [ha]; exact putSel_on (e := (0, 9, (.map (some m)))) 0 rfl rfl (hon 0 (by kernel_rfl)) rfl
      have e30 : a.tmps[30]? = some (wayKey 10) := by rw [ha]; exact putSel_on (e := (31, 30, (wayKey 10))) 21 rfl rfl (hon 31 (by kernel_rfl)) rfl
      have e31 : a.tmps[31]? = some (r 10) := by rw [ha]; exact putSel_on (e := (32, 31, (r 10))) 22 rfl rfl (hon 32 (by kernel_rfl)) rfl
      obtain ⟨w1, h1, h2⟩ := hI.put 10 (by decide) (hon 0 (by kernel_rfl)) hb_
      refine skip_ (w1 := w1) (by rfl) rfl ?_ ?_
      · simp [execOp, Act.eval, e9, e30, e31, h1, Result.andThen]
      exact hK.out _ _ ⟨m, r, v1, v2, (by rw [ha]; exact putSel_none (v := undef) rfl), h2, (fun h_ => hv1 (by rwa [up_ne (by decide)] at h_)), (fun h_ => hv2 (by rwa [up_ne (by decide)] at h_))⟩
    refine steps_cons ?_ ?_
    · rintro b a w' ⟨m, r, v1, v2, ha, hI, hv1, hv2⟩ hb_ hon hoff
      refine ⟨_, rfl, fun K hK => ?_⟩
      refine value_ (w1 := w') (v := wayKey 11) (by rfl) rfl ?_ ?_
      · go_simp
        try rfl
      exact hK.out _ _ ⟨m, r, v1, v2, (by rw [ha]; exact putSel_upk 23 hb_ rfl rfl rfl), hI.same (by decide) (by omega) (by omega), (fun h_ => hv1 (by rwa [up_ne (by decide)] at h_)), (fun h_ => hv2 (by rwa [up_ne (by decide)] at h_))⟩
    refine steps_cons ?_ ?_
    · rintro b a w' ⟨m, r, v1, v2, ha, hI, hv1, hv2⟩ hb_ hon hoff
      refine ⟨_, rfl, fun K hK => ?_⟩
      refine value_ (w1 := w'.alloc (.cells (([11, 14, 15] : List Int).map (Value.int .i64)).toArray 3)) (v := .slice (some ⟨w'.heap.size, 0, none⟩) 3 3) (by rfl) rfl ?_ ?_
      · go_simp
        try rfl
      refine hK.out _ _ ⟨m, fun j => if j = 11 then .slice (some ⟨w'.heap.size, 0, none⟩) 3 3 else r j, v1, v2, (by rw [ha]; exact putSel_upk 24 hb_ rfl rfl rfl), hI.row 11 (by decide) (hoff 36 (by kernel_rfl)) [11, 14, 15] rfl, (fun h_ => hv1 (by rwa [up_ne (by decide)] at h_)), (fun h_ => hv2 (by rwa [up_ne (by decide)] at h_))⟩
    refine steps_cons ?_ ?_
    · rintro b a w' ⟨m, r, v1, v2, ha, hI, hv1, hv2⟩ hb_ hon hoff
      refine ⟨_, rfl, fun K hK => ?_⟩
      have e9 : a.tmps[9]? = some (.map (some m)) := by rw [ha]; exact putSel_on (e := (0, 9, (.map (some m)))) 0 rfl rfl (hon 0 (by kernel_rfl)) rfl
      have e32 : a.tmps[32]? = some (wayKey 11) := by rw [ha]; exact putSel_on (e := (34, 32, (wayKey 11))) 23 rfl rfl (hon 34 (by kernel_rfl)) rfl
      have e33 : a.tmps[33]? = some (r 11) := by rw [ha]; exact putSel_on (e := (35, 33, (r 11))) 24 rfl rfl (hon 35 (by kernel_rfl)) rfl
      obtain ⟨w1, h1, h2⟩ := hI.put 11 (by decide) (hon 0 (by kernel_rfl)) hb_
      refine skip_ (w1 := w1) (by rfl) rfl ?_ ?_
      · simp [execOp, Act.eval, e9, e32, e33, h1, Result.andThen]
      exact hK.out _ _ ⟨m, r, v1, v2, (by rw [ha]; exact putSel_none (v := undef) rfl), h2, (fun h_ => hv1 (by rwa [up_ne (by decide)] at h_)), (fun h_ => hv2 (by rwa [up_ne (by decide)] at h_))⟩
    refine steps_cons ?_ ?_
    · rintro b a w' ⟨m, r, v1, v2, ha, hI, hv1, hv2⟩ hb_ hon hoff
      refine ⟨_, rfl, fun K hK => ?_⟩
      refine value_ (w1 := w') (v := wayKey 12) (by rfl) rfl ?_ ?_
      · go_simp
        try rfl
      exact hK.out _ _ ⟨m, r, v1, v2, (by rw [ha]; exact putSel_upk 25 hb_ rfl rfl rfl), hI.same (by decide) (by omega) (by omega), (fun h_ => hv1 (by rwa [up_ne (by decide)] at h_)), (fun h_ => hv2 (by rwa [up_ne (by decide)] at h_))⟩
    refine steps_cons ?_ ?_
    · rintro b a w' ⟨m, r, v1, v2, ha, hI, hv1, hv2⟩ hb_ hon hoff
      refine ⟨_, rfl, fun K hK => ?_⟩
      refine value_ (w1 := w'.alloc (.cells (([14, 15, 19] : List Int).map (Value.int .i64)).toArray 3)) (v := .slice (some ⟨w'.heap.size, 0, none⟩) 3 3) (by rfl) rfl ?_ ?_
      · go_simp
        try rfl
      refine hK.out _ _ ⟨m, fun j => if j = 12 then .slice (some ⟨w'.heap.size, 0, none⟩) 3 3 else r j, v1, v2, (by rw [ha]; exact putSel_upk 26 hb_ rfl rfl rfl), hI.row 12 (by decide) (hoff 39 (by kernel_rfl)) [14, 15, 19] rfl, (fun h_ => hv1 (by rwa [up_ne (by decide)] at h_)), (fun h_ => hv2 (by rwa [up_ne (by decide)] at h_))⟩
    refine steps_cons ?_ ?_
    · rintro b a w' ⟨m, r, v1, v2, ha, hI, hv1, hv2⟩ hb_ hon hoff
      refine ⟨_, rfl, fun K hK => ?_⟩
      have e9 : a.tmps[9]? = some (.map (some m)) := by rw [ha]; exact putSel_on (e := (0, 9, (.map (some m)))) 0 rfl rfl (hon 0 (by kernel_rfl)) rfl
      have e34 : a.tmps[34]? = some (wayKey 12) := by rw [ha]; exact putSel_on (e := (37, 34, (wayKey 12))) 25 rfl rfl (hon 37 (by kernel_rfl)) rfl
      have e35 : a.tmps[35]? = some (r 12) := by rw [ha]; exact putSel_on (e := (38, 35, (r 12))) 26 rfl rfl (hon 38 (by kernel_rfl)) rfl
      obtain ⟨w1, h1, h2⟩ := hI.put 12 (by decide) (hon 0 (by kernel_rfl)) hb_
      refine skip_ (w1 := w1) (by rfl) rfl ?_ ?_
      · simp [execOp, Act.eval, e9, e34, e35, h1, Result.andThen]
      exact hK.out _ _ ⟨m, r, v1, v2, (by rw [ha]; exact putSel_none (v := undef) rfl), h2, (fun h_ => hv1 (by rwa [up_ne (by decide)] at h_)), (fun h_ => hv2 (by rwa [up_ne (by decide)] at h_))⟩
    refine steps_cons ?_ ?_
    · rintro b a w' ⟨m, r, v1, v2, ha, hI, hv1, hv2⟩ hb_ hon hoff
      refine ⟨_, rfl, fun K hK => ?_⟩
      refine value_ (w1 := w') (v := wayKey 13) (by rfl) rfl ?_ ?_
      · go_simp
        try rfl
      exact hK.out _ _ ⟨m, r, v1, v2, (by rw [ha]; exact putSel_upk 27 hb_ rfl rfl rfl), hI.same (by decide) (by omega) (by omega), (fun h_ => hv1 (by rwa [up_ne (by decide)] at h_)), (fun h_ => hv2 (by rwa [up_ne (by decide)] at h_))⟩
    refine steps_cons ?_ ?_
    · rintro b a w' ⟨m, r, v1, v2, ha, hI, hv1, hv2⟩ hb_ hon hoff
      refine ⟨_, rfl, fun K hK => ?_⟩
      refine value_ (w1 := w'.alloc (.cells (([11, 14, 15] : List Int).map (Value.int .i64)).toArray 3)) (v := .slice (some ⟨w'.heap.size, 0, none⟩) 3 3) (by rfl) rfl ?_ ?_
      · go_simp
        try rfl
      refine hK.out _ _ ⟨m, fun j => if j = 13 then .slice (some ⟨w'.heap.size, 0, none⟩) 3 3 else r j, v1, v2, (by rw [ha]; exact putSel_upk 28 hb_ rfl rfl rfl), hI.row 13 (by decide) (hoff 42 (by kernel_rfl)) [11, 14, 15] rfl, (fun h_ => hv1 (by rwa [up_ne (by decide)] at h_)), (fun h_ => hv2 (by rwa [up_ne (by decide)] at h_))⟩
    refine steps_cons ?_ ?_
    · rintro b a w' ⟨m, r, v1, v2, ha, hI, hv1, hv2⟩ hb_ hon hoff
      refine ⟨_, rfl, fun K hK => ?_⟩
      have e9 : a.tmps[9]? = some (.map (some m)) := by rw [ha]; exact putSel_on (e := (0, 9, (.map (some m)))) 0 rfl rfl (hon 0 (by kernel_rfl)) rfl
      have e36 : a.tmps[36]? = some (wayKey 13) := by rw [ha]; exact putSel_on (e := (40, 36, (wayKey 13))) 27 rfl rfl (hon 40 (by kernel_rfl)) rfl
      have e37 : a.tmps[37]? = some (r 13) := by rw [ha]; exact putSel_on (e := (41, 37, (r 13))) 28 rfl rfl (hon 41 (by kernel_rfl)) rfl
      obtain ⟨w1, h1, h2⟩ := hI.put 13 (by decide) (hon 0 (by kernel_rfl)) hb_
      refine skip_ (w1 := w1) (by rfl) rfl ?_ ?_
      · simp [execOp, Act.eval, e9, e36, e37, h1, Result.andThen]
      exact hK.out _ _ ⟨m, r, v1, v2, (by rw [ha]; exact putSel_none (v := undef) rfl), h2, (fun h_ => hv1 (by rwa [up_ne (by decide)] at h_)), (fun h_ => hv2 (by rwa [up_ne (by decide)] at h_))⟩
    refine steps_cons ?_ ?_
    · rintro b a w' ⟨m, r, v1, v2, ha, hI, hv1, hv2⟩ hb_ hon hoff
      refine ⟨_, rfl, fun K hK => ?_⟩
      refine value_ (w1 := w') (v := wayKey 14) (by rfl) rfl ?_ ?_
      · go_simp
        try rfl
      exact hK.out _ _ ⟨m, r, v1, v2, (by rw [ha]; exact putSel_upk 29 hb_ rfl rfl rfl), hI.same (by decide) (by omega) (by omega), (fun h_ => hv1 (by rwa [up_ne (by decide)] at h_)), (fun h_ => hv2 (by rwa [up_ne (by decide)] at h_))⟩
    refine steps_cons ?_ ?_
    · rintro b a w' ⟨m, r, v1, v2, ha, hI, hv1, hv2⟩ hb_ hon hoff
      refine ⟨_, rfl, fun K hK => ?_⟩
      refine value_ (w1 := w'.alloc (.cells (([] : List Int).map (Value.int .i64)).toArray 3)) (v := .slice (some ⟨w'.heap.size, 0, none⟩) 0 0) (by rfl) rfl ?_ ?_
      · go_simp
        try rfl
      refine hK.out _ _ ⟨m, fun j => if j = 14 then .slice (some ⟨w'.heap.size, 0, none⟩) 0 0 else r j, v1, v2, (by rw [ha]; exact putSel_upk 30 hb_ rfl rfl rfl), hI.row 14 (by decide) (hoff 45 (by kernel_rfl)) [] rfl, (fun h_ => hv1 (by rwa [up_ne (by decide)] at h_)), (fun h_ => hv2 (by rwa [up_ne (by decide)] at h_))⟩
    refine steps_cons ?_ ?_
    · rintro b a w' ⟨m, r, v1, v2, ha, hI, hv1, hv2⟩ hb_ hon hoff
      refine ⟨_, rfl, fun K hK => ?_⟩
      have e9 : a.tmps[9]? = some (.map (some m)) := by rw [ha]; exact putSel_on (e := (0, 9, (.map (some m)))) 0 rfl rfl (hon 0 (by kernel_rfl)) rfl
      have e38 : a.tmps[38]? = some (wayKey 14) := by rw [ha]; exact putSel_on (e := (43, 38, (wayKey 14))) 29 rfl rfl (hon 43 (by kernel_rfl)) rfl
      have e39 : a.tmps[39]? = some (r 14) := by rw [ha]; exact putSel_on (e := (44, 39, (r 14))) 30 rfl rfl (hon 44 (by kernel_rfl)) rfl
      obtain ⟨w1, h1, h2⟩ := hI.put 14 (by decide) (hon 0 (by kernel_rfl)) hb_
      refine skip_ (w1 := w1) (by rfl) rfl ?_ ?_
      · simp [execOp, Act.eval, e9, e38, e39, h1, Result.andThen]
      exact hK.out _ _ ⟨m, r, v1, v2, (by rw [ha]; exact putSel_none (v := undef) rfl), h2, (fun h_ => hv1 (by rwa [up_ne (by decide)] at h_)), (fun h_ => hv2 (by rwa [up_ne (by decide)] at h_))⟩
    refine steps_cons ?_ ?_
    · rintro b a w' ⟨m, r, v1, v2, ha, hI, hv1, hv2⟩ hb_ hon hoff
      refine ⟨_, rfl, fun K hK => ?_⟩
      refine value_ (w1 := w') (v := wayKey 15) (by rfl) rfl ?_ ?_
      · go_simp
        try rfl
      exact hK.out _ _ ⟨m, r, v1, v2, (by rw [ha]; exact putSel_upk 31 hb_ rfl rfl rfl), hI.same (by decide) (by omega) (by omega), (fun h_ => hv1 (by rwa [up_ne (by decide)] at h_)), (fun h_ => hv2 (by rwa [up_ne (by decide)] at h_))⟩
    refine steps_cons ?_ ?_
    · rintro b a w' ⟨m, r, v1, v2, ha, hI, hv1, hv2⟩ hb_ hon hoff
      refine ⟨_, rfl, fun K hK => ?_⟩
      refine value_ (w1 := w'.alloc (.cells (([11] : List Int).map (Value.int .i64)).toArray 3)) (v := .slice (some ⟨w'.heap.size, 0, none⟩) 1 1) (by rfl) rfl ?_ ?_
      · go_simp
        try rfl
      refine hK.out _ _ ⟨m, fun j => if j = 15 then .slice (some ⟨w'.heap.size, 0, none⟩) 1 1 else r j, v1, v2, (by rw [ha]; exact putSel_upk 32 hb_ rfl rfl rfl), hI.row 15 (by decide) (hoff 48 (by kernel_rfl)) [11] rfl, (fun h_ => hv1 (by rwa [up_ne (by decide)] at h_)), (fun h_ => hv2 (by rwa [up_ne (by decide)] at h_))⟩
    refine steps_cons ?_ ?_
    · rintro b a w' ⟨m, r, v1, v2, ha, hI, hv1, hv2⟩ hb_ hon hoff
      refine ⟨_, rfl, fun K hK => ?_⟩
      have e9 : a.tmps[9]? = some (.map (some m)) := by rw [ha]; exact putSel_on (e := (0, 9, (.map (some m)))) 0 rfl rfl (hon 0 (by kernel_rfl)) rfl
      have e40 : a.tmps[40]? = some (wayKey 15) := by rw [ha]; exact putSel_on (e := (46, 40, (wayKey 15))) 31 rfl rfl (hon 46 (by kernel_rfl)) rfl
      have e41 : a.tmps[41]? = some (r 15) := by rw [ha]; exact putSel_on (e := (47, 41, (r 15))) 32 rfl rfl (hon 47 (by kernel_rfl)) rfl
      obtain ⟨w1, h1, h2⟩ := hI.put 15 (by decide) (hon 0 (by kernel_rfl)) hb_
      refine skip_ (w1 := w1) (by rfl) rfl ?_ ?_
      · simp [execOp, Act.eval, e9, e40, e41, h1, Result.andThen]
      exact hK.out _ _ ⟨m, r, v1, v2, (by rw [ha]; exact putSel_none (v := undef) rfl), h2, (fun h_ => hv1 (by rwa [up_ne (by decide)] at h_)), (fun h_ => hv2 (by rwa [up_ne (by decide)] at h_))⟩
    refine steps_cons ?_ ?_
    · rintro b a w' ⟨m, r, v1, v2, ha, hI, hv1, hv2⟩ hb_ hon hoff
      refine ⟨_, rfl, fun K hK => ?_⟩
      have e9 : a.tmps[9]? = some (.map (some m)) := by rw [ha]; exact putSel_on (e := (0, 9, (.map (some m)))) 0 rfl rfl (hon 0 (by kernel_rfl)) rfl
      refine value_ (w1 := w') (v := .map (some m)) (by rfl) rfl ?_ ?_
      · simp [execOp, Act.eval, e9]
      exact hK.out _ _ ⟨m, r, .map (some m), v2, (by rw [ha]; exact putSel_upk 33 hb_ rfl rfl rfl), hI.same (by decide) (by omega) (by omega), fun _ => rfl, (fun h_ => hv2 (by rwa [up_ne (by decide)] at h_))⟩
    refine steps_cons ?_ ?_
    · rintro b a w' ⟨m, r, v1, v2, ha, hI, hv1, hv2⟩ hb_ hon hoff
      refine ⟨_, rfl, fun K hK => ?_⟩
      have e42 : a.tmps[42]? = some v1 := by rw [ha]; exact putSel_on (e := (49, 42, v1)) 33 rfl rfl (hon 49 (by kernel_rfl)) rfl
      rw [hv1 (hon 49 (by kernel_rfl))] at e42
      refine value_ (w1 := w') (v := .map (some m)) (by rfl) rfl ?_ ?_
      · simp [execOp, Act.eval, e42]
      exact hK.out _ _ ⟨m, r, v1, .map (some m), (by rw [ha]; exact putSel_upk 34 hb_ rfl rfl rfl), hI.same (by decide) (by omega) (by omega), (fun h_ => hv1 (by rwa [up_ne (by decide)] at h_)), fun _ => rfl⟩
    exact steps_nil
  · rintro b a' w1 hall ⟨m, r, v1, v2, rfl, h, hv1, hv2⟩
    obtain rfl := hv2 (hall 50 (by kernel_rfl))
    obtain rfl := hv1 (hall 49 (by kernel_rfl))
    have hb0_ := hall 0 (by kernel_rfl)
    have hb1_ := hall 1 (by kernel_rfl)
    have hb2_ := hall 2 (by kernel_rfl)
    have hb4_ := hall 4 (by kernel_rfl)
    have hb5_ := hall 5 (by kernel_rfl)
    have hb7_ := hall 7 (by kernel_rfl)
    have hb8_ := hall 8 (by kernel_rfl)
    have hb10_ := hall 10 (by kernel_rfl)
    have hb11_ := hall 11 (by kernel_rfl)
    have hb13_ := hall 13 (by kernel_rfl)
    have hb14_ := hall 14 (by kernel_rfl)
    have hb16_ := hall 16 (by kernel_rfl)
    have hb17_ := hall 17 (by kernel_rfl)
    have hb19_ := hall 19 (by kernel_rfl)
    have hb20_ := hall 20 (by kernel_rfl)
    have hb22_ := hall 22 (by kernel_rfl)
    have hb23_ := hall 23 (by kernel_rfl)
    have hb25_ := hall 25 (by kernel_rfl)
    have hb26_ := hall 26 (by kernel_rfl)
    have hb28_ := hall 28 (by kernel_rfl)
    have hb29_ := hall 29 (by kernel_rfl)
    have hb31_ := hall 31 (by kernel_rfl)
    have hb32_ := hall 32 (by kernel_rfl)
    have hb34_ := hall 34 (by kernel_rfl)
    have hb35_ := hall 35 (by kernel_rfl)
    have hb37_ := hall 37 (by kernel_rfl)
    have hb38_ := hall 38 (by kernel_rfl)
    have hb40_ := hall 40 (by kernel_rfl)
    have hb41_ := hall 41 (by kernel_rfl)
    have hb43_ := hall 43 (by kernel_rfl)
    have hb44_ := hall 44 (by kernel_rfl)
    have hb46_ := hall 46 (by kernel_rfl)
    have hb47_ := hall 47 (by kernel_rfl)
    have hb49_ := hall 49 (by kernel_rfl)
    have hb50_ := hall 50 (by kernel_rfl)
    have hM : WayMap w1 m (fun _ => true) r := by
      obtain ⟨es, clock, g1, g2, g3⟩ := (h.2.2.1 (hall 0 (by kernel_rfl))).2
      refine ⟨es, clock, g1, fun x hx => ?_, fun i hi _ => g3 i hi (hall _ ((by decide : ∀ i, i < 16 → (List.range 51).contains (3 * i + 3) = true) i hi))⟩
      obtain ⟨i, hi, _, hk⟩ := g2 x hx
      exact ⟨i, hi, rfl, hk⟩
    have HR := Aside0.mk (fun i (hi : i < 16) => h.2.2.2 i hi (hall _ ((by decide : ∀ i, i < 16 → (List.range 51).contains (3 * i + 2) = true) i hi)))
    have HBl := Aside0.mk h.1
    show K_ _ _
    simp only [fdsL, putSel, hb0_, hb1_, hb2_, hb4_, hb5_, hb7_, hb8_, hb10_, hb11_, hb13_, hb14_, hb16_, hb17_, hb19_, hb20_, hb22_, hb23_, hb25_, hb26_, hb28_, hb29_, hb31_, hb32_, hb34_, hb35_, hb37_, hb38_, hb40_, hb41_, hb43_, hb44_, hb46_, hb47_, hb49_, hb50_, if_true, Act.put, List.setIfInBounds_toArray, List.set_cons_zero, List.set_cons_succ]
    have HL := Aside0.mk (way_lookup hM which kind H1.out H2.out)
    clear h hM hall hb0_ hb1_ hb2_ hb4_ hb5_ hb7_ hb8_ hb10_ hb11_ hb13_ hb14_ hb16_ hb17_ hb19_ hb20_ hb22_ hb23_ hb25_ hb26_ hb28_ hb29_ hb31_ hb32_ hb34_ hb35_ hb37_ hb38_ hb40_ hb41_ hb43_ hb44_ hb46_ hb47_ hb49_ hb50_ hv1 hv2 hHeld
    refine hK_ _ _ ?_
    rcases HL.out with ⟨i, hi, hk, hl⟩ | ⟨hk, hl⟩
    · have hf : codec_fields.f which kind = some (wayL i) := by
        unfold wayKey at hk
        simp only [Value.agg.injEq, Array.mk.injEq, List.cons.injEq, Value.int.injEq, true_and, and_true] at hk
        rw [← hk.1, ← hk.2]
        exact (by decide : ∀ i, i < 16 → codec_fields.f (wayT.getD i (0, 0, [])).1 (wayT.getD i (0, 0, [])).2.1 = some (wayL i)) i hi
      obtain ⟨g, e1, e2, e3⟩ := HR.out i hi
      have HF := Aside0.mk hf
      have HE := Aside0.mk (show WayRow w1 w.heap.size (wayL i) (r i) from ⟨g, e1, e2, e3⟩)
      rw [e1] at hl
      clear hk HL HR hi hf e2 e3
      go_wp2_with (at_lookup; refine wpl_lookup rfl 105 (.tmp 44) (.tmp 47) true rfl rfl rfl hl ?_)
      refine bodyPost_ret (v := .tuple #[.slice (some ⟨g, 0, none⟩) (wayL i).length (wayL i).length, .bool true]) (by simp [results, Try.results27, go_sem]) rfl ?_
      exact ⟨.inr ⟨_, _, HF.out, rfl, by rw [← e1]; exact HE.out⟩, HBl.out⟩
    · have hf : codec_fields.f which kind = none := by
        unfold codec_fields.f
        rw [Option.map_eq_none_iff, List.find?_eq_none]
        intro x hx hd
        obtain ⟨i, hi, rfl⟩ := (by decide : ∀ x ∈ wayT, ∃ i, i < 16 ∧ wayT.getD i (0, 0, []) = x) x hx
        simp only [decide_eq_true_eq] at hd
        exact hk i hi (by unfold wayKey; rw [hd.1, hd.2])
      have HF := Aside0.mk hf
      clear hk HL HR hf
      go_wp2_with (at_lookup; refine wpl_lookup rfl 105 (.tmp 44) (.tmp 47) true rfl rfl rfl hl ?_)
      refine bodyPost_ret (v := .tuple #[.slice none 0 0, .bool false]) (by simp [results, Try.results27, go_sem]) rfl ?_
      exact ⟨.inl ⟨HF.out, rfl⟩, HBl.out⟩

end Go.Proofs.Ytncfofnikmfjbaa.PCi

namespace Go.Proofs.Ytncfofnikmfjbaa.PCi
open Go.RowKit Go.Proofs.YtncfofnikmfjbaaW.PrintWords Go.Proofs.YtncfofnikmfjbaaW.PrintLast Go.Proofs.YtncfofnikmfjbaaW.PrintMore
attribute [local go_sem] max2_int min2_int max_two min_two max_three min_three max_four min_four
set_option linter.unusedVariables false
set_option linter.unusedSimpArgs false

set_option maxHeartbeats 4000000 in
set_option maxRecDepth 100000 in
theorem wr_many (g base : Nat) (xs : List Int) (bad : Bool) (n : Nat) (w : World) (hF : Wr w g base xs bad) (hg : base ≤ g) (hb : base ≤ w.heap.size) (hx : xs.length ≤ 1000000000) :
    Calls Try.prog 78 #[.pointer (some ⟨g, 0, none⟩), .int .i64 (n : Int)] w fun e w' => e = .returned (.tuple #[]) ∧ Wr w' g base (xs ++ nb n 2) (bad || decide (65535 < n)) ∧ KeepW w w' g base := by
  have HF := Aside0.mk hF
  have HGE := Aside0.mk hg
  have HB := Aside0.mk hb
  have HX := Aside0.mk hx
  obtain ⟨b2, hb2⟩ : ∃ b, b = (bad || decide (65535 < n)) := ⟨_, rfl⟩
  have HB2 := Aside0.mk hb2
  rw [← hb2]
  clear hF hg hb hx hb2
  obtain ⟨A, c, hg, hr⟩ := HF.out
  have HR := Aside0.mk hr
  have HG := Aside0.mk hg
  have q0 : w.cell? ⟨g, 0, none⟩ = some (.slice A xs.length c) := (blk_cell hg 0).trans rfl
  have q1 : w.cell? ⟨g, 1, none⟩ = some (.bool bad) := (blk_cell hg 1).trans rfl
  have z0 : w.frozen? ⟨g, 0, none⟩ = false := blk_frozen hg 0
  have z1 : w.frozen? ⟨g, 1, none⟩ = false := blk_frozen hg 1
  clear hg hr
  have HW := Aside0.mk (HF.out.bad b2)
  have HK := Aside0.mk ((KeepW.refl w g base).set HGE.out 1 (.bool b2))
  cases bad with
  | true =>
    have e2 : b2 = true := HB2.out.trans rfl
    subst e2
    go_enter Try.func78, Try.ntmps78
    go_wp2_with fail
    generalize w.setCell ⟨g, 1, none⟩ (.bool true) = w1 at HW HK ⊢
    refine (wr_number g base xs true (n : Int) 2 w1 HW.out HGE.out (Nat.le_trans HB.out HK.out.below.size) (by decide) (by decide) HX.out).mono ?_
    rintro e w2 ⟨rfl, h1, h2⟩
    have H1 := Aside0.mk h1
    have H2 := Aside0.mk (HK.out.trans h2)
    clear h1 h2
    go_wp2_with fail
    refine bodyPost_end (v := .tuple #[]) (by simp [results, Try.results78, go_sem]) rfl ?_
    exact ⟨rfl, H1.out, H2.out⟩
  | false =>
    have e2 : decide (65535 < (n : Int)) = b2 := by rw [HB2.out, Bool.false_or]; exact decide_eq_decide.2 (by omega)
    go_enter Try.func78, Try.ntmps78
    go_wp2_with fail
    generalize w.setCell ⟨g, 1, none⟩ (.bool b2) = w1 at HW HK ⊢
    refine (wr_number g base xs b2 (n : Int) 2 w1 HW.out HGE.out (Nat.le_trans HB.out HK.out.below.size) (by decide) (by decide) HX.out).mono ?_
    rintro e w2 ⟨rfl, h1, h2⟩
    have H1 := Aside0.mk h1
    have H2 := Aside0.mk (HK.out.trans h2)
    clear h1 h2
    go_wp2_with fail
    refine bodyPost_end (v := .tuple #[]) (by simp [results, Try.results78, go_sem]) rfl ?_
    exact ⟨rfl, H1.out, H2.out⟩
set_option maxHeartbeats 4000000 in
set_option maxRecDepth 100000 in
theorem wr_text (g base : Nat) (xs : List Int) (bad : Bool) (s : ByteArray) (w : World) (hF : Wr w g base xs bad) (hg : base ≤ g) (hb : base ≤ w.heap.size) (hx : xs.length + s.size ≤ 900000000) :
    Calls Try.prog 44 #[.pointer (some ⟨g, 0, none⟩), .string s] w fun e w' => e = .returned (.tuple #[]) ∧ Wr w' g base (xs ++ (nb (s.size : Nat) 2 ++ bytesOf s)) (bad || decide (65535 < s.size)) ∧ KeepW w w' g base := by
  have HF := Aside0.mk hF
  have HGE := Aside0.mk hg
  have HB := Aside0.mk hb
  have HX := Aside0.mk hx
  obtain ⟨b2, hb2⟩ : ∃ b, b = (bad || decide (65535 < s.size)) := ⟨_, rfl⟩
  have HB2 := Aside0.mk hb2
  rw [← hb2]
  clear hF hg hb hx hb2
  go_enter Try.func44, Try.ntmps44
  go_wp2_with fail
  refine (wr_many g base xs bad s.size w HF.out HGE.out HB.out (by have := HX.out; omega)).mono ?_
  rintro e y ⟨rfl, h1, h2⟩
  rw [← HB2.out] at h1
  obtain ⟨vs, hvs⟩ : ∃ vs, vs = xs ++ nb (s.size : Nat) 2 := ⟨_, rfl⟩
  have HVS := Aside0.mk hvs
  have HVL := Aside0.mk (show vs.length = xs.length + 2 from by rw [hvs, List.length_append, nb_len])
  rw [← hvs] at h1
  have HF1 := Aside0.mk h1
  have HK1 := Aside0.mk h2
  clear h1 h2 hvs
  obtain ⟨A1, c1, hg1, hr1⟩ := HF1.out
  have HR1 := Aside0.mk hr1
  have HG1 := Aside0.mk hg1
  have q0 : y.cell? ⟨g, 0, none⟩ = some (.slice A1 vs.length c1) := (blk_cell hg1 0).trans rfl
  have q1 : y.cell? ⟨g, 1, none⟩ = some (.bool b2) := (blk_cell hg1 1).trans rfl
  have z0 : y.frozen? ⟨g, 0, none⟩ = false := blk_frozen hg1 0
  have z1 : y.frozen? ⟨g, 1, none⟩ = false := blk_frozen hg1 1
  clear hg1 hr1
  obtain ⟨ws, hws⟩ : ∃ ws, ws = vs ++ bytesOf s := ⟨_, rfl⟩
  have HWS := Aside0.mk hws
  clear hws
  go_wp2_with ((with_reducible refine gate_builtin (b := .append) (xs := #[.tmp 12, .tmp 13]) rfl ?_); at_builtin; refine Kd.R_append_str (w0 := w) base rfl (.tmp 12) _ 29 9 5 rfl Try.underlying29 Try.underlying9 info_u8 (.slice A1 vs.length c1) vs s (fun _ => True) rfl rfl (fun _ _ => trivial) HR1.out HK1.out.below (Nat.le_trans HB.out HK1.out.below.size) ?aL ?_; (case aL => have := HX.out; have := HVL.out; omega); intro v2 w2 ho hb hg_ hat; rw [← HWS.out] at ho; obtain ⟨A2, c2, e2⟩ := Kd.R_slice ho; subst e2; have HO2 := Aside0.mk ho; have HK2 := Aside0.mk (HK1.out.grown HR1.out hg_ hb); have hG2 := hg_.block g (blk_lt HG1.out) (Kd.R_ne HR1.out HG1.out (by decide)); rw [HG1.out] at hG2; have HG2 := Aside0.mk hG2; have z0 : w2.frozen? ⟨g, 0, none⟩ = false := blk_frozen hG2 0; have q0 : w2.cell? ⟨g, 0, none⟩ = some (.slice A1 vs.length c1) := (blk_cell hG2 0).trans rfl; clear ho hb hg_ hat hG2)
  refine bodyPost_end (v := .tuple #[]) (by simp [results, Try.results44, go_sem]) rfl ?_
  refine ⟨rfl, ?_, HK2.out.set HGE.out 0 _⟩
  rw [← List.append_assoc, ← HVS.out, ← HWS.out]
  exact Wr.mk' (by simpa using blk_set HG2.out 0 (.slice A2 ws.length c2)) (Kd.R_set HO2.out HG2.out (by decide) 0 _)

end Go.Proofs.Ytncfofnikmfjbaa.PCi

namespace Go.Proofs.Ytncfofnikmfjbaa.PCi
open Go.RowKit Go.Proofs.YtncfofnikmfjbaaW.PrintWords Go.Proofs.YtncfofnikmfjbaaW.PrintLast Go.Proofs.YtncfofnikmfjbaaW.PrintMore
attribute [local go_sem] max2_int min2_int max_two min_two max_three min_three max_four min_four
set_option linter.unusedVariables false
set_option linter.unusedSimpArgs false

/-- A record's bytes. -/
def recW (hk : Bool) (key : ByteArray) (hv : Bool) (val : ByteArray) (t : Int) : List Int := nb ((if hk = true then 1 else 0) + (if hv = true then 2 else 0)) 1 ++ ((if hk = true then nb (key.size : Nat) 2 ++ bytesOf key else []) ++ ((if hv = true then nb (val.size : Nat) 2 ++ bytesOf val else []) ++ nb t 8))
def recO (hk : Bool) (key : ByteArray) (hv : Bool) (val : ByteArray) (o : Int) : Bool := (!hk && !key.toList.isEmpty) || ((!hv && !val.toList.isEmpty) || !(o == 0))
def recB (hk : Bool) (key : ByteArray) (hv : Bool) (val : ByteArray) (o : Int) : Bool := recO hk key hv val o || ((hk && decide (65535 < key.size)) || (hv && decide (65535 < val.size)))
def RwSt (w y : World) (g base : Nat) (xs : List Int) (bad : Bool) (hk : Bool) (key : ByteArray) (hv : Bool) (val : ByteArray) (t o : Int) : Prop := Wr y g base xs bad ∧ y.heap[w.heap.size]? = some (.cells #[.bool hk, .string key, .bool hv, .string val, .int .i64 t, .int .i64 o] 98 (0, 0)) ∧ KeepW w y g base
section
variable {w y y2 : World} {g base : Nat} {xs ys : List Int} {bad b2 : Bool} {hk : Bool} {key : ByteArray} {hv : Bool} {val : ByteArray} {t o : Int}
theorem RwSt.cells (h : RwSt w y g base xs bad hk key hv val t o) : y.cell? ⟨w.heap.size, 0, none⟩ = some (.bool hk) ∧ y.cell? ⟨w.heap.size, 1, none⟩ = some (.string key) ∧ y.cell? ⟨w.heap.size, 2, none⟩ = some (.bool hv) ∧ y.cell? ⟨w.heap.size, 3, none⟩ = some (.string val) ∧ y.cell? ⟨w.heap.size, 4, none⟩ = some (.int .i64 t) ∧ y.cell? ⟨w.heap.size, 5, none⟩ = some (.int .i64 o) :=
  ⟨(blk_cell h.2.1 0).trans rfl, (blk_cell h.2.1 1).trans rfl, (blk_cell h.2.1 2).trans rfl, (blk_cell h.2.1 3).trans rfl, (blk_cell h.2.1 4).trans rfl, (blk_cell h.2.1 5).trans rfl⟩
theorem RwSt.step (h : RwSt w y g base xs bad hk key hv val t o) (hg : g < w.heap.size) (hw : Wr y2 g base ys b2) (hk2 : KeepW y y2 g base) : RwSt w y2 g base ys b2 hk key hv val t o :=
  ⟨hw, hk2.blk h.2.1 (by omega) (by decide), h.2.2.trans hk2⟩
theorem RwSt.turn (h : RwSt w y g base xs bad hk key hv val t o) (hg : g < w.heap.size) (hb : base ≤ g) (b : Bool) : RwSt w (y.setCell ⟨g, 1, none⟩ (.bool b)) g base xs b hk key hv val t o :=
  h.step hg (h.1.bad b) ((KeepW.refl _ _ _).set hb 1 _)
theorem RwSt.turn2 (h : RwSt w y g base xs bad hk key hv val t o) (hg : g < w.heap.size) (hb : base ≤ g) (b : Bool) (e : b = b2) : RwSt w (y.setCell ⟨g, 1, none⟩ (.bool b)) g base xs b2 hk key hv val t o := e ▸ h.turn hg hb b
theorem Wr.lt (h : Wr w g base xs bad) : g < w.heap.size := by
  obtain ⟨A, c, h1, _⟩ := h
  exact blk_lt h1
end
theorem RwSt.new {w : World} {g base : Nat} {xs : List Int} {bad : Bool} (h : Wr w g base xs bad) (hb : base ≤ w.heap.size) (hk : Bool) (key : ByteArray) (hv : Bool) (val : ByteArray) (t o : Int) : RwSt w (w.alloc (.cells #[.bool hk, .string key, .bool hv, .string val, .int .i64 t, .int .i64 o] 98)) g base xs bad hk key hv val t o :=
  ⟨h.below (below_alloc (Below.refl _ _) _), heap_alloc_new w _, KeepW.of_below (below_alloc (Below.refl _ _) _) hb⟩
set_option maxHeartbeats 4000000 in
set_option maxRecDepth 100000 in
theorem wr_record0 (g base : Nat) (xs : List Int) (bad : Bool) (key val : ByteArray) (t o : Int) (w : World) (hF : Wr w g base xs bad) (hg : base ≤ g) (hb : base ≤ w.heap.size) (hx : xs.length + (key.size + val.size) ≤ 800000000) :
    Calls Try.prog 47 #[.pointer (some ⟨g, 0, none⟩), .agg #[.bool false, .string key, .bool false, .string val, .int .i64 t, .int .i64 o]] w fun e w' => e = .returned (.tuple #[]) ∧ Wr w' g base (xs ++ recW false key false val t) (bad || recB false key false val o) ∧ KeepW w w' g base := by
  have HF := Aside0.mk hF
  have HGE := Aside0.mk hg
  have HB := Aside0.mk hb
  have HX := Aside0.mk hx
  have HL := Aside0.mk hF.lt
  have S0 := Aside0.mk (RwSt.new hF hb false key false val t o)
  obtain ⟨b2, hb2⟩ : ∃ b, b = (bad || recO false key false val o) := ⟨_, rfl⟩
  have HB2 := Aside0.mk hb2
  clear hF hg hb hx hb2
  go_enter Try.func47, Try.ntmps47
  go_upto_region 6 with (fail)
  (try simp only [Act.put, List.setIfInBounds_toArray, List.set_cons_zero, List.set_cons_succ])
  generalize w.alloc (.cells #[.bool false, .string key, .bool false, .string val, .int .i64 t, .int .i64 o] 98) = y0 at S0 ⊢
  obtain ⟨n0_, n1_, n2_, n3_, n4_, n5_⟩ := S0.out.cells
  obtain ⟨A, c, hg_, _⟩ := S0.out.1
  have q1 : y0.cell? ⟨g, 1, none⟩ = some (.bool bad) := (blk_cell hg_ 1).trans rfl
  have z1 : y0.frozen? ⟨g, 1, none⟩ = false := blk_frozen hg_ 1
  clear hg_
  go_cut [4] (fun v4 wc => v4 = .int .i64 0 ∧ Aside0 (RwSt w wc g base xs b2 false key false val t o))
  case first =>
    go_wp2
    all_goals
      go_meet
      case rel => exact ⟨by rfl, ⟨S0.out.turn2 HL.out HGE.out _ (by rw [HB2.out]; unfold recO; first | rfl | (simp [*]; done) | (simp [*, Bool.or_assoc]; done) | (simp [*, bne]; done))⟩⟩
  clear S0 n0_ n1_ n2_ n3_ n4_ n5_ q1 z1
  obtain ⟨rfl, S1⟩ := hcut
  go_wp2_with fail
  refine (wr_number g base xs b2 0 1 _ S1.out.1 HGE.out (Nat.le_trans HB.out S1.out.2.2.below.size) (by decide) (by decide) (by have := HX.out; omega)).mono ?_
  rintro e w1 ⟨rfl, h1, h2⟩
  obtain ⟨x1, hx1⟩ : ∃ x, x = xs ++ nb 0 1 := ⟨_, rfl⟩
  have X1 := Aside0.mk hx1
  have L1 := Aside0.mk (show x1.length = xs.length + 1 from by rw [hx1]; rw [List.length_append, nb_len])
  rw [← hx1] at h1
  have S2 := Aside0.mk (S1.out.step HL.out h1 h2)
  clear h1 h2 hx1 S1
  obtain ⟨n0_, n1_, n2_, n3_, n4_, n5_⟩ := S2.out.cells
  go_wp2_with fail
  refine (wr_number g base x1 b2 t 8 _ S2.out.1 HGE.out (Nat.le_trans HB.out S2.out.2.2.below.size) (by decide) (by decide) (by have := L1.out; have := HX.out; omega)).mono ?_
  rintro e w2 ⟨rfl, h1, h2⟩
  obtain ⟨x2, hx2⟩ : ∃ x, x = x1 ++ nb t 8 := ⟨_, rfl⟩
  have X2 := Aside0.mk hx2
  have L2 := Aside0.mk (show x2.length = x1.length + 8 from by rw [hx2]; rw [List.length_append, nb_len])
  rw [← hx2] at h1
  have S3 := Aside0.mk (S2.out.step HL.out h1 h2)
  clear h1 h2 hx2 S2
  obtain ⟨n0_, n1_, n2_, n3_, n4_, n5_⟩ := S3.out.cells
  go_wp2_with fail
  refine bodyPost_end (v := .tuple #[]) (by simp [results, Try.results47, go_sem]) rfl ?_
  refine ⟨rfl, ?_, S3.out.2.2⟩
  have h_ := S3.out.1
  rw [X2.out, X1.out] at h_
  unfold recW recB
  rw [HB2.out] at h_
  simpa [Bool.or_assoc] using h_
set_option maxHeartbeats 4000000 in
set_option maxRecDepth 100000 in
theorem wr_record2 (g base : Nat) (xs : List Int) (bad : Bool) (key val : ByteArray) (t o : Int) (w : World) (hF : Wr w g base xs bad) (hg : base ≤ g) (hb : base ≤ w.heap.size) (hx : xs.length + (key.size + val.size) ≤ 800000000) :
    Calls Try.prog 47 #[.pointer (some ⟨g, 0, none⟩), .agg #[.bool false, .string key, .bool true, .string val, .int .i64 t, .int .i64 o]] w fun e w' => e = .returned (.tuple #[]) ∧ Wr w' g base (xs ++ recW false key true val t) (bad || recB false key true val o) ∧ KeepW w w' g base := by
  have HF := Aside0.mk hF
  have HGE := Aside0.mk hg
  have HB := Aside0.mk hb
  have HX := Aside0.mk hx
  have HL := Aside0.mk hF.lt
  have S0 := Aside0.mk (RwSt.new hF hb false key true val t o)
  obtain ⟨b2, hb2⟩ : ∃ b, b = (bad || recO false key true val o) := ⟨_, rfl⟩
  have HB2 := Aside0.mk hb2
  clear hF hg hb hx hb2
  go_enter Try.func47, Try.ntmps47
  go_upto_region 6 with (fail)
  (try simp only [Act.put, List.setIfInBounds_toArray, List.set_cons_zero, List.set_cons_succ])
  generalize w.alloc (.cells #[.bool false, .string key, .bool true, .string val, .int .i64 t, .int .i64 o] 98) = y0 at S0 ⊢
  obtain ⟨n0_, n1_, n2_, n3_, n4_, n5_⟩ := S0.out.cells
  obtain ⟨A, c, hg_, _⟩ := S0.out.1
  have q1 : y0.cell? ⟨g, 1, none⟩ = some (.bool bad) := (blk_cell hg_ 1).trans rfl
  have z1 : y0.frozen? ⟨g, 1, none⟩ = false := blk_frozen hg_ 1
  clear hg_
  go_cut [4] (fun v4 wc => v4 = .int .i64 2 ∧ Aside0 (RwSt w wc g base xs b2 false key true val t o))
  case first =>
    go_wp2
    all_goals
      go_meet
      case rel => exact ⟨by rfl, ⟨S0.out.turn2 HL.out HGE.out _ (by rw [HB2.out]; unfold recO; first | rfl | (simp [*]; done) | (simp [*, Bool.or_assoc]; done) | (simp [*, bne]; done))⟩⟩
  clear S0 n0_ n1_ n2_ n3_ n4_ n5_ q1 z1
  obtain ⟨rfl, S1⟩ := hcut
  go_wp2_with fail
  refine (wr_number g base xs b2 2 1 _ S1.out.1 HGE.out (Nat.le_trans HB.out S1.out.2.2.below.size) (by decide) (by decide) (by have := HX.out; omega)).mono ?_
  rintro e w1 ⟨rfl, h1, h2⟩
  obtain ⟨x1, hx1⟩ : ∃ x, x = xs ++ nb 2 1 := ⟨_, rfl⟩
  have X1 := Aside0.mk hx1
  have L1 := Aside0.mk (show x1.length = xs.length + 1 from by rw [hx1]; rw [List.length_append, nb_len])
  rw [← hx1] at h1
  have S2 := Aside0.mk (S1.out.step HL.out h1 h2)
  clear h1 h2 hx1 S1
  obtain ⟨n0_, n1_, n2_, n3_, n4_, n5_⟩ := S2.out.cells
  go_wp2_with fail
  refine (wr_text g base x1 b2 val _ S2.out.1 HGE.out (Nat.le_trans HB.out S2.out.2.2.below.size) (by have := L1.out; have := HX.out; omega)).mono ?_
  rintro e w2 ⟨rfl, h1, h2⟩
  obtain ⟨x2, hx2⟩ : ∃ x, x = x1 ++ (nb (val.size : Nat) 2 ++ bytesOf val) := ⟨_, rfl⟩
  have X2 := Aside0.mk hx2
  have L2 := Aside0.mk (show x2.length = x1.length + (2 + val.size) from by rw [hx2]; rw [List.length_append, List.length_append, nb_len, bytesOf_length])
  rw [← hx2] at h1
  obtain ⟨c2, hc2⟩ : ∃ b, b = (b2 || decide (65535 < val.size)) := ⟨_, rfl⟩
  have C2 := Aside0.mk hc2
  rw [← hc2] at h1
  clear hc2
  have S3 := Aside0.mk (S2.out.step HL.out h1 h2)
  clear h1 h2 hx2 S2
  obtain ⟨n0_, n1_, n2_, n3_, n4_, n5_⟩ := S3.out.cells
  go_wp2_with fail
  refine (wr_number g base x2 c2 t 8 _ S3.out.1 HGE.out (Nat.le_trans HB.out S3.out.2.2.below.size) (by decide) (by decide) (by have := L1.out; have := L2.out; have := HX.out; omega)).mono ?_
  rintro e w3 ⟨rfl, h1, h2⟩
  obtain ⟨x3, hx3⟩ : ∃ x, x = x2 ++ nb t 8 := ⟨_, rfl⟩
  have X3 := Aside0.mk hx3
  have L3 := Aside0.mk (show x3.length = x2.length + 8 from by rw [hx3]; rw [List.length_append, nb_len])
  rw [← hx3] at h1
  have S4 := Aside0.mk (S3.out.step HL.out h1 h2)
  clear h1 h2 hx3 S3
  obtain ⟨n0_, n1_, n2_, n3_, n4_, n5_⟩ := S4.out.cells
  go_wp2_with fail
  refine bodyPost_end (v := .tuple #[]) (by simp [results, Try.results47, go_sem]) rfl ?_
  refine ⟨rfl, ?_, S4.out.2.2⟩
  have h_ := S4.out.1
  rw [X3.out, X2.out, X1.out] at h_
  unfold recW recB
  rw [C2.out, HB2.out] at h_
  simpa [Bool.or_assoc] using h_
set_option maxHeartbeats 4000000 in
set_option maxRecDepth 100000 in
theorem wr_record1 (g base : Nat) (xs : List Int) (bad : Bool) (key val : ByteArray) (t o : Int) (w : World) (hF : Wr w g base xs bad) (hg : base ≤ g) (hb : base ≤ w.heap.size) (hx : xs.length + (key.size + val.size) ≤ 800000000) :
    Calls Try.prog 47 #[.pointer (some ⟨g, 0, none⟩), .agg #[.bool true, .string key, .bool false, .string val, .int .i64 t, .int .i64 o]] w fun e w' => e = .returned (.tuple #[]) ∧ Wr w' g base (xs ++ recW true key false val t) (bad || recB true key false val o) ∧ KeepW w w' g base := by
  have HF := Aside0.mk hF
  have HGE := Aside0.mk hg
  have HB := Aside0.mk hb
  have HX := Aside0.mk hx
  have HL := Aside0.mk hF.lt
  have S0 := Aside0.mk (RwSt.new hF hb true key false val t o)
  obtain ⟨b2, hb2⟩ : ∃ b, b = (bad || recO true key false val o) := ⟨_, rfl⟩
  have HB2 := Aside0.mk hb2
  clear hF hg hb hx hb2
  go_enter Try.func47, Try.ntmps47
  go_upto_region 6 with (fail)
  (try simp only [Act.put, List.setIfInBounds_toArray, List.set_cons_zero, List.set_cons_succ])
  generalize w.alloc (.cells #[.bool true, .string key, .bool false, .string val, .int .i64 t, .int .i64 o] 98) = y0 at S0 ⊢
  obtain ⟨n0_, n1_, n2_, n3_, n4_, n5_⟩ := S0.out.cells
  obtain ⟨A, c, hg_, _⟩ := S0.out.1
  have q1 : y0.cell? ⟨g, 1, none⟩ = some (.bool bad) := (blk_cell hg_ 1).trans rfl
  have z1 : y0.frozen? ⟨g, 1, none⟩ = false := blk_frozen hg_ 1
  clear hg_
  go_cut [4] (fun v4 wc => v4 = .int .i64 1 ∧ Aside0 (RwSt w wc g base xs b2 true key false val t o))
  case first =>
    go_wp2
    all_goals
      go_meet
      case rel => exact ⟨by rfl, ⟨S0.out.turn2 HL.out HGE.out _ (by rw [HB2.out]; unfold recO; first | rfl | (simp [*]; done) | (simp [*, Bool.or_assoc]; done) | (simp [*, bne]; done))⟩⟩
  clear S0 n0_ n1_ n2_ n3_ n4_ n5_ q1 z1
  obtain ⟨rfl, S1⟩ := hcut
  go_wp2_with fail
  refine (wr_number g base xs b2 1 1 _ S1.out.1 HGE.out (Nat.le_trans HB.out S1.out.2.2.below.size) (by decide) (by decide) (by have := HX.out; omega)).mono ?_
  rintro e w1 ⟨rfl, h1, h2⟩
  obtain ⟨x1, hx1⟩ : ∃ x, x = xs ++ nb 1 1 := ⟨_, rfl⟩
  have X1 := Aside0.mk hx1
  have L1 := Aside0.mk (show x1.length = xs.length + 1 from by rw [hx1]; rw [List.length_append, nb_len])
  rw [← hx1] at h1
  have S2 := Aside0.mk (S1.out.step HL.out h1 h2)
  clear h1 h2 hx1 S1
  obtain ⟨n0_, n1_, n2_, n3_, n4_, n5_⟩ := S2.out.cells
  go_wp2_with fail
  refine (wr_text g base x1 b2 key _ S2.out.1 HGE.out (Nat.le_trans HB.out S2.out.2.2.below.size) (by have := L1.out; have := HX.out; omega)).mono ?_
  rintro e w2 ⟨rfl, h1, h2⟩
  obtain ⟨x2, hx2⟩ : ∃ x, x = x1 ++ (nb (key.size : Nat) 2 ++ bytesOf key) := ⟨_, rfl⟩
  have X2 := Aside0.mk hx2
  have L2 := Aside0.mk (show x2.length = x1.length + (2 + key.size) from by rw [hx2]; rw [List.length_append, List.length_append, nb_len, bytesOf_length])
  rw [← hx2] at h1
  obtain ⟨c2, hc2⟩ : ∃ b, b = (b2 || decide (65535 < key.size)) := ⟨_, rfl⟩
  have C2 := Aside0.mk hc2
  rw [← hc2] at h1
  clear hc2
  have S3 := Aside0.mk (S2.out.step HL.out h1 h2)
  clear h1 h2 hx2 S2
  obtain ⟨n0_, n1_, n2_, n3_, n4_, n5_⟩ := S3.out.cells
  go_wp2_with fail
  refine (wr_number g base x2 c2 t 8 _ S3.out.1 HGE.out (Nat.le_trans HB.out S3.out.2.2.below.size) (by decide) (by decide) (by have := L1.out; have := L2.out; have := HX.out; omega)).mono ?_
  rintro e w3 ⟨rfl, h1, h2⟩
  obtain ⟨x3, hx3⟩ : ∃ x, x = x2 ++ nb t 8 := ⟨_, rfl⟩
  have X3 := Aside0.mk hx3
  have L3 := Aside0.mk (show x3.length = x2.length + 8 from by rw [hx3]; rw [List.length_append, nb_len])
  rw [← hx3] at h1
  have S4 := Aside0.mk (S3.out.step HL.out h1 h2)
  clear h1 h2 hx3 S3
  obtain ⟨n0_, n1_, n2_, n3_, n4_, n5_⟩ := S4.out.cells
  go_wp2_with fail
  refine bodyPost_end (v := .tuple #[]) (by simp [results, Try.results47, go_sem]) rfl ?_
  refine ⟨rfl, ?_, S4.out.2.2⟩
  have h_ := S4.out.1
  rw [X3.out, X2.out, X1.out] at h_
  unfold recW recB
  rw [C2.out, HB2.out] at h_
  simpa [Bool.or_assoc] using h_
set_option maxHeartbeats 4000000 in
set_option maxRecDepth 100000 in
theorem wr_record3 (g base : Nat) (xs : List Int) (bad : Bool) (key val : ByteArray) (t o : Int) (w : World) (hF : Wr w g base xs bad) (hg : base ≤ g) (hb : base ≤ w.heap.size) (hx : xs.length + (key.size + val.size) ≤ 800000000) :
    Calls Try.prog 47 #[.pointer (some ⟨g, 0, none⟩), .agg #[.bool true, .string key, .bool true, .string val, .int .i64 t, .int .i64 o]] w fun e w' => e = .returned (.tuple #[]) ∧ Wr w' g base (xs ++ recW true key true val t) (bad || recB true key true val o) ∧ KeepW w w' g base := by
  have HF := Aside0.mk hF
  have HGE := Aside0.mk hg
  have HB := Aside0.mk hb
  have HX := Aside0.mk hx
  have HL := Aside0.mk hF.lt
  have S0 := Aside0.mk (RwSt.new hF hb true key true val t o)
  obtain ⟨b2, hb2⟩ : ∃ b, b = (bad || recO true key true val o) := ⟨_, rfl⟩
  have HB2 := Aside0.mk hb2
  clear hF hg hb hx hb2
  go_enter Try.func47, Try.ntmps47
  go_upto_region 6 with (fail)
  (try simp only [Act.put, List.setIfInBounds_toArray, List.set_cons_zero, List.set_cons_succ])
  generalize w.alloc (.cells #[.bool true, .string key, .bool true, .string val, .int .i64 t, .int .i64 o] 98) = y0 at S0 ⊢
  obtain ⟨n0_, n1_, n2_, n3_, n4_, n5_⟩ := S0.out.cells
  obtain ⟨A, c, hg_, _⟩ := S0.out.1
  have q1 : y0.cell? ⟨g, 1, none⟩ = some (.bool bad) := (blk_cell hg_ 1).trans rfl
  have z1 : y0.frozen? ⟨g, 1, none⟩ = false := blk_frozen hg_ 1
  clear hg_
  go_cut [4] (fun v4 wc => v4 = .int .i64 3 ∧ Aside0 (RwSt w wc g base xs b2 true key true val t o))
  case first =>
    go_wp2
    all_goals
      go_meet
      case rel => exact ⟨by rfl, ⟨S0.out.turn2 HL.out HGE.out _ (by rw [HB2.out]; unfold recO; first | rfl | (simp [*]; done) | (simp [*, Bool.or_assoc]; done) | (simp [*, bne]; done))⟩⟩
  clear S0 n0_ n1_ n2_ n3_ n4_ n5_ q1 z1
  obtain ⟨rfl, S1⟩ := hcut
  go_wp2_with fail
  refine (wr_number g base xs b2 3 1 _ S1.out.1 HGE.out (Nat.le_trans HB.out S1.out.2.2.below.size) (by decide) (by decide) (by have := HX.out; omega)).mono ?_
  rintro e w1 ⟨rfl, h1, h2⟩
  obtain ⟨x1, hx1⟩ : ∃ x, x = xs ++ nb 3 1 := ⟨_, rfl⟩
  have X1 := Aside0.mk hx1
  have L1 := Aside0.mk (show x1.length = xs.length + 1 from by rw [hx1]; rw [List.length_append, nb_len])
  rw [← hx1] at h1
  have S2 := Aside0.mk (S1.out.step HL.out h1 h2)
  clear h1 h2 hx1 S1
  obtain ⟨n0_, n1_, n2_, n3_, n4_, n5_⟩ := S2.out.cells
  go_wp2_with fail
  refine (wr_text g base x1 b2 key _ S2.out.1 HGE.out (Nat.le_trans HB.out S2.out.2.2.below.size) (by have := L1.out; have := HX.out; omega)).mono ?_
  rintro e w2 ⟨rfl, h1, h2⟩
  obtain ⟨x2, hx2⟩ : ∃ x, x = x1 ++ (nb (key.size : Nat) 2 ++ bytesOf key) := ⟨_, rfl⟩
  have X2 := Aside0.mk hx2
  have L2 := Aside0.mk (show x2.length = x1.length + (2 + key.size) from by rw [hx2]; rw [List.length_append, List.length_append, nb_len, bytesOf_length])
  rw [← hx2] at h1
  obtain ⟨c2, hc2⟩ : ∃ b, b = (b2 || decide (65535 < key.size)) := ⟨_, rfl⟩
  have C2 := Aside0.mk hc2
  rw [← hc2] at h1
  clear hc2
  have S3 := Aside0.mk (S2.out.step HL.out h1 h2)
  clear h1 h2 hx2 S2
  obtain ⟨n0_, n1_, n2_, n3_, n4_, n5_⟩ := S3.out.cells
  go_wp2_with fail
  refine (wr_text g base x2 c2 val _ S3.out.1 HGE.out (Nat.le_trans HB.out S3.out.2.2.below.size) (by have := L1.out; have := L2.out; have := HX.out; omega)).mono ?_
  rintro e w3 ⟨rfl, h1, h2⟩
  obtain ⟨x3, hx3⟩ : ∃ x, x = x2 ++ (nb (val.size : Nat) 2 ++ bytesOf val) := ⟨_, rfl⟩
  have X3 := Aside0.mk hx3
  have L3 := Aside0.mk (show x3.length = x2.length + (2 + val.size) from by rw [hx3]; rw [List.length_append, List.length_append, nb_len, bytesOf_length])
  rw [← hx3] at h1
  obtain ⟨c3, hc3⟩ : ∃ b, b = (c2 || decide (65535 < val.size)) := ⟨_, rfl⟩
  have C3 := Aside0.mk hc3
  rw [← hc3] at h1
  clear hc3
  have S4 := Aside0.mk (S3.out.step HL.out h1 h2)
  clear h1 h2 hx3 S3
  obtain ⟨n0_, n1_, n2_, n3_, n4_, n5_⟩ := S4.out.cells
  go_wp2_with fail
  refine (wr_number g base x3 c3 t 8 _ S4.out.1 HGE.out (Nat.le_trans HB.out S4.out.2.2.below.size) (by decide) (by decide) (by have := L1.out; have := L2.out; have := L3.out; have := HX.out; omega)).mono ?_
  rintro e w4 ⟨rfl, h1, h2⟩
  obtain ⟨x4, hx4⟩ : ∃ x, x = x3 ++ nb t 8 := ⟨_, rfl⟩
  have X4 := Aside0.mk hx4
  have L4 := Aside0.mk (show x4.length = x3.length + 8 from by rw [hx4]; rw [List.length_append, nb_len])
  rw [← hx4] at h1
  have S5 := Aside0.mk (S4.out.step HL.out h1 h2)
  clear h1 h2 hx4 S4
  obtain ⟨n0_, n1_, n2_, n3_, n4_, n5_⟩ := S5.out.cells
  go_wp2_with fail
  refine bodyPost_end (v := .tuple #[]) (by simp [results, Try.results47, go_sem]) rfl ?_
  refine ⟨rfl, ?_, S5.out.2.2⟩
  have h_ := S5.out.1
  rw [X4.out, X3.out, X2.out, X1.out] at h_
  unfold recW recB
  rw [C3.out, C2.out, HB2.out] at h_
  simpa [Bool.or_assoc] using h_
theorem wr_record (g base : Nat) (xs : List Int) (bad : Bool) (hk : Bool) (key : ByteArray) (hv : Bool) (val : ByteArray) (t o : Int) (w : World) (hF : Wr w g base xs bad) (hg : base ≤ g) (hb : base ≤ w.heap.size) (hx : xs.length + (key.size + val.size) ≤ 800000000) :
    Calls Try.prog 47 #[.pointer (some ⟨g, 0, none⟩), .agg #[.bool hk, .string key, .bool hv, .string val, .int .i64 t, .int .i64 o]] w fun e w' => e = .returned (.tuple #[]) ∧ Wr w' g base (xs ++ recW hk key hv val t) (bad || recB hk key hv val o) ∧ KeepW w w' g base := by
  cases hk <;> cases hv
  · exact wr_record0 g base xs bad key val t o w hF hg hb hx
  · exact wr_record2 g base xs bad key val t o w hF hg hb hx
  · exact wr_record1 g base xs bad key val t o w hF hg hb hx
  · exact wr_record3 g base xs bad key val t o w hF hg hb hx

end Go.Proofs.Ytncfofnikmfjbaa.PCi

-- written by a program of this session (wip/tools/pr.py, over the kit's printer): not by hand
namespace Go.Proofs.Ytncfofnikmfjbaa.PCi
open Go.RowKit Go.Proofs.YtncfofnikmfjbaaW.PrintWords Go.Proofs.YtncfofnikmfjbaaW.PrintLast Go.Proofs.YtncfofnikmfjbaaW.PrintMore
attribute [local go_sem] max2_int min2_int max_two min_two max_three min_three max_four min_four   -- for this text's walks alone
set_option linter.unusedVariables false
set_option linter.unusedSimpArgs false

/-! ### slices_Equal_int_int: function 57 -/
def slices_Equal_int_int.l0 : Nat → List Int → List Int → Int → Int → Option (Bool)
  | 0, _, _, _, _ => none
  | k + 1, x0, x1, x12, x13 => if x13 < x12 then (if 0 ≤ x13 then (if x13 < (x0.length : Int) then (if x13 < (x1.length : Int) then (if (rd x0 x13) = (rd x1 x13) then (slices_Equal_int_int.l0 k x0 x1 x12 (wrap64 (x13 + 1))) else (some false)) else (none)) else (none)) else (none)) else (some true)
def slices_Equal_int_int.f (k : Nat) (l0 : List Int) (l1 : List Int) : Option (Bool) := if (l0.length : Int) = (l1.length : Int) then (slices_Equal_int_int.l0 k l0 l1 (l0.length : Int) 0) else (some false)
set_option maxRecDepth 100000 in
theorem slices_Equal_int_int.mono_l : ∀ k, (∀ y0 y1 y2 y3, LeO (slices_Equal_int_int.l0 k y0 y1 y2 y3) (slices_Equal_int_int.l0 (k + 1) y0 y1 y2 y3))
  | 0 => fun _ _ _ _ r h => by first | exact nomatch (show (none : Option _) = some r from h) | (rw [slices_Equal_int_int.l0] at h; cases h; done) | (simp [slices_Equal_int_int.l0] at h; done)
  | k + 1 => by
    have ih0 := slices_Equal_int_int.mono_l k
    · intro y0 y1 y2 y3
      unfold slices_Equal_int_int.l0
      repeat' first
      | (with_reducible exact ih0 _ _ _ _)
      | (with_reducible exact LeO.refl _)
      | (with_reducible exact LeO.none _)
      | (with_reducible refine LeO.ite ?_ ?_)
      | (with_reducible refine LeO.bind ?_ (fun _ => ?_))
      | exact ih0 _ _ _ _
      | exact LeO.none _
      | refine LeO.ite ?_ ?_
      | refine LeO.bind ?_ (fun _ => ?_)
theorem slices_Equal_int_int.mono : ∀ a0 a1 k, LeO (slices_Equal_int_int.f k a0 a1) (slices_Equal_int_int.f (k + 1) a0 a1) := by
  intro a0 a1 k
  have ih0 := slices_Equal_int_int.mono_l k
  unfold slices_Equal_int_int.f
  repeat' first
      | (with_reducible exact ih0 _ _ _ _)
      | (with_reducible exact LeO.refl _)
      | (with_reducible exact LeO.none _)
      | (with_reducible refine LeO.ite ?_ ?_)
      | (with_reducible refine LeO.bind ?_ (fun _ => ?_))
      | exact ih0 _ _ _ _
      | exact LeO.none _
      | refine LeO.ite ?_ ?_
      | refine LeO.bind ?_ (fun _ => ?_)
set_option maxHeartbeats 8000000 in
set_option maxRecDepth 100000 in
theorem slices_Equal_int_int.calls (k : Nat) (A0 : Option Addr) (c0 : Nat) (l0 : List Int) (A1 : Option Addr) (c1 : Nat) (l1 : List Int) (r : Bool) (w : World) (hr0 : Kd.C (Kd.int .i64) w A0 l0.length l0) (hc0 : l0.length ≤ c0) (hr1 : Kd.C (Kd.int .i64) w A1 l1.length l1) (hc1 : l1.length ≤ c1) (h : slices_Equal_int_int.f k l0 l1 = some r) :
    Calls Try.prog 57 #[.slice A0 l0.length c0, .slice A1 l1.length c1] w fun e w' => e = .returned (.bool r) ∧ Drawn0 w w' := by
  have HR0 := Aside0.mk hr0
  have HC0 := Aside0.mk hc0
  clear hr0 hc0
  have HR1 := Aside0.mk hr1
  have HC1 := Aside0.mk hc1
  clear hr1 hc1
  have H : (if (l0.length : Int) = (l1.length : Int) then (slices_Equal_int_int.l0 k l0 l1 (l0.length : Int) 0) else (some false)) = some r := h
  clear h
  by_cases c3 : (l0.length : Int) = (l1.length : Int)
  · rw [if_pos c3] at H
    have c3b0 : ((l0.length : Int) == (l1.length : Int)) = true := beq_iff_eq.mpr c3
    have c3b1 : ((l0.length : Int) != (l1.length : Int)) = false := bne_eq_false_iff_eq.mpr c3
    have c3b2 : (l0.length == l1.length) = true := by first | simpa using c3 | (simp at c3 ⊢; omega)
    clear c3
    have H' := Aside0.mk H
    clear H
    go_enter Try.func57, Try.ntmps57
    go_wp2
    repeat (go_quiet (fail); try go_wp2)
    go_loopg [13] k (fun kq v13 w' => ∃ (x13_1 : Int), v13 = .int .i64 x13_1 ∧ Aside0 (slices_Equal_int_int.l0 kq l0 l1 (l0.length : Int) x13_1 = some r) ∧ Aside0 (kq ≤ k) ∧ Drawn0 w w')
    case atStart => exact ⟨(0), (by first | rfl | (simp; done) | (simp [*]; done) | exact congrArg Value.bool (ne_empty _) | exact congrArg Value.bool (eq_empty _)), H', ⟨Nat.le_refl _⟩, by repeat (first | exact Drawn0.refl _ | apply Drawn0.step)⟩
    case round =>
      clear H'
      try clear c1
      try clear p2
      try clear c3
      try clear c3b0
      try clear c3b1
      try clear c3b2
      obtain ⟨x13_1, rfl, HA, HK1, ⟨m1, rfl⟩⟩ := hrel
      cases gk with
      | zero => exact absurd HA.out (by first | (intro h_; exact nomatch (show (none : Option _) = some r from h_)) | simp [slices_Equal_int_int.l0])
      | succ k1 =>
        have H := HA.out
        clear HA
        simp only [slices_Equal_int_int.l0] at H
        by_cases c4 : x13_1 < (l0.length : Int)
        · rw [if_pos c4] at H
          have c4b0 : decide (x13_1 < (l0.length : Int)) = true := decide_eq_true c4
          clear c4
          by_cases c5 : 0 ≤ x13_1
          · rw [if_pos c5] at H
            have c5b0 : decide (0 ≤ x13_1) = true := decide_eq_true c5
            clear c5
            by_cases c6 : x13_1 < (l0.length : Int)
            · rw [if_pos c6] at H
              have c6b0 : decide (x13_1 < (l0.length : Int)) = true := decide_eq_true c6
              clear c6
              by_cases c7 : x13_1 < (l1.length : Int)
              · rw [if_pos c7] at H
                have c7b0 : decide (x13_1 < (l1.length : Int)) = true := decide_eq_true c7
                clear c7
                by_cases c8 : (rd l0 x13_1) = (rd l1 x13_1)
                · rw [if_pos c8] at H
                  have c8b0 : ((rd l0 x13_1) == (rd l1 x13_1)) = true := beq_iff_eq.mpr c8
                  have c8b1 : ((rd l0 x13_1) != (rd l1 x13_1)) = false := bne_eq_false_iff_eq.mpr c8
                  clear c8
                  have H' := Aside0.mk H
                  clear H
                  have p130 : 0 ≤ (x13_1 : Int) := of_decide_eq_true (by first | (with_reducible assumption) | assumption)
                  have q130 : x13_1 < (l0.length : Int) := of_decide_eq_true (by first | (with_reducible assumption) | assumption)
                  obtain ⟨ad130, e130, hx130_0⟩ := Kd.at_int HR0.out x13_1 p130 q130
                  cases e130
                  replace p130 := eq_true p130
                  replace q130 := eq_true q130
                  have p131 : 0 ≤ (x13_1 : Int) := of_decide_eq_true (by first | (with_reducible assumption) | assumption)
                  have q131 : x13_1 < (l1.length : Int) := of_decide_eq_true (by first | (with_reducible assumption) | assumption)
                  obtain ⟨ad131, e131, hx131_0⟩ := Kd.at_int HR1.out x13_1 p131 q131
                  cases e131
                  replace p131 := eq_true p131
                  replace q131 := eq_true q131
                  go_wp2
                  repeat (go_quiet (fail); try go_wp2)
                  go_roundg k1
                  case measure => have := HK1.out; omega
                  case rel => exact ⟨(wrap64 (x13_1 + 1)), (by first | rfl | (simp; done) | (simp [*]; done) | exact congrArg Value.bool (ne_empty _) | exact congrArg Value.bool (eq_empty _)), H', ⟨by have := HK1.out; omega⟩, by repeat (first | exact Drawn0.refl _ | apply Drawn0.step)⟩
                · rw [if_neg c8] at H
                  have c8b0 : ((rd l0 x13_1) == (rd l1 x13_1)) = false := beq_eq_false_iff_ne.mpr c8
                  have c8b1 : ((rd l0 x13_1) != (rd l1 x13_1)) = true := bne_iff_ne.mpr c8
                  obtain rfl := Option.some.inj H
                  have p130 : 0 ≤ (x13_1 : Int) := of_decide_eq_true (by first | (with_reducible assumption) | assumption)
                  have q130 : x13_1 < (l0.length : Int) := of_decide_eq_true (by first | (with_reducible assumption) | assumption)
                  obtain ⟨ad130, e130, hx130_0⟩ := Kd.at_int HR0.out x13_1 p130 q130
                  cases e130
                  replace p130 := eq_true p130
                  replace q130 := eq_true q130
                  have p131 : 0 ≤ (x13_1 : Int) := of_decide_eq_true (by first | (with_reducible assumption) | assumption)
                  have q131 : x13_1 < (l1.length : Int) := of_decide_eq_true (by first | (with_reducible assumption) | assumption)
                  obtain ⟨ad131, e131, hx131_0⟩ := Kd.at_int HR1.out x13_1 p131 q131
                  cases e131
                  replace p131 := eq_true p131
                  replace q131 := eq_true q131
                  go_wp2
                  repeat (go_quiet (fail); try go_wp2)
                  go_ret
                  exact ⟨by first | rfl | (simp; done) | (simp [*]; done) | exact congrArg Value.bool (ne_empty _) | exact congrArg Value.bool (eq_empty _), by repeat (first | exact Drawn0.refl _ | apply Drawn0.step)⟩
              · rw [if_neg c7] at H
                exact absurd H (by simp)
            · rw [if_neg c6] at H
              exact absurd H (by simp)
          · rw [if_neg c5] at H
            exact absurd H (by simp)
        · rw [if_neg c4] at H
          have c4b0 : decide (x13_1 < (l0.length : Int)) = false := decide_eq_false c4
          clear c4
          obtain rfl := Option.some.inj H
          go_wp2
          repeat (go_quiet (fail); try go_wp2)
          go_ret
          exact ⟨by first | rfl | (simp; done) | (simp [*]; done) | exact congrArg Value.bool (ne_empty _) | exact congrArg Value.bool (eq_empty _), by repeat (first | exact Drawn0.refl _ | apply Drawn0.step)⟩
  · rw [if_neg c3] at H
    have c3b0 : ((l0.length : Int) == (l1.length : Int)) = false := beq_eq_false_iff_ne.mpr c3
    have c3b1 : ((l0.length : Int) != (l1.length : Int)) = true := bne_iff_ne.mpr c3
    have c3b2 : (l0.length == l1.length) = false := by first | simpa using c3 | (simp at c3 ⊢; omega)
    obtain rfl := Option.some.inj H
    go_enter Try.func57, Try.ntmps57
    go_wp2
    repeat (go_quiet (fail); try go_wp2)
    go_ret
    exact ⟨by first | rfl | (simp; done) | (simp [*]; done) | exact congrArg Value.bool (ne_empty _) | exact congrArg Value.bool (eq_empty _), by repeat (first | exact Drawn0.refl _ | apply Drawn0.step)⟩

-- NOT PRINTED: function 30 (codec_same)

-- NOT PRINTED: function 13 (codec_Request)

/-! ### bollardalike_Bytes: function 15 -/
def bollardalike_Bytes.l0 : Nat → List Int → List Int → Int → Option (Bool)
  | 0, _, _, _ => none
  | k + 1, x0, x1, x5 => if x5 < (x0.length : Int) then (if 0 ≤ x5 then (if x5 < (x1.length : Int) then (if (rd x0 x5) = (rd x1 x5) then (bollardalike_Bytes.l0 k x0 x1 (wrap64 (x5 + 1))) else (some false)) else (none)) else (none)) else (some true)
def bollardalike_Bytes.f (k : Nat) (l0 : List Int) (l1 : List Int) : Option (Bool) := if (l0.length : Int) = (l1.length : Int) then (bollardalike_Bytes.l0 k l0 l1 0) else (some false)
set_option maxRecDepth 100000 in
theorem bollardalike_Bytes.mono_l : ∀ k, (∀ y0 y1 y2, LeO (bollardalike_Bytes.l0 k y0 y1 y2) (bollardalike_Bytes.l0 (k + 1) y0 y1 y2))
  | 0 => fun _ _ _ r h => by first | exact nomatch (show (none : Option _) = some r from h) | (rw [bollardalike_Bytes.l0] at h; cases h; done) | (simp [bollardalike_Bytes.l0] at h; done)
  | k + 1 => by
    have ih0 := bollardalike_Bytes.mono_l k
    · intro y0 y1 y2
      unfold bollardalike_Bytes.l0
      repeat' first
      | (with_reducible exact ih0 _ _ _)
      | (with_reducible exact LeO.refl _)
      | (with_reducible exact LeO.none _)
      | (with_reducible refine LeO.ite ?_ ?_)
      | (with_reducible refine LeO.bind ?_ (fun _ => ?_))
      | exact ih0 _ _ _
      | exact LeO.none _
      | refine LeO.ite ?_ ?_
      | refine LeO.bind ?_ (fun _ => ?_)
theorem bollardalike_Bytes.mono : ∀ a0 a1 k, LeO (bollardalike_Bytes.f k a0 a1) (bollardalike_Bytes.f (k + 1) a0 a1) := by
  intro a0 a1 k
  have ih0 := bollardalike_Bytes.mono_l k
  unfold bollardalike_Bytes.f
  repeat' first
      | (with_reducible exact ih0 _ _ _)
      | (with_reducible exact LeO.refl _)
      | (with_reducible exact LeO.none _)
      | (with_reducible refine LeO.ite ?_ ?_)
      | (with_reducible refine LeO.bind ?_ (fun _ => ?_))
      | exact ih0 _ _ _
      | exact LeO.none _
      | refine LeO.ite ?_ ?_
      | refine LeO.bind ?_ (fun _ => ?_)
set_option maxHeartbeats 8000000 in
set_option maxRecDepth 100000 in
theorem bollardalike_Bytes.calls (k : Nat) (A0 : Option Addr) (c0 : Nat) (l0 : List Int) (A1 : Option Addr) (c1 : Nat) (l1 : List Int) (r : Bool) (w : World) (hr0 : Kd.C (Kd.int .u8) w A0 l0.length l0) (hc0 : l0.length ≤ c0) (hr1 : Kd.C (Kd.int .u8) w A1 l1.length l1) (hc1 : l1.length ≤ c1) (h : bollardalike_Bytes.f k l0 l1 = some r) :
    Calls Try.prog 15 #[.slice A0 l0.length c0, .slice A1 l1.length c1] w fun e w' => e = .returned (.bool r) ∧ Drawn0 w w' := by
  have HR0 := Aside0.mk hr0
  have HC0 := Aside0.mk hc0
  clear hr0 hc0
  have HR1 := Aside0.mk hr1
  have HC1 := Aside0.mk hc1
  clear hr1 hc1
  have H : (if (l0.length : Int) = (l1.length : Int) then (bollardalike_Bytes.l0 k l0 l1 0) else (some false)) = some r := h
  clear h
  by_cases c3 : (l0.length : Int) = (l1.length : Int)
  · rw [if_pos c3] at H
    have c3b0 : ((l0.length : Int) == (l1.length : Int)) = true := beq_iff_eq.mpr c3
    have c3b1 : ((l0.length : Int) != (l1.length : Int)) = false := bne_eq_false_iff_eq.mpr c3
    have c3b2 : (l0.length == l1.length) = true := by first | simpa using c3 | (simp at c3 ⊢; omega)
    clear c3
    have H' := Aside0.mk H
    clear H
    go_enter Try.func15, Try.ntmps15
    go_wp2
    repeat (go_quiet (fail); try go_wp2)
    go_loopg [5] k (fun kq v5 w' => ∃ (x5_1 : Int), v5 = .int .i64 x5_1 ∧ Aside0 (bollardalike_Bytes.l0 kq l0 l1 x5_1 = some r) ∧ Aside0 (kq ≤ k) ∧ Drawn0 w w')
    case atStart => exact ⟨(0), (by first | rfl | (simp; done) | (simp [*]; done) | exact congrArg Value.bool (ne_empty _) | exact congrArg Value.bool (eq_empty _)), H', ⟨Nat.le_refl _⟩, by repeat (first | exact Drawn0.refl _ | apply Drawn0.step)⟩
    case round =>
      clear H'
      try clear c1
      try clear p2
      try clear c3
      try clear c3b0
      try clear c3b1
      try clear c3b2
      obtain ⟨x5_1, rfl, HA, HK1, ⟨m1, rfl⟩⟩ := hrel
      cases gk with
      | zero => exact absurd HA.out (by first | (intro h_; exact nomatch (show (none : Option _) = some r from h_)) | simp [bollardalike_Bytes.l0])
      | succ k1 =>
        have H := HA.out
        clear HA
        simp only [bollardalike_Bytes.l0] at H
        by_cases c4 : x5_1 < (l0.length : Int)
        · rw [if_pos c4] at H
          have c4b0 : decide (x5_1 < (l0.length : Int)) = true := decide_eq_true c4
          clear c4
          by_cases c5 : 0 ≤ x5_1
          · rw [if_pos c5] at H
            have c5b0 : decide (0 ≤ x5_1) = true := decide_eq_true c5
            clear c5
            by_cases c6 : x5_1 < (l1.length : Int)
            · rw [if_pos c6] at H
              have c6b0 : decide (x5_1 < (l1.length : Int)) = true := decide_eq_true c6
              clear c6
              by_cases c7 : (rd l0 x5_1) = (rd l1 x5_1)
              · rw [if_pos c7] at H
                have c7b0 : ((rd l0 x5_1) == (rd l1 x5_1)) = true := beq_iff_eq.mpr c7
                have c7b1 : ((rd l0 x5_1) != (rd l1 x5_1)) = false := bne_eq_false_iff_eq.mpr c7
                clear c7
                have H' := Aside0.mk H
                clear H
                have p135 : 0 ≤ (x5_1 : Int) := of_decide_eq_true (by first | (with_reducible assumption) | assumption)
                have q135 : x5_1 < (l0.length : Int) := of_decide_eq_true (by first | (with_reducible assumption) | assumption)
                obtain ⟨ad135, e135, hx135_0⟩ := Kd.at_int HR0.out x5_1 p135 q135
                cases e135
                replace p135 := eq_true p135
                replace q135 := eq_true q135
                have p136 : 0 ≤ (x5_1 : Int) := of_decide_eq_true (by first | (with_reducible assumption) | assumption)
                have q136 : x5_1 < (l1.length : Int) := of_decide_eq_true (by first | (with_reducible assumption) | assumption)
                obtain ⟨ad136, e136, hx136_0⟩ := Kd.at_int HR1.out x5_1 p136 q136
                cases e136
                replace p136 := eq_true p136
                replace q136 := eq_true q136
                go_wp2
                repeat (go_quiet (fail); try go_wp2)
                go_roundg k1
                case measure => have := HK1.out; omega
                case rel => exact ⟨(wrap64 (x5_1 + 1)), (by first | rfl | (simp; done) | (simp [*]; done) | exact congrArg Value.bool (ne_empty _) | exact congrArg Value.bool (eq_empty _)), H', ⟨by have := HK1.out; omega⟩, by repeat (first | exact Drawn0.refl _ | apply Drawn0.step)⟩
              · rw [if_neg c7] at H
                have c7b0 : ((rd l0 x5_1) == (rd l1 x5_1)) = false := beq_eq_false_iff_ne.mpr c7
                have c7b1 : ((rd l0 x5_1) != (rd l1 x5_1)) = true := bne_iff_ne.mpr c7
                obtain rfl := Option.some.inj H
                have p135 : 0 ≤ (x5_1 : Int) := of_decide_eq_true (by first | (with_reducible assumption) | assumption)
                have q135 : x5_1 < (l0.length : Int) := of_decide_eq_true (by first | (with_reducible assumption) | assumption)
                obtain ⟨ad135, e135, hx135_0⟩ := Kd.at_int HR0.out x5_1 p135 q135
                cases e135
                replace p135 := eq_true p135
                replace q135 := eq_true q135
                have p136 : 0 ≤ (x5_1 : Int) := of_decide_eq_true (by first | (with_reducible assumption) | assumption)
                have q136 : x5_1 < (l1.length : Int) := of_decide_eq_true (by first | (with_reducible assumption) | assumption)
                obtain ⟨ad136, e136, hx136_0⟩ := Kd.at_int HR1.out x5_1 p136 q136
                cases e136
                replace p136 := eq_true p136
                replace q136 := eq_true q136
                go_wp2
                repeat (go_quiet (fail); try go_wp2)
                go_ret
                exact ⟨by first | rfl | (simp; done) | (simp [*]; done) | exact congrArg Value.bool (ne_empty _) | exact congrArg Value.bool (eq_empty _), by repeat (first | exact Drawn0.refl _ | apply Drawn0.step)⟩
            · rw [if_neg c6] at H
              exact absurd H (by simp)
          · rw [if_neg c5] at H
            exact absurd H (by simp)
        · rw [if_neg c4] at H
          have c4b0 : decide (x5_1 < (l0.length : Int)) = false := decide_eq_false c4
          clear c4
          obtain rfl := Option.some.inj H
          go_wp2
          repeat (go_quiet (fail); try go_wp2)
          go_ret
          exact ⟨by first | rfl | (simp; done) | (simp [*]; done) | exact congrArg Value.bool (ne_empty _) | exact congrArg Value.bool (eq_empty _), by repeat (first | exact Drawn0.refl _ | apply Drawn0.step)⟩
  · rw [if_neg c3] at H
    have c3b0 : ((l0.length : Int) == (l1.length : Int)) = false := beq_eq_false_iff_ne.mpr c3
    have c3b1 : ((l0.length : Int) != (l1.length : Int)) = true := bne_iff_ne.mpr c3
    have c3b2 : (l0.length == l1.length) = false := by first | simpa using c3 | (simp at c3 ⊢; omega)
    obtain rfl := Option.some.inj H
    go_enter Try.func15, Try.ntmps15
    go_wp2
    repeat (go_quiet (fail); try go_wp2)
    go_ret
    exact ⟨by first | rfl | (simp; done) | (simp [*]; done) | exact congrArg Value.bool (ne_empty _) | exact congrArg Value.bool (eq_empty _), by repeat (first | exact Drawn0.refl _ | apply Drawn0.step)⟩

-- NOT PRINTED: function 12 (bollardlaw20_awake)

-- NOT PRINTED: function 40 (codec_told)

-- NOT PRINTED: function 19 (codec_ParseResponse)

-- NOT PRINTED: function 24 (codec_Response)

-- NOT PRINTED: function 10 (bollardlaw20_CodecIDs)

/-! ### bollardalike_Small: function 26 -/
def bollardalike_Small.l0 : Nat → List (S98) → Int → Int → Option (Bool)
  | 0, _, _, _ => none
  | k + 1, x0, x3, x4 => if x4 < (x0.length : Int) then (if x3 ≤ 20000 then (if 0 ≤ x4 then (bollardalike_Small.l0 k x0 (wrap64 ((wrap64 (x3 + (((rd_T98 x0 x4).f1).size : Int))) + (((rd_T98 x0 x4).f3).size : Int))) (wrap64 (x4 + 1))) else (none)) else (some false)) else (if x3 ≤ 20000 then (some (decide ((x0.length : Int) ≤ 300))) else (some false))
def bollardalike_Small.f (k : Nat) (l0 : List (S98)) : Option (Bool) := bollardalike_Small.l0 k l0 (l0.length : Int) 0
set_option maxRecDepth 100000 in
theorem bollardalike_Small.mono_l : ∀ k, (∀ y0 y1 y2, LeO (bollardalike_Small.l0 k y0 y1 y2) (bollardalike_Small.l0 (k + 1) y0 y1 y2))
  | 0 => fun _ _ _ r h => by first | exact nomatch (show (none : Option _) = some r from h) | (rw [bollardalike_Small.l0] at h; cases h; done) | (simp [bollardalike_Small.l0] at h; done)
  | k + 1 => by
    have ih0 := bollardalike_Small.mono_l k
    · intro y0 y1 y2
      unfold bollardalike_Small.l0
      repeat' first
      | (with_reducible exact ih0 _ _ _)
      | (with_reducible exact LeO.refl _)
      | (with_reducible exact LeO.none _)
      | (with_reducible refine LeO.ite ?_ ?_)
      | (with_reducible refine LeO.bind ?_ (fun _ => ?_))
      | exact ih0 _ _ _
      | exact LeO.none _
      | refine LeO.ite ?_ ?_
      | refine LeO.bind ?_ (fun _ => ?_)
theorem bollardalike_Small.mono : ∀ a0 k, LeO (bollardalike_Small.f k a0) (bollardalike_Small.f (k + 1) a0) := by
  intro a0 k
  have ih0 := bollardalike_Small.mono_l k
  unfold bollardalike_Small.f
  repeat' first
      | (with_reducible exact ih0 _ _ _)
      | (with_reducible exact LeO.refl _)
      | (with_reducible exact LeO.none _)
      | (with_reducible refine LeO.ite ?_ ?_)
      | (with_reducible refine LeO.bind ?_ (fun _ => ?_))
      | exact ih0 _ _ _
      | exact LeO.none _
      | refine LeO.ite ?_ ?_
      | refine LeO.bind ?_ (fun _ => ?_)
set_option maxHeartbeats 8000000 in
set_option maxRecDepth 100000 in
theorem bollardalike_Small.calls (k : Nat) (A0 : Option Addr) (c0 : Nat) (l0 : List (S98)) (r : Bool) (w : World) (hr0 : Kd.C k98 w A0 l0.length l0) (hc0 : l0.length ≤ c0) (h : bollardalike_Small.f k l0 = some r) :
    Calls Try.prog 26 #[.slice A0 l0.length c0] w fun e w' => e = .returned (.bool r) ∧ Drawn0 w w' := by
  have HR0 := Aside0.mk hr0
  have HC0 := Aside0.mk hc0
  clear hr0 hc0
  have H : (bollardalike_Small.l0 k l0 (l0.length : Int) 0) = some r := h
  clear h
  have H' := Aside0.mk H
  clear H
  go_enter Try.func26, Try.ntmps26
  go_wp2
  repeat (go_quiet (fail); try go_wp2)
  go_loopg [3, 4] k (fun kq v3 v4 w' => ∃ (x3_1 : Int) (x4_1 : Int), v3 = .int .i64 x3_1 ∧ v4 = .int .i64 x4_1 ∧ Aside0 (bollardalike_Small.l0 kq l0 x3_1 x4_1 = some r) ∧ Aside0 (kq ≤ k) ∧ Drawn0 w w')
  case atStart => exact ⟨((l0.length : Int)), (0), (by first | rfl | (simp; done) | (simp [*]; done) | exact congrArg Value.bool (ne_empty _) | exact congrArg Value.bool (eq_empty _)), (by first | rfl | (simp; done) | (simp [*]; done) | exact congrArg Value.bool (ne_empty _) | exact congrArg Value.bool (eq_empty _)), H', ⟨Nat.le_refl _⟩, by repeat (first | exact Drawn0.refl _ | apply Drawn0.step)⟩
  case round =>
    clear H'
    obtain ⟨x3_1, x4_1, rfl, rfl, HA, HK1, ⟨m1, rfl⟩⟩ := hrel
    cases gk with
    | zero => exact absurd HA.out (by first | (intro h_; exact nomatch (show (none : Option _) = some r from h_)) | simp [bollardalike_Small.l0])
    | succ k1 =>
      have H := HA.out
      clear HA
      simp only [bollardalike_Small.l0] at H
      by_cases c2 : x4_1 < (l0.length : Int)
      · rw [if_pos c2] at H
        have c2b0 : decide (x4_1 < (l0.length : Int)) = true := decide_eq_true c2
        clear c2
        by_cases c3 : x3_1 ≤ 20000
        · rw [if_pos c3] at H
          have c3b0 : decide (x3_1 ≤ 20000) = true := decide_eq_true c3
          clear c3
          by_cases c4 : 0 ≤ x4_1
          · rw [if_pos c4] at H
            have c4b0 : decide (0 ≤ x4_1) = true := decide_eq_true c4
            clear c4
            have H' := Aside0.mk H
            clear H
            have p142 : 0 ≤ (x4_1 : Int) := of_decide_eq_true (by first | (with_reducible assumption) | assumption)
            have q142 : x4_1 < (l0.length : Int) := of_decide_eq_true (by first | (with_reducible assumption) | assumption)
            obtain ⟨ad142, e142, hx142_0, hx142_1, hx142_2, hx142_3, hx142_4, hx142_5⟩ := at_T98 HR0.out x4_1 p142 q142
            cases e142
            replace p142 := eq_true p142
            replace q142 := eq_true q142
            have p143 : 0 ≤ (x4_1 : Int) := of_decide_eq_true (by first | (with_reducible assumption) | assumption)
            have q143 : x4_1 < (l0.length : Int) := of_decide_eq_true (by first | (with_reducible assumption) | assumption)
            obtain ⟨ad143, e143, hx143_0, hx143_1, hx143_2, hx143_3, hx143_4, hx143_5⟩ := at_T98 HR0.out x4_1 p143 q143
            obtain rfl : ad142 = ad143 := (by injection e143)
            replace p143 := eq_true p143
            replace q143 := eq_true q143
            go_wp2
            repeat (go_quiet (fail); try go_wp2)
            go_roundg k1
            case measure => have := HK1.out; omega
            case rel => exact ⟨(wrap64 ((wrap64 (x3_1 + (((rd_T98 l0 x4_1).f1).size : Int))) + (((rd_T98 l0 x4_1).f3).size : Int))), (wrap64 (x4_1 + 1)), (by first | rfl | (simp; done) | (simp [*]; done) | exact congrArg Value.bool (ne_empty _) | exact congrArg Value.bool (eq_empty _)), (by first | rfl | (simp; done) | (simp [*]; done) | exact congrArg Value.bool (ne_empty _) | exact congrArg Value.bool (eq_empty _)), H', ⟨by have := HK1.out; omega⟩, by repeat (first | exact Drawn0.refl _ | apply Drawn0.step)⟩
          · rw [if_neg c4] at H
            exact absurd H (by simp)
        · rw [if_neg c3] at H
          have c3b0 : decide (x3_1 ≤ 20000) = false := decide_eq_false c3
          clear c3
          obtain rfl := Option.some.inj H
          go_wp2
          repeat (go_quiet (fail); try go_wp2)
          go_ret
          exact ⟨by first | rfl | (simp; done) | (simp [*]; done) | exact congrArg Value.bool (ne_empty _) | exact congrArg Value.bool (eq_empty _), by repeat (first | exact Drawn0.refl _ | apply Drawn0.step)⟩
      · rw [if_neg c2] at H
        have c2b0 : decide (x4_1 < (l0.length : Int)) = false := decide_eq_false c2
        clear c2
        by_cases c5 : x3_1 ≤ 20000
        · rw [if_pos c5] at H
          have c5b0 : decide (x3_1 ≤ 20000) = true := decide_eq_true c5
          clear c5
          obtain rfl := Option.some.inj H
          go_wp2
          repeat (go_quiet (fail); try go_wp2)
          go_ret
          exact ⟨by first | rfl | (simp; done) | (simp [*]; done) | exact congrArg Value.bool (ne_empty _) | exact congrArg Value.bool (eq_empty _), by repeat (first | exact Drawn0.refl _ | apply Drawn0.step)⟩
        · rw [if_neg c5] at H
          have c5b0 : decide (x3_1 ≤ 20000) = false := decide_eq_false c5
          clear c5
          obtain rfl := Option.some.inj H
          go_wp2
          repeat (go_quiet (fail); try go_wp2)
          go_ret
          exact ⟨by first | rfl | (simp; done) | (simp [*]; done) | exact congrArg Value.bool (ne_empty _) | exact congrArg Value.bool (eq_empty _), by repeat (first | exact Drawn0.refl _ | apply Drawn0.step)⟩

/-! ### bollardlaw20_in: function 11 -/
def bollardlaw20_in.f (k : Nat) (a0_0 : Int) (a0_1 : Int) (a0_2 : ByteArray) (a0_3 : Int) (a0_4 : Int) (a0_5 : Int) (a0_6 : Int) (a0_7 : Int) (a0_8 : Bool) (a0_9 : Int) (a0_10 : Int) (a0_11 : Int) (l0_12 : List (S98)) (a0_13 : Int) (a0_14 : Int) (a0_15 : Int) (a0_16 : ByteArray) : Option (Bool) := (bollardalike_Small.f k l0_12).bind fun t145 => (if t145 = true then (some (decide ((wrap64 ((a0_2.size : Int) + (a0_16.size : Int))) ≤ 140000))) else (some false))
theorem bollardlaw20_in.mono : ∀ a0 a1 a2 a3 a4 a5 a6 a7 a8 a9 a10 a11 a12 a13 a14 a15 a16 k, LeO (bollardlaw20_in.f k a0 a1 a2 a3 a4 a5 a6 a7 a8 a9 a10 a11 a12 a13 a14 a15 a16) (bollardlaw20_in.f (k + 1) a0 a1 a2 a3 a4 a5 a6 a7 a8 a9 a10 a11 a12 a13 a14 a15 a16) := by
  intro a0 a1 a2 a3 a4 a5 a6 a7 a8 a9 a10 a11 a12 a13 a14 a15 a16 k
  unfold bollardlaw20_in.f
  repeat' first
      | (with_reducible exact bollardalike_Small.mono _ _)
      | (with_reducible exact LeO.refl _)
      | (with_reducible exact LeO.none _)
      | (with_reducible refine LeO.ite ?_ ?_)
      | (with_reducible refine LeO.bind ?_ (fun _ => ?_))
      | exact bollardalike_Small.mono _ _
      | exact LeO.none _
      | refine LeO.ite ?_ ?_
      | refine LeO.bind ?_ (fun _ => ?_)
set_option maxHeartbeats 8000000 in
set_option maxRecDepth 100000 in
theorem bollardlaw20_in.calls (k : Nat) (a0_0 : Int) (a0_1 : Int) (a0_2 : ByteArray) (a0_3 : Int) (a0_4 : Int) (a0_5 : Int) (a0_6 : Int) (a0_7 : Int) (a0_8 : Bool) (a0_9 : Int) (a0_10 : Int) (a0_11 : Int) (A0_12 : Option Addr) (c0_12 : Nat) (l0_12 : List (S98)) (a0_13 : Int) (a0_14 : Int) (a0_15 : Int) (a0_16 : ByteArray) (r : Bool) (w : World) (hr0_12 : Kd.C k98 w A0_12 l0_12.length l0_12) (hc0_12 : l0_12.length ≤ c0_12) (h : bollardlaw20_in.f k a0_0 a0_1 a0_2 a0_3 a0_4 a0_5 a0_6 a0_7 a0_8 a0_9 a0_10 a0_11 l0_12 a0_13 a0_14 a0_15 a0_16 = some r) :
    Calls Try.prog 11 #[.agg #[.int .i64 a0_0, .int .i64 a0_1, .string a0_2, .int .i64 a0_3, .int .i64 a0_4, .int .i64 a0_5, .int .i64 a0_6, .int .i64 a0_7, .bool a0_8, .int .i64 a0_9, .int .i64 a0_10, .int .i64 a0_11, .slice A0_12 l0_12.length c0_12, .int .i64 a0_13, .int .i64 a0_14, .int .i64 a0_15, .string a0_16]] w fun e w' => e = .returned (.bool r) ∧ Below w.heap.size w w' := by
  have hu26 := Try.underlying26
  have HR0_12 := Aside0.mk hr0_12
  have HC0_12 := Aside0.mk hc0_12
  clear hr0_12 hc0_12
  have HB := Aside0.mk (Below.refl w.heap.size w)
  have H : ((bollardalike_Small.f k l0_12).bind fun t145 => (if t145 = true then (some (decide ((wrap64 ((a0_2.size : Int) + (a0_16.size : Int))) ≤ 140000))) else (some false))) = some r := h
  clear h
  replace H := Option.bind_eq_some_iff.mp H
  obtain ⟨t145, A20, H⟩ := H
  replace H : (if t145 = true then (some (decide ((wrap64 ((a0_2.size : Int) + (a0_16.size : Int))) ≤ 140000))) else (some false)) = some r := H
  have A2 := Aside0.mk A20
  clear A20
  by_cases c3 : t145 = true
  · subst c3
    have H1 : (some (decide ((wrap64 ((a0_2.size : Int) + (a0_16.size : Int))) ≤ 140000))) = some r := by rw [if_pos rfl] at H; exact H
    clear H
    have H := H1
    clear H1
    obtain rfl := Option.some.inj H
    go_enter Try.func11, Try.ntmps11
    go_wp2_with (first | ((with_reducible refine gate_dst (N := 1) rfl ?_); (try (refine gate_guard (by rfl) ?_; dsimp only)); refine box_event ?hg (N := 1) ?hd (cs := #[.int .i64 a0_0, .int .i64 a0_1, .string a0_2, .int .i64 a0_3, .int .i64 a0_4, .int .i64 a0_5, .int .i64 a0_6, .int .i64 a0_7, .bool a0_8, .int .i64 a0_9, .int .i64 a0_10, .int .i64 a0_11, .slice A0_12 l0_12.length c0_12, .int .i64 a0_13, .int .i64 a0_14, .int .i64 a0_15, .string a0_16]) (t := 26) ?hr ?_; (case hd => rfl); (case hg => rfl); (case hr => first | (go_simp; done) | (go_simp; rfl)); intro gb144 hg w4 hbox hb; have n0_ := Aside0.mk (below_step (by repeat (first | (with_reducible first | exact HB.out | apply below_alloc | apply pw_below_drewN | apply below_drew1) | exact HB.out)) hb); have n1_ := Aside0.mk (hbox); have n2_ := Aside0.mk ((by rw [hg]; exact (below_size (by repeat (first | (with_reducible first | exact HB.out | apply below_alloc | apply pw_below_drewN | apply below_drew1) | exact HB.out))) : w.heap.size ≤ gb144)); have n3_ := Aside0.mk ((by rw [hg]; exact (below_size (by repeat (first | (with_reducible first | exact HB.out | apply below_alloc | apply pw_below_drewN | apply below_drew1) | exact HB.out))) : w.heap.size ≤ gb144)); clear HB; have HB := n0_; have BK144 := n1_; have GW144 := n2_; have GE144 := n3_; clear n0_ n1_ n2_ n3_; clear hb hbox hg; have hcz5_0 : w4.cell? ⟨gb144, 0, none⟩ = some (.int .i64 a0_0) := (blk_cell BK144.out 0).trans rfl; have hcz5_1 : w4.cell? ⟨gb144, 1, none⟩ = some (.int .i64 a0_1) := (blk_cell BK144.out 1).trans rfl; have hcz5_2 : w4.cell? ⟨gb144, 2, none⟩ = some (.string a0_2) := (blk_cell BK144.out 2).trans rfl; have hcz5_3 : w4.cell? ⟨gb144, 3, none⟩ = some (.int .i64 a0_3) := (blk_cell BK144.out 3).trans rfl; have hcz5_4 : w4.cell? ⟨gb144, 4, none⟩ = some (.int .i64 a0_4) := (blk_cell BK144.out 4).trans rfl; have hcz5_5 : w4.cell? ⟨gb144, 5, none⟩ = some (.int .i64 a0_5) := (blk_cell BK144.out 5).trans rfl; have hcz5_6 : w4.cell? ⟨gb144, 6, none⟩ = some (.int .i64 a0_6) := (blk_cell BK144.out 6).trans rfl; have hcz5_7 : w4.cell? ⟨gb144, 7, none⟩ = some (.int .i64 a0_7) := (blk_cell BK144.out 7).trans rfl; have hcz5_8 : w4.cell? ⟨gb144, 8, none⟩ = some (.bool a0_8) := (blk_cell BK144.out 8).trans rfl; have hcz5_9 : w4.cell? ⟨gb144, 9, none⟩ = some (.int .i64 a0_9) := (blk_cell BK144.out 9).trans rfl; have hcz5_10 : w4.cell? ⟨gb144, 10, none⟩ = some (.int .i64 a0_10) := (blk_cell BK144.out 10).trans rfl; have hcz5_11 : w4.cell? ⟨gb144, 11, none⟩ = some (.int .i64 a0_11) := (blk_cell BK144.out 11).trans rfl; have hcz5_12 : w4.cell? ⟨gb144, 12, none⟩ = some (.slice A0_12 l0_12.length c0_12) := (blk_cell BK144.out 12).trans rfl; have hcz5_13 : w4.cell? ⟨gb144, 13, none⟩ = some (.int .i64 a0_13) := (blk_cell BK144.out 13).trans rfl; have hcz5_14 : w4.cell? ⟨gb144, 14, none⟩ = some (.int .i64 a0_14) := (blk_cell BK144.out 14).trans rfl; have hcz5_15 : w4.cell? ⟨gb144, 15, none⟩ = some (.int .i64 a0_15) := (blk_cell BK144.out 15).trans rfl; have hcz5_16 : w4.cell? ⟨gb144, 16, none⟩ = some (.string a0_16) := (blk_cell BK144.out 16).trans rfl; have hfz5_0 := blk_frozen BK144.out 0; have hfz5_1 := blk_frozen BK144.out 1; have hfz5_2 := blk_frozen BK144.out 2; have hfz5_3 := blk_frozen BK144.out 3; have hfz5_4 := blk_frozen BK144.out 4; have hfz5_5 := blk_frozen BK144.out 5; have hfz5_6 := blk_frozen BK144.out 6; have hfz5_7 := blk_frozen BK144.out 7; have hfz5_8 := blk_frozen BK144.out 8; have hfz5_9 := blk_frozen BK144.out 9; have hfz5_10 := blk_frozen BK144.out 10; have hfz5_11 := blk_frozen BK144.out 11; have hfz5_12 := blk_frozen BK144.out 12; have hfz5_13 := blk_frozen BK144.out 13; have hfz5_14 := blk_frozen BK144.out 14; have hfz5_15 := blk_frozen BK144.out 15; have hfz5_16 := blk_frozen BK144.out 16) | ((with_reducible refine gate_callee (f := 26) rfl ?_); refine goesL_ (some 5) rfl rfl Try.func26 (by kernel_rfl) rfl #[.slice A0_12 l0_12.length c0_12] rfl (by (try simp only [List.map_toArray, List.map_cons, List.map_nil]); first | done | rfl | (simp only [List.length_drop, List.length_take]; rfl)) ?_; (with_reducible refine (bollardalike_Small.calls k _ _ l0_12 true _ ?side1 ?side2 A2.out).mono ?_); (case side1 => repeat (first | exact (Kd.C_below HR0_12.out HB.out) | (with_reducible refine Kd.C_alloc ?_ _) | (with_reducible refine Kd.C_drewN ?_ _) | (with_reducible refine Kd.C_drew ?_))); (case side2 => exact HC0_12.out); rintro e w' ⟨rfl, ⟨nd, rfl⟩⟩; refine ⟨_, rfl, ?_⟩))
    go_ret
    exact ⟨by first | rfl | (simp [errW_none, errW_some] <;> rfl) | (simp [*, errW_none, errW_some] <;> rfl), by repeat (first | (with_reducible first | exact HB.out | apply below_alloc | apply pw_below_drewN | apply below_drew1 | refine below_set ?_ GE144.out) | exact HB.out)⟩
  · replace c3 := Bool.eq_false_iff.mpr c3
    subst c3
    have H1 : (some false) = some r := by rw [if_neg (show ¬ (false = true) by decide)] at H; exact H
    clear H
    have H := H1
    clear H1
    obtain rfl := Option.some.inj H
    go_enter Try.func11, Try.ntmps11
    go_wp2_with (first | ((with_reducible refine gate_dst (N := 1) rfl ?_); (try (refine gate_guard (by rfl) ?_; dsimp only)); refine box_event ?hg (N := 1) ?hd (cs := #[.int .i64 a0_0, .int .i64 a0_1, .string a0_2, .int .i64 a0_3, .int .i64 a0_4, .int .i64 a0_5, .int .i64 a0_6, .int .i64 a0_7, .bool a0_8, .int .i64 a0_9, .int .i64 a0_10, .int .i64 a0_11, .slice A0_12 l0_12.length c0_12, .int .i64 a0_13, .int .i64 a0_14, .int .i64 a0_15, .string a0_16]) (t := 26) ?hr ?_; (case hd => rfl); (case hg => rfl); (case hr => first | (go_simp; done) | (go_simp; rfl)); intro gb144 hg w6 hbox hb; have n0_ := Aside0.mk (below_step (by repeat (first | (with_reducible first | exact HB.out | apply below_alloc | apply pw_below_drewN | apply below_drew1) | exact HB.out)) hb); have n1_ := Aside0.mk (hbox); have n2_ := Aside0.mk ((by rw [hg]; exact (below_size (by repeat (first | (with_reducible first | exact HB.out | apply below_alloc | apply pw_below_drewN | apply below_drew1) | exact HB.out))) : w.heap.size ≤ gb144)); have n3_ := Aside0.mk ((by rw [hg]; exact (below_size (by repeat (first | (with_reducible first | exact HB.out | apply below_alloc | apply pw_below_drewN | apply below_drew1) | exact HB.out))) : w.heap.size ≤ gb144)); clear HB; have HB := n0_; have BK144 := n1_; have GW144 := n2_; have GE144 := n3_; clear n0_ n1_ n2_ n3_; clear hb hbox hg; have hcz7_0 : w6.cell? ⟨gb144, 0, none⟩ = some (.int .i64 a0_0) := (blk_cell BK144.out 0).trans rfl; have hcz7_1 : w6.cell? ⟨gb144, 1, none⟩ = some (.int .i64 a0_1) := (blk_cell BK144.out 1).trans rfl; have hcz7_2 : w6.cell? ⟨gb144, 2, none⟩ = some (.string a0_2) := (blk_cell BK144.out 2).trans rfl; have hcz7_3 : w6.cell? ⟨gb144, 3, none⟩ = some (.int .i64 a0_3) := (blk_cell BK144.out 3).trans rfl; have hcz7_4 : w6.cell? ⟨gb144, 4, none⟩ = some (.int .i64 a0_4) := (blk_cell BK144.out 4).trans rfl; have hcz7_5 : w6.cell? ⟨gb144, 5, none⟩ = some (.int .i64 a0_5) := (blk_cell BK144.out 5).trans rfl; have hcz7_6 : w6.cell? ⟨gb144, 6, none⟩ = some (.int .i64 a0_6) := (blk_cell BK144.out 6).trans rfl; have hcz7_7 : w6.cell? ⟨gb144, 7, none⟩ = some (.int .i64 a0_7) := (blk_cell BK144.out 7).trans rfl; have hcz7_8 : w6.cell? ⟨gb144, 8, none⟩ = some (.bool a0_8) := (blk_cell BK144.out 8).trans rfl; have hcz7_9 : w6.cell? ⟨gb144, 9, none⟩ = some (.int .i64 a0_9) := (blk_cell BK144.out 9).trans rfl; have hcz7_10 : w6.cell? ⟨gb144, 10, none⟩ = some (.int .i64 a0_10) := (blk_cell BK144.out 10).trans rfl; have hcz7_11 : w6.cell? ⟨gb144, 11, none⟩ = some (.int .i64 a0_11) := (blk_cell BK144.out 11).trans rfl; have hcz7_12 : w6.cell? ⟨gb144, 12, none⟩ = some (.slice A0_12 l0_12.length c0_12) := (blk_cell BK144.out 12).trans rfl; have hcz7_13 : w6.cell? ⟨gb144, 13, none⟩ = some (.int .i64 a0_13) := (blk_cell BK144.out 13).trans rfl; have hcz7_14 : w6.cell? ⟨gb144, 14, none⟩ = some (.int .i64 a0_14) := (blk_cell BK144.out 14).trans rfl; have hcz7_15 : w6.cell? ⟨gb144, 15, none⟩ = some (.int .i64 a0_15) := (blk_cell BK144.out 15).trans rfl; have hcz7_16 : w6.cell? ⟨gb144, 16, none⟩ = some (.string a0_16) := (blk_cell BK144.out 16).trans rfl; have hfz7_0 := blk_frozen BK144.out 0; have hfz7_1 := blk_frozen BK144.out 1; have hfz7_2 := blk_frozen BK144.out 2; have hfz7_3 := blk_frozen BK144.out 3; have hfz7_4 := blk_frozen BK144.out 4; have hfz7_5 := blk_frozen BK144.out 5; have hfz7_6 := blk_frozen BK144.out 6; have hfz7_7 := blk_frozen BK144.out 7; have hfz7_8 := blk_frozen BK144.out 8; have hfz7_9 := blk_frozen BK144.out 9; have hfz7_10 := blk_frozen BK144.out 10; have hfz7_11 := blk_frozen BK144.out 11; have hfz7_12 := blk_frozen BK144.out 12; have hfz7_13 := blk_frozen BK144.out 13; have hfz7_14 := blk_frozen BK144.out 14; have hfz7_15 := blk_frozen BK144.out 15; have hfz7_16 := blk_frozen BK144.out 16) | ((with_reducible refine gate_callee (f := 26) rfl ?_); refine goesL_ (some 5) rfl rfl Try.func26 (by kernel_rfl) rfl #[.slice A0_12 l0_12.length c0_12] rfl (by (try simp only [List.map_toArray, List.map_cons, List.map_nil]); first | done | rfl | (simp only [List.length_drop, List.length_take]; rfl)) ?_; (with_reducible refine (bollardalike_Small.calls k _ _ l0_12 false _ ?side1 ?side2 A2.out).mono ?_); (case side1 => repeat (first | exact (Kd.C_below HR0_12.out HB.out) | (with_reducible refine Kd.C_alloc ?_ _) | (with_reducible refine Kd.C_drewN ?_ _) | (with_reducible refine Kd.C_drew ?_))); (case side2 => exact HC0_12.out); rintro e w' ⟨rfl, ⟨nd, rfl⟩⟩; refine ⟨_, rfl, ?_⟩))
    go_ret
    exact ⟨by first | rfl | (simp [errW_none, errW_some] <;> rfl) | (simp [*, errW_none, errW_some] <;> rfl), by repeat (first | (with_reducible first | exact HB.out | apply below_alloc | apply pw_below_drewN | apply below_drew1 | refine below_set ?_ GE144.out) | exact HB.out)⟩

end Go.Proofs.Ytncfofnikmfjbaa.PCi
