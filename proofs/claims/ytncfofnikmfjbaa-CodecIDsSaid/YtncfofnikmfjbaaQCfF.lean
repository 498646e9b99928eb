import Derived.Test.YtncfofnikmfjbaaQPCix2
import Derived.DeepKeys4
import Derived.Maps.OwnOps
import Derived.Outline
import Derived.StillTailTactics
import Derived.RegionTactic
import Derived.BigRegion
import Derived.Lib.BufferWrite
namespace Go.Proofs.Ytncfofnikmfjbaa.PCi
open Go.RowKit Go.Proofs.YtncfofnikmfjbaaW.PrintWords Go.Proofs.YtncfofnikmfjbaaW.PrintLast Go.Proofs.YtncfofnikmfjbaaW.PrintMore
attribute [local go_sem] max2_int min2_int max_two min_two max_three min_three max_four min_four
set_option linter.unusedVariables false
set_option linter.unusedSimpArgs false

/-! ### codec.fields -/
def wayT : List (Int × Int × List Int) := [(0, 1, [0, 3, 4, 5, 6, 7, 8]), (0, 2, [0]), (0, 3, []), (0, 4, [0, 2, 9, 10, 16]), (0, 5, [0, 2, 11, 12]), (0, 6, [0, 2, 13]), (0, 7, [1, 0, 2, 11]), (0, 8, [1, 0, 2]), (1, 1, []), (1, 2, []), (1, 3, [17, 18]), (1, 4, [11, 14, 15]), (1, 5, [14, 15, 19]), (1, 6, [11, 14, 15]), (1, 7, []), (1, 8, [11])]
def wayKey (i : Nat) : Value := .agg #[.int .i64 (wayT.getD i (0, 0, [])).1, .int .i64 (wayT.getD i (0, 0, [])).2.1]
def wayL (i : Nat) : List Int := (wayT.getD i (0, 0, [])).2.2
theorem way_law : WideMaps.KeyLaw Try.prog 104 := deep_law_laid (by kernel_rfl) (m := 2) (by omega) (of_decide_eq_true (by kernel_rfl)) (by kernel_rfl) (by rw [Try.underlying104])
theorem way_size : Try.prog.types.size = 202 := by kernel_rfl
theorem way_type : Try.prog.keyType 104 = true := by kernel_rfl
theorem way_cells : Try.prog.cellsOf 104 = 2 := by kernel_rfl
theorem way_cell1 : Try.prog.cellsOf 3 = 1 := by kernel_rfl
theorem way_lits (d : Nat) (a b : Int) (ha : (Lit.int .i64 a).wf = true) (hb : (Lit.int .i64 b).wf = true) : Try.prog.keyLits (d + 2) 104 [.int .i64 a, .int .i64 b] = some [.int .i64 a, .int .i64 b] := by
  unfold Program.keyLits
  simp only [Try.underlying104]
  simp [way_cells, Program.keyLits, Try.underlying3, way_cell1, ha, hb]
theorem way_key (a b : Int) (ha : (Lit.int .i64 a).wf = true) (hb : (Lit.int .i64 b).wf = true) : ∃ l, keyOf Try.prog 104 (.agg #[.int .i64 a, .int .i64 b]) = some l := by
  unfold keyOf
  rw [Try.underlying104]
  have hf : (Value.agg #[.int .i64 a, .int .i64 b]).formed Try.prog 104 = true := by simp [Value.formed, Try.underlying104, way_cells]
  have hl : Try.prog.keyLits (Try.prog.types.size + 1) 104 (Value.agg #[.int .i64 a, .int .i64 b]).cells.toList = some [.int .i64 a, .int .i64 b] := by rw [way_size]; exact way_lits 201 a b ha hb
  simp only [way_type, hf, hl, Bool.and_self, if_true, Option.map_some]
  exact ⟨_, rfl⟩
theorem wayKey_key {i : Nat} (h : i < 16) : ∃ l, keyOf Try.prog 104 (wayKey i) = some l := way_key _ _ ((by decide : ∀ i, i < 16 → (Lit.int .i64 (wayT.getD i (0, 0, [])).1).wf = true) i h) ((by decide : ∀ i, i < 16 → (Lit.int .i64 (wayT.getD i (0, 0, [])).2.1).wf = true) i h)
theorem wayKey_inj {i j : Nat} (hi : i < 16) (hj : j < 16) (h : wayKey i = wayKey j) : i = j := by
  unfold wayKey at h
  simp only [Value.agg.injEq, Array.mk.injEq, List.cons.injEq, Value.int.injEq, true_and, and_true] at h
  exact (by decide : ∀ i, i < 16 → ∀ j, j < 16 → (wayT.getD i (0, 0, [])).1 = (wayT.getD j (0, 0, [])).1 ∧ (wayT.getD i (0, 0, [])).2.1 = (wayT.getD j (0, 0, [])).2.1 → i = j) i hi j hj h
theorem below_new {B : Nat} {w w1 : World} (h : Below B w w1) (hB : B ≤ w1.heap.size) (o : Obj) : Below B w (w1.alloc o) := h.trans ((below_alloc (Below.refl w1.heap.size w1) o).mono hB)
/-- The table's block: what is listed is in it, nothing else. -/
def WayMap (w : World) (m : Nat) (S : Nat → Bool) (r : Nat → Value) : Prop := ∃ es clock, w.heap[m]? = some (.map es clock) ∧ (∀ x ∈ es.toList, ∃ i, i < 16 ∧ S i = true ∧ x.key = wayKey i ∧ x.val = r i) ∧ ∀ i, i < 16 → S i = true → ∃ x ∈ es.toList, x.key = wayKey i
def WayRow (w : World) (B : Nat) (L : List Int) (v : Value) : Prop := ∃ g, v = .slice (some ⟨g, 0, none⟩) L.length L.length ∧ B ≤ g ∧ w.heap[g]? = some (.cells (L.map (Value.int .i64)).toArray 3 (0, 0))
theorem WayRow.below {w w1 : World} {B : Nat} {L : List Int} {v : Value} (h : WayRow w B L v) (hb : ∀ (g : Nat) (o : Obj), w.heap[g]? = some o → (∀ es c, o ≠ .map es c) → w1.heap[g]? = some o) : WayRow w1 B L v := by
  obtain ⟨g, h1, h2, h3⟩ := h
  exact ⟨g, h1, h2, hb g _ h3 (fun _ _ e => by cases e)⟩
/-- The row is laid into the table. -/
theorem way_insert {w : World} {B m i : Nat} {S : Nat → Bool} {r : Nat → Value} (h : WayMap w m S r) (hi : i < 16) (hS : S i = false) {w0 : World} (hb : Below B w0 w) (hm : B ≤ m) :
    ∃ w1, (Instr.mapUpdate 105 (.map (some m)) (wayKey i) (r i)).run Try.prog w = .ok () w1 ∧ Below B w0 w1 ∧ WayMap w1 m (fun j => if j = i then true else S j) r ∧ (∀ (g : Nat) (o : Obj), w.heap[g]? = some o → (∀ es c, o ≠ .map es c) → w1.heap[g]? = some o) ∧ w1.heap.size = w.heap.size := by
  obtain ⟨es, clock, h1, h2, h3⟩ := h
  obtain ⟨l, hl⟩ := wayKey_key hi
  have hks : ∀ e ∈ es.toList, ∃ l, keyOf Try.prog 104 e.key = some l := fun e he => by
    obtain ⟨j, hj, _, hk, _⟩ := h2 e he
    rw [hk]
    exact wayKey_key hj
  rcases way_law.find w hl es.toList hks with ⟨f1, f2⟩ | ⟨j, e, f1, f2, f3⟩
  · refine ⟨{ w with heap := w.heap.setIfInBounds m (.map (es.push ⟨wayKey i, r i, clock⟩) (clock + 1)) }, ?_, ?_, ?_, ?_, by simp⟩
    · simp [Instr.mapUpdate, run_underlying Try.underlying105, MapKept.run_getObj_map h1, way_law.check w false hl, f1, MapKept.run_setObj_map _ h1, Result.andThen]
    · refine ⟨hb.os, hb.tape, hb.output, by simpa using hb.size, fun k hk => ?_⟩
      rw [(MapKept.heap_set h1).2 k (by omega)]
      exact hb.block k hk
    · refine ⟨_, _, (MapKept.heap_set h1).1, fun x hx => ?_, fun j hj hS2 => ?_⟩
      · simp only [Array.toList_push, List.mem_append, List.mem_singleton] at hx
        rcases hx with hx | rfl
        · obtain ⟨j, hj, hs, hk, hv⟩ := h2 x hx
          exact ⟨j, hj, by simp [hs], hk, hv⟩
        · exact ⟨i, hi, by simp, rfl, rfl⟩
      · by_cases hji : j = i
        · subst hji
          exact ⟨⟨wayKey j, r j, clock⟩, by simp, rfl⟩
        · simp only [if_neg hji] at hS2
          obtain ⟨x, hx, hk⟩ := h3 j hj hS2
          exact ⟨x, by simp [hx], hk⟩
    · intro g o hg ho
      by_cases hgm : g = m
      · subst hgm
        rw [h1] at hg
        exact absurd (Option.some.inj hg).symm (ho _ _)
      · rw [(MapKept.heap_set h1).2 g hgm]
        exact hg
  · obtain ⟨j2, hj2, hs, hk, _⟩ := h2 e (List.mem_of_getElem? f2)
    have := wayKey_inj hj2 hi (hk.symm.trans f3)
    subst this
    rw [hS] at hs
    cases hs
/-- The look-up: the row of the key, or none. -/
theorem way_lookup {w : World} {m : Nat} {r : Nat → Value} (h : WayMap w m (fun _ => true) r) (a b : Int) (ha : (Lit.int .i64 a).wf = true) (hb : (Lit.int .i64 b).wf = true) :
    (∃ i, i < 16 ∧ wayKey i = .agg #[.int .i64 a, .int .i64 b] ∧ (Instr.lookup 105 (.map (some m)) (.agg #[.int .i64 a, .int .i64 b]) true).run Try.prog w = .ok (.tuple #[r i, .bool true]) w) ∨
    ((∀ i, i < 16 → wayKey i ≠ .agg #[.int .i64 a, .int .i64 b]) ∧ (Instr.lookup 105 (.map (some m)) (.agg #[.int .i64 a, .int .i64 b]) true).run Try.prog w = .ok (.tuple #[.slice none 0 0, .bool false]) w) := by
  obtain ⟨es, clock, h1, h2, h3⟩ := h
  obtain ⟨l, hl⟩ := way_key a b ha hb
  have hks : ∀ e ∈ es.toList, ∃ l, keyOf Try.prog 104 e.key = some l := fun e he => by
    obtain ⟨j, hj, _, hk, _⟩ := h2 e he
    rw [hk]
    exact wayKey_key hj
  have hz : (zeroValue 43).run Try.prog w = .ok (.slice none 0 0) w := by kernel_rfl
  rcases way_law.find w hl es.toList hks with ⟨f1, f2⟩ | ⟨j, e, f1, f2, f3⟩
  · refine .inr ⟨fun i hi hk => ?_, by simp [Instr.lookup, run_underlying Try.underlying105, MapKept.run_getObj_map h1, way_law.check w _ hl, f1, hz, Result.andThen]⟩
    obtain ⟨x, hx, hk2⟩ := h3 i hi rfl
    exact f2 x hx (hk2.trans hk)
  · obtain ⟨i, hi, _, hk, hv⟩ := h2 e (List.mem_of_getElem? f2)
    exact .inl ⟨i, hi, hk.symm.trans f3, by simp [Instr.lookup, run_underlying Try.underlying105, MapKept.run_getObj_map h1, way_law.check w _ hl, f1, hv, Result.andThen]⟩
/-- What holds with b listed. -/
def FdsI (B : Nat) (w0 : World) (m : Nat) (r : Nat → Value) (b : Nat → Bool) (w : World) : Prop :=
  Below B w0 w ∧ B ≤ w.heap.size ∧ (b 0 = true → B ≤ m ∧ WayMap w m (fun i => b (3 * i + 3)) r) ∧ ∀ i, i < 16 → b (3 * i + 2) = true → WayRow w B (wayL i) (r i)
theorem FdsI.same {B : Nat} {w0 w : World} {m : Nat} {r : Nat → Value} {b : Nat → Bool} (h : FdsI B w0 m r b w) {j : Nat} (h0 : j ≠ 0) (h2 : ∀ i, i < 16 → j ≠ 3 * i + 2) (h3 : ∀ i, i < 16 → j ≠ 3 * i + 3) : FdsI B w0 m r (up b j) w := by
  refine ⟨h.1, h.2.1, fun hb => ?_, fun i hi hb => h.2.2.2 i hi (by rwa [up_ne (fun e => h2 i hi e.symm)] at hb)⟩
  rw [up_ne (fun e => h0 e.symm)] at hb
  obtain ⟨g1, es, clock, g2, g3, g4⟩ := h.2.2.1 hb
  dsimp only at g3 g4
  refine ⟨g1, es, clock, g2, fun x hx => ?_, fun i hi hs => g4 i hi (by dsimp only at hs; rwa [up_ne (fun e => h3 i hi e.symm)] at hs)⟩
  obtain ⟨i, hi, hs, hk, hv⟩ := g3 x hx
  exact ⟨i, hi, by dsimp only; rw [up_ne (fun e => h3 i hi e.symm)]; exact hs, hk, hv⟩
theorem FdsI.made {B : Nat} {w0 w : World} {m : Nat} {r : Nat → Value} {b : Nat → Bool} (h : FdsI B w0 m r b w) (hoff : ∀ i, i < 16 → b (3 * i + 3) = false) : FdsI B w0 w.heap.size r (up b 0) (w.alloc (.map #[] 0)) := by
  refine ⟨below_new h.1 h.2.1 _, by simp; have := h.2.1; omega, fun _ => ⟨h.2.1, #[], 0, heap_alloc_new w _, by simp, fun i hi hs => ?_⟩, fun i hi hb => (h.2.2.2 i hi (by rwa [up_ne (by omega)] at hb)).below (fun g o hg _ => blk_alloc hg _)⟩
  dsimp only at hs
  rw [up_ne (by omega), hoff i hi] at hs
  cases hs
theorem FdsI.row {B : Nat} {w0 w : World} {m : Nat} {r : Nat → Value} {b : Nat → Bool} (h : FdsI B w0 m r b w) (i : Nat) (hi : i < 16) (hoff : b (3 * i + 3) = false) (L : List Int) (hL : L = wayL i) :
    FdsI B w0 m (fun j => if j = i then .slice (some ⟨w.heap.size, 0, none⟩) L.length L.length else r j) (up b (3 * i + 2)) (w.alloc (.cells (L.map (Value.int .i64)).toArray 3)) := by
  subst hL
  refine ⟨below_new h.1 h.2.1 _, by simp; have := h.2.1; omega, fun hb => ?_, fun j hj hb => ?_⟩
  · rw [up_ne (by omega)] at hb
    obtain ⟨g1, es, clock, g2, g3, g4⟩ := h.2.2.1 hb
    dsimp only at g3 g4
    refine ⟨g1, es, clock, blk_alloc g2 _, fun x hx => ?_, fun j hj hs => g4 j hj (by dsimp only at hs; rwa [up_ne (by omega)] at hs)⟩
    obtain ⟨j, hj, hs, hk, hv⟩ := g3 x hx
    refine ⟨j, hj, by dsimp only; rw [up_ne (by omega)]; exact hs, hk, ?_⟩
    dsimp only
    rw [if_neg (fun e => by subst e; rw [hoff] at hs; cases hs)]
    exact hv
  · dsimp only
    by_cases hji : j = i
    · subst hji
      rw [if_pos rfl]
      exact ⟨w.heap.size, rfl, h.2.1, heap_alloc_new w _⟩
    · rw [if_neg hji]
      rw [up_ne (by omega)] at hb
      exact (h.2.2.2 j hj hb).below (fun g o hg _ => blk_alloc hg _)
theorem FdsI.put {B : Nat} {w0 w : World} {m : Nat} {r : Nat → Value} {b : Nat → Bool} (h : FdsI B w0 m r b w) (i : Nat) (hi : i < 16) (h0 : b 0 = true) (hoff : b (3 * i + 3) = false) :
    ∃ w1, (Instr.mapUpdate 105 (.map (some m)) (wayKey i) (r i)).run Try.prog w = .ok () w1 ∧ FdsI B w0 m r (up b (3 * i + 3)) w1 := by
  obtain ⟨g1, g2⟩ := h.2.2.1 h0
  obtain ⟨w1, k1, k2, k3, k4, k5⟩ := way_insert g2 hi hoff h.1 g1
  refine ⟨w1, k1, k2, by rw [k5]; exact h.2.1, fun _ => ⟨g1, ?_⟩, fun j hj hb => (h.2.2.2 j hj (by rwa [up_ne (by omega)] at hb)).below k4⟩
  obtain ⟨es, clock, e1, e2, e3⟩ := k3
  dsimp only at e2 e3
  refine ⟨es, clock, e1, fun x hx => ?_, fun j hj hs => e3 j hj ?_⟩
  · obtain ⟨j, hj, hs, hk, hv⟩ := e2 x hx
    refine ⟨j, hj, ?_, hk, hv⟩
    dsimp only
    by_cases hji : j = i
    · subst hji; exact up_self _ _
    · rw [up_ne (by omega)]; simpa [hji] using hs
  · by_cases hji : j = i
    · simp [hji]
    · simp only [if_neg hji]; dsimp only at hs; rwa [up_ne (by omega)] at hs
def fdsT : Bool × List (List Nat × List Nat) := (true, [([], []), ([], []), ([], []), ([0, 1, 2], [0, 1, 2]), ([], []), ([], []), ([0, 4, 5], [0, 4, 5]), ([], []), ([], []), ([0, 7, 8], [0, 7, 8]), ([], []), ([], []), ([0, 10, 11], [0, 10, 11]), ([], []), ([], []), ([0, 13, 14], [0, 13, 14]), ([], []), ([], []), ([0, 16, 17], [0, 16, 17]), ([], []), ([], []), ([0, 19, 20], [0, 19, 20]), ([], []), ([], []), ([0, 22, 23], [0, 22, 23]), ([], []), ([], []), ([0, 25, 26], [0, 25, 26]), ([], []), ([], []), ([0, 28, 29], [0, 28, 29]), ([], []), ([], []), ([0, 31, 32], [0, 31, 32]), ([], []), ([], []), ([0, 34, 35], [0, 34, 35]), ([], []), ([], []), ([0, 37, 38], [0, 37, 38]), ([], []), ([], []), ([0, 40, 41], [0, 40, 41]), ([], []), ([], []), ([0, 43, 44], [0, 43, 44]), ([], []), ([], []), ([0, 46, 47], [0, 46, 47]), ([0, 1, 2, 3, 4, 5, 6, 7, 8, 9, 10, 11, 12, 13, 14, 15, 16, 17, 18, 19, 20, 21, 22, 23, 24, 25, 26, 27, 28, 29, 30, 31, 32, 33, 34, 35, 36, 37, 38, 39, 40, 41, 42, 43, 44, 45, 46, 47, 48], [0]), ([49, 0, 1, 2, 3, 4, 5, 6, 7, 8, 9, 10, 11, 12, 13, 14, 15, 16, 17, 18, 19, 20, 21, 22, 23, 24, 25, 26, 27, 28, 29, 30, 31, 32, 33, 34, 35, 36, 37, 38, 39, 40, 41, 42, 43, 44, 45, 46, 47, 48, 49], [49])])
def fdsB : List Nat := [0, 0, 0, 7, 0, 0, 49, 0, 0, 385, 0, 0, 3073, 0, 0, 24577, 0, 0, 196609, 0, 0, 1572865, 0, 0, 12582913, 0, 0, 100663297, 0, 0, 805306369, 0, 0, 6442450945, 0, 0, 51539607553, 0, 0, 412316860417, 0, 0, 3298534883329, 0, 0, 26388279066625, 0, 0, 211106232532993, 562949953421311, 1125899906842623]
theorem fds_tab : rtab .any (opsOf Try.f27 1) = fdsT := by kernel_rfl
theorem fds_bits : waitsOk fdsT.2 fdsB = true := by kernel_rfl
/-- The slots that are filled. -/
def fdsL (m : Nat) (r : Nat → Value) (v1 v2 : Value) : List (Nat × Tmp × Value) := [(0, 9, (.map (some m))), (1, 10, (wayKey 0)), (2, 11, (r 0)), (4, 12, (wayKey 1)), (5, 13, (r 1)), (7, 14, (wayKey 2)), (8, 15, (r 2)), (10, 16, (wayKey 3)), (11, 17, (r 3)), (13, 18, (wayKey 4)), (14, 19, (r 4)), (16, 20, (wayKey 5)), (17, 21, (r 5)), (19, 22, (wayKey 6)), (20, 23, (r 6)), (22, 24, (wayKey 7)), (23, 25, (r 7)), (25, 26, (wayKey 8)), (26, 27, (r 8)), (28, 28, (wayKey 9)), (29, 29, (r 9)), (31, 30, (wayKey 10)), (32, 31, (r 10)), (34, 32, (wayKey 11)), (35, 33, (r 11)), (37, 34, (wayKey 12)), (38, 35, (r 12)), (40, 36, (wayKey 13)), (41, 37, (r 13)), (43, 38, (wayKey 14)), (44, 39, (r 14)), (46, 40, (wayKey 15)), (47, 41, (r 15)), (49, 42, v1), (50, 6, v2)]
def FdsR (B : Nat) (w0 : World) (a0 : Act) (b : Nat → Bool) (a : Act) (w : World) : Prop := ∃ m r v1 v2, a = putSel a0 b (fdsL m r v1 v2) ∧ FdsI B w0 m r b w ∧ (b 49 = true → v1 = .map (some m)) ∧ (b 50 = true → v2 = .map (some m))
theorem wpl_lookup {P : Program} {ops : Array Oper} {rest : List Oper} {o : Oper} {a : Act} {w : World} {Q : Exit → Act → World → Prop} (hg : o.guard = none) (t : TypeId) (m x : Operand) (c : Bool) (hop : o.op = Op.lookup t m x c) {vm vx v : Value} (hm : a.eval m = vm) (hx : a.eval x = vx)
    (hrun : (Instr.lookup t vm vx c).run P w = .ok v w) (h : wpList P ops Q rest (a.put o.dst v) w) : wpList P ops Q (o :: rest) a w := by
  refine wpList_plain hg fun K' hK' => ?_
  unfold Oper.wp
  simp [execOp, hop, hm, hx, hrun, Result.andThen]
  exact hK' _ _ h
/-- What it leaves. -/
def FdsPost (B : Nat) (f : Option (List Int)) (e : Ending) (w' : World) : Prop := (f = none ∧ e = .returned (.tuple #[.slice none 0 0, .bool false])) ∨ ∃ L v, f = some L ∧ e = .returned (.tuple #[v, .bool true]) ∧ WayRow w' B L v
/-- What 'fields' tells: the row of which and kind, or none. -/
def codec_fields.f (which kind : Int) : Option (List Int) := (wayT.find? fun e => decide (e.1 = which ∧ e.2.1 = kind)).map fun e => e.2.2
set_option maxHeartbeats 16000000 in
set_option maxRecDepth 100000 in
theorem codec_fields.calls (which kind : Int) (w : World) (h1 : (Lit.int .i64 which).wf = true) (h2 : (Lit.int .i64 kind).wf = true) :
    Calls Try.prog 27 #[.int .i64 which, .int .i64 kind] w fun e w' => FdsPost w.heap.size (codec_fields.f which kind) e w' ∧ Below w.heap.size w w' := by
  have H1 := Aside0.mk h1
  have H2 := Aside0.mk h2
  clear h1 h2
  go_enter Try.func27, Try.ntmps27
  go_upto_region 1 with (fail)
  rename_i K_ hK_
  refine start_ (n := 51) (S := fun w' => True) (ds := []) #[false, false, false, false, false, false, false, false, false, false, false, false, false, false, false, false, false, false, false, false, false, false, false, false, false, false, false, false, false, false, false, false, false, false, false, false, false, false, false, false, false, false, false, false, false, false, false, false, false, false, false] (by kernel_rfl) rfl rfl trivial (fun hHeld => ?_)
  refine inv_at (List.range 51) (FdsR w.heap.size w) fds_tab fds_bits (by kernel_rfl) (by kernel_rfl) ?_ ?_ ?_
  · exact ⟨0, fun _ => undef, undef, undef, by simp only [fdsL, putSel, Bool.false_eq_true, if_false], ⟨pw_below_drewN (Below.refl _ _) 1, Nat.le_refl _, fun h_ => absurd h_ (by decide), fun _ _ h_ => absurd h_ (by simp)⟩, fun h_ => absurd h_ (by decide), fun h_ => absurd h_ (by decide)⟩
  · rw [show List.range 51 = [0, 1, 2, 3, 4, 5, 6, 7, 8, 9, 10, 11, 12, 13, 14, 15, 16, 17, 18, 19, 20, 21, 22, 23, 24, 25, 26, 27, 28, 29, 30, 31, 32, 33, 34, 35, 36, 37, 38, 39, 40, 41, 42, 43, 44, 45, 46, 47, 48, 49, 50] from rfl]
    refine steps_cons ?_ ?_
    · rintro b a w' ⟨m, r, v1, v2, ha, hI, hv1, hv2⟩ hb_ hon hoff
      refine ⟨_, rfl, fun K hK => ?_⟩
      refine value_ (w1 := w'.alloc (.map #[] 0)) (v := .map (some w'.heap.size)) (by rfl) rfl ?_ ?_
      · go_simp
        try rfl
      refine hK.out _ _ ⟨w'.heap.size, r, v1, v2, (by rw [ha]; exact putSel_upk 0 hb_ rfl rfl rfl), hI.made (fun i hi => ?_), fun h_ => ?_, fun h_ => ?_⟩
      · exact hoff (3 * i + 3) ((by decide : ∀ i, i < 16 → ((List.range 51).contains (3 * i + 3) && (fdsB.getD (3 * i + 3) 0).testBit 0) = true) i hi)
      · rw [up_ne (by decide), (hoff 49 (by kernel_rfl))] at h_; cases h_
      · rw [up_ne (by decide), (hoff 50 (by kernel_rfl))] at h_; cases h_
    refine steps_cons ?_ ?_
    · rintro b a w' ⟨m, r, v1, v2, ha, hI, hv1, hv2⟩ hb_ hon hoff
      refine ⟨_, rfl, fun K hK => ?_⟩
      refine value_ (w1 := w') (v := wayKey 0) (by rfl) rfl ?_ ?_
      · go_simp
        try rfl
      exact hK.out _ _ ⟨m, r, v1, v2, (by rw [ha]; exact putSel_upk 1 hb_ rfl rfl rfl), hI.same (by decide) (by omega) (by omega), (fun h_ => hv1 (by rwa [up_ne (by decide)] at h_)), (fun h_ => hv2 (by rwa [up_ne (by decide)] at h_))⟩
    refine steps_cons ?_ ?_
    · rintro b a w' ⟨m, r, v1, v2, ha, hI, hv1, hv2⟩ hb_ hon hoff
      refine ⟨_, rfl, fun K hK => ?_⟩
      refine value_ (w1 := w'.alloc (.cells (([0, 3, 4, 5, 6, 7, 8] : List Int).map (Value.int .i64)).toArray 3)) (v := .slice (some ⟨w'.heap.size, 0, none⟩) 7 7) (by rfl) rfl ?_ ?_
      · go_simp
        try rfl
      refine hK.out _ _ ⟨m, fun j => if j = 0 then .slice (some ⟨w'.heap.size, 0, none⟩) 7 7 else r j, v1, v2, (by rw [ha]; exact putSel_upk 2 hb_ rfl rfl rfl), hI.row 0 (by decide) (hoff 3 (by kernel_rfl)) [0, 3, 4, 5, 6, 7, 8] rfl, (fun h_ => hv1 (by rwa [up_ne (by decide)] at h_)), (fun h_ => hv2 (by rwa [up_ne (by decide)] at h_))⟩
    refine steps_cons ?_ ?_
    · rintro b a w' ⟨m, r, v1, v2, ha, hI, hv1, hv2⟩ hb_ hon hoff
      refine ⟨_, rfl, fun K hK => ?_⟩
      have e9 : a.tmps[9]? = some (.map (some m)) := by rw [ha]; exact putSel_on (e := (0, 9, (.map (some m)))) 0 rfl rfl (hon 0 (by kernel_rfl)) rfl
      have e10 : a.tmps[10]? = some (wayKey 0) := by rw [ha]; exact putSel_on (e := (1, 10, (wayKey 0))) 1 rfl rfl (hon 1 (by kernel_rfl)) rfl
      have e11 : a.tmps[11]? = some (r 0) := by rw [ha]; exact putSel_on (e := (2, 11, (r 0))) 2 rfl rfl (hon 2 (by kernel_rfl)) rfl
      obtain ⟨w1, h1, h2⟩ := hI.put 0 (by decide) (hon 0 (by kernel_rfl)) hb_
      refine skip_ (w1 := w1) (by rfl) rfl ?_ ?_
      · simp [execOp, Act.eval, e9, e10, e11, h1, Result.andThen]
      exact hK.out _ _ ⟨m, r, v1, v2, (by rw [ha]; exact putSel_none (v := undef) rfl), h2, (fun h_ => hv1 (by rwa [up_ne (by decide)] at h_)), (fun h_ => hv2 (by rwa [up_ne (by decide)] at h_))⟩
    refine steps_cons ?_ ?_
    · rintro b a w' ⟨m, r, v1, v2, ha, hI, hv1, hv2⟩ hb_ hon hoff
      refine ⟨_, rfl, fun K hK => ?_⟩
      refine value_ (w1 := w') (v := wayKey 1) (by rfl) rfl ?_ ?_
      · go_simp
        try rfl
      exact hK.out _ _ ⟨m, r, v1, v2, (by rw [ha]; exact putSel_upk 3 hb_ rfl rfl rfl), hI.same (by decide) (by omega) (by omega), (fun h_ => hv1 (by rwa [up_ne (by decide)] at h_)), (fun h_ => hv2 (by rwa [up_ne (by decide)] at h_))⟩
    refine steps_cons ?_ ?_
    · rintro b a w' ⟨m, r, v1, v2, ha, hI, hv1, hv2⟩ hb_ hon hoff
      refine ⟨_, rfl, fun K hK => ?_⟩
      refine value_ (w1 := w'.alloc (.cells (([0] : List Int).map (Value.int .i64)).toArray 3)) (v := .slice (some ⟨w'.heap.size, 0, none⟩) 1 1) (by rfl) rfl ?_ ?_
      · go_simp
        try rfl
      refine hK.out _ _ ⟨m, fun j => if j = 1 then .slice (some ⟨w'.heap.size, 0, none⟩) 1 1 else r j, v1, v2, (by rw [ha]; exact putSel_upk 4 hb_ rfl rfl rfl), hI.row 1 (by decide) (hoff 6 (by kernel_rfl)) [0] rfl, (fun h_ => hv1 (by rwa [up_ne (by decide)] at h_)), (fun h_ => hv2 (by rwa [up_ne (by decide)] at h_))⟩
    refine steps_cons ?_ ?_
    · rintro b a w' ⟨m, r, v1, v2, ha, hI, hv1, hv2⟩ hb_ hon hoff
      refine ⟨_, rfl, fun K hK => ?_⟩
      have e9 : a.tmps[9]? = some (.map (some m)) := by rw [ha]; exact putSel_on (e := (0, 9, (.map (some m)))) 0 rfl rfl (hon 0 (by kernel_rfl)) rfl
      have e12 : a.tmps[12]? = some (wayKey 1) := by rw [ha]; exact putSel_on (e := (4, 12, (wayKey 1))) 3 rfl rfl (hon 4 (by kernel_rfl)) rfl
      have e13 : a.tmps[13]? = some (r 1) := by rw [ha]; exact putSel_on (e := (5, 13, (r 1))) 4 rfl rfl (hon 5 (by kernel_rfl)) rfl
      obtain ⟨w1, h1, h2⟩ := hI.put 1 (by decide) (hon 0 (by kernel_rfl)) hb_
      refine skip_ (w1 := w1) (by rfl) rfl ?_ ?_
      · simp [execOp, Act.eval, e9, e12, e13, h1, Result.andThen]
      exact hK.out _ _ ⟨m, r, v1, v2, (by rw [ha]; exact putSel_none (v := undef) rfl), h2, (fun h_ => hv1 (by rwa [up_ne (by decide)] at h_)), (fun h_ => hv2 (by rwa [up_ne (by decide)] at h_))⟩
    refine steps_cons ?_ ?_
    · rintro b a w' ⟨m, r, v1, v2, ha, hI, hv1, hv2⟩ hb_ hon hoff
      refine ⟨_, rfl, fun K hK => ?_⟩
      refine value_ (w1 := w') (v := wayKey 2) (by rfl) rfl ?_ ?_
      · go_simp
        try rfl
      exact hK.out _ _ ⟨m, r, v1, v2, (by rw [ha]; exact putSel_upk 5 hb_ rfl rfl rfl), hI.same (by decide) (by omega) (by omega), (fun h_ => hv1 (by rwa [up_ne (by decide)] at h_)), (fun h_ => hv2 (by rwa [up_ne (by decide)] at h_))⟩
    refine steps_cons ?_ ?_
    · rintro b a w' ⟨m, r, v1, v2, ha, hI, hv1, hv2⟩ hb_ hon hoff
      refine ⟨_, rfl, fun K hK => ?_⟩
      refine value_ (w1 := w'.alloc (.cells (([] : List Int).map (Value.int .i64)).toArray 3)) (v := .slice (some ⟨w'.heap.size, 0, none⟩) 0 0) (by rfl) rfl ?_ ?_
      · go_simp
        try rfl
      refine hK.out _ _ ⟨m, fun j => if j = 2 then .slice (some ⟨w'.heap.size, 0, none⟩) 0 0 else r j, v1, v2, (by rw [ha]; exact putSel_upk 6 hb_ rfl rfl rfl), hI.row 2 (by decide) (hoff 9 (by kernel_rfl)) [] rfl, (fun h_ => hv1 (by rwa [up_ne (by decide)] at h_)), (fun h_ => hv2 (by rwa [up_ne (by decide)] at h_))⟩
    refine steps_cons ?_ ?_
    · rintro b a w' ⟨m, r, v1, v2, ha, hI, hv1, hv2⟩ hb_ hon hoff
      refine ⟨_, rfl, fun K hK => ?_⟩
      have e9 : a.tmps[9]? = some (.map (some m)) := by rw [ha]; exact putSel_on (e := (0, 9, (.map (some m)))) 0 rfl rfl (hon 0 (by kernel_rfl)) rfl
      have e14 : a.tmps[14]? = some (wayKey 2) := by rw [ha]; exact putSel_on (e := (7, 14, (wayKey 2))) 5 rfl rfl (hon 7 (by kernel_rfl)) rfl
      have e15 : a.tmps[15]? = some (r 2) := by rw [ha]; exact putSel_on (e := (8, 15, (r 2))) 6 rfl rfl (hon 8 (by kernel_rfl)) rfl
      obtain ⟨w1, h1, h2⟩ := hI.put 2 (by decide) (hon 0 (by kernel_rfl)) hb_
      refine skip_ (w1 := w1) (by rfl) rfl ?_ ?_
      · simp [execOp, Act.eval, e9, e14, e15, h1, Result.andThen]
      exact hK.out _ _ ⟨m, r, v1, v2, (by rw [ha]; exact putSel_none (v := undef) rfl), h2, (fun h_ => hv1 (by rwa [up_ne (by decide)] at h_)), (fun h_ => hv2 (by rwa [up_ne (by decide)] at h_))⟩
    refine steps_cons ?_ ?_
    · rintro b a w' ⟨m, r, v1, v2, ha, hI, hv1, hv2⟩ hb_ hon hoff
      refine ⟨_, rfl, fun K hK => ?_⟩
      refine value_ (w1 := w') (v := wayKey 3) (by rfl) rfl ?_ ?_
      · go_simp
        try rfl
      exact hK.out _ _ ⟨m, r, v1, v2, (by rw [ha]; exact putSel_upk 7 hb_ rfl rfl rfl), hI.same (by decide) (by omega) (by omega), (fun h_ => hv1 (by rwa [up_ne (by decide)] at h_)), (fun h_ => hv2 (by rwa [up_ne (by decide)] at h_))⟩
    refine steps_cons ?_ ?_
    · rintro b a w' ⟨m, r, v1, v2, ha, hI, hv1, hv2⟩ hb_ hon hoff
      refine ⟨_, rfl, fun K hK => ?_⟩
      refine value_ (w1 := w'.alloc (.cells (([0, 2, 9, 10, 16] : List Int).map (Value.int .i64)).toArray 3)) (v := .slice (some ⟨w'.heap.size, 0, none⟩) 5 5) (by rfl) rfl ?_ ?_
      · go_simp
        try rfl
      refine hK.out _ _ ⟨m, fun j => if j = 3 then .slice (some ⟨w'.heap.size, 0, none⟩) 5 5 else r j, v1, v2, (by rw [ha]; exact putSel_upk 8 hb_ rfl rfl rfl), hI.row 3 (by decide) (hoff 12 (by kernel_rfl)) [0, 2, 9, 10, 16] rfl, (fun h_ => hv1 (by rwa [up_ne (by decide)] at h_)), (fun h_ => hv2 (by rwa [up_ne (by decide)] at h_))⟩
    refine steps_cons ?_ ?_
    · rintro b a w' ⟨m, r, v1, v2, ha, hI, hv1, hv2⟩ hb_ hon hoff
      refine ⟨_, rfl, fun K hK => ?_⟩
      have e9 : a.tmps[9]? = some (.map (some m)) := by rw [ha]; exact putSel_on (e := (0, 9, (.map (some m)))) 0 rfl rfl (hon 0 (by kernel_rfl)) rfl
      have e16 : a.tmps[16]? = some (wayKey 3) := by rw [ha]; exact putSel_on (e := (10, 16, (wayKey 3))) 7 rfl rfl (hon 10 (by kernel_rfl)) rfl
      have e17 : a.tmps[17]? = some (r 3) := by rw [ha]; exact putSel_on (e := (11, 17, (r 3))) 8 rfl rfl (hon 11 (by kernel_rfl)) rfl
      obtain ⟨w1, h1, h2⟩ := hI.put 3 (by decide) (hon 0 (by kernel_rfl)) hb_
      refine skip_ (w1 := w1) (by rfl) rfl ?_ ?_
      · simp [execOp, Act.eval, e9, e16, e17, h1, Result.andThen]
      exact hK.out _ _ ⟨m, r, v1, v2, (by rw [ha]; exact putSel_none (v := undef) rfl), h2, (fun h_ => hv1 (by rwa [up_ne (by decide)] at h_)), (fun h_ => hv2 (by rwa [up_ne (by decide)] at h_))⟩
    refine steps_cons ?_ ?_
    · rintro b a w' ⟨m, r, v1, v2, ha, hI, hv1, hv2⟩ hb_ hon hoff
      refine ⟨_, rfl, fun K hK => ?_⟩
      refine value_ (w1 := w') (v := wayKey 4) (by rfl) rfl ?_ ?_
      · go_simp
        try rfl
      exact hK.out _ _ ⟨m, r, v1, v2, (by rw [ha]; exact putSel_upk 9 hb_ rfl rfl rfl), hI.same (by decide) (by omega) (by omega), (fun h_ => hv1 (by rwa [up_ne (by decide)] at h_)), (fun h_ => hv2 (by rwa [up_ne (by decide)] at h_))⟩
    refine steps_cons ?_ ?_
    · rintro b a w' ⟨m, r, v1, v2, ha, hI, hv1, hv2⟩ hb_ hon hoff
      refine ⟨_, rfl, fun K hK => ?_⟩
      refine value_ (w1 := w'.alloc (.cells (([0, 2, 11, 12] : List Int).map (Value.int .i64)).toArray 3)) (v := .slice (some ⟨w'.heap.size, 0, none⟩) 4 4) (by rfl) rfl ?_ ?_
      · go_simp
        try rfl
      refine hK.out _ _ ⟨m, fun j => if j = 4 then .slice (some ⟨w'.heap.size, 0, none⟩) 4 4 else r j, v1, v2, (by rw [ha]; exact putSel_upk 10 hb_ rfl rfl rfl), hI.row 4 (by decide) (hoff 15 (by kernel_rfl)) [0, 2, 11, 12] rfl, (fun h_ => hv1 (by rwa [up_ne (by decide)] at h_)), (fun h_ => hv2 (by rwa [up_ne (by decide)] at h_))⟩
    refine steps_cons ?_ ?_
    · rintro b a w' ⟨m, r, v1, v2, ha, hI, hv1, hv2⟩ hb_ hon hoff
      refine ⟨_, rfl, fun K hK => ?_⟩
      have e9 : a.tmps[9]? = some (.map (some m)) := by rw [ha]; exact putSel_on (e := (0, 9, (.map (some m)))) 0 rfl rfl (hon 0 (by kernel_rfl)) rfl
      have e18 : a.tmps[18]? = some (wayKey 4) := by rw [ha]; exact putSel_on (e := (13, 18, (wayKey 4))) 9 rfl rfl (hon 13 (by kernel_rfl)) rfl
      have e19 : a.tmps[19]? = some (r 4) := by rw [ha]; exact putSel_on (e := (14, 19, (r 4))) 10 rfl rfl (hon 14 (by kernel_rfl)) rfl
      obtain ⟨w1, h1, h2⟩ := hI.put 4 (by decide) (hon 0 (by kernel_rfl)) hb_
      refine skip_ (w1 := w1) (by rfl) rfl ?_ ?_
      · simp [execOp, Act.eval, e9, e18, e19, h1, Result.andThen]
      exact hK.out _ _ ⟨m, r, v1, v2, (by rw [ha]; exact putSel_none (v := undef) rfl), h2, (fun h_ => hv1 (by rwa [up_ne (by decide)] at h_)), (fun h_ => hv2 (by rwa [up_ne (by decide)] at h_))⟩
    refine steps_cons ?_ ?_
    · rintro b a w' ⟨m, r, v1, v2, ha, hI, hv1, hv2⟩ hb_ hon hoff
      refine ⟨_, rfl, fun K hK => ?_⟩
      refine value_ (w1 := w') (v := wayKey 5) (by rfl) rfl ?_ ?_
      · go_simp
        try rfl
      exact hK.out _ _ ⟨m, r, v1, v2, (by rw [ha]; exact putSel_upk 11 hb_ rfl rfl rfl), hI.same (by decide) (by omega) (by omega), (fun h_ => hv1 (by rwa [up_ne (by decide)] at h_)), (fun h_ => hv2 (by rwa [up_ne (by decide)] at h_))⟩
    refine steps_cons ?_ ?_
    · rintro b a w' ⟨m, r, v1, v2, ha, hI, hv1, hv2⟩ hb_ hon hoff
      refine ⟨_, rfl, fun K hK => ?_⟩
      refine value_ (w1 := w'.alloc (.cells (([0, 2, 13] : List Int).map (Value.int .i64)).toArray 3)) (v := .slice (some ⟨w'.heap.size, 0, none⟩) 3 3) (by rfl) rfl ?_ ?_
      · go_simp
        try rfl
      refine hK.out _ _ ⟨m, fun j => if j = 5 then .slice (some ⟨w'.heap.size, 0, none⟩) 3 3 else r j, v1, v2, (by rw [ha]; exact putSel_upk 12 hb_ rfl rfl rfl), hI.row 5 (by decide) (hoff 18 (by kernel_rfl)) [0, 2, 13] rfl, (fun h_ => hv1 (by rwa [up_ne (by decide)] at h_)), (fun h_ => hv2 (by rwa [up_ne (by decide)] at h_))⟩
    refine steps_cons ?_ ?_
    · rintro b a w' ⟨m, r, v1, v2, ha, hI, hv1, hv2⟩ hb_ hon hoff
      refine ⟨_, rfl, fun K hK => ?_⟩
      have e9 : a.tmps[9]? = some (.map (some m)) := by rw [ha]; exact putSel_on (e := (0, 9, (.map (some m)))) 0 rfl rfl (hon 0 (by kernel_rfl)) rfl
      have e20 : a.tmps[20]? = some (wayKey 5) := by rw [ha]; exact putSel_on (e := (16, 20, (wayKey 5))) 11 rfl rfl (hon 16 (by kernel_rfl)) rfl
      have e21 : a.tmps[21]? = some (r 5) := by rw [ha]; exact putSel_on (e := (17, 21, (r 5))) 12 rfl rfl (hon 17 (by kernel_rfl)) rfl
      obtain ⟨w1, h1, h2⟩ := hI.put 5 (by decide) (hon 0 (by kernel_rfl)) hb_
      refine skip_ (w1 := w1) (by rfl) rfl ?_ ?_
      · simp [execOp, Act.eval, e9, e20, e21, h1, Result.andThen]
      exact hK.out _ _ ⟨m, r, v1, v2, (by rw [ha]; exact putSel_none (v := undef) rfl), h2, (fun h_ => hv1 (by rwa [up_ne (by decide)] at h_)), (fun h_ => hv2 (by rwa [up_ne (by decide)] at h_))⟩
    refine steps_cons ?_ ?_
    · rintro b a w' ⟨m, r, v1, v2, ha, hI, hv1, hv2⟩ hb_ hon hoff
      refine ⟨_, rfl, fun K hK => ?_⟩
      refine value_ (w1 := w') (v := wayKey 6) (by rfl) rfl ?_ ?_
      · go_simp
        try rfl
      exact hK.out _ _ ⟨m, r, v1, v2, (by rw [ha]; exact putSel_upk 13 hb_ rfl rfl rfl), hI.same (by decide) (by omega) (by omega), (fun h_ => hv1 (by rwa [up_ne (by decide)] at h_)), (fun h_ => hv2 (by rwa [up_ne (by decide)] at h_))⟩
    refine steps_cons ?_ ?_
    · rintro b a w' ⟨m, r, v1, v2, ha, hI, hv1, hv2⟩ hb_ hon hoff
      refine ⟨_, rfl, fun K hK => ?_⟩
      refine value_ (w1 := w'.alloc (.cells (([1, 0, 2, 11] : List Int).map (Value.int .i64)).toArray 3)) (v := .slice (some ⟨w'.heap.size, 0, none⟩) 4 4) (by rfl) rfl ?_ ?_
      · go_simp
        try rfl
      refine hK.out _ _ ⟨m, fun j => if j = 6 then .slice (some ⟨w'.heap.size, 0, none⟩) 4 4 else r j, v1, v2, (by rw [ha]; exact putSel_upk 14 hb_ rfl rfl rfl), hI.row 6 (by decide) (hoff 21 (by kernel_rfl)) [1, 0, 2, 11] rfl, (fun h_ => hv1 (by rwa [up_ne (by decide)] at h_)), (fun h_ => hv2 (by rwa [up_ne (by decide)] at h_))⟩
    refine steps_cons ?_ ?_
    · rintro b a w' ⟨m, r, v1, v2, ha, hI, hv1, hv2⟩ hb_ hon hoff
      refine ⟨_, rfl, fun K hK => ?_⟩
      have e9 : a.tmps[9]? = some (.map (some m)) := by rw [ha]; exact putSel_on (e := (0, 9, (.map (some m)))) 0 rfl rfl (hon 0 (by kernel_rfl)) rfl
      have e22 : a.tmps[22]? = some (wayKey 6) := by rw [ha]; exact putSel_on (e := (19, 22, (wayKey 6))) 13 rfl rfl (hon 19 (by kernel_rfl)) rfl
      have e23 : a.tmps[23]? = some (r 6) := by rw [ha]; exact putSel_on (e := (20, 23, (r 6))) 14 rfl rfl (hon 20 (by kernel_rfl)) rfl
      obtain ⟨w1, h1, h2⟩ := hI.put 6 (by decide) (hon 0 (by kernel_rfl)) hb_
      refine skip_ (w1 := w1) (by rfl) rfl ?_ ?_
      · simp [execOp, Act.eval, e9, e22, e23, h1, Result.andThen]
      exact hK.out _ _ ⟨m, r, v1, v2, (by rw [ha]; exact putSel_none (v := undef) rfl), h2, (fun h_ => hv1 (by rwa [up_ne (by decide)] at h_)), (fun h_ => hv2 (by rwa [up_ne (by decide)] at h_))⟩
    refine steps_cons ?_ ?_
    · rintro b a w' ⟨m, r, v1, v2, ha, hI, hv1, hv2⟩ hb_ hon hoff
      refine ⟨_, rfl, fun K hK => ?_⟩
      refine value_ (w1 := w') (v := wayKey 7) (by rfl) rfl ?_ ?_
      · go_simp
        try rfl
      exact hK.out _ _ ⟨m, r, v1, v2, (by rw [ha]; exact putSel_upk 15 hb_ rfl rfl rfl), hI.same (by decide) (by omega) (by omega), (fun h_ => hv1 (by rwa [up_ne (by decide)] at h_)), (fun h_ => hv2 (by rwa [up_ne (by decide)] at h_))⟩
    refine steps_cons ?_ ?_
    · rintro b a w' ⟨m, r, v1, v2, ha, hI, hv1, hv2⟩ hb_ hon hoff
      refine ⟨_, rfl, fun K hK => ?_⟩
      refine value_ (w1 := w'.alloc (.cells (([1, 0, 2] : List Int).map (Value.int .i64)).toArray 3)) (v := .slice (some ⟨w'.heap.size, 0, none⟩) 3 3) (by rfl) rfl ?_ ?_
      · go_simp
        try rfl
      refine hK.out _ _ ⟨m, fun j => if j = 7 then .slice (some ⟨w'.heap.size, 0, none⟩) 3 3 else r j, v1, v2, (by rw [ha]; exact putSel_upk 16 hb_ rfl rfl rfl), hI.row 7 (by decide) (hoff 24 (by kernel_rfl)) [1, 0, 2] rfl, (fun h_ => hv1 (by rwa [up_ne (by decide)] at h_)), (fun h_ => hv2 (by rwa [up_ne (by decide)] at h_))⟩
    refine steps_cons ?_ ?_
    · rintro b a w' ⟨m, r, v1, v2, ha, hI, hv1, hv2⟩ hb_ hon hoff
      refine ⟨_, rfl, fun K hK => ?_⟩
      have e9 : a.tmps[9]? = some (.map (some m)) := by rw [ha]; exact putSel_on (e := (0, 9, (.map (some m)))) 0 rfl rfl (hon 0 (by kernel_rfl)) rfl
      have e24 : a.tmps[24]? = some (wayKey 7) := by rw [ha]; exact putSel_on (e := (22, 24, (wayKey 7))) 15 rfl rfl (hon 22 (by kernel_rfl)) rfl
      have e25 : a.tmps[25]? = some (r 7) := by rw [ha]; exact putSel_on (e := (23, 25, (r 7))) 16 rfl rfl (hon 23 (by kernel_rfl)) rfl
      obtain ⟨w1, h1, h2⟩ := hI.put 7 (by decide) (hon 0 (by kernel_rfl)) hb_
      refine skip_ (w1 := w1) (by rfl) rfl ?_ ?_
      · simp [execOp, Act.eval, e9, e24, e25, h1, Result.andThen]
      exact hK.out _ _ ⟨m, r, v1, v2, (by rw [ha]; exact putSel_none (v := undef) rfl), h2, (fun h_ => hv1 (by rwa [up_ne (by decide)] at h_)), (fun h_ => hv2 (by rwa [up_ne (by decide)] at h_))⟩
    refine steps_cons ?_ ?_
    · rintro b a w' ⟨m, r, v1, v2, ha, hI, hv1, hv2⟩ hb_ hon hoff
      refine ⟨_, rfl, fun K hK => ?_⟩
      refine value_ (w1 := w') (v := wayKey 8) (by rfl) rfl ?_ ?_
      · go_simp
        try rfl
      exact hK.out _ _ ⟨m, r, v1, v2, (by rw [ha]; exact putSel_upk 17 hb_ rfl rfl rfl), hI.same (by decide) (by omega) (by omega), (fun h_ => hv1 (by rwa [up_ne (by decide)] at h_)), (fun h_ => hv2 (by rwa [up_ne (by decide)] at h_))⟩
    refine steps_cons ?_ ?_
    · rintro b a w' ⟨m, r, v1, v2, ha, hI, hv1, hv2⟩ hb_ hon hoff
      refine ⟨_, rfl, fun K hK => ?_⟩
      refine value_ (w1 := w'.alloc (.cells (([] : List Int).map (Value.int .i64)).toArray 3)) (v := .slice (some ⟨w'.heap.size, 0, none⟩) 0 0) (by rfl) rfl ?_ ?_
      · go_simp
        try rfl
      refine hK.out _ _ ⟨m, fun j => if j = 8 then .slice (some ⟨w'.heap.size, 0, none⟩) 0 0 else r j, v1, v2, (by rw [ha]; exact putSel_upk 18 hb_ rfl rfl rfl), hI.row 8 (by decide) (hoff 27 (by kernel_rfl)) [] rfl, (fun h_ => hv1 (by rwa [up_ne (by decide)] at h_)), (fun h_ => hv2 (by rwa [up_ne (by decide)] at h_))⟩
    refine steps_cons ?_ ?_
    · rintro b a w' ⟨m, r, v1, v2, ha, hI, hv1, hv2⟩ hb_ hon hoff
      refine ⟨_, rfl, fun K hK => ?_⟩
      have e9 : a.tmps[9]? = some (.map (some m)) := by rw [ha]; exact putSel_on (e := (0, 9, (.map (some m)))) 0 rfl rfl (hon 0 (by kernel_rfl)) rfl
      have e26 : a.tmps[26]? = some (wayKey 8) := by rw [ha]; exact putSel_on (e := (25, 26, (wayKey 8))) 17 rfl rfl (hon 25 (by kernel_rfl)) rfl
      have e27 : a.tmps[27]? = some (r 8) := by rw [ha]; exact putSel_on (e := (26, 27, (r 8))) 18 rfl rfl (hon 26 (by kernel_rfl)) rfl
      obtain ⟨w1, h1, h2⟩ := hI.put 8 (by decide) (hon 0 (by kernel_rfl)) hb_
      refine skip_ (w1 := w1) (by rfl) rfl ?_ ?_
      · simp [execOp, Act.eval, e9, e26, e27, h1, Result.andThen]
      exact hK.out _ _ ⟨m, r, v1, v2, (by rw [ha]; exact putSel_none (v := undef) rfl), h2, (fun h_ => hv1 (by rwa [up_ne (by decide)] at h_)), (fun h_ => hv2 (by rwa [up_ne (by decide)] at h_))⟩
    refine steps_cons ?_ ?_
    · rintro b a w' ⟨m, r, v1, v2, ha, hI, hv1, hv2⟩ hb_ hon hoff
      refine ⟨_, rfl, fun K hK => ?_⟩
      refine value_ (w1 := w') (v := wayKey 9) (by rfl) rfl ?_ ?_
      · go_simp
        try rfl
      exact hK.out _ _ ⟨m, r, v1, v2, (by rw [ha]; exact putSel_upk 19 hb_ rfl rfl rfl), hI.same (by decide) (by omega) (by omega), (fun h_ => hv1 (by rwa [up_ne (by decide)] at h_)), (fun h_ => hv2 (by rwa [up_ne (by decide)] at h_))⟩
    refine steps_cons ?_ ?_
    · rintro b a w' ⟨m, r, v1, v2, ha, hI, hv1, hv2⟩ hb_ hon hoff
      refine ⟨_, rfl, fun K hK => ?_⟩
      refine value_ (w1 := w'.alloc (.cells (([] : List Int).map (Value.int .i64)).toArray 3)) (v := .slice (some ⟨w'.heap.size, 0, none⟩) 0 0) (by rfl) rfl ?_ ?_
      · go_simp
        try rfl
      refine hK.out _ _ ⟨m, fun j => if j = 9 then .slice (some ⟨w'.heap.size, 0, none⟩) 0 0 else r j, v1, v2, (by rw [ha]; exact putSel_upk 20 hb_ rfl rfl rfl), hI.row 9 (by decide) (hoff 30 (by kernel_rfl)) [] rfl, (fun h_ => hv1 (by rwa [up_ne (by decide)] at h_)), (fun h_ => hv2 (by rwa [up_ne (by decide)] at h_))⟩
    refine steps_cons ?_ ?_
    · rintro b a w' ⟨m, r, v1, v2, ha, hI, hv1, hv2⟩ hb_ hon hoff
      refine ⟨_, rfl, fun K hK => ?_⟩
      have e9 : a.tmps[9]? = some (.map (some m)) := by rw [ha]; exact putSel_on (e := (0, 9, (.map (some m)))) 0 rfl rfl (hon 0 (by kernel_rfl)) rfl
      have e28 : a.tmps[28]? = some (wayKey 9) := by rw [ha]; exact putSel_on (e := (28, 28, (wayKey 9))) 19 rfl rfl (hon 28 (by kernel_rfl)) rfl
      have e29 : a.tmps[29]? = some (r 9) := by rw [ha]; exact putSel_on (e := (29, 29, (r 9))) 20 rfl rfl (hon 29 (by kernel_rfl)) rfl
      obtain ⟨w1, h1, h2⟩ := hI.put 9 (by decide) (hon 0 (by kernel_rfl)) hb_
      refine skip_ (w1 := w1) (by rfl) rfl ?_ ?_
      · simp [execOp, Act.eval, e9, e28, e29, h1, Result.andThen]
      exact hK.out _ _ ⟨m, r, v1, v2, (by rw [ha]; exact putSel_none (v := undef) rfl), h2, (fun h_ => hv1 (by rwa [up_ne (by decide)] at h_)), (fun h_ => hv2 (by rwa [up_ne (by decide)] at h_))⟩
    refine steps_cons ?_ ?_
    · rintro b a w' ⟨m, r, v1, v2, ha, hI, hv1, hv2⟩ hb_ hon hoff
      refine ⟨_, rfl, fun K hK => ?_⟩
      refine value_ (w1 := w') (v := wayKey 10) (by rfl) rfl ?_ ?_
      · go_simp
        try rfl
      exact hK.out _ _ ⟨m, r, v1, v2, (by rw [ha]; exact putSel_upk 21 hb_ rfl rfl rfl), hI.same (by decide) (by omega) (by omega), (fun h_ => hv1 (by rwa [up_ne (by decide)] at h_)), (fun h_ => hv2 (by rwa [up_ne (by decide)] at h_))⟩
    refine steps_cons ?_ ?_
    · rintro b a w' ⟨m, r, v1, v2, ha, hI, hv1, hv2⟩ hb_ hon hoff
      refine ⟨_, rfl, fun K hK => ?_⟩
      refine value_ (w1 := w'.alloc (.cells (([17, 18] : List Int).map (Value.int .i64)).toArray 3)) (v := .slice (some ⟨w'.heap.size, 0, none⟩) 2 2) (by rfl) rfl ?_ ?_
      · go_simp
        try rfl
      refine hK.out _ _ ⟨m, fun j => if j = 10 then .slice (some ⟨w'.heap.size, 0, none⟩) 2 2 else r j, v1, v2, (by rw [ha]; exact putSel_upk 22 hb_ rfl rfl rfl), hI.row 10 (by decide) (hoff 33 (by kernel_rfl)) [17, 18] rfl, (fun h_ => hv1 (by rwa [up_ne (by decide)] at h_)), (fun h_ => hv2 (by rwa [up_ne (by decide)] at h_))⟩
    refine steps_cons ?_ ?_
    · rintro b a w' ⟨m, r, v1, v2, ha, hI, hv1, hv2⟩ hb_ hon hoff
      refine ⟨_, rfl, fun K hK => ?_⟩
      have e9 : a.tmps[9]? = some (.map (some m)) := by rw [ha]; exact putSel_on (e := (0, 9, (.map (some m)))) 0 rfl rfl (hon 0 (by kernel_rfl)) rfl
      have e30 : a.tmps[30]? = some (wayKey 10) := by rw [ha]; exact putSel_on (e := (31, 30, (wayKey 10))) 21 rfl rfl (hon 31 (by kernel_rfl)) rfl
      have e31 : a.tmps[31]? = some (r 10) := by rw [ha]; exact putSel_on (e := (32, 31, (r 10))) 22 rfl rfl (hon 32 (by kernel_rfl)) rfl
      obtain ⟨w1, h1, h2⟩ := hI.put 10 (by decide) (hon 0 (by kernel_rfl)) hb_
      refine skip_ (w1 := w1) (by rfl) rfl ?_ ?_
      · simp [execOp, Act.eval, e9, e30, e31, h1, Result.andThen]
      exact hK.out _ _ ⟨m, r, v1, v2, (by rw [ha]; exact putSel_none (v := undef) rfl), h2, (fun h_ => hv1 (by rwa [up_ne (by decide)] at h_)), (fun h_ => hv2 (by rwa [up_ne (by decide)] at h_))⟩
    refine steps_cons ?_ ?_
    · rintro b a w' ⟨m, r, v1, v2, ha, hI, hv1, hv2⟩ hb_ hon hoff
      refine ⟨_, rfl, fun K hK => ?_⟩
      refine value_ (w1 := w') (v := wayKey 11) (by rfl) rfl ?_ ?_
      · go_simp
        try rfl
      exact hK.out _ _ ⟨m, r, v1, v2, (by rw [ha]; exact putSel_upk 23 hb_ rfl rfl rfl), hI.same (by decide) (by omega) (by omega), (fun h_ => hv1 (by rwa [up_ne (by decide)] at h_)), (fun h_ => hv2 (by rwa [up_ne (by decide)] at h_))⟩
    refine steps_cons ?_ ?_
    · rintro b a w' ⟨m, r, v1, v2, ha, hI, hv1, hv2⟩ hb_ hon hoff
      refine ⟨_, rfl, fun K hK => ?_⟩
      refine value_ (w1 := w'.alloc (.cells (([11, 14, 15] : List Int).map (Value.int .i64)).toArray 3)) (v := .slice (some ⟨w'.heap.size, 0, none⟩) 3 3) (by rfl) rfl ?_ ?_
      · go_simp
        try rfl
      refine hK.out _ _ ⟨m, fun j => if j = 11 then .slice (some ⟨w'.heap.size, 0, none⟩) 3 3 else r j, v1, v2, (by rw [ha]; exact putSel_upk 24 hb_ rfl rfl rfl), hI.row 11 (by decide) (hoff 36 (by kernel_rfl)) [11, 14, 15] rfl, (fun h_ => hv1 (by rwa [up_ne (by decide)] at h_)), (fun h_ => hv2 (by rwa [up_ne (by decide)] at h_))⟩
    refine steps_cons ?_ ?_
    · rintro b a w' ⟨m, r, v1, v2, ha, hI, hv1, hv2⟩ hb_ hon hoff
      refine ⟨_, rfl, fun K hK => ?_⟩
      have e9 : a.tmps[9]? = some (.map (some m)) := by rw [ha]; exact putSel_on (e := (0, 9, (.map (some m)))) 0 rfl rfl (hon 0 (by kernel_rfl)) rfl
      have e32 : a.tmps[32]? = some (wayKey 11) := by rw [ha]; exact putSel_on (e := (34, 32, (wayKey 11))) 23 rfl rfl (hon 34 (by kernel_rfl)) rfl
      have e33 : a.tmps[33]? = some (r 11) := by rw [ha]; exact putSel_on (e := (35, 33, (r 11))) 24 rfl rfl (hon 35 (by kernel_rfl)) rfl
      obtain ⟨w1, h1, h2⟩ := hI.put 11 (by decide) (hon 0 (by kernel_rfl)) hb_
      refine skip_ (w1 := w1) (by rfl) rfl ?_ ?_
      · simp [execOp, Act.eval, e9, e32, e33, h1, Result.andThen]
      exact hK.out _ _ ⟨m, r, v1, v2, (by rw [ha]; exact putSel_none (v := undef) rfl), h2, (fun h_ => hv1 (by rwa [up_ne (by decide)] at h_)), (fun h_ => hv2 (by rwa [up_ne (by decide)] at h_))⟩
    refine steps_cons ?_ ?_
    · rintro b a w' ⟨m, r, v1, v2, ha, hI, hv1, hv2⟩ hb_ hon hoff
      refine ⟨_, rfl, fun K hK => ?_⟩
      refine value_ (w1 := w') (v := wayKey 12) (by rfl) rfl ?_ ?_
      · go_simp
        try rfl
      exact hK.out _ _ ⟨m, r, v1, v2, (by rw [ha]; exact putSel_upk 25 hb_ rfl rfl rfl), hI.same (by decide) (by omega) (by omega), (fun h_ => hv1 (by rwa [up_ne (by decide)] at h_)), (fun h_ => hv2 (by rwa [up_ne (by decide)] at h_))⟩
    refine steps_cons ?_ ?_
    · rintro b a w' ⟨m, r, v1, v2, ha, hI, hv1, hv2⟩ hb_ hon hoff
      refine ⟨_, rfl, fun K hK => ?_⟩
      refine value_ (w1 := w'.alloc (.cells (([14, 15, 19] : List Int).map (Value.int .i64)).toArray 3)) (v := .slice (some ⟨w'.heap.size, 0, none⟩) 3 3) (by rfl) rfl ?_ ?_
      · go_simp
        try rfl
      refine hK.out _ _ ⟨m, fun j => if j = 12 then .slice (some ⟨w'.heap.size, 0, none⟩) 3 3 else r j, v1, v2, (by rw [ha]; exact putSel_upk 26 hb_ rfl rfl rfl), hI.row 12 (by decide) (hoff 39 (by kernel_rfl)) [14, 15, 19] rfl, (fun h_ => hv1 (by rwa [up_ne (by decide)] at h_)), (fun h_ => hv2 (by rwa [up_ne (by decide)] at h_))⟩
    refine steps_cons ?_ ?_
    · rintro b a w' ⟨m, r, v1, v2, ha, hI, hv1, hv2⟩ hb_ hon hoff
      refine ⟨_, rfl, fun K hK => ?_⟩
      have e9 : a.tmps[9]? = some (.map (some m)) := by rw [ha]; exact putSel_on (e := (0, 9, (.map (some m)))) 0 rfl rfl (hon 0 (by kernel_rfl)) rfl
      have e34 : a.tmps[34]? = some (wayKey 12) := by rw [ha]; exact putSel_on (e := (37, 34, (wayKey 12))) 25 rfl rfl (hon 37 (by kernel_rfl)) rfl
      have e35 : a.tmps[35]? = some (r 12) := by rw [ha]; exact putSel_on (e := (38, 35, (r 12))) 26 rfl rfl (hon 38 (by kernel_rfl)) rfl
      obtain ⟨w1, h1, h2⟩ := hI.put 12 (by decide) (hon 0 (by kernel_rfl)) hb_
      refine skip_ (w1 := w1) (by rfl) rfl ?_ ?_
      · simp [execOp, Act.eval, e9, e34, e35, h1, Result.andThen]
      exact hK.out _ _ ⟨m, r, v1, v2, (by rw [ha]; exact putSel_none (v := undef) rfl), h2, (fun h_ => hv1 (by rwa [up_ne (by decide)] at h_)), (fun h_ => hv2 (by rwa [up_ne (by decide)] at h_))⟩
    refine steps_cons ?_ ?_
    · rintro b a w' ⟨m, r, v1, v2, ha, hI, hv1, hv2⟩ hb_ hon hoff
      refine ⟨_, rfl, fun K hK => ?_⟩
      refine value_ (w1 := w') (v := wayKey 13) (by rfl) rfl ?_ ?_
      · go_simp
        try rfl
      exact hK.out _ _ ⟨m, r, v1, v2, (by rw [ha]; exact putSel_upk 27 hb_ rfl rfl rfl), hI.same (by decide) (by omega) (by omega), (fun h_ => hv1 (by rwa [up_ne (by decide)] at h_)), (fun h_ => hv2 (by rwa [up_ne (by decide)] at h_))⟩
    refine steps_cons ?_ ?_
    · rintro b a w' ⟨m, r, v1, v2, ha, hI, hv1, hv2⟩ hb_ hon hoff
      refine ⟨_, rfl, fun K hK => ?_⟩
      refine value_ (w1 := w'.alloc (.cells (([11, 14, 15] : List Int).map (Value.int .i64)).toArray 3)) (v := .slice (some ⟨w'.heap.size, 0, none⟩) 3 3) (by rfl) rfl ?_ ?_
      · go_simp
        try rfl
      refine hK.out _ _ ⟨m, fun j => if j = 13 then .slice (some ⟨w'.heap.size, 0, none⟩) 3 3 else r j, v1, v2, (by rw [ha]; exact putSel_upk 28 hb_ rfl rfl rfl), hI.row 13 (by decide) (hoff 42 (by kernel_rfl)) [11, 14, 15] rfl, (fun h_ => hv1 (by rwa [up_ne (by decide)] at h_)), (fun h_ => hv2 (by rwa [up_ne (by decide)] at h_))⟩
    refine steps_cons ?_ ?_
    · rintro b a w' ⟨m, r, v1, v2, ha, hI, hv1, hv2⟩ hb_ hon hoff
      refine ⟨_, rfl, fun K hK => ?_⟩
      have e9 : a.tmps[9]? = some (.map (some m)) := by rw [ha]; exact putSel_on (e := (0, 9, (.map (some m)))) 0 rfl rfl (hon 0 (by kernel_rfl)) rfl
      have e36 : a.tmps[36]? = some (wayKey 13) := by rw [ha]; exact putSel_on (e := (40, 36, (wayKey 13))) 27 rfl rfl (hon 40 (by kernel_rfl)) rfl
      have e37 : a.tmps[37]? = some (r 13) := by rw [ha]; exact putSel_on (e := (41, 37, (r 13))) 28 rfl rfl (hon 41 (by kernel_rfl)) rfl
      obtain ⟨w1, h1, h2⟩ := hI.put 13 (by decide) (hon 0 (by kernel_rfl)) hb_
      refine skip_ (w1 := w1) (by rfl) rfl ?_ ?_
      · simp [execOp, Act.eval, e9, e36, e37, h1, Result.andThen]
      exact hK.out _ _ ⟨m, r, v1, v2, (by rw [ha]; exact putSel_none (v := undef) rfl), h2, (fun h_ => hv1 (by rwa [up_ne (by decide)] at h_)), (fun h_ => hv2 (by rwa [up_ne (by decide)] at h_))⟩
    refine steps_cons ?_ ?_
    · rintro b a w' ⟨m, r, v1, v2, ha, hI, hv1, hv2⟩ hb_ hon hoff
      refine ⟨_, rfl, fun K hK => ?_⟩
      refine value_ (w1 := w') (v := wayKey 14) (by rfl) rfl ?_ ?_
      · go_simp
        try rfl
      exact hK.out _ _ ⟨m, r, v1, v2, (by rw [ha]; exact putSel_upk 29 hb_ rfl rfl rfl), hI.same (by decide) (by omega) (by omega), (fun h_ => hv1 (by rwa [up_ne (by decide)] at h_)), (fun h_ => hv2 (by rwa [up_ne (by decide)] at h_))⟩
    refine steps_cons ?_ ?_
    · rintro b a w' ⟨m, r, v1, v2, ha, hI, hv1, hv2⟩ hb_ hon hoff
      refine ⟨_, rfl, fun K hK => ?_⟩
      refine value_ (w1 := w'.alloc (.cells (([] : List Int).map (Value.int .i64)).toArray 3)) (v := .slice (some ⟨w'.heap.size, 0, none⟩) 0 0) (by rfl) rfl ?_ ?_
      · go_simp
        try rfl
      refine hK.out _ _ ⟨m, fun j => if j = 14 then .slice (some ⟨w'.heap.size, 0, none⟩) 0 0 else r j, v1, v2, (by rw [ha]; exact putSel_upk 30 hb_ rfl rfl rfl), hI.row 14 (by decide) (hoff 45 (by kernel_rfl)) [] rfl, (fun h_ => hv1 (by rwa [up_ne (by decide)] at h_)), (fun h_ => hv2 (by rwa [up_ne (by decide)] at h_))⟩
    refine steps_cons ?_ ?_
    · rintro b a w' ⟨m, r, v1, v2, ha, hI, hv1, hv2⟩ hb_ hon hoff
      refine ⟨_, rfl, fun K hK => ?_⟩
      have e9 : a.tmps[9]? = some (.map (some m)) := by rw [ha]; exact putSel_on (e := (0, 9, (.map (some m)))) 0 rfl rfl (hon 0 (by kernel_rfl)) rfl
      have e38 : a.tmps[38]? = some (wayKey 14) := by rw [ha]; exact putSel_on (e := (43, 38, (wayKey 14))) 29 rfl rfl (hon 43 (by kernel_rfl)) rfl
      have e39 : a.tmps[39]? = some (r 14) := by rw [ha]; exact putSel_on (e := (44, 39, (r 14))) 30 rfl rfl (hon 44 (by kernel_rfl)) rfl
      obtain ⟨w1, h1, h2⟩ := hI.put 14 (by decide) (hon 0 (by kernel_rfl)) hb_
      refine skip_ (w1 := w1) (by rfl) rfl ?_ ?_
      · simp [execOp, Act.eval, e9, e38, e39, h1, Result.andThen]
      exact hK.out _ _ ⟨m, r, v1, v2, (by rw [ha]; exact putSel_none (v := undef) rfl), h2, (fun h_ => hv1 (by rwa [up_ne (by decide)] at h_)), (fun h_ => hv2 (by rwa [up_ne (by decide)] at h_))⟩
    refine steps_cons ?_ ?_
    · rintro b a w' ⟨m, r, v1, v2, ha, hI, hv1, hv2⟩ hb_ hon hoff
      refine ⟨_, rfl, fun K hK => ?_⟩
      refine value_ (w1 := w') (v := wayKey 15) (by rfl) rfl ?_ ?_
      · go_simp
        try rfl
      exact hK.out _ _ ⟨m, r, v1, v2, (by rw [ha]; exact putSel_upk 31 hb_ rfl rfl rfl), hI.same (by decide) (by omega) (by omega), (fun h_ => hv1 (by rwa [up_ne (by decide)] at h_)), (fun h_ => hv2 (by rwa [up_ne (by decide)] at h_))⟩
    refine steps_cons ?_ ?_
    · rintro b a w' ⟨m, r, v1, v2, ha, hI, hv1, hv2⟩ hb_ hon hoff
      refine ⟨_, rfl, fun K hK => ?_⟩
      refine value_ (w1 := w'.alloc (.cells (([11] : List Int).map (Value.int .i64)).toArray 3)) (v := .slice (some ⟨w'.heap.size, 0, none⟩) 1 1) (by rfl) rfl ?_ ?_
      · go_simp
        try rfl
      refine hK.out _ _ ⟨m, fun j => if j = 15 then .slice (some ⟨w'.heap.size, 0, none⟩) 1 1 else r j, v1, v2, (by rw [ha]; exact putSel_upk 32 hb_ rfl rfl rfl), hI.row 15 (by decide) (hoff 48 (by kernel_rfl)) [11] rfl, (fun h_ => hv1 (by rwa [up_ne (by decide)] at h_)), (fun h_ => hv2 (by rwa [up_ne (by decide)] at h_))⟩
    refine steps_cons ?_ ?_
    · rintro b a w' ⟨m, r, v1, v2, ha, hI, hv1, hv2⟩ hb_ hon hoff
      refine ⟨_, rfl, fun K hK => ?_⟩
      have e9 : a.tmps[9]? = some (.map (some m)) := by rw [ha]; exact putSel_on (e := (0, 9, (.map (some m)))) 0 rfl rfl (hon 0 (by kernel_rfl)) rfl
      have e40 : a.tmps[40]? = some (wayKey 15) := by rw [ha]; exact putSel_on (e := (46, 40, (wayKey 15))) 31 rfl rfl (hon 46 (by kernel_rfl)) rfl
      have e41 : a.tmps[41]? = some (r 15) := by rw [ha]; exact putSel_on (e := (47, 41, (r 15))) 32 rfl rfl (hon 47 (by kernel_rfl)) rfl
      obtain ⟨w1, h1, h2⟩ := hI.put 15 (by decide) (hon 0 (by kernel_rfl)) hb_
      refine skip_ (w1 := w1) (by rfl) rfl ?_ ?_
      · simp [execOp, Act.eval, e9, e40, e41, h1, Result.andThen]
      exact hK.out _ _ ⟨m, r, v1, v2, (by rw [ha]; exact putSel_none (v := undef) rfl), h2, (fun h_ => hv1 (by rwa [up_ne (by decide)] at h_)), (fun h_ => hv2 (by rwa [up_ne (by decide)] at h_))⟩
    refine steps_cons ?_ ?_
    · rintro b a w' ⟨m, r, v1, v2, ha, hI, hv1, hv2⟩ hb_ hon hoff
      refine ⟨_, rfl, fun K hK => ?_⟩
      have e9 : a.tmps[9]? = some (.map (some m)) := by rw [ha]; exact putSel_on (e := (0, 9, (.map (some m)))) 0 rfl rfl (hon 0 (by kernel_rfl)) rfl
      refine value_ (w1 := w') (v := .map (some m)) (by rfl) rfl ?_ ?_
      · simp [execOp, Act.eval, e9]
      exact hK.out _ _ ⟨m, r, .map (some m), v2, (by rw [ha]; exact putSel_upk 33 hb_ rfl rfl rfl), hI.same (by decide) (by omega) (by omega), fun _ => rfl, (fun h_ => hv2 (by rwa [up_ne (by decide)] at h_))⟩
    refine steps_cons ?_ ?_
    · rintro b a w' ⟨m, r, v1, v2, ha, hI, hv1, hv2⟩ hb_ hon hoff
      refine ⟨_, rfl, fun K hK => ?_⟩
      have e42 : a.tmps[42]? = some v1 := by rw [ha]; exact putSel_on (e := (49, 42, v1)) 33 rfl rfl (hon 49 (by kernel_rfl)) rfl
      rw [hv1 (hon 49 (by kernel_rfl))] at e42
      refine value_ (w1 := w') (v := .map (some m)) (by rfl) rfl ?_ ?_
      · simp [execOp, Act.eval, e42]
      exact hK.out _ _ ⟨m, r, v1, .map (some m), (by rw [ha]; exact putSel_upk 34 hb_ rfl rfl rfl), hI.same (by decide) (by omega) (by omega), (fun h_ => hv1 (by rwa [up_ne (by decide)] at h_)), fun _ => rfl⟩
    exact steps_nil
  · rintro b a' w1 hall ⟨m, r, v1, v2, rfl, h, hv1, hv2⟩
    obtain rfl := hv2 (hall 50 (by kernel_rfl))
    obtain rfl := hv1 (hall 49 (by kernel_rfl))
    have hb0_ := hall 0 (by kernel_rfl)
    have hb1_ := hall 1 (by kernel_rfl)
    have hb2_ := hall 2 (by kernel_rfl)
    have hb4_ := hall 4 (by kernel_rfl)
    have hb5_ := hall 5 (by kernel_rfl)
    have hb7_ := hall 7 (by kernel_rfl)
    have hb8_ := hall 8 (by kernel_rfl)
    have hb10_ := hall 10 (by kernel_rfl)
    have hb11_ := hall 11 (by kernel_rfl)
    have hb13_ := hall 13 (by kernel_rfl)
    have hb14_ := hall 14 (by kernel_rfl)
    have hb16_ := hall 16 (by kernel_rfl)
    have hb17_ := hall 17 (by kernel_rfl)
    have hb19_ := hall 19 (by kernel_rfl)
    have hb20_ := hall 20 (by kernel_rfl)
    have hb22_ := hall 22 (by kernel_rfl)
    have hb23_ := hall 23 (by kernel_rfl)
    have hb25_ := hall 25 (by kernel_rfl)
    have hb26_ := hall 26 (by kernel_rfl)
    have hb28_ := hall 28 (by kernel_rfl)
    have hb29_ := hall 29 (by kernel_rfl)
    have hb31_ := hall 31 (by kernel_rfl)
    have hb32_ := hall 32 (by kernel_rfl)
    have hb34_ := hall 34 (by kernel_rfl)
    have hb35_ := hall 35 (by kernel_rfl)
    have hb37_ := hall 37 (by kernel_rfl)
    have hb38_ := hall 38 (by kernel_rfl)
    have hb40_ := hall 40 (by kernel_rfl)
    have hb41_ := hall 41 (by kernel_rfl)
    have hb43_ := hall 43 (by kernel_rfl)
    have hb44_ := hall 44 (by kernel_rfl)
    have hb46_ := hall 46 (by kernel_rfl)
    have hb47_ := hall 47 (by kernel_rfl)
    have hb49_ := hall 49 (by kernel_rfl)
    have hb50_ := hall 50 (by kernel_rfl)
    have hM : WayMap w1 m (fun _ => true) r := by
      obtain ⟨es, clock, g1, g2, g3⟩ := (h.2.2.1 (hall 0 (by kernel_rfl))).2
      refine ⟨es, clock, g1, fun x hx => ?_, fun i hi _ => g3 i hi (hall _ ((by decide : ∀ i, i < 16 → (List.range 51).contains (3 * i + 3) = true) i hi))⟩
      obtain ⟨i, hi, _, hk⟩ := g2 x hx
      exact ⟨i, hi, rfl, hk⟩
    have HR := Aside0.mk (fun i (hi : i < 16) => h.2.2.2 i hi (hall _ ((by decide : ∀ i, i < 16 → (List.range 51).contains (3 * i + 2) = true) i hi)))
    have HBl := Aside0.mk h.1
    show K_ _ _
    simp only [fdsL, putSel, hb0_, hb1_, hb2_, hb4_, hb5_, hb7_, hb8_, hb10_, hb11_, hb13_, hb14_, hb16_, hb17_, hb19_, hb20_, hb22_, hb23_, hb25_, hb26_, hb28_, hb29_, hb31_, hb32_, hb34_, hb35_, hb37_, hb38_, hb40_, hb41_, hb43_, hb44_, hb46_, hb47_, hb49_, hb50_, if_true, Act.put, List.setIfInBounds_toArray, List.set_cons_zero, List.set_cons_succ]
    have HL := Aside0.mk (way_lookup hM which kind H1.out H2.out)
    clear h hM hall hb0_ hb1_ hb2_ hb4_ hb5_ hb7_ hb8_ hb10_ hb11_ hb13_ hb14_ hb16_ hb17_ hb19_ hb20_ hb22_ hb23_ hb25_ hb26_ hb28_ hb29_ hb31_ hb32_ hb34_ hb35_ hb37_ hb38_ hb40_ hb41_ hb43_ hb44_ hb46_ hb47_ hb49_ hb50_ hv1 hv2 hHeld
    refine hK_ _ _ ?_
    rcases HL.out with ⟨i, hi, hk, hl⟩ | ⟨hk, hl⟩
    · have hf : codec_fields.f which kind = some (wayL i) := by
        unfold wayKey at hk
        simp only [Value.agg.injEq, Array.mk.injEq, List.cons.injEq, Value.int.injEq, true_and, and_true] at hk
        rw [← hk.1, ← hk.2]
        exact (by decide : ∀ i, i < 16 → codec_fields.f (wayT.getD i (0, 0, [])).1 (wayT.getD i (0, 0, [])).2.1 = some (wayL i)) i hi
      obtain ⟨g, e1, e2, e3⟩ := HR.out i hi
      have HF := Aside0.mk hf
      have HE := Aside0.mk (show WayRow w1 w.heap.size (wayL i) (r i) from ⟨g, e1, e2, e3⟩)
      rw [e1] at hl
      clear hk HL HR hi hf e2 e3
      go_wp2_with (at_lookup; refine wpl_lookup rfl 105 (.tmp 44) (.tmp 47) true rfl rfl rfl hl ?_)
      refine bodyPost_ret (v := .tuple #[.slice (some ⟨g, 0, none⟩) (wayL i).length (wayL i).length, .bool true]) (by simp [results, Try.results27, go_sem]) rfl ?_
      exact ⟨.inr ⟨_, _, HF.out, rfl, by rw [← e1]; exact HE.out⟩, HBl.out⟩
    · have hf : codec_fields.f which kind = none := by
        unfold codec_fields.f
        rw [Option.map_eq_none_iff, List.find?_eq_none]
        intro x hx hd
        obtain ⟨i, hi, rfl⟩ := (by decide : ∀ x ∈ wayT, ∃ i, i < 16 ∧ wayT.getD i (0, 0, []) = x) x hx
        simp only [decide_eq_true_eq] at hd
        exact hk i hi (by unfold wayKey; rw [hd.1, hd.2])
      have HF := Aside0.mk hf
      clear hk HL HR hf
      go_wp2_with (at_lookup; refine wpl_lookup rfl 105 (.tmp 44) (.tmp 47) true rfl rfl rfl hl ?_)
      refine bodyPost_ret (v := .tuple #[.slice none 0 0, .bool false]) (by simp [results, Try.results27, go_sem]) rfl ?_
      exact ⟨.inl ⟨HF.out, rfl⟩, HBl.out⟩

end Go.Proofs.Ytncfofnikmfjbaa.PCi
