import Derived.Test.YtdlkofmcioalfaaQPCkx4
import Derived.DeepKeys4
import Derived.Maps.OwnOps
import Derived.Maps.RangeWalk
import Derived.Outline
import Derived.StillTailTactics
import Derived.RegionTactic
import Derived.BigRegion
import Derived.Lib.BufferWrite
import Derived.Test.YtdlkofmcioalfaaQPCkx3
namespace Go.Proofs.Ytdlkofmcioalfaa.PCk
open Go.RowKit Go.Proofs.YtdlkofmcioalfaaW.PrintWords Go.Proofs.YtdlkofmcioalfaaW.PrintLast Go.Proofs.YtdlkofmcioalfaaW.PrintMore
attribute [local go_sem] max2_int min2_int max_two min_two max_three min_three max_four min_four
set_option linter.unusedVariables false
set_option linter.unusedSimpArgs false

/-! ### maps, by what a look-up finds -/
/-- A map's block: what is found at each key. -/
def MapV (P : Program) (kt : TypeId) (w : World) (b : Nat) (F : Value → Option Value) : Prop :=
  ∃ es clock, w.heap[b]? = some (.map es clock) ∧ MapKept.Stamped es clock ∧ (∀ x ∈ es.toList, ∃ l, keyOf P kt x.key = some l) ∧ ∀ k v, F k = some v ↔ ∃ x ∈ es.toList, x.key = k ∧ x.val = v
open Classical in
/-- A key's value set. -/
noncomputable def upd (F : Value → Option Value) (k v : Value) : Value → Option Value := fun k' => if k' = k then some v else F k'
theorem upd_same (F : Value → Option Value) (k v : Value) : upd F k v k = some v := by unfold upd; exact if_pos rfl
theorem upd_other (F : Value → Option Value) {k k' : Value} (v : Value) (h : k' ≠ k) : upd F k v k' = F k' := by unfold upd; exact if_neg h
/-- A map, or none: found nothing. -/
def MapO (P : Program) (kt : TypeId) (w : World) (o : Option Nat) (F : Value → Option Value) : Prop := match o with | none => ∀ k, F k = none | some b => MapV P kt w b F
theorem MapV.lt {P : Program} {kt : TypeId} {w : World} {b : Nat} {F : Value → Option Value} (h : MapV P kt w b F) : b < w.heap.size := by
  obtain ⟨es, c, h1, _⟩ := h
  exact (Array.getElem?_eq_some_iff.1 h1).1
theorem MapV.move {P : Program} {kt : TypeId} {w w1 : World} {b : Nat} {F : Value → Option Value} (h : MapV P kt w b F) (hb : w1.heap[b]? = w.heap[b]?) : MapV P kt w1 b F := by
  obtain ⟨es, c, h1, h2⟩ := h
  exact ⟨es, c, hb.trans h1, h2⟩
theorem MapO.move {P : Program} {kt : TypeId} {w w1 : World} {o : Option Nat} {F : Value → Option Value} (h : MapO P kt w o F) (hb : ∀ b, o = some b → w1.heap[b]? = w.heap[b]?) : MapO P kt w1 o F := by
  cases o with
  | none => exact h
  | some b => exact MapV.move h (hb b rfl)
theorem MapV.key {P : Program} {kt : TypeId} {w : World} {b : Nat} {F : Value → Option Value} (h : MapV P kt w b F) {k v : Value} (hk : F k = some v) : ∃ l, keyOf P kt k = some l := by
  obtain ⟨es, c, _, _, h3, h4⟩ := h
  obtain ⟨x, hx, rfl, _⟩ := (h4 k v).1 hk
  exact h3 x hx
theorem mapV_new (P : Program) (kt : TypeId) (w : World) : MapV P kt (w.alloc (.map #[] 0)) w.heap.size (fun _ => none) :=
  ⟨#[], 0, heap_alloc_new w _, MapKept.stamped_empty 0, by simp, by simp⟩
/-- One key set. -/
theorem mapV_put {P : Program} {mt kt et : TypeId} (K : WideMaps.KeyLaw P kt) (ht : P.underlying mt = some (.map kt et)) {w : World} {b : Nat} {F : Value → Option Value} (h : MapV P kt w b F) {k v : Value} {l : Lit} (hl : keyOf P kt k = some l) :
    ∃ w1, (Instr.mapUpdate mt (.map (some b)) k v).run P w = .ok () w1 ∧ MapV P kt w1 b (upd F k v) ∧ w.grownBy w1 (some b) ∧ w1.heap.size = w.heap.size := by
  obtain ⟨es, clock, h1, h2, h3, h4⟩ := h
  rcases K.find w hl es.toList h3 with ⟨f1, f2⟩ | ⟨j, e, f1, f2, f3⟩
  · refine ⟨{ w with heap := w.heap.setIfInBounds b (.map (es.push ⟨k, v, clock⟩) (clock + 1)) }, ?_, ?_, ?_, by simp⟩
    · simp [Instr.mapUpdate, run_underlying ht, MapKept.run_getObj_map h1, K.check w false hl, f1, MapKept.run_setObj_map _ h1, Result.andThen]
    · refine ⟨_, _, (MapKept.heap_set h1).1, MapKept.stamped_push h2 f2, fun x hx => ?_, fun k' v' => ?_⟩
      · simp only [Array.toList_push, List.mem_append, List.mem_singleton] at hx
        rcases hx with hx | rfl
        · exact h3 x hx
        · exact ⟨l, hl⟩
      · by_cases hk : k' = k
        · subst hk
          rw [upd_same]
          constructor
          · intro e
            cases e
            exact ⟨⟨k', v, clock⟩, by simp, rfl, rfl⟩
          · rintro ⟨x, hx, hxk, rfl⟩
            simp only [Array.toList_push, List.mem_append, List.mem_singleton] at hx
            rcases hx with hx | rfl
            · exact absurd hxk (f2 x hx)
            · rfl
        · rw [upd_other F v hk, h4]
          constructor
          · rintro ⟨x, hx, e1, e2⟩
            exact ⟨x, by simp [hx], e1, e2⟩
          · rintro ⟨x, hx, e1, e2⟩
            simp only [Array.toList_push, List.mem_append, List.mem_singleton] at hx
            rcases hx with hx | rfl
            · exact ⟨x, hx, e1, e2⟩
            · exact absurd e1.symm hk
    · exact ⟨rfl, rfl, rfl, by simp, fun g hg hne => (MapKept.heap_set h1).2 g (fun e => hne (by rw [e]))⟩
  · have hj : j < es.size := by
      have := (List.getElem?_eq_some_iff.1 f2).1
      simpa using this
    have hej : es[j]? = some e := by rw [← Array.getElem?_toList]; exact f2
    have hkst : ((es[j]?).map (·.key)).getD k = k := by rw [hej]; exact f3
    refine ⟨{ w with heap := w.heap.setIfInBounds b (.map (es.modify j fun e => { e with key := k, val := v }) clock) }, ?_, ?_, ?_, by simp⟩
    · simp [Instr.mapUpdate, run_underlying ht, MapKept.run_getObj_map h1, K.check w false hl, f1, hej, f3, K.stays w hl, MapKept.run_setObj_map _ h1, Result.andThen]
    · have hmem : ∀ x, x ∈ (es.modify j fun e => { e with key := k, val := v }).toList ↔ (x ∈ es.toList ∧ x.key ≠ k) ∨ x = { e with key := k, val := v } := by
        intro x
        have hnk : es.toList.Pairwise (fun x y => x.key ≠ y.key) := ((MapKept.stamped_iff es clock).1 h2).2.2
        have huniq : ∀ i (x : MapEntry), es[i]? = some x → x.key = k → i = j := by
          intro i x hx hxk
          have hi := (Array.getElem?_eq_some_iff.1 hx).1
          rcases Nat.lt_trichotomy i j with hij | hij | hij
          · exfalso
            have := List.pairwise_iff_getElem.1 hnk i j (by simpa using hi) (by simpa using hj) hij
            apply this
            have e1 : es.toList[i]'(by simpa using hi) = x := by simpa [Array.getElem?_eq_getElem hi] using hx
            have e2 : es.toList[j]'(by simpa using hj) = e := by simpa [Array.getElem?_eq_getElem hj] using hej
            rw [e1, e2, hxk, f3]
          · exact hij
          · exfalso
            have := List.pairwise_iff_getElem.1 hnk j i (by simpa using hj) (by simpa using hi) hij
            apply this
            have e1 : es.toList[i]'(by simpa using hi) = x := by simpa [Array.getElem?_eq_getElem hi] using hx
            have e2 : es.toList[j]'(by simpa using hj) = e := by simpa [Array.getElem?_eq_getElem hj] using hej
            rw [e1, e2, hxk, f3]
        rw [Array.mem_toList_iff, Array.mem_iff_getElem?]
        constructor
        · rintro ⟨i, hi⟩
          rw [Array.getElem?_modify] at hi
          by_cases hij : j = i
          · subst hij
            rw [if_pos rfl, hej] at hi
            exact .inr (Option.some.inj hi).symm
          · rw [if_neg hij] at hi
            refine .inl ⟨Array.mem_toList_iff.2 (Array.mem_of_getElem? hi), fun hk => hij (huniq i x hi hk).symm⟩
        · rintro (⟨hx, hk⟩ | rfl)
          · obtain ⟨i, hi⟩ := Array.mem_iff_getElem?.1 (Array.mem_toList_iff.1 hx)
            refine ⟨i, ?_⟩
            rw [Array.getElem?_modify, if_neg (fun hij => hk (by subst hij; rw [hej] at hi; cases hi; exact f3))]
            exact hi
          · exact ⟨j, by rw [Array.getElem?_modify, if_pos rfl, hej]; rfl⟩
      refine ⟨_, _, (MapKept.heap_set h1).1, MapKept.stamped_modify h2 _ _ (fun _ _ => rfl) (fun e' _ he' => by rw [hej] at he'; cases he'; exact f3.symm), fun x hx => ?_, fun k' v' => ?_⟩
      · rcases (hmem x).1 hx with ⟨hx, _⟩ | rfl
        · exact h3 x hx
        · exact ⟨l, hl⟩
      · by_cases hk : k' = k
        · subst hk
          rw [upd_same]
          constructor
          · intro e'
            cases e'
            exact ⟨_, (hmem _).2 (.inr rfl), rfl, rfl⟩
          · rintro ⟨x, hx, hxk, rfl⟩
            rcases (hmem x).1 hx with ⟨_, hn⟩ | rfl
            · exact absurd hxk hn
            · rfl
        · rw [upd_other F v hk, h4]
          constructor
          · rintro ⟨x, hx, e1, e2⟩
            exact ⟨x, (hmem x).2 (.inl ⟨hx, by rw [e1]; exact hk⟩), e1, e2⟩
          · rintro ⟨x, hx, e1, e2⟩
            rcases (hmem x).1 hx with ⟨hx, _⟩ | rfl
            · exact ⟨x, hx, e1, e2⟩
            · exact absurd e1.symm hk
    · exact ⟨rfl, rfl, rfl, by simp, fun g hg hne => (MapKept.heap_set h1).2 g (fun e => hne (by rw [e]))⟩
/-- A key looked up. -/
theorem mapO_look {P : Program} {mt kt et : TypeId} (K : WideMaps.KeyLaw P kt) (ht : P.underlying mt = some (.map kt et)) {w : World} {z : Value} (hz : (zeroValue et).run P w = .ok z w) {o : Option Nat} {F : Value → Option Value} (h : MapO P kt w o F) {k : Value} {l : Lit} (hl : keyOf P kt k = some l) :
    (Instr.lookup mt (.map o) k true).run P w = .ok (.tuple #[(F k).getD z, .bool (F k).isSome]) w := by
  cases o with
  | none =>
    rw [show F k = none from h k]
    rcases K.find w hl [] (by simp) with ⟨f1, _⟩ | ⟨j, e, _, f2, _⟩
    · simp [Instr.lookup, run_underlying ht, K.check w _ hl, f1, hz, Result.andThen]
    · simp at f2
  | some b =>
    obtain ⟨es, clock, h1, h2, h3, h4⟩ := h
    rcases K.find w hl es.toList h3 with ⟨f1, f2⟩ | ⟨j, e, f1, f2, f3⟩
    · have : F k = none := by
        cases hF : F k with
        | none => rfl
        | some v =>
          obtain ⟨x, hx, e1, _⟩ := (h4 k v).1 hF
          exact absurd e1 (f2 x hx)
      simp [Instr.lookup, run_underlying ht, MapKept.run_getObj_map h1, K.check w _ hl, f1, hz, this, Result.andThen]
    · have : F k = some e.val := (h4 k e.val).2 ⟨e, List.mem_of_getElem? f2, f3, rfl⟩
      simp [Instr.lookup, run_underlying ht, MapKept.run_getObj_map h1, K.check w _ hl, f1, this, Result.andThen]
/-- A loop over a map: what is still to come. -/
def RangeV (P : Program) (kt : TypeId) (w : World) (o : Option Nat) (r : Nat) (F L : Value → Option Value) (n : Nat) : Prop := match o with
  | none => w.heap[r]? = some (.mapIter none 0 #[] 0) ∧ (∀ k, F k = none) ∧ (∀ k, L k = none) ∧ n = 0
  | some b => ∃ es clock since seen c0, w.heap[b]? = some (.map es clock) ∧ w.heap[r]? = some (.mapIter (some b) since seen c0) ∧ (∀ x ∈ es.toList, x.born < since) ∧ since ≤ c0 ∧ since ≤ clock ∧ MapKept.Stamped es clock ∧ (∀ x ∈ es.toList, ∃ l, keyOf P kt x.key = some l) ∧
    (∀ k v, F k = some v ↔ ∃ x ∈ es.toList, x.key = k ∧ x.val = v) ∧ (∀ k v, L k = some v ↔ ∃ x ∈ (leftOf es seen).toList, x.key = k ∧ x.val = v) ∧ n = (leftOf es seen).size
theorem rangeV_start {P : Program} {mt kt et : TypeId} (ht : P.underlying mt = some (.map kt et)) {w : World} {o : Option Nat} {F : Value → Option Value} (h : MapO P kt w o F) :
    ∃ w1 n, (Instr.range mt (.map o)).run P w = .ok (.pointer (some ⟨w.heap.size, 0, none⟩)) w1 ∧ RangeV P kt w1 o w.heap.size F F n ∧ Below w.heap.size w w1 ∧ w1.heap.size = w.heap.size + 1 := by
  cases o with
  | none => exact ⟨_, 0, run_range_nilMap w mt kt et ht, ⟨heap_alloc_new w _, h, h, rfl⟩, (Below.refl _ _).alloc (Nat.le_refl _) _, by show (w.heap.push _).size = _; simp⟩
  | some b =>
    obtain ⟨es, clock, h1, h2, h3, h4⟩ := h
    have hl : leftOf es #[] = es := by unfold leftOf; simp
    exact ⟨_, _, run_range_map w mt kt et b es clock ht h1, ⟨es, clock, clock, #[], clock, (heap_alloc_old w _ (Array.getElem?_eq_some_iff.1 h1).1).trans h1, heap_alloc_new w _, fun x hx => h2.1 x hx, Nat.le_refl _, Nat.le_refl _, h2, h3, h4, by rw [hl]; exact h4, rfl⟩, (Below.refl _ _).alloc (Nat.le_refl _) _, by show (w.heap.push _).size = _; simp⟩
open Classical in
/-- The next one. -/
theorem rangeV_next {P : Program} {kt : TypeId} {w : World} {o : Option Nat} {r n : Nat} {F L : Value → Option Value} (h : RangeV P kt w o r F L n) (ty : TypeId) :
    ((∀ k, L k = none) ∧ (Instr.next (.pointer (some ⟨r, 0, none⟩)) false ty).run P w = .ok (.tuple #[.bool false]) w) ∨
    ∃ k v l w1 n1, L k = some v ∧ F k = some v ∧ keyOf P kt k = some l ∧ (Instr.next (.pointer (some ⟨r, 0, none⟩)) false ty).run P w = .ok (.tuple #[.bool true, k, v]) w1 ∧ (Instr.entry (.pointer (some ⟨r, 0, none⟩))).run P w1 = .ok (.tuple #[k, v]) w1 ∧
      RangeV P kt w1 o r F (fun k' => if k' = k then none else L k') n1 ∧ n1 < n ∧ w.grownBy w1 (some r) ∧ w1.heap.size = w.heap.size := by
  cases o with
  | none =>
    obtain ⟨h1, _, h2, _⟩ := h
    refine .inl ⟨h2, ?_⟩
    simp only [Instr.next, getObj, Sem.run_bind, Sem.run, h1, Result.andThen]
    rfl
  | some b =>
    obtain ⟨es, clock, since, seen, c0, hb, hr, hold, hsc, hsk, hst, hks, hF, hL, hn⟩ := h
    rcases run_next_at (P := P) w ty r b since c0 seen es clock hr hb hold hsc with ⟨h0, hrun⟩ | ⟨e, he, w1, hal, hrun⟩
    · refine .inl ⟨fun k => ?_, hrun⟩
      cases hk : L k with
      | none => rfl
      | some v =>
        obtain ⟨x, hx, _⟩ := (hL k v).1 hk
        have : (leftOf es seen) = #[] := Array.eq_empty_of_size_eq_zero h0
        rw [this] at hx
        simp at hx
    · have hes : e ∈ es.toList := by
        unfold leftOf at he
        simp at he ⊢
        exact he.1
      have hns : seen.contains e.born = false := by
        unfold leftOf at he
        simp at he
        simp [he.2]
      have hbr : b ≠ r := fun q => by subst q; rw [hb] at hr; cases hr
      have hb1 : w1.heap[b]? = some (.map es clock) := by rcases hal with rfl | rfl <;> exact hb
      have hr1 : w1.heap[r]? = some (.mapIter (some b) since seen c0) := by rcases hal with rfl | rfl <;> exact hr
      have hsz : w1.heap.size = w.heap.size := by rcases hal with rfl | rfl <;> rfl
      have hr2 : (ChangeMaps.setBlock w1 r (.mapIter (some b) since (seen.push e.born) clock)).heap[r]? = some (.mapIter (some b) since (seen.push e.born) clock) := (MapKept.heap_set hr1).1
      have hb2 : (ChangeMaps.setBlock w1 r (.mapIter (some b) since (seen.push e.born) clock)).heap[b]? = some (.map es clock) := ((MapKept.heap_set hr1).2 b hbr).trans hb1
      obtain ⟨l, hl⟩ := hks e hes
      have hnb : es.toList.Pairwise (fun x y => x.born ≠ y.born) := by
        have := hst.2.1
        rwa [List.Nodup, List.pairwise_map] at this
      have hlf : leftOf es (seen.push e.born) = (leftOf es seen).filter (fun x => decide (x.born ≠ e.born)) := by
        unfold leftOf
        rw [Array.filter_filter]
        congr 1
        funext x
        have e1 : (seen.push e.born).contains x.born = (seen.contains x.born || (x.born == e.born)) := by
          simp only [Array.contains_eq_any_beq, Array.any_push] <;> (try rfl)
        rw [e1]
        by_cases hq : x.born = e.born <;> simp [hq]
      have huk : ∀ x ∈ es.toList, x.born = e.born ↔ x.key = e.key := by
        intro x hx
        have hnk := ((MapKept.stamped_iff es clock).1 hst).2.2
        constructor
        · intro hq
          have : x = e := by
            rcases List.mem_iff_getElem.1 hx with ⟨i, hi, rfl⟩
            rcases List.mem_iff_getElem.1 hes with ⟨j, hj, rfl⟩
            rcases Nat.lt_trichotomy i j with hij | hij | hij
            · exact absurd hq (List.pairwise_iff_getElem.1 hnb i j hi hj hij)
            · subst hij; rfl
            · exact absurd hq.symm (List.pairwise_iff_getElem.1 hnb j i hj hi hij)
          rw [this]
        · intro hq
          have : x = e := by
            rcases List.mem_iff_getElem.1 hx with ⟨i, hi, rfl⟩
            rcases List.mem_iff_getElem.1 hes with ⟨j, hj, rfl⟩
            rcases Nat.lt_trichotomy i j with hij | hij | hij
            · exact absurd hq (List.pairwise_iff_getElem.1 hnk i j hi hj hij)
            · subst hij; rfl
            · exact absurd hq.symm (List.pairwise_iff_getElem.1 hnk j i hj hi hij)
          rw [this]
      have hsub : ∀ x ∈ (leftOf es seen).toList, x ∈ es.toList := by
        intro x hx
        unfold leftOf at hx
        simp at hx ⊢
        exact hx.1
      refine .inr ⟨e.key, e.val, l, ChangeMaps.setBlock w1 r (.mapIter (some b) since (seen.push e.born) clock), (leftOf es (seen.push e.born)).size, (hL _ _).2 ⟨e, he, rfl, rfl⟩, (hF _ _).2 ⟨e, hes, rfl, rfl⟩, hl, hrun, run_entry_at _ r b since seen es clock e hr2 hb2 hes hst.2.1, ⟨es, clock, since, seen.push e.born, clock, hb2, hr2, hold, hsk, hsk, hst, hks, hF, ?_, rfl⟩, ?_, ?_, ?_⟩
      · intro k v
        rw [hlf]
        by_cases hk : k = e.key
        · subst hk
          simp only [if_true]
          constructor
          · intro q; cases q
          · rintro ⟨x, hx, e1, _⟩
            simp only [Array.toList_filter, List.mem_filter, decide_eq_true_eq] at hx
            exact absurd ((huk x (hsub x hx.1)).2 e1) hx.2
        · simp only [if_neg hk]
          rw [hL]
          constructor
          · rintro ⟨x, hx, e1, e2⟩
            refine ⟨x, ?_, e1, e2⟩
            simp only [Array.toList_filter, List.mem_filter, decide_eq_true_eq]
            exact ⟨hx, fun q => hk (e1.symm.trans ((huk x (hsub x hx)).1 q))⟩
          · rintro ⟨x, hx, e1, e2⟩
            simp only [Array.toList_filter, List.mem_filter, decide_eq_true_eq] at hx
            exact ⟨x, hx.1, e1, e2⟩
      · rw [hn, hlf]
        have he2 : e ∈ leftOf es seen := Array.mem_toList_iff.1 he
        simp
        exact ⟨e, he2, rfl⟩
      · have hos : w1.os = w.os ∧ w1.tape = w.tape ∧ w1.output = w.output := by rcases hal with rfl | rfl <;> exact ⟨rfl, rfl, rfl⟩
        refine ⟨hos.1, hos.2.1, hos.2.2, by simp [ChangeMaps.setBlock, hsz], fun g hg hne => ?_⟩
        refine ((MapKept.heap_set hr1).2 g (fun q => hne (by rw [q]))).trans ?_
        rcases hal with rfl | rfl <;> rfl
      · simp [ChangeMaps.setBlock, hsz]
section
variable {P : Program} {ops : Array Oper} {rest : List Oper} {o : Oper} {a : Act} {w : World} {Q : Exit → Act → World → Prop}
theorem wpl_mlook (hg : o.guard = none) (t : TypeId) (m x : Operand) (c : Bool) (hop : o.op = Op.lookup t m x c) {vm vx v : Value} (hm : a.eval m = vm) (hx : a.eval x = vx)
    (hrun : (Instr.lookup t vm vx c).run P w = .ok v w) (h : wpList P ops Q rest (a.put o.dst v) w) : wpList P ops Q (o :: rest) a w := by
  refine wpList_plain hg fun K' hK' => ?_
  unfold Oper.wp
  simp [execOp, hop, hm, hx, hrun, Result.andThen]
  exact hK' _ _ h
theorem wpl_range (hg : o.guard = none) (t : TypeId) (m : Operand) (hop : o.op = Op.range t m) {vm v : Value} {w1 : World} (hm : a.eval m = vm)
    (hrun : (Instr.range t vm).run P w = .ok v w1) (h : wpList P ops Q rest (a.put o.dst v) w1) : wpList P ops Q (o :: rest) a w := by
  refine wpList_plain hg fun K' hK' => ?_
  unfold Oper.wp
  simp [execOp, hop, hm, hrun, Result.andThen]
  exact hK' _ _ h
theorem wpl_next (hg : o.guard = none) (it : Operand) (hop : o.op = Op.next it false) {vm v : Value} {w1 : World} (hm : a.eval it = vm)
    (hrun : (Instr.next vm false o.type).run P w = .ok v w1) (h : wpList P ops Q rest (a.put o.dst v) w1) : wpList P ops Q (o :: rest) a w := by
  refine wpList_plain hg fun K' hK' => ?_
  unfold Oper.wp
  simp [execOp, hop, hm, hrun, Result.andThen]
  exact hK' _ _ h
theorem wpl_entry (hg : o.guard = none) (it : Operand) (hop : o.op = Op.entry it) {vm v : Value} (hm : a.eval it = vm)
    (hrun : (Instr.entry vm).run P w = .ok v w) (h : wpList P ops Q rest (a.put o.dst v) w) : wpList P ops Q (o :: rest) a w := by
  refine wpList_plain hg fun K' hK' => ?_
  unfold Oper.wp
  simp [execOp, hop, hm, hrun, Result.andThen]
  exact hK' _ _ h
theorem wpl_put (hg : o.guard = none) (mt : TypeId) (m k x : Operand) (hop : o.op = Op.mapUpdate mt m k x) {kt et : TypeId} (K : WideMaps.KeyLaw P kt) (ht : P.underlying mt = some (.map kt et)) {b : Nat} {vk vx : Value} {F : Value → Option Value} {l : Lit}
    (hm : a.eval m = .map (some b)) (hk : a.eval k = vk) (hx : a.eval x = vx) (hF : MapV P kt w b F) (hl : keyOf P kt vk = some l)
    (h : ∀ w1, MapV P kt w1 b (upd F vk vx) → w.grownBy w1 (some b) → w1.heap.size = w.heap.size → wpList P ops Q rest (a.put o.dst undef) w1) : wpList P ops Q (o :: rest) a w := by
  refine wpList_plain hg fun K' hK' => ?_
  obtain ⟨w1, hrun, h1, h2, h3⟩ := mapV_put K ht hF (v := vx) hl
  unfold Oper.wp
  simp [execOp, hop, hm, hk, hx, hrun, Result.andThen]
  exact hK' _ _ (h w1 h1 h2 h3)
end
theorem RangeV.move {P : Program} {kt : TypeId} {w w1 : World} {o : Option Nat} {r n : Nat} {F L : Value → Option Value} (h : RangeV P kt w o r F L n) (hr : w1.heap[r]? = w.heap[r]?) (hb : ∀ b, o = some b → w1.heap[b]? = w.heap[b]?) : RangeV P kt w1 o r F L n := by
  cases o with
  | none => exact ⟨hr.trans h.1, h.2⟩
  | some b =>
    obtain ⟨es, clock, since, seen, c0, h1, h2, h3⟩ := h
    exact ⟨es, clock, since, seen, c0, (hb b rfl).trans h1, hr.trans h2, h3⟩
theorem RangeV.lt {P : Program} {kt : TypeId} {w : World} {o : Option Nat} {r n : Nat} {F L : Value → Option Value} (h : RangeV P kt w o r F L n) : r < w.heap.size := by
  cases o with
  | none => exact (Array.getElem?_eq_some_iff.1 h.1).1
  | some b =>
    obtain ⟨es, clock, since, seen, c0, h1, h2, h3⟩ := h
    exact (Array.getElem?_eq_some_iff.1 h2).1
theorem grown_trans {a b c : World} {g : Nat} (h : a.grownBy b (some g)) (k : b.grownBy c (some g)) : a.grownBy c (some g) :=
  ⟨k.os.trans h.os, k.tape.trans h.tape, k.output.trans h.output, Nat.le_trans h.size k.size, fun i hi hn => (k.block i (Nat.lt_of_lt_of_le hi h.size) hn).trans (h.block i hi hn)⟩
theorem grown_new {a b c : World} {g r : Nat} (h : a.grownBy b (some g)) (k : b.grownBy c (some r)) (hr : a.heap.size ≤ r) : a.grownBy c (some g) :=
  ⟨k.os.trans h.os, k.tape.trans h.tape, k.output.trans h.output, Nat.le_trans h.size k.size, fun i hi hn => (k.block i (Nat.lt_of_lt_of_le hi h.size) (fun e => by injection e; omega)).trans (h.block i hi hn)⟩
theorem grown_below {a b c : World} {g : Nat} (h : a.grownBy b (some g)) (k : Below b.heap.size b c) : a.grownBy c (some g) :=
  ⟨k.os.trans h.os, k.tape.trans h.tape, k.output.trans h.output, Nat.le_trans h.size k.size, fun i hi hn => (k.block i (Nat.lt_of_lt_of_le hi h.size)).trans (h.block i hi hn)⟩
theorem below_grown {a c : World} (k : Below a.heap.size a c) (g : Nat) : a.grownBy c (some g) := ⟨k.os, k.tape, k.output, k.size, fun i hi _ => k.block i hi⟩
/-- What a copy has: what is no longer to come. -/
def Had (F L G : Value → Option Value) : Prop := ∀ k v, G k = some v ↔ F k = some v ∧ L k = none
theorem Had.start (F : Value → Option Value) : Had F F (fun _ => none) := fun k v => ⟨fun h => (by cases h), fun ⟨h1, h2⟩ => (by rw [h1] at h2; cases h2)⟩
open Classical in
theorem Had.step {F L G : Value → Option Value} (h : Had F L G) {k v : Value} (hL : L k = some v) (hF : F k = some v) : Had F (fun k' => if k' = k then none else L k') (upd G k v) := by
  intro k' v'
  by_cases e : k' = k
  · subst e
    rw [upd_same, hF]
    simp
  · rw [upd_other G v e]
    simp only [if_neg e]
    exact h k' v'
theorem Had.last {F L G : Value → Option Value} (h : Had F L G) (hL : ∀ k, L k = none) : G = F := by
  funext k
  cases hF : F k with
  | some v => exact (h k v).2 ⟨hF, hL k⟩
  | none =>
    cases hG : G k with
    | none => rfl
    | some v =>
      have := ((h k v).1 hG).1
      rw [hF] at this
      cases this
theorem MapV.all {P : Program} {kt : TypeId} {w : World} {b : Nat} {F : Value → Option Value} (h : MapV P kt w b F) (o : Obj) : MapV P kt (w.alloc o) b F := h.move (heap_alloc_old w o h.lt)
theorem old1 {w w3 : World} {o : Obj} {b i : Nat} (h : (w.alloc o).grownBy w3 (some b)) (hi : i < w.heap.size) (hn : i ≠ b) : w3.heap[i]? = w.heap[i]? :=
  (h.block i (Nat.lt_of_lt_of_le hi (by rw [show (w.alloc o).heap = w.heap.push o from rfl, Array.size_push]; omega)) (fun e => hn (Option.some.inj e))).trans (heap_alloc_old w o hi)
theorem old2 {w w3 : World} {o o2 : Obj} {b i : Nat} (h : ((w.alloc o).alloc o2).grownBy w3 (some b)) (hi : i < w.heap.size) (hn : i ≠ b) : w3.heap[i]? = w.heap[i]? := by
  have h1 : i < (w.alloc o).heap.size := by rw [show (w.alloc o).heap = w.heap.push o from rfl, Array.size_push]; omega
  exact (old1 h h1 hn).trans (heap_alloc_old w o hi)
theorem bel1 (w : World) (o : Obj) : Below w.heap.size w (w.alloc o) := (Below.refl _ _).alloc (Nat.le_refl _) _
theorem bel2 (w : World) (o o2 : Obj) : Below w.heap.size w ((w.alloc o).alloc o2) := (bel1 w o).alloc (by rw [show (w.alloc o).heap = w.heap.push o from rfl, Array.size_push]; omega) _

/-! ### the keys of check's maps -/
theorem lit_str (d : Nat) (s : ByteArray) (h : s.size ≤ maxLen) : Try.prog.keyLits (d + 1) 9 [.string s] = some [.string s.data.toList] := by
  unfold Program.keyLits
  simp only [Try.underlying9]
  rw [if_pos h]
theorem lit_i64 (d : Nat) (x : Int) (h : (Lit.int .i64 x).wf = true) : Try.prog.keyLits (d + 1) 3 [.int .i64 x] = some [.int .i64 x] := by
  unfold Program.keyLits
  simp only [Try.underlying3]
  rw [if_pos ⟨trivial, h⟩]
theorem lit_u64 (d : Nat) (x : Int) (h : (Lit.int .u64 x).wf = true) : Try.prog.keyLits (d + 1) 73 [.int .u64 x] = some [.int .u64 x] := by
  unfold Program.keyLits
  simp only [Try.underlying73]
  rw [if_pos ⟨trivial, h⟩]
theorem litsL (d : Nat) (k2 k3 : Int) (hk2 : (Lit.int .i64 k2).wf = true) (hk3 : (Lit.int .u64 k3).wf = true) : Try.prog.keyLits (d + 2) 75 [.int .i64 k2, .int .u64 k3] = some [.int .i64 k2, .int .u64 k3] := by
  unfold Program.keyLits
  simp only [Try.underlying75]
  rw [if_pos ⟨(show _ = Try.prog.cellsOf 75 from by rw [show Try.prog.cellsOf 75 = 2 from by kernel_rfl]; rfl), by kernel_rfl⟩]
  simp [(show Try.prog.cellsOf 3 = 1 from by kernel_rfl), (show Try.prog.cellsOf 73 = 1 from by kernel_rfl), lit_i64, lit_u64, hk2, hk3]
theorem lawE : WideMaps.KeyLaw Try.prog 68 := deep_law_laid (by kernel_rfl) (m := 2) (by omega) (of_decide_eq_true (by kernel_rfl)) (by kernel_rfl) (by rw [Try.underlying68])
theorem litsE (d : Nat) (k0 : ByteArray) (k1 : Int) (hk0 : k0.size ≤ maxLen) (hk1 : (Lit.int .i64 k1).wf = true) : Try.prog.keyLits (d + 2) 68 [.string k0, .int .i64 k1] = some [Lit.string k0.data.toList, Lit.int .i64 k1] := by
  unfold Program.keyLits
  simp only [Try.underlying68]
  rw [if_pos ⟨(show _ = Try.prog.cellsOf 68 from by rw [show Try.prog.cellsOf 68 = 2 from by kernel_rfl]; rfl), by kernel_rfl⟩]
  simp [(show Try.prog.cellsOf 9 = 1 from by kernel_rfl), (show Try.prog.cellsOf 3 = 1 from by kernel_rfl), (show Try.prog.cellsOf 73 = 1 from by kernel_rfl), (show Try.prog.cellsOf 68 = 2 from by kernel_rfl), (show Try.prog.cellsOf 75 = 2 from by kernel_rfl), lit_str, lit_i64, lit_u64, hk0, hk1]
theorem keyE (k0 : ByteArray) (k1 : Int) (hk0 : k0.size ≤ maxLen) (hk1 : (Lit.int .i64 k1).wf = true) : ∃ l, keyOf Try.prog 68 (.agg #[.string k0, .int .i64 k1]) = some l := by
  unfold keyOf
  rw [Try.underlying68]
  have hf : (Value.agg #[.string k0, .int .i64 k1]).formed Try.prog 68 = true := by simp [Value.formed, Try.underlying68, (show Try.prog.cellsOf 68 = 2 from by kernel_rfl)]
  have hl : Try.prog.keyLits (Try.prog.types.size + 1) 68 (Value.agg #[.string k0, .int .i64 k1]).cells.toList = some [Lit.string k0.data.toList, Lit.int .i64 k1] := by
    rw [show Try.prog.types.size + 1 = (Try.prog.types.size - 1) + 2 from by kernel_rfl]
    exact litsE _ k0 k1 hk0 hk1
  simp only [show Try.prog.keyType 68 = true from by kernel_rfl, hf, hl, Bool.and_self, if_true, Option.map_some]
  exact ⟨_, rfl⟩
/-- The shapes. -/
def ShE (F : Value → Option Value) : Prop := ∀ k v, F k = some v → (∃ k0 k1, k = (.agg #[.string k0, .int .i64 k1]) ∧ k0.size ≤ maxLen ∧ (Lit.int .i64 k1).wf = true) ∧ ∃ v0 v1, v = (.agg #[.int .i64 v0, .int .i64 v1])
theorem ShE.none : ShE (fun _ => none) := fun k v h => by cases h
theorem ShE.upd {F : Value → Option Value} (h : ShE F) (k0 : ByteArray) (k1 : Int) (v0 : Int) (v1 : Int) (hk0 : k0.size ≤ maxLen) (hk1 : (Lit.int .i64 k1).wf = true) : ShE (upd F (.agg #[.string k0, .int .i64 k1]) (.agg #[.int .i64 v0, .int .i64 v1])) := by
  intro k v e
  by_cases hk : k = (.agg #[.string k0, .int .i64 k1])
  · subst hk
    rw [upd_same] at e
    cases e
    exact ⟨⟨k0, k1, rfl, hk0, hk1⟩, v0, v1, rfl⟩
  · rw [upd_other F _ hk] at e
    exact h k v e
theorem lawR : WideMaps.KeyLaw Try.prog 77 := deep_law_laid (by kernel_rfl) (m := 3) (by omega) (of_decide_eq_true (by kernel_rfl)) (by kernel_rfl) (by rw [Try.underlying77])
theorem litsR (d : Nat) (k0 : ByteArray) (k1 : Int) (k2 : Int) (k3 : Int) (hk0 : k0.size ≤ maxLen) (hk1 : (Lit.int .i64 k1).wf = true) (hk2 : (Lit.int .i64 k2).wf = true) (hk3 : (Lit.int .u64 k3).wf = true) : Try.prog.keyLits (d + 3) 77 [.string k0, .int .i64 k1, .int .i64 k2, .int .u64 k3] = some [Lit.string k0.data.toList, Lit.int .i64 k1, Lit.int .i64 k2, Lit.int .u64 k3] := by
  unfold Program.keyLits
  simp only [Try.underlying77]
  rw [if_pos ⟨(show _ = Try.prog.cellsOf 77 from by rw [show Try.prog.cellsOf 77 = 4 from by kernel_rfl]; rfl), by kernel_rfl⟩]
  simp [(show Try.prog.cellsOf 9 = 1 from by kernel_rfl), (show Try.prog.cellsOf 3 = 1 from by kernel_rfl), (show Try.prog.cellsOf 73 = 1 from by kernel_rfl), (show Try.prog.cellsOf 68 = 2 from by kernel_rfl), (show Try.prog.cellsOf 75 = 2 from by kernel_rfl), lit_str, lit_i64, lit_u64, hk0, hk1, hk2, hk3, litsE, litsL]
theorem keyR (k0 : ByteArray) (k1 : Int) (k2 : Int) (k3 : Int) (hk0 : k0.size ≤ maxLen) (hk1 : (Lit.int .i64 k1).wf = true) (hk2 : (Lit.int .i64 k2).wf = true) (hk3 : (Lit.int .u64 k3).wf = true) : ∃ l, keyOf Try.prog 77 (.agg #[.string k0, .int .i64 k1, .int .i64 k2, .int .u64 k3]) = some l := by
  unfold keyOf
  rw [Try.underlying77]
  have hf : (Value.agg #[.string k0, .int .i64 k1, .int .i64 k2, .int .u64 k3]).formed Try.prog 77 = true := by simp [Value.formed, Try.underlying77, (show Try.prog.cellsOf 77 = 4 from by kernel_rfl)]
  have hl : Try.prog.keyLits (Try.prog.types.size + 1) 77 (Value.agg #[.string k0, .int .i64 k1, .int .i64 k2, .int .u64 k3]).cells.toList = some [Lit.string k0.data.toList, Lit.int .i64 k1, Lit.int .i64 k2, Lit.int .u64 k3] := by
    rw [show Try.prog.types.size + 1 = (Try.prog.types.size - 2) + 3 from by kernel_rfl]
    exact litsR _ k0 k1 k2 k3 hk0 hk1 hk2 hk3
  simp only [show Try.prog.keyType 77 = true from by kernel_rfl, hf, hl, Bool.and_self, if_true, Option.map_some]
  exact ⟨_, rfl⟩
/-- The shapes. -/
def ShR (F : Value → Option Value) : Prop := ∀ k v, F k = some v → (∃ k0 k1 k2 k3, k = (.agg #[.string k0, .int .i64 k1, .int .i64 k2, .int .u64 k3]) ∧ k0.size ≤ maxLen ∧ (Lit.int .i64 k1).wf = true ∧ (Lit.int .i64 k2).wf = true ∧ (Lit.int .u64 k3).wf = true) ∧ ∃ v0 v1 v2 v3 v4 v5, v = (.agg #[.bool v0, .string v1, .bool v2, .string v3, .int .i64 v4, .int .i64 v5])
theorem ShR.none : ShR (fun _ => none) := fun k v h => by cases h
theorem ShR.upd {F : Value → Option Value} (h : ShR F) (k0 : ByteArray) (k1 : Int) (k2 : Int) (k3 : Int) (v0 : Bool) (v1 : ByteArray) (v2 : Bool) (v3 : ByteArray) (v4 : Int) (v5 : Int) (hk0 : k0.size ≤ maxLen) (hk1 : (Lit.int .i64 k1).wf = true) (hk2 : (Lit.int .i64 k2).wf = true) (hk3 : (Lit.int .u64 k3).wf = true) : ShR (upd F (.agg #[.string k0, .int .i64 k1, .int .i64 k2, .int .u64 k3]) (.agg #[.bool v0, .string v1, .bool v2, .string v3, .int .i64 v4, .int .i64 v5])) := by
  intro k v e
  by_cases hk : k = (.agg #[.string k0, .int .i64 k1, .int .i64 k2, .int .u64 k3])
  · subst hk
    rw [upd_same] at e
    cases e
    exact ⟨⟨k0, k1, k2, k3, rfl, hk0, hk1, hk2, hk3⟩, v0, v1, v2, v3, v4, v5, rfl⟩
  · rw [upd_other F _ hk] at e
    exact h k v e
theorem lawS : WideMaps.KeyLaw Try.prog 80 := deep_law_laid (by kernel_rfl) (m := 3) (by omega) (of_decide_eq_true (by kernel_rfl)) (by kernel_rfl) (by rw [Try.underlying80])
theorem litsS (d : Nat) (k0 : ByteArray) (k1 : Int) (k2 : Int) (k3 : Int) (hk0 : k0.size ≤ maxLen) (hk1 : (Lit.int .i64 k1).wf = true) (hk2 : (Lit.int .i64 k2).wf = true) (hk3 : (Lit.int .i64 k3).wf = true) : Try.prog.keyLits (d + 3) 80 [.string k0, .int .i64 k1, .int .i64 k2, .int .i64 k3] = some [Lit.string k0.data.toList, Lit.int .i64 k1, Lit.int .i64 k2, Lit.int .i64 k3] := by
  unfold Program.keyLits
  simp only [Try.underlying80]
  rw [if_pos ⟨(show _ = Try.prog.cellsOf 80 from by rw [show Try.prog.cellsOf 80 = 4 from by kernel_rfl]; rfl), by kernel_rfl⟩]
  simp [(show Try.prog.cellsOf 9 = 1 from by kernel_rfl), (show Try.prog.cellsOf 3 = 1 from by kernel_rfl), (show Try.prog.cellsOf 73 = 1 from by kernel_rfl), (show Try.prog.cellsOf 68 = 2 from by kernel_rfl), (show Try.prog.cellsOf 75 = 2 from by kernel_rfl), lit_str, lit_i64, lit_u64, hk0, hk1, hk2, hk3, litsE]
theorem keyS (k0 : ByteArray) (k1 : Int) (k2 : Int) (k3 : Int) (hk0 : k0.size ≤ maxLen) (hk1 : (Lit.int .i64 k1).wf = true) (hk2 : (Lit.int .i64 k2).wf = true) (hk3 : (Lit.int .i64 k3).wf = true) : ∃ l, keyOf Try.prog 80 (.agg #[.string k0, .int .i64 k1, .int .i64 k2, .int .i64 k3]) = some l := by
  unfold keyOf
  rw [Try.underlying80]
  have hf : (Value.agg #[.string k0, .int .i64 k1, .int .i64 k2, .int .i64 k3]).formed Try.prog 80 = true := by simp [Value.formed, Try.underlying80, (show Try.prog.cellsOf 80 = 4 from by kernel_rfl)]
  have hl : Try.prog.keyLits (Try.prog.types.size + 1) 80 (Value.agg #[.string k0, .int .i64 k1, .int .i64 k2, .int .i64 k3]).cells.toList = some [Lit.string k0.data.toList, Lit.int .i64 k1, Lit.int .i64 k2, Lit.int .i64 k3] := by
    rw [show Try.prog.types.size + 1 = (Try.prog.types.size - 2) + 3 from by kernel_rfl]
    exact litsS _ k0 k1 k2 k3 hk0 hk1 hk2 hk3
  simp only [show Try.prog.keyType 80 = true from by kernel_rfl, hf, hl, Bool.and_self, if_true, Option.map_some]
  exact ⟨_, rfl⟩
/-- The shapes. -/
def ShS (F : Value → Option Value) : Prop := ∀ k v, F k = some v → (∃ k0 k1 k2 k3, k = (.agg #[.string k0, .int .i64 k1, .int .i64 k2, .int .i64 k3]) ∧ k0.size ≤ maxLen ∧ (Lit.int .i64 k1).wf = true ∧ (Lit.int .i64 k2).wf = true ∧ (Lit.int .i64 k3).wf = true) ∧ ∃ v0, v = (.int .i64 v0)
theorem ShS.none : ShS (fun _ => none) := fun k v h => by cases h
theorem ShS.upd {F : Value → Option Value} (h : ShS F) (k0 : ByteArray) (k1 : Int) (k2 : Int) (k3 : Int) (v0 : Int) (hk0 : k0.size ≤ maxLen) (hk1 : (Lit.int .i64 k1).wf = true) (hk2 : (Lit.int .i64 k2).wf = true) (hk3 : (Lit.int .i64 k3).wf = true) : ShS (upd F (.agg #[.string k0, .int .i64 k1, .int .i64 k2, .int .i64 k3]) (.int .i64 v0)) := by
  intro k v e
  by_cases hk : k = (.agg #[.string k0, .int .i64 k1, .int .i64 k2, .int .i64 k3])
  · subst hk
    rw [upd_same] at e
    cases e
    exact ⟨⟨k0, k1, k2, k3, rfl, hk0, hk1, hk2, hk3⟩, v0, rfl⟩
  · rw [upd_other F _ hk] at e
    exact h k v e

/-! ### check: what Saw computes, plain -/
abbrev SR := S48
abbrev SB := S61
def recV (r : SR) : Value := .agg #[.bool r.f0, .string r.f1, .bool r.f2, .string r.f3, .int .i64 r.f4, .int .i64 0]
def placeV (t : ByteArray) (p o : Int) : Value := .agg #[.string t, .int .i64 p, .int .i64 (o / 18446744073709551616), .int .u64 (o % 18446744073709551616)]
def sentV (t : ByteArray) (p q s : Int) : Value := .agg #[.string t, .int .i64 p, .int .i64 q, .int .i64 s]
def partV (t : ByteArray) (p : Int) : Value := .agg #[.string t, .int .i64 p]
def endsV (s n : Int) : Value := .agg #[.int .i64 s, .int .i64 n]
open Classical in
/-- 'changed', of one batch's records; none: it is. -/
noncomputable def chgR (t : ByteArray) (p base : Int) : List SR → (Value → Option Value) → Option (Value → Option Value)
  | [], F => some F
  | r :: l, F => if F (placeV t p (base + r.f5)) = none ∨ F (placeV t p (base + r.f5)) = some (recV r) then chgR t p base l (upd F (placeV t p (base + r.f5)) (recV r)) else none
theorem chgR_ok {t : ByteArray} {p base : Int} {r : SR} {l : List SR} {F : Value → Option Value} (h : F (placeV t p (base + r.f5)) = none ∨ F (placeV t p (base + r.f5)) = some (recV r)) : chgR t p base (r :: l) F = chgR t p base l (upd F (placeV t p (base + r.f5)) (recV r)) := if_pos h
theorem chgR_no {t : ByteArray} {p base : Int} {r : SR} {l : List SR} {F : Value → Option Value} (h : ¬ (F (placeV t p (base + r.f5)) = none ∨ F (placeV t p (base + r.f5)) = some (recV r))) : chgR t p base (r :: l) F = none := if_neg h
noncomputable def chgB (t : ByteArray) (p : Int) : List SB → (Value → Option Value) → Option (Value → Option Value)
  | [], F => some F
  | b :: l, F => (chgR t p b.f0 b.f4 F).bind (chgB t p l)
open Classical in
/-- 'again'. -/
noncomputable def agnB (t : ByteArray) (p : Int) : List SB → (Value → Option Value) → Option (Value → Option Value)
  | [], F => some F
  | b :: l, F => if F (sentV t p b.f2 b.f3) ≠ none ∧ F (sentV t p b.f2 b.f3) ≠ some (.int .i64 b.f0) ∧ 0 < b.f2 then none else agnB t p l (upd F (sentV t p b.f2 b.f3) (.int .i64 b.f0))
def misB (st nx fr : Int) (b : SB) : Bool := (decide (b.f0 < fr) && !decide (fr < b.f0 + b.f1)) || decide (nx < b.f0 + b.f1) || !decide (st < b.f0 + b.f1)
def misP (q b : SB) : Bool := decide (b.f0 ≤ q.f0) || decide (b.f0 < q.f0 + q.f1)
/-- 'misplaced'. -/
def misL (st nx fr : Int) : Option SB → List SB → Bool
  | _, [] => false
  | q, b :: l => misB st nx fr b || (match q with | none => false | some q => misP q b) || misL st nx fr (some b) l
theorem recV_u64 {o : Int} : (Lit.int .u64 (o % 18446744073709551616)).wf = true := by
  simp [Lit.wf, IntKind.min, IntKind.max, IntKind.signed, IntKind.bits]
  omega
theorem hi_wf {a b : Int} (ha : (Lit.int .i64 a).wf = true) (hb : (Lit.int .i64 b).wf = true) : (Lit.int .i64 ((a + b) / 18446744073709551616)).wf = true := by
  have h1 := wf_rng ha
  have h2 := wf_rng hb
  exact wf_of (by omega)
theorem place_key (t : ByteArray) (p a b : Int) (ht : t.size ≤ maxLen) (hp : (Lit.int .i64 p).wf = true) (ha : (Lit.int .i64 a).wf = true) (hb : (Lit.int .i64 b).wf = true) : ∃ l, keyOf Try.prog 77 (placeV t p (a + b)) = some l := keyR t p _ _ ht hp (hi_wf ha hb) recV_u64
theorem shR_upd {F : Value → Option Value} (h : ShR F) (t : ByteArray) (p a b : Int) (r : SR) (ht : t.size ≤ maxLen) (hp : (Lit.int .i64 p).wf = true) (ha : (Lit.int .i64 a).wf = true) (hb : (Lit.int .i64 b).wf = true) : ShR (upd F (placeV t p (a + b)) (recV r)) :=
  ShR.upd h _ _ _ _ _ _ _ _ _ _ ht hp (hi_wf ha hb) recV_u64
theorem drop_get {α : Type} {l : List α} {i : Int} (z : α) (h0 : 0 ≤ i) (h : i < (l.length : Int)) : l.drop i.toNat = l.getD i.toNat z :: l.drop (i + 1).toNat := by
  have e : (i + 1).toNat = i.toNat + 1 := by omega
  have hl : i.toNat < l.length := by omega
  rw [List.drop_eq_getElem_cons hl, e]
  congr 1
  rw [List.getD_eq_getElem?_getD, List.getElem?_eq_getElem hl]
  rfl
theorem get_mem {α : Type} {l : List α} {i : Int} (z : α) (h0 : 0 ≤ i) (h : i < (l.length : Int)) : l.getD i.toNat z ∈ l := by
  have hl : i.toNat < l.length := by omega
  rw [List.getD_eq_getElem?_getD, List.getElem?_eq_getElem hl]
  exact List.getElem_mem hl
theorem store_step {P : Program} {ops : Array Oper} {oi : Oper} {a : Act} {w : World} {K : Act → World → Prop} {Q : Exit → Act → World → Prop} (hw : Region.wanted oi (yielded ops a.tmps) = true) (hN : oi.dst = none) (ty : TypeId) (x y : Operand) (ho : oi.op = .store ty x y) (g : Nat) (cells : Array Value) (hx : a.eval x = .pointer (some ⟨g, 0, none⟩)) (hy : a.eval y = .agg cells)
    (t : TypeId) (old : Array Value) (hg : w.heap[g]? = some (.cells old t (0, 0))) (hi : (P.info? ty).map (·.size) = some cells.size) (hold : old.size = cells.size) (h1 : cells.all (·.oneCell') = true) (h : K a (w.setRow g cells)) : if Region.wanted oi (yielded ops a.tmps) = true then Oper.wp P oi a w K Q else K (a.put none undef) w := by
  rw [if_pos hw]
  exact wp_store_row ty x y ho g cells hx hy t old hg hi hold h1 (by rw [hN]; exact h)
theorem bin_ne {P : Program} {w : World} {a : Act} {oi : Oper} (t t2 : TypeId) (x y : Operand) {xs ys : Array Value} {r : Bool} (ho : oi.op = .binOp .neq t x y t2) (hx : a.eval x = .agg xs) (hy : a.eval y = .agg ys) (hgd : P.eqGuardType P.depth t = false) (h : (Op.equal t (.agg xs) (.agg ys)).run P w = .ok r w) : (execOp a.eval oi).run P w = .ok (.value (.bool (!r))) w := by
  unfold execOp
  simp [ho, hx, hy, eqGuard, binOp, h, hgd, Result.andThen]
open Classical in
theorem rec_beq (x0 : Bool) (x1 : ByteArray) (x2 : Bool) (x3 : ByteArray) (x4 x5 : Int) (y0 : Bool) (y1 : ByteArray) (y2 : Bool) (y3 : ByteArray) (y4 y5 : Int) : (x0 == y0 && (decide (x1 = y1) && (x2 == y2 && (decide (x3 = y3) && (x4 == y4 && x5 == y5))))) = decide (Value.agg #[.bool x0, .string x1, .bool x2, .string x3, .int .i64 x4, .int .i64 x5] = Value.agg #[.bool y0, .string y1, .bool y2, .string y3, .int .i64 y4, .int .i64 y5]) := by
  rw [Bool.eq_iff_iff]
  simp
theorem eq_str (d : Nat) (t : TypeId) (P : Program) (a b : ByteArray) (h : P.underlying t = some .string) (w : World) : (Op.equalIn (d + 1) t (.string a) (.string b)).run P w = .ok (decide (a = b)) w := by
  have e : (a == b) = decide (a = b) := by
    rw [Bool.eq_iff_iff, decide_eq_true_iff]
    exact MapKept.bytes_beq a b
  rw [← e]
  simp [Op.equalIn, h, run_underlying h, Result.andThen]
open Classical in
theorem rec_equal (x0 : Bool) (x1 : ByteArray) (x2 : Bool) (x3 : ByteArray) (x4 x5 : Int) (y0 : Bool) (y1 : ByteArray) (y2 : Bool) (y3 : ByteArray) (y4 y5 : Int) (w : World) :
    (Op.equal 48 (.agg #[.bool x0, .string x1, .bool x2, .string x3, .int .i64 x4, .int .i64 x5]) (.agg #[.bool y0, .string y1, .bool y2, .string y3, .int .i64 y4, .int .i64 y5])).run Try.prog w =
      .ok (decide (Value.agg #[.bool x0, .string x1, .bool x2, .string x3, .int .i64 x4, .int .i64 x5] = Value.agg #[.bool y0, .string y1, .bool y2, .string y3, .int .i64 y4, .int .i64 y5])) w := by
  rw [← rec_beq]
  refine eqA_of (d := 9999) Try.underlying48 (by kernel_rfl) ?_
  refine eqf_cons (by rfl) (a := .bool x0) (b := .bool y0) (by simp [part, go_sem]) (by simp [part, go_sem]) (by simp [go_sem]) ?_
  refine eqf_cons (by rfl) (a := .string x1) (b := .string y1) (by simp [part, go_sem]) (by simp [part, go_sem]) (eq_str _ _ _ _ _ Try.underlying9 _) ?_
  refine eqf_cons (by rfl) (a := .bool x2) (b := .bool y2) (by simp [part, go_sem]) (by simp [part, go_sem]) (by simp [go_sem]) ?_
  refine eqf_cons (by rfl) (a := .string x3) (b := .string y3) (by simp [part, go_sem]) (by simp [part, go_sem]) (eq_str _ _ _ _ _ Try.underlying9 _) ?_
  refine eqf_cons (by rfl) (a := .int .i64 x4) (b := .int .i64 y4) (by simp [part, go_sem]) (by simp [part, go_sem]) (by simp [go_sem]) ?_
  exact eqf_last (by rfl) (a := .int .i64 x5) (b := .int .i64 y5) (by simp [part, go_sem]) (by simp [part, go_sem]) (by simp [go_sem])
open Classical in
theorem rec_same {x0 : Bool} {x1 : ByteArray} {x2 : Bool} {x3 : ByteArray} {x4 x5 : Int} {y0 : Bool} {y1 : ByteArray} {y2 : Bool} {y3 : ByteArray} {y4 y5 : Int} (h : Value.agg #[.bool x0, .string x1, .bool x2, .string x3, .int .i64 x4, .int .i64 x5] = Value.agg #[.bool y0, .string y1, .bool y2, .string y3, .int .i64 y4, .int .i64 y5]) (w : World) :
    (Op.equal 48 (.agg #[.bool x0, .string x1, .bool x2, .string x3, .int .i64 x4, .int .i64 x5]) (.agg #[.bool y0, .string y1, .bool y2, .string y3, .int .i64 y4, .int .i64 y5])).run Try.prog w = .ok true w := by
  rw [rec_equal, decide_eq_true h]
open Classical in
theorem rec_diff {x0 : Bool} {x1 : ByteArray} {x2 : Bool} {x3 : ByteArray} {x4 x5 : Int} {y0 : Bool} {y1 : ByteArray} {y2 : Bool} {y3 : ByteArray} {y4 y5 : Int} (h : ¬ Value.agg #[.bool x0, .string x1, .bool x2, .string x3, .int .i64 x4, .int .i64 x5] = Value.agg #[.bool y0, .string y1, .bool y2, .string y3, .int .i64 y4, .int .i64 y5]) (w : World) :
    (Op.equal 48 (.agg #[.bool x0, .string x1, .bool x2, .string x3, .int .i64 x4, .int .i64 x5]) (.agg #[.bool y0, .string y1, .bool y2, .string y3, .int .i64 y4, .int .i64 y5])).run Try.prog w = .ok false w := by
  rw [rec_equal, decide_eq_false h]

end Go.Proofs.Ytdlkofmcioalfaa.PCk

namespace Go.Proofs.Ytdlkofmcioalfaa.PCk
open Go.RowKit Go.Proofs.YtdlkofmcioalfaaW.PrintWords Go.Proofs.YtdlkofmcioalfaaW.PrintLast Go.Proofs.YtdlkofmcioalfaaW.PrintMore
attribute [local go_sem] max2_int min2_int max_two min_two max_three min_three max_four min_four
set_option linter.unusedVariables false
set_option linter.unusedSimpArgs false

/-! ### maps.Copy and check.own -/
set_option maxHeartbeats 4000000 in
set_option maxRecDepth 100000 in
theorem copyE.calls (b : Nat) (o : Option Nat) (F : Value → Option Value) (w : World) (hb : MapV Try.prog 68 w b (fun _ => none)) (ho : MapO Try.prog 68 w o F) (hs : ShE F) (hne : o ≠ some b) :
    Calls Try.prog 46 #[.map (some b), .map o] w fun e w' => e = .returned (.tuple #[]) ∧ MapV Try.prog 68 w' b F ∧ w.grownBy w' (some b) := by
  obtain ⟨w1, n0, hrun, hR, hb1, hsz⟩ := rangeV_start (P := Try.prog) Try.underlying55 ho
  have HRUN := Aside0.mk hrun
  have HR := Aside0.mk hR
  have HB := Aside0.mk (MapV.move hb (hb1.block b hb.lt))
  have HL := Aside0.mk hb.lt
  have HG := Aside0.mk (below_grown hb1 b)
  have HS := Aside0.mk hs
  have HN := Aside0.mk hne
  clear hrun hR hb1 hsz hb ho hs hne
  go_enter Try.func46, Try.ntmps46
  go_wp2_with (refine wpl_range rfl _ _ rfl rfl HRUN.out ?_)
  go_frame
  go_loopg [8] n0 (fun kq v8 wr => ∃ (L G : Value → Option Value) (n : Nat), Aside0 (RangeV Try.prog 68 wr o w.heap.size F L n ∧ n ≤ kq ∧ MapV Try.prog 68 wr b G ∧ Had F L G ∧ w.grownBy wr (some b)))
  case atStart => exact ⟨F, _, n0, ⟨HR.out, Nat.le_refl _, HB.out, Had.start F, HG.out⟩⟩
  case round =>
    clear HR HB HG
    obtain ⟨L, G, n, HI⟩ := hrel
    rcases rangeV_next HI.out.1 0 with ⟨hl, hrun⟩ | ⟨kk, vv, l, w2, n1, hLk, hFk, hkey, hrun, hen, hR1, hlt, hg1, hs1⟩
    · have HX := Aside0.mk hrun
      have HF := Aside0.mk (HI.out.2.2.2.1.last hl)
      clear hrun hl
      go_wp2_with (refine wpl_next rfl _ rfl rfl HX.out ?_)
      go_end0
      exact ⟨rfl, HF.out ▸ HI.out.2.2.1, HI.out.2.2.2.2⟩
    · obtain ⟨⟨k0, k1, rfl, wk0, wk1⟩, v0, v1, rfl⟩ := HS.out kk vv hFk
      have HX := Aside0.mk hrun
      have HE := Aside0.mk hen
      have HK := Aside0.mk hkey
      have hbr : w.heap.size ≠ b := fun q => by have := HL.out; omega
      have HM := Aside0.mk (And.intro hR1 (And.intro (MapV.move HI.out.2.2.1 (hg1.block b HI.out.2.2.1.lt (fun q => hbr (Option.some.inj q).symm))) (And.intro (Had.step HI.out.2.2.2.1 hLk hFk) (And.intro (grown_new HI.out.2.2.2.2 hg1 (Nat.le_refl _)) (Nat.lt_of_lt_of_le hlt HI.out.2.1)))))
      have HZ := Aside0.mk (show ∀ q, o = some q → q < w2.heap.size ∧ q ≠ b from fun q hq => ⟨by have := HI.out.1; subst hq; obtain ⟨es, clock, since, seen, c0, h1, _⟩ := this; rw [hs1]; exact (Array.getElem?_eq_some_iff.1 h1).1, fun e => HN.out (by rw [hq, e])⟩)
      clear hrun hen hkey hR1 hg1 hs1 hLk hFk hlt
      go_wp2_with (first | refine wpl_next rfl _ rfl rfl HX.out ?_ | refine wpl_entry rfl _ rfl rfl HE.out ?_ | (at_mapUpdate; refine wpl_put rfl _ _ _ _ rfl lawE Try.underlying55 rfl rfl rfl ((HM.out.2.1.all _).all _) HK.out ?_; intro w3 hm3 hg3 hs3; go_frame))
      go_roundg n1
      case measure => exact HM.out.2.2.2.2
      case rel =>
        exact ⟨_, _, n1, ⟨RangeV.move HM.out.1 (old2 hg3 HM.out.1.lt hbr) (fun q hq => old2 hg3 (HZ.out q hq).1 (HZ.out q hq).2), Nat.le_refl _, hm3, HM.out.2.2.1, grown_trans (grown_below HM.out.2.2.2.1 (bel2 _ _ _)) hg3⟩⟩
set_option maxHeartbeats 4000000 in
set_option maxRecDepth 100000 in
theorem ownE.calls (o : Option Nat) (F : Value → Option Value) (w : World) (ho : MapO Try.prog 68 w o F) (hs : ShE F) :
    Calls Try.prog 30 #[.map o] w fun e w' => ∃ b, e = .returned (.map (some b)) ∧ w.heap.size ≤ b ∧ MapV Try.prog 68 w' b F ∧ Below w.heap.size w w' := by
  have HO := Aside0.mk ho
  have HS := Aside0.mk hs
  have hmm := @run_makeMap Try.prog
  clear ho hs
  go_enter Try.func30, Try.ntmps30
  go_wp2_with fail
  have hlt : ∀ q, o = some q → q < w.heap.size := fun q hq => by have := HO.out; subst hq; exact this.lt
  refine (copyE.calls w.heap.size o F _ (mapV_new Try.prog 68 w) (HO.out.move (fun q hq => heap_alloc_old w _ (hlt q hq))) HS.out (fun e => Nat.lt_irrefl _ (hlt _ e))).mono ?_
  rintro e w1 ⟨rfl, hm, hg⟩
  have HM := Aside0.mk (And.intro hm (show Below w.heap.size w w1 from (show Below w.heap.size w (w.alloc (.map #[] 0)) from bel1 w _).trans ⟨hg.os, hg.tape, hg.output, hg.size, fun i hi => hg.block i (Nat.lt_of_lt_of_le hi (bel1 w (.map #[] 0)).size) (fun q => Nat.lt_irrefl _ (Option.some.inj q ▸ hi))⟩))
  clear hm hg
  go_wp2_with fail
  go_ret
  exact ⟨_, rfl, Nat.le_refl _, HM.out.1, HM.out.2⟩
set_option maxHeartbeats 4000000 in
set_option maxRecDepth 100000 in
theorem copyR.calls (b : Nat) (o : Option Nat) (F : Value → Option Value) (w : World) (hb : MapV Try.prog 77 w b (fun _ => none)) (ho : MapO Try.prog 77 w o F) (hs : ShR F) (hne : o ≠ some b) :
    Calls Try.prog 41 #[.map (some b), .map o] w fun e w' => e = .returned (.tuple #[]) ∧ MapV Try.prog 77 w' b F ∧ w.grownBy w' (some b) := by
  obtain ⟨w1, n0, hrun, hR, hb1, hsz⟩ := rangeV_start (P := Try.prog) Try.underlying56 ho
  have HRUN := Aside0.mk hrun
  have HR := Aside0.mk hR
  have HB := Aside0.mk (MapV.move hb (hb1.block b hb.lt))
  have HL := Aside0.mk hb.lt
  have HG := Aside0.mk (below_grown hb1 b)
  have HS := Aside0.mk hs
  have HN := Aside0.mk hne
  clear hrun hR hb1 hsz hb ho hs hne
  go_enter Try.func41, Try.ntmps41
  go_wp2_with (refine wpl_range rfl _ _ rfl rfl HRUN.out ?_)
  go_frame
  go_loopg [8] n0 (fun kq v8 wr => ∃ (L G : Value → Option Value) (n : Nat), Aside0 (RangeV Try.prog 77 wr o w.heap.size F L n ∧ n ≤ kq ∧ MapV Try.prog 77 wr b G ∧ Had F L G ∧ w.grownBy wr (some b)))
  case atStart => exact ⟨F, _, n0, ⟨HR.out, Nat.le_refl _, HB.out, Had.start F, HG.out⟩⟩
  case round =>
    clear HR HB HG
    obtain ⟨L, G, n, HI⟩ := hrel
    rcases rangeV_next HI.out.1 0 with ⟨hl, hrun⟩ | ⟨kk, vv, l, w2, n1, hLk, hFk, hkey, hrun, hen, hR1, hlt, hg1, hs1⟩
    · have HX := Aside0.mk hrun
      have HF := Aside0.mk (HI.out.2.2.2.1.last hl)
      clear hrun hl
      go_wp2_with (refine wpl_next rfl _ rfl rfl HX.out ?_)
      go_end0
      exact ⟨rfl, HF.out ▸ HI.out.2.2.1, HI.out.2.2.2.2⟩
    · obtain ⟨⟨k0, k1, k2, k3, rfl, wk0, wk1, wk2, wk3⟩, v0, v1, v2, v3, v4, v5, rfl⟩ := HS.out kk vv hFk
      have HX := Aside0.mk hrun
      have HE := Aside0.mk hen
      have HK := Aside0.mk hkey
      have hbr : w.heap.size ≠ b := fun q => by have := HL.out; omega
      have HM := Aside0.mk (And.intro hR1 (And.intro (MapV.move HI.out.2.2.1 (hg1.block b HI.out.2.2.1.lt (fun q => hbr (Option.some.inj q).symm))) (And.intro (Had.step HI.out.2.2.2.1 hLk hFk) (And.intro (grown_new HI.out.2.2.2.2 hg1 (Nat.le_refl _)) (Nat.lt_of_lt_of_le hlt HI.out.2.1)))))
      have HZ := Aside0.mk (show ∀ q, o = some q → q < w2.heap.size ∧ q ≠ b from fun q hq => ⟨by have := HI.out.1; subst hq; obtain ⟨es, clock, since, seen, c0, h1, _⟩ := this; rw [hs1]; exact (Array.getElem?_eq_some_iff.1 h1).1, fun e => HN.out (by rw [hq, e])⟩)
      clear hrun hen hkey hR1 hg1 hs1 hLk hFk hlt
      go_wp2_with (first | refine wpl_next rfl _ rfl rfl HX.out ?_ | refine wpl_entry rfl _ rfl rfl HE.out ?_ | (at_mapUpdate; refine wpl_put rfl _ _ _ _ rfl lawR Try.underlying56 rfl rfl rfl ((HM.out.2.1.all _).all _) HK.out ?_; intro w3 hm3 hg3 hs3; go_frame))
      go_roundg n1
      case measure => exact HM.out.2.2.2.2
      case rel =>
        exact ⟨_, _, n1, ⟨RangeV.move HM.out.1 (old2 hg3 HM.out.1.lt hbr) (fun q hq => old2 hg3 (HZ.out q hq).1 (HZ.out q hq).2), Nat.le_refl _, hm3, HM.out.2.2.1, grown_trans (grown_below HM.out.2.2.2.1 (bel2 _ _ _)) hg3⟩⟩
set_option maxHeartbeats 4000000 in
set_option maxRecDepth 100000 in
theorem ownR.calls (o : Option Nat) (F : Value → Option Value) (w : World) (ho : MapO Try.prog 77 w o F) (hs : ShR F) :
    Calls Try.prog 25 #[.map o] w fun e w' => ∃ b, e = .returned (.map (some b)) ∧ w.heap.size ≤ b ∧ MapV Try.prog 77 w' b F ∧ Below w.heap.size w w' := by
  have HO := Aside0.mk ho
  have HS := Aside0.mk hs
  have hmm := @run_makeMap Try.prog
  clear ho hs
  go_enter Try.func25, Try.ntmps25
  go_wp2_with fail
  have hlt : ∀ q, o = some q → q < w.heap.size := fun q hq => by have := HO.out; subst hq; exact this.lt
  refine (copyR.calls w.heap.size o F _ (mapV_new Try.prog 77 w) (HO.out.move (fun q hq => heap_alloc_old w _ (hlt q hq))) HS.out (fun e => Nat.lt_irrefl _ (hlt _ e))).mono ?_
  rintro e w1 ⟨rfl, hm, hg⟩
  have HM := Aside0.mk (And.intro hm (show Below w.heap.size w w1 from (show Below w.heap.size w (w.alloc (.map #[] 0)) from bel1 w _).trans ⟨hg.os, hg.tape, hg.output, hg.size, fun i hi => hg.block i (Nat.lt_of_lt_of_le hi (bel1 w (.map #[] 0)).size) (fun q => Nat.lt_irrefl _ (Option.some.inj q ▸ hi))⟩))
  clear hm hg
  go_wp2_with fail
  go_ret
  exact ⟨_, rfl, Nat.le_refl _, HM.out.1, HM.out.2⟩
set_option maxHeartbeats 4000000 in
set_option maxRecDepth 100000 in
theorem copyS.calls (b : Nat) (o : Option Nat) (F : Value → Option Value) (w : World) (hb : MapV Try.prog 80 w b (fun _ => none)) (ho : MapO Try.prog 80 w o F) (hs : ShS F) (hne : o ≠ some b) :
    Calls Try.prog 42 #[.map (some b), .map o] w fun e w' => e = .returned (.tuple #[]) ∧ MapV Try.prog 80 w' b F ∧ w.grownBy w' (some b) := by
  obtain ⟨w1, n0, hrun, hR, hb1, hsz⟩ := rangeV_start (P := Try.prog) Try.underlying57 ho
  have HRUN := Aside0.mk hrun
  have HR := Aside0.mk hR
  have HB := Aside0.mk (MapV.move hb (hb1.block b hb.lt))
  have HL := Aside0.mk hb.lt
  have HG := Aside0.mk (below_grown hb1 b)
  have HS := Aside0.mk hs
  have HN := Aside0.mk hne
  clear hrun hR hb1 hsz hb ho hs hne
  go_enter Try.func42, Try.ntmps42
  go_wp2_with (refine wpl_range rfl _ _ rfl rfl HRUN.out ?_)
  go_frame
  go_loopg [8] n0 (fun kq v8 wr => ∃ (L G : Value → Option Value) (n : Nat), Aside0 (RangeV Try.prog 80 wr o w.heap.size F L n ∧ n ≤ kq ∧ MapV Try.prog 80 wr b G ∧ Had F L G ∧ w.grownBy wr (some b)))
  case atStart => exact ⟨F, _, n0, ⟨HR.out, Nat.le_refl _, HB.out, Had.start F, HG.out⟩⟩
  case round =>
    clear HR HB HG
    obtain ⟨L, G, n, HI⟩ := hrel
    rcases rangeV_next HI.out.1 0 with ⟨hl, hrun⟩ | ⟨kk, vv, l, w2, n1, hLk, hFk, hkey, hrun, hen, hR1, hlt, hg1, hs1⟩
    · have HX := Aside0.mk hrun
      have HF := Aside0.mk (HI.out.2.2.2.1.last hl)
      clear hrun hl
      go_wp2_with (refine wpl_next rfl _ rfl rfl HX.out ?_)
      go_end0
      exact ⟨rfl, HF.out ▸ HI.out.2.2.1, HI.out.2.2.2.2⟩
    · obtain ⟨⟨k0, k1, k2, k3, rfl, wk0, wk1, wk2, wk3⟩, v0, rfl⟩ := HS.out kk vv hFk
      have HX := Aside0.mk hrun
      have HE := Aside0.mk hen
      have HK := Aside0.mk hkey
      have hbr : w.heap.size ≠ b := fun q => by have := HL.out; omega
      have HM := Aside0.mk (And.intro hR1 (And.intro (MapV.move HI.out.2.2.1 (hg1.block b HI.out.2.2.1.lt (fun q => hbr (Option.some.inj q).symm))) (And.intro (Had.step HI.out.2.2.2.1 hLk hFk) (And.intro (grown_new HI.out.2.2.2.2 hg1 (Nat.le_refl _)) (Nat.lt_of_lt_of_le hlt HI.out.2.1)))))
      have HZ := Aside0.mk (show ∀ q, o = some q → q < w2.heap.size ∧ q ≠ b from fun q hq => ⟨by have := HI.out.1; subst hq; obtain ⟨es, clock, since, seen, c0, h1, _⟩ := this; rw [hs1]; exact (Array.getElem?_eq_some_iff.1 h1).1, fun e => HN.out (by rw [hq, e])⟩)
      clear hrun hen hkey hR1 hg1 hs1 hLk hFk hlt
      go_wp2_with (first | refine wpl_next rfl _ rfl rfl HX.out ?_ | refine wpl_entry rfl _ rfl rfl HE.out ?_ | (at_mapUpdate; refine wpl_put rfl _ _ _ _ rfl lawS Try.underlying57 rfl rfl rfl (HM.out.2.1.all _) HK.out ?_; intro w3 hm3 hg3 hs3; go_frame))
      go_roundg n1
      case measure => exact HM.out.2.2.2.2
      case rel =>
        exact ⟨_, _, n1, ⟨RangeV.move HM.out.1 (old1 hg3 HM.out.1.lt hbr) (fun q hq => old1 hg3 (HZ.out q hq).1 (HZ.out q hq).2), Nat.le_refl _, hm3, HM.out.2.2.1, grown_trans (grown_below HM.out.2.2.2.1 (bel1 _ _)) hg3⟩⟩
set_option maxHeartbeats 4000000 in
set_option maxRecDepth 100000 in
theorem ownS.calls (o : Option Nat) (F : Value → Option Value) (w : World) (ho : MapO Try.prog 80 w o F) (hs : ShS F) :
    Calls Try.prog 26 #[.map o] w fun e w' => ∃ b, e = .returned (.map (some b)) ∧ w.heap.size ≤ b ∧ MapV Try.prog 80 w' b F ∧ Below w.heap.size w w' := by
  have HO := Aside0.mk ho
  have HS := Aside0.mk hs
  have hmm := @run_makeMap Try.prog
  clear ho hs
  go_enter Try.func26, Try.ntmps26
  go_wp2_with fail
  have hlt : ∀ q, o = some q → q < w.heap.size := fun q hq => by have := HO.out; subst hq; exact this.lt
  refine (copyS.calls w.heap.size o F _ (mapV_new Try.prog 80 w) (HO.out.move (fun q hq => heap_alloc_old w _ (hlt q hq))) HS.out (fun e => Nat.lt_irrefl _ (hlt _ e))).mono ?_
  rintro e w1 ⟨rfl, hm, hg⟩
  have HM := Aside0.mk (And.intro hm (show Below w.heap.size w w1 from (show Below w.heap.size w (w.alloc (.map #[] 0)) from bel1 w _).trans ⟨hg.os, hg.tape, hg.output, hg.size, fun i hi => hg.block i (Nat.lt_of_lt_of_le hi (bel1 w (.map #[] 0)).size) (fun q => Nat.lt_irrefl _ (Option.some.inj q ▸ hi))⟩))
  clear hm hg
  go_wp2_with fail
  go_ret
  exact ⟨_, rfl, Nat.le_refl _, HM.out.1, HM.out.2⟩

end Go.Proofs.Ytdlkofmcioalfaa.PCk

-- written by a program of this session (wip/tools/pr.py, over the kit's printer): not by hand
namespace Go.Proofs.Ytdlkofmcioalfaa.PCk
open Go.RowKit Go.Proofs.YtdlkofmcioalfaaW.PrintWords Go.Proofs.YtdlkofmcioalfaaW.PrintLast Go.Proofs.YtdlkofmcioalfaaW.PrintMore
attribute [local go_sem] max2_int min2_int max_two min_two max_three min_three max_four min_four   -- for this text's walks alone
set_option linter.unusedVariables false
set_option linter.unusedSimpArgs false

/-! ### check_like: function 45 -/
def check_like.f (a0_0 : Bool) (a0_1 : ByteArray) (a0_2 : Bool) (a0_3 : ByteArray) (a0_4 : Int) (a0_5 : Int) : Option (Bool × ByteArray × Bool × ByteArray × Int × Int) := some (a0_0, a0_1, a0_2, a0_3, a0_4, 0)
set_option maxHeartbeats 8000000 in
set_option maxRecDepth 100000 in
theorem check_like.calls (a0_0 : Bool) (a0_1 : ByteArray) (a0_2 : Bool) (a0_3 : ByteArray) (a0_4 : Int) (a0_5 : Int) (r1 : Bool) (r2 : ByteArray) (r3 : Bool) (r4 : ByteArray) (r5 : Int) (r6 : Int) (w : World) (h : check_like.f a0_0 a0_1 a0_2 a0_3 a0_4 a0_5 = some (r1, r2, r3, r4, r5, r6)) :
    Calls Try.prog 45 #[.agg #[.bool a0_0, .string a0_1, .bool a0_2, .string a0_3, .int .i64 a0_4, .int .i64 a0_5]] w fun e w' => e = .returned (.agg #[.bool r1, .string r2, .bool r3, .string r4, .int .i64 r5, .int .i64 r6]) ∧ Below w.heap.size w w' := by
  have hu48 := Try.underlying48
  have HB := Aside0.mk (Below.refl w.heap.size w)
  have H : (some (a0_0, a0_1, a0_2, a0_3, a0_4, 0)) = some (r1, r2, r3, r4, r5, r6) := h
  clear h
  simp only [Option.some.injEq, Prod.mk.injEq] at H
  obtain ⟨rfl, rfl, rfl, rfl, rfl, rfl⟩ := H
  go_enter Try.func45, Try.ntmps45
  go_wp2_with (first | ((with_reducible refine gate_dst (N := 1) rfl ?_); refine box_event ?hg (N := 1) ?hd (cs := #[.bool a0_0, .string a0_1, .bool a0_2, .string a0_3, .int .i64 a0_4, .int .i64 a0_5]) (t := 48) ?hr ?_; (case hd => rfl); (case hg => rfl); (case hr => first | (go_simp; done) | (go_simp; rfl)); intro gb132 hg w2 hbox hb; have n0_ := Aside0.mk (below_step (by repeat (first | (with_reducible first | exact HB.out | apply below_alloc | apply pw_below_drewN | apply below_drew1) | exact HB.out)) hb); have n1_ := Aside0.mk (hbox); have n2_ := Aside0.mk ((by rw [hg]; exact (below_size (by repeat (first | (with_reducible first | exact HB.out | apply below_alloc | apply pw_below_drewN | apply below_drew1) | exact HB.out))) : w.heap.size ≤ gb132)); have n3_ := Aside0.mk ((by rw [hg]; exact (below_size (by repeat (first | (with_reducible first | exact HB.out | apply below_alloc | apply pw_below_drewN | apply below_drew1) | exact HB.out))) : w.heap.size ≤ gb132)); clear HB; have HB := n0_; have BK132 := n1_; have GW132 := n2_; have GE132 := n3_; clear n0_ n1_ n2_ n3_; clear hb hbox hg) | ((with_reducible refine gate_dst (N := 2) rfl ?_); refine box_event ?hg (N := 2) ?hd (cs := #[.bool false, .string (⟨#[]⟩ : ByteArray), .bool false, .string (⟨#[]⟩ : ByteArray), .int .i64 0, .int .i64 0]) (t := 48) ?hr ?_; (case hd => rfl); (case hg => rfl); (case hr => first | (go_simp; done) | (go_simp; rfl)); intro gb133 hg w3 hbox hb; have n0_ := Aside0.mk (blk_below (g := gb132) (o := .cells #[.bool a0_0, .string a0_1, .bool a0_2, .string a0_3, .int .i64 a0_4, .int .i64 a0_5] 48 (0, 0)) (by (with_reducible repeat (first | refine blk_drewN ?_ _ | refine blk_drew ?_ | refine blk_alloc ?_ _)); exact BK132.out) hb); have n1_ := Aside0.mk (below_step (by repeat (first | (with_reducible first | exact HB.out | apply below_alloc | apply pw_below_drewN | apply below_drew1 | refine below_set ?_ GE132.out) | exact HB.out)) hb); have n2_ := Aside0.mk (hbox); have n3_ := Aside0.mk ((by rw [hg]; exact (below_size (by repeat (first | (with_reducible first | exact HB.out | apply below_alloc | apply pw_below_drewN | apply below_drew1 | refine below_set ?_ GE132.out) | exact HB.out))) : w.heap.size ≤ gb133)); have n4_ := Aside0.mk ((by rw [hg]; exact (below_size (by repeat (first | (with_reducible first | exact HB.out | apply below_alloc | apply pw_below_drewN | apply below_drew1 | refine below_set ?_ GE132.out) | exact HB.out))) : w.heap.size ≤ gb133)); have n5_ := Aside0.mk ((by rw [hg]; exact Nat.ne_of_lt (blk_lt (g := gb132) (o := .cells #[.bool a0_0, .string a0_1, .bool a0_2, .string a0_3, .int .i64 a0_4, .int .i64 a0_5] 48 (0, 0)) (by (with_reducible repeat (first | refine blk_drewN ?_ _ | refine blk_drew ?_ | refine blk_alloc ?_ _)); exact BK132.out)) : gb132 ≠ gb133)); have n6_ := Aside0.mk ((by rw [hg]; exact Nat.ne_of_gt (blk_lt (g := gb132) (o := .cells #[.bool a0_0, .string a0_1, .bool a0_2, .string a0_3, .int .i64 a0_4, .int .i64 a0_5] 48 (0, 0)) (by (with_reducible repeat (first | refine blk_drewN ?_ _ | refine blk_drew ?_ | refine blk_alloc ?_ _)); exact BK132.out)) : gb133 ≠ gb132)); clear BK132; clear HB; have BK132 := n0_; have HB := n1_; have BK133 := n2_; have GW133 := n3_; have GE133 := n4_; have NB132_133 := n5_; have NB133_132 := n6_; clear n0_ n1_ n2_ n3_ n4_ n5_ n6_; clear hb hbox hg; have hnb4 := NB132_133.out; have hnc4 := NB133_132.out; have hcz5_0 : w3.cell? ⟨gb132, 0, none⟩ = some (.bool a0_0) := (blk_cell BK132.out 0).trans rfl; have hcz5_1 : w3.cell? ⟨gb132, 1, none⟩ = some (.string a0_1) := (blk_cell BK132.out 1).trans rfl; have hcz5_2 : w3.cell? ⟨gb132, 2, none⟩ = some (.bool a0_2) := (blk_cell BK132.out 2).trans rfl; have hcz5_3 : w3.cell? ⟨gb132, 3, none⟩ = some (.string a0_3) := (blk_cell BK132.out 3).trans rfl; have hcz5_4 : w3.cell? ⟨gb132, 4, none⟩ = some (.int .i64 a0_4) := (blk_cell BK132.out 4).trans rfl; have hcz5_5 : w3.cell? ⟨gb132, 5, none⟩ = some (.int .i64 a0_5) := (blk_cell BK132.out 5).trans rfl; have hfz5_0 := blk_frozen BK132.out 0; have hfz5_1 := blk_frozen BK132.out 1; have hfz5_2 := blk_frozen BK132.out 2; have hfz5_3 := blk_frozen BK132.out 3; have hfz5_4 := blk_frozen BK132.out 4; have hfz5_5 := blk_frozen BK132.out 5; have hcz6_0 : w3.cell? ⟨gb133, 0, none⟩ = some (.bool false) := (blk_cell BK133.out 0).trans rfl; have hcz6_1 : w3.cell? ⟨gb133, 1, none⟩ = some (.string (⟨#[]⟩ : ByteArray)) := (blk_cell BK133.out 1).trans rfl; have hcz6_2 : w3.cell? ⟨gb133, 2, none⟩ = some (.bool false) := (blk_cell BK133.out 2).trans rfl; have hcz6_3 : w3.cell? ⟨gb133, 3, none⟩ = some (.string (⟨#[]⟩ : ByteArray)) := (blk_cell BK133.out 3).trans rfl; have hcz6_4 : w3.cell? ⟨gb133, 4, none⟩ = some (.int .i64 0) := (blk_cell BK133.out 4).trans rfl; have hcz6_5 : w3.cell? ⟨gb133, 5, none⟩ = some (.int .i64 0) := (blk_cell BK133.out 5).trans rfl; have hfz6_0 := blk_frozen BK133.out 0; have hfz6_1 := blk_frozen BK133.out 1; have hfz6_2 := blk_frozen BK133.out 2; have hfz6_3 := blk_frozen BK133.out 3; have hfz6_4 := blk_frozen BK133.out 4; have hfz6_5 := blk_frozen BK133.out 5))
  refine bodyPost_ret (results_cell_row rfl _ _ gb133 48 #[.bool a0_0, .string a0_1, .bool a0_2, .string a0_3, .int .i64 a0_4, .int .i64 0] (0, 0) _ rfl (by (with_reducible repeat (first | refine blk_drewN ?_ _ | refine blk_drew ?_ | refine blk_alloc ?_ _)); refine blk_put (cs := #[.bool a0_0, .string a0_1, .bool a0_2, .string a0_3, .int .i64 a0_4, .int .i64 0]) ?_ 5 _ (by first | rfl | (simp only [*, List.setIfInBounds_toArray, List.set_cons_zero, List.set_cons_succ]; done) | (simp [*]; done)); (with_reducible repeat (first | refine blk_drewN ?_ _ | refine blk_drew ?_ | refine blk_alloc ?_ _)); refine blk_put (cs := #[.bool a0_0, .string a0_1, .bool a0_2, .string a0_3, .int .i64 0, .int .i64 0]) ?_ 4 _ (by first | rfl | (simp only [*, List.setIfInBounds_toArray, List.set_cons_zero, List.set_cons_succ]; done) | (simp [*]; done)); (with_reducible repeat (first | refine blk_drewN ?_ _ | refine blk_drew ?_ | refine blk_alloc ?_ _)); refine blk_put (cs := #[.bool a0_0, .string a0_1, .bool a0_2, .string (⟨#[]⟩ : ByteArray), .int .i64 0, .int .i64 0]) ?_ 3 _ (by first | rfl | (simp only [*, List.setIfInBounds_toArray, List.set_cons_zero, List.set_cons_succ]; done) | (simp [*]; done)); (with_reducible repeat (first | refine blk_drewN ?_ _ | refine blk_drew ?_ | refine blk_alloc ?_ _)); refine blk_put (cs := #[.bool a0_0, .string a0_1, .bool false, .string (⟨#[]⟩ : ByteArray), .int .i64 0, .int .i64 0]) ?_ 2 _ (by first | rfl | (simp only [*, List.setIfInBounds_toArray, List.set_cons_zero, List.set_cons_succ]; done) | (simp [*]; done)); (with_reducible repeat (first | refine blk_drewN ?_ _ | refine blk_drew ?_ | refine blk_alloc ?_ _)); refine blk_put (cs := #[.bool a0_0, .string (⟨#[]⟩ : ByteArray), .bool false, .string (⟨#[]⟩ : ByteArray), .int .i64 0, .int .i64 0]) ?_ 1 _ (by first | rfl | (simp only [*, List.setIfInBounds_toArray, List.set_cons_zero, List.set_cons_succ]; done) | (simp [*]; done)); (with_reducible repeat (first | refine blk_drewN ?_ _ | refine blk_drew ?_ | refine blk_alloc ?_ _)); refine blk_put (cs := #[.bool false, .string (⟨#[]⟩ : ByteArray), .bool false, .string (⟨#[]⟩ : ByteArray), .int .i64 0, .int .i64 0]) ?_ 0 _ (by first | rfl | (simp only [*, List.setIfInBounds_toArray, List.set_cons_zero, List.set_cons_succ]; done) | (simp [*]; done)); (with_reducible repeat (first | refine blk_drewN ?_ _ | refine blk_drew ?_ | refine blk_alloc ?_ _)); refine blk_far ?_ NB133_132.out _; (with_reducible repeat (first | refine blk_drewN ?_ _ | refine blk_drew ?_ | refine blk_alloc ?_ _)); exact BK133.out) Try.underlying48 rfl (by kernel_rfl)) rfl ?_
  exact ⟨by first | rfl | (simp [errW_none, errW_some] <;> rfl) | (simp [*, errW_none, errW_some] <;> rfl), by repeat (first | (with_reducible first | exact HB.out | apply below_alloc | apply pw_below_drewN | apply below_drew1 | refine below_set ?_ GE132.out | refine below_set ?_ GE133.out) | exact HB.out)⟩

-- NOT PRINTED: function 28 (check_changed)

-- NOT PRINTED: function 29 (check_again)

-- NOT PRINTED: function 46 (check_ends_46)

-- NOT PRINTED: function 30 (check_ends_30)

-- NOT PRINTED: function 11 (check_Log_Saw)

/-! ### bollardlaw24_one: function 22 -/
def bollardlaw24_one.f (a0 : Int) (a1 : ByteArray) : Option (Int × Int × Int × Int × (List (S48))) := some (a0, 1, 0, 0, (([(⟨false, (⟨#[]⟩ : ByteArray), true, a1, 0, 0⟩ : S48)] : List (S48))))
set_option maxHeartbeats 8000000 in
set_option maxRecDepth 100000 in
theorem bollardlaw24_one.calls (a0 : Int) (a1 : ByteArray) (r1 : Int) (r2 : Int) (r3 : Int) (r4 : Int) (r5 : List (S48)) (w : World) (h : bollardlaw24_one.f a0 a1 = some (r1, r2, r3, r4, r5)) :
    Calls Try.prog 22 #[.int .i64 a0, .string a1] w fun e w' => ∃ v4_ : Value, e = .returned (.agg #[.int .i64 r1, .int .i64 r2, .int .i64 r3, .int .i64 r4, v4_]) ∧ Kd.R k48 48 w' w.heap.size (fun _ => True) v4_ r5 ∧ Below w.heap.size w w' := by
  have hu61 := Try.underlying61
  have hu48 := Try.underlying48
  have HB := Aside0.mk (Below.refl w.heap.size w)
  have H : (some (a0, 1, 0, 0, (([(⟨false, (⟨#[]⟩ : ByteArray), true, a1, 0, 0⟩ : S48)] : List (S48))))) = some (r1, r2, r3, r4, r5) := h
  clear h
  obtain ⟨y135, hy135⟩ : ∃ y_ : List (S48), y_ = (([(⟨false, (⟨#[]⟩ : ByteArray), true, a1, 0, 0⟩ : S48)] : List (S48))) := ⟨_, rfl⟩
  replace H : (some (a0, 1, 0, 0, y135)) = some (r1, r2, r3, r4, r5) := by first | (rw [hy135]; with_reducible exact H) | (have H2_ := (Option.bind_some _ _).symm.trans H; rw [hy135]; with_reducible exact H2_) | (have H2_ := (Option.bind_some _ _).symm.trans H; with_reducible exact H2_) | with_reducible exact H | (rw [hy135]; exact H) | exact H
  have Ny135 := Aside0.mk hy135
  clear hy135
  simp only [Option.some.injEq, Prod.mk.injEq] at H
  obtain ⟨rfl, rfl, rfl, rfl, rfl⟩ := H
  go_enter Try.func22, Try.ntmps22
  go_wp2_with (first | ((with_reducible refine gate_dst (N := 4) rfl ?_); refine box_event ?hg (N := 4) ?hd (cs := #[.int .i64 0, .int .i64 0, .int .i64 0, .int .i64 0, .slice none 0 0]) (t := 61) ?hr ?_; (case hd => rfl); (case hg => rfl); (case hr => first | (go_simp; done) | (go_simp; rfl)); intro gb134 hg w3 hbox hb; have n0_ := Aside0.mk (below_step (by repeat (first | (with_reducible first | exact HB.out | apply below_alloc | apply pw_below_drewN | apply below_drew1) | exact HB.out)) hb); have n1_ := Aside0.mk (hbox); have n2_ := Aside0.mk ((by rw [hg]; exact (below_size (by repeat (first | (with_reducible first | exact HB.out | apply below_alloc | apply pw_below_drewN | apply below_drew1) | exact HB.out))) : w.heap.size ≤ gb134)); have n3_ := Aside0.mk ((by rw [hg]; exact (below_size (by repeat (first | (with_reducible first | exact HB.out | apply below_alloc | apply pw_below_drewN | apply below_drew1) | exact HB.out))) : w.heap.size ≤ gb134)); clear HB; have HB := n0_; have BK134 := n1_; have GW134 := n2_; have GE134 := n3_; clear n0_ n1_ n2_ n3_; clear hb hbox hg) | ((with_reducible refine gate_dst (N := 8) rfl ?_); refine Kd.R_lit k48 _ 48 ?hg (N := 8) ?hd (xs := ([(⟨false, (⟨#[]⟩ : ByteArray), true, a1, 0, 0⟩ : S48)] : List (S48))) (inner := [.bool false, .string (⟨#[]⟩ : ByteArray), .bool true, .string a1, .int .i64 0, .int .i64 0]) (ok := fun _ => True) (okp := fun _ => True) ?hr ?hp (fun _ hk => hk) trivial (Below.refl _ _) (Nat.le_refl _) (by simp) ?_; (case hd => rfl); (case hg => rfl); (case hr => first | (go_simp; done) | (go_simp; rfl)); (case hp => exact (Reps.c6 (show Kd.M k48 _ _ _ (⟨false, (⟨#[]⟩ : ByteArray), true, a1, 0, 0⟩ : S48) [.bool false, .string (⟨#[]⟩ : ByteArray), .bool true, .string a1, .int .i64 0, .int .i64 0] from (k48_mkM _ _ _ (⟨false, (⟨#[]⟩ : ByteArray), true, a1, 0, 0⟩ : S48) )) (Reps.none _ _))); intro v136 w4 ho5 hb hg_ hnew_; clear hg_ hnew_; (first | rw [← Ny135.out] at ho5 | (simp only [Int.reduceToNat] at ho5; rw [← Ny135.out] at ho5)); have n0_ := Aside0.mk (Kd.R_lower ho5 (below_size (by repeat (first | (with_reducible first | exact HB.out | apply below_alloc | apply pw_below_drewN | apply below_drew1 | refine below_set ?_ GE134.out) | exact HB.out)))); have n1_ := Aside0.mk (blk_below (g := gb134) (o := .cells #[.int .i64 0, .int .i64 0, .int .i64 0, .int .i64 0, .slice none 0 0] 61 (0, 0)) (by (with_reducible repeat (first | refine blk_drewN ?_ _ | refine blk_drew ?_ | refine blk_alloc ?_ _)); exact BK134.out) hb); have n2_ := Aside0.mk (below_step (by repeat (first | (with_reducible first | exact HB.out | apply below_alloc | apply pw_below_drewN | apply below_drew1 | refine below_set ?_ GE134.out) | exact HB.out)) hb); clear BK134; clear HB; have HO137 := n0_; have BK134 := n1_; have HB := n2_; clear n0_ n1_ n2_; clear hb ho5; obtain ⟨Ao6, co6, eo6⟩ := Kd.R_slice HO137.out; subst eo6; have hcz7_0 : w4.cell? ⟨gb134, 0, none⟩ = some (.int .i64 0) := (blk_cell BK134.out 0).trans rfl; have hcz7_1 : w4.cell? ⟨gb134, 1, none⟩ = some (.int .i64 0) := (blk_cell BK134.out 1).trans rfl; have hcz7_2 : w4.cell? ⟨gb134, 2, none⟩ = some (.int .i64 0) := (blk_cell BK134.out 2).trans rfl; have hcz7_3 : w4.cell? ⟨gb134, 3, none⟩ = some (.int .i64 0) := (blk_cell BK134.out 3).trans rfl; have hcz7_4 : w4.cell? ⟨gb134, 4, none⟩ = some (.slice none 0 0) := (blk_cell BK134.out 4).trans rfl; have hfz7_0 := blk_frozen BK134.out 0; have hfz7_1 := blk_frozen BK134.out 1; have hfz7_2 := blk_frozen BK134.out 2; have hfz7_3 := blk_frozen BK134.out 3; have hfz7_4 := blk_frozen BK134.out 4))
  refine bodyPost_ret (results_cell_row rfl _ _ gb134 61 #[.int .i64 a0, .int .i64 1, .int .i64 0, .int .i64 0, .slice Ao6 y135.length co6] (0, 0) _ rfl (by (with_reducible repeat (first | refine blk_drewN ?_ _ | refine blk_drew ?_ | refine blk_alloc ?_ _)); refine blk_put (cs := #[.int .i64 a0, .int .i64 1, .int .i64 0, .int .i64 0, .slice none 0 0]) ?_ 4 _ (by first | rfl | (simp only [*, List.setIfInBounds_toArray, List.set_cons_zero, List.set_cons_succ]; done) | (simp [*]; done)); (with_reducible repeat (first | refine blk_drewN ?_ _ | refine blk_drew ?_ | refine blk_alloc ?_ _)); refine blk_put (cs := #[.int .i64 a0, .int .i64 1, .int .i64 0, .int .i64 0, .slice none 0 0]) ?_ 3 _ (by first | rfl | (simp only [*, List.setIfInBounds_toArray, List.set_cons_zero, List.set_cons_succ]; done) | (simp [*]; done)); (with_reducible repeat (first | refine blk_drewN ?_ _ | refine blk_drew ?_ | refine blk_alloc ?_ _)); refine blk_put (cs := #[.int .i64 a0, .int .i64 1, .int .i64 0, .int .i64 0, .slice none 0 0]) ?_ 2 _ (by first | rfl | (simp only [*, List.setIfInBounds_toArray, List.set_cons_zero, List.set_cons_succ]; done) | (simp [*]; done)); (with_reducible repeat (first | refine blk_drewN ?_ _ | refine blk_drew ?_ | refine blk_alloc ?_ _)); refine blk_put (cs := #[.int .i64 a0, .int .i64 0, .int .i64 0, .int .i64 0, .slice none 0 0]) ?_ 1 _ (by first | rfl | (simp only [*, List.setIfInBounds_toArray, List.set_cons_zero, List.set_cons_succ]; done) | (simp [*]; done)); (with_reducible repeat (first | refine blk_drewN ?_ _ | refine blk_drew ?_ | refine blk_alloc ?_ _)); refine blk_put (cs := #[.int .i64 0, .int .i64 0, .int .i64 0, .int .i64 0, .slice none 0 0]) ?_ 0 _ (by first | rfl | (simp only [*, List.setIfInBounds_toArray, List.set_cons_zero, List.set_cons_succ]; done) | (simp [*]; done)); (with_reducible repeat (first | refine blk_drewN ?_ _ | refine blk_drew ?_ | refine blk_alloc ?_ _)); exact BK134.out) Try.underlying61 rfl (by kernel_rfl)) rfl ?_
  exact ⟨_, by first | rfl | (simp [errW_none, errW_some] <;> rfl) | (simp [*, errW_none, errW_some] <;> rfl), by (with_reducible repeat (first | apply Kd.R_alloc | apply Kd.R_drewN | apply Kd.R_drew)); exact Kd.R_mono (Kd.R_far (p := ⟨gb134, 4, none⟩) (Kd.R_far (p := ⟨gb134, 3, none⟩) (Kd.R_far (p := ⟨gb134, 2, none⟩) (Kd.R_far (p := ⟨gb134, 1, none⟩) (Kd.R_far (p := ⟨gb134, 0, none⟩) (Kd.R_types HO137.out BK134.out (by decide)) (fun _ hk => hk.2) (.int .i64 a0)) (fun _ hk => hk.2) (.int .i64 1)) (fun _ hk => hk.2) (.int .i64 0)) (fun _ hk => hk.2) (.int .i64 0)) (fun _ hk => hk.2) (.slice Ao6 y135.length co6)) (fun _ hk => trivial), by repeat (first | (with_reducible first | exact HB.out | apply below_alloc | apply pw_below_drewN | apply below_drew1 | refine below_set ?_ GE134.out) | exact HB.out)⟩

-- NOT PRINTED: function 9 (bollardlaw24_awake)

end Go.Proofs.Ytdlkofmcioalfaa.PCk
