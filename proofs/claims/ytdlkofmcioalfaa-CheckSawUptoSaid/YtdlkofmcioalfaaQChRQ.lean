import Derived.Test.YtdlkofmcioalfaaQPCkx5
import Derived.Test.YtdlkofmcioalfaaQChE
import Derived.Outline
import Derived.StillTailTactics
import Derived.RegionTactic
import Derived.BigRegion
import Derived.Lib.BufferWrite
namespace Go.Proofs.Ytdlkofmcioalfaa.PCk
open Go.RowKit Go.Proofs.YtdlkofmcioalfaaW.PrintWords Go.Proofs.YtdlkofmcioalfaaW.PrintLast Go.Proofs.YtdlkofmcioalfaaW.PrintMore
attribute [local go_sem] max2_int min2_int max_two min_two max_three min_three max_four min_four
set_option linter.unusedVariables false
set_option linter.unusedSimpArgs false

/-! ### Log.Saw -/
/-- A Log: what it holds. -/
def LogP (w : World) (g : Nat) (E R S : Value → Option Value) : Prop := ∃ oE oR oS, w.heap[g]? = some (.cells #[.map oE, .map oR, .map oS] 59 (0, 0)) ∧ MapO Try.prog 68 w oE E ∧ MapO Try.prog 77 w oR R ∧ MapO Try.prog 80 w oS S ∧ ShE E ∧ ShR R ∧ ShS S
theorem MapO.lt {P : Program} {kt : TypeId} {w : World} {o : Option Nat} {F : Value → Option Value} (h : MapO P kt w o F) : ∀ b, o = some b → b < w.heap.size := fun b e => by subst e; exact MapV.lt h
theorem MapO.below {P : Program} {kt : TypeId} {w w1 : World} {o : Option Nat} {F : Value → Option Value} (h : MapO P kt w o F) (hb : Below w.heap.size w w1) : MapO P kt w1 o F := h.move fun b e => hb.block b (h.lt b e)
theorem MapV.below {P : Program} {kt : TypeId} {w w1 : World} {b : Nat} {F : Value → Option Value} (h : MapV P kt w b F) (hb : Below w.heap.size w w1) : MapV P kt w1 b F := h.move (hb.block b h.lt)
theorem LogP.below {w w1 : World} {g : Nat} {E R S : Value → Option Value} (h : LogP w g E R S) (hb : Below w.heap.size w w1) : LogP w1 g E R S := by
  obtain ⟨oE, oR, oS, h1, h2, h3, h4, h5⟩ := h
  exact ⟨oE, oR, oS, blk_below h1 hb, h2.below hb, h3.below hb, h4.below hb, h5⟩
theorem grown_set {a b : World} {g : Nat} (h : a.grownBy b (some g)) (j : Nat) (u : Value) : a.grownBy (b.setCell ⟨g, j, none⟩ u) (some g) :=
  ⟨h.os, h.tape, h.output, by simpa using h.size, fun i hi hn => (Below.heap_setCell b ⟨g, j, none⟩ u i (fun e => hn (by rw [e]))).trans (h.block i hi hn)⟩
open Classical in
noncomputable def saw1 (t : ByteArray) (p st nx : Int) (E : Value → Option Value) : Bool := decide (nx < st ∨ ∃ s n, E (partV t p) = some (endsV s n) ∧ (st < s ∨ nx < n))
/-- What Saw tells, and what it remembers. -/
noncomputable def sawF (t : ByteArray) (p st nx fr : Int) (l : List SB) (E R S : Value → Option Value) : Int × (Value → Option Value) × (Value → Option Value) × (Value → Option Value) :=
  if saw1 t p st nx E = true then (1, E, R, S) else if misL st nx fr none l = true then (2, E, R, S) else
    match chgB t p l R with
    | none => (3, E, R, S)
    | some R' => match agnB t p l S with
      | none => (4, E, R, S)
      | some S' => (0, upd E (partV t p) (endsV st nx), R', S')
open Classical in
theorem saw1_of {t : ByteArray} {p st nx s n : Int} {ok : Bool} {E : Value → Option Value} (h1 : ok = true → E (partV t p) = some (endsV s n)) (h2 : ok = false → E (partV t p) = none) : saw1 t p st nx E = (decide (nx < st) || (ok && (decide (st < s) || decide (nx < n)))) := by
  unfold saw1
  cases ok with
  | true =>
    have h := h1 rfl
    rw [Bool.eq_iff_iff, decide_eq_true_iff]
    simp only [Bool.true_and, Bool.or_eq_true, decide_eq_true_iff]
    constructor
    · rintro (h0 | ⟨s', n', e, h0⟩)
      · exact .inl h0
      · have e1 := Option.some.inj (h.symm.trans e)
        unfold endsV at e1
        simp only [Value.agg.injEq, Array.mk.injEq, List.cons.injEq, Value.int.injEq, true_and, and_true] at e1
        rw [e1.1, e1.2]
        exact .inr h0
    · rintro (h0 | h0)
      · exact .inl h0
      · exact .inr ⟨s, n, h, h0⟩
  | false =>
    have h := h2 rfl
    rw [Bool.eq_iff_iff, decide_eq_true_iff]
    simp only [Bool.false_and, Bool.or_false, decide_eq_true_iff]
    constructor
    · rintro (h0 | ⟨s', n', e, _⟩)
      · exact h0
      · rw [h] at e; cases e
    · exact .inl
theorem info_ends : (Try.prog.info? 70).map (·.size) = some 2 := by kernel_rfl
structure SawArg (t : ByteArray) (p st nx fr : Int) (l : List SB) : Prop where
  ht : t.size ≤ maxLen
  hp : (Lit.int .i64 p).wf = true
  hs : (Lit.int .i64 st).wf = true
  hn : (Lit.int .i64 nx).wf = true
  hf : (Lit.int .i64 fr).wf = true
  hl : l.length ≤ 140737488355328
  hw : ∀ b ∈ l, (Lit.int .i64 b.f0).wf = true ∧ (Lit.int .i64 b.f1).wf = true ∧ (Lit.int .i64 b.f2).wf = true ∧ (Lit.int .i64 b.f3).wf = true ∧ b.f4.length ≤ 140737488355328 ∧ ∀ r ∈ b.f4, (Lit.int .i64 r.f5).wf = true
set_option maxHeartbeats 8000000 in
set_option maxRecDepth 100000 in
theorem check_Log_Saw.calls (g : Nat) (E R S : Value → Option Value) (t : ByteArray) (p st nx fr : Int) (A : Option Addr) (c : Nat) (l : List SB) (w : World) (hL : LogP w g E R S) (hr : Kd.C k61 w A l.length l) (hc : l.length ≤ c) (ha : SawArg t p st nx fr l) :
    Calls Try.prog 11 #[.pointer (some ⟨g, 0, none⟩), .string t, .int .i64 p, .int .i64 st, .int .i64 nx, .int .i64 fr, .slice A l.length c] w fun e w' => e = .returned (.int .i64 (sawF t p st nx fr l E R S).1) ∧ LogP w' g (sawF t p st nx fr l E R S).2.1 (sawF t p st nx fr l E R S).2.2.1 (sawF t p st nx fr l E R S).2.2.2 ∧ w.grownBy w' (some g) := by
  have HLP := Aside0.mk hL
  obtain ⟨oE, oR, oS, hg, hE, hR, hS, sE, sR, sS⟩ := hL
  have HA := Aside0.mk ha
  have HG := Aside0.mk hg
  have HE := Aside0.mk (And.intro hE sE)
  have HR := Aside0.mk (And.intro hR sR)
  have HS := Aside0.mk (And.intro hS sS)
  have HC := Aside0.mk (And.intro hr hc)
  obtain ⟨lk, hlk⟩ : ∃ q_, keyOf Try.prog 68 (partV t p) = some q_ := keyE t p ha.ht ha.hp
  have HLK := Aside0.mk hlk
  obtain ⟨s, n, ok, hE1, hE2, hE3, hE4⟩ : ∃ s n ok, (E (partV t p)).getD (.agg #[.int .i64 0, .int .i64 0]) = .agg #[.int .i64 s, .int .i64 n] ∧ (E (partV t p)).isSome = ok ∧ (ok = true → E (partV t p) = some (endsV s n)) ∧ (ok = false → E (partV t p) = none) := by
    cases hq : E (partV t p) with
    | none => exact ⟨0, 0, false, rfl, rfl, (fun h => nomatch h), fun _ => rfl⟩
    | some v =>
      obtain ⟨_, v0, v1, rfl⟩ := sE _ _ hq
      exact ⟨v0, v1, true, rfl, rfl, (fun _ => rfl), fun h => nomatch h⟩
  have HLU := Aside0.mk (show ∀ W : World, Below w.heap.size w W → (Instr.lookup 55 (.map oE) (.agg #[.string t, .int .i64 p]) true).run Try.prog W = .ok (.tuple #[.agg #[.int .i64 s, .int .i64 n], .bool ok]) W from fun W hW => by have h_ := mapO_look (P := Try.prog) lawE Try.underlying55 (z := .agg #[.int .i64 0, .int .i64 0]) (w := W) (by kernel_rfl) (hE.below hW) hlk; rw [hE1, hE2] at h_; exact h_)
  have HS1 := Aside0.mk (saw1_of (st := st) (nx := nx) hE3 hE4)
  have HGL := Aside0.mk (blk_lt hg)
  clear hE hR hS sE sR sS hg ha hr hc hlk hE1 hE2 hE3 hE4
  go_enter Try.func11, Try.ntmps11
  go_upto_region 4 with fail
  (try simp only [Act.put, List.setIfInBounds_toArray, List.set_cons_zero, List.set_cons_succ])
  have B0 := Aside0.mk (show Below w.heap.size w (w.alloc (.cells #[.string t, .int .i64 p] 68)).drew ∧ (w.alloc (.cells #[.string t, .int .i64 p] 68)).drew.heap[w.heap.size]? = some (.cells #[.string t, .int .i64 p] 68 (0, 0)) from ⟨below_drew1 (bel1 w _), heap_alloc_new w _⟩)
  refine start_ (n := 12) (S := fun w' => Below (w.alloc (.cells #[.string t, .int .i64 p] 68)).drew.heap.size (w.alloc (.cells #[.string t, .int .i64 p] 68)).drew w') (ds := []) #[false, false, false, false, false, false, false, false, false, false, false, false] (by kernel_rfl) rfl rfl (Below.refl _ _) (fun hHeld => ?_)
  generalize (w.alloc (.cells #[.string t, .int .i64 p] 68)).drew = wd at B0 hHeld ⊢
  refine pure_ (i := 0) (N := (some 26)) (v := ?_) (a' := ?_) #[true, false, false, false, false, false, false, false, false, false, false, false] rfl rfl (by kernel_rfl) (fun _ _ _ h => h) (Or.inl ⟨by rfl, ?_⟩) ?_ ?_
  rotate_left
  · intro w'
    go_simp
    with_reducible rfl
  rotate_left
  · simp only [Act.put, List.setIfInBounds_toArray, List.set_cons_zero, List.set_cons_succ, i64_w, i32_w]
    rfl
  refine pure_ (i := 1) (N := (some 27)) (v := ?_) (a' := ?_) #[true, true, false, false, false, false, false, false, false, false, false, false] rfl rfl (by kernel_rfl) (fun _ _ _ h => h) (Or.inl ⟨by rfl, ?_⟩) ?_ ?_
  rotate_left
  · intro w'
    go_simp
    with_reducible rfl
  rotate_left
  · simp only [Act.put, List.setIfInBounds_toArray, List.set_cons_zero, List.set_cons_succ, i64_w, i32_w]
    rfl
  refine pure_ (i := 2) (N := (some 28)) (v := ?_) (a' := ?_) #[true, true, true, false, false, false, false, false, false, false, false, false] rfl rfl (by kernel_rfl) (fun _ _ _ h => h) (Or.inl ⟨by rfl, ?_⟩) ?_ ?_
  rotate_left
  · intro w'
    go_simp
    with_reducible rfl
  rotate_left
  · simp only [Act.put, List.setIfInBounds_toArray, List.set_cons_zero, List.set_cons_succ, i64_w, i32_w]
    rfl
  refine take_ (i := 3) (N := (some 29)) (v := ?_) (a' := ?_) #[true, true, true, true, false, false, false, false, false, false, false, false] rfl rfl (by kernel_rfl) (fun _ _ _ h => h) (Or.inl ⟨by rfl, ?_⟩) hHeld ?_ ?_
  rotate_left
  · rintro w' s0
    have c0_ := pw_cell_below s0 (show wd.cell? ⟨g, 0, none⟩ = some (.map oE) from (blk_cell (blk_below HG.out B0.out.1) 0).trans rfl)
    go_simp
    with_reducible rfl
  rotate_left
  · simp only [Act.put, List.setIfInBounds_toArray, List.set_cons_zero, List.set_cons_succ, i64_w, i32_w]
    rfl
  refine take_ (i := 4) (N := (some 30)) (v := ?_) (a' := ?_) #[true, true, true, true, true, false, false, false, false, false, false, false] rfl rfl (by kernel_rfl) (fun _ _ _ h => h) (Or.inl ⟨by rfl, ?_⟩) hHeld ?_ ?_
  rotate_left
  · rintro w' s0
    have c0_ := pw_cell_below s0 (show wd.cell? ⟨w.heap.size, 0, none⟩ = some (.string t) from (blk_cell B0.out.2 0).trans rfl)
    have c1_ := pw_cell_below s0 (show wd.cell? ⟨w.heap.size, 1, none⟩ = some (.int .i64 p) from (blk_cell B0.out.2 1).trans rfl)
    go_simp
    with_reducible rfl
  rotate_left
  · simp only [Act.put, List.setIfInBounds_toArray, List.set_cons_zero, List.set_cons_succ, i64_w, i32_w]
    rfl
  refine take_ (i := 5) (N := (some 31)) (v := ?_) (a' := ?_) #[true, true, true, true, true, true, false, false, false, false, false, false] rfl rfl (by kernel_rfl) (fun _ _ _ h => h) (Or.inl ⟨by rfl, ?_⟩) hHeld ?_ ?_
  rotate_left
  · rintro w' s0
    have hl_ := HLU.out w' (below_step B0.out.1 s0)
    simp [execOp, Act.eval, hl_, Result.andThen]
    with_reducible rfl
  rotate_left
  · simp only [Act.put, List.setIfInBounds_toArray, List.set_cons_zero, List.set_cons_succ, i64_w, i32_w]
    rfl
  refine pure_ (i := 6) (N := (some 25)) (v := ?_) (a' := ?_) #[true, true, true, true, true, true, true, false, false, false, false, false] rfl rfl (by kernel_rfl) (fun _ _ _ h => h) (Or.inl ⟨by rfl, ?_⟩) ?_ ?_
  rotate_left
  · intro w'
    go_simp
    with_reducible rfl
  rotate_left
  · simp only [Act.put, List.setIfInBounds_toArray, List.set_cons_zero, List.set_cons_succ, i64_w, i32_w]
    rfl
  refine pure_ (i := 7) (N := (some 32)) (v := ?_) (a' := ?_) #[true, true, true, true, true, true, true, true, false, false, false, false] rfl rfl (by kernel_rfl) (fun _ _ _ h => h) (Or.inl ⟨by rfl, ?_⟩) ?_ ?_
  rotate_left
  · intro w'
    go_simp
    with_reducible rfl
  rotate_left
  · simp only [Act.put, List.setIfInBounds_toArray, List.set_cons_zero, List.set_cons_succ, i64_w, i32_w]
    rfl
  refine pure_ (i := 8) (N := (some 33)) (v := ?_) (a' := ?_) #[true, true, true, true, true, true, true, true, true, false, false, false] rfl rfl (by kernel_rfl) (fun _ _ _ h => h) (Or.inl ⟨by rfl, ?_⟩) ?_ ?_
  rotate_left
  · intro w'
    go_simp
    with_reducible rfl
  rotate_left
  · simp only [Act.put, List.setIfInBounds_toArray, List.set_cons_zero, List.set_cons_succ, i64_w, i32_w]
    rfl
  refine one_ (i := 9) (N := (some 16)) #[true, true, true, true, true, true, true, true, true, true, false, false] rfl rfl (by kernel_rfl) (by decide) (fun K hK => ?_)
  refine value_ (w1 := wd.alloc (.cells #[.int .i64 0, .int .i64 0] 70)) (v := .pointer (some ⟨wd.heap.size, 0, none⟩)) (by rfl) rfl ?_ ?_
  · go_simp
    try rfl
  refine hK.out _ _ (below_alloc hHeld _) (fun hHeld => ?_)
  clear hK K
  refine norm_ (a' := ?_) ?_ ?_
  rotate_left
  · show Act.put _ (some 16) _ = _
    simp only [Act.put, List.setIfInBounds_toArray, List.set_cons_zero, List.set_cons_succ, i64_w, i32_w]
    rfl
  refine one_ (i := 10) (N := none) #[true, true, true, true, true, true, true, true, true, true, true, false] rfl rfl (by kernel_rfl) (by decide) (fun K hK => ?_)
  refine store_step (by rfl) rfl 70 (.tmp 16) (.tmp 32) rfl wd.heap.size #[.int .i64 s, .int .i64 n] rfl rfl 70 #[.int .i64 0, .int .i64 0] (heap_alloc_new wd _) info_ends rfl (by rw [← Array.all_toList]; rfl) ?_
  refine hK.out _ _ (below_row (below_alloc (Below.refl wd.heap.size wd) _) (Nat.le_refl _) _) (fun hHeld => ?_)
  clear hK K
  refine pure_ (i := 11) (N := (some 17)) (v := ?_) (a' := ?_) #[true, true, true, true, true, true, true, true, true, true, true, true] rfl rfl (by kernel_rfl) (fun _ _ _ h => h) (Or.inl ⟨by rfl, ?_⟩) ?_ ?_
  rotate_left
  · intro w'
    go_simp
    with_reducible rfl
  rotate_left
  · simp only [Act.put, List.setIfInBounds_toArray, List.set_cons_zero, List.set_cons_succ, i64_w, i32_w]
    rfl
  refine done_ (by kernel_rfl) ?_
  clear hHeld
  have B1 := Aside0.mk (show Below w.heap.size w ((wd.alloc (.cells #[.int .i64 0, .int .i64 0] 70)).setRow wd.heap.size #[.int .i64 s, .int .i64 n]) ∧ ((wd.alloc (.cells #[.int .i64 0, .int .i64 0] 70)).setRow wd.heap.size #[.int .i64 s, .int .i64 n]).heap[w.heap.size]? = some (.cells #[.string t, .int .i64 p] 68 (0, 0)) ∧ ((wd.alloc (.cells #[.int .i64 0, .int .i64 0] 70)).setRow wd.heap.size #[.int .i64 s, .int .i64 n]).heap[wd.heap.size]? = some (.cells #[.int .i64 s, .int .i64 n] 70 (0, 0)) from ⟨below_step B0.out.1 (below_row (below_alloc (Below.refl wd.heap.size wd) _) (Nat.le_refl _) _), blk_below B0.out.2 (below_row (below_alloc (Below.refl wd.heap.size wd) _) (Nat.le_refl _) _), setRow_heap _ _ _ _ _ _ (heap_alloc_new wd _)⟩)
  have HQ := Aside0.mk (show w.heap.size < wd.heap.size from blk_lt B0.out.2)
  clear B0 HLU
  generalize (wd.alloc (.cells #[.int .i64 0, .int .i64 0] 70)).setRow wd.heap.size #[.int .i64 s, .int .i64 n] = w2 at B1 ⊢
  obtain ⟨ge, hge⟩ : ∃ ge, ge = wd.heap.size := ⟨_, rfl⟩
  rw [← hge] at B1 HQ ⊢
  clear hge
  go_upto_region 5 with fail
  (try simp only [Act.put, List.setIfInBounds_toArray, List.set_cons_zero, List.set_cons_succ])
  have B2 := Aside0.mk (show Below w.heap.size w w2.drew ∧ w2.drew.heap[w.heap.size]? = some (.cells #[.string t, .int .i64 p] 68 (0, 0)) ∧ w2.drew.heap[ge]? = some (.cells #[.int .i64 s, .int .i64 n] 70 (0, 0)) from ⟨below_drew1 B1.out.1, B1.out.2⟩)
  refine start_ (n := 12) (S := fun w' => Below w2.drew.heap.size w2.drew w') (ds := []) #[false, false, false, false, false, false, false, false, false, false, false, false] (by kernel_rfl) rfl rfl (Below.refl _ _) (fun hHeld => ?_)
  clear B1
  generalize w2.drew = w3 at B2 hHeld ⊢
  refine pure_ (i := 0) (N := (some 34)) (v := ?_) (a' := ?_) #[true, false, false, false, false, false, false, false, false, false, false, false] rfl rfl (by kernel_rfl) (fun _ _ _ h => h) (Or.inl ⟨by rfl, ?_⟩) ?_ ?_
  rotate_left
  · intro w'
    go_simp
    with_reducible rfl
  rotate_left
  · simp only [Act.put, List.setIfInBounds_toArray, List.set_cons_zero, List.set_cons_succ, i64_w, i32_w]
    rfl
  refine pure_ (i := 1) (N := (some 35)) (v := ?_) (a' := ?_) #[true, true, false, false, false, false, false, false, false, false, false, false] rfl rfl (by kernel_rfl) (fun _ _ _ h => h) (Or.inl ⟨by rfl, ?_⟩) ?_ ?_
  rotate_left
  · intro w'
    go_simp
    with_reducible rfl
  rotate_left
  · simp only [Act.put, List.setIfInBounds_toArray, List.set_cons_zero, List.set_cons_succ, i64_w, i32_w]
    rfl
  refine pure_ (i := 2) (N := (some 36)) (v := ?_) (a' := ?_) #[true, true, true, false, false, false, false, false, false, false, false, false] rfl rfl (by kernel_rfl) (fun _ _ _ h => h) (Or.inl ⟨by rfl, ?_⟩) ?_ ?_
  rotate_left
  · intro w'
    go_simp
    with_reducible rfl
  rotate_left
  · simp only [Act.put, List.setIfInBounds_toArray, List.set_cons_zero, List.set_cons_succ, i64_w, i32_w]
    rfl
  refine pure_ (i := 5) (N := (some 39)) (v := ?_) (a' := ?_) #[true, true, true, false, false, true, false, false, false, false, false, false] rfl rfl (by kernel_rfl) (fun _ _ _ h => h) (Or.inl ⟨by rfl, ?_⟩) ?_ ?_
  rotate_left
  · intro w'
    go_simp
    with_reducible rfl
  rotate_left
  · simp only [Act.put, List.setIfInBounds_toArray, List.set_cons_zero, List.set_cons_succ, i64_w, i32_w]
    rfl
  refine pure_ (i := 6) (N := (some 40)) (v := ?_) (a' := ?_) #[true, true, true, false, false, true, true, false, false, false, false, false] rfl rfl (by kernel_rfl) (fun _ _ _ h => h) (Or.inl ⟨by rfl, ?_⟩) ?_ ?_
  rotate_left
  · intro w'
    go_simp
    with_reducible rfl
  rotate_left
  · simp only [Act.put, List.setIfInBounds_toArray, List.set_cons_zero, List.set_cons_succ, i64_w, i32_w]
    rfl
  refine pure_ (i := 7) (N := (some 41)) (v := ?_) (a' := ?_) #[true, true, true, false, false, true, true, true, false, false, false, false] rfl rfl (by kernel_rfl) (fun _ _ _ h => h) (Or.inl ⟨by rfl, ?_⟩) ?_ ?_
  rotate_left
  · intro w'
    go_simp
    with_reducible rfl
  rotate_left
  · simp only [Act.put, List.setIfInBounds_toArray, List.set_cons_zero, List.set_cons_succ, i64_w, i32_w]
    rfl
  refine take_ (i := 3) (N := (some 37)) (v := ?_) (a' := ?_) #[true, true, true, true, false, true, true, true, false, false, false, false] rfl rfl (by kernel_rfl) (fun _ _ _ h => h) (Or.inl ⟨by rfl, ?_⟩) hHeld ?_ ?_
  rotate_left
  · rintro w' s0
    have c0_ := pw_cell_below s0 (show w3.cell? ⟨g, 1, none⟩ = some (.map oR) from (blk_cell (blk_below HG.out B2.out.1) 1).trans rfl)
    go_simp
    with_reducible rfl
  rotate_left
  · simp only [Act.put, List.setIfInBounds_toArray, List.set_cons_zero, List.set_cons_succ, i64_w, i32_w]
    rfl
  refine take_ (i := 8) (N := (some 42)) (v := ?_) (a' := ?_) #[true, true, true, true, false, true, true, true, true, false, false, false] rfl rfl (by kernel_rfl) (fun _ _ _ h => h) (Or.inl ⟨by rfl, ?_⟩) hHeld ?_ ?_
  rotate_left
  · rintro w' s0
    have c0_ := pw_cell_below s0 (show w3.cell? ⟨g, 2, none⟩ = some (.map oS) from (blk_cell (blk_below HG.out B2.out.1) 2).trans rfl)
    go_simp
    with_reducible rfl
  rotate_left
  · simp only [Act.put, List.setIfInBounds_toArray, List.set_cons_zero, List.set_cons_succ, i64_w, i32_w]
    rfl
  refine one_ (i := 4) (N := (some 38)) #[true, true, true, true, true, true, true, true, true, false, false, false] rfl rfl (by kernel_rfl) (by decide) (fun K hK => ?_)
  refine goes_ Try.func25 (by kernel_rfl) rfl #[.map oR] (by rfl) rfl rfl (by (try simp only [List.map_toArray, List.map_cons, List.map_nil]); first | done | rfl) ?_
  refine (ownR.calls oR R w3 (HR.out.1.below B2.out.1) HR.out.2).mono ?_
  rintro e w4 ⟨m1, rfl, hm1, hv1, hb1⟩
  refine ⟨_, rfl, ?_⟩
  refine hK.out _ _ (below_step hHeld hb1) (fun hHeld => ?_)
  clear hK K
  refine norm_ (a' := ?_) ?_ ?_
  rotate_left
  · show Act.put _ (some 38) _ = _
    simp only [Act.put, List.setIfInBounds_toArray, List.set_cons_zero, List.set_cons_succ, i64_w, i32_w]
    rfl
  refine one_ (i := 9) (N := (some 43)) #[true, true, true, true, true, true, true, true, true, true, false, false] rfl rfl (by kernel_rfl) (by decide) (fun K hK => ?_)
  refine goes_ Try.func26 (by kernel_rfl) rfl #[.map oS] (by rfl) rfl rfl (by (try simp only [List.map_toArray, List.map_cons, List.map_nil]); first | done | rfl) ?_
  refine (ownS.calls oS S w4 (HS.out.1.below (below_step B2.out.1 hb1)) HS.out.2).mono ?_
  rintro e w5 ⟨m2, rfl, hm2, hv2, hb2⟩
  refine ⟨_, rfl, ?_⟩
  refine hK.out _ _ (below_step (below_step (Below.refl w3.heap.size w3) hb1) hb2) (fun hHeld => ?_)
  clear hK K
  refine norm_ (a' := ?_) ?_ ?_
  rotate_left
  · show Act.put _ (some 43) _ = _
    simp only [Act.put, List.setIfInBounds_toArray, List.set_cons_zero, List.set_cons_succ, i64_w, i32_w]
    rfl
  refine pure_ (i := 10) (N := (some 18)) (v := ?_) (a' := ?_) #[true, true, true, true, true, true, true, true, true, true, true, false] rfl rfl (by kernel_rfl) (fun _ _ _ h => h) (Or.inl ⟨by rfl, ?_⟩) ?_ ?_
  rotate_left
  · intro w'
    go_simp
    with_reducible rfl
  rotate_left
  · simp only [Act.put, List.setIfInBounds_toArray, List.set_cons_zero, List.set_cons_succ, i64_w, i32_w]
    rfl
  refine pure_ (i := 11) (N := (some 19)) (v := ?_) (a' := ?_) #[true, true, true, true, true, true, true, true, true, true, true, true] rfl rfl (by kernel_rfl) (fun _ _ _ h => h) (Or.inl ⟨by rfl, ?_⟩) ?_ ?_
  rotate_left
  · intro w'
    go_simp
    with_reducible rfl
  rotate_left
  · simp only [Act.put, List.setIfInBounds_toArray, List.set_cons_zero, List.set_cons_succ, i64_w, i32_w]
    rfl
  refine done_ (by kernel_rfl) ?_
  clear hHeld
  have B3 := Aside0.mk (show Below w.heap.size w w5 ∧ w5.heap[w.heap.size]? = some (.cells #[.string t, .int .i64 p] 68 (0, 0)) ∧ w5.heap[ge]? = some (.cells #[.int .i64 s, .int .i64 n] 70 (0, 0)) from ⟨below_step (below_step B2.out.1 hb1) hb2, blk_below (blk_below B2.out.2.1 hb1) hb2, blk_below (blk_below B2.out.2.2 hb1) hb2⟩)
  have M1 := Aside0.mk (show w.heap.size ≤ m1 ∧ w.heap.size ≤ m2 ∧ m1 ≠ m2 ∧ w.heap.size ≠ m1 ∧ w.heap.size ≠ m2 from by have h1_ := hv1.lt; have h2_ := B2.out.1.size; have h3_ := hb1.size; have h4_ := blk_lt B2.out.2.1; omega)
  have V1 := Aside0.mk (MapV.below hv1 hb2)
  have V2 := Aside0.mk hv2
  clear B2 hm1 hv1 hb1 hm2 hv2 hb2
  by_cases c1 : nx < st
  case pos =>
    have d1 : decide (nx < st) = true := decide_eq_true c1
    have HB1 := Aside0.mk (show saw1 t p st nx E = true from by rw [HS1.out, d1]; rfl)
    have HF := Aside0.mk (show sawF t p st nx fr l E R S = (1, E, R, S) from if_pos HB1.out)
    go_wp2_with fail
    go_ret
    exact ⟨by rw [HF.out]; rfl, by rw [HF.out]; exact HLP.out.below B3.out.1, below_grown B3.out.1 g⟩
  case neg =>
    have d1 : decide (nx < st) = false := decide_eq_false c1
    have t0 := (blk_cell B3.out.2.2 0).trans rfl
    have t1 := (blk_cell B3.out.2.2 1).trans rfl
    cases ok with
    | false =>
      have HB1 := Aside0.mk (show saw1 t p st nx E = false from by rw [HS1.out, d1]; rfl)
      clear c1
      go_wp2_with fail
      refine (check_misplaced.calls _ st nx fr A c l _ _ (Kd.C_below HC.out.1 B3.out.1) HC.out.2 (mis_f st nx fr l HA.out.hs HA.out.hn HA.out.hf HA.out.hl (fun b_ hb_ => ⟨(HA.out.hw b_ hb_).1, (HA.out.hw b_ hb_).2.1⟩))).mono ?_
      rintro e w6 ⟨rfl, hb6⟩
      have B4 := Aside0.mk (show Below w.heap.size w w6 ∧ w6.heap[w.heap.size]? = some (.cells #[.string t, .int .i64 p] 68 (0, 0)) ∧ w6.heap[ge]? = some (.cells #[.int .i64 s, .int .i64 n] 70 (0, 0)) from ⟨below_step B3.out.1 hb6, blk_below B3.out.2.1 hb6, blk_below B3.out.2.2 hb6⟩)
      have V3 := Aside0.mk (V1.out.below hb6)
      have V4 := Aside0.mk (V2.out.below hb6)
      clear B3 V1 V2 hb6
      cases hmis : misL st nx fr none l with
      | true =>
        have HF := Aside0.mk (show sawF t p st nx fr l E R S = (2, E, R, S) from by unfold sawF; rw [if_neg (by rw [HB1.out]; decide), if_pos hmis])
        clear hmis
        go_wp2_with fail
        go_ret
        exact ⟨by rw [HF.out]; rfl, by rw [HF.out]; exact HLP.out.below B4.out.1, below_grown B4.out.1 g⟩
      | false =>
        have HM2 := Aside0.mk hmis
        clear hmis
        have t0 := (blk_cell B4.out.2.1 0).trans rfl
        have t1 := (blk_cell B4.out.2.1 1).trans rfl
        go_wp2_with fail
        refine (check_changed.calls m1 R t p A c l w w6 V3.out HR.out.2 HC.out.1 B4.out.1 M1.out.1 HA.out.ht HA.out.hp HA.out.hl (fun b_ hb_ => ⟨(HA.out.hw b_ hb_).1, (HA.out.hw b_ hb_).2.2.2.2⟩)).mono ?_
        rintro e w7 ⟨hg7, h7⟩
        clear t0 t1
        have B5 := Aside0.mk (show Below w.heap.size w w7 ∧ w7.heap[w.heap.size]? = some (.cells #[.string t, .int .i64 p] 68 (0, 0)) from ⟨chg_old B4.out.1 M1.out.1 hg7, (hg7.block _ (blk_lt B4.out.2.1) (fun e_ => M1.out.2.2.2.1 (Option.some.inj e_))).trans B4.out.2.1⟩)
        have V5 := Aside0.mk (V4.out.move (hg7.block m2 V4.out.lt (fun e_ => M1.out.2.2.1 (Option.some.inj e_).symm)))
        clear B4 V3 V4 hg7
        rcases h7 with ⟨hc7, rfl⟩ | ⟨R2, hc7, sR2, rfl, hv7⟩
        · have HF := Aside0.mk (show sawF t p st nx fr l E R S = (3, E, R, S) from by unfold sawF; rw [if_neg (by rw [HB1.out]; decide), if_neg (by rw [HM2.out]; decide), hc7])
          clear hc7
          go_wp2_with fail
          go_ret
          exact ⟨by rw [HF.out]; rfl, by rw [HF.out]; exact HLP.out.below B5.out.1, below_grown B5.out.1 g⟩
        have V6 := Aside0.mk (And.intro hv7 sR2)
        have HC7 := Aside0.mk hc7
        clear hc7 hv7 sR2
        have t0 := (blk_cell B5.out.2 0).trans rfl
        have t1 := (blk_cell B5.out.2 1).trans rfl
        go_wp2_with fail
        refine (check_again.calls m2 S t p A c l w w7 V5.out HS.out.2 HC.out.1 B5.out.1 M1.out.2.1 HA.out.ht HA.out.hp HA.out.hl (fun b_ hb_ => ⟨(HA.out.hw b_ hb_).2.2.1, (HA.out.hw b_ hb_).2.2.2.1⟩)).mono ?_
        rintro e w8 ⟨hg8, h8⟩
        clear t0 t1
        have B6 := Aside0.mk (show Below w.heap.size w w8 ∧ w8.heap[w.heap.size]? = some (.cells #[.string t, .int .i64 p] 68 (0, 0)) from ⟨chg_old B5.out.1 M1.out.2.1 hg8, (hg8.block _ (blk_lt B5.out.2) (fun e_ => M1.out.2.2.2.2 (Option.some.inj e_))).trans B5.out.2⟩)
        have V7 := Aside0.mk (V6.out.1.move (hg8.block m1 V6.out.1.lt (fun e_ => M1.out.2.2.1 (Option.some.inj e_))))
        have SR2 := Aside0.mk V6.out.2
        clear B5 V5 V6 hg8
        rcases h8 with ⟨hc8, rfl⟩ | ⟨S2, hc8, sS2, rfl, hv8⟩
        · have HF := Aside0.mk (show sawF t p st nx fr l E R S = (4, E, R, S) from by unfold sawF; rw [if_neg (by rw [HB1.out]; decide), if_neg (by rw [HM2.out]; decide), HC7.out]; dsimp only; rw [hc8])
          clear hc8
          go_wp2_with fail
          go_ret
          exact ⟨by rw [HF.out]; rfl, by rw [HF.out]; exact HLP.out.below B6.out.1, below_grown B6.out.1 g⟩
        have V8 := Aside0.mk (And.intro hv8 sS2)
        have HF := Aside0.mk (show sawF t p st nx fr l E R S = (0, upd E (partV t p) (endsV st nx), R2, S2) from by unfold sawF; rw [if_neg (by rw [HB1.out]; decide), if_neg (by rw [HM2.out]; decide), HC7.out]; dsimp only; rw [hc8])
        clear hc8 hv8 sS2
        have g0 := (blk_cell (blk_below HG.out B6.out.1) 0).trans rfl
        go_wp2_with fail
        refine (ownE.calls oE E w8 (HE.out.1.below B6.out.1) HE.out.2).mono ?_
        rintro e w9 ⟨m3, rfl, hm3, hv9, hb9⟩
        clear g0
        have B7 := Aside0.mk (show Below w.heap.size w w9 ∧ w9.heap[w.heap.size]? = some (.cells #[.string t, .int .i64 p] 68 (0, 0)) ∧ w9.heap[g]? = some (.cells #[.map oE, .map oR, .map oS] 59 (0, 0)) from ⟨below_step B6.out.1 hb9, blk_below B6.out.2 hb9, blk_below (blk_below HG.out B6.out.1) hb9⟩)
        have M3 := Aside0.mk (show w.heap.size ≤ m3 ∧ m3 ≠ m1 ∧ m3 ≠ m2 ∧ w.heap.size ≠ m3 ∧ g ≠ m3 from by have h1_ := V7.out.lt; have h2_ := V8.out.1.lt; have h3_ := blk_lt B6.out.2; have h4_ := B6.out.1.size; have h5_ := HGL.out; omega)
        have VE := Aside0.mk hv9
        have VR := Aside0.mk (V7.out.below hb9)
        have VS := Aside0.mk (V8.out.1.below hb9)
        clear B6 V7 hm3 hv9 hb9
        have g0 := (blk_cell B7.out.2.2 0).trans rfl
        have z0 := blk_frozen B7.out.2.2 0
        go_upto_region 16 with fail
        (try simp only [Act.put, List.setIfInBounds_toArray, List.set_cons_zero, List.set_cons_succ])
        have C1 := Aside0.mk (show w.grownBy (w9.setCell ⟨g, 0, none⟩ (.map (some m3))) (some g) ∧ (w9.setCell ⟨g, 0, none⟩ (.map (some m3))).heap[w.heap.size]? = some (.cells #[.string t, .int .i64 p] 68 (0, 0)) ∧ (w9.setCell ⟨g, 0, none⟩ (.map (some m3))).heap[g]? = some (.cells #[.map (some m3), .map oR, .map oS] 59 (0, 0)) from ⟨grown_set (below_grown B7.out.1 g) 0 _, blk_far B7.out.2.1 (fun e_ => by have := HGL.out; have e2_ : w.heap.size = g := e_; omega) _, by simpa using blk_set B7.out.2.2 0 (.map (some m3))⟩)
        have VE2 := Aside0.mk (VE.out.move (show (w9.setCell ⟨g, 0, none⟩ (.map (some m3))).heap[m3]? = w9.heap[m3]? from Below.heap_setCell w9 ⟨g, 0, none⟩ _ m3 (fun e_ => M3.out.2.2.2.2 e_.symm)))
        have VR2 := Aside0.mk (VR.out.move (show (w9.setCell ⟨g, 0, none⟩ (.map (some m3))).heap[m1]? = w9.heap[m1]? from Below.heap_setCell w9 ⟨g, 0, none⟩ _ m1 (fun e_ => by have := M1.out; have := HGL.out; have e2_ : m1 = g := e_; omega)))
        have VS2 := Aside0.mk (VS.out.move (show (w9.setCell ⟨g, 0, none⟩ (.map (some m3))).heap[m2]? = w9.heap[m2]? from Below.heap_setCell w9 ⟨g, 0, none⟩ _ m2 (fun e_ => by have := M1.out; have := HGL.out; have e2_ : m2 = g := e_; omega)))
        clear g0 z0 B7 VE VR VS
        generalize w9.setCell ⟨g, 0, none⟩ (.map (some m3)) = wa at C1 VE2 VR2 VS2 ⊢
        refine start_ (n := 9) (S := fun w' => Below wa.drew.heap.size wa.drew w') (ds := [8]) #[false, false, false, false, false, false, false, false, false] (by kernel_rfl) rfl rfl (Below.refl _ _) (fun hHeld => ?_)
        have C2 := Aside0.mk (show w.grownBy wa.drew (some g) ∧ wa.drew.heap[w.heap.size]? = some (.cells #[.string t, .int .i64 p] 68 (0, 0)) ∧ wa.drew.heap[g]? = some (.cells #[.map (some m3), .map oR, .map oS] 59 (0, 0)) from ⟨grown_below C1.out.1 (below_drew1 (Below.refl _ _)), C1.out.2⟩)
        have VE3 := Aside0.mk (VE2.out.move (show wa.drew.heap[m3]? = wa.heap[m3]? from rfl))
        have VR3 := Aside0.mk (VR2.out.move (show wa.drew.heap[m1]? = wa.heap[m1]? from rfl))
        have VS3 := Aside0.mk (VS2.out.move (show wa.drew.heap[m2]? = wa.heap[m2]? from rfl))
        clear C1 VE2 VR2 VS2
        generalize wa.drew = wb at C2 VE3 VR3 VS3 hHeld ⊢
        refine pure_ (i := 0) (N := (some 85)) (v := ?_) (a' := ?_) #[true, false, false, false, false, false, false, false, false] rfl rfl (by kernel_rfl) (fun _ _ _ h => h) (Or.inl ⟨by rfl, ?_⟩) ?_ ?_
        rotate_left
        · intro w'
          go_simp
          with_reducible rfl
        rotate_left
        · simp only [Act.put, List.setIfInBounds_toArray, List.set_cons_zero, List.set_cons_succ, i64_w, i32_w]
          rfl
        refine pure_ (i := 1) (N := (some 86)) (v := ?_) (a' := ?_) #[true, true, false, false, false, false, false, false, false] rfl rfl (by kernel_rfl) (fun _ _ _ h => h) (Or.inl ⟨by rfl, ?_⟩) ?_ ?_
        rotate_left
        · intro w'
          go_simp
          with_reducible rfl
        rotate_left
        · simp only [Act.put, List.setIfInBounds_toArray, List.set_cons_zero, List.set_cons_succ, i64_w, i32_w]
          rfl
        refine pure_ (i := 2) (N := (some 87)) (v := ?_) (a' := ?_) #[true, true, true, false, false, false, false, false, false] rfl rfl (by kernel_rfl) (fun _ _ _ h => h) (Or.inl ⟨by rfl, ?_⟩) ?_ ?_
        rotate_left
        · intro w'
          go_simp
          with_reducible rfl
        rotate_left
        · simp only [Act.put, List.setIfInBounds_toArray, List.set_cons_zero, List.set_cons_succ, i64_w, i32_w]
          rfl
        refine pure_ (i := 5) (N := (some 90)) (v := ?_) (a' := ?_) #[true, true, true, false, false, true, false, false, false] rfl rfl (by kernel_rfl) (fun _ _ _ h => h) (Or.inl ⟨by rfl, ?_⟩) ?_ ?_
        rotate_left
        · intro w'
          go_simp
          with_reducible rfl
        rotate_left
        · simp only [Act.put, List.setIfInBounds_toArray, List.set_cons_zero, List.set_cons_succ, i64_w, i32_w]
          rfl
        refine pure_ (i := 6) (N := (some 91)) (v := ?_) (a' := ?_) #[true, true, true, false, false, true, true, false, false] rfl rfl (by kernel_rfl) (fun _ _ _ h => h) (Or.inl ⟨by rfl, ?_⟩) ?_ ?_
        rotate_left
        · intro w'
          go_simp
          with_reducible rfl
        rotate_left
        · simp only [Act.put, List.setIfInBounds_toArray, List.set_cons_zero, List.set_cons_succ, i64_w, i32_w]
          rfl
        refine pure_ (i := 7) (N := (some 92)) (v := ?_) (a' := ?_) #[true, true, true, false, false, true, true, true, false] rfl rfl (by kernel_rfl) (fun _ _ _ h => h) (Or.inl ⟨by rfl, ?_⟩) ?_ ?_
        rotate_left
        · intro w'
          go_simp
          with_reducible rfl
        rotate_left
        · simp only [Act.put, List.setIfInBounds_toArray, List.set_cons_zero, List.set_cons_succ, i64_w, i32_w]
          rfl
        refine take_ (i := 3) (N := (some 88)) (v := ?_) (a' := ?_) #[true, true, true, true, false, true, true, true, false] rfl rfl (by kernel_rfl) (fun _ _ _ h => h) (Or.inl ⟨by rfl, ?_⟩) hHeld ?_ ?_
        rotate_left
        · rintro w' s0
          have c0_ := pw_cell_below s0 (show wb.cell? ⟨g, 0, none⟩ = some (.map (some m3)) from (blk_cell C2.out.2.2 0).trans rfl)
          go_simp
          with_reducible rfl
        rotate_left
        · simp only [Act.put, List.setIfInBounds_toArray, List.set_cons_zero, List.set_cons_succ, i64_w, i32_w]
          rfl
        refine take_ (i := 4) (N := (some 89)) (v := ?_) (a' := ?_) #[true, true, true, true, true, true, true, true, false] rfl rfl (by kernel_rfl) (fun _ _ _ h => h) (Or.inl ⟨by rfl, ?_⟩) hHeld ?_ ?_
        rotate_left
        · rintro w' s0
          have c0_ := pw_cell_below s0 (show wb.cell? ⟨w.heap.size, 0, none⟩ = some (.string t) from (blk_cell C2.out.2.1 0).trans rfl)
          have c1_ := pw_cell_below s0 (show wb.cell? ⟨w.heap.size, 1, none⟩ = some (.int .i64 p) from (blk_cell C2.out.2.1 1).trans rfl)
          go_simp
          with_reducible rfl
        rotate_left
        · simp only [Act.put, List.setIfInBounds_toArray, List.set_cons_zero, List.set_cons_succ, i64_w, i32_w]
          rfl
        refine last_ (i := 8) (N := none) #[true, true, true, true, true, true, true, true, true] rfl rfl (by kernel_rfl) (by decide) (fun K hK => ?_)
        obtain ⟨wc, hrunc, hmc, hgc, hzc⟩ := mapV_put lawE Try.underlying55 VE3.out (v := endsV st nx) HLK.out
        refine skip_ (w1 := wc) (by rfl) rfl ?_ ?_
        · have hrunc_ : (Instr.mapUpdate 55 (.map (some m3)) (.agg #[.string t, .int .i64 p]) (.agg #[.int .i64 st, .int .i64 nx])).run Try.prog wb = .ok () wc := hrunc
          simp [execOp, Act.eval, hrunc_, Result.andThen]
        refine hK.out _ _ ?_
        clear hK K
        refine done_ (by kernel_rfl) ?_
        have C3 := Aside0.mk (show w.grownBy wc (some g) ∧ wc.heap[g]? = some (.cells #[.map (some m3), .map oR, .map oS] 59 (0, 0)) from ⟨grown_new C2.out.1 hgc M3.out.1, (hgc.block g (blk_lt C2.out.2.2) (fun e_ => M3.out.2.2.2.2 (Option.some.inj e_))).trans C2.out.2.2⟩)
        have VE4 := Aside0.mk hmc
        have VR4 := Aside0.mk (VR3.out.move (hgc.block m1 VR3.out.lt (fun e_ => M3.out.2.1 (Option.some.inj e_).symm)))
        have VS4 := Aside0.mk (VS3.out.move (hgc.block m2 VS3.out.lt (fun e_ => M3.out.2.2.1 (Option.some.inj e_).symm)))
        clear C2 VE3 VR3 VS3 hrunc hmc hgc hzc
        have g1 := (blk_cell C3.out.2 1).trans rfl
        have g2 := (blk_cell C3.out.2 2).trans rfl
        have z1 := blk_frozen C3.out.2 1
        have z2 := blk_frozen C3.out.2 2
        have C4 := Aside0.mk (show w.grownBy ((wc.setCell ⟨g, 1, none⟩ (.map (some m1))).setCell ⟨g, 2, none⟩ (.map (some m2))) (some g) ∧ ((wc.setCell ⟨g, 1, none⟩ (.map (some m1))).setCell ⟨g, 2, none⟩ (.map (some m2))).heap[g]? = some (.cells #[.map (some m3), .map (some m1), .map (some m2)] 59 (0, 0)) from ⟨grown_set (grown_set C3.out.1 1 _) 2 _, by simpa using blk_set (show (wc.setCell ⟨g, 1, none⟩ (.map (some m1))).heap[g]? = some (.cells #[.map (some m3), .map (some m1), .map oS] 59 (0, 0)) from by simpa using blk_set C3.out.2 1 (.map (some m1))) 2 (.map (some m2))⟩)
        have VE5 := Aside0.mk (VE4.out.move (show ((wc.setCell ⟨g, 1, none⟩ (.map (some m1))).setCell ⟨g, 2, none⟩ (.map (some m2))).heap[m3]? = wc.heap[m3]? from (Below.heap_setCell _ ⟨g, 2, none⟩ _ m3 (fun e_ => M3.out.2.2.2.2 e_.symm)).trans (Below.heap_setCell wc ⟨g, 1, none⟩ _ m3 (fun e_ => M3.out.2.2.2.2 e_.symm))))
        have VR5 := Aside0.mk (VR4.out.move (show ((wc.setCell ⟨g, 1, none⟩ (.map (some m1))).setCell ⟨g, 2, none⟩ (.map (some m2))).heap[m1]? = wc.heap[m1]? from (Below.heap_setCell _ ⟨g, 2, none⟩ _ m1 (fun e_ => by have := M1.out; have := HGL.out; have e2_ : m1 = g := e_; omega)).trans (Below.heap_setCell wc ⟨g, 1, none⟩ _ m1 (fun e_ => by have := M1.out; have := HGL.out; have e2_ : m1 = g := e_; omega))))
        have VS5 := Aside0.mk (VS4.out.move (show ((wc.setCell ⟨g, 1, none⟩ (.map (some m1))).setCell ⟨g, 2, none⟩ (.map (some m2))).heap[m2]? = wc.heap[m2]? from (Below.heap_setCell _ ⟨g, 2, none⟩ _ m2 (fun e_ => by have := M1.out; have := HGL.out; have e2_ : m2 = g := e_; omega)).trans (Below.heap_setCell wc ⟨g, 1, none⟩ _ m2 (fun e_ => by have := M1.out; have := HGL.out; have e2_ : m2 = g := e_; omega))))
        clear C3 VE4 VR4 VS4
        go_wp2_with fail
        go_ret
        exact ⟨by rw [HF.out]; rfl, by rw [HF.out]; exact ⟨some m3, some m1, some m2, C4.out.2, VE5.out, VR5.out, VS5.out, ShE.upd HE.out.2 t p st nx HA.out.ht HA.out.hp, SR2.out, V8.out.2⟩, C4.out.1⟩
    | true =>
      by_cases c2 : st < s
      case pos =>
        have d2 : decide (st < s) = true := decide_eq_true c2
        have HB1 := Aside0.mk (show saw1 t p st nx E = true from by rw [HS1.out, d1, d2]; rfl)
        have HF := Aside0.mk (show sawF t p st nx fr l E R S = (1, E, R, S) from if_pos HB1.out)
        go_wp2_with fail
        go_ret
        exact ⟨by rw [HF.out]; rfl, by rw [HF.out]; exact HLP.out.below B3.out.1, below_grown B3.out.1 g⟩
      case neg =>
        have d2 : decide (st < s) = false := decide_eq_false c2
        by_cases c3 : nx < n
        case pos =>
          have d3 : decide (nx < n) = true := decide_eq_true c3
          have HB1 := Aside0.mk (show saw1 t p st nx E = true from by rw [HS1.out, d1, d2, d3]; rfl)
          have HF := Aside0.mk (show sawF t p st nx fr l E R S = (1, E, R, S) from if_pos HB1.out)
          go_wp2_with fail
          go_ret
          exact ⟨by rw [HF.out]; rfl, by rw [HF.out]; exact HLP.out.below B3.out.1, below_grown B3.out.1 g⟩
        case neg =>
          have d3 : decide (nx < n) = false := decide_eq_false c3
          have HB1 := Aside0.mk (show saw1 t p st nx E = false from by rw [HS1.out, d1, d2, d3]; rfl)
          clear c1 c2 c3
          go_wp2_with fail
          refine (check_misplaced.calls _ st nx fr A c l _ _ (Kd.C_below HC.out.1 B3.out.1) HC.out.2 (mis_f st nx fr l HA.out.hs HA.out.hn HA.out.hf HA.out.hl (fun b_ hb_ => ⟨(HA.out.hw b_ hb_).1, (HA.out.hw b_ hb_).2.1⟩))).mono ?_
          rintro e w6 ⟨rfl, hb6⟩
          have B4 := Aside0.mk (show Below w.heap.size w w6 ∧ w6.heap[w.heap.size]? = some (.cells #[.string t, .int .i64 p] 68 (0, 0)) ∧ w6.heap[ge]? = some (.cells #[.int .i64 s, .int .i64 n] 70 (0, 0)) from ⟨below_step B3.out.1 hb6, blk_below B3.out.2.1 hb6, blk_below B3.out.2.2 hb6⟩)
          have V3 := Aside0.mk (V1.out.below hb6)
          have V4 := Aside0.mk (V2.out.below hb6)
          clear B3 V1 V2 hb6
          cases hmis : misL st nx fr none l with
          | true =>
            have HF := Aside0.mk (show sawF t p st nx fr l E R S = (2, E, R, S) from by unfold sawF; rw [if_neg (by rw [HB1.out]; decide), if_pos hmis])
            clear hmis
            go_wp2_with fail
            go_ret
            exact ⟨by rw [HF.out]; rfl, by rw [HF.out]; exact HLP.out.below B4.out.1, below_grown B4.out.1 g⟩
          | false =>
            have HM2 := Aside0.mk hmis
            clear hmis
            have t0 := (blk_cell B4.out.2.1 0).trans rfl
            have t1 := (blk_cell B4.out.2.1 1).trans rfl
            go_wp2_with fail
            refine (check_changed.calls m1 R t p A c l w w6 V3.out HR.out.2 HC.out.1 B4.out.1 M1.out.1 HA.out.ht HA.out.hp HA.out.hl (fun b_ hb_ => ⟨(HA.out.hw b_ hb_).1, (HA.out.hw b_ hb_).2.2.2.2⟩)).mono ?_
            rintro e w7 ⟨hg7, h7⟩
            clear t0 t1
            have B5 := Aside0.mk (show Below w.heap.size w w7 ∧ w7.heap[w.heap.size]? = some (.cells #[.string t, .int .i64 p] 68 (0, 0)) from ⟨chg_old B4.out.1 M1.out.1 hg7, (hg7.block _ (blk_lt B4.out.2.1) (fun e_ => M1.out.2.2.2.1 (Option.some.inj e_))).trans B4.out.2.1⟩)
            have V5 := Aside0.mk (V4.out.move (hg7.block m2 V4.out.lt (fun e_ => M1.out.2.2.1 (Option.some.inj e_).symm)))
            clear B4 V3 V4 hg7
            rcases h7 with ⟨hc7, rfl⟩ | ⟨R2, hc7, sR2, rfl, hv7⟩
            · have HF := Aside0.mk (show sawF t p st nx fr l E R S = (3, E, R, S) from by unfold sawF; rw [if_neg (by rw [HB1.out]; decide), if_neg (by rw [HM2.out]; decide), hc7])
              clear hc7
              go_wp2_with fail
              go_ret
              exact ⟨by rw [HF.out]; rfl, by rw [HF.out]; exact HLP.out.below B5.out.1, below_grown B5.out.1 g⟩
            have V6 := Aside0.mk (And.intro hv7 sR2)
            have HC7 := Aside0.mk hc7
            clear hc7 hv7 sR2
            have t0 := (blk_cell B5.out.2 0).trans rfl
            have t1 := (blk_cell B5.out.2 1).trans rfl
            go_wp2_with fail
            refine (check_again.calls m2 S t p A c l w w7 V5.out HS.out.2 HC.out.1 B5.out.1 M1.out.2.1 HA.out.ht HA.out.hp HA.out.hl (fun b_ hb_ => ⟨(HA.out.hw b_ hb_).2.2.1, (HA.out.hw b_ hb_).2.2.2.1⟩)).mono ?_
            rintro e w8 ⟨hg8, h8⟩
            clear t0 t1
            have B6 := Aside0.mk (show Below w.heap.size w w8 ∧ w8.heap[w.heap.size]? = some (.cells #[.string t, .int .i64 p] 68 (0, 0)) from ⟨chg_old B5.out.1 M1.out.2.1 hg8, (hg8.block _ (blk_lt B5.out.2) (fun e_ => M1.out.2.2.2.2 (Option.some.inj e_))).trans B5.out.2⟩)
            have V7 := Aside0.mk (V6.out.1.move (hg8.block m1 V6.out.1.lt (fun e_ => M1.out.2.2.1 (Option.some.inj e_))))
            have SR2 := Aside0.mk V6.out.2
            clear B5 V5 V6 hg8
            rcases h8 with ⟨hc8, rfl⟩ | ⟨S2, hc8, sS2, rfl, hv8⟩
            · have HF := Aside0.mk (show sawF t p st nx fr l E R S = (4, E, R, S) from by unfold sawF; rw [if_neg (by rw [HB1.out]; decide), if_neg (by rw [HM2.out]; decide), HC7.out]; dsimp only; rw [hc8])
              clear hc8
              go_wp2_with fail
              go_ret
              exact ⟨by rw [HF.out]; rfl, by rw [HF.out]; exact HLP.out.below B6.out.1, below_grown B6.out.1 g⟩
            have V8 := Aside0.mk (And.intro hv8 sS2)
            have HF := Aside0.mk (show sawF t p st nx fr l E R S = (0, upd E (partV t p) (endsV st nx), R2, S2) from by unfold sawF; rw [if_neg (by rw [HB1.out]; decide), if_neg (by rw [HM2.out]; decide), HC7.out]; dsimp only; rw [hc8])
            clear hc8 hv8 sS2
            have g0 := (blk_cell (blk_below HG.out B6.out.1) 0).trans rfl
            go_wp2_with fail
            refine (ownE.calls oE E w8 (HE.out.1.below B6.out.1) HE.out.2).mono ?_
            rintro e w9 ⟨m3, rfl, hm3, hv9, hb9⟩
            clear g0
            have B7 := Aside0.mk (show Below w.heap.size w w9 ∧ w9.heap[w.heap.size]? = some (.cells #[.string t, .int .i64 p] 68 (0, 0)) ∧ w9.heap[g]? = some (.cells #[.map oE, .map oR, .map oS] 59 (0, 0)) from ⟨below_step B6.out.1 hb9, blk_below B6.out.2 hb9, blk_below (blk_below HG.out B6.out.1) hb9⟩)
            have M3 := Aside0.mk (show w.heap.size ≤ m3 ∧ m3 ≠ m1 ∧ m3 ≠ m2 ∧ w.heap.size ≠ m3 ∧ g ≠ m3 from by have h1_ := V7.out.lt; have h2_ := V8.out.1.lt; have h3_ := blk_lt B6.out.2; have h4_ := B6.out.1.size; have h5_ := HGL.out; omega)
            have VE := Aside0.mk hv9
            have VR := Aside0.mk (V7.out.below hb9)
            have VS := Aside0.mk (V8.out.1.below hb9)
            clear B6 V7 hm3 hv9 hb9
            have g0 := (blk_cell B7.out.2.2 0).trans rfl
            have z0 := blk_frozen B7.out.2.2 0
            go_upto_region 16 with fail
            (try simp only [Act.put, List.setIfInBounds_toArray, List.set_cons_zero, List.set_cons_succ])
            have C1 := Aside0.mk (show w.grownBy (w9.setCell ⟨g, 0, none⟩ (.map (some m3))) (some g) ∧ (w9.setCell ⟨g, 0, none⟩ (.map (some m3))).heap[w.heap.size]? = some (.cells #[.string t, .int .i64 p] 68 (0, 0)) ∧ (w9.setCell ⟨g, 0, none⟩ (.map (some m3))).heap[g]? = some (.cells #[.map (some m3), .map oR, .map oS] 59 (0, 0)) from ⟨grown_set (below_grown B7.out.1 g) 0 _, blk_far B7.out.2.1 (fun e_ => by have := HGL.out; have e2_ : w.heap.size = g := e_; omega) _, by simpa using blk_set B7.out.2.2 0 (.map (some m3))⟩)
            have VE2 := Aside0.mk (VE.out.move (show (w9.setCell ⟨g, 0, none⟩ (.map (some m3))).heap[m3]? = w9.heap[m3]? from Below.heap_setCell w9 ⟨g, 0, none⟩ _ m3 (fun e_ => M3.out.2.2.2.2 e_.symm)))
            have VR2 := Aside0.mk (VR.out.move (show (w9.setCell ⟨g, 0, none⟩ (.map (some m3))).heap[m1]? = w9.heap[m1]? from Below.heap_setCell w9 ⟨g, 0, none⟩ _ m1 (fun e_ => by have := M1.out; have := HGL.out; have e2_ : m1 = g := e_; omega)))
            have VS2 := Aside0.mk (VS.out.move (show (w9.setCell ⟨g, 0, none⟩ (.map (some m3))).heap[m2]? = w9.heap[m2]? from Below.heap_setCell w9 ⟨g, 0, none⟩ _ m2 (fun e_ => by have := M1.out; have := HGL.out; have e2_ : m2 = g := e_; omega)))
            clear g0 z0 B7 VE VR VS
            generalize w9.setCell ⟨g, 0, none⟩ (.map (some m3)) = wa at C1 VE2 VR2 VS2 ⊢
            refine start_ (n := 9) (S := fun w' => Below wa.drew.heap.size wa.drew w') (ds := [8]) #[false, false, false, false, false, false, false, false, false] (by kernel_rfl) rfl rfl (Below.refl _ _) (fun hHeld => ?_)
            have C2 := Aside0.mk (show w.grownBy wa.drew (some g) ∧ wa.drew.heap[w.heap.size]? = some (.cells #[.string t, .int .i64 p] 68 (0, 0)) ∧ wa.drew.heap[g]? = some (.cells #[.map (some m3), .map oR, .map oS] 59 (0, 0)) from ⟨grown_below C1.out.1 (below_drew1 (Below.refl _ _)), C1.out.2⟩)
            have VE3 := Aside0.mk (VE2.out.move (show wa.drew.heap[m3]? = wa.heap[m3]? from rfl))
            have VR3 := Aside0.mk (VR2.out.move (show wa.drew.heap[m1]? = wa.heap[m1]? from rfl))
            have VS3 := Aside0.mk (VS2.out.move (show wa.drew.heap[m2]? = wa.heap[m2]? from rfl))
            clear C1 VE2 VR2 VS2
            generalize wa.drew = wb at C2 VE3 VR3 VS3 hHeld ⊢
            refine pure_ (i := 0) (N := (some 85)) (v := ?_) (a' := ?_) #[true, false, false, false, false, false, false, false, false] rfl rfl (by kernel_rfl) (fun _ _ _ h => h) (Or.inl ⟨by rfl, ?_⟩) ?_ ?_
            rotate_left
            · intro w'
              go_simp
              with_reducible rfl
            rotate_left
            · simp only [Act.put, List.setIfInBounds_toArray, List.set_cons_zero, List.set_cons_succ, i64_w, i32_w]
              rfl
            refine pure_ (i := 1) (N := (some 86)) (v := ?_) (a' := ?_) #[true, true, false, false, false, false, false, false, false] rfl rfl (by kernel_rfl) (fun _ _ _ h => h) (Or.inl ⟨by rfl, ?_⟩) ?_ ?_
            rotate_left
            · intro w'
              go_simp
              with_reducible rfl
            rotate_left
            · simp only [Act.put, List.setIfInBounds_toArray, List.set_cons_zero, List.set_cons_succ, i64_w, i32_w]
              rfl
            refine pure_ (i := 2) (N := (some 87)) (v := ?_) (a' := ?_) #[true, true, true, false, false, false, false, false, false] rfl rfl (by kernel_rfl) (fun _ _ _ h => h) (Or.inl ⟨by rfl, ?_⟩) ?_ ?_
            rotate_left
            · intro w'
              go_simp
              with_reducible rfl
            rotate_left
            · simp only [Act.put, List.setIfInBounds_toArray, List.set_cons_zero, List.set_cons_succ, i64_w, i32_w]
              rfl
            refine pure_ (i := 5) (N := (some 90)) (v := ?_) (a' := ?_) #[true, true, true, false, false, true, false, false, false] rfl rfl (by kernel_rfl) (fun _ _ _ h => h) (Or.inl ⟨by rfl, ?_⟩) ?_ ?_
            rotate_left
            · intro w'
              go_simp
              with_reducible rfl
            rotate_left
            · simp only [Act.put, List.setIfInBounds_toArray, List.set_cons_zero, List.set_cons_succ, i64_w, i32_w]
              rfl
            refine pure_ (i := 6) (N := (some 91)) (v := ?_) (a' := ?_) #[true, true, true, false, false, true, true, false, false] rfl rfl (by kernel_rfl) (fun _ _ _ h => h) (Or.inl ⟨by rfl, ?_⟩) ?_ ?_
            rotate_left
            · intro w'
              go_simp
              with_reducible rfl
            rotate_left
            · simp only [Act.put, List.setIfInBounds_toArray, List.set_cons_zero, List.set_cons_succ, i64_w, i32_w]
              rfl
            refine pure_ (i := 7) (N := (some 92)) (v := ?_) (a' := ?_) #[true, true, true, false, false, true, true, true, false] rfl rfl (by kernel_rfl) (fun _ _ _ h => h) (Or.inl ⟨by rfl, ?_⟩) ?_ ?_
            rotate_left
            · intro w'
              go_simp
              with_reducible rfl
            rotate_left
            · simp only [Act.put, List.setIfInBounds_toArray, List.set_cons_zero, List.set_cons_succ, i64_w, i32_w]
              rfl
            refine take_ (i := 3) (N := (some 88)) (v := ?_) (a' := ?_) #[true, true, true, true, false, true, true, true, false] rfl rfl (by kernel_rfl) (fun _ _ _ h => h) (Or.inl ⟨by rfl, ?_⟩) hHeld ?_ ?_
            rotate_left
            · rintro w' s0
              have c0_ := pw_cell_below s0 (show wb.cell? ⟨g, 0, none⟩ = some (.map (some m3)) from (blk_cell C2.out.2.2 0).trans rfl)
              go_simp
              with_reducible rfl
            rotate_left
            · simp only [Act.put, List.setIfInBounds_toArray, List.set_cons_zero, List.set_cons_succ, i64_w, i32_w]
              rfl
            refine take_ (i := 4) (N := (some 89)) (v := ?_) (a' := ?_) #[true, true, true, true, true, true, true, true, false] rfl rfl (by kernel_rfl) (fun _ _ _ h => h) (Or.inl ⟨by rfl, ?_⟩) hHeld ?_ ?_
            rotate_left
            · rintro w' s0
              have c0_ := pw_cell_below s0 (show wb.cell? ⟨w.heap.size, 0, none⟩ = some (.string t) from (blk_cell C2.out.2.1 0).trans rfl)
              have c1_ := pw_cell_below s0 (show wb.cell? ⟨w.heap.size, 1, none⟩ = some (.int .i64 p) from (blk_cell C2.out.2.1 1).trans rfl)
              go_simp
              with_reducible rfl
            rotate_left
            · simp only [Act.put, List.setIfInBounds_toArray, List.set_cons_zero, List.set_cons_succ, i64_w, i32_w]
              rfl
            refine last_ (i := 8) (N := none) #[true, true, true, true, true, true, true, true, true] rfl rfl (by kernel_rfl) (by decide) (fun K hK => ?_)
            obtain ⟨wc, hrunc, hmc, hgc, hzc⟩ := mapV_put lawE Try.underlying55 VE3.out (v := endsV st nx) HLK.out
            refine skip_ (w1 := wc) (by rfl) rfl ?_ ?_
            · have hrunc_ : (Instr.mapUpdate 55 (.map (some m3)) (.agg #[.string t, .int .i64 p]) (.agg #[.int .i64 st, .int .i64 nx])).run Try.prog wb = .ok () wc := hrunc
              simp [execOp, Act.eval, hrunc_, Result.andThen]
            refine hK.out _ _ ?_
            clear hK K
            refine done_ (by kernel_rfl) ?_
            have C3 := Aside0.mk (show w.grownBy wc (some g) ∧ wc.heap[g]? = some (.cells #[.map (some m3), .map oR, .map oS] 59 (0, 0)) from ⟨grown_new C2.out.1 hgc M3.out.1, (hgc.block g (blk_lt C2.out.2.2) (fun e_ => M3.out.2.2.2.2 (Option.some.inj e_))).trans C2.out.2.2⟩)
            have VE4 := Aside0.mk hmc
            have VR4 := Aside0.mk (VR3.out.move (hgc.block m1 VR3.out.lt (fun e_ => M3.out.2.1 (Option.some.inj e_).symm)))
            have VS4 := Aside0.mk (VS3.out.move (hgc.block m2 VS3.out.lt (fun e_ => M3.out.2.2.1 (Option.some.inj e_).symm)))
            clear C2 VE3 VR3 VS3 hrunc hmc hgc hzc
            have g1 := (blk_cell C3.out.2 1).trans rfl
            have g2 := (blk_cell C3.out.2 2).trans rfl
            have z1 := blk_frozen C3.out.2 1
            have z2 := blk_frozen C3.out.2 2
            have C4 := Aside0.mk (show w.grownBy ((wc.setCell ⟨g, 1, none⟩ (.map (some m1))).setCell ⟨g, 2, none⟩ (.map (some m2))) (some g) ∧ ((wc.setCell ⟨g, 1, none⟩ (.map (some m1))).setCell ⟨g, 2, none⟩ (.map (some m2))).heap[g]? = some (.cells #[.map (some m3), .map (some m1), .map (some m2)] 59 (0, 0)) from ⟨grown_set (grown_set C3.out.1 1 _) 2 _, by simpa using blk_set (show (wc.setCell ⟨g, 1, none⟩ (.map (some m1))).heap[g]? = some (.cells #[.map (some m3), .map (some m1), .map oS] 59 (0, 0)) from by simpa using blk_set C3.out.2 1 (.map (some m1))) 2 (.map (some m2))⟩)
            have VE5 := Aside0.mk (VE4.out.move (show ((wc.setCell ⟨g, 1, none⟩ (.map (some m1))).setCell ⟨g, 2, none⟩ (.map (some m2))).heap[m3]? = wc.heap[m3]? from (Below.heap_setCell _ ⟨g, 2, none⟩ _ m3 (fun e_ => M3.out.2.2.2.2 e_.symm)).trans (Below.heap_setCell wc ⟨g, 1, none⟩ _ m3 (fun e_ => M3.out.2.2.2.2 e_.symm))))
            have VR5 := Aside0.mk (VR4.out.move (show ((wc.setCell ⟨g, 1, none⟩ (.map (some m1))).setCell ⟨g, 2, none⟩ (.map (some m2))).heap[m1]? = wc.heap[m1]? from (Below.heap_setCell _ ⟨g, 2, none⟩ _ m1 (fun e_ => by have := M1.out; have := HGL.out; have e2_ : m1 = g := e_; omega)).trans (Below.heap_setCell wc ⟨g, 1, none⟩ _ m1 (fun e_ => by have := M1.out; have := HGL.out; have e2_ : m1 = g := e_; omega))))
            have VS5 := Aside0.mk (VS4.out.move (show ((wc.setCell ⟨g, 1, none⟩ (.map (some m1))).setCell ⟨g, 2, none⟩ (.map (some m2))).heap[m2]? = wc.heap[m2]? from (Below.heap_setCell _ ⟨g, 2, none⟩ _ m2 (fun e_ => by have := M1.out; have := HGL.out; have e2_ : m2 = g := e_; omega)).trans (Below.heap_setCell wc ⟨g, 1, none⟩ _ m2 (fun e_ => by have := M1.out; have := HGL.out; have e2_ : m2 = g := e_; omega))))
            clear C3 VE4 VR4 VS4
            go_wp2_with fail
            go_ret
            exact ⟨by rw [HF.out]; rfl, by rw [HF.out]; exact ⟨some m3, some m1, some m2, C4.out.2, VE5.out, VR5.out, VS5.out, ShE.upd HE.out.2 t p st nx HA.out.ht HA.out.hp, SR2.out, V8.out.2⟩, C4.out.1⟩

end Go.Proofs.Ytdlkofmcioalfaa.PCk

namespace Go.Proofs.Ytdlkofmcioalfaa.PCk
open Go.RowKit Go.Proofs.YtdlkofmcioalfaaW.PrintWords Go.Proofs.YtdlkofmcioalfaaW.PrintLast Go.Proofs.YtdlkofmcioalfaaW.PrintMore
attribute [local go_sem] max2_int min2_int max_two min_two max_three min_three max_four min_four
set_option linter.unusedVariables false
set_option linter.unusedSimpArgs false

/-! ### chapter 24's awake, plain -/
def N0 : Value → Option Value := fun _ => none
def bx (i : Int) (v : ByteArray) : SB := ⟨i, 1, 0, 0, [(⟨false, (⟨#[]⟩ : ByteArray), true, v, 0, 0⟩ : SR)]⟩
def aT : ByteArray := ⟨#[97]⟩
def aX : ByteArray := ⟨#[120]⟩
def aY : ByteArray := ⟨#[121]⟩
def aZ : ByteArray := ⟨#[122]⟩
noncomputable def awE : Value → Option Value := upd N0 (partV aT 0) (endsV 0 2)
noncomputable def awR : Value → Option Value := upd (upd N0 (placeV aT 0 0) (recV ⟨false, ⟨#[]⟩, true, aX, 0, 0⟩)) (placeV aT 0 1) (recV ⟨false, ⟨#[]⟩, true, aY, 0, 0⟩)
noncomputable def awS : Value → Option Value := upd (upd N0 (sentV aT 0 0 0) (.int .i64 0)) (sentV aT 0 0 0) (.int .i64 1)
theorem place_ne {t : ByteArray} {p a b : Int} (h : a ≠ b) : placeV t p a ≠ placeV t p b := by
  unfold placeV
  simp only [ne_eq, Value.agg.injEq, Array.mk.injEq, List.cons.injEq, Value.int.injEq, true_and, and_true]
  omega
theorem saw1_none {t : ByteArray} {p st nx : Int} {E : Value → Option Value} (h : E (partV t p) = none) : saw1 t p st nx E = decide (nx < st) := by
  rw [saw1_of (s := 0) (n := 0) (ok := false) (fun h => nomatch h) (fun _ => h)]
  simp
theorem saw1_some {t : ByteArray} {p st nx s n : Int} {E : Value → Option Value} (h : E (partV t p) = some (endsV s n)) : saw1 t p st nx E = (decide (nx < st) || (decide (st < s) || decide (nx < n))) := by
  rw [saw1_of (ok := true) (fun _ => h) (fun h => nomatch h)]
  simp
theorem aw1 : sawF aT 0 0 2 0 [bx 0 aX, bx 1 aY] N0 N0 N0 = (0, awE, awR, awS) := by
  unfold sawF
  rw [saw1_none rfl, if_neg (by decide), if_neg (by decide)]
  have h1 : chgB aT 0 [bx 0 aX, bx 1 aY] N0 = some awR := by
    unfold bx
    simp only [chgB, Option.bind_some]
    rw [chgR_ok (.inl rfl)]
    simp only [chgR, Option.bind_some]
    rw [if_pos (.inl (by rw [upd_other _ _ (place_ne (by decide))]; rfl))]
    rfl
  have h2 : agnB aT 0 [bx 0 aX, bx 1 aY] N0 = some awS := by
    unfold bx
    simp only [agnB]
    rw [if_neg (fun h => absurd h.2.2 (by decide)), if_neg (fun h => absurd h.2.2 (by decide))]
    rfl
  rw [h1]
  dsimp only
  rw [h2]
  rfl
theorem aw_ends : awE (partV aT 0) = some (endsV 0 2) := upd_same _ _ _
theorem aw2 : sawF aT 0 0 1 0 [] awE awR awS = (1, awE, awR, awS) := by
  unfold sawF
  rw [saw1_some aw_ends, if_pos (by decide)]
theorem aw3 : sawF aT 0 0 2 0 [bx 1 aY, bx 0 aX] awE awR awS = (2, awE, awR, awS) := by
  unfold sawF
  rw [saw1_some aw_ends, if_neg (by decide), if_pos (by decide)]
theorem aw4 : sawF aT 0 0 2 0 [bx 0 aZ] awE awR awS = (3, awE, awR, awS) := by
  unfold sawF
  rw [saw1_some aw_ends, if_neg (by decide), if_neg (by decide)]
  have h1 : chgB aT 0 [bx 0 aZ] awR = none := by
    unfold bx
    simp only [chgB]
    rw [chgR_no]
    · rfl
    · have hk : awR (placeV aT 0 (0 + 0)) = some (recV ⟨false, ⟨#[]⟩, true, aX, 0, 0⟩) := by
        unfold awR
        rw [show (0 : Int) + 0 = 0 from rfl, upd_other _ _ (place_ne (by decide)), upd_same]
      rw [hk]
      rintro (h | h)
      · cases h
      · unfold recV at h
        simp [aX, aZ] at h
  rw [h1]
theorem bx_arg (i : Int) (hi : (Lit.int .i64 i).wf = true) (v : ByteArray) : (Lit.int .i64 (bx i v).f0).wf = true ∧ (Lit.int .i64 (bx i v).f1).wf = true ∧ (Lit.int .i64 (bx i v).f2).wf = true ∧ (Lit.int .i64 (bx i v).f3).wf = true ∧ (bx i v).f4.length ≤ 140737488355328 ∧ ∀ r ∈ (bx i v).f4, (Lit.int .i64 r.f5).wf = true := by
  refine ⟨hi, show (Lit.int .i64 1).wf = true from by decide, show (Lit.int .i64 0).wf = true from by decide, show (Lit.int .i64 0).wf = true from by decide, show 1 ≤ 140737488355328 from by decide, fun r hr => ?_⟩
  simp only [bx, List.mem_singleton] at hr
  subst hr
  show (Lit.int .i64 0).wf = true
  decide

end Go.Proofs.Ytdlkofmcioalfaa.PCk

namespace Go.Proofs.Ytdlkofmcioalfaa.PCk
open Go.RowKit Go.Proofs.YtdlkofmcioalfaaW.PrintWords Go.Proofs.YtdlkofmcioalfaaW.PrintLast Go.Proofs.YtdlkofmcioalfaaW.PrintMore
attribute [local go_sem] max2_int min2_int max_two min_two max_three min_three max_four min_four
set_option linter.unusedVariables false
set_option linter.unusedSimpArgs false

/-! ### check.New, chapter 24's awake -/
set_option maxHeartbeats 4000000 in
set_option maxRecDepth 100000 in
theorem check_New.calls (w : World) : Calls Try.prog 10 #[] w fun e w' => ∃ g, e = .returned (.pointer (some ⟨g, 0, none⟩)) ∧ w.heap.size ≤ g ∧ LogP w' g N0 N0 N0 ∧ Below w.heap.size w w' := by
  go_enter Try.func10, Try.ntmps10
  go_wp2_with fail
  go_ret
  exact ⟨_, rfl, Nat.le_refl _, ⟨none, none, none, heap_alloc_new w _, fun _ => rfl, fun _ => rfl, fun _ => rfl, ShE.none, ShR.none, ShS.none⟩, bel1 w _⟩
set_option maxHeartbeats 4000000 in
set_option maxRecDepth 100000 in
theorem check_nil.calls (t : ByteArray) (p st nx fr : Int) (v : Value) (w : World) : Calls Try.prog 11 #[.pointer none, .string t, .int .i64 p, .int .i64 st, .int .i64 nx, .int .i64 fr, v] w fun e w' => e = .returned (.int .i64 0) ∧ Below w.heap.size w w' := by
  go_enter Try.func11, Try.ntmps11
  go_wp2_with fail
  go_ret
  exact ⟨rfl, Below.refl _ _⟩
theorem rows_C {W : World} {base : Nat} {v : Value} {xs : List SB} (h : Kd.R k61 61 W base (fun _ => True) v xs) : ∃ A c, v = .slice A xs.length c ∧ xs.length ≤ c ∧ Kd.C k61 W A xs.length xs := by
  obtain ⟨A, c, rfl⟩ := Kd.R_slice h
  exact ⟨A, c, rfl, (Kd.R_reads' h).2.1, (Kd.R_reads' h).2.2⟩
theorem rows_nil (w : World) : Kd.C k61 w none 0 [] := (Kd.R_reads' (Kd.R_nil k61 61 w 0 (fun _ => True))).2.2
theorem _root_.Go.World.grownBy.toBelow {w w1 : World} (h : w.grownBy w1 none) : Below w.heap.size w w1 := ⟨h.os, h.tape, h.output, h.size, fun k hk => h.block k hk (by simp)⟩
theorem aw_arg (st nx : Int) (l : List SB) (hs : (Lit.int .i64 st).wf = true) (hn : (Lit.int .i64 nx).wf = true) (hl : l.length ≤ 140737488355328) (hw : ∀ b ∈ l, ∃ i v, b = bx i v ∧ (Lit.int .i64 i).wf = true) : SawArg aT 0 st nx 0 l :=
  ⟨by decide, by decide, hs, hn, by decide, hl, fun b hb => by
    obtain ⟨i, v, rfl, hi⟩ := hw b hb
    exact bx_arg i hi v⟩
set_option maxHeartbeats 4000000 in
set_option maxRecDepth 100000 in
theorem bollardlaw24_awake.calls (w : World) : Calls Try.prog 9 #[] w fun e w' => e = .returned (.bool true) ∧ Below w.heap.size w w' := by
  have ONE := Aside0.mk (fun (i : Int) (v : ByteArray) (W : World) => bollardlaw24_one.calls i v i 1 0 0 [(⟨false, (⟨#[]⟩ : ByteArray), true, v, 0, 0⟩ : SR)] W rfl)
  go_enter Try.func9, Try.ntmps9
  go_wp2_with fail
  refine (check_New.calls _).mono ?_
  rintro e w1 ⟨g, rfl, hg, hL, hb⟩
  have G := Aside0.mk hg
  have B := Aside0.mk hb
  have L := Aside0.mk hL
  clear hg hb hL
  go_wp2_with fail
  refine (ONE.out 0 aX _).mono ?_
  rintro e w2 ⟨v2, rfl, hv_, hb_⟩
  have V2_ := Aside0.mk (Kd.R_lower hv_ B.out.size)
  have B_ := Aside0.mk (below_step B.out hb_)
  have L_ := Aside0.mk (L.out.below hb_)
  clear hv_ hb_ B L 
  have B := B_
  have L := L_
  have V2 := V2_
  clear B_ L_ V2_
  go_wp2_with fail
  refine (ONE.out 1 aY _).mono ?_
  rintro e w3 ⟨v3, rfl, hv_, hb_⟩
  have V3_ := Aside0.mk (Kd.R_lower hv_ B.out.size)
  have B_ := Aside0.mk (below_step B.out hb_)
  have L_ := Aside0.mk (L.out.below hb_)
  have V2_ := Aside0.mk (Kd.R_below V2.out hb_)
  clear hv_ hb_ B L V2
  have B := B_
  have L := L_
  have V2 := V2_
  have V3 := V3_
  clear B_ L_ V2_ V3_
  go_wp2_with (first | ((with_reducible refine gate_dst (N := 9) rfl ?_); (try refine gate_guard (by kernel_rfl) ?_); refine Kd.R_lit k61 (w0 := w) w.heap.size 61 ?hg (N := 9) ?hd (xs := ([bx 0 aX, bx 1 aY] : List SB)) (inner := [.int .i64 0, .int .i64 1, .int .i64 0, .int .i64 0, v2, .int .i64 1, .int .i64 1, .int .i64 0, .int .i64 0, v3]) (ok := fun _ => True) (okp := fun _ => True) ?hr ?hp (fun _ hk => hk) trivial B.out B.out.size (by simp) ?_; (case hd => rfl); (case hg => rfl); (case hr => first | (go_simp; done) | (go_simp; rfl)); (case hp => exact Reps.c5 (show Kd.M k61 _ _ _ (bx 0 aX) [.int .i64 0, .int .i64 1, .int .i64 0, .int .i64 0, v2] from k61_mkM _ _ _ (bx 0 aX) V2.out) (Reps.c5 (show Kd.M k61 _ _ _ (bx 1 aY) [.int .i64 1, .int .i64 1, .int .i64 0, .int .i64 0, v3] from k61_mkM _ _ _ (bx 1 aY) V3.out) (Reps.none _ _))); intro vl wl hvl_ hbl_ hgl_ hnl_; obtain ⟨Al, cl, el_, hcl_, hCl_⟩ := rows_C hvl_; subst el_; have LW_ := Aside0.mk (LogP.below L.out (World.grownBy.toBelow hgl_)); have BW_ := Aside0.mk hbl_; have CW := Aside0.mk (And.intro hcl_ hCl_); clear hvl_ hbl_ hgl_ hnl_ hcl_ hCl_ B L; have B := BW_; have L := LW_; clear BW_ LW_))
  refine (check_Log_Saw.calls g N0 N0 N0 aT 0 0 2 0 Al cl [bx 0 aX, bx 1 aY] _ L.out CW.out.2 CW.out.1 (aw_arg 0 2 [bx 0 aX, bx 1 aY] (by decide) (by decide) (by decide) (fun b hb => by simp only [List.mem_cons, List.not_mem_nil, or_false] at hb; rcases hb with rfl | rfl <;> exact ⟨_, _, rfl, by decide⟩))).mono ?_
  rintro e w4 ⟨rfl, hl_, hg_⟩
  have B_ := Aside0.mk (chg_old B.out G.out hg_)
  rw [aw1] at hl_
  have L_ := Aside0.mk hl_
  clear hl_ hg_ B L CW V2 V3
  rw [aw1]
  have B := B_
  have L := L_
  clear B_ L_
  go_wp2_with fail
  refine (check_Log_Saw.calls g awE awR awS aT 0 0 1 0 none 0 [] _ L.out (rows_nil _) (Nat.le_refl 0) (aw_arg 0 1 [] (by decide) (by decide) (by decide) (fun b hb => by cases hb))).mono ?_
  rintro e w5 ⟨rfl, hl_, hg_⟩
  have B_ := Aside0.mk (chg_old B.out G.out hg_)
  rw [aw2] at hl_
  have L_ := Aside0.mk hl_
  clear hl_ hg_ B L
  rw [aw2]
  have B := B_
  have L := L_
  clear B_ L_
  go_wp2_with fail
  refine (ONE.out 1 aY _).mono ?_
  rintro e w6 ⟨v6, rfl, hv_, hb_⟩
  have V6_ := Aside0.mk (Kd.R_lower hv_ B.out.size)
  have B_ := Aside0.mk (below_step B.out hb_)
  have L_ := Aside0.mk (L.out.below hb_)
  clear hv_ hb_ B L 
  have B := B_
  have L := L_
  have V6 := V6_
  clear B_ L_ V6_
  go_wp2_with fail
  refine (ONE.out 0 aX _).mono ?_
  rintro e w7 ⟨v7, rfl, hv_, hb_⟩
  have V7_ := Aside0.mk (Kd.R_lower hv_ B.out.size)
  have B_ := Aside0.mk (below_step B.out hb_)
  have L_ := Aside0.mk (L.out.below hb_)
  have V6_ := Aside0.mk (Kd.R_below V6.out hb_)
  clear hv_ hb_ B L V6
  have B := B_
  have L := L_
  have V6 := V6_
  have V7 := V7_
  clear B_ L_ V6_ V7_
  go_wp2_with (first | ((with_reducible refine gate_dst (N := 20) rfl ?_); (try refine gate_guard (by kernel_rfl) ?_); refine Kd.R_lit k61 (w0 := w) w.heap.size 61 ?hg (N := 20) ?hd (xs := ([bx 1 aY, bx 0 aX] : List SB)) (inner := [.int .i64 1, .int .i64 1, .int .i64 0, .int .i64 0, v6, .int .i64 0, .int .i64 1, .int .i64 0, .int .i64 0, v7]) (ok := fun _ => True) (okp := fun _ => True) ?hr ?hp (fun _ hk => hk) trivial B.out B.out.size (by simp) ?_; (case hd => rfl); (case hg => rfl); (case hr => first | (go_simp; done) | (go_simp; rfl)); (case hp => exact Reps.c5 (show Kd.M k61 _ _ _ (bx 1 aY) [.int .i64 1, .int .i64 1, .int .i64 0, .int .i64 0, v6] from k61_mkM _ _ _ (bx 1 aY) V6.out) (Reps.c5 (show Kd.M k61 _ _ _ (bx 0 aX) [.int .i64 0, .int .i64 1, .int .i64 0, .int .i64 0, v7] from k61_mkM _ _ _ (bx 0 aX) V7.out) (Reps.none _ _))); intro vl wl hvl_ hbl_ hgl_ hnl_; obtain ⟨Al, cl, el_, hcl_, hCl_⟩ := rows_C hvl_; subst el_; have LW_ := Aside0.mk (LogP.below L.out (World.grownBy.toBelow hgl_)); have BW_ := Aside0.mk hbl_; have CW := Aside0.mk (And.intro hcl_ hCl_); clear hvl_ hbl_ hgl_ hnl_ hcl_ hCl_ B L; have B := BW_; have L := LW_; clear BW_ LW_))
  refine (check_Log_Saw.calls g awE awR awS aT 0 0 2 0 Al cl [bx 1 aY, bx 0 aX] _ L.out CW.out.2 CW.out.1 (aw_arg 0 2 [bx 1 aY, bx 0 aX] (by decide) (by decide) (by decide) (fun b hb => by simp only [List.mem_cons, List.not_mem_nil, or_false] at hb; rcases hb with rfl | rfl <;> exact ⟨_, _, rfl, by decide⟩))).mono ?_
  rintro e w8 ⟨rfl, hl_, hg_⟩
  have B_ := Aside0.mk (chg_old B.out G.out hg_)
  rw [aw3] at hl_
  have L_ := Aside0.mk hl_
  clear hl_ hg_ B L CW V6 V7
  rw [aw3]
  have B := B_
  have L := L_
  clear B_ L_
  go_wp2_with fail
  refine (ONE.out 0 aZ _).mono ?_
  rintro e w9 ⟨v9, rfl, hv_, hb_⟩
  have V9_ := Aside0.mk (Kd.R_lower hv_ B.out.size)
  have B_ := Aside0.mk (below_step B.out hb_)
  have L_ := Aside0.mk (L.out.below hb_)
  clear hv_ hb_ B L 
  have B := B_
  have L := L_
  have V9 := V9_
  clear B_ L_ V9_
  go_wp2_with (first | ((with_reducible refine gate_dst (N := 27) rfl ?_); (try refine gate_guard (by kernel_rfl) ?_); refine Kd.R_lit k61 (w0 := w) w.heap.size 61 ?hg (N := 27) ?hd (xs := ([bx 0 aZ] : List SB)) (inner := [.int .i64 0, .int .i64 1, .int .i64 0, .int .i64 0, v9]) (ok := fun _ => True) (okp := fun _ => True) ?hr ?hp (fun _ hk => hk) trivial B.out B.out.size (by simp) ?_; (case hd => rfl); (case hg => rfl); (case hr => first | (go_simp; done) | (go_simp; rfl)); (case hp => exact Reps.c5 (show Kd.M k61 _ _ _ (bx 0 aZ) [.int .i64 0, .int .i64 1, .int .i64 0, .int .i64 0, v9] from k61_mkM _ _ _ (bx 0 aZ) V9.out) (Reps.none _ _)); intro vl wl hvl_ hbl_ hgl_ hnl_; obtain ⟨Al, cl, el_, hcl_, hCl_⟩ := rows_C hvl_; subst el_; have LW_ := Aside0.mk (LogP.below L.out (World.grownBy.toBelow hgl_)); have BW_ := Aside0.mk hbl_; have CW := Aside0.mk (And.intro hcl_ hCl_); clear hvl_ hbl_ hgl_ hnl_ hcl_ hCl_ B L; have B := BW_; have L := LW_; clear BW_ LW_))
  refine (check_Log_Saw.calls g awE awR awS aT 0 0 2 0 Al cl [bx 0 aZ] _ L.out CW.out.2 CW.out.1 (aw_arg 0 2 [bx 0 aZ] (by decide) (by decide) (by decide) (fun b hb => by simp only [List.mem_cons, List.not_mem_nil, or_false] at hb; rcases hb with rfl <;> exact ⟨_, _, rfl, by decide⟩))).mono ?_
  rintro e w10 ⟨rfl, hl_, hg_⟩
  have B_ := Aside0.mk (chg_old B.out G.out hg_)
  rw [aw4] at hl_
  have L_ := Aside0.mk hl_
  clear hl_ hg_ B L CW V9
  rw [aw4]
  have B := B_
  have L := L_
  clear B_ L_
  go_wp2_with fail
  go_ret
  exact ⟨rfl, B.out⟩

end Go.Proofs.Ytdlkofmcioalfaa.PCk

namespace Go.Proofs.Ytdlkofmcioalfaa.PCk
open Go.RowKit Go.Proofs.YtdlkofmcioalfaaW.PrintWords Go.Proofs.YtdlkofmcioalfaaW.PrintLast Go.Proofs.YtdlkofmcioalfaaW.PrintMore
attribute [local go_sem] max2_int min2_int max_two min_two max_three min_three max_four min_four
set_option linter.unusedVariables false
set_option linter.unusedSimpArgs false

/-! ### the document's Check, plain; rows of the call's own that stand behind an append -/
structure Fct where
  t : ByteArray
  p : Int
  o : Int
  r : SR
structure Snt where
  t : ByteArray
  p : Int
  q : Int
  s : Int
  b : Int
structure Spn where
  t : ByteArray
  p : Int
  st : Int
  nx : Int
def Fct.cs (x : Fct) : List Value := [.string x.t, .int .i64 x.p, .int .i64 x.o, .bool x.r.f0, .string x.r.f1, .bool x.r.f2, .string x.r.f3, .int .i64 x.r.f4, .int .i64 x.r.f5]
def Snt.cs (x : Snt) : List Value := [.string x.t, .int .i64 x.p, .int .i64 x.q, .int .i64 x.s, .int .i64 x.b]
def Spn.cs (x : Spn) : List Value := [.string x.t, .int .i64 x.p, .int .i64 x.st, .int .i64 x.nx]
/-- A row of the call's own. -/
def ORow {α : Type} (enc : α → List Value) (w : World) (base e sz : Nat) (v : Value) (xs : List α) : Prop := w.ownsRow base e sz v xs.length (xs.flatMap enc)
theorem flat_get {α : Type} {enc : α → List Value} {sz : Nat} (he : ∀ x, (enc x).length = sz) : ∀ (xs : List α) (i : Nat) (x : α), xs[i]? = some x → ∀ j u, (enc x)[j]? = some u → (xs.flatMap enc)[i * sz + j]? = some u
  | [], i, x, h, _, _, _ => by simp at h
  | y :: xs, 0, x, h, j, u, hj => by
    cases h
    rw [List.flatMap_cons, Nat.zero_mul, Nat.zero_add, List.getElem?_append_left]
    · exact hj
    · exact (List.getElem?_eq_some_iff.1 hj).1
  | y :: xs, i + 1, x, h, j, u, hj => by
    have ih := flat_get he xs i x (by simpa using h) j u hj
    rw [List.flatMap_cons, List.getElem?_append_right (by rw [he]; rw [Nat.succ_mul]; omega), he, show (i + 1) * sz + j - sz = i * sz + j from by rw [Nat.succ_mul]; omega]
    exact ih
theorem ORow.slice {α : Type} {enc : α → List Value} {w : World} {base e sz : Nat} {v : Value} {xs : List α} (h : ORow enc w base e sz v xs) : ∃ A c, v = .slice A xs.length c := by
  rcases h.2 with ⟨rfl, h0⟩ | ⟨g, cap, cur, rfl, _⟩
  · exact ⟨none, 0, by rw [h0]⟩
  · exact ⟨_, _, rfl⟩
/-- An element's cells. -/
theorem ORow.at {α : Type} {enc : α → List Value} {w : World} {base e sz : Nat} {A : Option Addr} {n c : Nat} {xs : List α} (h : ORow enc w base e sz (.slice A n c) xs) (he : ∀ x, (enc x).length = sz) (i : Nat) (x : α) (hx : xs[i]? = some x) : ∃ g, A = some ⟨g, 0, none⟩ ∧ ∀ j u, (enc x)[j]? = some u → w.cell? ⟨g, i * sz + j, none⟩ = some u := by
  have hlt := (List.getElem?_eq_some_iff.1 hx).1
  rcases h.2 with ⟨hv, h0⟩ | ⟨g, cap, cur, hv, hb, hg, hn, hm, hs, ht⟩
  · omega
  · injection hv with h1 h2 h3
    subst h1
    refine ⟨g, rfl, fun j u hj => ?_⟩
    have h4 := h.cells (g := g) (by simp [Value.ownBlock]) (i * sz + j) u (flat_get he xs i x hx j u hj)
    rwa [show (⟨g, 0, none⟩ : Addr).add (i * sz + j) = ⟨g, i * sz + j, none⟩ from by unfold Addr.add; split <;> simp_all] at h4
theorem ORow.nil {α : Type} (enc : α → List Value) (w : World) (base e sz : Nat) : ORow enc w base e sz (.slice none 0 0) [] := World.ownsRow_nil w base e sz
/-- It stands where its own block stands. -/
theorem ORow.move {α : Type} {enc : α → List Value} {w w1 : World} {base e sz : Nat} {v : Value} {xs : List α} (h : ORow enc w base e sz v xs) (hm : ∀ k, v.ownBlock = some k → w1.heap[k]? = w.heap[k]?) : ORow enc w1 base e sz v xs := own_move h hm
theorem ORow.typed {α : Type} {enc : α → List Value} {w : World} {base e sz : Nat} {v : Value} {xs : List α} (h : ORow enc w base e sz v xs) (k : Nat) (hk : v.ownBlock = some k) : base ≤ k ∧ ∃ cells, w.heap[k]? = some (.cells cells e (0, 0)) := ⟨own_base h k hk, own_typed h k hk⟩
section
variable {P : Program} (w : World)
/-- append onto a row of the call's own: the new row, and the old one stands as it was. -/
theorem run_append_keep (base : Nat) (t ty e : TypeId) (i : TypeInfo) (z : Value) (size bytes : Nat) (ht : P.underlying t = some (.slice e)) (hi : P.info? e = some i) (hz : i.zero = some z)
    (hsize : i.size = size) (hby : i.bytes = bytes) (hzs : z.cells.size = size) (hsz : 0 < size)
    (v : Value) (n : Nat) (xs : List Value) (hown : w.ownsRow base e size v n xs)
    (a : Addr) (m c : Nat) (news : List Value) (hm0 : m ≠ 0) (hl : news.length = m * size) (hnews : ∀ j u, news[j]? = some u → w.cell? (a.add j) = some u) (h1 : ∀ u ∈ news, u.oneCell' = true)
    (h63 : n + m ≤ maxLen) (hbytes : (n + m) * bytes ≤ 140737488355328) (hbase : base ≤ w.heap.size) :
    ∃ v' w', (Builtin.append_ #[t, t] ty #[v, .slice (some a) m c]).run P w = .ok v' w' ∧ w'.ownsRow base e size v' (n + m) (xs ++ news) ∧ w'.ownsRow base e size v n xs ∧ w.grownBy w' v.ownBlock ∧ (v'.ownBlock = v.ownBlock ∨ ∃ b, v'.ownBlock = some b ∧ w.heap.size ≤ b) := by
  subst hsize
  subst hby
  have hsmall : n + m ≤ 9223372036854775807 := by simp only [maxLen] at h63; omega
  have hlen : (xs ++ news).length = (n + m) * i.size := by rw [List.length_append, hown.1, hl, Nat.add_mul]
  have grown : ∀ (old : Nat), old < n + m → ∀ (row : Option Nat),
      (w.drew.alloc (.cells (xs.toArray ++ news.toArray ++ Builtin.zeroCells z.cells (grownCap w (n + m) old e - (n + m))) e)).ownsRow base e i.size
        (.slice (some ⟨w.heap.size, 0, none⟩) (n + m) (grownCap w (n + m) old e)) (n + m) (xs ++ news) ∧
      (w.drew.alloc (.cells (xs.toArray ++ news.toArray ++ Builtin.zeroCells z.cells (grownCap w (n + m) old e - (n + m))) e)).ownsRow base e i.size v n xs ∧
      w.grownBy (w.drew.alloc (.cells (xs.toArray ++ news.toArray ++ Builtin.zeroCells z.cells (grownCap w (n + m) old e - (n + m))) e)) row := by
    intro old ho row
    have hge := grownCap_ge w (n + m) old e
    have hcm : grownCap w (n + m) old e ≤ maxLen := grownCap_le_maxLen w (n + m) old e h63
    refine ⟨⟨hlen, .inr ⟨w.heap.size, _, _, rfl, hbase, heap_alloc_new w.drew _, hge, hcm, ?_, ?_⟩⟩, own_move hown (fun k hk => heap_alloc_old w.drew _ (own_lt hown k hk)), ⟨rfl, rfl, rfl, by simp, fun k hk _ => heap_alloc_old w.drew _ hk⟩⟩
    · simp only [Array.size_append, List.size_toArray, size_zeroCells, hzs, hown.1, hl, ← Nat.add_mul]
      congr 1
      omega
    · simp only [Array.toList_append, List.append_assoc]
      rw [← List.append_assoc, ← hlen]
      exact List.take_left
  have hown0 := hown
  rcases hown.2 with ⟨rfl, rfl⟩ | ⟨g, cap, cur, rfl, hbg, hg, hnc, hcm, hcs, htake⟩
  · have hx : xs = [] := List.eq_nil_of_length_eq_zero (by simpa using hown.1)
    subst hx
    have hr := run_append_nil (P := P) w t ty e i z ht hi hz a m c news hl hnews (by omega) (by omega) (by have hb := hbytes; simp only [Nat.zero_add] at hb; omega)
    have hgr := grown 0 (by omega) (Value.ownBlock (.slice none 0 0))
    simp only [Nat.zero_add, List.nil_append, Array.empty_append] at hgr ⊢
    exact ⟨_, _, hr, hgr.1, hgr.2.1, hgr.2.2, .inr ⟨w.heap.size, by simp [Value.ownBlock], Nat.le_refl _⟩⟩
  · by_cases hroom : n + m ≤ cap
    · have hfit : n * i.size + news.length ≤ cur.size := by rw [hl, hcs, ← Nat.add_mul]; exact Nat.mul_le_mul_right _ hroom
      have hr := run_append_room (P := P) w t ty e i ht hi g n cap cur hg a m c news hl hnews h1 hroom hfit
      have hsz2 : (cur.toList.take (n * i.size) ++ news ++ cur.toList.drop (n * i.size + news.length)).toArray.size = cap * i.size := by
        simp only [List.size_toArray, List.length_append, List.length_take, List.length_drop, Array.length_toList]
        omega
      refine ⟨_, _, hr, ⟨hlen, .inr ⟨g, cap, _, rfl, hbg, setRow_heap w g cur _ e _ hg, hroom, hcm, hsz2, ?_⟩⟩, ⟨hown0.1, .inr ⟨g, cap, _, rfl, hbg, setRow_heap w g cur _ e _ hg, hnc, hcm, hsz2, ?_⟩⟩, ⟨rfl, rfl, rfl, by simp, fun k _ hk => setRow_other w g k _ (fun e => hk (by simp [Value.ownBlock, e]))⟩, .inl (by simp [Value.ownBlock])⟩
      · rw [htake, ← hlen]
        exact List.take_left
      · rw [htake, ← hown0.1, List.append_assoc]
        exact List.take_left
    · have holds : ∀ j u, xs[j]? = some u → w.cell? ((⟨g, 0, none⟩ : Addr).add j) = some u := hown.cells (g := g) rfl
      have hr := run_append_grow (P := P) w t ty e i z ht hi hz ⟨g, 0, none⟩ n cap xs hown.1 holds a m c news hl hnews (by omega) (by omega) (growslice_fits (by omega) hbytes)
      have hgr := grown cap (by omega) (Value.ownBlock (.slice (some ⟨g, 0, none⟩) n cap))
      exact ⟨_, _, hr, hgr.1, hgr.2.1, hgr.2.2, .inr ⟨w.heap.size, by simp [Value.ownBlock], Nat.le_refl _⟩⟩
end
/-- append(v, x), the variadic's box made just ahead. -/
theorem wp_app1 {α : Type} (enc : α → List Value) {P : Program} {W : World} {o : Oper} {a : Act} {K : Act → World → Prop} {Q : Exit → Act → World → Prop} (base : Nat) (s xx : Operand) (t e : TypeId) (z : Value) (sz bytes : Nat)
    (ho : o.op = .call { callee := .builtin .append, args := #[s, xx], argTypes := #[t, t] }) (ht : P.underlying t = some (.slice e)) (hinfo : (P.info? e).map (fun i => (i.zero, i.size, i.bytes)) = some (some z, sz, bytes)) (hz : z.cells.size = sz) (hs0 : 0 < sz) (hb0 : 0 < bytes)
    (v : Value) (xs : List α) (x : α) (hs : a.eval s = v) (hx : a.eval xx = .slice (some ⟨W.heap.size, 0, none⟩) 1 1) (hys : (enc x).length = sz) (h1 : ∀ u ∈ enc x, u.oneCell' = true)
    (HO : ORow enc W base e sz v xs) (hbase : base ≤ W.heap.size) (hl : (xs.length + 1) * bytes ≤ 140737488355328)
    (h : ∀ v1 w1, ORow enc w1 base e sz v1 (xs ++ [x]) → ORow enc w1 base e sz v xs → W.grownBy w1 v.ownBlock → (v1.ownBlock = v.ownBlock ∨ ∃ b, v1.ownBlock = some b ∧ W.heap.size ≤ b) → K (a.put o.dst v1) w1) : o.wp P a (W.alloc (.cells (enc x).toArray e)) K Q := by
  obtain ⟨i0, hi, hzz⟩ := Option.map_eq_some_iff.1 hinfo
  simp only [Prod.mk.injEq] at hzz
  obtain ⟨hz0, hz1, hz2⟩ := hzz
  have hlen : xs.length + 1 ≤ 140737488355328 := Nat.le_trans (Nat.le_mul_of_pos_right _ hb0) hl
  obtain ⟨v', w', hr, h2, h3, h4, h5⟩ := run_append_keep (P := P) (W.alloc (.cells (enc x).toArray e)) base t o.type e i0 z sz bytes ht hi hz0 hz1 hz2 hz hs0 v xs.length (xs.flatMap enc) (World.ownsRow.alloc HO _) ⟨W.heap.size, 0, none⟩ 1 1 (enc x) (by decide) (by rw [hys]; simp)
    (by simpa using World.news_of_block (cs := (enc x).toArray) (t := e) (fr := (0, 0)) (heap_alloc_new W (.cells (enc x).toArray e))) h1 (by simp only [maxLen]; omega) hl (Nat.le_trans hbase (bel1 W _).size)
  unfold Oper.wp execOp
  simp only [ho, resolve, invoke, builtin, Sem.run_bind, Sem.run_pure, Result.andThen_ok, List.map_toArray, List.map_cons, List.map_nil, hs, hx, hr]
  refine h v' w' ?_ h3 (World.grownBy.trans (World.grownBy_alloc W _ _) h4) ?_
  · unfold ORow
    rw [List.length_append, List.length_singleton, List.flatMap_append, List.flatMap_singleton]
    exact h2
  · rcases h5 with h5 | ⟨b, h5, h6⟩
    · exact .inl h5
    · exact .inr ⟨b, h5, Nat.le_trans (bel1 W _).size h6⟩

end Go.Proofs.Ytdlkofmcioalfaa.PCk

namespace Go.Proofs.Ytdlkofmcioalfaa.PCk
open Go.RowKit Go.Proofs.YtdlkofmcioalfaaW.PrintWords Go.Proofs.YtdlkofmcioalfaaW.PrintLast Go.Proofs.YtdlkofmcioalfaaW.PrintMore
attribute [local go_sem] max2_int min2_int max_two min_two max_three min_three max_four min_four
set_option linter.unusedVariables false
set_option linter.unusedSimpArgs false

/-! ### the document's Check: what it computes -/
def rc (r : SR) : Value := .agg #[.bool r.f0, .string r.f1, .bool r.f2, .string r.f3, .int .i64 r.f4, .int .i64 r.f5]
def lk (r : SR) : SR := ⟨r.f0, r.f1, r.f2, r.f3, r.f4, 0⟩
def Fct.key (x f : Fct) : Prop := x.t = f.t ∧ x.p = f.p ∧ x.o = f.o
def fBad (F : List Fct) (f : Fct) : Prop := ∃ x ∈ F, x.key f ∧ rc x.r ≠ rc f.r
def fMet (F : List Fct) (f : Fct) : Prop := ∃ x ∈ F, x.key f
def Snt.key (x f : Snt) : Prop := x.t = f.t ∧ x.p = f.p ∧ x.q = f.q ∧ x.s = f.s
def sBad (S : List Snt) (f : Snt) : Prop := ∃ x ∈ S, x.key f ∧ x.b ≠ f.b
def sMet (S : List Snt) (f : Snt) : Prop := ∃ x ∈ S, x.key f
open Classical in
noncomputable def fStep (F : List Fct) (f : Fct) : Option (List Fct) := if fBad F f then none else if fMet F f then some F else some (F ++ [f])
open Classical in
noncomputable def sStep (S : List Snt) (f : Snt) : Option (List Snt) := if sBad S f then none else if sMet S f then some S else some (S ++ [f])
noncomputable def refR (t : ByteArray) (p base : Int) : List SR → List Fct → Option (List Fct)
  | [], F => some F
  | r :: l, F => (fStep F ⟨t, p, wrap64 (base + r.f5), lk r⟩).bind (refR t p base l)
noncomputable def refB (t : ByteArray) (p : Int) : List SB → List Fct → Option (List Fct)
  | [], F => some F
  | b :: l, F => (refR t p b.f0 b.f4 F).bind (refB t p l)
noncomputable def refS (t : ByteArray) (p : Int) : List SB → List Snt → Option (List Snt)
  | [], S => some S
  | b :: l, S => if b.f2 < 1 then refS t p l S else (sStep S ⟨t, p, b.f2, b.f3, b.f0⟩).bind (refS t p l)
/-- The last span of a partition. -/
def spnK (t : ByteArray) (p : Int) : List Spn → Int → Int → Int
  | [], _, k => k
  | x :: l, i, k => spnK t p l (i + 1) (if x.t = t ∧ x.p = p then i else k)
def zSpn : Spn := ⟨⟨#[]⟩, 0, 0, 0⟩
def spnAt (P : List Spn) (k : Int) : Spn := P.getD k.toNat zSpn
theorem spnK_lt (t : ByteArray) (p : Int) : ∀ (l : List Spn) (i k : Int), k < i → spnK t p l i k < i + l.length
  | [], i, k, h => by simpa [spnK] using h
  | x :: l, i, k, h => by
    rw [spnK]
    have := spnK_lt t p l (i + 1) (if x.t = t ∧ x.p = p then i else k) (by split <;> omega)
    rw [List.length_cons]
    omega
def ref1 (k st nx : Int) (P : List Spn) : Bool := decide (nx < st) || (decide (0 ≤ k) && (decide (st < (spnAt P k).st) || decide (nx < (spnAt P k).nx)))
/-- rows: code 2. -/
def rwB (st nx fr : Int) (b : SB) : Bool := (decide (b.f0 < fr) && decide (wrap64 (b.f0 + b.f1) ≤ fr)) || decide (nx < wrap64 (b.f0 + b.f1)) || decide (wrap64 (b.f0 + b.f1) ≤ st)
def rwP (q b : SB) : Bool := decide (b.f0 < wrap64 (q.f0 + q.f1)) || decide (b.f0 ≤ q.f0)
def rwL (st nx fr : Int) : Option SB → List SB → Bool
  | _, [] => false
  | q, b :: l => rwB st nx fr b || (match q with | none => false | some q => rwP q b) || rwL st nx fr (some b) l
noncomputable def refF (t : ByteArray) (p st nx fr : Int) (l : List SB) (F : List Fct) (S : List Snt) (P : List Spn) : Int × List Fct × List Snt × List Spn :=
  if ref1 (spnK t p P 0 (-1)) st nx P = true then (1, F, S, P) else if rwL st nx fr none l = true then (2, F, S, P) else
    match refB t p l F with
    | none => (3, F, S, P)
    | some F' => match refS t p l S with
      | none => (4, F, S, P)
      | some S' => (0, F', S', if spnK t p P 0 (-1) < 0 then P ++ [⟨t, p, st, nx⟩] else P.set (spnK t p P 0 (-1)).toNat ⟨(spnAt P (spnK t p P 0 (-1))).t, (spnAt P (spnK t p P 0 (-1))).p, st, nx⟩)
/-- The document's Check in the memory. -/
def IsRow (o : Obj) : Prop := ∃ cells t, o = .cells cells t (0, 0) ∧ (t = 88 ∨ t = 90 ∨ t = 86)
def ChkP (base : Nat) (w : World) (m : Nat) (F : List Fct) (S : List Snt) (P : List Spn) : Prop := ∃ vF vS vP, w.heap[m]? = some (.cells #[vF, vS, vP] 32 (0, 0)) ∧ ORow Fct.cs w base 88 9 vF F ∧ ORow Snt.cs w base 90 5 vS S ∧ ORow Spn.cs w base 86 4 vP P
/-- All stands but block m and rows above base. -/
structure Keep (base m : Nat) (w w' : World) : Prop where
  os : w'.os = w.os
  tape : w'.tape = w.tape
  output : w'.output = w.output
  size : w.heap.size ≤ w'.heap.size
  keep : ∀ i o, w.heap[i]? = some o → i ≠ m → ¬ (base ≤ i ∧ IsRow o) → w'.heap[i]? = some o
theorem Keep.refl (base m : Nat) (w : World) : Keep base m w w := ⟨rfl, rfl, rfl, Nat.le_refl _, fun _ _ h _ _ => h⟩
theorem Keep.trans {base m : Nat} {a b c : World} (h : Keep base m a b) (k : Keep base m b c) : Keep base m a c := ⟨k.os.trans h.os, k.tape.trans h.tape, k.output.trans h.output, Nat.le_trans h.size k.size, fun i o ho h1 h2 => k.keep i o (h.keep i o ho h1 h2) h1 h2⟩
theorem Keep.of_below {base m : Nat} {a b : World} (h : Below a.heap.size a b) : Keep base m a b := ⟨h.os, h.tape, h.output, h.size, fun i o ho _ _ => blk_below ho h⟩
theorem Keep.below {base m : Nat} {w0 a b : World} (h : Keep base m a b) (hb : Below base w0 a) (hm : base ≤ m) (h0 : base ≤ w0.heap.size) : Below base w0 b := by
  refine ⟨h.os.trans hb.os, h.tape.trans hb.tape, h.output.trans hb.output, Nat.le_trans hb.size h.size, fun k hk => ?_⟩
  cases hw : a.heap[k]? with
  | none =>
    exfalso
    have h1 := hb.block k hk
    rw [hw, Array.getElem?_eq_getElem (Nat.lt_of_lt_of_le hk h0)] at h1
    cases h1
  | some o => rw [h.keep k o hw (by omega) (fun h3 => by omega)]; exact hw ▸ hb.block k hk
theorem Keep.set {base m : Nat} {a b : World} (h : Keep base m a b) (j : Nat) (u : Value) : Keep base m a (b.setCell ⟨m, j, none⟩ u) :=
  ⟨h.os, h.tape, h.output, by simpa using h.size, fun i o ho h1 h2 => (Below.heap_setCell b ⟨m, j, none⟩ u i h1).trans (h.keep i o ho h1 h2)⟩
/-- A row that is written, or made anew. -/
theorem Keep.row {base m : Nat} {a b c : World} (h : Keep base m a b) {k : Nat} {cells : Array Value} {t : TypeId} (hk : b.heap[k]? = some (.cells cells t (0, 0))) (hb : base ≤ k) (ht : t = 88 ∨ t = 90 ∨ t = 86) (hg : b.grownBy c (some k)) : Keep base m a c :=
  ⟨hg.os.trans h.os, hg.tape.trans h.tape, hg.output.trans h.output, Nat.le_trans h.size hg.size, fun i o ho h1 h2 => by
    have h3 := h.keep i o ho h1 h2
    refine (hg.block i (blk_lt h3) (fun e => ?_)).trans h3
    have e2 := Option.some.inj e
    subst e2
    rw [hk] at h3
    exact h2 ⟨hb, cells, t, (Option.some.inj h3).symm, ht⟩⟩
theorem Keep.grown {α : Type} {enc : α → List Value} {base m sz : Nat} {t : TypeId} {a b c : World} {v : Value} {xs : List α} (h : Keep base m a b) (ho : ORow enc b base t sz v xs) (ht : t = 88 ∨ t = 90 ∨ t = 86) (hg : b.grownBy c v.ownBlock) : Keep base m a c := by
  cases hv : v.ownBlock with
  | none => rw [hv] at hg; exact h.trans (Keep.of_below hg.toBelow)
  | some k =>
    rw [hv] at hg
    obtain ⟨h1, cells, h2⟩ := ho.typed k hv
    exact h.row h2 h1 ht hg
theorem ORow.at2 {α : Type} {enc : α → List Value} {w : World} {base e sz : Nat} {A : Option Addr} {n c : Nat} {xs : List α} (h : ORow enc w base e sz (.slice A n c) xs) (he : ∀ x, (enc x).length = sz) (z : α) (i : Int) (h0 : 0 ≤ i) (hi : i < (xs.length : Int)) : ∃ ad, A = some ad ∧ (∀ u, (enc (xs.getD i.toNat z))[0]? = some u → w.cell? (ad.add (i.toNat * sz)) = some u) ∧ (∀ j u, (enc (xs.getD i.toNat z))[j]? = some u → w.cell? ⟨(ad.add (i.toNat * sz)).block, (ad.add (i.toNat * sz)).off + j, none⟩ = some u) := by
  have hl : i.toNat < xs.length := by omega
  obtain ⟨g, e1, h2⟩ := h.at he i.toNat (xs.getD i.toNat z) (by rw [List.getD_eq_getElem?_getD, List.getElem?_eq_getElem hl]; rfl)
  refine ⟨_, e1, fun u hu => ?_, fun j u hj => ?_⟩
  · have := h2 0 u hu
    rwa [show (⟨g, 0, none⟩ : Addr).add (i.toNat * sz) = ⟨g, i.toNat * sz, none⟩ from by unfold Addr.add; split <;> simp_all]
  · have := h2 j u hj
    rwa [show (⟨g, 0, none⟩ : Addr).add (i.toNat * sz) = ⟨g, i.toNat * sz, none⟩ from by unfold Addr.add; split <;> simp_all]
theorem fct_len (x : Fct) : x.cs.length = 9 := rfl
theorem snt_len (x : Snt) : x.cs.length = 5 := rfl
theorem spn_len (x : Spn) : x.cs.length = 4 := rfl

end Go.Proofs.Ytdlkofmcioalfaa.PCk
