import Derived.Test.YtdlkofmcioalfaaChB
import Derived.Test.YtdlkofmcioalfaaChD
import Derived.Test.YtdlkofmcioalfaaChE
import Derived.Outline
import Derived.StillTailTactics
import Derived.RegionTactic
import Derived.BigRegion
import Derived.Lib.BufferWrite
namespace Go.Proofs.Ytdlkofmcioalfaa.PCk
open Go.RowKit Go.Proofs.YtdlkofmcioalfaaW.PrintWords Go.Proofs.YtdlkofmcioalfaaW.PrintLast Go.Proofs.YtdlkofmcioalfaaW.PrintMore
attribute [local go_sem] max2_int min2_int max_two min_two max_three min_three max_four min_four
set_option linter.unusedVariables false
set_option linter.unusedSimpArgs false

/-! ### Log.Saw -/
/-- A Log: what it holds. -/
def LogP (w : World) (g : Nat) (E R S : Value → Option Value) : Prop := ∃ oE oR oS, w.heap[g]? = some (.cells #[.map oE, .map oR, .map oS] 59 (0, 0)) ∧ MapO Try.prog 68 w oE E ∧ MapO Try.prog 77 w oR R ∧ MapO Try.prog 80 w oS S ∧ ShE E ∧ ShR R ∧ ShS S
theorem MapO.lt {P : Program} {kt : TypeId} {w : World} {o : Option Nat} {F : Value → Option Value} (h : MapO P kt w o F) : ∀ b, o = some b → b < w.heap.size := fun b e => by subst e; exact MapV.lt h
theorem MapO.below {P : Program} {kt : TypeId} {w w1 : World} {o : Option Nat} {F : Value → Option Value} (h : MapO P kt w o F) (hb : Below w.heap.size w w1) : MapO P kt w1 o F := h.move fun b e => hb.block b (h.lt b e)
theorem MapV.below {P : Program} {kt : TypeId} {w w1 : World} {b : Nat} {F : Value → Option Value} (h : MapV P kt w b F) (hb : Below w.heap.size w w1) : MapV P kt w1 b F := h.move (hb.block b h.lt)
theorem LogP.below {w w1 : World} {g : Nat} {E R S : Value → Option Value} (h : LogP w g E R S) (hb : Below w.heap.size w w1) : LogP w1 g E R S := by
  obtain ⟨oE, oR, oS, h1, h2, h3, h4, h5⟩ := h
  exact ⟨oE, oR, oS, blk_below h1 hb, h2.below hb, h3.below hb, h4.below hb, h5⟩
theorem grown_set {a b : World} {g : Nat} (h : a.grownBy b (some g)) (j : Nat) (u : Value) : a.grownBy (b.setCell ⟨g, j, none⟩ u) (some g) :=
  ⟨h.os, h.tape, h.output, by simpa using h.size, fun i hi hn => (Below.heap_setCell b ⟨g, j, none⟩ u i (fun e => hn (by rw [e]))).trans (h.block i hi hn)⟩
open Classical in
noncomputable def saw1 (t : ByteArray) (p st nx : Int) (E : Value → Option Value) : Bool := decide (nx < st ∨ ∃ s n, E (partV t p) = some (endsV s n) ∧ (st < s ∨ nx < n))
/-- What Saw tells, and what it remembers. -/
noncomputable def sawF (t : ByteArray) (p st nx fr : Int) (l : List SB) (E R S : Value → Option Value) : Int × (Value → Option Value) × (Value → Option Value) × (Value → Option Value) :=
  if saw1 t p st nx E = true then (1, E, R, S) else if misL st nx fr none l = true then (2, E, R, S) else
    match chgB t p l R with
    | none => (3, E, R, S)
    | some R' => match agnB t p l S with
      | none => (4, E, R, S)
      | some S' => (0, upd E (partV t p) (endsV st nx), R', S')
open Classical in
theorem saw1_of {t : ByteArray} {p st nx s n : Int} {ok : Bool} {E : Value → Option Value} (h1 : ok = true → E (partV t p) = some (endsV s n)) (h2 : ok = false → E (partV t p) = none) : saw1 t p st nx E = (decide (nx < st) || (ok && (decide (st < s) || decide (nx < n)))) := by
  unfold saw1
  cases ok with
  | true =>
    have h := h1 rfl
    rw [Bool.eq_iff_iff, decide_eq_true_iff]
    simp only [Bool.true_and, Bool.or_eq_true, decide_eq_true_iff]
    constructor
    · rintro (h0 | ⟨s', n', e, h0⟩)
      · exact .inl h0
      · have e1 := Option.some.inj (h.symm.trans e)
        unfold endsV at e1
        simp only [Value.agg.injEq, Array.mk.injEq, List.cons.injEq, Value.int.injEq, true_and, and_true] at e1
        rw [e1.1, e1.2]
        exact .inr h0
    · rintro (h0 | h0)
      · exact .inl h0
      · exact .inr ⟨s, n, h, h0⟩
  | false =>
    have h := h2 rfl
    rw [Bool.eq_iff_iff, decide_eq_true_iff]
    simp only [Bool.false_and, Bool.or_false, decide_eq_true_iff]
    constructor
    · rintro (h0 | ⟨s', n', e, _⟩)
      · exact h0
      · rw [h] at e; cases e
    · exact .inl
theorem info_ends : (Try.prog.info? 70).map (·.size) = some 2 := by kernel_rfl
structure SawArg (t : ByteArray) (p st nx fr : Int) (l : List SB) : Prop where
  ht : t.size ≤ maxLen
  hp : (Lit.int .i64 p).wf = true
  hs : (Lit.int .i64 st).wf = true
  hn : (Lit.int .i64 nx).wf = true
  hf : (Lit.int .i64 fr).wf = true
  hl : l.length ≤ 140737488355328
  hw : ∀ b ∈ l, (Lit.int .i64 b.f0).wf = true ∧ (Lit.int .i64 b.f1).wf = true ∧ (Lit.int .i64 b.f2).wf = true ∧ (Lit.int .i64 b.f3).wf = true ∧ b.f4.length ≤ 140737488355328 ∧ ∀ r ∈ b.f4, (Lit.int .i64 r.f5).wf = true
set_option maxHeartbeats 8000000 in
set_option maxRecDepth 100000 in
theorem check_Log_Saw.calls (g : Nat) (E R S : Value → Option Value) (t : ByteArray) (p st nx fr : Int) (A : Option Addr) (c : Nat) (l : List SB) (w : World) (hL : LogP w g E R S) (hr : Kd.C k61 w A l.length l) (hc : l.length ≤ c) (ha : SawArg t p st nx fr l) :
    Calls Try.prog 11 #[.pointer (some ⟨g, 0, none⟩), .string t, .int .i64 p, .int .i64 st, .int .i64 nx, .int .i64 fr, .slice A l.length c] w fun e w' => e = .returned (.int .i64 (sawF t p st nx fr l E R S).1) ∧ LogP w' g (sawF t p st nx fr l E R S).2.1 (sawF t p st nx fr l E R S).2.2.1 (sawF t p st nx fr l E R S).2.2.2 ∧ w.grownBy w' (some g) := by
  have HLP := Aside0.mk hL
  obtain ⟨oE, oR, oS, hg, hE, hR, hS, sE, sR, sS⟩ := hL
  have HA := Aside0.mk ha
  have HG := Aside0.mk hg
  have HE := Aside0.mk (And.intro hE sE)
  have HR := Aside0.mk (And.intro hR sR)
  have HS := Aside0.mk (And.intro hS sS)
  have HC := Aside0.mk (And.intro hr hc)
  obtain ⟨lk, hlk⟩ : ∃ q_, keyOf Try.prog 68 (partV t p) = some q_ := keyE t p ha.ht ha.hp
  have HLK := Aside0.mk hlk
  obtain ⟨s, n, ok, hE1, hE2, hE3, hE4⟩ : ∃ s n ok, (E (partV t p)).getD (.agg #[.int .i64 0, .int .i64 0]) = .agg #[.int .i64 s, .int .i64 n] ∧ (E (partV t p)).isSome = ok ∧ (ok = true → E (partV t p) = some (endsV s n)) ∧ (ok = false → E (partV t p) = none) := by
    cases hq : E (partV t p) with
    | none => exact ⟨0, 0, false, rfl, rfl, (fun h => nomatch h), fun _ => rfl⟩
    | some v =>
      obtain ⟨_, v0, v1, rfl⟩ := sE _ _ hq
      exact ⟨v0, v1, true, rfl, rfl, (fun _ => rfl), fun h => nomatch h⟩
  have HLU := Aside0.mk (show ∀ W : World, Below w.heap.size w W → (Instr.lookup 55 (.map oE) (.agg #[.string t, .int .i64 p]) true).run Try.prog W = .ok (.tuple #[.agg #[.int .i64 s, .int .i64 n], .bool ok]) W from fun W hW => by have h_ := mapO_look (P := Try.prog) lawE Try.underlying55 (z := .agg #[.int .i64 0, .int .i64 0]) (w := W) (by kernel_rfl) (hE.below hW) hlk; rw [hE1, hE2] at h_; exact h_)
  have HS1 := Aside0.mk (saw1_of (st := st) (nx := nx) hE3 hE4)
  have HGL := Aside0.mk (blk_lt hg)
  clear hE hR hS sE sR sS hg ha hr hc hlk hE1 hE2 hE3 hE4
  go_enter Try.func11, Try.ntmps11
  go_upto_region 4 with fail
  (try simp only [Act.put, List.setIfInBounds_toArray, List.set_cons_zero, List.set_cons_succ])
  have B0 := Aside0.mk (show Below w.heap.size w (w.alloc (.cells #[.string t, .int .i64 p] 68)).drew ∧ (w.alloc (.cells #[.string t, .int .i64 p] 68)).drew.heap[w.heap.size]? = some (.cells #[.string t, .int .i64 p] 68 (0, 0)) from ⟨below_drew1 (bel1 w _), heap_alloc_new w _⟩)
  refine start_ (n := 12) (S := fun w' => Below (w.alloc (.cells #[.string t, .int .i64 p] 68)).drew.heap.size (w.alloc (.cells #[.string t, .int .i64 p] 68)).drew w') (ds := []) #[false, false, false, false, false, false, false, false, false, false, false, false] (by kernel_rfl) rfl rfl (Below.refl _ _) (fun hHeld => ?_)
  generalize (w.alloc (.cells #[.string t, .int .i64 p] 68)).drew = wd at B0 hHeld ⊢
  refine pure_ (i := 0) (N := (some 26)) (v := ?_) (a' := ?_) #[true, false, false, false, false, false, false, false, false, false, false, false] rfl rfl (by kernel_rfl) (fun _ _ _ h => h) (Or.inl ⟨by rfl, ?_⟩) ?_ ?_
  rotate_left
  · intro w'
    go_simp
    with_reducible rfl
  rotate_left
  · simp only [Act.put, List.setIfInBounds_toArray, List.set_cons_zero, List.set_cons_succ, i64_w, i32_w]
    rfl
  refine pure_ (i := 1) (N := (some 27)) (v := ?_) (a' := ?_) #[true, true, false, false, false, false, false, false, false, false, false, false] rfl rfl (by kernel_rfl) (fun _ _ _ h => h) (Or.inl ⟨by rfl, ?_⟩) ?_ ?_
  rotate_left
  · intro w'
    go_simp
    with_reducible rfl
  rotate_left
  · simp only [Act.put, List.setIfInBounds_toArray, List.set_cons_zero, List.set_cons_succ, i64_w, i32_w]
    rfl
  refine pure_ (i := 2) (N := (some 28)) (v := ?_) (a' := ?_) #[true, true, true, false, false, false, false, false, false, false, false, false] rfl rfl (by kernel_rfl) (fun _ _ _ h => h) (Or.inl ⟨by rfl, ?_⟩) ?_ ?_
  rotate_left
  · intro w'
    go_simp
    with_reducible rfl
  rotate_left
  · simp only [Act.put, List.setIfInBounds_toArray, List.set_cons_zero, List.set_cons_succ, i64_w, i32_w]
    rfl
  refine take_ (i := 3) (N := (some 29)) (v := ?_) (a' := ?_) #[true, true, true, true, false, false, false, false, false, false, false, false] rfl rfl (by kernel_rfl) (fun _ _ _ h => h) (Or.inl ⟨by rfl, ?_⟩) hHeld ?_ ?_
  rotate_left
  · rintro w' s0
    have c0_ := pw_cell_below s0 (show wd.cell? ⟨g, 0, none⟩ = some (.map oE) from (blk_cell (blk_below HG.out B0.out.1) 0).trans rfl)
    go_simp
    with_reducible rfl
  rotate_left
  · simp only [Act.put, List.setIfInBounds_toArray, List.set_cons_zero, List.set_cons_succ, i64_w, i32_w]
    rfl
  refine take_ (i := 4) (N := (some 30)) (v := ?_) (a' := ?_) #[true, true, true, true, true, false, false, false, false, false, false, false] rfl rfl (by kernel_rfl) (fun _ _ _ h => h) (Or.inl ⟨by rfl, ?_⟩) hHeld ?_ ?_
  rotate_left
  · rintro w' s0
    have c0_ := pw_cell_below s0 (show wd.cell? ⟨w.heap.size, 0, none⟩ = some (.string t) from (blk_cell B0.out.2 0).trans rfl)
    have c1_ := pw_cell_below s0 (show wd.cell? ⟨w.heap.size, 1, none⟩ = some (.int .i64 p) from (blk_cell B0.out.2 1).trans rfl)
    go_simp
    with_reducible rfl
  rotate_left
  · simp only [Act.put, List.setIfInBounds_toArray, List.set_cons_zero, List.set_cons_succ, i64_w, i32_w]
    rfl
  refine take_ (i := 5) (N := (some 31)) (v := ?_) (a' := ?_) #[true, true, true, true, true, true, false, false, false, false, false, false] rfl rfl (by kernel_rfl) (fun _ _ _ h => h) (Or.inl ⟨by rfl, ?_⟩) hHeld ?_ ?_
  rotate_left
  · rintro w' s0
    have hl_ := HLU.out w' (below_step B0.out.1 s0)
    simp [execOp, Act.eval, hl_, Result.andThen]
    with_reducible rfl
  rotate_left
  · simp only [Act.put, List.setIfInBounds_toArray, List.set_cons_zero, List.set_cons_succ, i64_w, i32_w]
    rfl
  refine pure_ (i := 6) (N := (some 25)) (v := ?_) (a' := ?_) #[true, true, true, true, true, true, true, false, false, false, false, false] rfl rfl (by kernel_rfl) (fun _ _ _ h => h) (Or.inl ⟨by rfl, ?_⟩) ?_ ?_
  rotate_left
  · intro w'
    go_simp
    with_reducible rfl
  rotate_left
  · simp only [Act.put, List.setIfInBounds_toArray, List.set_cons_zero, List.set_cons_succ, i64_w, i32_w]
    rfl
  refine pure_ (i := 7) (N := (some 32)) (v := ?_) (a' := ?_) #[true, true, true, true, true, true, true, true, false, false, false, false] rfl rfl (by kernel_rfl) (fun _ _ _ h => h) (Or.inl ⟨by rfl, ?_⟩) ?_ ?_
  rotate_left
  · intro w'
    go_simp
    with_reducible rfl
  rotate_left
  · simp only [Act.put, List.setIfInBounds_toArray, List.set_cons_zero, List.set_cons_succ, i64_w, i32_w]
    rfl
  refine pure_ (i := 8) (N := (some 33)) (v := ?_) (a' := ?_) #[true, true, true, true, true, true, true, true, true, false, false, false] rfl rfl (by kernel_rfl) (fun _ _ _ h => h) (Or.inl ⟨by rfl, ?_⟩) ?_ ?_
  rotate_left
  · intro w'
    go_simp
    with_reducible rfl
  rotate_left
  · simp only [Act.put, List.setIfInBounds_toArray, List.set_cons_zero, List.set_cons_succ, i64_w, i32_w]
    rfl
  refine one_ (i := 9) (N := (some 16)) #[true, true, true, true, true, true, true, true, true, true, false, false] rfl rfl (by kernel_rfl) (by decide) (fun K hK => ?_)
  refine value_ (w1 := wd.alloc (.cells #[.int .i64 0, .int .i64 0] 70)) (v := .pointer (some ⟨wd.heap.size, 0, none⟩)) (by rfl) rfl ?_ ?_
  · go_simp
    try rfl
  refine hK.out _ _ (below_alloc hHeld _) (fun hHeld => ?_)
  clear hK K
  refine norm_ (a' := ?_) ?_ ?_
  rotate_left
  · show Act.put _ (some 16) _ = _
    simp only [Act.put, List.setIfInBounds_toArray, List.set_cons_zero, List.set_cons_succ, i64_w, i32_w]
    rfl
  refine one_ (i := 10) (N := none) #[true, true, true, true, true, true, true, true, true, true, true, false] rfl rfl (by kernel_rfl) (by decide) (fun K hK => ?_)
  refine store_step (by rfl) rfl 70 (.tmp 16) (.tmp 32) rfl wd.heap.size #[.int .i64 s, .int .i64 n] rfl rfl 70 #[.int .i64 0, .int .i64 0] (heap_alloc_new wd _) info_ends rfl (by rw [← Array.all_toList]; rfl) ?_
  refine hK.out _ _ (below_row (below_alloc (Below.refl wd.heap.size wd) _) (Nat.le_refl _) _) (fun hHeld => ?_)
  clear hK K
  refine pure_ (i := 11) (N := (some 17)) (v := ?_) (a' := ?_) #[true, true, true, true, true, true, true, true, true, true, true, true] rfl rfl (by kernel_rfl) (fun _ _ _ h => h) (Or.inl ⟨by rfl, ?_⟩) ?_ ?_
  rotate_left
  · intro w'
    go_simp
    with_reducible rfl
  rotate_left
  · simp only [Act.put, List.setIfInBounds_toArray, List.set_cons_zero, List.set_cons_succ, i64_w, i32_w]
    rfl
  refine done_ (by kernel_rfl) ?_
  clear hHeld
  have B1 := Aside0.mk (show Below w.heap.size w ((wd.alloc (.cells #[.int .i64 0, .int .i64 0] 70)).setRow wd.heap.size #[.int .i64 s, .int .i64 n]) ∧ ((wd.alloc (.cells #[.int .i64 0, .int .i64 0] 70)).setRow wd.heap.size #[.int .i64 s, .int .i64 n]).heap[w.heap.size]? = some (.cells #[.string t, .int .i64 p] 68 (0, 0)) ∧ ((wd.alloc (.cells #[.int .i64 0, .int .i64 0] 70)).setRow wd.heap.size #[.int .i64 s, .int .i64 n]).heap[wd.heap.size]? = some (.cells #[.int .i64 s, .int .i64 n] 70 (0, 0)) from ⟨below_step B0.out.1 (below_row (below_alloc (Below.refl wd.heap.size wd) _) (Nat.le_refl _) _), blk_below B0.out.2 (below_row (below_alloc (Below.refl wd.heap.size wd) _) (Nat.le_refl _) _), setRow_heap _ _ _ _ _ _ (heap_alloc_new wd _)⟩)
  have HQ := Aside0.mk (show w.heap.size < wd.heap.size from blk_lt B0.out.2)
  clear B0 HLU
  generalize (wd.alloc (.cells #[.int .i64 0, .int .i64 0] 70)).setRow wd.heap.size #[.int .i64 s, .int .i64 n] = w2 at B1 ⊢
  obtain ⟨ge, hge⟩ : ∃ ge, ge = wd.heap.size := ⟨_, rfl⟩
  rw [← hge] at B1 HQ ⊢
  clear hge
  go_upto_region 5 with fail
  (try simp only [Act.put, List.setIfInBounds_toArray, List.set_cons_zero, List.set_cons_succ])
  have B2 := Aside0.mk (show Below w.heap.size w w2.drew ∧ w2.drew.heap[w.heap.size]? = some (.cells #[.string t, .int .i64 p] 68 (0, 0)) ∧ w2.drew.heap[ge]? = some (.cells #[.int .i64 s, .int .i64 n] 70 (0, 0)) from ⟨below_drew1 B1.out.1, B1.out.2⟩)
  refine start_ (n := 12) (S := fun w' => Below w2.drew.heap.size w2.drew w') (ds := []) #[false, false, false, false, false, false, false, false, false, false, false, false] (by kernel_rfl) rfl rfl (Below.refl _ _) (fun hHeld => ?_)
  clear B1
  generalize w2.drew = w3 at B2 hHeld ⊢
  refine pure_ (i := 0) (N := (some 34)) (v := ?_) (a' := ?_) #[true, false, false, false, false, false, false, false, false, false, false, false] rfl rfl (by kernel_rfl) (fun _ _ _ h => h) (Or.inl ⟨by rfl, ?_⟩) ?_ ?_
  rotate_left
  · intro w'
    go_simp
    with_reducible rfl
  rotate_left
  · simp only [Act.put, List.setIfInBounds_toArray, List.set_cons_zero, List.set_cons_succ, i64_w, i32_w]
    rfl
  refine pure_ (i := 1) (N := (some 35)) (v := ?_) (a' := ?_) #[true, true, false, false, false, false, false, false, false, false, false, false] rfl rfl (by kernel_rfl) (fun _ _ _ h => h) (Or.inl ⟨by rfl, ?_⟩) ?_ ?_
  rotate_left
  · intro w'
    go_simp
    with_reducible rfl
  rotate_left
  · simp only [Act.put, List.setIfInBounds_toArray, List.set_cons_zero, List.set_cons_succ, i64_w, i32_w]
    rfl
  refine pure_ (i := 2) (N := (some 36)) (v := ?_) (a' := ?_) #[true, true, true, false, false, false, false, false, false, false, false, false] rfl rfl (by kernel_rfl) (fun _ _ _ h => h) (Or.inl ⟨by rfl, ?_⟩) ?_ ?_
  rotate_left
  · intro w'
    go_simp
    with_reducible rfl
  rotate_left
  · simp only [Act.put, List.setIfInBounds_toArray, List.set_cons_zero, List.set_cons_succ, i64_w, i32_w]
    rfl
  refine pure_ (i := 5) (N := (some 39)) (v := ?_) (a' := ?_) #[true, true, true, false, false, true, false, false, false, false, false, false] rfl rfl (by kernel_rfl) (fun _ _ _ h => h) (Or.inl ⟨by rfl, ?_⟩) ?_ ?_
  rotate_left
  · intro w'
    go_simp
    with_reducible rfl
  rotate_left
  · simp only [Act.put, List.setIfInBounds_toArray, List.set_cons_zero, List.set_cons_succ, i64_w, i32_w]
    rfl
  refine pure_ (i := 6) (N := (some 40)) (v := ?_) (a' := ?_) #[true, true, true, false, false, true, true, false, false, false, false, false] rfl rfl (by kernel_rfl) (fun _ _ _ h => h) (Or.inl ⟨by rfl, ?_⟩) ?_ ?_
  rotate_left
  · intro w'
    go_simp
    with_reducible rfl
  rotate_left
  · simp only [Act.put, List.setIfInBounds_toArray, List.set_cons_zero, List.set_cons_succ, i64_w, i32_w]
    rfl
  refine pure_ (i := 7) (N := (some 41)) (v := ?_) (a' := ?_) #[true, true, true, false, false, true, true, true, false, false, false, false] rfl rfl (by kernel_rfl) (fun _ _ _ h => h) (Or.inl ⟨by rfl, ?_⟩) ?_ ?_
  rotate_left
  · intro w'
    go_simp
    with_reducible rfl
  rotate_left
  · simp only [Act.put, List.setIfInBounds_toArray, List.set_cons_zero, List.set_cons_succ, i64_w, i32_w]
    rfl
  refine take_ (i := 3) (N := (some 37)) (v := ?_) (a' := ?_) #[true, true, true, true, false, true, true, true, false, false, false, false] rfl rfl (by kernel_rfl) (fun _ _ _ h => h) (Or.inl ⟨by rfl, ?_⟩) hHeld ?_ ?_
  rotate_left
  · rintro w' s0
    have c0_ := pw_cell_below s0 (show w3.cell? ⟨g, 1, none⟩ = some (.map oR) from (blk_cell (blk_below HG.out B2.out.1) 1).trans rfl)
    go_simp
    with_reducible rfl
  rotate_left
  · simp only [Act.put, List.setIfInBounds_toArray, List.set_cons_zero, List.set_cons_succ, i64_w, i32_w]
    rfl
  refine take_ (i := 8) (N := (some 42)) (v := ?_) (a' := ?_) #[true, true, true, true, false, true, true, true, true, false, false, false] rfl rfl (by kernel_rfl) (fun _ _ _ h => h) (Or.inl ⟨by rfl, ?_⟩) hHeld ?_ ?_
  rotate_left
  · rintro w' s0
    have c0_ := pw_cell_below s0 (show w3.cell? ⟨g, 2, none⟩ = some (.map oS) from (blk_cell (blk_below HG.out B2.out.1) 2).trans rfl)
    go_simp
    with_reducible rfl
  rotate_left
  · simp only [Act.put, List.setIfInBounds_toArray, List.set_cons_zero, List.set_cons_succ, i64_w, i32_w]
    rfl
  refine one_ (i := 4) (N := (some 38)) #[true, true, true, true, true, true, true, true, true, false, false, false] rfl rfl (by kernel_rfl) (by decide) (fun K hK => ?_)
  refine goes_ Try.func25 (by kernel_rfl) rfl #[.map oR] (by rfl) rfl rfl (by (try simp only [List.map_toArray, List.map_cons, List.map_nil]); first | done | rfl) ?_
  refine (ownR.calls oR R w3 (HR.out.1.below B2.out.1) HR.out.2).mono ?_
  rintro e w4 ⟨m1, rfl, hm1, hv1, hb1⟩
  refine ⟨_, rfl, ?_⟩
  refine hK.out _ _ (below_step hHeld hb1) (fun hHeld => ?_)
  clear hK K
  refine norm_ (a' := ?_) ?_ ?_
  rotate_left
  · show Act.put _ (some 38) _ = _
    simp only [Act.put, List.setIfInBounds_toArray, List.set_cons_zero, List.set_cons_succ, i64_w, i32_w]
    rfl
  refine one_ (i := 9) (N := (some 43)) #[true, true, true, true, true, true, true, true, true, true, false, false] rfl rfl (by kernel_rfl) (by decide) (fun K hK => ?_)
  refine goes_ Try.func26 (by kernel_rfl) rfl #[.map oS] (by rfl) rfl rfl (by (try simp only [List.map_toArray, List.map_cons, List.map_nil]); first | done | rfl) ?_
  refine (ownS.calls oS S w4 (HS.out.1.below (below_step B2.out.1 hb1)) HS.out.2).mono ?_
  rintro e w5 ⟨m2, rfl, hm2, hv2, hb2⟩
  refine ⟨_, rfl, ?_⟩
  refine hK.out _ _ (below_step (below_step (Below.refl w3.heap.size w3) hb1) hb2) (fun hHeld => ?_)
  clear hK K
  refine norm_ (a' := ?_) ?_ ?_
  rotate_left
  · show Act.put _ (some 43) _ = _
    simp only [Act.put, List.setIfInBounds_toArray, List.set_cons_zero, List.set_cons_succ, i64_w, i32_w]
    rfl
  refine pure_ (i := 10) (N := (some 18)) (v := ?_) (a' := ?_) #[true, true, true, true, true, true, true, true, true, true, true, false] rfl rfl (by kernel_rfl) (fun _ _ _ h => h) (Or.inl ⟨by rfl, ?_⟩) ?_ ?_
  rotate_left
  · intro w'
    go_simp
    with_reducible rfl
  rotate_left
  · simp only [Act.put, List.setIfInBounds_toArray, List.set_cons_zero, List.set_cons_succ, i64_w, i32_w]
    rfl
  refine pure_ (i := 11) (N := (some 19)) (v := ?_) (a' := ?_) #[true, true, true, true, true, true, true, true, true, true, true, true] rfl rfl (by kernel_rfl) (fun _ _ _ h => h) (Or.inl ⟨by rfl, ?_⟩) ?_ ?_
  rotate_left
  · intro w'
    go_simp
    with_reducible rfl
  rotate_left
  · simp only [Act.put, List.setIfInBounds_toArray, List.set_cons_zero, List.set_cons_succ, i64_w, i32_w]
    rfl
  refine done_ (by kernel_rfl) ?_
  clear hHeld
  have B3 := Aside0.mk (show Below w.heap.size w w5 ∧ w5.heap[w.heap.size]? = some (.cells #[.string t, .int .i64 p] 68 (0, 0)) ∧ w5.heap[ge]? = some (.cells #[.int .i64 s, .int .i64 n] 70 (0, 0)) from ⟨below_step (below_step B2.out.1 hb1) hb2, blk_below (blk_below B2.out.2.1 hb1) hb2, blk_below (blk_below B2.out.2.2 hb1) hb2⟩)
  have M1 := Aside0.mk (show w.heap.size ≤ m1 ∧ w.heap.size ≤ m2 ∧ m1 ≠ m2 ∧ w.heap.size ≠ m1 ∧ w.heap.size ≠ m2 from by have h1_ := hv1.lt; have h2_ := B2.out.1.size; have h3_ := hb1.size; have h4_ := blk_lt B2.out.2.1; omega)
  have V1 := Aside0.mk (MapV.below hv1 hb2)
  have V2 := Aside0.mk hv2
  clear B2 hm1 hv1 hb1 hm2 hv2 hb2
  by_cases c1 : nx < st
  case pos =>
    have d1 : decide (nx < st) = true := decide_eq_true c1
    have HB1 := Aside0.mk (show saw1 t p st nx E = true from by rw [HS1.out, d1]; rfl)
    have HF := Aside0.mk (show sawF t p st nx fr l E R S = (1, E, R, S) from if_pos HB1.out)
    go_wp2_with fail
    go_ret
    exact ⟨by rw [HF.out]; rfl, by rw [HF.out]; exact HLP.out.below B3.out.1, below_grown B3.out.1 g⟩
  case neg =>
    have d1 : decide (nx < st) = false := decide_eq_false c1
    have t0 := (blk_cell B3.out.2.2 0).trans rfl
    have t1 := (blk_cell B3.out.2.2 1).trans rfl
    cases ok with
    | false =>
      have HB1 := Aside0.mk (show saw1 t p st nx E = false from by rw [HS1.out, d1]; rfl)
      clear c1
      go_wp2_with fail
      refine (check_misplaced.calls _ st nx fr A c l _ _ (Kd.C_below HC.out.1 B3.out.1) HC.out.2 (mis_f st nx fr l HA.out.hs HA.out.hn HA.out.hf HA.out.hl (fun b_ hb_ => ⟨(HA.out.hw b_ hb_).1, (HA.out.hw b_ hb_).2.1⟩))).mono ?_
      rintro e w6 ⟨rfl, hb6⟩
      have B4 := Aside0.mk (show Below w.heap.size w w6 ∧ w6.heap[w.heap.size]? = some (.cells #[.string t, .int .i64 p] 68 (0, 0)) ∧ w6.heap[ge]? = some (.cells #[.int .i64 s, .int .i64 n] 70 (0, 0)) from ⟨below_step B3.out.1 hb6, blk_below B3.out.2.1 hb6, blk_below B3.out.2.2 hb6⟩)
      have V3 := Aside0.mk (V1.out.below hb6)
      have V4 := Aside0.mk (V2.out.below hb6)
      clear B3 V1 V2 hb6
      cases hmis : misL st nx fr none l with
      | true =>
        have HF := Aside0.mk (show sawF t p st nx fr l E R S = (2, E, R, S) from by unfold sawF; rw [if_neg (by rw [HB1.out]; decide), if_pos hmis])
        clear hmis
        go_wp2_with fail
        go_ret
        exact ⟨by rw [HF.out]; rfl, by rw [HF.out]; exact HLP.out.below B4.out.1, below_grown B4.out.1 g⟩
      | false =>
        have HM2 := Aside0.mk hmis
        clear hmis
        have t0 := (blk_cell B4.out.2.1 0).trans rfl
        have t1 := (blk_cell B4.out.2.1 1).trans rfl
        go_wp2_with fail
        refine (check_changed.calls m1 R t p A c l w w6 V3.out HR.out.2 HC.out.1 B4.out.1 M1.out.1 HA.out.ht HA.out.hp HA.out.hl (fun b_ hb_ => ⟨(HA.out.hw b_ hb_).1, (HA.out.hw b_ hb_).2.2.2.2⟩)).mono ?_
        rintro e w7 ⟨hg7, h7⟩
        clear t0 t1
        have B5 := Aside0.mk (show Below w.heap.size w w7 ∧ w7.heap[w.heap.size]? = some (.cells #[.string t, .int .i64 p] 68 (0, 0)) from ⟨chg_old B4.out.1 M1.out.1 hg7, (hg7.block _ (blk_lt B4.out.2.1) (fun e_ => M1.out.2.2.2.1 (Option.some.inj e_))).trans B4.out.2.1⟩)
        have V5 := Aside0.mk (V4.out.move (hg7.block m2 V4.out.lt (fun e_ => M1.out.2.2.1 (Option.some.inj e_).symm)))
        clear B4 V3 V4 hg7
        rcases h7 with ⟨hc7, rfl⟩ | ⟨R2, hc7, sR2, rfl, hv7⟩
        · have HF := Aside0.mk (show sawF t p st nx fr l E R S = (3, E, R, S) from by unfold sawF; rw [if_neg (by rw [HB1.out]; decide), if_neg (by rw [HM2.out]; decide), hc7])
          clear hc7
          go_wp2_with fail
          go_ret
          exact ⟨by rw [HF.out]; rfl, by rw [HF.out]; exact HLP.out.below B5.out.1, below_grown B5.out.1 g⟩
        have V6 := Aside0.mk (And.intro hv7 sR2)
        have HC7 := Aside0.mk hc7
        clear hc7 hv7 sR2
        have t0 := (blk_cell B5.out.2 0).trans rfl
        have t1 := (blk_cell B5.out.2 1).trans rfl
        go_wp2_with fail
        refine (check_again.calls m2 S t p A c l w w7 V5.out HS.out.2 HC.out.1 B5.out.1 M1.out.2.1 HA.out.ht HA.out.hp HA.out.hl (fun b_ hb_ => ⟨(HA.out.hw b_ hb_).2.2.1, (HA.out.hw b_ hb_).2.2.2.1⟩)).mono ?_
        rintro e w8 ⟨hg8, h8⟩
        clear t0 t1
        have B6 := Aside0.mk (show Below w.heap.size w w8 ∧ w8.heap[w.heap.size]? = some (.cells #[.string t, .int .i64 p] 68 (0, 0)) from ⟨chg_old B5.out.1 M1.out.2.1 hg8, (hg8.block _ (blk_lt B5.out.2) (fun e_ => M1.out.2.2.2.2 (Option.some.inj e_))).trans B5.out.2⟩)
        have V7 := Aside0.mk (V6.out.1.move (hg8.block m1 V6.out.1.lt (fun e_ => M1.out.2.2.1 (Option.some.inj e_))))
        have SR2 := Aside0.mk V6.out.2
        clear B5 V5 V6 hg8
        rcases h8 with ⟨hc8, rfl⟩ | ⟨S2, hc8, sS2, rfl, hv8⟩
        · have HF := Aside0.mk (show sawF t p st nx fr l E R S = (4, E, R, S) from by unfold sawF; rw [if_neg (by rw [HB1.out]; decide), if_neg (by rw [HM2.out]; decide), HC7.out]; dsimp only; rw [hc8])
          clear hc8
          go_wp2_with fail
          go_ret
          exact ⟨by rw [HF.out]; rfl, by rw [HF.out]; exact HLP.out.below B6.out.1, below_grown B6.out.1 g⟩
        have V8 := Aside0.mk (And.intro hv8 sS2)
        have HF := Aside0.mk (show sawF t p st nx fr l E R S = (0, upd E (partV t p) (endsV st nx), R2, S2) from by unfold sawF; rw [if_neg (by rw [HB1.out]; decide), if_neg (by rw [HM2.out]; decide), HC7.out]; dsimp only; rw [hc8])
        clear hc8 hv8 sS2
        have g0 := (blk_cell (blk_below HG.out B6.out.1) 0).trans rfl
        go_wp2_with fail
        refine (ownE.calls oE E w8 (HE.out.1.below B6.out.1) HE.out.2).mono ?_
        rintro e w9 ⟨m3, rfl, hm3, hv9, hb9⟩
        clear g0
        have B7 := Aside0.mk (show Below w.heap.size w w9 ∧ w9.heap[w.heap.size]? = some (.cells #[.string t, .int .i64 p] 68 (0, 0)) ∧ w9.heap[g]? = some (.cells #[.map oE, .map oR, .map oS] 59 (0, 0)) from ⟨below_step B6.out.1 hb9, blk_below B6.out.2 hb9, blk_below (blk_below HG.out B6.out.1) hb9⟩)
        have M3 := Aside0.mk (show w.heap.size ≤ m3 ∧ m3 ≠ m1 ∧ m3 ≠ m2 ∧ w.heap.size ≠ m3 ∧ g ≠ m3 from by have h1_ := V7.out.lt; have h2_ := V8.out.1.lt; have h3_ := blk_lt B6.out.2; have h4_ := B6.out.1.size; have h5_ := HGL.out; omega)
        have VE := Aside0.mk hv9
        have VR := Aside0.mk (V7.out.below hb9)
        have VS := Aside0.mk (V8.out.1.below hb9)
        clear B6 V7 hm3 hv9 hb9
        have g0 := (blk_cell B7.out.2.2 0).trans rfl
        have z0 := blk_frozen B7.out.2.2 0
        go_upto_region 16 with fail
        (try simp only [Act.put, List.setIfInBounds_toArray, List.set_cons_zero, List.set_cons_succ])
        have C1 := Aside0.mk (show w.grownBy (w9.setCell ⟨g, 0, none⟩ (.map (some m3))) (some g) ∧ (w9.setCell ⟨g, 0, none⟩ (.map (some m3))).heap[w.heap.size]? = some (.cells #[.string t, .int .i64 p] 68 (0, 0)) ∧ (w9.setCell ⟨g, 0, none⟩ (.map (some m3))).heap[g]? = some (.cells #[.map (some m3), .map oR, .map oS] 59 (0, 0)) from ⟨grown_set (below_grown B7.out.1 g) 0 _, blk_far B7.out.2.1 (fun e_ => by have := HGL.out; have e2_ : w.heap.size = g := e_; omega) _, by simpa using blk_set B7.out.2.2 0 (.map (some m3))⟩)
        have VE2 := Aside0.mk (VE.out.move (show (w9.setCell ⟨g, 0, none⟩ (.map (some m3))).heap[m3]? = w9.heap[m3]? from Below.heap_setCell w9 ⟨g, 0, none⟩ _ m3 (fun e_ => M3.out.2.2.2.2 e_.symm)))
        have VR2 := Aside0.mk (VR.out.move (show (w9.setCell ⟨g, 0, none⟩ (.map (some m3))).heap[m1]? = w9.heap[m1]? from Below.heap_setCell w9 ⟨g, 0, none⟩ _ m1 (fun e_ => by have := M1.out; have := HGL.out; have e2_ : m1 = g := e_; omega)))
        have VS2 := Aside0.mk (VS.out.move (show (w9.setCell ⟨g, 0, none⟩ (.map (some m3))).heap[m2]? = w9.heap[m2]? from Below.heap_setCell w9 ⟨g, 0, none⟩ _ m2 (fun e_ => by have := M1.out; have := HGL.out; have e2_ : m2 = g := e_; omega)))
        clear g0 z0 B7 VE VR VS
        generalize w9.setCell ⟨g, 0, none⟩ (.map (some m3)) = wa at C1 VE2 VR2 VS2 ⊢
        refine start_ (n := 9) (S := fun w' => Below wa.drew.heap.size wa.drew w') (ds := [8]) #[false, false, false, false, false, false, false, false, false] (by kernel_rfl) rfl rfl (Below.refl _ _) (fun hHeld => ?_)
        have C2 := Aside0.mk (show w.grownBy wa.drew (some g) ∧ wa.drew.heap[w.heap.size]? = some (.cells #[.string t, .int .i64 p] 68 (0, 0)) ∧ wa.drew.heap[g]? = some (.cells #[.map (some m3), .map oR, .map oS] 59 (0, 0)) from ⟨grown_below C1.out.1 (below_drew1 (Below.refl _ _)), C1.out.2⟩)
        have VE3 := Aside0.mk (VE2.out.move (show wa.drew.heap[m3]? = wa.heap[m3]? from rfl))
        have VR3 := Aside0.mk (VR2.out.move (show wa.drew.heap[m1]? = wa.heap[m1]? from rfl))
        have VS3 := Aside0.mk (VS2.out.move (show wa.drew.heap[m2]? = wa.heap[m2]? from rfl))
        clear C1 VE2 VR2 VS2
        generalize wa.drew = wb at C2 VE3 VR3 VS3 hHeld ⊢
        refine pure_ (i := 0) (N := (some 85)) (v := ?_) (a' := ?_) #[true, false, false, false, false, false, false, false, false] rfl rfl (by kernel_rfl) (fun _ _ _ h => h) (Or.inl ⟨by rfl, ?_⟩) ?_ ?_
        rotate_left
        · intro w'
          go_simp
          with_reducible rfl
        rotate_left
        · simp only [Act.put, List.setIfInBounds_toArray, List.set_cons_zero, List.set_cons_succ, i64_w, i32_w]
          rfl
        refine pure_ (i := 1) (N := (some 86)) (v := ?_) (a' := ?_) #[true, true, false, false, false, false, false, false, false] rfl rfl (by kernel_rfl) (fun _ _ _ h => h) (Or.inl ⟨by rfl, ?_⟩) ?_ ?_
        rotate_left
        · intro w'
          go_simp
          with_reducible rfl
        rotate_left
        · simp only [Act.put, List.setIfInBounds_toArray, List.set_cons_zero, List.set_cons_succ, i64_w, i32_w]
          rfl
        refine pure_ (i := 2) (N := (some 87)) (v := ?_) (a' := ?_) #[true, true, true, false, false, false, false, false, false] rfl rfl (by kernel_rfl) (fun _ _ _ h => h) (Or.inl ⟨by rfl, ?_⟩) ?_ ?_
        rotate_left
        · intro w'
          go_simp
          with_reducible rfl
        rotate_left
        · simp only [Act.put, List.setIfInBounds_toArray, List.set_cons_zero, List.set_cons_succ, i64_w, i32_w]
          rfl
        refine pure_ (i := 5) (N := (some 90)) (v := ?_) (a' := ?_) #[true, true, true, false, false, true, false, false, false] rfl rfl (by kernel_rfl) (fun _ _ _ h => h) (Or.inl ⟨by rfl, ?_⟩) ?_ ?_
        rotate_left
        · intro w'
          go_simp
          with_reducible rfl
        rotate_left
        · simp only [Act.put, List.setIfInBounds_toArray, List.set_cons_zero, List.set_cons_succ, i64_w, i32_w]
          rfl
        refine pure_ (i := 6) (N := (some 91)) (v := ?_) (a' := ?_) #[true, true, true, false, false, true, true, false, false] rfl rfl (by kernel_rfl) (fun _ _ _ h => h) (Or.inl ⟨by rfl, ?_⟩) ?_ ?_
        rotate_left
        · intro w'
          go_simp
          with_reducible rfl
        rotate_left
        · simp only [Act.put, List.setIfInBounds_toArray, List.set_cons_zero, List.set_cons_succ, i64_w, i32_w]
          rfl
        refine pure_ (i := 7) (N := (some 92)) (v := ?_) (a' := ?_) #[true, true, true, false, false, true, true, true, false] rfl rfl (by kernel_rfl) (fun _ _ _ h => h) (Or.inl ⟨by rfl, ?_⟩) ?_ ?_
        rotate_left
        · intro w'
          go_simp
          with_reducible rfl
        rotate_left
        · simp only [Act.put, List.setIfInBounds_toArray, List.set_cons_zero, List.set_cons_succ, i64_w, i32_w]
          rfl
        refine take_ (i := 3) (N := (some 88)) (v := ?_) (a' := ?_) #[true, true, true, true, false, true, true, true, false] rfl rfl (by kernel_rfl) (fun _ _ _ h => h) (Or.inl ⟨by rfl, ?_⟩) hHeld ?_ ?_
        rotate_left
        · rintro w' s0
          have c0_ := pw_cell_below s0 (show wb.cell? ⟨g, 0, none⟩ = some (.map (some m3)) from (blk_cell C2.out.2.2 0).trans rfl)
          go_simp
          with_reducible rfl
        rotate_left
        · simp only [Act.put, List.setIfInBounds_toArray, List.set_cons_zero, List.set_cons_succ, i64_w, i32_w]
          rfl
        refine take_ (i := 4) (N := (some 89)) (v := ?_) (a' := ?_) #[true, true, true, true, true, true, true, true, false] rfl rfl (by kernel_rfl) (fun _ _ _ h => h) (Or.inl ⟨by rfl, ?_⟩) hHeld ?_ ?_
        rotate_left
        · rintro w' s0
          have c0_ := pw_cell_below s0 (show wb.cell? ⟨w.heap.size, 0, none⟩ = some (.string t) from (blk_cell C2.out.2.1 0).trans rfl)
          have c1_ := pw_cell_below s0 (show wb.cell? ⟨w.heap.size, 1, none⟩ = some (.int .i64 p) from (blk_cell C2.out.2.1 1).trans rfl)
          go_simp
          with_reducible rfl
        rotate_left
        · simp only [Act.put, List.setIfInBounds_toArray, List.set_cons_zero, List.set_cons_succ, i64_w, i32_w]
          rfl
        refine last_ (i := 8) (N := none) #[true, true, true, true, true, true, true, true, true] rfl rfl (by kernel_rfl) (by decide) (fun K hK => ?_)
        obtain ⟨wc, hrunc, hmc, hgc, hzc⟩ := mapV_put lawE Try.underlying55 VE3.out (v := endsV st nx) HLK.out
        refine skip_ (w1 := wc) (by rfl) rfl ?_ ?_
        · have hrunc_ : (Instr.mapUpdate 55 (.map (some m3)) (.agg #[.string t, .int .i64 p]) (.agg #[.int .i64 st, .int .i64 nx])).run Try.prog wb = .ok () wc := hrunc
          simp [execOp, Act.eval, hrunc_, Result.andThen]
        refine hK.out _ _ ?_
        clear hK K
        refine done_ (by kernel_rfl) ?_
        have C3 := Aside0.mk (show w.grownBy wc (some g) ∧ wc.heap[g]? = some (.cells #[.map (some m3), .map oR, .map oS] 59 (0, 0)) from ⟨grown_new C2.out.1 hgc M3.out.1, (hgc.block g (blk_lt C2.out.2.2) (fun e_ => M3.out.2.2.2.2 (Option.some.inj e_))).trans C2.out.2.2⟩)
        have VE4 := Aside0.mk hmc
        have VR4 := Aside0.mk (VR3.out.move (hgc.block m1 VR3.out.lt (fun e_ => M3.out.2.1 (Option.some.inj e_).symm)))
        have VS4 := Aside0.mk (VS3.out.move (hgc.block m2 VS3.out.lt (fun e_ => M3.out.2.2.1 (Option.some.inj e_).symm)))
        clear C2 VE3 VR3 VS3 hrunc hmc hgc hzc
        have g1 := (blk_cell C3.out.2 1).trans rfl
        have g2 := (blk_cell C3.out.2 2).trans rfl
        have z1 := blk_frozen C3.out.2 1
        have z2 := blk_frozen C3.out.2 2
        have C4 := Aside0.mk (show w.grownBy ((wc.setCell ⟨g, 1, none⟩ (.map (some m1))).setCell ⟨g, 2, none⟩ (.map (some m2))) (some g) ∧ ((wc.setCell ⟨g, 1, none⟩ (.map (some m1))).setCell ⟨g, 2, none⟩ (.map (some m2))).heap[g]? = some (.cells #[.map (some m3), .map (some m1), .map (some m2)] 59 (0, 0)) from ⟨grown_set (grown_set C3.out.1 1 _) 2 _, by simpa using blk_set (show (wc.setCell ⟨g, 1, none⟩ (.map (some m1))).heap[g]? = some (.cells #[.map (some m3), .map (some m1), .map oS] 59 (0, 0)) from by simpa using blk_set C3.out.2 1 (.map (some m1))) 2 (.map (some m2))⟩)
        have VE5 := Aside0.mk (VE4.out.move (show ((wc.setCell ⟨g, 1, none⟩ (.map (some m1))).setCell ⟨g, 2, none⟩ (.map (some m2))).heap[m3]? = wc.heap[m3]? from (Below.heap_setCell _ ⟨g, 2, none⟩ _ m3 (fun e_ => M3.out.2.2.2.2 e_.symm)).trans (Below.heap_setCell wc ⟨g, 1, none⟩ _ m3 (fun e_ => M3.out.2.2.2.2 e_.symm))))
        have VR5 := Aside0.mk (VR4.out.move (show ((wc.setCell ⟨g, 1, none⟩ (.map (some m1))).setCell ⟨g, 2, none⟩ (.map (some m2))).heap[m1]? = wc.heap[m1]? from (Below.heap_setCell _ ⟨g, 2, none⟩ _ m1 (fun e_ => by have := M1.out; have := HGL.out; have e2_ : m1 = g := e_; omega)).trans (Below.heap_setCell wc ⟨g, 1, none⟩ _ m1 (fun e_ => by have := M1.out; have := HGL.out; have e2_ : m1 = g := e_; omega))))
        have VS5 := Aside0.mk (VS4.out.move (show ((wc.setCell ⟨g, 1, none⟩ (.map (some m1))).setCell ⟨g, 2, none⟩ (.map (some m2))).heap[m2]? = wc.heap[m2]? from (Below.heap_setCell _ ⟨g, 2, none⟩ _ m2 (fun e_ => by have := M1.out; have := HGL.out; have e2_ : m2 = g := e_; omega)).trans (Below.heap_setCell wc ⟨g, 1, none⟩ _ m2 (fun e_ => by have := M1.out; have := HGL.out; have e2_ : m2 = g := e_; omega))))
        clear C3 VE4 VR4 VS4
        go_wp2_with fail
        go_ret
        exact ⟨by rw [HF.out]; rfl, by rw [HF.out]; exact ⟨some m3, some m1, some m2, C4.out.2, VE5.out, VR5.out, VS5.out, ShE.upd HE.out.2 t p st nx HA.out.ht HA.out.hp, SR2.out, V8.out.2⟩, C4.out.1⟩
    | true =>
      by_cases c2 : st < s
      case pos =>
        have d2 : decide (st < s) = true := decide_eq_true c2
        have HB1 := Aside0.mk (show saw1 t p st nx E = true from by rw [HS1.out, d1, d2]; rfl)
        have HF := Aside0.mk (show sawF t p st nx fr l E R S = (1, E, R, S) from if_pos HB1.out)
        go_wp2_with fail
        go_ret
        exact ⟨by rw [HF.out]; rfl, by rw [HF.out]; exact HLP.out.below B3.out.1, below_grown B3.out.1 g⟩
      case neg =>
        have d2 : decide (st < s) = false := decide_eq_false c2
        by_cases c3 : nx < n
        case pos =>
          have d3 : decide (nx < n) = true := decide_eq_true c3
          have HB1 := Aside0.mk (show saw1 t p st nx E = true from by rw [HS1.out, d1, d2, d3]; rfl)
          have HF := Aside0.mk (show sawF t p st nx fr l E R S = (1, E, R, S) from if_pos HB1.out)
          go_wp2_with fail
          go_ret
          exact ⟨by rw [HF.out]; rfl, by rw [HF.out]; exact HLP.out.below B3.out.1, below_grown B3.out.1 g⟩
        case neg =>
          have d3 : decide (nx < n) = false := decide_eq_false c3
          have HB1 := Aside0.mk (show saw1 t p st nx E = false from by rw [HS1.out, d1, d2, d3]; rfl)
          clear c1 c2 c3
          go_wp2_with fail
          refine (check_misplaced.calls _ st nx fr A c l _ _ (Kd.C_below HC.out.1 B3.out.1) HC.out.2 (mis_f st nx fr l HA.out.hs HA.out.hn HA.out.hf HA.out.hl (fun b_ hb_ => ⟨(HA.out.hw b_ hb_).1, (HA.out.hw b_ hb_).2.1⟩))).mono ?_
          rintro e w6 ⟨rfl, hb6⟩
          have B4 := Aside0.mk (show Below w.heap.size w w6 ∧ w6.heap[w.heap.size]? = some (.cells #[.string t, .int .i64 p] 68 (0, 0)) ∧ w6.heap[ge]? = some (.cells #[.int .i64 s, .int .i64 n] 70 (0, 0)) from ⟨below_step B3.out.1 hb6, blk_below B3.out.2.1 hb6, blk_below B3.out.2.2 hb6⟩)
          have V3 := Aside0.mk (V1.out.below hb6)
          have V4 := Aside0.mk (V2.out.below hb6)
          clear B3 V1 V2 hb6
          cases hmis : misL st nx fr none l with
          | true =>
            have HF := Aside0.mk (show sawF t p st nx fr l E R S = (2, E, R, S) from by unfold sawF; rw [if_neg (by rw [HB1.out]; decide), if_pos hmis])
            clear hmis
            go_wp2_with fail
            go_ret
            exact ⟨by rw [HF.out]; rfl, by rw [HF.out]; exact HLP.out.below B4.out.1, below_grown B4.out.1 g⟩
          | false =>
            have HM2 := Aside0.mk hmis
            clear hmis
            have t0 := (blk_cell B4.out.2.1 0).trans rfl
            have t1 := (blk_cell B4.out.2.1 1).trans rfl
            go_wp2_with fail
            refine (check_changed.calls m1 R t p A c l w w6 V3.out HR.out.2 HC.out.1 B4.out.1 M1.out.1 HA.out.ht HA.out.hp HA.out.hl (fun b_ hb_ => ⟨(HA.out.hw b_ hb_).1, (HA.out.hw b_ hb_).2.2.2.2⟩)).mono ?_
            rintro e w7 ⟨hg7, h7⟩
            clear t0 t1
            have B5 := Aside0.mk (show Below w.heap.size w w7 ∧ w7.heap[w.heap.size]? = some (.cells #[.string t, .int .i64 p] 68 (0, 0)) from ⟨chg_old B4.out.1 M1.out.1 hg7, (hg7.block _ (blk_lt B4.out.2.1) (fun e_ => M1.out.2.2.2.1 (Option.some.inj e_))).trans B4.out.2.1⟩)
            have V5 := Aside0.mk (V4.out.move (hg7.block m2 V4.out.lt (fun e_ => M1.out.2.2.1 (Option.some.inj e_).symm)))
            clear B4 V3 V4 hg7
            rcases h7 with ⟨hc7, rfl⟩ | ⟨R2, hc7, sR2, rfl, hv7⟩
            · have HF := Aside0.mk (show sawF t p st nx fr l E R S = (3, E, R, S) from by unfold sawF; rw [if_neg (by rw [HB1.out]; decide), if_neg (by rw [HM2.out]; decide), hc7])
              clear hc7
              go_wp2_with fail
              go_ret
              exact ⟨by rw [HF.out]; rfl, by rw [HF.out]; exact HLP.out.below B5.out.1, below_grown B5.out.1 g⟩
            have V6 := Aside0.mk (And.intro hv7 sR2)
            have HC7 := Aside0.mk hc7
            clear hc7 hv7 sR2
            have t0 := (blk_cell B5.out.2 0).trans rfl
            have t1 := (blk_cell B5.out.2 1).trans rfl
            go_wp2_with fail
            refine (check_again.calls m2 S t p A c l w w7 V5.out HS.out.2 HC.out.1 B5.out.1 M1.out.2.1 HA.out.ht HA.out.hp HA.out.hl (fun b_ hb_ => ⟨(HA.out.hw b_ hb_).2.2.1, (HA.out.hw b_ hb_).2.2.2.1⟩)).mono ?_
            rintro e w8 ⟨hg8, h8⟩
            clear t0 t1
            have B6 := Aside0.mk (show Below w.heap.size w w8 ∧ w8.heap[w.heap.size]? = some (.cells #[.string t, .int .i64 p] 68 (0, 0)) from ⟨chg_old B5.out.1 M1.out.2.1 hg8, (hg8.block _ (blk_lt B5.out.2) (fun e_ => M1.out.2.2.2.2 (Option.some.inj e_))).trans B5.out.2⟩)
            have V7 := Aside0.mk (V6.out.1.move (hg8.block m1 V6.out.1.lt (fun e_ => M1.out.2.2.1 (Option.some.inj e_))))
            have SR2 := Aside0.mk V6.out.2
            clear B5 V5 V6 hg8
            rcases h8 with ⟨hc8, rfl⟩ | ⟨S2, hc8, sS2, rfl, hv8⟩
            · have HF := Aside0.mk (show sawF t p st nx fr l E R S = (4, E, R, S) from by unfold sawF; rw [if_neg (by rw [HB1.out]; decide), if_neg (by rw [HM2.out]; decide), HC7.out]; dsimp only; rw [hc8])
              clear hc8
              go_wp2_with fail
              go_ret
              exact ⟨by rw [HF.out]; rfl, by rw [HF.out]; exact HLP.out.below B6.out.1, below_grown B6.out.1 g⟩
            have V8 := Aside0.mk (And.intro hv8 sS2)
            have HF := Aside0.mk (show sawF t p st nx fr l E R S = (0, upd E (partV t p) (endsV st nx), R2, S2) from by unfold sawF; rw [if_neg (by rw [HB1.out]; decide), if_neg (by rw [HM2.out]; decide), HC7.out]; dsimp only; rw [hc8])
            clear hc8 hv8 sS2
            have g0 := (blk_cell (blk_below HG.out B6.out.1) 0).trans rfl
            go_wp2_with fail
            refine (ownE.calls oE E w8 (HE.out.1.below B6.out.1) HE.out.2).mono ?_
            rintro e w9 ⟨m3, rfl, hm3, hv9, hb9⟩
            clear g0
            have B7 := Aside0.mk (show Below w.heap.size w w9 ∧ w9.heap[w.heap.size]? = some (.cells #[.string t, .int .i64 p] 68 (0, 0)) ∧ w9.heap[g]? = some (.cells #[.map oE, .map oR, .map oS] 59 (0, 0)) from ⟨below_step B6.out.1 hb9, blk_below B6.out.2 hb9, blk_below (blk_below HG.out B6.out.1) hb9⟩)
            have M3 := Aside0.mk (show w.heap.size ≤ m3 ∧ m3 ≠ m1 ∧ m3 ≠ m2 ∧ w.heap.size ≠ m3 ∧ g ≠ m3 from by have h1_ := V7.out.lt; have h2_ := V8.out.1.lt; have h3_ := blk_lt B6.out.2; have h4_ := B6.out.1.size; have h5_ := HGL.out; omega)
            have VE := Aside0.mk hv9
            have VR := Aside0.mk (V7.out.below hb9)
            have VS := Aside0.mk (V8.out.1.below hb9)
            clear B6 V7 hm3 hv9 hb9
            have g0 := (blk_cell B7.out.2.2 0).trans rfl
            have z0 := blk_frozen B7.out.2.2 0
            go_upto_region 16 with fail
            (try simp only [Act.put, List.setIfInBounds_toArray, List.set_cons_zero, List.set_cons_succ])
            have C1 := Aside0.mk (show w.grownBy (w9.setCell ⟨g, 0, none⟩ (.map (some m3))) (some g) ∧ (w9.setCell ⟨g, 0, none⟩ (.map (some m3))).heap[w.heap.size]? = some (.cells #[.string t, .int .i64 p] 68 (0, 0)) ∧ (w9.setCell ⟨g, 0, none⟩ (.map (some m3))).heap[g]? = some (.cells #[.map (some m3), .map oR, .map oS] 59 (0, 0)) from ⟨grown_set (below_grown B7.out.1 g) 0 _, blk_far B7.out.2.1 (fun e_ => by have := HGL.out; have e2_ : w.heap.size = g := e_; omega) _, by simpa using blk_set B7.out.2.2 0 (.map (some m3))⟩)
            have VE2 := Aside0.mk (VE.out.move (show (w9.setCell ⟨g, 0, none⟩ (.map (some m3))).heap[m3]? = w9.heap[m3]? from Below.heap_setCell w9 ⟨g, 0, none⟩ _ m3 (fun e_ => M3.out.2.2.2.2 e_.symm)))
            have VR2 := Aside0.mk (VR.out.move (show (w9.setCell ⟨g, 0, none⟩ (.map (some m3))).heap[m1]? = w9.heap[m1]? from Below.heap_setCell w9 ⟨g, 0, none⟩ _ m1 (fun e_ => by have := M1.out; have := HGL.out; have e2_ : m1 = g := e_; omega)))
            have VS2 := Aside0.mk (VS.out.move (show (w9.setCell ⟨g, 0, none⟩ (.map (some m3))).heap[m2]? = w9.heap[m2]? from Below.heap_setCell w9 ⟨g, 0, none⟩ _ m2 (fun e_ => by have := M1.out; have := HGL.out; have e2_ : m2 = g := e_; omega)))
            clear g0 z0 B7 VE VR VS
            generalize w9.setCell ⟨g, 0, none⟩ (.map (some m3)) = wa at C1 VE2 VR2 VS2 ⊢
            refine start_ (n := 9) (S := fun w' => Below wa.drew.heap.size wa.drew w') (ds := [8]) #[false, false, false, false, false, false, false, false, false] (by kernel_rfl) rfl rfl (Below.refl _ _) (fun hHeld => ?_)
            have C2 := Aside0.mk (show w.grownBy wa.drew (some g) ∧ wa.drew.heap[w.heap.size]? = some (.cells #[.string t, .int .i64 p] 68 (0, 0)) ∧ wa.drew.heap[g]? = some (.cells #[.map (some m3), .map oR, .map oS] 59 (0, 0)) from ⟨grown_below C1.out.1 (below_drew1 (Below.refl _ _)), C1.out.2⟩)
            have VE3 := Aside0.mk (VE2.out.move (show wa.drew.heap[m3]? = wa.heap[m3]? from rfl))
            have VR3 := Aside0.mk (VR2.out.move (show wa.drew.heap[m1]? = wa.heap[m1]? from rfl))
            have VS3 := Aside0.mk (VS2.out.move (show wa.drew.heap[m2]? = wa.heap[m2]? from rfl))
            clear C1 VE2 VR2 VS2
            generalize wa.drew = wb at C2 VE3 VR3 VS3 hHeld ⊢
            refine pure_ (i := 0) (N := (some 85)) (v := ?_) (a' := ?_) #[true, false, false, false, false, false, false, false, false] rfl rfl (by kernel_rfl) (fun _ _ _ h => h) (Or.inl ⟨by rfl, ?_⟩) ?_ ?_
            rotate_left
            · intro w'
              go_simp
              with_reducible rfl
            rotate_left
            · simp only [Act.put, List.setIfInBounds_toArray, List.set_cons_zero, List.set_cons_succ, i64_w, i32_w]
              rfl
            refine pure_ (i := 1) (N := (some 86)) (v := ?_) (a' := ?_) #[true, true, false, false, false, false, false, false, false] rfl rfl (by kernel_rfl) (fun _ _ _ h => h) (Or.inl ⟨by rfl, ?_⟩) ?_ ?_
            rotate_left
            · intro w'
              go_simp
              with_reducible rfl
            rotate_left
            · simp only [Act.put, List.setIfInBounds_toArray, List.set_cons_zero, List.set_cons_succ, i64_w, i32_w]
              rfl
            refine pure_ (i := 2) (N := (some 87)) (v := ?_) (a' := ?_) #[true, true, true, false, false, false, false, false, false] rfl rfl (by kernel_rfl) (fun _ _ _ h => h) (Or.inl ⟨by rfl, ?_⟩) ?_ ?_
            rotate_left
            · intro w'
              go_simp
              with_reducible rfl
            rotate_left
            · simp only [Act.put, List.setIfInBounds_toArray, List.set_cons_zero, List.set_cons_succ, i64_w, i32_w]
              rfl
            refine pure_ (i := 5) (N := (some 90)) (v := ?_) (a' := ?_) #[true, true, true, false, false, true, false, false, false] rfl rfl (by kernel_rfl) (fun _ _ _ h => h) (Or.inl ⟨by rfl, ?_⟩) ?_ ?_
            rotate_left
            · intro w'
              go_simp
              with_reducible rfl
            rotate_left
            · simp only [Act.put, List.setIfInBounds_toArray, List.set_cons_zero, List.set_cons_succ, i64_w, i32_w]
              rfl
            refine pure_ (i := 6) (N := (some 91)) (v := ?_) (a' := ?_) #[true, true, true, false, false, true, true, false, false] rfl rfl (by kernel_rfl) (fun _ _ _ h => h) (Or.inl ⟨by rfl, ?_⟩) ?_ ?_
            rotate_left
            · intro w'
              go_simp
              with_reducible rfl
            rotate_left
            · simp only [Act.put, List.setIfInBounds_toArray, List.set_cons_zero, List.set_cons_succ, i64_w, i32_w]
              rfl
            refine pure_ (i := 7) (N := (some 92)) (v := ?_) (a' := ?_) #[true, true, true, false, false, true, true, true, false] rfl rfl (by kernel_rfl) (fun _ _ _ h => h) (Or.inl ⟨by rfl, ?_⟩) ?_ ?_
            rotate_left
            · intro w'
              go_simp
              with_reducible rfl
            rotate_left
            · simp only [Act.put, List.setIfInBounds_toArray, List.set_cons_zero, List.set_cons_succ, i64_w, i32_w]
              rfl
            refine take_ (i := 3) (N := (some 88)) (v := ?_) (a' := ?_) #[true, true, true, true, false, true, true, true, false] rfl rfl (by kernel_rfl) (fun _ _ _ h => h) (Or.inl ⟨by rfl, ?_⟩) hHeld ?_ ?_
            rotate_left
            · rintro w' s0
              have c0_ := pw_cell_below s0 (show wb.cell? ⟨g, 0, none⟩ = some (.map (some m3)) from (blk_cell C2.out.2.2 0).trans rfl)
              go_simp
              with_reducible rfl
            rotate_left
            · simp only [Act.put, List.setIfInBounds_toArray, List.set_cons_zero, List.set_cons_succ, i64_w, i32_w]
              rfl
            refine take_ (i := 4) (N := (some 89)) (v := ?_) (a' := ?_) #[true, true, true, true, true, true, true, true, false] rfl rfl (by kernel_rfl) (fun _ _ _ h => h) (Or.inl ⟨by rfl, ?_⟩) hHeld ?_ ?_
            rotate_left
            · rintro w' s0
              have c0_ := pw_cell_below s0 (show wb.cell? ⟨w.heap.size, 0, none⟩ = some (.string t) from (blk_cell C2.out.2.1 0).trans rfl)
              have c1_ := pw_cell_below s0 (show wb.cell? ⟨w.heap.size, 1, none⟩ = some (.int .i64 p) from (blk_cell C2.out.2.1 1).trans rfl)
              go_simp
              with_reducible rfl
            rotate_left
            · simp only [Act.put, List.setIfInBounds_toArray, List.set_cons_zero, List.set_cons_succ, i64_w, i32_w]
              rfl
            refine last_ (i := 8) (N := none) #[true, true, true, true, true, true, true, true, true] rfl rfl (by kernel_rfl) (by decide) (fun K hK => ?_)
            obtain ⟨wc, hrunc, hmc, hgc, hzc⟩ := mapV_put lawE Try.underlying55 VE3.out (v := endsV st nx) HLK.out
            refine skip_ (w1 := wc) (by rfl) rfl ?_ ?_
            · have hrunc_ : (Instr.mapUpdate 55 (.map (some m3)) (.agg #[.string t, .int .i64 p]) (.agg #[.int .i64 st, .int .i64 nx])).run Try.prog wb = .ok () wc := hrunc
              simp [execOp, Act.eval, hrunc_, Result.andThen]
            refine hK.out _ _ ?_
            clear hK K
            refine done_ (by kernel_rfl) ?_
            have C3 := Aside0.mk (show w.grownBy wc (some g) ∧ wc.heap[g]? = some (.cells #[.map (some m3), .map oR, .map oS] 59 (0, 0)) from ⟨grown_new C2.out.1 hgc M3.out.1, (hgc.block g (blk_lt C2.out.2.2) (fun e_ => M3.out.2.2.2.2 (Option.some.inj e_))).trans C2.out.2.2⟩)
            have VE4 := Aside0.mk hmc
            have VR4 := Aside0.mk (VR3.out.move (hgc.block m1 VR3.out.lt (fun e_ => M3.out.2.1 (Option.some.inj e_).symm)))
            have VS4 := Aside0.mk (VS3.out.move (hgc.block m2 VS3.out.lt (fun e_ => M3.out.2.2.1 (Option.some.inj e_).symm)))
            clear C2 VE3 VR3 VS3 hrunc hmc hgc hzc
            have g1 := (blk_cell C3.out.2 1).trans rfl
            have g2 := (blk_cell C3.out.2 2).trans rfl
            have z1 := blk_frozen C3.out.2 1
            have z2 := blk_frozen C3.out.2 2
            have C4 := Aside0.mk (show w.grownBy ((wc.setCell ⟨g, 1, none⟩ (.map (some m1))).setCell ⟨g, 2, none⟩ (.map (some m2))) (some g) ∧ ((wc.setCell ⟨g, 1, none⟩ (.map (some m1))).setCell ⟨g, 2, none⟩ (.map (some m2))).heap[g]? = some (.cells #[.map (some m3), .map (some m1), .map (some m2)] 59 (0, 0)) from ⟨grown_set (grown_set C3.out.1 1 _) 2 _, by simpa using blk_set (show (wc.setCell ⟨g, 1, none⟩ (.map (some m1))).heap[g]? = some (.cells #[.map (some m3), .map (some m1), .map oS] 59 (0, 0)) from by simpa using blk_set C3.out.2 1 (.map (some m1))) 2 (.map (some m2))⟩)
            have VE5 := Aside0.mk (VE4.out.move (show ((wc.setCell ⟨g, 1, none⟩ (.map (some m1))).setCell ⟨g, 2, none⟩ (.map (some m2))).heap[m3]? = wc.heap[m3]? from (Below.heap_setCell _ ⟨g, 2, none⟩ _ m3 (fun e_ => M3.out.2.2.2.2 e_.symm)).trans (Below.heap_setCell wc ⟨g, 1, none⟩ _ m3 (fun e_ => M3.out.2.2.2.2 e_.symm))))
            have VR5 := Aside0.mk (VR4.out.move (show ((wc.setCell ⟨g, 1, none⟩ (.map (some m1))).setCell ⟨g, 2, none⟩ (.map (some m2))).heap[m1]? = wc.heap[m1]? from (Below.heap_setCell _ ⟨g, 2, none⟩ _ m1 (fun e_ => by have := M1.out; have := HGL.out; have e2_ : m1 = g := e_; omega)).trans (Below.heap_setCell wc ⟨g, 1, none⟩ _ m1 (fun e_ => by have := M1.out; have := HGL.out; have e2_ : m1 = g := e_; omega))))
            have VS5 := Aside0.mk (VS4.out.move (show ((wc.setCell ⟨g, 1, none⟩ (.map (some m1))).setCell ⟨g, 2, none⟩ (.map (some m2))).heap[m2]? = wc.heap[m2]? from (Below.heap_setCell _ ⟨g, 2, none⟩ _ m2 (fun e_ => by have := M1.out; have := HGL.out; have e2_ : m2 = g := e_; omega)).trans (Below.heap_setCell wc ⟨g, 1, none⟩ _ m2 (fun e_ => by have := M1.out; have := HGL.out; have e2_ : m2 = g := e_; omega))))
            clear C3 VE4 VR4 VS4
            go_wp2_with fail
            go_ret
            exact ⟨by rw [HF.out]; rfl, by rw [HF.out]; exact ⟨some m3, some m1, some m2, C4.out.2, VE5.out, VR5.out, VS5.out, ShE.upd HE.out.2 t p st nx HA.out.ht HA.out.hp, SR2.out, V8.out.2⟩, C4.out.1⟩

end Go.Proofs.Ytdlkofmcioalfaa.PCk
