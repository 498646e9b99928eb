-- written by a program of this session (wip/tools/pr.py, over the kit's printer): not by hand
import Derived.Test.YtgmeellapjimgaaQPBdx2
import Derived.Test.YtgmeellapjimgaaQPBdx4
import Derived.Test.YtgmeellapjimgaaQPBdx7
namespace Go.Proofs.Ytgmeellapjimgaa.PBd
open Go.RowKit Go.Proofs.YtgmeellapjimgaaW.PrintWords Go.Proofs.YtgmeellapjimgaaW.PrintLast Go.Proofs.YtgmeellapjimgaaW.PrintMore
attribute [local go_sem] max2_int min2_int max_two min_two max_three min_three max_four min_four   -- for this text's walks alone
set_option linter.unusedVariables false
set_option linter.unusedSimpArgs false

/-! ### batch_Decode -/
def batch_Decode.bad : Option (Int × Int × Int × Int × List S45 × Int × Int) := some (0, 0, 0, 0, [], 0, 10)
def batch_Decode.fin (k : Nat) (l : List Int) (n b s p q : Int) (x : List S45) : Option (Int × Int × Int × Int × List S45 × Int × Int) :=
  (batch_Encode.f k b s p q x).bind fun t => if t.2 = 0 then (bytes_Equal.f t.1 (l.take n.toNat)).bind fun e => if e = true then some (b, s, p, q, x, n, 0) else batch_Decode.bad else batch_Decode.bad
def batch_Decode.l0 : Nat → List Int → Int → Int → Int → Int → Int → Int → Int → List S45 → Option (Int × Int × Int × Int × List S45 × Int × Int)
  | 0, _, _, _, _, _, _, _, _, _ => none
  | k + 1, l, n, first, b, s, p, q, at_, x => if at_ < n then (if 0 ≤ at_ then (record_Decode.f k ((l.take n.toNat).drop at_.toNat) first).bind fun t => (if t.2.2.2.2.2.2.2 = 0 then (if x.length < 2199023255552 then batch_Decode.l0 k l n first b s p q (wrap64 (at_ + t.2.2.2.2.2.2.1)) (x ++ [(⟨t.1, t.2.1, t.2.2.1, t.2.2.2.1, t.2.2.2.2.1, t.2.2.2.2.2.1⟩ : S45)]) else none) else batch_Decode.bad) else none) else batch_Decode.fin k l n b s p q x
def batch_Decode.f (k : Nat) (l : List Int) : Option (Int × Int × Int × Int × List S45 × Int × Int) :=
  if (l.length : Int) < 48 then batch_Decode.bad else (batch_get.f k l 8 4).bind fun m => if 0 ≤ m ∧ m < 4294967296 then (if 12 + m < 48 then batch_Decode.bad else if 12 + m > (l.length : Int) then batch_Decode.bad else if 12 + m > 6000 then batch_Decode.bad else
    (batch_get.f k l 16 8).bind fun p => (batch_get.f k l 24 8).bind fun q => (batch_get.f k l 32 4).bind fun s => (batch_get.f k l 36 4).bind fun c => (batch_get.f k l 40 8).bind fun t => (batch_get.f k l 0 8).bind fun b => batch_Decode.l0 k l (12 + m) t b s p q 48 []) else none
theorem batch_Decode.fin_mono (k : Nat) (l : List Int) (n b s p q : Int) (x : List S45) : LeO (batch_Decode.fin k l n b s p q x) (batch_Decode.fin (k + 1) l n b s p q x) := by
  unfold batch_Decode.fin
  exact LeO.bind (batch_Encode.mono _ _ _ _ _ _) (fun t => LeO.refl _)
theorem batch_Decode.mono_l : ∀ k l n first b s p q at_ x, LeO (batch_Decode.l0 k l n first b s p q at_ x) (batch_Decode.l0 (k + 1) l n first b s p q at_ x)
  | 0 => fun _ _ _ _ _ _ _ _ _ r h => by cases h
  | k + 1 => fun l n first b s p q at_ x => by
    rw [batch_Decode.l0, batch_Decode.l0]
    exact LeO.ite (LeO.ite (LeO.bind (record_Decode.mono _ _ _) (fun t => LeO.ite (LeO.ite (batch_Decode.mono_l k _ _ _ _ _ _ _ _ _) (LeO.refl _)) (LeO.refl _))) (LeO.refl _)) (batch_Decode.fin_mono _ _ _ _ _ _ _ _)
theorem batch_Decode.mono : ∀ a0 k, LeO (batch_Decode.f k a0) (batch_Decode.f (k + 1) a0) := by
  intro l k
  unfold batch_Decode.f
  repeat' first | (with_reducible exact LeO.refl _) | (with_reducible exact batch_get.mono _ _ _ _) | (with_reducible exact batch_Decode.mono_l _ _ _ _ _ _ _ _ _ _) | (with_reducible refine LeO.ite ?_ ?_) | (with_reducible refine LeO.bind ?_ (fun _ => ?_))
/-- Where Decode stands: the result's block, the numbers' block behind it, the records. -/
structure BdSt (w W : World) (b s p q : Int) (u : Value) (v0 v1 v2 v3 v4 : Int) (x : List S45) : Prop where
  bel : Below w.heap.size w W
  bt : W.heap[w.heap.size]? = some (.cells #[.int .i64 b, .int .i64 s, .int .i64 p, .int .i64 q, u] 24 (0, 0))
  vt : W.heap[w.heap.size + 1]? = some (.cells #[.int .i64 v0, .int .i64 v1, .int .i64 v2, .int .i64 v3, .int .i64 v4] 69 (0, 0))
  row : Kd.R k45 45 W w.heap.size (fun _ => True) u x
theorem BdSt.new (w : World) (nd : Nat) : BdSt w (((w.alloc (.cells #[.int .i64 0, .int .i64 0, .int .i64 0, .int .i64 0, .slice none 0 0] 24)).drewN nd).alloc (.cells #[.int .i64 0, .int .i64 0, .int .i64 0, .int .i64 0, .int .i64 0] 69)) 0 0 0 0 (.slice none 0 0) 0 0 0 0 0 [] := by
  refine ⟨below_alloc (pw_below_drewN (below_alloc (Below.refl _ _) _) _) _, blk_alloc (blk_drewN (heap_alloc_new w _) _) _, ?_, Kd.R_nil _ _ _ _ _⟩
  have := heap_alloc_new ((w.alloc (.cells #[.int .i64 0, .int .i64 0, .int .i64 0, .int .i64 0, .slice none 0 0] 24)).drewN nd) (.cells #[.int .i64 0, .int .i64 0, .int .i64 0, .int .i64 0, .int .i64 0] 69)
  simpa using this
section
variable {w W W2 : World} {b s p q : Int} {u : Value} {v0 v1 v2 v3 v4 : Int} {x : List S45}
theorem BdSt.below (h : BdSt w W b s p q u v0 v1 v2 v3 v4 x) (hb : Below W.heap.size W W2) : BdSt w W2 b s p q u v0 v1 v2 v3 v4 x := ⟨below_step h.bel hb, blk_below h.bt hb, blk_below h.vt hb, Kd.R_below h.row hb⟩
theorem BdSt.drewN (h : BdSt w W b s p q u v0 v1 v2 v3 v4 x) (m : Nat) : BdSt w (W.drewN m) b s p q u v0 v1 v2 v3 v4 x := h.below (pw_below_drewN (Below.refl _ _) m)
theorem BdSt.drew (h : BdSt w W b s p q u v0 v1 v2 v3 v4 x) : BdSt w W.drew b s p q u v0 v1 v2 v3 v4 x := h.below (below_drew1 (Below.refl _ _))
theorem BdSt.alloc (h : BdSt w W b s p q u v0 v1 v2 v3 v4 x) (o : Obj) : BdSt w (W.alloc o) b s p q u v0 v1 v2 v3 v4 x := h.below (below_alloc (Below.refl _ _) o)
theorem BdSt.setv0 (h : BdSt w W b s p q u v0 v1 v2 v3 v4 x) (y : Int) : BdSt w (W.setCell ⟨w.heap.size + 1, 0, none⟩ (.int .i64 y)) b s p q u y v1 v2 v3 v4 x := ⟨below_set h.bel (Nat.le_succ _), blk_far h.bt (by simp) _, by simpa using blk_set h.vt 0 (.int .i64 y), Kd.R_set h.row h.vt (by decide) 0 _⟩
theorem BdSt.setv1 (h : BdSt w W b s p q u v0 v1 v2 v3 v4 x) (y : Int) : BdSt w (W.setCell ⟨w.heap.size + 1, 1, none⟩ (.int .i64 y)) b s p q u v0 y v2 v3 v4 x := ⟨below_set h.bel (Nat.le_succ _), blk_far h.bt (by simp) _, by simpa using blk_set h.vt 1 (.int .i64 y), Kd.R_set h.row h.vt (by decide) 1 _⟩
theorem BdSt.setv2 (h : BdSt w W b s p q u v0 v1 v2 v3 v4 x) (y : Int) : BdSt w (W.setCell ⟨w.heap.size + 1, 2, none⟩ (.int .i64 y)) b s p q u v0 v1 y v3 v4 x := ⟨below_set h.bel (Nat.le_succ _), blk_far h.bt (by simp) _, by simpa using blk_set h.vt 2 (.int .i64 y), Kd.R_set h.row h.vt (by decide) 2 _⟩
theorem BdSt.setv3 (h : BdSt w W b s p q u v0 v1 v2 v3 v4 x) (y : Int) : BdSt w (W.setCell ⟨w.heap.size + 1, 3, none⟩ (.int .i64 y)) b s p q u v0 v1 v2 y v4 x := ⟨below_set h.bel (Nat.le_succ _), blk_far h.bt (by simp) _, by simpa using blk_set h.vt 3 (.int .i64 y), Kd.R_set h.row h.vt (by decide) 3 _⟩
theorem BdSt.setv4 (h : BdSt w W b s p q u v0 v1 v2 v3 v4 x) (y : Int) : BdSt w (W.setCell ⟨w.heap.size + 1, 4, none⟩ (.int .i64 y)) b s p q u v0 v1 v2 v3 y x := ⟨below_set h.bel (Nat.le_succ _), blk_far h.bt (by simp) _, by simpa using blk_set h.vt 4 (.int .i64 y), Kd.R_set h.row h.vt (by decide) 4 _⟩
theorem BdSt.bcells (h : BdSt w W b s p q u v0 v1 v2 v3 v4 x) : W.cell? ⟨w.heap.size, 0, none⟩ = some (.int .i64 b) ∧ W.cell? ⟨w.heap.size, 1, none⟩ = some (.int .i64 s) ∧ W.cell? ⟨w.heap.size, 2, none⟩ = some (.int .i64 p) ∧ W.cell? ⟨w.heap.size, 3, none⟩ = some (.int .i64 q) ∧ W.cell? ⟨w.heap.size, 4, none⟩ = some u :=
  ⟨(blk_cell h.bt 0).trans rfl, (blk_cell h.bt 1).trans rfl, (blk_cell h.bt 2).trans rfl, (blk_cell h.bt 3).trans rfl, (blk_cell h.bt 4).trans rfl⟩
theorem BdSt.vcells (h : BdSt w W b s p q u v0 v1 v2 v3 v4 x) : W.cell? ⟨w.heap.size + 1, 0, none⟩ = some (.int .i64 v0) ∧ W.cell? ⟨w.heap.size + 1, 1, none⟩ = some (.int .i64 v1) ∧ W.cell? ⟨w.heap.size + 1, 2, none⟩ = some (.int .i64 v2) ∧ W.cell? ⟨w.heap.size + 1, 3, none⟩ = some (.int .i64 v3) ∧ W.cell? ⟨w.heap.size + 1, 4, none⟩ = some (.int .i64 v4) :=
  ⟨(blk_cell h.vt 0).trans rfl, (blk_cell h.vt 1).trans rfl, (blk_cell h.vt 2).trans rfl, (blk_cell h.vt 3).trans rfl, (blk_cell h.vt 4).trans rfl⟩
theorem BdSt.bfree (h : BdSt w W b s p q u v0 v1 v2 v3 v4 x) : W.frozen? ⟨w.heap.size, 0, none⟩ = false ∧ W.frozen? ⟨w.heap.size, 1, none⟩ = false ∧ W.frozen? ⟨w.heap.size, 2, none⟩ = false ∧ W.frozen? ⟨w.heap.size, 3, none⟩ = false ∧ W.frozen? ⟨w.heap.size, 4, none⟩ = false :=
  ⟨blk_frozen h.bt 0, blk_frozen h.bt 1, blk_frozen h.bt 2, blk_frozen h.bt 3, blk_frozen h.bt 4⟩
theorem BdSt.vfree (h : BdSt w W b s p q u v0 v1 v2 v3 v4 x) (j : Nat) : W.frozen? ⟨w.heap.size + 1, j, none⟩ = false := blk_frozen h.vt j
/-- A whole batch laid into the result's block, its records' row being another's. -/
theorem BdSt.setB (h : BdSt w W b s p q u v0 v1 v2 v3 v4 x) (b' s' p' q' : Int) (u' : Value) (x' : List S45) (hr : Kd.R k45 45 W w.heap.size (fun _ => True) u' x') :
    BdSt w (((((W.setCell ⟨w.heap.size, 0, none⟩ (.int .i64 b')).setCell ⟨w.heap.size, 1, none⟩ (.int .i64 s')).setCell ⟨w.heap.size, 2, none⟩ (.int .i64 p')).setCell ⟨w.heap.size, 3, none⟩ (.int .i64 q')).setCell ⟨w.heap.size, 4, none⟩ u') b' s' p' q' u' v0 v1 v2 v3 v4 x' := by
  have far : ∀ {W : World} (j : Nat) (y : Value), W.heap[w.heap.size + 1]? = some (.cells #[.int .i64 v0, .int .i64 v1, .int .i64 v2, .int .i64 v3, .int .i64 v4] 69 (0, 0)) → (W.setCell ⟨w.heap.size, j, none⟩ y).heap[w.heap.size + 1]? = some (.cells #[.int .i64 v0, .int .i64 v1, .int .i64 v2, .int .i64 v3, .int .i64 v4] 69 (0, 0)) := fun j y hv => blk_far hv (by simp) y
  have s0 : (W.setCell ⟨w.heap.size, 0, none⟩ (.int .i64 b')).heap[w.heap.size]? = some (.cells #[.int .i64 b', .int .i64 s, .int .i64 p, .int .i64 q, u] 24 (0, 0)) := by simpa using blk_set h.bt 0 (.int .i64 b')
  have s1 : ((W.setCell ⟨w.heap.size, 0, none⟩ (.int .i64 b')).setCell ⟨w.heap.size, 1, none⟩ (.int .i64 s')).heap[w.heap.size]? = some (.cells #[.int .i64 b', .int .i64 s', .int .i64 p, .int .i64 q, u] 24 (0, 0)) := by simpa using blk_set s0 1 (.int .i64 s')
  have s2 : (((W.setCell ⟨w.heap.size, 0, none⟩ (.int .i64 b')).setCell ⟨w.heap.size, 1, none⟩ (.int .i64 s')).setCell ⟨w.heap.size, 2, none⟩ (.int .i64 p')).heap[w.heap.size]? = some (.cells #[.int .i64 b', .int .i64 s', .int .i64 p', .int .i64 q, u] 24 (0, 0)) := by simpa using blk_set s1 2 (.int .i64 p')
  have s3 : ((((W.setCell ⟨w.heap.size, 0, none⟩ (.int .i64 b')).setCell ⟨w.heap.size, 1, none⟩ (.int .i64 s')).setCell ⟨w.heap.size, 2, none⟩ (.int .i64 p')).setCell ⟨w.heap.size, 3, none⟩ (.int .i64 q')).heap[w.heap.size]? = some (.cells #[.int .i64 b', .int .i64 s', .int .i64 p', .int .i64 q', u] 24 (0, 0)) := by simpa using blk_set s2 3 (.int .i64 q')
  refine ⟨?_, by simpa using blk_set s3 4 u', far 4 _ (far 3 _ (far 2 _ (far 1 _ (far 0 _ h.vt)))), ?_⟩
  · exact below_set (below_set (below_set (below_set (below_set h.bel (Nat.le_refl _)) (Nat.le_refl _)) (Nat.le_refl _)) (Nat.le_refl _)) (Nat.le_refl _)
  · exact Kd.R_set (Kd.R_set (Kd.R_set (Kd.R_set (Kd.R_set hr h.bt (by decide) 0 _) s0 (by decide) 1 _) s1 (by decide) 2 _) s2 (by decide) 3 _) s3 (by decide) 4 _
/-- The records' row alone. -/
theorem BdSt.setU (hbel : Below w.heap.size w W) (hbt : W.heap[w.heap.size]? = some (.cells #[.int .i64 b, .int .i64 s, .int .i64 p, .int .i64 q, u] 24 (0, 0))) (hvt : W.heap[w.heap.size + 1]? = some (.cells #[.int .i64 v0, .int .i64 v1, .int .i64 v2, .int .i64 v3, .int .i64 v4] 69 (0, 0))) (u' : Value) (x' : List S45) (hr : Kd.R k45 45 W w.heap.size (fun _ => True) u' x') :
    BdSt w (W.setCell ⟨w.heap.size, 4, none⟩ u') b s p q u' v0 v1 v2 v3 v4 x' :=
  ⟨below_set hbel (Nat.le_refl _), by simpa using blk_set hbt 4 u', blk_far hvt (by simp) _, Kd.R_set hr hbt (by decide) 4 _⟩
end
theorem bd_far {w W : World} {b s p q : Int} {u : Value} {v0 v1 v2 v3 v4 : Int} {x : List S45} {g : Nat} (h : BdSt w W b s p q u v0 v1 v2 v3 v4 x) (hg : w.heap.size + 2 ≤ g) (hr : Kd.R k45 45 W w.heap.size (fun k => k ≠ g) u x) (c0 c1 c2 c3 c4 c5 : Value) :
    BdSt w ((((((W.setCell ⟨g, 0, none⟩ c0).setCell ⟨g, 1, none⟩ c1).setCell ⟨g, 2, none⟩ c2).setCell ⟨g, 3, none⟩ c3).setCell ⟨g, 4, none⟩ c4).setCell ⟨g, 5, none⟩ c5) b s p q u v0 v1 v2 v3 v4 x ∧
    Kd.R k45 45 ((((((W.setCell ⟨g, 0, none⟩ c0).setCell ⟨g, 1, none⟩ c1).setCell ⟨g, 2, none⟩ c2).setCell ⟨g, 3, none⟩ c3).setCell ⟨g, 4, none⟩ c4).setCell ⟨g, 5, none⟩ c5) w.heap.size (fun k => k ≠ g) u x := by
  have one : ∀ {W : World} (j : Nat) (y : Value), BdSt w W b s p q u v0 v1 v2 v3 v4 x ∧ Kd.R k45 45 W w.heap.size (fun k => k ≠ g) u x → BdSt w (W.setCell ⟨g, j, none⟩ y) b s p q u v0 v1 v2 v3 v4 x ∧ Kd.R k45 45 (W.setCell ⟨g, j, none⟩ y) w.heap.size (fun k => k ≠ g) u x := by
    rintro W j y ⟨h, hr⟩
    have hr2 := Kd.R_far (p := ⟨g, j, none⟩) hr (fun _ hk => hk) y
    exact ⟨⟨below_set h.bel (by omega), blk_far h.bt (show w.heap.size ≠ g by omega) y, blk_far h.vt (show w.heap.size + 1 ≠ g by omega) y, Kd.R_mono hr2 (fun _ _ => trivial)⟩, hr2⟩
  exact one 5 c5 (one 4 c4 (one 3 c3 (one 2 c2 (one 1 c1 (one 0 c0 ⟨h, hr⟩)))))
theorem bd_zero {w W : World} {c0 c1 c2 c3 c4 : Value} (hb : Below w.heap.size w W) (ht : W.heap[w.heap.size]? = some (.cells #[c0, c1, c2, c3, c4] 24 (0, 0))) (a0 a1 a2 a3 a4 : Value) :
    (((((W.setCell ⟨w.heap.size, 0, none⟩ a0).setCell ⟨w.heap.size, 1, none⟩ a1).setCell ⟨w.heap.size, 2, none⟩ a2).setCell ⟨w.heap.size, 3, none⟩ a3).setCell ⟨w.heap.size, 4, none⟩ a4).heap[w.heap.size]? = some (.cells #[a0, a1, a2, a3, a4] 24 (0, 0)) ∧
    Below w.heap.size w (((((W.setCell ⟨w.heap.size, 0, none⟩ a0).setCell ⟨w.heap.size, 1, none⟩ a1).setCell ⟨w.heap.size, 2, none⟩ a2).setCell ⟨w.heap.size, 3, none⟩ a3).setCell ⟨w.heap.size, 4, none⟩ a4) := by
  have s0 := blk_set ht 0 a0
  have s1 := blk_set s0 1 a1
  have s2 := blk_set s1 2 a2
  have s3 := blk_set s2 3 a3
  have s4 := blk_set s3 4 a4
  exact ⟨by simpa using s4, below_set (below_set (below_set (below_set (below_set hb (Nat.le_refl _)) (Nat.le_refl _)) (Nat.le_refl _)) (Nat.le_refl _)) (Nat.le_refl _)⟩
set_option maxHeartbeats 4000000 in
set_option maxRecDepth 100000 in
theorem batch_Decode.short (k : Nat) (A : Option Addr) (c : Nat) (l : List Int) (w : World) (hr : Kd.C (Kd.int .u8) w A l.length l) (hc : l.length ≤ c) (h : (l.length : Int) < 48) :
    Calls Try.prog 22 #[.slice A l.length c] w fun e w' => ∃ v4_ : Value, e = .returned (.tuple #[.agg #[.int .i64 0, .int .i64 0, .int .i64 0, .int .i64 0, v4_], .int .i64 0, .int .i64 10]) ∧ Kd.R k45 45 w' w.heap.size (fun _ => True) v4_ [] ∧ Below w.heap.size w w' := by
  have f0 : decide ((l.length : Int) < 48) = true := decide_eq_true h
  have f1 : decide (l.length < 48) = true := decide_eq_true (by omega)
  clear hr hc h
  go_enter Try.func22, Try.ntmps22
  go_wp2_with fail
  refine bodyPost_ret (results_ctt rfl _ _ w.heap.size 24 #[.int .i64 0, .int .i64 0, .int .i64 0, .int .i64 0, .slice none 0 0] (0, 0) _ rfl (heap_alloc_new w _) Try.underlying24 rfl (by kernel_rfl)) rfl ?_
  exact ⟨_, rfl, Kd.R_nil _ _ _ _ _, below_alloc (Below.refl _ _) _⟩
set_option maxHeartbeats 4000000 in
set_option maxRecDepth 100000 in
theorem batch_Decode.less (k : Nat) (A : Option Addr) (c : Nat) (l : List Int) (w : World) (hr : Kd.C (Kd.int .u8) w A l.length l) (hc : l.length ≤ c) (m : Int) (h0 : ¬ (l.length : Int) < 48) (hg : batch_get.f k l 8 4 = some m) (hm : 0 ≤ m ∧ m < 4294967296) (h1 : 12 + m < 48) :
    Calls Try.prog 22 #[.slice A l.length c] w fun e w' => ∃ v4_ : Value, e = .returned (.tuple #[.agg #[.int .i64 0, .int .i64 0, .int .i64 0, .int .i64 0, v4_], .int .i64 0, .int .i64 10]) ∧ Kd.R k45 45 w' w.heap.size (fun _ => True) v4_ [] ∧ Below w.heap.size w w' := by
  have f0 : decide ((l.length : Int) < 48) = false := decide_eq_false h0
  have f1 : decide (l.length < 48) = false := decide_eq_false (by omega)
  have g0 : decide (12 + m < 48) = true := decide_eq_true h1
  have HR := Aside0.mk hr
  have HC := Aside0.mk hc
  have HG := Aside0.mk hg
  have m0 := hm.1
  have m1 := hm.2
  clear hr hc hg hm
  go_enter Try.func22, Try.ntmps22
  go_wp2_with fail
  refine (batch_get.calls k A c l 8 4 m _ (Kd.C_below HR.out (below_alloc (Below.refl _ _) _)) HC.out HG.out).mono ?_
  rintro e w' ⟨rfl, ⟨nd, rfl⟩⟩
  have b0 : ((w.alloc (.cells #[.int .i64 0, .int .i64 0, .int .i64 0, .int .i64 0, .slice none 0 0] 24)).drewN nd).heap[w.heap.size]? = some (.cells #[.int .i64 0, .int .i64 0, .int .i64 0, .int .i64 0, .slice none 0 0] 24 (0, 0)) := heap_alloc_new w _
  have B0 := Aside0.mk b0
  clear b0
  go_wp2_with fail
  have Z_ := bd_zero (pw_below_drewN (below_alloc (Below.refl _ _) _) nd) B0.out (.int .i64 0) (.int .i64 0) (.int .i64 0) (.int .i64 0) (.slice none 0 0)
  refine bodyPost_ret (results_ctt rfl _ _ w.heap.size 24 #[.int .i64 0, .int .i64 0, .int .i64 0, .int .i64 0, .slice none 0 0] (0, 0) _ rfl Z_.1 Try.underlying24 rfl (by kernel_rfl)) rfl ?_
  exact ⟨_, rfl, Kd.R_nil _ _ _ _ _, Z_.2⟩
set_option maxHeartbeats 4000000 in
set_option maxRecDepth 100000 in
theorem batch_Decode.more (k : Nat) (A : Option Addr) (c : Nat) (l : List Int) (w : World) (hr : Kd.C (Kd.int .u8) w A l.length l) (hc : l.length ≤ c) (m : Int) (h0 : ¬ (l.length : Int) < 48) (hg : batch_get.f k l 8 4 = some m) (hm : 0 ≤ m ∧ m < 4294967296) (h1 : ¬ 12 + m < 48) (h2 : 12 + m > (l.length : Int)) :
    Calls Try.prog 22 #[.slice A l.length c] w fun e w' => ∃ v4_ : Value, e = .returned (.tuple #[.agg #[.int .i64 0, .int .i64 0, .int .i64 0, .int .i64 0, v4_], .int .i64 0, .int .i64 10]) ∧ Kd.R k45 45 w' w.heap.size (fun _ => True) v4_ [] ∧ Below w.heap.size w w' := by
  have f0 : decide ((l.length : Int) < 48) = false := decide_eq_false h0
  have f1 : decide (l.length < 48) = false := decide_eq_false (by omega)
  have g0 : decide (12 + m < 48) = false := decide_eq_false h1
  have g1 : decide ((l.length : Int) < 12 + m) = true := decide_eq_true h2
  have HR := Aside0.mk hr
  have HC := Aside0.mk hc
  have HG := Aside0.mk hg
  have m0 := hm.1
  have m1 := hm.2
  clear hr hc hg hm
  go_enter Try.func22, Try.ntmps22
  go_wp2_with fail
  refine (batch_get.calls k A c l 8 4 m _ (Kd.C_below HR.out (below_alloc (Below.refl _ _) _)) HC.out HG.out).mono ?_
  rintro e w' ⟨rfl, ⟨nd, rfl⟩⟩
  have b0 : ((w.alloc (.cells #[.int .i64 0, .int .i64 0, .int .i64 0, .int .i64 0, .slice none 0 0] 24)).drewN nd).heap[w.heap.size]? = some (.cells #[.int .i64 0, .int .i64 0, .int .i64 0, .int .i64 0, .slice none 0 0] 24 (0, 0)) := heap_alloc_new w _
  have B0 := Aside0.mk b0
  clear b0
  go_wp2_with fail
  have Z_ := bd_zero (pw_below_drewN (below_alloc (Below.refl _ _) _) nd) B0.out (.int .i64 0) (.int .i64 0) (.int .i64 0) (.int .i64 0) (.slice none 0 0)
  refine bodyPost_ret (results_ctt rfl _ _ w.heap.size 24 #[.int .i64 0, .int .i64 0, .int .i64 0, .int .i64 0, .slice none 0 0] (0, 0) _ rfl Z_.1 Try.underlying24 rfl (by kernel_rfl)) rfl ?_
  exact ⟨_, rfl, Kd.R_nil _ _ _ _ _, Z_.2⟩
set_option maxHeartbeats 4000000 in
set_option maxRecDepth 100000 in
theorem batch_Decode.large (k : Nat) (A : Option Addr) (c : Nat) (l : List Int) (w : World) (hr : Kd.C (Kd.int .u8) w A l.length l) (hc : l.length ≤ c) (m : Int) (h0 : ¬ (l.length : Int) < 48) (hg : batch_get.f k l 8 4 = some m) (hm : 0 ≤ m ∧ m < 4294967296) (h1 : ¬ 12 + m < 48) (h2 : ¬ 12 + m > (l.length : Int)) (h3 : 12 + m > 6000) :
    Calls Try.prog 22 #[.slice A l.length c] w fun e w' => ∃ v4_ : Value, e = .returned (.tuple #[.agg #[.int .i64 0, .int .i64 0, .int .i64 0, .int .i64 0, v4_], .int .i64 0, .int .i64 10]) ∧ Kd.R k45 45 w' w.heap.size (fun _ => True) v4_ [] ∧ Below w.heap.size w w' := by
  have f0 : decide ((l.length : Int) < 48) = false := decide_eq_false h0
  have f1 : decide (l.length < 48) = false := decide_eq_false (by omega)
  have g0 : decide (12 + m < 48) = false := decide_eq_false h1
  have g1 : decide ((l.length : Int) < 12 + m) = false := decide_eq_false (by omega)
  have g2 : decide (6000 < 12 + m) = true := decide_eq_true h3
  have HR := Aside0.mk hr
  have HC := Aside0.mk hc
  have HG := Aside0.mk hg
  have m0 := hm.1
  have m1 := hm.2
  clear hr hc hg hm
  go_enter Try.func22, Try.ntmps22
  go_wp2_with fail
  refine (batch_get.calls k A c l 8 4 m _ (Kd.C_below HR.out (below_alloc (Below.refl _ _) _)) HC.out HG.out).mono ?_
  rintro e w' ⟨rfl, ⟨nd, rfl⟩⟩
  have b0 : ((w.alloc (.cells #[.int .i64 0, .int .i64 0, .int .i64 0, .int .i64 0, .slice none 0 0] 24)).drewN nd).heap[w.heap.size]? = some (.cells #[.int .i64 0, .int .i64 0, .int .i64 0, .int .i64 0, .slice none 0 0] 24 (0, 0)) := heap_alloc_new w _
  have B0 := Aside0.mk b0
  clear b0
  go_wp2_with fail
  have Z_ := bd_zero (pw_below_drewN (below_alloc (Below.refl _ _) _) nd) B0.out (.int .i64 0) (.int .i64 0) (.int .i64 0) (.int .i64 0) (.slice none 0 0)
  refine bodyPost_ret (results_ctt rfl _ _ w.heap.size 24 #[.int .i64 0, .int .i64 0, .int .i64 0, .int .i64 0, .slice none 0 0] (0, 0) _ rfl Z_.1 Try.underlying24 rfl (by kernel_rfl)) rfl ?_
  exact ⟨_, rfl, Kd.R_nil _ _ _ _ _, Z_.2⟩
set_option maxHeartbeats 4000000 in
set_option maxRecDepth 100000 in
theorem batch_Decode.main (k : Nat) (A : Option Addr) (c : Nat) (l : List Int) (w : World) (hr : Kd.C (Kd.int .u8) w A l.length l) (hc : l.length ≤ c) (m : Int) (h0 : ¬ (l.length : Int) < 48) (hg : batch_get.f k l 8 4 = some m) (hm : 0 ≤ m ∧ m < 4294967296) (h1 : ¬ 12 + m < 48) (h2 : ¬ 12 + m > (l.length : Int)) (h3 : ¬ 12 + m > 6000) (p q s cn t b : Int) (hp : batch_get.f k l 16 8 = some p) (hq : batch_get.f k l 24 8 = some q) (hs : batch_get.f k l 32 4 = some s) (hcn : batch_get.f k l 36 4 = some cn) (ht : batch_get.f k l 40 8 = some t) (hb : batch_get.f k l 0 8 = some b) (r1 r2 r3 r4 : Int) (r5 : List S45) (r6 r7 : Int) (h : batch_Decode.l0 k l (12 + m) t b s p q 48 [] = some (r1, r2, r3, r4, r5, r6, r7)) :
    Calls Try.prog 22 #[.slice A l.length c] w fun e w' => ∃ v4_ : Value, e = .returned (.tuple #[.agg #[.int .i64 r1, .int .i64 r2, .int .i64 r3, .int .i64 r4, v4_], .int .i64 r6, .int .i64 r7]) ∧ Kd.R k45 45 w' w.heap.size (fun _ => True) v4_ r5 ∧ Below w.heap.size w w' := by
  have f0 : decide ((l.length : Int) < 48) = false := decide_eq_false h0
  have f1 : decide (l.length < 48) = false := decide_eq_false (by omega)
  have g0 : decide (12 + m < 48) = false := decide_eq_false h1
  have g1 : decide ((l.length : Int) < 12 + m) = false := decide_eq_false (by omega)
  have g2 : decide (6000 < 12 + m) = false := decide_eq_false h3
  have HP := Aside0.mk hp
  have HQ := Aside0.mk hq
  have HS := Aside0.mk hs
  have HCN := Aside0.mk hcn
  have HT := Aside0.mk ht
  have HB := Aside0.mk hb
  have HL := Aside0.mk h
  clear hp hq hs hcn ht hb h
  have HR := Aside0.mk hr
  have HC := Aside0.mk hc
  have HG := Aside0.mk hg
  have m0 := hm.1
  have m1 := hm.2
  clear hr hc hg hm
  go_enter Try.func22, Try.ntmps22
  go_wp2_with fail
  refine (batch_get.calls k A c l 8 4 m _ (Kd.C_below HR.out (below_alloc (Below.refl _ _) _)) HC.out HG.out).mono ?_
  rintro e w' ⟨rfl, ⟨nd, rfl⟩⟩
  have b0 : ((w.alloc (.cells #[.int .i64 0, .int .i64 0, .int .i64 0, .int .i64 0, .slice none 0 0] 24)).drewN nd).heap[w.heap.size]? = some (.cells #[.int .i64 0, .int .i64 0, .int .i64 0, .int .i64 0, .slice none 0 0] 24 (0, 0)) := heap_alloc_new w _
  have B0 := Aside0.mk b0
  clear b0
  go_wp2_with fail
  have ST0 := Aside0.mk (BdSt.new w nd)
  generalize (((w.alloc (.cells #[.int .i64 0, .int .i64 0, .int .i64 0, .int .i64 0, .slice none 0 0] 24)).drewN nd).alloc (.cells #[.int .i64 0, .int .i64 0, .int .i64 0, .int .i64 0, .int .i64 0] 69)) = W0 at ST0 ⊢
  refine (batch_numbers.calls _).mono ?_
  rintro e x0 ⟨rfl, hb0⟩
  have S0 := Aside0.mk (ST0.out.below hb0)
  clear hb0 ST0 B0
  go_wp2_with fail
  refine wp_loop_rounds 6 ?_
  rw [rounds_succ]
  have ix0 : ∀ w, (Instr.index 72 (.agg numsC) (.int .i64 0)).run Try.prog w = .ok (.agg #[.int .i64 16, .int .i64 8]) w := fun _ => by kernel_rfl
  go_wp2_with fail
  have T0 := Aside0.mk (S0.out.alloc (.cells #[.int .i64 16, .int .i64 8] 71))
  refine (batch_get.calls k A c l 16 8 p _ (Kd.C_below HR.out T0.out.bel) HC.out HP.out).mono ?_
  rintro e w' ⟨rfl, ⟨n0, rfl⟩⟩
  have z0 := T0.out.vfree 0
  have c0 := T0.out.vcells.1
  go_wp2_with fail
  have S1 := Aside0.mk ((T0.out.drewN n0).setv0 p)
  generalize World.setCell ((x0.alloc (.cells #[.int .i64 16, .int .i64 8] 71)).drewN n0) ⟨w.heap.size + 1, 0, none⟩ (.int .i64 p) = x1 at S1 ⊢
  clear ix0 S0 T0 z0 c0
  rw [rounds_succ]
  have ix1 : ∀ w, (Instr.index 72 (.agg numsC) (.int .i64 1)).run Try.prog w = .ok (.agg #[.int .i64 24, .int .i64 8]) w := fun _ => by kernel_rfl
  go_wp2_with fail
  have T1 := Aside0.mk (S1.out.alloc (.cells #[.int .i64 24, .int .i64 8] 71))
  refine (batch_get.calls k A c l 24 8 q _ (Kd.C_below HR.out T1.out.bel) HC.out HQ.out).mono ?_
  rintro e w' ⟨rfl, ⟨n1, rfl⟩⟩
  have z1 := T1.out.vfree 1
  have c1 := T1.out.vcells.2.1
  go_wp2_with fail
  have S2 := Aside0.mk ((T1.out.drewN n1).setv1 q)
  generalize World.setCell ((x1.alloc (.cells #[.int .i64 24, .int .i64 8] 71)).drewN n1) ⟨w.heap.size + 1, 1, none⟩ (.int .i64 q) = x2 at S2 ⊢
  clear ix1 S1 T1 z1 c1
  rw [rounds_succ]
  have ix2 : ∀ w, (Instr.index 72 (.agg numsC) (.int .i64 2)).run Try.prog w = .ok (.agg #[.int .i64 32, .int .i64 4]) w := fun _ => by kernel_rfl
  go_wp2_with fail
  have T2 := Aside0.mk (S2.out.alloc (.cells #[.int .i64 32, .int .i64 4] 71))
  refine (batch_get.calls k A c l 32 4 s _ (Kd.C_below HR.out T2.out.bel) HC.out HS.out).mono ?_
  rintro e w' ⟨rfl, ⟨n2, rfl⟩⟩
  have z2 := T2.out.vfree 2
  have c2 := T2.out.vcells.2.2.1
  go_wp2_with fail
  have S3 := Aside0.mk ((T2.out.drewN n2).setv2 s)
  generalize World.setCell ((x2.alloc (.cells #[.int .i64 32, .int .i64 4] 71)).drewN n2) ⟨w.heap.size + 1, 2, none⟩ (.int .i64 s) = x3 at S3 ⊢
  clear ix2 S2 T2 z2 c2
  rw [rounds_succ]
  have ix3 : ∀ w, (Instr.index 72 (.agg numsC) (.int .i64 3)).run Try.prog w = .ok (.agg #[.int .i64 36, .int .i64 4]) w := fun _ => by kernel_rfl
  go_wp2_with fail
  have T3 := Aside0.mk (S3.out.alloc (.cells #[.int .i64 36, .int .i64 4] 71))
  refine (batch_get.calls k A c l 36 4 cn _ (Kd.C_below HR.out T3.out.bel) HC.out HCN.out).mono ?_
  rintro e w' ⟨rfl, ⟨n3, rfl⟩⟩
  have z3 := T3.out.vfree 3
  have c3 := T3.out.vcells.2.2.2.1
  go_wp2_with fail
  have S4 := Aside0.mk ((T3.out.drewN n3).setv3 cn)
  generalize World.setCell ((x3.alloc (.cells #[.int .i64 36, .int .i64 4] 71)).drewN n3) ⟨w.heap.size + 1, 3, none⟩ (.int .i64 cn) = x4 at S4 ⊢
  clear ix3 S3 T3 z3 c3
  rw [rounds_succ]
  have ix4 : ∀ w, (Instr.index 72 (.agg numsC) (.int .i64 4)).run Try.prog w = .ok (.agg #[.int .i64 40, .int .i64 8]) w := fun _ => by kernel_rfl
  go_wp2_with fail
  have T4 := Aside0.mk (S4.out.alloc (.cells #[.int .i64 40, .int .i64 8] 71))
  refine (batch_get.calls k A c l 40 8 t _ (Kd.C_below HR.out T4.out.bel) HC.out HT.out).mono ?_
  rintro e w' ⟨rfl, ⟨n4, rfl⟩⟩
  have z4 := T4.out.vfree 4
  have c4 := T4.out.vcells.2.2.2.2
  go_wp2_with fail
  have S5 := Aside0.mk ((T4.out.drewN n4).setv4 t)
  generalize World.setCell ((x4.alloc (.cells #[.int .i64 40, .int .i64 8] 71)).drewN n4) ⟨w.heap.size + 1, 4, none⟩ (.int .i64 t) = x5 at S5 ⊢
  clear ix4 S4 T4 z4 c4
  rw [rounds_succ]
  go_wp2_with fail
  refine start_ (n := 10) (S := fun w' => w'.cell? ⟨w.heap.size + 1, 0, none⟩ = some (.int .i64 p) ∧ w'.cell? ⟨w.heap.size + 1, 1, none⟩ = some (.int .i64 q) ∧ w'.cell? ⟨w.heap.size + 1, 2, none⟩ = some (.int .i64 s)) (ds := []) #[false, false, false, false, false, false, false, false, false, false] (by kernel_rfl) rfl rfl ⟨S5.out.drew.vcells.1, S5.out.drew.vcells.2.1, S5.out.drew.vcells.2.2.1⟩ (fun hHeld => ?_)
  have D5 := Aside0.mk S5.out.drew
  generalize x5.drew = y5 at D5 hHeld ⊢
  clear S5
  refine pure_ (i := 0) (N := (some 47)) (v := ?_) (a' := ?_) #[true, false, false, false, false, false, false, false, false, false] rfl rfl (by kernel_rfl) (fun _ _ _ h => h) (Or.inl ⟨by rfl, ?_⟩) ?_ ?_
  rotate_left
  · intro w'
    go_simp
    with_reducible rfl
  rotate_left
  · simp only [Act.put, List.setIfInBounds_toArray, List.set_cons_zero, List.set_cons_succ, i64_w, i32_w]
    rfl
  refine pure_ (i := 2) (N := (some 49)) (v := ?_) (a' := ?_) #[true, false, true, false, false, false, false, false, false, false] rfl rfl (by kernel_rfl) (fun _ _ _ h => h) (Or.inl ⟨by rfl, ?_⟩) ?_ ?_
  rotate_left
  · intro w'
    go_simp
    with_reducible rfl
  rotate_left
  · simp only [Act.put, List.setIfInBounds_toArray, List.set_cons_zero, List.set_cons_succ, i64_w, i32_w]
    rfl
  refine pure_ (i := 4) (N := (some 51)) (v := ?_) (a' := ?_) #[true, false, true, false, true, false, false, false, false, false] rfl rfl (by kernel_rfl) (fun _ _ _ h => h) (Or.inl ⟨by rfl, ?_⟩) ?_ ?_
  rotate_left
  · intro w'
    go_simp
    with_reducible rfl
  rotate_left
  · simp only [Act.put, List.setIfInBounds_toArray, List.set_cons_zero, List.set_cons_succ, i64_w, i32_w]
    rfl
  refine pure_ (i := 6) (N := (some 53)) (v := ?_) (a' := ?_) #[true, false, true, false, true, false, true, false, false, false] rfl rfl (by kernel_rfl) (fun _ _ _ h => h) (Or.inl ⟨by rfl, ?_⟩) ?_ ?_
  rotate_left
  · intro w'
    go_simp
    with_reducible rfl
  rotate_left
  · simp only [Act.put, List.setIfInBounds_toArray, List.set_cons_zero, List.set_cons_succ, i64_w, i32_w]
    rfl
  refine take_ (i := 3) (N := (some 50)) (v := ?_) (a' := ?_) #[true, false, true, true, true, false, true, false, false, false] rfl rfl (by kernel_rfl) (fun _ _ _ h => h) (Or.inl ⟨by rfl, ?_⟩) hHeld ?_ ?_
  rotate_left
  · rintro w' ⟨s0, s1, s2⟩
    go_simp
    with_reducible rfl
  rotate_left
  · simp only [Act.put, List.setIfInBounds_toArray, List.set_cons_zero, List.set_cons_succ, i64_w, i32_w]
    rfl
  refine take_ (i := 5) (N := (some 52)) (v := ?_) (a' := ?_) #[true, false, true, true, true, true, true, false, false, false] rfl rfl (by kernel_rfl) (fun _ _ _ h => h) (Or.inl ⟨by rfl, ?_⟩) hHeld ?_ ?_
  rotate_left
  · rintro w' ⟨s0, s1, s2⟩
    go_simp
    with_reducible rfl
  rotate_left
  · simp only [Act.put, List.setIfInBounds_toArray, List.set_cons_zero, List.set_cons_succ, i64_w, i32_w]
    rfl
  refine take_ (i := 7) (N := (some 54)) (v := ?_) (a' := ?_) #[true, false, true, true, true, true, true, true, false, false] rfl rfl (by kernel_rfl) (fun _ _ _ h => h) (Or.inl ⟨by rfl, ?_⟩) hHeld ?_ ?_
  rotate_left
  · rintro w' ⟨s0, s1, s2⟩
    go_simp
    with_reducible rfl
  rotate_left
  · simp only [Act.put, List.setIfInBounds_toArray, List.set_cons_zero, List.set_cons_succ, i64_w, i32_w]
    rfl
  refine one_ (i := 1) (N := (some 48)) #[true, true, true, true, true, true, true, true, false, false] rfl rfl (by kernel_rfl) (by decide) (fun K hK => ?_)
  refine goes_ Try.func34 (by kernel_rfl) rfl #[.slice A l.length c, .int .i64 0, .int .i64 8] (by rfl) rfl rfl (by (try simp only [List.map_toArray, List.map_cons, List.map_nil]); first | done | rfl) ?_
  refine (batch_get.calls k A c l 0 8 b _ (Kd.C_below HR.out D5.out.bel) HC.out HB.out).mono ?_
  rintro e w' ⟨rfl, ⟨n5, rfl⟩⟩
  refine ⟨_, rfl, ?_⟩
  have D6 := Aside0.mk (D5.out.drewN n5)
  refine hK.out _ _ ⟨D6.out.vcells.1, D6.out.vcells.2.1, D6.out.vcells.2.2.1⟩ (fun hHeld => ?_)
  clear hK K
  refine norm_ (a' := ?_) ?_ ?_
  rotate_left
  · show Act.put _ (some 48) _ = _
    simp only [Act.put, List.setIfInBounds_toArray, List.set_cons_zero, List.set_cons_succ, i64_w, i32_w]
    rfl
  refine pure_ (i := 8) (N := (some 55)) (v := ?_) (a' := ?_) #[true, true, true, true, true, true, true, true, true, false] rfl rfl (by kernel_rfl) (fun _ _ _ h => h) (Or.inl ⟨by rfl, ?_⟩) ?_ ?_
  rotate_left
  · intro w'
    go_simp
    with_reducible rfl
  rotate_left
  · simp only [Act.put, List.setIfInBounds_toArray, List.set_cons_zero, List.set_cons_succ, i64_w, i32_w]
    rfl
  refine one_ (i := 9) (N := none) #[true, true, true, true, true, true, true, true, true, true] rfl rfl (by kernel_rfl) (by decide) (fun K hK => ?_)
  obtain ⟨y0, y1, y2, y3, y4⟩ := D6.out.bcells
  obtain ⟨z0, z1, z2, z3, z4⟩ := D6.out.bfree
  refine skip_ (w1 := ?_) (by rfl) rfl ?_ ?_
  rotate_left
  · go_simp
    rfl
  refine hK.out _ _ ⟨(D6.out.setB b s p q (.slice none 0 0) [] (Kd.R_nil _ _ _ _ _)).vcells.1, (D6.out.setB b s p q (.slice none 0 0) [] (Kd.R_nil _ _ _ _ _)).vcells.2.1, (D6.out.setB b s p q (.slice none 0 0) [] (Kd.R_nil _ _ _ _ _)).vcells.2.2.1⟩ (fun hHeld => ?_)
  clear hK K
  refine done_ (by kernel_rfl) ?_
  clear hHeld
  have D7 := Aside0.mk (D6.out.setB b s p q (.slice none 0 0) [] (Kd.R_nil _ _ _ _ _))
  generalize (((((World.setCell (y5.drewN n5) ⟨w.heap.size, 0, none⟩ (.int .i64 b)).setCell ⟨w.heap.size, 1, none⟩ (.int .i64 s)).setCell ⟨w.heap.size, 2, none⟩ (.int .i64 p)).setCell ⟨w.heap.size, 3, none⟩ (.int .i64 q)).setCell ⟨w.heap.size, 4, none⟩ (.slice none 0 0)) = x6 at D7 ⊢
  clear y0 y1 y2 y3 y4 z0 z1 z2 z3 z4
  clear D5 D6
  go_wp2_with fail
  go_loopg [3, 4, 8] k (fun kq v3 v4 v8 w' => ∃ (at_ : Int) (x : List S45) (u : Value), v3 = .int .i64 (12 + m) ∧ v4 = .int .i64 0 ∧ v8 = .int .i64 at_ ∧ Aside0 (batch_Decode.l0 kq l (12 + m) t b s p q at_ x = some (r1, r2, r3, r4, r5, r6, r7)) ∧ Aside0 (kq ≤ k) ∧ Aside0 (BdSt w w' b s p q u p q s cn t x))
  case atStart => exact ⟨48, [], .slice none 0 0, rfl, rfl, rfl, HL, ⟨Nat.le_refl _⟩, D7⟩
  case round =>
    clear D7 HL
    obtain ⟨at_, x, u, rfl, rfl, rfl, HA, HK2, ST⟩ := hrel
    cases gk with
    | zero => exact absurd HA.out (by intro h_; exact nomatch (show (none : Option _) = some _ from h_))
    | succ k2 =>
      have H := HA.out
      clear HA
      rw [batch_Decode.l0] at H
      by_cases e1 : at_ < 12 + m
      · rw [if_pos e1] at H
        by_cases e2 : 0 ≤ at_
        case neg => rw [if_neg e2] at H; cases H
        rw [if_pos e2] at H
        obtain ⟨⟨t1, t2, t3, t4, t5, t6, t7, t8⟩, HD_, H⟩ := Option.bind_eq_some_iff.mp H
        dsimp only at H
        have HH := Aside0.mk H
        obtain ⟨i0, hi0, _, hsz0, _⟩ := info_parts info5
        obtain ⟨A1, hcut, hA, hC⟩ := print_mid_of (P := Try.prog) (Value.int .u8) 0 27 5 .i64 .i64 Try.underlying27 hi0 hsz0 A c l at_ (12 + m) e2 (by omega) (by omega) HC.out
        obtain ⟨sl, hsl⟩ : ∃ sl, sl = ((l.take (12 + m).toNat).drop at_.toNat) := ⟨_, rfl⟩
        rw [← hsl] at hcut hA hC HD_
        have HD := Aside0.mk HD_
        have HR2 := Aside0.mk (Kd.C_of_reads (h1 := fun _ => rfl) (hA _ (Kd.reads_of_C HR.out)))
        have HC2 := Aside0.mk hC
        clear hsl
        have b1 : decide (at_ < 12 + m) = true := decide_eq_true e1
        clear HD_ H hA hC hi0 hsz0
        go_wp2_with fail
        refine start_ (n := 15) (S := fun w' => w'.cell? ⟨w.heap.size + 1, 4, none⟩ = some (.int .i64 t)) (ds := []) #[false, false, false, false, false, false, false, false, false, false, false, false, false, false, false] (by kernel_rfl) rfl rfl ST.out.drew.vcells.2.2.2.2 (fun hHeld => ?_)
        have D0 := Aside0.mk ST.out.drew
        generalize wr.drew = y0 at D0 hHeld ⊢
        clear ST
        refine pure_ (i := 0) (N := (some 60)) (v := ?_) (a' := ?_) #[true, false, false, false, false, false, false, false, false, false, false, false, false, false, false] rfl rfl (by kernel_rfl) (fun _ _ _ h => h) (Or.inl ⟨by rfl, ?_⟩) ?_ ?_
        rotate_left
        · intro w'
          go_simp
          with_reducible rfl
        rotate_left
        · simp only [Act.put, List.setIfInBounds_toArray, List.set_cons_zero, List.set_cons_succ, i64_w, i32_w]
          rfl
        refine pure_ (i := 1) (N := (some 61)) (v := ?_) (a' := ?_) #[true, true, false, false, false, false, false, false, false, false, false, false, false, false, false] rfl rfl (by kernel_rfl) (fun _ _ _ h => h) (Or.inl ⟨by rfl, ?_⟩) ?_ ?_
        rotate_left
        · intro w'
          go_simp
          with_reducible rfl
        rotate_left
        · simp only [Act.put, List.setIfInBounds_toArray, List.set_cons_zero, List.set_cons_succ, i64_w, i32_w]
          rfl
        refine pure_ (i := 2) (N := (some 62)) (v := ?_) (a' := ?_) #[true, true, true, false, false, false, false, false, false, false, false, false, false, false, false] rfl rfl (by kernel_rfl) (fun _ _ _ h => h) (Or.inl ⟨by rfl, ?_⟩) ?_ ?_
        rotate_left
        · intro w'
          go_simp
          with_reducible rfl
        rotate_left
        · simp only [Act.put, List.setIfInBounds_toArray, List.set_cons_zero, List.set_cons_succ, i64_w, i32_w]
          rfl
        refine pure_ (i := 3) (N := (some 63)) (v := ?_) (a' := ?_) #[true, true, true, true, false, false, false, false, false, false, false, false, false, false, false] rfl rfl (by kernel_rfl) (fun _ _ _ h => h) (Or.inl ⟨by rfl, ?_⟩) ?_ ?_
        rotate_left
        · intro w'
          go_simp
          with_reducible rfl
        rotate_left
        · simp only [Act.put, List.setIfInBounds_toArray, List.set_cons_zero, List.set_cons_succ, i64_w, i32_w]
          rfl
        refine pure_ (i := 4) (N := (some 64)) (v := ?_) (a' := ?_) #[true, true, true, true, true, false, false, false, false, false, false, false, false, false, false] rfl rfl (by kernel_rfl) (fun _ _ _ h => h) (Or.inl ⟨by rfl, ?_⟩) ?_ ?_
        rotate_left
        · intro w'
          go_simp
          with_reducible rfl
        rotate_left
        · simp only [Act.put, List.setIfInBounds_toArray, List.set_cons_zero, List.set_cons_succ, i64_w, i32_w]
          rfl
        refine take_ (i := 5) (N := (some 65)) (v := ?_) (a' := ?_) #[true, true, true, true, true, true, false, false, false, false, false, false, false, false, false] rfl rfl (by kernel_rfl) (fun _ _ _ h => h) (Or.inl ⟨by rfl, ?_⟩) hHeld ?_ ?_
        rotate_left
        · rintro w' s0
          go_simp
          with_reducible rfl
        rotate_left
        · simp only [Act.put, List.setIfInBounds_toArray, List.set_cons_zero, List.set_cons_succ, i64_w, i32_w]
          rfl
        refine join_ (σ := Nat) 3 #[true, true, true, true, true, true, true, true, true, true, true, true, false, false, false] (fun s_ => [(66, .tuple #[.agg #[.bool t1, .string t2, .bool t3, .string t4, .int .i64 t5, .int .i64 t6], .int .i64 t7, .int .i64 t8]), (59, .tuple #[.agg #[.bool t1, .string t2, .bool t3, .string t4, .int .i64 t5, .int .i64 t6], .int .i64 t7, .int .i64 t8]), (67, .agg #[.bool t1, .string t2, .bool t3, .string t4, .int .i64 t5, .int .i64 t6]), (68, .int .i64 t7), (69, .int .i64 t8), (9, .pointer (some ⟨s_, 0, none⟩))]) (fun s_ w' => w'.cell? ⟨w.heap.size + 1, 4, none⟩ = some (.int .i64 t) ∧ Aside0 (w.heap.size + 2 ≤ s_) ∧ Aside0 (BdSt w w' b s p q u p q s cn t x) ∧ Aside0 (w'.heap[s_]? = some (.cells #[.bool false, .string ⟨#[]⟩, .bool false, .string ⟨#[]⟩, .int .i64 0, .int .i64 0] 45 (0, 0))) ∧ Aside0 (Kd.R k45 45 w' w.heap.size (fun k_ => k_ ≠ s_) u x)) ?_ ?_
        rotate_left
        · intro hCont
          refine two_ (i := 6) (j := 11) (Ni := (some 66)) (Nj := (some 9)) #[true, true, true, true, true, true, true, false, false, false, false, false, false, false, false] #[true, true, true, true, true, true, false, false, false, false, false, true, false, false, false] rfl rfl rfl rfl (by kernel_rfl) (by decide) (by decide) (fun K hK => ?_) (fun K hK => ?_)
          · refine goes_ Try.func36 (by kernel_rfl) rfl #[.slice A1 sl.length (c - at_.toNat), .int .i64 t] (by rfl) rfl rfl (by (try simp only [List.map_toArray, List.map_cons, List.map_nil]); first | done | rfl) ?_
            refine (record_Decode.calls k2 A1 (c - at_.toNat) sl t t1 t2 t3 t4 t5 t6 t7 t8 _ (Kd.C_below HR2.out D0.out.bel) HC2.out HD.out).mono ?_
            rintro e y1 ⟨rfl, hb⟩
            refine ⟨_, rfl, ?_⟩
            have D1 := Aside0.mk (D0.out.below hb)
            clear hb D0
            refine hK.out _ _ D1.out.vcells.2.2.2.2 (fun hHeld => ?_)
            clear hK K
            refine norm_ (a' := ?_) ?_ ?_
            rotate_left
            · show Act.put _ (some 66) _ = _
              simp only [Act.put, List.setIfInBounds_toArray, List.set_cons_zero, List.set_cons_succ, i64_w, i32_w]
              rfl
            refine pure_ (i := 7) (N := (some 59)) (v := ?_) (a' := ?_) #[true, true, true, true, true, true, true, true, false, false, false, false, false, false, false] rfl rfl (by kernel_rfl) (fun _ _ _ h => h) (Or.inl ⟨by rfl, ?_⟩) ?_ ?_
            rotate_left
            · intro w'
              go_simp
              with_reducible rfl
            rotate_left
            · simp only [Act.put, List.setIfInBounds_toArray, List.set_cons_zero, List.set_cons_succ, i64_w, i32_w]
              rfl
            refine pure_ (i := 8) (N := (some 67)) (v := ?_) (a' := ?_) #[true, true, true, true, true, true, true, true, true, false, false, false, false, false, false] rfl rfl (by kernel_rfl) (fun _ _ _ h => h) (Or.inl ⟨by rfl, ?_⟩) ?_ ?_
            rotate_left
            · intro w'
              go_simp
              with_reducible rfl
            rotate_left
            · simp only [Act.put, List.setIfInBounds_toArray, List.set_cons_zero, List.set_cons_succ, i64_w, i32_w]
              rfl
            refine pure_ (i := 9) (N := (some 68)) (v := ?_) (a' := ?_) #[true, true, true, true, true, true, true, true, true, true, false, false, false, false, false] rfl rfl (by kernel_rfl) (fun _ _ _ h => h) (Or.inl ⟨by rfl, ?_⟩) ?_ ?_
            rotate_left
            · intro w'
              go_simp
              with_reducible rfl
            rotate_left
            · simp only [Act.put, List.setIfInBounds_toArray, List.set_cons_zero, List.set_cons_succ, i64_w, i32_w]
              rfl
            refine pure_ (i := 10) (N := (some 69)) (v := ?_) (a' := ?_) #[true, true, true, true, true, true, true, true, true, true, true, false, false, false, false] rfl rfl (by kernel_rfl) (fun _ _ _ h => h) (Or.inl ⟨by rfl, ?_⟩) ?_ ?_
            rotate_left
            · intro w'
              go_simp
              with_reducible rfl
            rotate_left
            · simp only [Act.put, List.setIfInBounds_toArray, List.set_cons_zero, List.set_cons_succ, i64_w, i32_w]
              rfl
            refine one_ (i := 11) (N := (some 9)) #[true, true, true, true, true, true, true, true, true, true, true, true, false, false, false] rfl rfl (by kernel_rfl) (by decide) (fun K hK => ?_)
            refine box_step ?hg (N := 9) ?hd (cs := #[.bool false, .string ⟨#[]⟩, .bool false, .string ⟨#[]⟩, .int .i64 0, .int .i64 0]) (t := 45) ?hr ?_; (case hd => rfl); (case hg => rfl); (case hr => first | (go_simp; done) | (go_simp; rfl))
            intro g9 hg y2 hbox hb
            have GE := Aside0.mk (show w.heap.size + 2 ≤ g9 from by rw [hg]; exact blk_lt D1.out.vt)
            have RO := Aside0.mk (Kd.R_mono (Kd.R_below (Kd.R_elderB D1.out.row g9 (Nat.le_of_eq hg.symm)) hb) (fun k_ hk => hk.2))
            have D2 := Aside0.mk (D1.out.below hb)
            have BK := Aside0.mk hbox
            clear hbox hb hg D1
            refine hK.out _ _ D2.out.vcells.2.2.2.2 (fun hHeld => ?_)
            clear hK K
            refine norm_ (a' := ?_) ?_ ?_
            rotate_left
            · show Act.put _ (some 9) _ = _
              simp only [Act.put, List.setIfInBounds_toArray, List.set_cons_zero, List.set_cons_succ, i64_w, i32_w]
              rfl
            exact norm_ (by simp only [putAll, Act.put, List.setIfInBounds_toArray, List.set_cons_zero, List.set_cons_succ]) (hCont g9 _ ⟨hHeld, GE, D2, BK, RO⟩)
          · refine box_step ?hg (N := 9) ?hd (cs := #[.bool false, .string ⟨#[]⟩, .bool false, .string ⟨#[]⟩, .int .i64 0, .int .i64 0]) (t := 45) ?hr ?_; (case hd => rfl); (case hg => rfl); (case hr => first | (go_simp; done) | (go_simp; rfl))
            intro g9 hg y1 hbox hb
            have GE := Aside0.mk (show w.heap.size + 2 ≤ g9 from by rw [hg]; exact blk_lt D0.out.vt)
            have RO1 := Aside0.mk (Kd.R_mono (Kd.R_below (Kd.R_elderB D0.out.row g9 (Nat.le_of_eq hg.symm)) hb) (fun k_ hk => hk.2))
            have D1 := Aside0.mk (D0.out.below hb)
            have BK1 := Aside0.mk hbox
            clear hbox hb hg D0
            refine hK.out _ _ D1.out.vcells.2.2.2.2 (fun hHeld => ?_)
            clear hK K
            refine norm_ (a' := ?_) ?_ ?_
            rotate_left
            · show Act.put _ (some 9) _ = _
              simp only [Act.put, List.setIfInBounds_toArray, List.set_cons_zero, List.set_cons_succ, i64_w, i32_w]
              rfl
            refine one_ (i := 6) (N := (some 66)) #[true, true, true, true, true, true, true, false, false, false, false, true, false, false, false] rfl rfl (by kernel_rfl) (by decide) (fun K hK => ?_)
            refine goes_ Try.func36 (by kernel_rfl) rfl #[.slice A1 sl.length (c - at_.toNat), .int .i64 t] (by rfl) rfl rfl (by (try simp only [List.map_toArray, List.map_cons, List.map_nil]); first | done | rfl) ?_
            refine (record_Decode.calls k2 A1 (c - at_.toNat) sl t t1 t2 t3 t4 t5 t6 t7 t8 _ (Kd.C_below HR2.out D1.out.bel) HC2.out HD.out).mono ?_
            rintro e y2 ⟨rfl, hb⟩
            refine ⟨_, rfl, ?_⟩
            have D2 := Aside0.mk (D1.out.below hb)
            have BK := Aside0.mk (blk_below BK1.out hb)
            have RO := Aside0.mk (Kd.R_below RO1.out hb)
            clear hb D1 BK1 RO1
            refine hK.out _ _ D2.out.vcells.2.2.2.2 (fun hHeld => ?_)
            clear hK K
            refine norm_ (a' := ?_) ?_ ?_
            rotate_left
            · show Act.put _ (some 66) _ = _
              simp only [Act.put, List.setIfInBounds_toArray, List.set_cons_zero, List.set_cons_succ, i64_w, i32_w]
              rfl
            refine pure_ (i := 7) (N := (some 59)) (v := ?_) (a' := ?_) #[true, true, true, true, true, true, true, true, false, false, false, true, false, false, false] rfl rfl (by kernel_rfl) (fun _ _ _ h => h) (Or.inl ⟨by rfl, ?_⟩) ?_ ?_
            rotate_left
            · intro w'
              go_simp
              with_reducible rfl
            rotate_left
            · simp only [Act.put, List.setIfInBounds_toArray, List.set_cons_zero, List.set_cons_succ, i64_w, i32_w]
              rfl
            refine pure_ (i := 8) (N := (some 67)) (v := ?_) (a' := ?_) #[true, true, true, true, true, true, true, true, true, false, false, true, false, false, false] rfl rfl (by kernel_rfl) (fun _ _ _ h => h) (Or.inl ⟨by rfl, ?_⟩) ?_ ?_
            rotate_left
            · intro w'
              go_simp
              with_reducible rfl
            rotate_left
            · simp only [Act.put, List.setIfInBounds_toArray, List.set_cons_zero, List.set_cons_succ, i64_w, i32_w]
              rfl
            refine pure_ (i := 9) (N := (some 68)) (v := ?_) (a' := ?_) #[true, true, true, true, true, true, true, true, true, true, false, true, false, false, false] rfl rfl (by kernel_rfl) (fun _ _ _ h => h) (Or.inl ⟨by rfl, ?_⟩) ?_ ?_
            rotate_left
            · intro w'
              go_simp
              with_reducible rfl
            rotate_left
            · simp only [Act.put, List.setIfInBounds_toArray, List.set_cons_zero, List.set_cons_succ, i64_w, i32_w]
              rfl
            refine pure_ (i := 10) (N := (some 69)) (v := ?_) (a' := ?_) #[true, true, true, true, true, true, true, true, true, true, true, true, false, false, false] rfl rfl (by kernel_rfl) (fun _ _ _ h => h) (Or.inl ⟨by rfl, ?_⟩) ?_ ?_
            rotate_left
            · intro w'
              go_simp
              with_reducible rfl
            rotate_left
            · simp only [Act.put, List.setIfInBounds_toArray, List.set_cons_zero, List.set_cons_succ, i64_w, i32_w]
              rfl
            exact norm_ (by simp only [putAll, Act.put, List.setIfInBounds_toArray, List.set_cons_zero, List.set_cons_succ]) (hCont g9 _ ⟨hHeld, GE, D2, BK, RO⟩)
        rintro g9 y3 ⟨hHeld, GE, D2, BK, RO⟩
        refine norm_ (a' := ?_) ?_ ?_
        rotate_left
        · simp only [putAll, Act.put, List.setIfInBounds_toArray, List.set_cons_zero, List.set_cons_succ]
          rfl
        refine one_ (i := 12) (N := none) #[true, true, true, true, true, true, true, true, true, true, true, true, true, false, false] rfl rfl (by kernel_rfl) (by decide) (fun K hK => ?_)
        have r0 : y3.cell? ⟨g9, 0, none⟩ = some (.bool false) := (blk_cell BK.out 0).trans rfl
        have r1 : y3.cell? ⟨g9, 1, none⟩ = some (.string ⟨#[]⟩) := (blk_cell BK.out 1).trans rfl
        have r2 : y3.cell? ⟨g9, 2, none⟩ = some (.bool false) := (blk_cell BK.out 2).trans rfl
        have r3 : y3.cell? ⟨g9, 3, none⟩ = some (.string ⟨#[]⟩) := (blk_cell BK.out 3).trans rfl
        have r4 : y3.cell? ⟨g9, 4, none⟩ = some (.int .i64 0) := (blk_cell BK.out 4).trans rfl
        have r5 : y3.cell? ⟨g9, 5, none⟩ = some (.int .i64 0) := (blk_cell BK.out 5).trans rfl
        have f0 := blk_frozen BK.out 0
        have f1 := blk_frozen BK.out 1
        have f2 := blk_frozen BK.out 2
        have f3 := blk_frozen BK.out 3
        have f4 := blk_frozen BK.out 4
        have f5 := blk_frozen BK.out 5
        refine skip_ (w1 := ?_) (by rfl) rfl ?_ ?_
        rotate_left
        · go_simp
          rfl
        refine hK.out _ _ (bd_far D2.out GE.out RO.out (.bool t1) (.string t2) (.bool t3) (.string t4) (.int .i64 t5) (.int .i64 t6)).1.vcells.2.2.2.2 (fun hHeld => ?_)
        clear hK K
        refine pure_ (i := 13) (N := (some 10)) (v := ?_) (a' := ?_) #[true, true, true, true, true, true, true, true, true, true, true, true, true, true, false] rfl rfl (by kernel_rfl) (fun _ _ _ h => h) (Or.inl ⟨by rfl, ?_⟩) ?_ ?_
        rotate_left
        · intro w'
          go_simp
          with_reducible rfl
        rotate_left
        · simp only [Act.put, List.setIfInBounds_toArray, List.set_cons_zero, List.set_cons_succ, i64_w, i32_w]
          rfl
        refine pure_ (i := 14) (N := (some 11)) (v := ?_) (a' := ?_) #[true, true, true, true, true, true, true, true, true, true, true, true, true, true, true] rfl rfl (by kernel_rfl) (fun _ _ _ h => h) (Or.inl ⟨by rfl, ?_⟩) ?_ ?_
        rotate_left
        · intro w'
          go_simp
          with_reducible rfl
        rotate_left
        · simp only [Act.put, List.setIfInBounds_toArray, List.set_cons_zero, List.set_cons_succ, i64_w, i32_w]
          rfl
        refine done_ (by kernel_rfl) ?_
        clear hHeld
        have F_ := bd_far D2.out GE.out RO.out (.bool t1) (.string t2) (.bool t3) (.string t4) (.int .i64 t5) (.int .i64 t6)
        have D3 := Aside0.mk F_.1
        have RO3 := Aside0.mk F_.2
        have s0 : (World.setCell y3 ⟨g9, 0, none⟩ ((.bool t1))).heap[g9]? = some (.cells #[(.bool t1), .string ⟨#[]⟩, .bool false, .string ⟨#[]⟩, .int .i64 0, .int .i64 0] 45 (0, 0)) := by simpa using blk_set BK.out 0 ((.bool t1))
        have s1 : (World.setCell (World.setCell y3 ⟨g9, 0, none⟩ ((.bool t1))) ⟨g9, 1, none⟩ ((.string t2))).heap[g9]? = some (.cells #[(.bool t1), (.string t2), .bool false, .string ⟨#[]⟩, .int .i64 0, .int .i64 0] 45 (0, 0)) := by simpa using blk_set s0 1 ((.string t2))
        have s2 : (World.setCell (World.setCell (World.setCell y3 ⟨g9, 0, none⟩ ((.bool t1))) ⟨g9, 1, none⟩ ((.string t2))) ⟨g9, 2, none⟩ ((.bool t3))).heap[g9]? = some (.cells #[(.bool t1), (.string t2), (.bool t3), .string ⟨#[]⟩, .int .i64 0, .int .i64 0] 45 (0, 0)) := by simpa using blk_set s1 2 ((.bool t3))
        have s3 : (World.setCell (World.setCell (World.setCell (World.setCell y3 ⟨g9, 0, none⟩ ((.bool t1))) ⟨g9, 1, none⟩ ((.string t2))) ⟨g9, 2, none⟩ ((.bool t3))) ⟨g9, 3, none⟩ ((.string t4))).heap[g9]? = some (.cells #[(.bool t1), (.string t2), (.bool t3), (.string t4), .int .i64 0, .int .i64 0] 45 (0, 0)) := by simpa using blk_set s2 3 ((.string t4))
        have s4 : (World.setCell (World.setCell (World.setCell (World.setCell (World.setCell y3 ⟨g9, 0, none⟩ ((.bool t1))) ⟨g9, 1, none⟩ ((.string t2))) ⟨g9, 2, none⟩ ((.bool t3))) ⟨g9, 3, none⟩ ((.string t4))) ⟨g9, 4, none⟩ ((.int .i64 t5))).heap[g9]? = some (.cells #[(.bool t1), (.string t2), (.bool t3), (.string t4), (.int .i64 t5), .int .i64 0] 45 (0, 0)) := by simpa using blk_set s3 4 ((.int .i64 t5))
        have s5 : (World.setCell (World.setCell (World.setCell (World.setCell (World.setCell (World.setCell y3 ⟨g9, 0, none⟩ ((.bool t1))) ⟨g9, 1, none⟩ ((.string t2))) ⟨g9, 2, none⟩ ((.bool t3))) ⟨g9, 3, none⟩ ((.string t4))) ⟨g9, 4, none⟩ ((.int .i64 t5))) ⟨g9, 5, none⟩ ((.int .i64 t6))).heap[g9]? = some (.cells #[(.bool t1), (.string t2), (.bool t3), (.string t4), (.int .i64 t5), (.int .i64 t6)] 45 (0, 0)) := by simpa using blk_set s4 5 ((.int .i64 t6))
        have BK3 := Aside0.mk s5
        clear s0 s1 s2 s3 s4 s5 F_ D2 RO BK r0 r1 r2 r3 r4 r5 f0 f1 f2 f3 f4 f5
        generalize (World.setCell (World.setCell (World.setCell (World.setCell (World.setCell (World.setCell y3 ⟨g9, 0, none⟩ ((.bool t1))) ⟨g9, 1, none⟩ ((.string t2))) ⟨g9, 2, none⟩ ((.bool t3))) ⟨g9, 3, none⟩ ((.string t4))) ⟨g9, 4, none⟩ ((.int .i64 t5))) ⟨g9, 5, none⟩ ((.int .i64 t6))) = y4 at D3 RO3 BK3 ⊢
        by_cases e8 : t8 = 0
        · have H := HH.out
          rw [if_pos e8] at H
          have b8 : (t8 != 0) = false := bne_eq_false_iff_eq.mpr e8
          by_cases e9 : x.length < 2199023255552
          case neg => rw [if_neg e9] at H; cases H
          rw [if_pos e9] at H
          have HLM := Aside0.mk e9
          obtain ⟨x2, hx2⟩ : ∃ x2, x2 = x ++ [(⟨t1, t2, t3, t4, t5, t6⟩ : S45)] := ⟨_, rfl⟩
          rw [← hx2] at H
          have HA := Aside0.mk H
          have HX2 := Aside0.mk hx2
          clear H HH e8 e9 hx2
          have e0_ : y4.cell? ⟨g9, 0, none⟩ = some (.bool t1) := (blk_cell BK3.out 0).trans rfl
          have e1_ : y4.cell? ⟨g9, 1, none⟩ = some (.string t2) := (blk_cell BK3.out 1).trans rfl
          have e2_ : y4.cell? ⟨g9, 2, none⟩ = some (.bool t3) := (blk_cell BK3.out 2).trans rfl
          have e3_ : y4.cell? ⟨g9, 3, none⟩ = some (.string t4) := (blk_cell BK3.out 3).trans rfl
          have e4_ : y4.cell? ⟨g9, 4, none⟩ = some (.int .i64 t5) := (blk_cell BK3.out 4).trans rfl
          have e5_ : y4.cell? ⟨g9, 5, none⟩ = some (.int .i64 t6) := (blk_cell BK3.out 5).trans rfl
          obtain ⟨-, -, -, -, y9_⟩ := D3.out.bcells
          go_wp2_with (at_builtin; refine Kd.R_append k45 (w0 := w) w.heap.size rfl (.tmp 74) (.tmp 76) 22 45 (.agg #[(.bool false), (.string ⟨#[]⟩), (.bool false), (.string ⟨#[]⟩), (.int .i64 0), (.int .i64 0)]) 64 rfl Try.underlying22 info45 rfl (by decide) (by omega) u x (⟨t1, t2, t3, t4, t5, t6⟩ : S45) [.bool t1, .string t2, .bool t3, .string t4, .int .i64 t5, .int .i64 t6] (fun _ => True) (fun _ => False) rfl (by first | (go_simp; done) | (go_simp; rfl)) ?aP (fun _ hk => hk.elim) ?aF ?aO ?aB ?aS ?aL ?_; (case aP => exact k45_mkM _ _ _ (⟨t1, t2, t3, t4, t5, t6⟩ : S45)); (case aB => exact D3.out.bel); (case aF => exact fun _ _ => trivial); (case aO => exact D3.out.row); (case aS => exact D3.out.bel.size); (case aL => have := HLM.out; omega); intro v7 y5 ho hb hg hat; rw [← HX2.out] at ho; have D5 := Aside0.mk (And.intro hb (And.intro (blk_grown D3.out.bt hg (Kd.R_ne D3.out.row D3.out.bt (by decide))) (blk_grown D3.out.vt hg (Kd.R_ne D3.out.row D3.out.vt (by decide))))); have HO5 := Aside0.mk ho; obtain ⟨A7, c7, e7⟩ := Kd.R_slice ho; subst e7; clear ho hb hg hat; have y4_ : y5.cell? ⟨w.heap.size, 4, none⟩ = some u := (blk_cell D5.out.2.1 4).trans rfl; have z4 := blk_frozen D5.out.2.1 4)
          go_roundg k2
          case measure => have := HK2.out; omega
          case rel => exact ⟨wrap64 (at_ + t7), x2, .slice A7 x2.length c7, rfl, rfl, by first | rfl | (simp; done), HA, ⟨by have := HK2.out; omega⟩, ⟨BdSt.setU D5.out.1 D5.out.2.1 D5.out.2.2 _ _ HO5.out⟩⟩
        · have H := HH.out
          rw [if_neg e8] at H
          have b8 : (t8 != 0) = true := bne_iff_ne.mpr e8
          unfold batch_Decode.bad at H
          simp only [Option.some.injEq, Prod.mk.injEq] at H
          obtain ⟨rfl, rfl, rfl, rfl, rfl, rfl, rfl⟩ := H
          clear HH
          obtain ⟨z0, z1, z2, z3, z4⟩ := D3.out.bfree
          obtain ⟨y0, y1, y2, y3, y4_⟩ := D3.out.bcells
          go_wp2_with fail
          have SB_ := (D3.out).setB 0 0 0 0 (.slice none 0 0) [] (Kd.R_nil _ _ _ _ _)
          refine bodyPost_ret (results_ctt rfl _ _ w.heap.size 24 #[.int .i64 0, .int .i64 0, .int .i64 0, .int .i64 0, .slice none 0 0] (0, 0) _ rfl SB_.bt Try.underlying24 rfl (by kernel_rfl)) rfl ?_
          exact ⟨_, rfl, Kd.R_nil _ _ _ _ _, SB_.bel⟩
      · rw [if_neg e1] at H
        have b1 : decide (at_ < 12 + m) = false := decide_eq_false e1
        unfold batch_Decode.fin at H
        obtain ⟨⟨en, ee⟩, HE_, H⟩ := Option.bind_eq_some_iff.mp H
        dsimp only at H
        have HE := Aside0.mk HE_
        have HH := Aside0.mk H
        clear H HE_
        obtain ⟨Au, cu, eu⟩ := Kd.R_slice ST.out.row
        subst eu
        obtain ⟨y0, y1, y2, y3, y4_⟩ := ST.out.bcells
        go_wp2_with fail
        refine (batch_Encode.calls k2 b s p q Au cu x en ee _ (Kd.R_reads' ST.out.row).2.2 (Kd.R_reads' ST.out.row).2.1 HE.out).mono ?_
        rintro e y6 ⟨v0, rfl, ho, hb⟩
        have D2 := Aside0.mk (ST.out.below hb)
        have HO := Aside0.mk (Kd.R_lower ho ST.out.bel.size)
        obtain ⟨Ae, ce, ev⟩ := Kd.R_slice ho
        subst ev
        clear ho hb y0 y1 y2 y3 y4_ ST
        by_cases e8 : ee = 0
        · have H := HH.out
          rw [if_pos e8] at H
          have b8 : (ee != 0) = false := bne_eq_false_iff_eq.mpr e8
          obtain ⟨eq, HQ_, H⟩ := Option.bind_eq_some_iff.mp H
          have HN := Aside0.mk (show 0 ≤ 12 + m ∧ 12 + m ≤ (l.length : Int) by omega)
          obtain ⟨i0, hi0, _, hsz0, _⟩ := info_parts info5
          obtain ⟨hcut, hA, hC⟩ := print_take_of (P := Try.prog) (Value.int .u8) 0 27 5 .i64 Try.underlying27 hi0 hsz0 A c l (12 + m) (by omega) (by omega) HC.out
          obtain ⟨tl, htl⟩ : ∃ tl, tl = l.take (12 + m).toNat := ⟨_, rfl⟩
          rw [← htl] at hcut hA hC HQ_
          have HQ2 := Aside0.mk HQ_
          have HR2 := Aside0.mk (Kd.C_of_reads (h1 := fun _ => rfl) (hA _ (Kd.reads_of_C HR.out)))
          have HC2 := Aside0.mk hC
          clear hi0 hsz0 hA hC HQ_ HH e8 htl
          cases eq with
          | true =>
            rw [if_pos rfl] at H
            simp only [Option.some.injEq, Prod.mk.injEq] at H
            obtain ⟨rfl, rfl, rfl, rfl, rfl, rfl, rfl⟩ := H
            go_wp2_with fail
            refine (bytes_Equal.calls Ae ce en A c tl true _ (Kd.R_reads' HO.out).2.2 (Kd.R_reads' HO.out).2.1 (Kd.C_below HR2.out D2.out.bel) HC2.out HQ2.out).mono ?_
            rintro e w' ⟨rfl, ⟨n7, rfl⟩⟩
            have D3 := Aside0.mk (D2.out.drewN n7)
            obtain ⟨z0, z1, z2, z3, z4⟩ := D3.out.bfree
            obtain ⟨y0, y1, y2, y3, y4_⟩ := D3.out.bcells
            go_wp2_with fail
            have SB_ := D3.out.setB b s p q _ x D3.out.row
            refine bodyPost_ret (results_ctt rfl _ _ w.heap.size 24 #[.int .i64 b, .int .i64 s, .int .i64 p, .int .i64 q, .slice Au x.length cu] (0, 0) _ rfl SB_.bt Try.underlying24 rfl (by kernel_rfl)) rfl ?_
            exact ⟨_, rfl, SB_.row, SB_.bel⟩
          | false =>
            rw [if_neg (by decide)] at H
            unfold batch_Decode.bad at H
            simp only [Option.some.injEq, Prod.mk.injEq] at H
            obtain ⟨rfl, rfl, rfl, rfl, rfl, rfl, rfl⟩ := H
            go_wp2_with fail
            refine (bytes_Equal.calls Ae ce en A c tl false _ (Kd.R_reads' HO.out).2.2 (Kd.R_reads' HO.out).2.1 (Kd.C_below HR2.out D2.out.bel) HC2.out HQ2.out).mono ?_
            rintro e w' ⟨rfl, ⟨n7, rfl⟩⟩
            have D3 := Aside0.mk (D2.out.drewN n7)
            obtain ⟨z0, z1, z2, z3, z4⟩ := D3.out.bfree
            obtain ⟨y0, y1, y2, y3, y4_⟩ := D3.out.bcells
            go_wp2_with fail
            have SB_ := (D3.out).setB 0 0 0 0 (.slice none 0 0) [] (Kd.R_nil _ _ _ _ _)
            refine bodyPost_ret (results_ctt rfl _ _ w.heap.size 24 #[.int .i64 0, .int .i64 0, .int .i64 0, .int .i64 0, .slice none 0 0] (0, 0) _ rfl SB_.bt Try.underlying24 rfl (by kernel_rfl)) rfl ?_
            exact ⟨_, rfl, Kd.R_nil _ _ _ _ _, SB_.bel⟩
        · have H := HH.out
          rw [if_neg e8] at H
          have b8 : (ee != 0) = true := bne_iff_ne.mpr e8
          unfold batch_Decode.bad at H
          simp only [Option.some.injEq, Prod.mk.injEq] at H
          obtain ⟨rfl, rfl, rfl, rfl, rfl, rfl, rfl⟩ := H
          clear HH
          obtain ⟨z0, z1, z2, z3, z4⟩ := D2.out.bfree
          obtain ⟨y0, y1, y2, y3, y4_⟩ := D2.out.bcells
          go_wp2_with fail
          have SB_ := (D2.out).setB 0 0 0 0 (.slice none 0 0) [] (Kd.R_nil _ _ _ _ _)
          refine bodyPost_ret (results_ctt rfl _ _ w.heap.size 24 #[.int .i64 0, .int .i64 0, .int .i64 0, .int .i64 0, .slice none 0 0] (0, 0) _ rfl SB_.bt Try.underlying24 rfl (by kernel_rfl)) rfl ?_
          exact ⟨_, rfl, Kd.R_nil _ _ _ _ _, SB_.bel⟩
theorem batch_Decode.calls (k : Nat) (A : Option Addr) (c : Nat) (l : List Int) (r1 r2 r3 r4 : Int) (r5 : List S45) (r6 r7 : Int) (w : World) (hr : Kd.C (Kd.int .u8) w A l.length l) (hc : l.length ≤ c) (h : batch_Decode.f k l = some (r1, r2, r3, r4, r5, r6, r7)) :
    Calls Try.prog 22 #[.slice A l.length c] w fun e w' => ∃ v4_ : Value, e = .returned (.tuple #[.agg #[.int .i64 r1, .int .i64 r2, .int .i64 r3, .int .i64 r4, v4_], .int .i64 r6, .int .i64 r7]) ∧ Kd.R k45 45 w' w.heap.size (fun _ => True) v4_ r5 ∧ Below w.heap.size w w' := by
  have bad : batch_Decode.bad = some (r1, r2, r3, r4, r5, r6, r7) → r1 = 0 ∧ r2 = 0 ∧ r3 = 0 ∧ r4 = 0 ∧ r5 = [] ∧ r6 = 0 ∧ r7 = 10 := by
    intro h
    unfold batch_Decode.bad at h
    simp only [Option.some.injEq, Prod.mk.injEq] at h
    obtain ⟨rfl, rfl, rfl, rfl, rfl, rfl, rfl⟩ := h
    exact ⟨rfl, rfl, rfl, rfl, rfl, rfl, rfl⟩
  unfold batch_Decode.f at h
  by_cases c0 : (l.length : Int) < 48
  · rw [if_pos c0] at h
    obtain ⟨rfl, rfl, rfl, rfl, rfl, rfl, rfl⟩ := bad h
    exact batch_Decode.short k A c l w hr hc c0
  rw [if_neg c0] at h
  obtain ⟨m, hg, h⟩ := Option.bind_eq_some_iff.mp h
  by_cases cm : 0 ≤ m ∧ m < 4294967296
  case neg => rw [if_neg cm] at h; cases h
  rw [if_pos cm] at h
  by_cases c1 : 12 + m < 48
  · rw [if_pos c1] at h
    obtain ⟨rfl, rfl, rfl, rfl, rfl, rfl, rfl⟩ := bad h
    exact batch_Decode.less k A c l w hr hc m c0 hg cm c1
  rw [if_neg c1] at h
  by_cases c2 : 12 + m > (l.length : Int)
  · rw [if_pos c2] at h
    obtain ⟨rfl, rfl, rfl, rfl, rfl, rfl, rfl⟩ := bad h
    exact batch_Decode.more k A c l w hr hc m c0 hg cm c1 c2
  rw [if_neg c2] at h
  by_cases c3 : 12 + m > 6000
  · rw [if_pos c3] at h
    obtain ⟨rfl, rfl, rfl, rfl, rfl, rfl, rfl⟩ := bad h
    exact batch_Decode.large k A c l w hr hc m c0 hg cm c1 c2 c3
  rw [if_neg c3] at h
  obtain ⟨p, hp, h⟩ := Option.bind_eq_some_iff.mp h
  obtain ⟨q, hq, h⟩ := Option.bind_eq_some_iff.mp h
  obtain ⟨s, hs, h⟩ := Option.bind_eq_some_iff.mp h
  obtain ⟨cn, hcn, h⟩ := Option.bind_eq_some_iff.mp h
  obtain ⟨t, ht, h⟩ := Option.bind_eq_some_iff.mp h
  obtain ⟨b, hb, h⟩ := Option.bind_eq_some_iff.mp h
  exact batch_Decode.main k A c l w hr hc m c0 hg cm c1 c2 c3 p q s cn t b hp hq hs hcn ht hb r1 r2 r3 r4 r5 r6 r7 h

/-! ### bollardref1_Lay: function 29 -/
def bollardref1_Lay.l0 : Nat → List Int → Int → Int → Option (List Int)
  | 0, _, _, _ => none
  | k + 1, x0, x2, x7 => if x7 ≥ 0 then (if 0 ≤ (wrap64 (8 * x7)) then (if x0.length < 140737488355328 then (bollardref1_Lay.l0 k (x0 ++ [(shr .u64 x2 (wrap64 (8 * x7))) % 256]) x2 (wrap64 (x7 - 1))) else (none)) else (none)) else (some x0)
def bollardref1_Lay.f (k : Nat) (l0 : List Int) (a1 : Int) (a2 : Int) : Option (List Int) := bollardref1_Lay.l0 k l0 a2 (wrap64 (a1 - 1))
set_option maxRecDepth 100000 in
theorem bollardref1_Lay.mono_l : ∀ k, (∀ y0 y1 y2, LeO (bollardref1_Lay.l0 k y0 y1 y2) (bollardref1_Lay.l0 (k + 1) y0 y1 y2))
  | 0 => fun _ _ _ r h => by first | exact nomatch (show (none : Option _) = some r from h) | (rw [bollardref1_Lay.l0] at h; cases h; done) | (simp [bollardref1_Lay.l0] at h; done)
  | k + 1 => by
    have ih0 := bollardref1_Lay.mono_l k
    · intro y0 y1 y2
      unfold bollardref1_Lay.l0
      repeat' first
      | (with_reducible exact ih0 _ _ _)
      | (with_reducible exact LeO.refl _)
      | (with_reducible exact LeO.none _)
      | (with_reducible refine LeO.ite ?_ ?_)
      | (with_reducible refine LeO.bind ?_ (fun _ => ?_))
      | exact ih0 _ _ _
      | exact LeO.none _
      | refine LeO.ite ?_ ?_
      | refine LeO.bind ?_ (fun _ => ?_)
theorem bollardref1_Lay.mono : ∀ a0 a1 a2 k, LeO (bollardref1_Lay.f k a0 a1 a2) (bollardref1_Lay.f (k + 1) a0 a1 a2) := by
  intro a0 a1 a2 k
  have ih0 := bollardref1_Lay.mono_l k
  unfold bollardref1_Lay.f
  repeat' first
      | (with_reducible exact ih0 _ _ _)
      | (with_reducible exact LeO.refl _)
      | (with_reducible exact LeO.none _)
      | (with_reducible refine LeO.ite ?_ ?_)
      | (with_reducible refine LeO.bind ?_ (fun _ => ?_))
      | exact ih0 _ _ _
      | exact LeO.none _
      | refine LeO.ite ?_ ?_
      | refine LeO.bind ?_ (fun _ => ?_)
set_option maxHeartbeats 8000000 in
set_option maxRecDepth 100000 in
theorem bollardref1_Lay.calls (k : Nat) (P0_ : Nat → Prop) (u9000_ : Value) (l0 : List Int) (a1 : Int) (a2 : Int) (r : List Int) (w0 w : World) (hB : Below w0.heap.size w0 w) (ho0 : Kd.R (Kd.int .u8) 5 w w0.heap.size P0_ u9000_ l0) (h : bollardref1_Lay.f k l0 a1 a2 = some r) :
    Calls Try.prog 29 #[u9000_, .int .i64 a1, .int .u64 a2] w fun e w' => ∃ v0_ : Value, e = .returned (v0_) ∧ Kd.R (Kd.int .u8) 5 w' w0.heap.size (fun k_ => (P0_ k_ ∨ w.heap.size ≤ k_)) v0_ r ∧ Below w0.heap.size w0 w' ∧ Kept w w' (fun k_ => P0_ k_) := by
  have HO0 := Aside0.mk (show Kd.R (Kd.int .u8) 5 w w0.heap.size (fun k_ => (P0_ k_ ∨ w.heap.size ≤ k_)) u9000_ l0 from Kd.R_mono ho0 (fun k_ hk => (.inl hk)))
  have HK := Aside0.mk (Kept.refl w (fun k_ => P0_ k_))
  have HW0 := Aside0.mk hB.size
  have HB := Aside0.mk hB
  clear hB
  have H : (bollardref1_Lay.l0 k l0 a2 (wrap64 (a1 - 1))) = some r := h
  clear h
  have H' := Aside0.mk H
  clear H
  go_enter Try.func29, Try.ntmps29
  go_wp2
  go_loopg [0, 7] k (fun kq v0 v7 w' => ∃ (x0_1 : List Int) (x7_1 : Int), v7 = .int .i64 x7_1 ∧ Aside0 (bollardref1_Lay.l0 kq x0_1 a2 x7_1 = some r) ∧ Aside0 (kq ≤ k) ∧ Aside0 (Kd.R (Kd.int .u8) 5 w' w0.heap.size (fun k_ => (P0_ k_ ∨ w.heap.size ≤ k_)) v0 x0_1) ∧ Aside0 (Kept w w' (fun k_ => P0_ k_)) ∧ Aside0 (Below w0.heap.size w0 w'))
  case atStart => exact ⟨(l0), (wrap64 (a1 - 1)), (by first | rfl | (simp; done) | (simp [*]; done) | exact congrArg Value.bool (ne_empty _) | exact congrArg Value.bool (eq_empty _)), H', ⟨Nat.le_refl _⟩, ⟨by (with_reducible repeat (first | apply Kd.R_alloc | apply Kd.R_drewN | apply Kd.R_drew)); exact HO0.out⟩, ⟨by repeat (first | (with_reducible first | exact HK.out | apply Kept.alloc | apply Kept.drewN | apply Kept.drew) | exact HK.out)⟩, ⟨by repeat (first | (with_reducible first | exact HB.out | apply below_alloc | apply pw_below_drewN | apply below_drew1) | exact HB.out)⟩⟩
  case round =>
    clear H'
    try clear c2
    try clear p2
    obtain ⟨x0_1, x7_1, rfl, HA, HK1, HO_0, HK, HB⟩ := hrel
    cases gk with
    | zero => exact absurd HA.out (by first | (intro h_; exact nomatch (show (none : Option _) = some r from h_)) | simp [bollardref1_Lay.l0])
    | succ k1 =>
      have H := HA.out
      clear HA
      simp only [bollardref1_Lay.l0] at H
      by_cases c4 : x7_1 ≥ 0
      · rw [if_pos c4] at H
        have c4b0 : decide (0 ≤ x7_1) = true := decide_eq_true c4
        clear c4
        obtain ⟨ji5, hji5⟩ : ∃ j_ : Int, (wrap64 (8 * x7_1)) = j_ := ⟨_, rfl⟩
        replace H : (if 0 ≤ (ji5) then (if x0_1.length < 140737488355328 then (bollardref1_Lay.l0 k1 (x0_1 ++ [(shr .u64 a2 (ji5)) % 256]) a2 (wrap64 (x7_1 - 1))) else (none)) else (none)) = some r := by first | (rw [hji5] at H; exact H) | (simp only [hji5] at H ⊢; exact H)
        have hji5w : (IntKind.i64.wrap (8 * x7_1)) = ji5 := (i64_w _).trans hji5
        by_cases c6 : 0 ≤ (ji5)
        · rw [if_pos c6] at H
          have c6b0 := eq_true c6
          have c6b1 : decide (0 ≤ (ji5)) = true := decide_eq_true c6
          clear c6
          obtain ⟨ji7, hji7⟩ : ∃ j_ : Int, (shr .u64 a2 (ji5)) = j_ := ⟨_, rfl⟩
          replace H : (if x0_1.length < 140737488355328 then (bollardref1_Lay.l0 k1 (x0_1 ++ [(ji7) % 256]) a2 (wrap64 (x7_1 - 1))) else (none)) = some r := by first | (rw [hji7] at H; exact H) | (simp only [hji7] at H ⊢; exact H)
          have hji7_ : (a2 / 2 ^ min (ji5).toNat 64) = ji7 := hji7
          have hji7z : (ji5) ≤ 64 → (a2 / 2 ^ (ji5).toNat) = ji7 := shr_small hji7
          by_cases c8 : x0_1.length < 140737488355328
          · rw [if_pos c8] at H
            have LMc8 := Aside0.mk c8
            clear c8
            obtain ⟨y226, hy226⟩ : ∃ y_ : List Int, y_ = (x0_1 ++ [(ji7) % 256]) := ⟨_, rfl⟩
            replace H : (bollardref1_Lay.l0 k1 y226 a2 (wrap64 (x7_1 - 1))) = some r := by first | (rw [hy226]; with_reducible exact H) | (have H2_ := (Option.bind_some _ _).symm.trans H; rw [hy226]; with_reducible exact H2_) | (have H2_ := (Option.bind_some _ _).symm.trans H; with_reducible exact H2_) | with_reducible exact H | (rw [hy226]; exact H) | exact H
            have Ny226 := Aside0.mk hy226
            clear hy226
            have H' := Aside0.mk H
            clear H
            go_wp2_with (first | ((with_reducible refine gate_builtin (b := .append) (xs := #[.tmp 14, .tmp 20]) rfl ?_); at_builtin; refine Kd.R_append (Kd.int .u8) (w0 := w0) w0.heap.size rfl (.tmp 14) (.tmp 20) 27 5 (.int .u8 0) 1 rfl Try.underlying27 info5 rfl (by decide) (by omega) u0 x0_1 ((ji7) % 256) [.int .u8 ((ji7) % 256)] (fun k_ => (P0_ k_ ∨ w.heap.size ≤ k_)) (fun _ => False) rfl rfl ?aP (fun _ hk => hk.elim) ?aF ?aO ?aB ?aS ?aL ?_; (case aP => exact rfl); (case aB => exact (by repeat (first | (with_reducible first | exact HB.out | apply below_alloc | apply pw_below_drewN | apply below_drew1) | exact HB.out))); (case aF => exact (fun k_ hk => (.inr (Nat.le_trans (by first | exact HK.out.1 | exact (show Kept w _ (fun k_ => P0_ k_) from by repeat (first | (with_reducible first | exact HK.out | apply Kept.alloc | apply Kept.drewN | apply Kept.drew) | exact HK.out)).1) hk)))); (case aO => exact (by (with_reducible repeat (first | apply Kd.R_alloc | apply Kd.R_drewN | apply Kd.R_drew)); exact HO_0.out)); (case aS => exact (below_size (by repeat (first | (with_reducible first | exact HB.out | apply below_alloc | apply pw_below_drewN | apply below_drew1) | exact HB.out)))); (case aL => have := LMc8.out; omega); intro v227 w9 ho hb hg hat; rw [← Ny226.out] at ho; have n0_ := Aside0.mk (hb); have n1_ := Aside0.mk (Kept.of_grown (S := (fun k_ => P0_ k_)) hg (by repeat (first | (with_reducible first | exact HK.out | apply Kept.alloc | apply Kept.drewN | apply Kept.drew) | exact HK.out)) (fun k_ e_ => (HO_0.out.1 k_ e_))); have n2_ := Aside0.mk (ho); clear HB; clear HK; clear HO_0; have HB := n0_; have HK := n1_; have HO228 := n2_; clear n0_ n1_ n2_; clear ho hb hg hat))
            go_roundg k1
            case measure => have := HK1.out; omega
            case rel => exact ⟨(y226), (wrap64 (x7_1 - 1)), (by first | rfl | (simp; done) | (simp [*]; done) | exact congrArg Value.bool (ne_empty _) | exact congrArg Value.bool (eq_empty _)), H', ⟨by have := HK1.out; omega⟩, ⟨by (with_reducible repeat (first | apply Kd.R_alloc | apply Kd.R_drewN | apply Kd.R_drew)); exact HO228.out⟩, ⟨by repeat (first | (with_reducible first | exact HK.out | apply Kept.alloc | apply Kept.drewN | apply Kept.drew) | exact HK.out)⟩, ⟨by repeat (first | (with_reducible first | exact HB.out | apply below_alloc | apply pw_below_drewN | apply below_drew1) | exact HB.out)⟩⟩
          · rw [if_neg c8] at H
            exact absurd H (by simp)
        · rw [if_neg c6] at H
          exact absurd H (by simp)
      · rw [if_neg c4] at H
        have c4b0 : decide (0 ≤ x7_1) = false := decide_eq_false c4
        clear c4
        obtain rfl := Option.some.inj H
        go_wp2
        go_ret
        exact ⟨_, by first | rfl | (simp [errW_none, errW_some] <;> rfl) | (simp [*, errW_none, errW_some] <;> rfl), by (with_reducible repeat (first | apply Kd.R_alloc | apply Kd.R_drewN | apply Kd.R_drew)); exact HO_0.out, by repeat (first | (with_reducible first | exact HB.out | apply below_alloc | apply pw_below_drewN | apply below_drew1) | exact HB.out), by repeat (first | (with_reducible first | exact HK.out | apply Kept.alloc | apply Kept.drewN | apply Kept.drew) | exact HK.out)⟩

end Go.Proofs.Ytgmeellapjimgaa.PBd

-- written by a program of this session (wip/tools/pr.py, over the kit's printer): not by hand
namespace Go.Proofs.Ytgmeellapjimgaa.PBd
open Go.RowKit Go.Proofs.YtgmeellapjimgaaW.PrintWords Go.Proofs.YtgmeellapjimgaaW.PrintLast Go.Proofs.YtgmeellapjimgaaW.PrintMore
attribute [local go_sem] max2_int min2_int max_two min_two max_three min_three max_four min_four   -- for this text's walks alone
set_option linter.unusedVariables false
set_option linter.unusedSimpArgs false

/-! ### bollardref12_odd -/
def oddB (hk : Bool) (key : ByteArray) (hv : Bool) (val : ByteArray) (t o : Int) : Bool := (!hk && !key.toList.isEmpty) || ((!hv && !val.toList.isEmpty) || (decide (t < 0) || (decide (1125899906842624 < t) || (decide (o < 0) || decide (99 < o)))))
def bollardref12_odd.f (hk : Bool) (key : ByteArray) (hv : Bool) (val : ByteArray) (t o : Int) : Option Bool := some (oddB hk key hv val t o)
set_option maxHeartbeats 4000000 in
set_option maxRecDepth 100000 in
theorem bollardref12_odd.calls (hk : Bool) (key : ByteArray) (hv : Bool) (val : ByteArray) (t o : Int) (r : Bool) (w : World) (h : bollardref12_odd.f hk key hv val t o = some r) : Calls Try.prog 49 #[.agg #[.bool hk, .string key, .bool hv, .string val, .int .i64 t, .int .i64 o]] w fun e w' => e = .returned (.bool r) ∧ Below w.heap.size w w' := by
  obtain rfl := Option.some.inj h
  clear h
  go_enter Try.func49, Try.ntmps49
  go_wp2
  all_goals
    go_ret
    exact ⟨congrArg (fun b => Ending.returned (.bool b)) (by unfold oddB; first | (simp [*]; done) | (simp [*, Bool.or_assoc]; done)), below_alloc (Below.refl _ _) _⟩
/-! ### bollardref12_Check -/
def chkC (hk : Bool) (key : ByteArray) (hv : Bool) (val : ByteArray) (t o : Int) : Int := if oddB hk key hv val t o = true then 1 else if 2000 < (key.size : Int) ∨ 2000 < (val.size : Int) then 2 else 0
def bollardref12_Check.f (hk : Bool) (key : ByteArray) (hv : Bool) (val : ByteArray) (t o : Int) : Option Int := some (chkC hk key hv val t o)
set_option maxHeartbeats 4000000 in
set_option maxRecDepth 100000 in
theorem bollardref12_Check.calls (hk : Bool) (key : ByteArray) (hv : Bool) (val : ByteArray) (t o : Int) (r : Int) (w : World) (h : bollardref12_Check.f hk key hv val t o = some r) : Calls Try.prog 31 #[.agg #[.bool hk, .string key, .bool hv, .string val, .int .i64 t, .int .i64 o]] w fun e w' => e = .returned (.int .i64 r) ∧ Below w.heap.size w w' := by
  obtain rfl := Option.some.inj h
  clear h
  obtain ⟨b, hb_⟩ : ∃ b, b = oddB hk key hv val t o := ⟨_, rfl⟩
  have HB_ := Aside0.mk hb_
  clear hb_
  go_enter Try.func31, Try.ntmps31
  go_wp2_with fail
  refine (bollardref12_odd.calls hk key hv val t o b _ (congrArg some HB_.out.symm)).mono ?_
  rintro e w1 ⟨rfl, hb⟩
  have E1 := Aside0.mk (And.intro (below_step (below_alloc (Below.refl w.heap.size w) (.cells #[.bool hk, .string key, .bool hv, .string val, .int .i64 t, .int .i64 o] 45)) hb) (blk_below (heap_alloc_new w (.cells #[.bool hk, .string key, .bool hv, .string val, .int .i64 t, .int .i64 o] 45)) hb))
  clear hb
  have y1 : w1.cell? ⟨w.heap.size, 1, none⟩ = some (.string key) := (blk_cell E1.out.2 1).trans rfl
  have y3 : w1.cell? ⟨w.heap.size, 3, none⟩ = some (.string val) := (blk_cell E1.out.2 3).trans rfl
  cases b with
  | true =>
    go_wp2
    go_ret
    exact ⟨congrArg (fun b => Ending.returned (.int .i64 b)) (by unfold chkC; rw [← HB_.out, if_pos rfl]), E1.out.1⟩
  | false =>
    by_cases c1 : 2000 < (key.size : Int)
    · have f1 : decide (2000 < (key.size : Int)) = true := decide_eq_true c1
      go_wp2
      go_ret
      exact ⟨congrArg (fun b => Ending.returned (.int .i64 b)) (by unfold chkC; rw [← HB_.out, if_neg (by simp), if_pos (.inl c1)]), E1.out.1⟩
    · have f1 : decide (2000 < (key.size : Int)) = false := decide_eq_false c1
      by_cases c2 : 2000 < (val.size : Int)
      · have f2 : decide (2000 < (val.size : Int)) = true := decide_eq_true c2
        go_wp2
        go_ret
        exact ⟨congrArg (fun b => Ending.returned (.int .i64 b)) (by unfold chkC; rw [← HB_.out, if_neg (by simp), if_pos (.inr c2)]), E1.out.1⟩
      · have f2 : decide (2000 < (val.size : Int)) = false := decide_eq_false c2
        go_wp2
        go_ret
        exact ⟨congrArg (fun b => Ending.returned (.int .i64 b)) (by unfold chkC; rw [← HB_.out, if_neg (by simp), if_neg (by omega)]), E1.out.1⟩


/-! ### bollardref1_Varint: function 64 -/
def bollardref1_Varint.l0 : Nat → Int → List Int → Option (List Int)
  | 0, _, _ => none
  | k + 1, x0, x3 => if x0 ≥ 128 then (if x3.length < 140737488355328 then (bollardref1_Varint.l0 k (x0 / 128) (x3 ++ [(Go.bits .or .u64 (Go.bits .and .u64 x0 127) 128) % 256])) else (none)) else (if x3.length < 140737488355328 then (some (x3 ++ [(x0) % 256])) else (none))
def bollardref1_Varint.f (k : Nat) (a0 : Int) : Option (List Int) := bollardref1_Varint.l0 k a0 ([] : List Int)
set_option maxRecDepth 100000 in
theorem bollardref1_Varint.mono_l : ∀ k, (∀ y0 y1, LeO (bollardref1_Varint.l0 k y0 y1) (bollardref1_Varint.l0 (k + 1) y0 y1))
  | 0 => fun _ _ r h => by first | exact nomatch (show (none : Option _) = some r from h) | (rw [bollardref1_Varint.l0] at h; cases h; done) | (simp [bollardref1_Varint.l0] at h; done)
  | k + 1 => by
    have ih0 := bollardref1_Varint.mono_l k
    · intro y0 y1
      unfold bollardref1_Varint.l0
      repeat' first
      | (with_reducible exact ih0 _ _)
      | (with_reducible exact LeO.refl _)
      | (with_reducible exact LeO.none _)
      | (with_reducible refine LeO.ite ?_ ?_)
      | (with_reducible refine LeO.bind ?_ (fun _ => ?_))
      | exact ih0 _ _
      | exact LeO.none _
      | refine LeO.ite ?_ ?_
      | refine LeO.bind ?_ (fun _ => ?_)
theorem bollardref1_Varint.mono : ∀ a0 k, LeO (bollardref1_Varint.f k a0) (bollardref1_Varint.f (k + 1) a0) := by
  intro a0 k
  have ih0 := bollardref1_Varint.mono_l k
  unfold bollardref1_Varint.f
  repeat' first
      | (with_reducible exact ih0 _ _)
      | (with_reducible exact LeO.refl _)
      | (with_reducible exact LeO.none _)
      | (with_reducible refine LeO.ite ?_ ?_)
      | (with_reducible refine LeO.bind ?_ (fun _ => ?_))
      | exact ih0 _ _
      | exact LeO.none _
      | refine LeO.ite ?_ ?_
      | refine LeO.bind ?_ (fun _ => ?_)
set_option maxHeartbeats 8000000 in
set_option maxRecDepth 100000 in
theorem bollardref1_Varint.calls (k : Nat) (a0 : Int) (r : List Int) (w : World) (h : bollardref1_Varint.f k a0 = some r) :
    Calls Try.prog 64 #[.int .u64 a0] w fun e w' => ∃ v0_ : Value, e = .returned (v0_) ∧ Kd.R (Kd.int .u8) 5 w' w.heap.size (fun _ => True) v0_ r ∧ Below w.heap.size w w' := by
  have HB := Aside0.mk (Below.refl w.heap.size w)
  have H : (bollardref1_Varint.l0 k a0 ([] : List Int)) = some r := h
  clear h
  have H' := Aside0.mk H
  clear H
  go_enter Try.func64, Try.ntmps64
  go_wp2
  go_loopg [0, 3] k (fun kq v0 v3 w' => ∃ (x0_1 : Int) (x3_1 : List Int), v0 = .int .u64 x0_1 ∧ Aside0 (bollardref1_Varint.l0 kq x0_1 x3_1 = some r) ∧ Aside0 (kq ≤ k) ∧ Aside0 (Kd.R (Kd.int .u8) 5 w' w.heap.size (fun _ => True) v3 x3_1) ∧ Aside0 (Below w.heap.size w w'))
  case atStart => exact ⟨(a0), (([] : List Int)), (by first | rfl | (simp; done) | (simp [*]; done) | exact congrArg Value.bool (ne_empty _) | exact congrArg Value.bool (eq_empty _)), H', ⟨Nat.le_refl _⟩, ⟨by first | exact Kd.R_nil _ _ _ _ _ | exact Kd.N_nil _ _ _ _ _ | exact Kd.V_nil _ _ _ _ _ | exact Kd.Q_nil _ _ _ _ _ | exact Kd.S_nil _ _ _ _ _⟩, ⟨by repeat (first | (with_reducible first | exact HB.out | apply below_alloc | apply pw_below_drewN | apply below_drew1) | exact HB.out)⟩⟩
  case round =>
    clear H'
    obtain ⟨x0_1, x3_1, rfl, HA, HK1, HO_3, HB⟩ := hrel
    cases gk with
    | zero => exact absurd HA.out (by first | (intro h_; exact nomatch (show (none : Option _) = some r from h_)) | simp [bollardref1_Varint.l0])
    | succ k1 =>
      have H := HA.out
      clear HA
      simp only [bollardref1_Varint.l0] at H
      by_cases c2 : x0_1 ≥ 128
      · rw [if_pos c2] at H
        have c2b0 : decide (128 ≤ x0_1) = true := decide_eq_true c2
        clear c2
        by_cases c3 : x3_1.length < 140737488355328
        · rw [if_pos c3] at H
          have LMc3 := Aside0.mk c3
          clear c3
          obtain ⟨y229, hy229⟩ : ∃ y_ : List Int, y_ = (x3_1 ++ [(Go.bits .or .u64 (Go.bits .and .u64 x0_1 127) 128) % 256]) := ⟨_, rfl⟩
          replace H : (bollardref1_Varint.l0 k1 (x0_1 / 128) y229) = some r := by first | (rw [hy229]; with_reducible exact H) | (have H2_ := (Option.bind_some _ _).symm.trans H; rw [hy229]; with_reducible exact H2_) | (have H2_ := (Option.bind_some _ _).symm.trans H; with_reducible exact H2_) | with_reducible exact H | (rw [hy229]; exact H) | exact H
          have Ny229 := Aside0.mk hy229
          clear hy229
          have H' := Aside0.mk H
          clear H
          go_wp2_with (first | ((with_reducible refine gate_builtin (b := .append) (xs := #[.tmp 6, .tmp 11]) rfl ?_); at_builtin; refine Kd.R_append (Kd.int .u8) (w0 := w) w.heap.size rfl (.tmp 6) (.tmp 11) 27 5 (.int .u8 0) 1 rfl Try.underlying27 info5 rfl (by decide) (by omega) u3 x3_1 ((Go.bits .or .u64 (Go.bits .and .u64 x0_1 127) 128) % 256) [.int .u8 ((Go.bits .or .u64 (Go.bits .and .u64 x0_1 127) 128) % 256)] (fun _ => True) (fun _ => False) rfl rfl ?aP (fun _ hk => hk.elim) ?aF ?aO ?aB ?aS ?aL ?_; (case aP => exact rfl); (case aB => exact (by repeat (first | (with_reducible first | exact HB.out | apply below_alloc | apply pw_below_drewN | apply below_drew1) | exact HB.out))); (case aF => exact (fun _ _ => trivial)); (case aO => exact (by (with_reducible repeat (first | apply Kd.R_alloc | apply Kd.R_drewN | apply Kd.R_drew)); exact HO_3.out)); (case aS => exact (below_size (by repeat (first | (with_reducible first | exact HB.out | apply below_alloc | apply pw_below_drewN | apply below_drew1) | exact HB.out)))); (case aL => have := LMc3.out; omega); intro v230 w4 ho hb hg hat; rw [← Ny229.out] at ho; have n0_ := Aside0.mk (hb); have n1_ := Aside0.mk (ho); clear HB; clear HO_3; have HB := n0_; have HO231 := n1_; clear n0_ n1_; clear ho hb hg hat))
          go_roundg k1
          case measure => have := HK1.out; omega
          case rel => exact ⟨(x0_1 / 128), (y229), (by first | rfl | (simp; done) | (simp [*]; done) | exact congrArg Value.bool (ne_empty _) | exact congrArg Value.bool (eq_empty _)), H', ⟨by have := HK1.out; omega⟩, ⟨by (with_reducible repeat (first | apply Kd.R_alloc | apply Kd.R_drewN | apply Kd.R_drew)); exact HO231.out⟩, ⟨by repeat (first | (with_reducible first | exact HB.out | apply below_alloc | apply pw_below_drewN | apply below_drew1) | exact HB.out)⟩⟩
        · rw [if_neg c3] at H
          exact absurd H (by simp)
      · rw [if_neg c2] at H
        have c2b0 : decide (128 ≤ x0_1) = false := decide_eq_false c2
        clear c2
        by_cases c5 : x3_1.length < 140737488355328
        · rw [if_pos c5] at H
          have LMc5 := Aside0.mk c5
          clear c5
          obtain ⟨y232, hy232⟩ : ∃ y_ : List Int, y_ = (x3_1 ++ [(x0_1) % 256]) := ⟨_, rfl⟩
          replace H : (some y232) = some r := by first | (rw [hy232]; with_reducible exact H) | (have H2_ := (Option.bind_some _ _).symm.trans H; rw [hy232]; with_reducible exact H2_) | (have H2_ := (Option.bind_some _ _).symm.trans H; with_reducible exact H2_) | with_reducible exact H | (rw [hy232]; exact H) | exact H
          have Ny232 := Aside0.mk hy232
          clear hy232
          obtain rfl := Option.some.inj H
          go_wp2_with (first | ((with_reducible refine gate_builtin (b := .append) (xs := #[.tmp 15, .tmp 18]) rfl ?_); at_builtin; refine Kd.R_append (Kd.int .u8) (w0 := w) w.heap.size rfl (.tmp 15) (.tmp 18) 27 5 (.int .u8 0) 1 rfl Try.underlying27 info5 rfl (by decide) (by omega) u3 x3_1 ((x0_1) % 256) [.int .u8 ((x0_1) % 256)] (fun _ => True) (fun _ => False) rfl rfl ?aP (fun _ hk => hk.elim) ?aF ?aO ?aB ?aS ?aL ?_; (case aP => exact rfl); (case aB => exact (by repeat (first | (with_reducible first | exact HB.out | apply below_alloc | apply pw_below_drewN | apply below_drew1) | exact HB.out))); (case aF => exact (fun _ _ => trivial)); (case aO => exact (by (with_reducible repeat (first | apply Kd.R_alloc | apply Kd.R_drewN | apply Kd.R_drew)); exact HO_3.out)); (case aS => exact (below_size (by repeat (first | (with_reducible first | exact HB.out | apply below_alloc | apply pw_below_drewN | apply below_drew1) | exact HB.out)))); (case aL => have := LMc5.out; omega); intro v233 w6 ho hb hg hat; rw [← Ny232.out] at ho; have n0_ := Aside0.mk (hb); have n1_ := Aside0.mk (ho); clear HB; clear HO_3; have HB := n0_; have HO234 := n1_; clear n0_ n1_; clear ho hb hg hat))
          go_ret
          exact ⟨_, by first | rfl | (simp [errW_none, errW_some] <;> rfl) | (simp [*, errW_none, errW_some] <;> rfl), by (with_reducible repeat (first | apply Kd.R_alloc | apply Kd.R_drewN | apply Kd.R_drew)); exact HO234.out, by repeat (first | (with_reducible first | exact HB.out | apply below_alloc | apply pw_below_drewN | apply below_drew1) | exact HB.out)⟩
        · rw [if_neg c5] at H
          exact absurd H (by simp)

/-! ### bollardref1_Zig: function 65 -/
def bollardref1_Zig.f (a0 : Int) : Option (Int) := some (Go.bits .xor .u64 (IntKind.u64.wrap ((IntKind.u64.wrap (a0)) * 2)) (IntKind.u64.wrap (a0 / 9223372036854775808)))
set_option maxHeartbeats 8000000 in
set_option maxRecDepth 100000 in
theorem bollardref1_Zig.calls (a0 : Int) (r : Int) (w : World) (h : bollardref1_Zig.f a0 = some r) :
    Calls Try.prog 65 #[.int .i64 a0] w fun e w' => e = .returned (.int .u64 r) ∧ Drawn0 w w' := by
  have H : (some (Go.bits .xor .u64 (IntKind.u64.wrap ((IntKind.u64.wrap (a0)) * 2)) (IntKind.u64.wrap (a0 / 9223372036854775808)))) = some r := h
  clear h
  obtain rfl := Option.some.inj H
  go_enter Try.func65, Try.ntmps65
  go_wp2
  go_ret
  exact ⟨by first | rfl | (simp; done) | (simp [*]; done) | exact congrArg Value.bool (ne_empty _) | exact congrArg Value.bool (eq_empty _), by repeat (first | exact Drawn0.refl _ | apply Drawn0.step)⟩

/-! ### bollardref12_Encode -/
def encTx (k : Nat) (is : Bool) (s : ByteArray) : Option (List Int) := if is = true then (bollardref1_Varint.f k (s.size : Int)).bind fun v => if v.length ≤ 100 then some (v ++ bytesOf s) else none else some []
def flC (hk hv : Bool) : Int := (if hk = true then 1 else 0) + (if hv = true then 2 else 0)
def bollardref12_Encode.f (k : Nat) (hk : Bool) (key : ByteArray) (hv : Bool) (val : ByteArray) (t o : Int) (first : Int) : Option (List Int × Int) := (bollardref12_Check.f hk key hv val t o).bind fun c => if c = 0 then (if first < 0 then some ([], 1) else if 1125899906842624 < first then some ([], 1) else if key.size ≤ 2000 ∧ val.size ≤ 2000 ∧ 0 ≤ o ∧ o ≤ 1000 then (bollardref1_Varint.f k o).bind fun v1 => (bollardref1_Zig.f (wrap64 (t - first))).bind fun z => (bollardref1_Varint.f k z).bind fun v2 => if v1.length ≤ 100 ∧ v2.length ≤ 100 then (encTx k hk key).bind fun a => (encTx k hv val).bind fun b => some (flC hk hv :: (v1 ++ (v2 ++ (a ++ b))), 0) else none else none) else some ([], c)
theorem encTx.mono (k : Nat) (is : Bool) (s : ByteArray) : LeO (encTx k is s) (encTx (k + 1) is s) := by
  unfold encTx
  exact LeO.ite (LeO.bind (bollardref1_Varint.mono _ _) (fun _ => LeO.refl _)) (LeO.refl _)
theorem bollardref12_Encode.mono : ∀ a0 a1 a2 a3 a4 a5 a6 k, LeO (bollardref12_Encode.f k a0 a1 a2 a3 a4 a5 a6) (bollardref12_Encode.f (k + 1) a0 a1 a2 a3 a4 a5 a6) := by
  intro hk key hv val t o first k
  unfold bollardref12_Encode.f
  repeat' first | (with_reducible exact LeO.refl _) | (with_reducible exact encTx.mono _ _ _) | (with_reducible exact bollardref1_Varint.mono _ _) | (with_reducible refine LeO.ite ?_ ?_) | (with_reducible refine LeO.bind ?_ (fun _ => ?_))
theorem encTx_len {k : Nat} {is : Bool} {s : ByteArray} {r : List Int} (hs : s.size ≤ 2000) (h : encTx k is s = some r) : r.length ≤ 2100 := by
  unfold encTx at h
  split at h
  · obtain ⟨v, _, h⟩ := Option.bind_eq_some_iff.mp h
    split at h
    · obtain rfl := Option.some.inj h
      rw [List.length_append, bytesOf_length]
      omega
    · cases h
  · obtain rfl := Option.some.inj h
    simp
def EnSt (w W : World) (hk : Bool) (key : ByteArray) (hv : Bool) (val : ByteArray) (t o : Int) : Prop := Below w.heap.size w W ∧ W.heap[w.heap.size]? = some (.cells #[.bool hk, .string key, .bool hv, .string val, .int .i64 t, .int .i64 o] 45 (0, 0))
section
variable {w W W2 : World} {hk : Bool} {key : ByteArray} {hv : Bool} {val : ByteArray} {t o : Int}
theorem EnSt.below (h : EnSt w W hk key hv val t o) (hb : Below W.heap.size W W2) : EnSt w W2 hk key hv val t o := ⟨below_step h.1 hb, blk_below h.2 hb⟩
theorem EnSt.grown (h : EnSt w W hk key hv val t o) (hb : Below w.heap.size w W2) {row : Option Nat} (hg : W.grownBy W2 row) (hne : some w.heap.size ≠ row) : EnSt w W2 hk key hv val t o := ⟨hb, blk_grown h.2 hg hne⟩
theorem EnSt.c (h : EnSt w W hk key hv val t o) : W.cell? ⟨w.heap.size, 0, none⟩ = some (.bool hk) ∧ W.cell? ⟨w.heap.size, 1, none⟩ = some (.string key) ∧ W.cell? ⟨w.heap.size, 2, none⟩ = some (.bool hv) ∧ W.cell? ⟨w.heap.size, 3, none⟩ = some (.string val) ∧ W.cell? ⟨w.heap.size, 4, none⟩ = some (.int .i64 t) ∧ W.cell? ⟨w.heap.size, 5, none⟩ = some (.int .i64 o) :=
  ⟨(blk_cell h.2 0).trans rfl, (blk_cell h.2 1).trans rfl, (blk_cell h.2 2).trans rfl, (blk_cell h.2 3).trans rfl, (blk_cell h.2 4).trans rfl, (blk_cell h.2 5).trans rfl⟩
end
set_option maxHeartbeats 4000000 in
set_option maxRecDepth 100000 in
theorem bollardref12_Encode.calls (k : Nat) (hk : Bool) (key : ByteArray) (hv : Bool) (val : ByteArray) (t o : Int) (first : Int) (r1 : List Int) (r2 : Int) (w : World) (h : bollardref12_Encode.f k hk key hv val t o first = some (r1, r2)) :
    Calls Try.prog 47 #[.agg #[.bool hk, .string key, .bool hv, .string val, .int .i64 t, .int .i64 o], .int .i64 first] w fun e w' => ∃ v0_ : Value, e = .returned (.tuple #[v0_, .int .i64 r2]) ∧ Kd.R (Kd.int .u8) 5 w' w.heap.size (fun _ => True) v0_ r1 ∧ Below w.heap.size w w' := by
  unfold bollardref12_Encode.f at h
  obtain ⟨c, hc, h⟩ := Option.bind_eq_some_iff.mp h
  have HC := Aside0.mk hc
  have HH := Aside0.mk h
  clear hc h
  go_enter Try.func47, Try.ntmps47
  go_wp2_with fail
  refine (bollardref12_Check.calls hk key hv val t o c _ HC.out).mono ?_
  rintro e w1 ⟨rfl, hb⟩
  have E1 := Aside0.mk (show EnSt w w1 hk key hv val t o from ⟨below_step (below_alloc (Below.refl w.heap.size w) (.cells #[.bool hk, .string key, .bool hv, .string val, .int .i64 t, .int .i64 o] 45)) hb, blk_below (heap_alloc_new w (.cells #[.bool hk, .string key, .bool hv, .string val, .int .i64 t, .int .i64 o] 45)) hb⟩)
  clear hb
  by_cases c0 : c = 0
  case neg =>
    have H := HH.out
    rw [if_neg c0] at H
    simp only [Option.some.injEq, Prod.mk.injEq] at H
    obtain ⟨rfl, rfl⟩ := H
    have f0 : (c != 0) = true := bne_iff_ne.mpr c0
    go_wp2
    go_ret2
    exact ⟨_, rfl, Kd.R_nil _ _ _ _ _, E1.out.1⟩
  have f0 : (c != 0) = false := bne_eq_false_iff_eq.mpr c0
  have H := HH.out
  rw [if_pos c0] at H
  by_cases c1 : first < 0
  · rw [if_pos c1] at H
    simp only [Option.some.injEq, Prod.mk.injEq] at H
    obtain ⟨rfl, rfl⟩ := H
    have f1 : decide (first < 0) = true := decide_eq_true c1
    go_wp2
    go_ret2
    exact ⟨_, rfl, Kd.R_nil _ _ _ _ _, E1.out.1⟩
  rw [if_neg c1] at H
  have f1 : decide (first < 0) = false := decide_eq_false c1
  by_cases c2 : 1125899906842624 < first
  · rw [if_pos c2] at H
    simp only [Option.some.injEq, Prod.mk.injEq] at H
    obtain ⟨rfl, rfl⟩ := H
    have f2 : decide (1125899906842624 < first) = true := decide_eq_true c2
    go_wp2
    go_ret2
    exact ⟨_, rfl, Kd.R_nil _ _ _ _ _, E1.out.1⟩
  rw [if_neg c2] at H
  have f2 : decide (1125899906842624 < first) = false := decide_eq_false c2
  by_cases c3 : key.size ≤ 2000 ∧ val.size ≤ 2000 ∧ 0 ≤ o ∧ o ≤ 1000
  case neg => rw [if_neg c3] at H; cases H
  rw [if_pos c3] at H
  obtain ⟨kz, vz, o0, o1⟩ := c3
  obtain ⟨v1, A1_, H⟩ := Option.bind_eq_some_iff.mp H
  obtain ⟨z, A2_, H⟩ := Option.bind_eq_some_iff.mp H
  obtain ⟨v2, A3_, H⟩ := Option.bind_eq_some_iff.mp H
  by_cases c4 : v1.length ≤ 100 ∧ v2.length ≤ 100
  case neg => rw [if_neg c4] at H; cases H
  rw [if_pos c4] at H
  obtain ⟨ta, A4_, H⟩ := Option.bind_eq_some_iff.mp H
  obtain ⟨tb, A5_, H⟩ := Option.bind_eq_some_iff.mp H
  simp only [Option.some.injEq, Prod.mk.injEq] at H
  obtain ⟨rfl, rfl⟩ := H
  have A1 := Aside0.mk A1_
  have A2 := Aside0.mk A2_
  have A3 := Aside0.mk A3_
  have A4 := Aside0.mk A4_
  have A5 := Aside0.mk A5_
  have L4 := Aside0.mk c4
  have KZ := Aside0.mk (And.intro kz vz)
  clear A1_ A2_ A3_ A4_ A5_ c4 HH HC c1 c2 kz vz c0
  obtain ⟨y0, y1, y2, y3, y4, y5⟩ := E1.out.c
  go_upto_if 21 with (fail)
  (try simp only [Act.put, List.setIfInBounds_toArray, List.set_cons_zero, List.set_cons_succ])
  go_cut [7] (fun v7 wc => v7 = .int .u8 (if hk = true then 1 else 0) ∧ Aside0 (EnSt w wc hk key hv val t o))
  case first =>
    cases hk
    all_goals
      go_wp2
      go_meet
      case rel => exact ⟨rfl, E1⟩
  clear E1 y0 y1 y2 y3 y4 y5
  obtain ⟨rfl, E1⟩ := hcut
  obtain ⟨y0, y1, y2, y3, y4, y5⟩ := E1.out.c
  go_upto_if 23 with (fail)
  (try simp only [Act.put, List.setIfInBounds_toArray, List.set_cons_zero, List.set_cons_succ])
  go_cut [7] (fun v7 wc => v7 = .int .u8 (flC hk hv) ∧ Aside0 (EnSt w wc hk key hv val t o))
  case first =>
    cases hk <;> cases hv
    all_goals
      go_wp2
      go_meet
      case rel => exact ⟨rfl, E1⟩
  clear E1 y0 y1 y2 y3 y4 y5
  obtain ⟨rfl, E1⟩ := hcut
  obtain ⟨y0, y1, y2, y3, y4, y5⟩ := E1.out.c
  obtain ⟨fl, hfl⟩ : ∃ fl, fl = flC hk hv := ⟨_, rfl⟩
  rw [← hfl]
  have FL := Aside0.mk hfl
  clear hfl
  go_wp2_with ((with_reducible refine gate_dst (N := 27) rfl ?_); refine Kd.R_lit (Kd.int .u8) _ 5 ?hg (N := 27) ?hd (xs := ([fl] : List Int)) (inner := [.int .u8 fl]) (ok := fun _ => True) (okp := fun _ => True) ?hr ?hp (fun _ hk => hk) trivial (Below.refl _ _) (Nat.le_refl _) (by simp) ?_; (case hd => rfl); (case hg => rfl); (case hr => first | (go_simp; done) | (go_simp; rfl)); (case hp => exact (Reps.one (show Kd.M (Kd.int .u8) _ _ _ fl [.int .u8 fl] from rfl) (Reps.none _ _))); intro x2 w2 ho hb hg_ hnew_; have E2 := Aside0.mk (E1.out.below hb); have O2 := Aside0.mk (Kd.R_lower ho E1.out.1.size); clear y0 y1 y2 y3 y4 y5; clear E1; obtain ⟨y0, y1, y2, y3, y4, y5⟩ := E2.out.c; clear ho hb hg_ hnew_)
  refine (bollardref1_Varint.calls k o v1 _ A1.out).mono ?_
  rintro e w3 ⟨va, rfl, ho, hb⟩
  have E3 := Aside0.mk (E2.out.below hb)
  have O3 := Aside0.mk (Kd.R_below O2.out hb)
  obtain ⟨Aa, ca, ea⟩ := Kd.R_slice ho
  subst ea
  have RA := Aside0.mk (Kd.R_reads' ho).2.2
  clear y0 y1 y2 y3 y4 y5
  clear E2 O2 ho hb
  obtain ⟨y0, y1, y2, y3, y4, y5⟩ := E3.out.c
  go_wp2_with (at_builtin; refine Kd.R_append_rows (Kd.int .u8) (w0 := w) w.heap.size rfl (.tmp 27) (.tmp 31) 27 5 (.int .u8 0) 1 rfl Try.underlying27 info5 rfl (by decide) (by decide) x2 [fl] v1 Aa v1.length ca (fun _ => True) (fun _ => False) rfl rfl O3.out RA.out (fun _ _ h => h) (fun _ h => h.elim) (fun _ _ => trivial) E3.out.1 E3.out.1.size ?aL ?_; (case aL => have := L4.out; simp only [List.length_cons, List.length_nil]; omega); intro x4 w4 ho hb hg hat; have E4 := Aside0.mk (E3.out.grown hb hg (Kd.R_ne O3.out E3.out.2 (by decide))); have O4 := Aside0.mk ho; clear y0 y1 y2 y3 y4 y5; clear E3 O3 RA; obtain ⟨y0, y1, y2, y3, y4, y5⟩ := E4.out.c; clear ho hb hg hat)
  refine (bollardref1_Zig.calls (wrap64 (t - first)) z _ A2.out).mono ?_
  rintro e w' ⟨rfl, ⟨nd, rfl⟩⟩
  have E5 := Aside0.mk (E4.out.below (pw_below_drewN (Below.refl _ _) nd))
  have O5 := Aside0.mk (Kd.R_drewN O4.out nd)
  clear E4 O4
  go_wp2_with fail
  refine (bollardref1_Varint.calls k z v2 _ A3.out).mono ?_
  rintro e w6 ⟨vb, rfl, ho, hb⟩
  have E6 := Aside0.mk (E5.out.below hb)
  have O6 := Aside0.mk (Kd.R_below O5.out hb)
  obtain ⟨Ab, cb, eb⟩ := Kd.R_slice ho
  subst eb
  have RB := Aside0.mk (Kd.R_reads' ho).2.2
  clear y0 y1 y2 y3 y4 y5
  clear E5 O5 ho hb
  obtain ⟨y0, y1, y2, y3, y4, y5⟩ := E6.out.c
  go_upto_if 42 with (at_builtin; refine Kd.R_append_rows (Kd.int .u8) (w0 := w) w.heap.size rfl (.tmp 33) (.tmp 39) 27 5 (.int .u8 0) 1 rfl Try.underlying27 info5 rfl (by decide) (by decide) x4 ([fl] ++ v1) v2 Ab v2.length cb (fun _ => True) (fun _ => False) rfl rfl O6.out RB.out (fun _ _ h => h) (fun _ h => h.elim) (fun _ _ => trivial) E6.out.1 E6.out.1.size ?aL ?_; (case aL => have := L4.out; simp only [List.length_append, List.length_cons, List.length_nil]; omega); intro x7 w7 ho hb hg hat; have E7 := Aside0.mk (E6.out.grown hb hg (Kd.R_ne O6.out E6.out.2 (by decide))); have O7 := Aside0.mk (show Kd.R (Kd.int .u8) 5 w7 w.heap.size (fun _ => True) x7 (fl :: (v1 ++ v2)) from by simpa using ho); clear y0 y1 y2 y3 y4 y5; clear E6 O6 RB; obtain ⟨y0, y1, y2, y3, y4, y5⟩ := E7.out.c; clear ho hb hg hat)
  (try simp only [Act.put, List.setIfInBounds_toArray, List.set_cons_zero, List.set_cons_succ])
  go_cut [8] (fun v8 wc => Aside0 (Kd.R (Kd.int .u8) 5 wc w.heap.size (fun _ => True) v8 (fl :: (v1 ++ (v2 ++ ta)))) ∧ Aside0 (EnSt w wc hk key hv val t o))
  case first =>
    cases hk with
    | false =>
      obtain rfl : ta = [] := (Option.some.inj (show some ([] : List Int) = some ta from A4.out)).symm
      go_wp2
      go_meet
      case rel => exact ⟨⟨by simpa using O7.out⟩, E7⟩
    | true =>
      have H4 := A4.out
      unfold encTx at H4
      rw [if_pos rfl] at H4
      obtain ⟨vv, B1_, B2⟩ := Option.bind_eq_some_iff.mp H4
      by_cases c5 : vv.length ≤ 100
      case neg => rw [if_neg c5] at B2; cases B2
      rw [if_pos c5] at B2
      obtain rfl := Option.some.inj B2
      have B1 := Aside0.mk B1_
      have L5 := Aside0.mk c5
      have kz : IntKind.u64.wrap (key.size : Int) = (key.size : Int) := by have := KZ.out; rw [IntKind.wrap_u64]; omega
      clear B1_ B2 H4 c5
      go_wp2_with fail
      refine start_ (n := 11) (S := fun w' => w'.cell? ⟨w.heap.size, 1, none⟩ = some (.string key)) (ds := []) #[false, false, false, false, false, false, false, false, false, false, false] (by kernel_rfl) rfl rfl (show EnSt w _ _ _ _ _ _ _ from E7.out.below (below_drew1 (Below.refl _ _))).c.2.1 (fun hHeld => ?_)
      have E8 := Aside0.mk (E7.out.below (below_drew1 (Below.refl _ _)))
      have O8 := Aside0.mk (Kd.R_drew O7.out)
      clear y0 y1 y2 y3 y4 y5
      generalize World.drew _ = y8 at E8 O8 hHeld ⊢
      refine pure_ (i := 0) (N := (some 43)) (v := ?_) (a' := ?_) #[true, false, false, false, false, false, false, false, false, false, false] rfl rfl (by kernel_rfl) (fun _ _ _ h => h) (Or.inl ⟨by rfl, ?_⟩) ?_ ?_
      rotate_left
      · intro w'
        go_simp
        with_reducible rfl
      rotate_left
      · simp only [Act.put, List.setIfInBounds_toArray, List.set_cons_zero, List.set_cons_succ, i64_w, i32_w]
        rfl
      refine pure_ (i := 1) (N := (some 44)) (v := ?_) (a' := ?_) #[true, true, false, false, false, false, false, false, false, false, false] rfl rfl (by kernel_rfl) (fun _ _ _ h => h) (Or.inl ⟨by rfl, ?_⟩) ?_ ?_
      rotate_left
      · intro w'
        go_simp
        with_reducible rfl
      rotate_left
      · simp only [Act.put, List.setIfInBounds_toArray, List.set_cons_zero, List.set_cons_succ, i64_w, i32_w]
        rfl
      refine pure_ (i := 7) (N := (some 50)) (v := ?_) (a' := ?_) #[true, true, false, false, false, false, false, true, false, false, false] rfl rfl (by kernel_rfl) (fun _ _ _ h => h) (Or.inl ⟨by rfl, ?_⟩) ?_ ?_
      rotate_left
      · intro w'
        go_simp
        with_reducible rfl
      rotate_left
      · simp only [Act.put, List.setIfInBounds_toArray, List.set_cons_zero, List.set_cons_succ, i64_w, i32_w]
        rfl
      refine take_ (i := 2) (N := (some 45)) (v := ?_) (a' := ?_) #[true, true, true, false, false, false, false, true, false, false, false] rfl rfl (by kernel_rfl) (fun _ _ _ h => h) (Or.inl ⟨by rfl, ?_⟩) hHeld ?_ ?_
      rotate_left
      · rintro w' sA
        go_simp
        with_reducible rfl
      rotate_left
      · simp only [Act.put, List.setIfInBounds_toArray, List.set_cons_zero, List.set_cons_succ, i64_w, i32_w]
        rfl
      refine take_ (i := 8) (N := (some 51)) (v := ?_) (a' := ?_) #[true, true, true, false, false, false, false, true, true, false, false] rfl rfl (by kernel_rfl) (fun _ _ _ h => h) (Or.inl ⟨by rfl, ?_⟩) hHeld ?_ ?_
      rotate_left
      · rintro w' sA
        go_simp
        with_reducible rfl
      rotate_left
      · simp only [Act.put, List.setIfInBounds_toArray, List.set_cons_zero, List.set_cons_succ, i64_w, i32_w]
        rfl
      refine pure_ (i := 3) (N := (some 46)) (v := ?_) (a' := ?_) #[true, true, true, true, false, false, false, true, true, false, false] rfl rfl (by kernel_rfl) (fun _ _ _ h => h) (Or.inl ⟨by rfl, ?_⟩) ?_ ?_
      rotate_left
      · intro w'
        go_simp
        with_reducible rfl
      rotate_left
      · simp only [Act.put, List.setIfInBounds_toArray, List.set_cons_zero, List.set_cons_succ, i64_w, i32_w]
        rfl
      refine pure_ (i := 4) (N := (some 47)) (v := ?_) (a' := ?_) #[true, true, true, true, true, false, false, true, true, false, false] rfl rfl (by kernel_rfl) (fun _ _ _ h => h) (Or.inl ⟨by rfl, ?_⟩) ?_ ?_
      rotate_left
      · intro w'
        go_simp
        with_reducible rfl
      rotate_left
      · simp only [Act.put, List.setIfInBounds_toArray, List.set_cons_zero, List.set_cons_succ, i64_w, i32_w]
        rfl
      refine one_ (i := 5) (N := (some 48)) #[true, true, true, true, true, true, false, true, true, false, false] rfl rfl (by kernel_rfl) (by decide) (fun K hK => ?_)
      refine goes_ Try.func64 (by kernel_rfl) rfl #[.int .u64 (key.size : Int)] (by rfl) rfl rfl (by (try simp only [List.map_toArray, List.map_cons, List.map_nil]); first | done | rfl) ?_
      refine (bollardref1_Varint.calls k (key.size : Int) vv _ B1.out).mono ?_
      rintro e w9 ⟨va, rfl, ho, hb⟩
      refine ⟨_, rfl, ?_⟩
      have E9 := Aside0.mk (E8.out.below hb)
      have O9 := Aside0.mk (Kd.R_below O8.out hb)
      obtain ⟨Aa, ca, ea⟩ := Kd.R_slice ho
      subst ea
      have RA := Aside0.mk (Kd.R_reads' ho).2.2
      clear E8 O8 ho hb
      refine hK.out _ _ E9.out.c.2.1 (fun hHeld => ?_)
      clear hK K
      refine norm_ (a' := ?_) ?_ ?_
      rotate_left
      · show Act.put _ (some 48) _ = _
        simp only [Act.put, List.setIfInBounds_toArray, List.set_cons_zero, List.set_cons_succ, i64_w, i32_w]
        rfl
      refine one_ (i := 6) (N := (some 49)) #[true, true, true, true, true, true, true, true, true, false, false] rfl rfl (by kernel_rfl) (by decide) (fun K hK => ?_)
      refine Kd.R_append_rows_step (Kd.int .u8) (w0 := w) w.heap.size (by rfl) (.tmp 43) (.tmp 48) 27 5 (.int .u8 0) 1 rfl Try.underlying27 info5 rfl (by decide) (by decide) x7 (fl :: (v1 ++ v2)) vv Aa vv.length ca (fun _ => True) (fun _ => False) rfl rfl O9.out RA.out (fun _ _ h => h) (fun _ h => h.elim) (fun _ _ => trivial) E9.out.1 E9.out.1.size ?aL ?_; (case aL => have := L4.out; have := L5.out; simp only [List.length_append, List.length_cons, List.length_nil]; omega); intro x10 w10 ho hb hg hat; have E10 := Aside0.mk (E9.out.grown hb hg (Kd.R_ne O9.out E9.out.2 (by decide))); have O10 := Aside0.mk ho; clear E9 O9 RA; clear ho hb hg hat
      refine hK.out _ _ E10.out.c.2.1 (fun hHeld => ?_)
      clear hK K
      refine norm_ (a' := ?_) ?_ ?_
      rotate_left
      · show Act.put _ (some 49) _ = _
        simp only [Act.put, List.setIfInBounds_toArray, List.set_cons_zero, List.set_cons_succ, i64_w, i32_w]
        rfl
      refine one_ (i := 9) (N := (some 52)) #[true, true, true, true, true, true, true, true, true, true, false] rfl rfl (by kernel_rfl) (by decide) (fun K hK => ?_)
      refine Kd.R_append_str_step (w0 := w) w.heap.size (by rfl) (.tmp 49) _ 27 9 5 rfl Try.underlying27 Try.underlying9 info5 x10 ((fl :: (v1 ++ v2)) ++ vv) key (fun _ => True) rfl rfl (fun _ _ => trivial) O10.out E10.out.1 E10.out.1.size ?aL ?_; (case aL => have := L4.out; have := L5.out; have := KZ.out; simp only [List.length_append, List.length_cons, List.length_nil]; omega); intro x11 w11 ho hb hg hat; have E11 := Aside0.mk (E10.out.grown hb hg (Kd.R_ne O10.out E10.out.2 (by decide))); have O11 := Aside0.mk ho; clear E10 O10; clear ho hb hg hat
      refine hK.out _ _ E11.out.c.2.1 (fun hHeld => ?_)
      clear hK K
      refine norm_ (a' := ?_) ?_ ?_
      rotate_left
      · show Act.put _ (some 52) _ = _
        simp only [Act.put, List.setIfInBounds_toArray, List.set_cons_zero, List.set_cons_succ, i64_w, i32_w]
        rfl
      refine pure_ (i := 10) (N := (some 8)) (v := ?_) (a' := ?_) #[true, true, true, true, true, true, true, true, true, true, true] rfl rfl (by kernel_rfl) (fun _ _ _ h => h) (Or.inl ⟨by rfl, ?_⟩) ?_ ?_
      rotate_left
      · intro w'
        go_simp
        with_reducible rfl
      rotate_left
      · simp only [Act.put, List.setIfInBounds_toArray, List.set_cons_zero, List.set_cons_succ, i64_w, i32_w]
        rfl
      refine done_ (by kernel_rfl) ?_
      clear hHeld
      go_wp2
      go_meet
      case rel => exact ⟨⟨by simpa using O11.out⟩, E11⟩
  clear E7 O7 y0 y1 y2 y3 y4 y5
  obtain ⟨O7, E7⟩ := hcut
  obtain ⟨y0, y1, y2, y3, y4, y5⟩ := E7.out.c
  have LA := Aside0.mk (show ta.length ≤ 2100 from encTx_len KZ.out.1 A4.out)
  go_upto_if 54 with (fail)
  (try simp only [Act.put, List.setIfInBounds_toArray, List.set_cons_zero, List.set_cons_succ])
  go_cut [8] (fun v8 wc => Aside0 (Kd.R (Kd.int .u8) 5 wc w.heap.size (fun _ => True) v8 (fl :: (v1 ++ (v2 ++ (ta ++ tb))))) ∧ Aside0 (EnSt w wc hk key hv val t o))
  case first =>
    cases hv with
    | false =>
      obtain rfl : tb = [] := (Option.some.inj (show some ([] : List Int) = some tb from A5.out)).symm
      go_wp2
      go_meet
      case rel => exact ⟨⟨by simpa using O7.out⟩, E7⟩
    | true =>
      have H4 := A5.out
      unfold encTx at H4
      rw [if_pos rfl] at H4
      obtain ⟨vv, B1_, B2⟩ := Option.bind_eq_some_iff.mp H4
      by_cases c5 : vv.length ≤ 100
      case neg => rw [if_neg c5] at B2; cases B2
      rw [if_pos c5] at B2
      obtain rfl := Option.some.inj B2
      have B1 := Aside0.mk B1_
      have L5 := Aside0.mk c5
      have vz : IntKind.u64.wrap (val.size : Int) = (val.size : Int) := by have := KZ.out; rw [IntKind.wrap_u64]; omega
      clear B1_ B2 H4 c5
      go_wp2_with fail
      refine start_ (n := 11) (S := fun w' => w'.cell? ⟨w.heap.size, 3, none⟩ = some (.string val)) (ds := []) #[false, false, false, false, false, false, false, false, false, false, false] (by kernel_rfl) rfl rfl (show EnSt w _ _ _ _ _ _ _ from E7.out.below (below_drew1 (Below.refl _ _))).c.2.2.2.1 (fun hHeld => ?_)
      have E8 := Aside0.mk (E7.out.below (below_drew1 (Below.refl _ _)))
      have O8 := Aside0.mk (Kd.R_drew O7.out)
      clear y0 y1 y2 y3 y4 y5
      generalize World.drew _ = y8 at E8 O8 hHeld ⊢
      refine pure_ (i := 0) (N := (some 55)) (v := ?_) (a' := ?_) #[true, false, false, false, false, false, false, false, false, false, false] rfl rfl (by kernel_rfl) (fun _ _ _ h => h) (Or.inl ⟨by rfl, ?_⟩) ?_ ?_
      rotate_left
      · intro w'
        go_simp
        with_reducible rfl
      rotate_left
      · simp only [Act.put, List.setIfInBounds_toArray, List.set_cons_zero, List.set_cons_succ, i64_w, i32_w]
        rfl
      refine pure_ (i := 1) (N := (some 56)) (v := ?_) (a' := ?_) #[true, true, false, false, false, false, false, false, false, false, false] rfl rfl (by kernel_rfl) (fun _ _ _ h => h) (Or.inl ⟨by rfl, ?_⟩) ?_ ?_
      rotate_left
      · intro w'
        go_simp
        with_reducible rfl
      rotate_left
      · simp only [Act.put, List.setIfInBounds_toArray, List.set_cons_zero, List.set_cons_succ, i64_w, i32_w]
        rfl
      refine pure_ (i := 7) (N := (some 62)) (v := ?_) (a' := ?_) #[true, true, false, false, false, false, false, true, false, false, false] rfl rfl (by kernel_rfl) (fun _ _ _ h => h) (Or.inl ⟨by rfl, ?_⟩) ?_ ?_
      rotate_left
      · intro w'
        go_simp
        with_reducible rfl
      rotate_left
      · simp only [Act.put, List.setIfInBounds_toArray, List.set_cons_zero, List.set_cons_succ, i64_w, i32_w]
        rfl
      refine take_ (i := 2) (N := (some 57)) (v := ?_) (a' := ?_) #[true, true, true, false, false, false, false, true, false, false, false] rfl rfl (by kernel_rfl) (fun _ _ _ h => h) (Or.inl ⟨by rfl, ?_⟩) hHeld ?_ ?_
      rotate_left
      · rintro w' sA
        go_simp
        with_reducible rfl
      rotate_left
      · simp only [Act.put, List.setIfInBounds_toArray, List.set_cons_zero, List.set_cons_succ, i64_w, i32_w]
        rfl
      refine take_ (i := 8) (N := (some 63)) (v := ?_) (a' := ?_) #[true, true, true, false, false, false, false, true, true, false, false] rfl rfl (by kernel_rfl) (fun _ _ _ h => h) (Or.inl ⟨by rfl, ?_⟩) hHeld ?_ ?_
      rotate_left
      · rintro w' sA
        go_simp
        with_reducible rfl
      rotate_left
      · simp only [Act.put, List.setIfInBounds_toArray, List.set_cons_zero, List.set_cons_succ, i64_w, i32_w]
        rfl
      refine pure_ (i := 3) (N := (some 58)) (v := ?_) (a' := ?_) #[true, true, true, true, false, false, false, true, true, false, false] rfl rfl (by kernel_rfl) (fun _ _ _ h => h) (Or.inl ⟨by rfl, ?_⟩) ?_ ?_
      rotate_left
      · intro w'
        go_simp
        with_reducible rfl
      rotate_left
      · simp only [Act.put, List.setIfInBounds_toArray, List.set_cons_zero, List.set_cons_succ, i64_w, i32_w]
        rfl
      refine pure_ (i := 4) (N := (some 59)) (v := ?_) (a' := ?_) #[true, true, true, true, true, false, false, true, true, false, false] rfl rfl (by kernel_rfl) (fun _ _ _ h => h) (Or.inl ⟨by rfl, ?_⟩) ?_ ?_
      rotate_left
      · intro w'
        go_simp
        with_reducible rfl
      rotate_left
      · simp only [Act.put, List.setIfInBounds_toArray, List.set_cons_zero, List.set_cons_succ, i64_w, i32_w]
        rfl
      refine one_ (i := 5) (N := (some 60)) #[true, true, true, true, true, true, false, true, true, false, false] rfl rfl (by kernel_rfl) (by decide) (fun K hK => ?_)
      refine goes_ Try.func64 (by kernel_rfl) rfl #[.int .u64 (val.size : Int)] (by rfl) rfl rfl (by (try simp only [List.map_toArray, List.map_cons, List.map_nil]); first | done | rfl) ?_
      refine (bollardref1_Varint.calls k (val.size : Int) vv _ B1.out).mono ?_
      rintro e w9 ⟨va, rfl, ho, hb⟩
      refine ⟨_, rfl, ?_⟩
      have E9 := Aside0.mk (E8.out.below hb)
      have O9 := Aside0.mk (Kd.R_below O8.out hb)
      obtain ⟨Aa, ca, ea⟩ := Kd.R_slice ho
      subst ea
      have RA := Aside0.mk (Kd.R_reads' ho).2.2
      clear E8 O8 ho hb
      refine hK.out _ _ E9.out.c.2.2.2.1 (fun hHeld => ?_)
      clear hK K
      refine norm_ (a' := ?_) ?_ ?_
      rotate_left
      · show Act.put _ (some 60) _ = _
        simp only [Act.put, List.setIfInBounds_toArray, List.set_cons_zero, List.set_cons_succ, i64_w, i32_w]
        rfl
      refine one_ (i := 6) (N := (some 61)) #[true, true, true, true, true, true, true, true, true, false, false] rfl rfl (by kernel_rfl) (by decide) (fun K hK => ?_)
      refine Kd.R_append_rows_step (Kd.int .u8) (w0 := w) w.heap.size (by rfl) (.tmp 55) (.tmp 60) 27 5 (.int .u8 0) 1 rfl Try.underlying27 info5 rfl (by decide) (by decide) _ (fl :: (v1 ++ (v2 ++ ta))) vv Aa vv.length ca (fun _ => True) (fun _ => False) rfl rfl O9.out RA.out (fun _ _ h => h) (fun _ h => h.elim) (fun _ _ => trivial) E9.out.1 E9.out.1.size ?aL ?_; (case aL => have := L4.out; have := L5.out; have := LA.out; simp only [List.length_append, List.length_cons, List.length_nil]; omega); intro x10 w10 ho hb hg hat; have E10 := Aside0.mk (E9.out.grown hb hg (Kd.R_ne O9.out E9.out.2 (by decide))); have O10 := Aside0.mk ho; clear E9 O9 RA; clear ho hb hg hat
      refine hK.out _ _ E10.out.c.2.2.2.1 (fun hHeld => ?_)
      clear hK K
      refine norm_ (a' := ?_) ?_ ?_
      rotate_left
      · show Act.put _ (some 61) _ = _
        simp only [Act.put, List.setIfInBounds_toArray, List.set_cons_zero, List.set_cons_succ, i64_w, i32_w]
        rfl
      refine one_ (i := 9) (N := (some 64)) #[true, true, true, true, true, true, true, true, true, true, false] rfl rfl (by kernel_rfl) (by decide) (fun K hK => ?_)
      refine Kd.R_append_str_step (w0 := w) w.heap.size (by rfl) (.tmp 61) _ 27 9 5 rfl Try.underlying27 Try.underlying9 info5 x10 ((fl :: (v1 ++ (v2 ++ ta))) ++ vv) val (fun _ => True) rfl rfl (fun _ _ => trivial) O10.out E10.out.1 E10.out.1.size ?aL ?_; (case aL => have := L4.out; have := L5.out; have := LA.out; have := KZ.out; simp only [List.length_append, List.length_cons, List.length_nil]; omega); intro x11 w11 ho hb hg hat; have E11 := Aside0.mk (E10.out.grown hb hg (Kd.R_ne O10.out E10.out.2 (by decide))); have O11 := Aside0.mk ho; clear E10 O10; clear ho hb hg hat
      refine hK.out _ _ E11.out.c.2.2.2.1 (fun hHeld => ?_)
      clear hK K
      refine norm_ (a' := ?_) ?_ ?_
      rotate_left
      · show Act.put _ (some 64) _ = _
        simp only [Act.put, List.setIfInBounds_toArray, List.set_cons_zero, List.set_cons_succ, i64_w, i32_w]
        rfl
      refine pure_ (i := 10) (N := (some 8)) (v := ?_) (a' := ?_) #[true, true, true, true, true, true, true, true, true, true, true] rfl rfl (by kernel_rfl) (fun _ _ _ h => h) (Or.inl ⟨by rfl, ?_⟩) ?_ ?_
      rotate_left
      · intro w'
        go_simp
        with_reducible rfl
      rotate_left
      · simp only [Act.put, List.setIfInBounds_toArray, List.set_cons_zero, List.set_cons_succ, i64_w, i32_w]
        rfl
      refine done_ (by kernel_rfl) ?_
      clear hHeld
      go_wp2
      go_meet
      case rel => exact ⟨⟨by simpa using O11.out⟩, E11⟩
  obtain ⟨O9, E9⟩ := hcut
  go_wp2
  go_ret2
  exact ⟨_, rfl, by rw [← FL.out]; exact O9.out, E9.out.1⟩

end Go.Proofs.Ytgmeellapjimgaa.PBd
