-- written by a program of this session (wip/tools/pr.py, over the kit's printer): not by hand
import Derived.Test.YtgmeellapjimgaaQPBrx3
import Derived.Test.YtgmeellapjimgaaQPBrx1
import Derived.Test.YtgmeellapjimgaaQPBrx8
import Derived.Test.YtgmeellapjimgaaQPBrx6
import Derived.Laws.BitsAllLaws
import Derived.RowKit
import Derived.Test.YtgmeellapjimgaaQWMore
namespace Go.Proofs.Ytgmeellapjimgaa.PBr
open Go.RowKit Go.Proofs.YtgmeellapjimgaaW.PrintWords Go.Proofs.YtgmeellapjimgaaW.PrintLast Go.Proofs.YtgmeellapjimgaaW.PrintMore
attribute [local go_sem] max2_int min2_int max_two min_two max_three min_three max_four min_four   -- for this text's walks alone
set_option linter.unusedVariables false
set_option linter.unusedSimpArgs false

/-! ### batch_Decode -/
def batch_Decode.bad : Option (Int × Int × Int × Int × List S45 × Int × Int) := some (0, 0, 0, 0, [], 0, 10)
def batch_Decode.fin (k : Nat) (l : List Int) (n b s p q : Int) (x : List S45) : Option (Int × Int × Int × Int × List S45 × Int × Int) :=
  (batch_Encode.f k b s p q x).bind fun t => if t.2 = 0 then (bytes_Equal.f t.1 (l.take n.toNat)).bind fun e => if e = true then some (b, s, p, q, x, n, 0) else batch_Decode.bad else batch_Decode.bad
def batch_Decode.l0 : Nat → List Int → Int → Int → Int → Int → Int → Int → Int → List S45 → Option (Int × Int × Int × Int × List S45 × Int × Int)
  | 0, _, _, _, _, _, _, _, _, _ => none
  | k + 1, l, n, first, b, s, p, q, at_, x => if at_ < n then (if 0 ≤ at_ then (record_Decode.f k ((l.take n.toNat).drop at_.toNat) first).bind fun t => (if t.2.2.2.2.2.2.2 = 0 then (if x.length < 2199023255552 then batch_Decode.l0 k l n first b s p q (wrap64 (at_ + t.2.2.2.2.2.2.1)) (x ++ [(⟨t.1, t.2.1, t.2.2.1, t.2.2.2.1, t.2.2.2.2.1, t.2.2.2.2.2.1⟩ : S45)]) else none) else batch_Decode.bad) else none) else batch_Decode.fin k l n b s p q x
def batch_Decode.f (k : Nat) (l : List Int) : Option (Int × Int × Int × Int × List S45 × Int × Int) :=
  if (l.length : Int) < 48 then batch_Decode.bad else (batch_get.f k l 8 4).bind fun m => if 0 ≤ m ∧ m < 4294967296 then (if 12 + m < 48 then batch_Decode.bad else if 12 + m > (l.length : Int) then batch_Decode.bad else if 12 + m > 6000 then batch_Decode.bad else
    (batch_get.f k l 16 8).bind fun p => (batch_get.f k l 24 8).bind fun q => (batch_get.f k l 32 4).bind fun s => (batch_get.f k l 36 4).bind fun c => (batch_get.f k l 40 8).bind fun t => (batch_get.f k l 0 8).bind fun b => batch_Decode.l0 k l (12 + m) t b s p q 48 []) else none
theorem batch_Decode.fin_mono (k : Nat) (l : List Int) (n b s p q : Int) (x : List S45) : LeO (batch_Decode.fin k l n b s p q x) (batch_Decode.fin (k + 1) l n b s p q x) := by
  unfold batch_Decode.fin
  exact LeO.bind (batch_Encode.mono _ _ _ _ _ _) (fun t => LeO.refl _)
theorem batch_Decode.mono_l : ∀ k l n first b s p q at_ x, LeO (batch_Decode.l0 k l n first b s p q at_ x) (batch_Decode.l0 (k + 1) l n first b s p q at_ x)
  | 0 => fun _ _ _ _ _ _ _ _ _ r h => by cases h
  | k + 1 => fun l n first b s p q at_ x => by
    rw [batch_Decode.l0, batch_Decode.l0]
    exact LeO.ite (LeO.ite (LeO.bind (record_Decode.mono _ _ _) (fun t => LeO.ite (LeO.ite (batch_Decode.mono_l k _ _ _ _ _ _ _ _ _) (LeO.refl _)) (LeO.refl _))) (LeO.refl _)) (batch_Decode.fin_mono _ _ _ _ _ _ _ _)
theorem batch_Decode.mono : ∀ a0 k, LeO (batch_Decode.f k a0) (batch_Decode.f (k + 1) a0) := by
  intro l k
  unfold batch_Decode.f
  repeat' first | (with_reducible exact LeO.refl _) | (with_reducible exact batch_get.mono _ _ _ _) | (with_reducible exact batch_Decode.mono_l _ _ _ _ _ _ _ _ _ _) | (with_reducible refine LeO.ite ?_ ?_) | (with_reducible refine LeO.bind ?_ (fun _ => ?_))
/-- Where Decode stands: the result's block, the numbers' block behind it, the records. -/
structure BdSt (w W : World) (b s p q : Int) (u : Value) (v0 v1 v2 v3 v4 : Int) (x : List S45) : Prop where
  bel : Below w.heap.size w W
  bt : W.heap[w.heap.size]? = some (.cells #[.int .i64 b, .int .i64 s, .int .i64 p, .int .i64 q, u] 24 (0, 0))
  vt : W.heap[w.heap.size + 1]? = some (.cells #[.int .i64 v0, .int .i64 v1, .int .i64 v2, .int .i64 v3, .int .i64 v4] 69 (0, 0))
  row : Kd.R k45 45 W w.heap.size (fun _ => True) u x
theorem BdSt.new (w : World) (nd : Nat) : BdSt w (((w.alloc (.cells #[.int .i64 0, .int .i64 0, .int .i64 0, .int .i64 0, .slice none 0 0] 24)).drewN nd).alloc (.cells #[.int .i64 0, .int .i64 0, .int .i64 0, .int .i64 0, .int .i64 0] 69)) 0 0 0 0 (.slice none 0 0) 0 0 0 0 0 [] := by
  refine ⟨below_alloc (pw_below_drewN (below_alloc (Below.refl _ _) _) _) _, blk_alloc (blk_drewN (heap_alloc_new w _) _) _, ?_, Kd.R_nil _ _ _ _ _⟩
  have := heap_alloc_new ((w.alloc (.cells #[.int .i64 0, .int .i64 0, .int .i64 0, .int .i64 0, .slice none 0 0] 24)).drewN nd) (.cells #[.int .i64 0, .int .i64 0, .int .i64 0, .int .i64 0, .int .i64 0] 69)
  simpa using this
section
variable {w W W2 : World} {b s p q : Int} {u : Value} {v0 v1 v2 v3 v4 : Int} {x : List S45}
theorem BdSt.below (h : BdSt w W b s p q u v0 v1 v2 v3 v4 x) (hb : Below W.heap.size W W2) : BdSt w W2 b s p q u v0 v1 v2 v3 v4 x := ⟨below_step h.bel hb, blk_below h.bt hb, blk_below h.vt hb, Kd.R_below h.row hb⟩
theorem BdSt.drewN (h : BdSt w W b s p q u v0 v1 v2 v3 v4 x) (m : Nat) : BdSt w (W.drewN m) b s p q u v0 v1 v2 v3 v4 x := h.below (pw_below_drewN (Below.refl _ _) m)
theorem BdSt.drew (h : BdSt w W b s p q u v0 v1 v2 v3 v4 x) : BdSt w W.drew b s p q u v0 v1 v2 v3 v4 x := h.below (below_drew1 (Below.refl _ _))
theorem BdSt.alloc (h : BdSt w W b s p q u v0 v1 v2 v3 v4 x) (o : Obj) : BdSt w (W.alloc o) b s p q u v0 v1 v2 v3 v4 x := h.below (below_alloc (Below.refl _ _) o)
theorem BdSt.setv0 (h : BdSt w W b s p q u v0 v1 v2 v3 v4 x) (y : Int) : BdSt w (W.setCell ⟨w.heap.size + 1, 0, none⟩ (.int .i64 y)) b s p q u y v1 v2 v3 v4 x := ⟨below_set h.bel (Nat.le_succ _), blk_far h.bt (by simp) _, by simpa using blk_set h.vt 0 (.int .i64 y), Kd.R_set h.row h.vt (by decide) 0 _⟩
theorem BdSt.setv1 (h : BdSt w W b s p q u v0 v1 v2 v3 v4 x) (y : Int) : BdSt w (W.setCell ⟨w.heap.size + 1, 1, none⟩ (.int .i64 y)) b s p q u v0 y v2 v3 v4 x := ⟨below_set h.bel (Nat.le_succ _), blk_far h.bt (by simp) _, by simpa using blk_set h.vt 1 (.int .i64 y), Kd.R_set h.row h.vt (by decide) 1 _⟩
theorem BdSt.setv2 (h : BdSt w W b s p q u v0 v1 v2 v3 v4 x) (y : Int) : BdSt w (W.setCell ⟨w.heap.size + 1, 2, none⟩ (.int .i64 y)) b s p q u v0 v1 y v3 v4 x := ⟨below_set h.bel (Nat.le_succ _), blk_far h.bt (by simp) _, by simpa using blk_set h.vt 2 (.int .i64 y), Kd.R_set h.row h.vt (by decide) 2 _⟩
theorem BdSt.setv3 (h : BdSt w W b s p q u v0 v1 v2 v3 v4 x) (y : Int) : BdSt w (W.setCell ⟨w.heap.size + 1, 3, none⟩ (.int .i64 y)) b s p q u v0 v1 v2 y v4 x := ⟨below_set h.bel (Nat.le_succ _), blk_far h.bt (by simp) _, by simpa using blk_set h.vt 3 (.int .i64 y), Kd.R_set h.row h.vt (by decide) 3 _⟩
theorem BdSt.setv4 (h : BdSt w W b s p q u v0 v1 v2 v3 v4 x) (y : Int) : BdSt w (W.setCell ⟨w.heap.size + 1, 4, none⟩ (.int .i64 y)) b s p q u v0 v1 v2 v3 y x := ⟨below_set h.bel (Nat.le_succ _), blk_far h.bt (by simp) _, by simpa using blk_set h.vt 4 (.int .i64 y), Kd.R_set h.row h.vt (by decide) 4 _⟩
theorem BdSt.bcells (h : BdSt w W b s p q u v0 v1 v2 v3 v4 x) : W.cell? ⟨w.heap.size, 0, none⟩ = some (.int .i64 b) ∧ W.cell? ⟨w.heap.size, 1, none⟩ = some (.int .i64 s) ∧ W.cell? ⟨w.heap.size, 2, none⟩ = some (.int .i64 p) ∧ W.cell? ⟨w.heap.size, 3, none⟩ = some (.int .i64 q) ∧ W.cell? ⟨w.heap.size, 4, none⟩ = some u :=
  ⟨(blk_cell h.bt 0).trans rfl, (blk_cell h.bt 1).trans rfl, (blk_cell h.bt 2).trans rfl, (blk_cell h.bt 3).trans rfl, (blk_cell h.bt 4).trans rfl⟩
theorem BdSt.vcells (h : BdSt w W b s p q u v0 v1 v2 v3 v4 x) : W.cell? ⟨w.heap.size + 1, 0, none⟩ = some (.int .i64 v0) ∧ W.cell? ⟨w.heap.size + 1, 1, none⟩ = some (.int .i64 v1) ∧ W.cell? ⟨w.heap.size + 1, 2, none⟩ = some (.int .i64 v2) ∧ W.cell? ⟨w.heap.size + 1, 3, none⟩ = some (.int .i64 v3) ∧ W.cell? ⟨w.heap.size + 1, 4, none⟩ = some (.int .i64 v4) :=
  ⟨(blk_cell h.vt 0).trans rfl, (blk_cell h.vt 1).trans rfl, (blk_cell h.vt 2).trans rfl, (blk_cell h.vt 3).trans rfl, (blk_cell h.vt 4).trans rfl⟩
theorem BdSt.bfree (h : BdSt w W b s p q u v0 v1 v2 v3 v4 x) : W.frozen? ⟨w.heap.size, 0, none⟩ = false ∧ W.frozen? ⟨w.heap.size, 1, none⟩ = false ∧ W.frozen? ⟨w.heap.size, 2, none⟩ = false ∧ W.frozen? ⟨w.heap.size, 3, none⟩ = false ∧ W.frozen? ⟨w.heap.size, 4, none⟩ = false :=
  ⟨blk_frozen h.bt 0, blk_frozen h.bt 1, blk_frozen h.bt 2, blk_frozen h.bt 3, blk_frozen h.bt 4⟩
theorem BdSt.vfree (h : BdSt w W b s p q u v0 v1 v2 v3 v4 x) (j : Nat) : W.frozen? ⟨w.heap.size + 1, j, none⟩ = false := blk_frozen h.vt j
/-- A whole batch laid into the result's block, its records' row being another's. -/
theorem BdSt.setB (h : BdSt w W b s p q u v0 v1 v2 v3 v4 x) (b' s' p' q' : Int) (u' : Value) (x' : List S45) (hr : Kd.R k45 45 W w.heap.size (fun _ => True) u' x') :
    BdSt w (((((W.setCell ⟨w.heap.size, 0, none⟩ (.int .i64 b')).setCell ⟨w.heap.size, 1, none⟩ (.int .i64 s')).setCell ⟨w.heap.size, 2, none⟩ (.int .i64 p')).setCell ⟨w.heap.size, 3, none⟩ (.int .i64 q')).setCell ⟨w.heap.size, 4, none⟩ u') b' s' p' q' u' v0 v1 v2 v3 v4 x' := by
  have far : ∀ {W : World} (j : Nat) (y : Value), W.heap[w.heap.size + 1]? = some (.cells #[.int .i64 v0, .int .i64 v1, .int .i64 v2, .int .i64 v3, .int .i64 v4] 69 (0, 0)) → (W.setCell ⟨w.heap.size, j, none⟩ y).heap[w.heap.size + 1]? = some (.cells #[.int .i64 v0, .int .i64 v1, .int .i64 v2, .int .i64 v3, .int .i64 v4] 69 (0, 0)) := fun j y hv => blk_far hv (by simp) y
  have s0 : (W.setCell ⟨w.heap.size, 0, none⟩ (.int .i64 b')).heap[w.heap.size]? = some (.cells #[.int .i64 b', .int .i64 s, .int .i64 p, .int .i64 q, u] 24 (0, 0)) := by simpa using blk_set h.bt 0 (.int .i64 b')
  have s1 : ((W.setCell ⟨w.heap.size, 0, none⟩ (.int .i64 b')).setCell ⟨w.heap.size, 1, none⟩ (.int .i64 s')).heap[w.heap.size]? = some (.cells #[.int .i64 b', .int .i64 s', .int .i64 p, .int .i64 q, u] 24 (0, 0)) := by simpa using blk_set s0 1 (.int .i64 s')
  have s2 : (((W.setCell ⟨w.heap.size, 0, none⟩ (.int .i64 b')).setCell ⟨w.heap.size, 1, none⟩ (.int .i64 s')).setCell ⟨w.heap.size, 2, none⟩ (.int .i64 p')).heap[w.heap.size]? = some (.cells #[.int .i64 b', .int .i64 s', .int .i64 p', .int .i64 q, u] 24 (0, 0)) := by simpa using blk_set s1 2 (.int .i64 p')
  have s3 : ((((W.setCell ⟨w.heap.size, 0, none⟩ (.int .i64 b')).setCell ⟨w.heap.size, 1, none⟩ (.int .i64 s')).setCell ⟨w.heap.size, 2, none⟩ (.int .i64 p')).setCell ⟨w.heap.size, 3, none⟩ (.int .i64 q')).heap[w.heap.size]? = some (.cells #[.int .i64 b', .int .i64 s', .int .i64 p', .int .i64 q', u] 24 (0, 0)) := by simpa using blk_set s2 3 (.int .i64 q')
  refine ⟨?_, by simpa using blk_set s3 4 u', far 4 _ (far 3 _ (far 2 _ (far 1 _ (far 0 _ h.vt)))), ?_⟩
  · exact below_set (below_set (below_set (below_set (below_set h.bel (Nat.le_refl _)) (Nat.le_refl _)) (Nat.le_refl _)) (Nat.le_refl _)) (Nat.le_refl _)
  · exact Kd.R_set (Kd.R_set (Kd.R_set (Kd.R_set (Kd.R_set hr h.bt (by decide) 0 _) s0 (by decide) 1 _) s1 (by decide) 2 _) s2 (by decide) 3 _) s3 (by decide) 4 _
/-- The records' row alone. -/
theorem BdSt.setU (hbel : Below w.heap.size w W) (hbt : W.heap[w.heap.size]? = some (.cells #[.int .i64 b, .int .i64 s, .int .i64 p, .int .i64 q, u] 24 (0, 0))) (hvt : W.heap[w.heap.size + 1]? = some (.cells #[.int .i64 v0, .int .i64 v1, .int .i64 v2, .int .i64 v3, .int .i64 v4] 69 (0, 0))) (u' : Value) (x' : List S45) (hr : Kd.R k45 45 W w.heap.size (fun _ => True) u' x') :
    BdSt w (W.setCell ⟨w.heap.size, 4, none⟩ u') b s p q u' v0 v1 v2 v3 v4 x' :=
  ⟨below_set hbel (Nat.le_refl _), by simpa using blk_set hbt 4 u', blk_far hvt (by simp) _, Kd.R_set hr hbt (by decide) 4 _⟩
end
theorem bd_far {w W : World} {b s p q : Int} {u : Value} {v0 v1 v2 v3 v4 : Int} {x : List S45} {g : Nat} (h : BdSt w W b s p q u v0 v1 v2 v3 v4 x) (hg : w.heap.size + 2 ≤ g) (hr : Kd.R k45 45 W w.heap.size (fun k => k ≠ g) u x) (c0 c1 c2 c3 c4 c5 : Value) :
    BdSt w ((((((W.setCell ⟨g, 0, none⟩ c0).setCell ⟨g, 1, none⟩ c1).setCell ⟨g, 2, none⟩ c2).setCell ⟨g, 3, none⟩ c3).setCell ⟨g, 4, none⟩ c4).setCell ⟨g, 5, none⟩ c5) b s p q u v0 v1 v2 v3 v4 x ∧
    Kd.R k45 45 ((((((W.setCell ⟨g, 0, none⟩ c0).setCell ⟨g, 1, none⟩ c1).setCell ⟨g, 2, none⟩ c2).setCell ⟨g, 3, none⟩ c3).setCell ⟨g, 4, none⟩ c4).setCell ⟨g, 5, none⟩ c5) w.heap.size (fun k => k ≠ g) u x := by
  have one : ∀ {W : World} (j : Nat) (y : Value), BdSt w W b s p q u v0 v1 v2 v3 v4 x ∧ Kd.R k45 45 W w.heap.size (fun k => k ≠ g) u x → BdSt w (W.setCell ⟨g, j, none⟩ y) b s p q u v0 v1 v2 v3 v4 x ∧ Kd.R k45 45 (W.setCell ⟨g, j, none⟩ y) w.heap.size (fun k => k ≠ g) u x := by
    rintro W j y ⟨h, hr⟩
    have hr2 := Kd.R_far (p := ⟨g, j, none⟩) hr (fun _ hk => hk) y
    exact ⟨⟨below_set h.bel (by omega), blk_far h.bt (show w.heap.size ≠ g by omega) y, blk_far h.vt (show w.heap.size + 1 ≠ g by omega) y, Kd.R_mono hr2 (fun _ _ => trivial)⟩, hr2⟩
  exact one 5 c5 (one 4 c4 (one 3 c3 (one 2 c2 (one 1 c1 (one 0 c0 ⟨h, hr⟩)))))
theorem bd_zero {w W : World} {c0 c1 c2 c3 c4 : Value} (hb : Below w.heap.size w W) (ht : W.heap[w.heap.size]? = some (.cells #[c0, c1, c2, c3, c4] 24 (0, 0))) (a0 a1 a2 a3 a4 : Value) :
    (((((W.setCell ⟨w.heap.size, 0, none⟩ a0).setCell ⟨w.heap.size, 1, none⟩ a1).setCell ⟨w.heap.size, 2, none⟩ a2).setCell ⟨w.heap.size, 3, none⟩ a3).setCell ⟨w.heap.size, 4, none⟩ a4).heap[w.heap.size]? = some (.cells #[a0, a1, a2, a3, a4] 24 (0, 0)) ∧
    Below w.heap.size w (((((W.setCell ⟨w.heap.size, 0, none⟩ a0).setCell ⟨w.heap.size, 1, none⟩ a1).setCell ⟨w.heap.size, 2, none⟩ a2).setCell ⟨w.heap.size, 3, none⟩ a3).setCell ⟨w.heap.size, 4, none⟩ a4) := by
  have s0 := blk_set ht 0 a0
  have s1 := blk_set s0 1 a1
  have s2 := blk_set s1 2 a2
  have s3 := blk_set s2 3 a3
  have s4 := blk_set s3 4 a4
  exact ⟨by simpa using s4, below_set (below_set (below_set (below_set (below_set hb (Nat.le_refl _)) (Nat.le_refl _)) (Nat.le_refl _)) (Nat.le_refl _)) (Nat.le_refl _)⟩
set_option maxHeartbeats 4000000 in
set_option maxRecDepth 100000 in
theorem batch_Decode.short (k : Nat) (A : Option Addr) (c : Nat) (l : List Int) (w : World) (hr : Kd.C (Kd.int .u8) w A l.length l) (hc : l.length ≤ c) (h : (l.length : Int) < 48) :
    Calls Try.prog 22 #[.slice A l.length c] w fun e w' => ∃ v4_ : Value, e = .returned (.tuple #[.agg #[.int .i64 0, .int .i64 0, .int .i64 0, .int .i64 0, v4_], .int .i64 0, .int .i64 10]) ∧ Kd.R k45 45 w' w.heap.size (fun _ => True) v4_ [] ∧ Below w.heap.size w w' := by
  have f0 : decide ((l.length : Int) < 48) = true := decide_eq_true h
  have f1 : decide (l.length < 48) = true := decide_eq_true (by omega)
  clear hr hc h
  go_enter Try.func22, Try.ntmps22
  go_wp2_with fail
  refine bodyPost_ret (results_ctt rfl _ _ w.heap.size 24 #[.int .i64 0, .int .i64 0, .int .i64 0, .int .i64 0, .slice none 0 0] (0, 0) _ rfl (heap_alloc_new w _) Try.underlying24 rfl (by kernel_rfl)) rfl ?_
  exact ⟨_, rfl, Kd.R_nil _ _ _ _ _, below_alloc (Below.refl _ _) _⟩
set_option maxHeartbeats 4000000 in
set_option maxRecDepth 100000 in
theorem batch_Decode.less (k : Nat) (A : Option Addr) (c : Nat) (l : List Int) (w : World) (hr : Kd.C (Kd.int .u8) w A l.length l) (hc : l.length ≤ c) (m : Int) (h0 : ¬ (l.length : Int) < 48) (hg : batch_get.f k l 8 4 = some m) (hm : 0 ≤ m ∧ m < 4294967296) (h1 : 12 + m < 48) :
    Calls Try.prog 22 #[.slice A l.length c] w fun e w' => ∃ v4_ : Value, e = .returned (.tuple #[.agg #[.int .i64 0, .int .i64 0, .int .i64 0, .int .i64 0, v4_], .int .i64 0, .int .i64 10]) ∧ Kd.R k45 45 w' w.heap.size (fun _ => True) v4_ [] ∧ Below w.heap.size w w' := by
  have f0 : decide ((l.length : Int) < 48) = false := decide_eq_false h0
  have f1 : decide (l.length < 48) = false := decide_eq_false (by omega)
  have g0 : decide (12 + m < 48) = true := decide_eq_true h1
  have HR := Aside0.mk hr
  have HC := Aside0.mk hc
  have HG := Aside0.mk hg
  have m0 := hm.1
  have m1 := hm.2
  clear hr hc hg hm
  go_enter Try.func22, Try.ntmps22
  go_wp2_with fail
  refine (batch_get.calls k A c l 8 4 m _ (Kd.C_below HR.out (below_alloc (Below.refl _ _) _)) HC.out HG.out).mono ?_
  rintro e w' ⟨rfl, ⟨nd, rfl⟩⟩
  have b0 : ((w.alloc (.cells #[.int .i64 0, .int .i64 0, .int .i64 0, .int .i64 0, .slice none 0 0] 24)).drewN nd).heap[w.heap.size]? = some (.cells #[.int .i64 0, .int .i64 0, .int .i64 0, .int .i64 0, .slice none 0 0] 24 (0, 0)) := heap_alloc_new w _
  have B0 := Aside0.mk b0
  clear b0
  go_wp2_with fail
  have Z_ := bd_zero (pw_below_drewN (below_alloc (Below.refl _ _) _) nd) B0.out (.int .i64 0) (.int .i64 0) (.int .i64 0) (.int .i64 0) (.slice none 0 0)
  refine bodyPost_ret (results_ctt rfl _ _ w.heap.size 24 #[.int .i64 0, .int .i64 0, .int .i64 0, .int .i64 0, .slice none 0 0] (0, 0) _ rfl Z_.1 Try.underlying24 rfl (by kernel_rfl)) rfl ?_
  exact ⟨_, rfl, Kd.R_nil _ _ _ _ _, Z_.2⟩
set_option maxHeartbeats 4000000 in
set_option maxRecDepth 100000 in
theorem batch_Decode.more (k : Nat) (A : Option Addr) (c : Nat) (l : List Int) (w : World) (hr : Kd.C (Kd.int .u8) w A l.length l) (hc : l.length ≤ c) (m : Int) (h0 : ¬ (l.length : Int) < 48) (hg : batch_get.f k l 8 4 = some m) (hm : 0 ≤ m ∧ m < 4294967296) (h1 : ¬ 12 + m < 48) (h2 : 12 + m > (l.length : Int)) :
    Calls Try.prog 22 #[.slice A l.length c] w fun e w' => ∃ v4_ : Value, e = .returned (.tuple #[.agg #[.int .i64 0, .int .i64 0, .int .i64 0, .int .i64 0, v4_], .int .i64 0, .int .i64 10]) ∧ Kd.R k45 45 w' w.heap.size (fun _ => True) v4_ [] ∧ Below w.heap.size w w' := by
  have f0 : decide ((l.length : Int) < 48) = false := decide_eq_false h0
  have f1 : decide (l.length < 48) = false := decide_eq_false (by omega)
  have g0 : decide (12 + m < 48) = false := decide_eq_false h1
  have g1 : decide ((l.length : Int) < 12 + m) = true := decide_eq_true h2
  have HR := Aside0.mk hr
  have HC := Aside0.mk hc
  have HG := Aside0.mk hg
  have m0 := hm.1
  have m1 := hm.2
  clear hr hc hg hm
  go_enter Try.func22, Try.ntmps22
  go_wp2_with fail
  refine (batch_get.calls k A c l 8 4 m _ (Kd.C_below HR.out (below_alloc (Below.refl _ _) _)) HC.out HG.out).mono ?_
  rintro e w' ⟨rfl, ⟨nd, rfl⟩⟩
  have b0 : ((w.alloc (.cells #[.int .i64 0, .int .i64 0, .int .i64 0, .int .i64 0, .slice none 0 0] 24)).drewN nd).heap[w.heap.size]? = some (.cells #[.int .i64 0, .int .i64 0, .int .i64 0, .int .i64 0, .slice none 0 0] 24 (0, 0)) := heap_alloc_new w _
  have B0 := Aside0.mk b0
  clear b0
  go_wp2_with fail
  have Z_ := bd_zero (pw_below_drewN (below_alloc (Below.refl _ _) _) nd) B0.out (.int .i64 0) (.int .i64 0) (.int .i64 0) (.int .i64 0) (.slice none 0 0)
  refine bodyPost_ret (results_ctt rfl _ _ w.heap.size 24 #[.int .i64 0, .int .i64 0, .int .i64 0, .int .i64 0, .slice none 0 0] (0, 0) _ rfl Z_.1 Try.underlying24 rfl (by kernel_rfl)) rfl ?_
  exact ⟨_, rfl, Kd.R_nil _ _ _ _ _, Z_.2⟩
set_option maxHeartbeats 4000000 in
set_option maxRecDepth 100000 in
theorem batch_Decode.large (k : Nat) (A : Option Addr) (c : Nat) (l : List Int) (w : World) (hr : Kd.C (Kd.int .u8) w A l.length l) (hc : l.length ≤ c) (m : Int) (h0 : ¬ (l.length : Int) < 48) (hg : batch_get.f k l 8 4 = some m) (hm : 0 ≤ m ∧ m < 4294967296) (h1 : ¬ 12 + m < 48) (h2 : ¬ 12 + m > (l.length : Int)) (h3 : 12 + m > 6000) :
    Calls Try.prog 22 #[.slice A l.length c] w fun e w' => ∃ v4_ : Value, e = .returned (.tuple #[.agg #[.int .i64 0, .int .i64 0, .int .i64 0, .int .i64 0, v4_], .int .i64 0, .int .i64 10]) ∧ Kd.R k45 45 w' w.heap.size (fun _ => True) v4_ [] ∧ Below w.heap.size w w' := by
  have f0 : decide ((l.length : Int) < 48) = false := decide_eq_false h0
  have f1 : decide (l.length < 48) = false := decide_eq_false (by omega)
  have g0 : decide (12 + m < 48) = false := decide_eq_false h1
  have g1 : decide ((l.length : Int) < 12 + m) = false := decide_eq_false (by omega)
  have g2 : decide (6000 < 12 + m) = true := decide_eq_true h3
  have HR := Aside0.mk hr
  have HC := Aside0.mk hc
  have HG := Aside0.mk hg
  have m0 := hm.1
  have m1 := hm.2
  clear hr hc hg hm
  go_enter Try.func22, Try.ntmps22
  go_wp2_with fail
  refine (batch_get.calls k A c l 8 4 m _ (Kd.C_below HR.out (below_alloc (Below.refl _ _) _)) HC.out HG.out).mono ?_
  rintro e w' ⟨rfl, ⟨nd, rfl⟩⟩
  have b0 : ((w.alloc (.cells #[.int .i64 0, .int .i64 0, .int .i64 0, .int .i64 0, .slice none 0 0] 24)).drewN nd).heap[w.heap.size]? = some (.cells #[.int .i64 0, .int .i64 0, .int .i64 0, .int .i64 0, .slice none 0 0] 24 (0, 0)) := heap_alloc_new w _
  have B0 := Aside0.mk b0
  clear b0
  go_wp2_with fail
  have Z_ := bd_zero (pw_below_drewN (below_alloc (Below.refl _ _) _) nd) B0.out (.int .i64 0) (.int .i64 0) (.int .i64 0) (.int .i64 0) (.slice none 0 0)
  refine bodyPost_ret (results_ctt rfl _ _ w.heap.size 24 #[.int .i64 0, .int .i64 0, .int .i64 0, .int .i64 0, .slice none 0 0] (0, 0) _ rfl Z_.1 Try.underlying24 rfl (by kernel_rfl)) rfl ?_
  exact ⟨_, rfl, Kd.R_nil _ _ _ _ _, Z_.2⟩
set_option maxHeartbeats 4000000 in
set_option maxRecDepth 100000 in
theorem batch_Decode.main (k : Nat) (A : Option Addr) (c : Nat) (l : List Int) (w : World) (hr : Kd.C (Kd.int .u8) w A l.length l) (hc : l.length ≤ c) (m : Int) (h0 : ¬ (l.length : Int) < 48) (hg : batch_get.f k l 8 4 = some m) (hm : 0 ≤ m ∧ m < 4294967296) (h1 : ¬ 12 + m < 48) (h2 : ¬ 12 + m > (l.length : Int)) (h3 : ¬ 12 + m > 6000) (p q s cn t b : Int) (hp : batch_get.f k l 16 8 = some p) (hq : batch_get.f k l 24 8 = some q) (hs : batch_get.f k l 32 4 = some s) (hcn : batch_get.f k l 36 4 = some cn) (ht : batch_get.f k l 40 8 = some t) (hb : batch_get.f k l 0 8 = some b) (r1 r2 r3 r4 : Int) (r5 : List S45) (r6 r7 : Int) (h : batch_Decode.l0 k l (12 + m) t b s p q 48 [] = some (r1, r2, r3, r4, r5, r6, r7)) :
    Calls Try.prog 22 #[.slice A l.length c] w fun e w' => ∃ v4_ : Value, e = .returned (.tuple #[.agg #[.int .i64 r1, .int .i64 r2, .int .i64 r3, .int .i64 r4, v4_], .int .i64 r6, .int .i64 r7]) ∧ Kd.R k45 45 w' w.heap.size (fun _ => True) v4_ r5 ∧ Below w.heap.size w w' := by
  have f0 : decide ((l.length : Int) < 48) = false := decide_eq_false h0
  have f1 : decide (l.length < 48) = false := decide_eq_false (by omega)
  have g0 : decide (12 + m < 48) = false := decide_eq_false h1
  have g1 : decide ((l.length : Int) < 12 + m) = false := decide_eq_false (by omega)
  have g2 : decide (6000 < 12 + m) = false := decide_eq_false h3
  have HP := Aside0.mk hp
  have HQ := Aside0.mk hq
  have HS := Aside0.mk hs
  have HCN := Aside0.mk hcn
  have HT := Aside0.mk ht
  have HB := Aside0.mk hb
  have HL := Aside0.mk h
  clear hp hq hs hcn ht hb h
  have HR := Aside0.mk hr
  have HC := Aside0.mk hc
  have HG := Aside0.mk hg
  have m0 := hm.1
  have m1 := hm.2
  clear hr hc hg hm
  go_enter Try.func22, Try.ntmps22
  go_wp2_with fail
  refine (batch_get.calls k A c l 8 4 m _ (Kd.C_below HR.out (below_alloc (Below.refl _ _) _)) HC.out HG.out).mono ?_
  rintro e w' ⟨rfl, ⟨nd, rfl⟩⟩
  have b0 : ((w.alloc (.cells #[.int .i64 0, .int .i64 0, .int .i64 0, .int .i64 0, .slice none 0 0] 24)).drewN nd).heap[w.heap.size]? = some (.cells #[.int .i64 0, .int .i64 0, .int .i64 0, .int .i64 0, .slice none 0 0] 24 (0, 0)) := heap_alloc_new w _
  have B0 := Aside0.mk b0
  clear b0
  go_wp2_with fail
  have ST0 := Aside0.mk (BdSt.new w nd)
  generalize (((w.alloc (.cells #[.int .i64 0, .int .i64 0, .int .i64 0, .int .i64 0, .slice none 0 0] 24)).drewN nd).alloc (.cells #[.int .i64 0, .int .i64 0, .int .i64 0, .int .i64 0, .int .i64 0] 69)) = W0 at ST0 ⊢
  refine (batch_numbers.calls _).mono ?_
  rintro e x0 ⟨rfl, hb0⟩
  have S0 := Aside0.mk (ST0.out.below hb0)
  clear hb0 ST0 B0
  go_wp2_with fail
  refine wp_loop_rounds 6 ?_
  rw [rounds_succ]
  have ix0 : ∀ w, (Instr.index 72 (.agg numsC) (.int .i64 0)).run Try.prog w = .ok (.agg #[.int .i64 16, .int .i64 8]) w := fun _ => by kernel_rfl
  go_wp2_with fail
  have T0 := Aside0.mk (S0.out.alloc (.cells #[.int .i64 16, .int .i64 8] 71))
  refine (batch_get.calls k A c l 16 8 p _ (Kd.C_below HR.out T0.out.bel) HC.out HP.out).mono ?_
  rintro e w' ⟨rfl, ⟨n0, rfl⟩⟩
  have z0 := T0.out.vfree 0
  have c0 := T0.out.vcells.1
  go_wp2_with fail
  have S1 := Aside0.mk ((T0.out.drewN n0).setv0 p)
  generalize World.setCell ((x0.alloc (.cells #[.int .i64 16, .int .i64 8] 71)).drewN n0) ⟨w.heap.size + 1, 0, none⟩ (.int .i64 p) = x1 at S1 ⊢
  clear ix0 S0 T0 z0 c0
  rw [rounds_succ]
  have ix1 : ∀ w, (Instr.index 72 (.agg numsC) (.int .i64 1)).run Try.prog w = .ok (.agg #[.int .i64 24, .int .i64 8]) w := fun _ => by kernel_rfl
  go_wp2_with fail
  have T1 := Aside0.mk (S1.out.alloc (.cells #[.int .i64 24, .int .i64 8] 71))
  refine (batch_get.calls k A c l 24 8 q _ (Kd.C_below HR.out T1.out.bel) HC.out HQ.out).mono ?_
  rintro e w' ⟨rfl, ⟨n1, rfl⟩⟩
  have z1 := T1.out.vfree 1
  have c1 := T1.out.vcells.2.1
  go_wp2_with fail
  have S2 := Aside0.mk ((T1.out.drewN n1).setv1 q)
  generalize World.setCell ((x1.alloc (.cells #[.int .i64 24, .int .i64 8] 71)).drewN n1) ⟨w.heap.size + 1, 1, none⟩ (.int .i64 q) = x2 at S2 ⊢
  clear ix1 S1 T1 z1 c1
  rw [rounds_succ]
  have ix2 : ∀ w, (Instr.index 72 (.agg numsC) (.int .i64 2)).run Try.prog w = .ok (.agg #[.int .i64 32, .int .i64 4]) w := fun _ => by kernel_rfl
  go_wp2_with fail
  have T2 := Aside0.mk (S2.out.alloc (.cells #[.int .i64 32, .int .i64 4] 71))
  refine (batch_get.calls k A c l 32 4 s _ (Kd.C_below HR.out T2.out.bel) HC.out HS.out).mono ?_
  rintro e w' ⟨rfl, ⟨n2, rfl⟩⟩
  have z2 := T2.out.vfree 2
  have c2 := T2.out.vcells.2.2.1
  go_wp2_with fail
  have S3 := Aside0.mk ((T2.out.drewN n2).setv2 s)
  generalize World.setCell ((x2.alloc (.cells #[.int .i64 32, .int .i64 4] 71)).drewN n2) ⟨w.heap.size + 1, 2, none⟩ (.int .i64 s) = x3 at S3 ⊢
  clear ix2 S2 T2 z2 c2
  rw [rounds_succ]
  have ix3 : ∀ w, (Instr.index 72 (.agg numsC) (.int .i64 3)).run Try.prog w = .ok (.agg #[.int .i64 36, .int .i64 4]) w := fun _ => by kernel_rfl
  go_wp2_with fail
  have T3 := Aside0.mk (S3.out.alloc (.cells #[.int .i64 36, .int .i64 4] 71))
  refine (batch_get.calls k A c l 36 4 cn _ (Kd.C_below HR.out T3.out.bel) HC.out HCN.out).mono ?_
  rintro e w' ⟨rfl, ⟨n3, rfl⟩⟩
  have z3 := T3.out.vfree 3
  have c3 := T3.out.vcells.2.2.2.1
  go_wp2_with fail
  have S4 := Aside0.mk ((T3.out.drewN n3).setv3 cn)
  generalize World.setCell ((x3.alloc (.cells #[.int .i64 36, .int .i64 4] 71)).drewN n3) ⟨w.heap.size + 1, 3, none⟩ (.int .i64 cn) = x4 at S4 ⊢
  clear ix3 S3 T3 z3 c3
  rw [rounds_succ]
  have ix4 : ∀ w, (Instr.index 72 (.agg numsC) (.int .i64 4)).run Try.prog w = .ok (.agg #[.int .i64 40, .int .i64 8]) w := fun _ => by kernel_rfl
  go_wp2_with fail
  have T4 := Aside0.mk (S4.out.alloc (.cells #[.int .i64 40, .int .i64 8] 71))
  refine (batch_get.calls k A c l 40 8 t _ (Kd.C_below HR.out T4.out.bel) HC.out HT.out).mono ?_
  rintro e w' ⟨rfl, ⟨n4, rfl⟩⟩
  have z4 := T4.out.vfree 4
  have c4 := T4.out.vcells.2.2.2.2
  go_wp2_with fail
  have S5 := Aside0.mk ((T4.out.drewN n4).setv4 t)
  generalize World.setCell ((x4.alloc (.cells #[.int .i64 40, .int .i64 8] 71)).drewN n4) ⟨w.heap.size + 1, 4, none⟩ (.int .i64 t) = x5 at S5 ⊢
  clear ix4 S4 T4 z4 c4
  rw [rounds_succ]
  go_wp2_with fail
  refine start_ (n := 10) (S := fun w' => w'.cell? ⟨w.heap.size + 1, 0, none⟩ = some (.int .i64 p) ∧ w'.cell? ⟨w.heap.size + 1, 1, none⟩ = some (.int .i64 q) ∧ w'.cell? ⟨w.heap.size + 1, 2, none⟩ = some (.int .i64 s)) (ds := []) #[false, false, false, false, false, false, false, false, false, false] (by kernel_rfl) rfl rfl ⟨S5.out.drew.vcells.1, S5.out.drew.vcells.2.1, S5.out.drew.vcells.2.2.1⟩ (fun hHeld => ?_)
  have D5 := Aside0.mk S5.out.drew
  generalize x5.drew = y5 at D5 hHeld ⊢
  clear S5
  refine pure_ (i := 0) (N := (some 47)) (v := ?_) (a' := ?_) #[true, false, false, false, false, false, false, false, false, false] rfl rfl (by kernel_rfl) (fun _ _ _ h => h) (Or.inl ⟨by rfl, ?_⟩) ?_ ?_
  rotate_left
  · intro w'
    go_simp
    with_reducible rfl
  rotate_left
  · simp only [Act.put, List.setIfInBounds_toArray, List.set_cons_zero, List.set_cons_succ, i64_w, i32_w]
    rfl
  refine pure_ (i := 2) (N := (some 49)) (v := ?_) (a' := ?_) #[true, false, true, false, false, false, false, false, false, false] rfl rfl (by kernel_rfl) (fun _ _ _ h => h) (Or.inl ⟨by rfl, ?_⟩) ?_ ?_
  rotate_left
  · intro w'
    go_simp
    with_reducible rfl
  rotate_left
  · simp only [Act.put, List.setIfInBounds_toArray, List.set_cons_zero, List.set_cons_succ, i64_w, i32_w]
    rfl
  refine pure_ (i := 4) (N := (some 51)) (v := ?_) (a' := ?_) #[true, false, true, false, true, false, false, false, false, false] rfl rfl (by kernel_rfl) (fun _ _ _ h => h) (Or.inl ⟨by rfl, ?_⟩) ?_ ?_
  rotate_left
  · intro w'
    go_simp
    with_reducible rfl
  rotate_left
  · simp only [Act.put, List.setIfInBounds_toArray, List.set_cons_zero, List.set_cons_succ, i64_w, i32_w]
    rfl
  refine pure_ (i := 6) (N := (some 53)) (v := ?_) (a' := ?_) #[true, false, true, false, true, false, true, false, false, false] rfl rfl (by kernel_rfl) (fun _ _ _ h => h) (Or.inl ⟨by rfl, ?_⟩) ?_ ?_
  rotate_left
  · intro w'
    go_simp
    with_reducible rfl
  rotate_left
  · simp only [Act.put, List.setIfInBounds_toArray, List.set_cons_zero, List.set_cons_succ, i64_w, i32_w]
    rfl
  refine take_ (i := 3) (N := (some 50)) (v := ?_) (a' := ?_) #[true, false, true, true, true, false, true, false, false, false] rfl rfl (by kernel_rfl) (fun _ _ _ h => h) (Or.inl ⟨by rfl, ?_⟩) hHeld ?_ ?_
  rotate_left
  · rintro w' ⟨s0, s1, s2⟩
    go_simp
    with_reducible rfl
  rotate_left
  · simp only [Act.put, List.setIfInBounds_toArray, List.set_cons_zero, List.set_cons_succ, i64_w, i32_w]
    rfl
  refine take_ (i := 5) (N := (some 52)) (v := ?_) (a' := ?_) #[true, false, true, true, true, true, true, false, false, false] rfl rfl (by kernel_rfl) (fun _ _ _ h => h) (Or.inl ⟨by rfl, ?_⟩) hHeld ?_ ?_
  rotate_left
  · rintro w' ⟨s0, s1, s2⟩
    go_simp
    with_reducible rfl
  rotate_left
  · simp only [Act.put, List.setIfInBounds_toArray, List.set_cons_zero, List.set_cons_succ, i64_w, i32_w]
    rfl
  refine take_ (i := 7) (N := (some 54)) (v := ?_) (a' := ?_) #[true, false, true, true, true, true, true, true, false, false] rfl rfl (by kernel_rfl) (fun _ _ _ h => h) (Or.inl ⟨by rfl, ?_⟩) hHeld ?_ ?_
  rotate_left
  · rintro w' ⟨s0, s1, s2⟩
    go_simp
    with_reducible rfl
  rotate_left
  · simp only [Act.put, List.setIfInBounds_toArray, List.set_cons_zero, List.set_cons_succ, i64_w, i32_w]
    rfl
  refine one_ (i := 1) (N := (some 48)) #[true, true, true, true, true, true, true, true, false, false] rfl rfl (by kernel_rfl) (by decide) (fun K hK => ?_)
  refine goes_ Try.func34 (by kernel_rfl) rfl #[.slice A l.length c, .int .i64 0, .int .i64 8] (by rfl) rfl rfl (by (try simp only [List.map_toArray, List.map_cons, List.map_nil]); first | done | rfl) ?_
  refine (batch_get.calls k A c l 0 8 b _ (Kd.C_below HR.out D5.out.bel) HC.out HB.out).mono ?_
  rintro e w' ⟨rfl, ⟨n5, rfl⟩⟩
  refine ⟨_, rfl, ?_⟩
  have D6 := Aside0.mk (D5.out.drewN n5)
  refine hK.out _ _ ⟨D6.out.vcells.1, D6.out.vcells.2.1, D6.out.vcells.2.2.1⟩ (fun hHeld => ?_)
  clear hK K
  refine norm_ (a' := ?_) ?_ ?_
  rotate_left
  · show Act.put _ (some 48) _ = _
    simp only [Act.put, List.setIfInBounds_toArray, List.set_cons_zero, List.set_cons_succ, i64_w, i32_w]
    rfl
  refine pure_ (i := 8) (N := (some 55)) (v := ?_) (a' := ?_) #[true, true, true, true, true, true, true, true, true, false] rfl rfl (by kernel_rfl) (fun _ _ _ h => h) (Or.inl ⟨by rfl, ?_⟩) ?_ ?_
  rotate_left
  · intro w'
    go_simp
    with_reducible rfl
  rotate_left
  · simp only [Act.put, List.setIfInBounds_toArray, List.set_cons_zero, List.set_cons_succ, i64_w, i32_w]
    rfl
  refine one_ (i := 9) (N := none) #[true, true, true, true, true, true, true, true, true, true] rfl rfl (by kernel_rfl) (by decide) (fun K hK => ?_)
  obtain ⟨y0, y1, y2, y3, y4⟩ := D6.out.bcells
  obtain ⟨z0, z1, z2, z3, z4⟩ := D6.out.bfree
  refine skip_ (w1 := ?_) (by rfl) rfl ?_ ?_
  rotate_left
  · go_simp
    rfl
  refine hK.out _ _ ⟨(D6.out.setB b s p q (.slice none 0 0) [] (Kd.R_nil _ _ _ _ _)).vcells.1, (D6.out.setB b s p q (.slice none 0 0) [] (Kd.R_nil _ _ _ _ _)).vcells.2.1, (D6.out.setB b s p q (.slice none 0 0) [] (Kd.R_nil _ _ _ _ _)).vcells.2.2.1⟩ (fun hHeld => ?_)
  clear hK K
  refine done_ (by kernel_rfl) ?_
  clear hHeld
  have D7 := Aside0.mk (D6.out.setB b s p q (.slice none 0 0) [] (Kd.R_nil _ _ _ _ _))
  generalize (((((World.setCell (y5.drewN n5) ⟨w.heap.size, 0, none⟩ (.int .i64 b)).setCell ⟨w.heap.size, 1, none⟩ (.int .i64 s)).setCell ⟨w.heap.size, 2, none⟩ (.int .i64 p)).setCell ⟨w.heap.size, 3, none⟩ (.int .i64 q)).setCell ⟨w.heap.size, 4, none⟩ (.slice none 0 0)) = x6 at D7 ⊢
  clear y0 y1 y2 y3 y4 z0 z1 z2 z3 z4
  clear D5 D6
  go_wp2_with fail
  go_loopg [3, 4, 8] k (fun kq v3 v4 v8 w' => ∃ (at_ : Int) (x : List S45) (u : Value), v3 = .int .i64 (12 + m) ∧ v4 = .int .i64 0 ∧ v8 = .int .i64 at_ ∧ Aside0 (batch_Decode.l0 kq l (12 + m) t b s p q at_ x = some (r1, r2, r3, r4, r5, r6, r7)) ∧ Aside0 (kq ≤ k) ∧ Aside0 (BdSt w w' b s p q u p q s cn t x))
  case atStart => exact ⟨48, [], .slice none 0 0, rfl, rfl, rfl, HL, ⟨Nat.le_refl _⟩, D7⟩
  case round =>
    clear D7 HL
    obtain ⟨at_, x, u, rfl, rfl, rfl, HA, HK2, ST⟩ := hrel
    cases gk with
    | zero => exact absurd HA.out (by intro h_; exact nomatch (show (none : Option _) = some _ from h_))
    | succ k2 =>
      have H := HA.out
      clear HA
      rw [batch_Decode.l0] at H
      by_cases e1 : at_ < 12 + m
      · rw [if_pos e1] at H
        by_cases e2 : 0 ≤ at_
        case neg => rw [if_neg e2] at H; cases H
        rw [if_pos e2] at H
        obtain ⟨⟨t1, t2, t3, t4, t5, t6, t7, t8⟩, HD_, H⟩ := Option.bind_eq_some_iff.mp H
        dsimp only at H
        have HH := Aside0.mk H
        obtain ⟨i0, hi0, _, hsz0, _⟩ := info_parts info5
        obtain ⟨A1, hcut, hA, hC⟩ := print_mid_of (P := Try.prog) (Value.int .u8) 0 27 5 .i64 .i64 Try.underlying27 hi0 hsz0 A c l at_ (12 + m) e2 (by omega) (by omega) HC.out
        obtain ⟨sl, hsl⟩ : ∃ sl, sl = ((l.take (12 + m).toNat).drop at_.toNat) := ⟨_, rfl⟩
        rw [← hsl] at hcut hA hC HD_
        have HD := Aside0.mk HD_
        have HR2 := Aside0.mk (Kd.C_of_reads (h1 := fun _ => rfl) (hA _ (Kd.reads_of_C HR.out)))
        have HC2 := Aside0.mk hC
        clear hsl
        have b1 : decide (at_ < 12 + m) = true := decide_eq_true e1
        clear HD_ H hA hC hi0 hsz0
        go_wp2_with fail
        refine start_ (n := 15) (S := fun w' => w'.cell? ⟨w.heap.size + 1, 4, none⟩ = some (.int .i64 t)) (ds := []) #[false, false, false, false, false, false, false, false, false, false, false, false, false, false, false] (by kernel_rfl) rfl rfl ST.out.drew.vcells.2.2.2.2 (fun hHeld => ?_)
        have D0 := Aside0.mk ST.out.drew
        generalize wr.drew = y0 at D0 hHeld ⊢
        clear ST
        refine pure_ (i := 0) (N := (some 60)) (v := ?_) (a' := ?_) #[true, false, false, false, false, false, false, false, false, false, false, false, false, false, false] rfl rfl (by kernel_rfl) (fun _ _ _ h => h) (Or.inl ⟨by rfl, ?_⟩) ?_ ?_
        rotate_left
        · intro w'
          go_simp
          with_reducible rfl
        rotate_left
        · simp only [Act.put, List.setIfInBounds_toArray, List.set_cons_zero, List.set_cons_succ, i64_w, i32_w]
          rfl
        refine pure_ (i := 1) (N := (some 61)) (v := ?_) (a' := ?_) #[true, true, false, false, false, false, false, false, false, false, false, false, false, false, false] rfl rfl (by kernel_rfl) (fun _ _ _ h => h) (Or.inl ⟨by rfl, ?_⟩) ?_ ?_
        rotate_left
        · intro w'
          go_simp
          with_reducible rfl
        rotate_left
        · simp only [Act.put, List.setIfInBounds_toArray, List.set_cons_zero, List.set_cons_succ, i64_w, i32_w]
          rfl
        refine pure_ (i := 2) (N := (some 62)) (v := ?_) (a' := ?_) #[true, true, true, false, false, false, false, false, false, false, false, false, false, false, false] rfl rfl (by kernel_rfl) (fun _ _ _ h => h) (Or.inl ⟨by rfl, ?_⟩) ?_ ?_
        rotate_left
        · intro w'
          go_simp
          with_reducible rfl
        rotate_left
        · simp only [Act.put, List.setIfInBounds_toArray, List.set_cons_zero, List.set_cons_succ, i64_w, i32_w]
          rfl
        refine pure_ (i := 3) (N := (some 63)) (v := ?_) (a' := ?_) #[true, true, true, true, false, false, false, false, false, false, false, false, false, false, false] rfl rfl (by kernel_rfl) (fun _ _ _ h => h) (Or.inl ⟨by rfl, ?_⟩) ?_ ?_
        rotate_left
        · intro w'
          go_simp
          with_reducible rfl
        rotate_left
        · simp only [Act.put, List.setIfInBounds_toArray, List.set_cons_zero, List.set_cons_succ, i64_w, i32_w]
          rfl
        refine pure_ (i := 4) (N := (some 64)) (v := ?_) (a' := ?_) #[true, true, true, true, true, false, false, false, false, false, false, false, false, false, false] rfl rfl (by kernel_rfl) (fun _ _ _ h => h) (Or.inl ⟨by rfl, ?_⟩) ?_ ?_
        rotate_left
        · intro w'
          go_simp
          with_reducible rfl
        rotate_left
        · simp only [Act.put, List.setIfInBounds_toArray, List.set_cons_zero, List.set_cons_succ, i64_w, i32_w]
          rfl
        refine take_ (i := 5) (N := (some 65)) (v := ?_) (a' := ?_) #[true, true, true, true, true, true, false, false, false, false, false, false, false, false, false] rfl rfl (by kernel_rfl) (fun _ _ _ h => h) (Or.inl ⟨by rfl, ?_⟩) hHeld ?_ ?_
        rotate_left
        · rintro w' s0
          go_simp
          with_reducible rfl
        rotate_left
        · simp only [Act.put, List.setIfInBounds_toArray, List.set_cons_zero, List.set_cons_succ, i64_w, i32_w]
          rfl
        refine join_ (σ := Nat) 3 #[true, true, true, true, true, true, true, true, true, true, true, true, false, false, false] (fun s_ => [(66, .tuple #[.agg #[.bool t1, .string t2, .bool t3, .string t4, .int .i64 t5, .int .i64 t6], .int .i64 t7, .int .i64 t8]), (59, .tuple #[.agg #[.bool t1, .string t2, .bool t3, .string t4, .int .i64 t5, .int .i64 t6], .int .i64 t7, .int .i64 t8]), (67, .agg #[.bool t1, .string t2, .bool t3, .string t4, .int .i64 t5, .int .i64 t6]), (68, .int .i64 t7), (69, .int .i64 t8), (9, .pointer (some ⟨s_, 0, none⟩))]) (fun s_ w' => w'.cell? ⟨w.heap.size + 1, 4, none⟩ = some (.int .i64 t) ∧ Aside0 (w.heap.size + 2 ≤ s_) ∧ Aside0 (BdSt w w' b s p q u p q s cn t x) ∧ Aside0 (w'.heap[s_]? = some (.cells #[.bool false, .string ⟨#[]⟩, .bool false, .string ⟨#[]⟩, .int .i64 0, .int .i64 0] 45 (0, 0))) ∧ Aside0 (Kd.R k45 45 w' w.heap.size (fun k_ => k_ ≠ s_) u x)) ?_ ?_
        rotate_left
        · intro hCont
          refine two_ (i := 6) (j := 11) (Ni := (some 66)) (Nj := (some 9)) #[true, true, true, true, true, true, true, false, false, false, false, false, false, false, false] #[true, true, true, true, true, true, false, false, false, false, false, true, false, false, false] rfl rfl rfl rfl (by kernel_rfl) (by decide) (by decide) (fun K hK => ?_) (fun K hK => ?_)
          · refine goes_ Try.func36 (by kernel_rfl) rfl #[.slice A1 sl.length (c - at_.toNat), .int .i64 t] (by rfl) rfl rfl (by (try simp only [List.map_toArray, List.map_cons, List.map_nil]); first | done | rfl) ?_
            refine (record_Decode.calls k2 A1 (c - at_.toNat) sl t t1 t2 t3 t4 t5 t6 t7 t8 _ (Kd.C_below HR2.out D0.out.bel) HC2.out HD.out).mono ?_
            rintro e y1 ⟨rfl, hb⟩
            refine ⟨_, rfl, ?_⟩
            have D1 := Aside0.mk (D0.out.below hb)
            clear hb D0
            refine hK.out _ _ D1.out.vcells.2.2.2.2 (fun hHeld => ?_)
            clear hK K
            refine norm_ (a' := ?_) ?_ ?_
            rotate_left
            · show Act.put _ (some 66) _ = _
              simp only [Act.put, List.setIfInBounds_toArray, List.set_cons_zero, List.set_cons_succ, i64_w, i32_w]
              rfl
            refine pure_ (i := 7) (N := (some 59)) (v := ?_) (a' := ?_) #[true, true, true, true, true, true, true, true, false, false, false, false, false, false, false] rfl rfl (by kernel_rfl) (fun _ _ _ h => h) (Or.inl ⟨by rfl, ?_⟩) ?_ ?_
            rotate_left
            · intro w'
              go_simp
              with_reducible rfl
            rotate_left
            · simp only [Act.put, List.setIfInBounds_toArray, List.set_cons_zero, List.set_cons_succ, i64_w, i32_w]
              rfl
            refine pure_ (i := 8) (N := (some 67)) (v := ?_) (a' := ?_) #[true, true, true, true, true, true, true, true, true, false, false, false, false, false, false] rfl rfl (by kernel_rfl) (fun _ _ _ h => h) (Or.inl ⟨by rfl, ?_⟩) ?_ ?_
            rotate_left
            · intro w'
              go_simp
              with_reducible rfl
            rotate_left
            · simp only [Act.put, List.setIfInBounds_toArray, List.set_cons_zero, List.set_cons_succ, i64_w, i32_w]
              rfl
            refine pure_ (i := 9) (N := (some 68)) (v := ?_) (a' := ?_) #[true, true, true, true, true, true, true, true, true, true, false, false, false, false, false] rfl rfl (by kernel_rfl) (fun _ _ _ h => h) (Or.inl ⟨by rfl, ?_⟩) ?_ ?_
            rotate_left
            · intro w'
              go_simp
              with_reducible rfl
            rotate_left
            · simp only [Act.put, List.setIfInBounds_toArray, List.set_cons_zero, List.set_cons_succ, i64_w, i32_w]
              rfl
            refine pure_ (i := 10) (N := (some 69)) (v := ?_) (a' := ?_) #[true, true, true, true, true, true, true, true, true, true, true, false, false, false, false] rfl rfl (by kernel_rfl) (fun _ _ _ h => h) (Or.inl ⟨by rfl, ?_⟩) ?_ ?_
            rotate_left
            · intro w'
              go_simp
              with_reducible rfl
            rotate_left
            · simp only [Act.put, List.setIfInBounds_toArray, List.set_cons_zero, List.set_cons_succ, i64_w, i32_w]
              rfl
            refine one_ (i := 11) (N := (some 9)) #[true, true, true, true, true, true, true, true, true, true, true, true, false, false, false] rfl rfl (by kernel_rfl) (by decide) (fun K hK => ?_)
            refine box_step ?hg (N := 9) ?hd (cs := #[.bool false, .string ⟨#[]⟩, .bool false, .string ⟨#[]⟩, .int .i64 0, .int .i64 0]) (t := 45) ?hr ?_; (case hd => rfl); (case hg => rfl); (case hr => first | (go_simp; done) | (go_simp; rfl))
            intro g9 hg y2 hbox hb
            have GE := Aside0.mk (show w.heap.size + 2 ≤ g9 from by rw [hg]; exact blk_lt D1.out.vt)
            have RO := Aside0.mk (Kd.R_mono (Kd.R_below (Kd.R_elderB D1.out.row g9 (Nat.le_of_eq hg.symm)) hb) (fun k_ hk => hk.2))
            have D2 := Aside0.mk (D1.out.below hb)
            have BK := Aside0.mk hbox
            clear hbox hb hg D1
            refine hK.out _ _ D2.out.vcells.2.2.2.2 (fun hHeld => ?_)
            clear hK K
            refine norm_ (a' := ?_) ?_ ?_
            rotate_left
            · show Act.put _ (some 9) _ = _
              simp only [Act.put, List.setIfInBounds_toArray, List.set_cons_zero, List.set_cons_succ, i64_w, i32_w]
              rfl
            exact norm_ (by simp only [putAll, Act.put, List.setIfInBounds_toArray, List.set_cons_zero, List.set_cons_succ]) (hCont g9 _ ⟨hHeld, GE, D2, BK, RO⟩)
          · refine box_step ?hg (N := 9) ?hd (cs := #[.bool false, .string ⟨#[]⟩, .bool false, .string ⟨#[]⟩, .int .i64 0, .int .i64 0]) (t := 45) ?hr ?_; (case hd => rfl); (case hg => rfl); (case hr => first | (go_simp; done) | (go_simp; rfl))
            intro g9 hg y1 hbox hb
            have GE := Aside0.mk (show w.heap.size + 2 ≤ g9 from by rw [hg]; exact blk_lt D0.out.vt)
            have RO1 := Aside0.mk (Kd.R_mono (Kd.R_below (Kd.R_elderB D0.out.row g9 (Nat.le_of_eq hg.symm)) hb) (fun k_ hk => hk.2))
            have D1 := Aside0.mk (D0.out.below hb)
            have BK1 := Aside0.mk hbox
            clear hbox hb hg D0
            refine hK.out _ _ D1.out.vcells.2.2.2.2 (fun hHeld => ?_)
            clear hK K
            refine norm_ (a' := ?_) ?_ ?_
            rotate_left
            · show Act.put _ (some 9) _ = _
              simp only [Act.put, List.setIfInBounds_toArray, List.set_cons_zero, List.set_cons_succ, i64_w, i32_w]
              rfl
            refine one_ (i := 6) (N := (some 66)) #[true, true, true, true, true, true, true, false, false, false, false, true, false, false, false] rfl rfl (by kernel_rfl) (by decide) (fun K hK => ?_)
            refine goes_ Try.func36 (by kernel_rfl) rfl #[.slice A1 sl.length (c - at_.toNat), .int .i64 t] (by rfl) rfl rfl (by (try simp only [List.map_toArray, List.map_cons, List.map_nil]); first | done | rfl) ?_
            refine (record_Decode.calls k2 A1 (c - at_.toNat) sl t t1 t2 t3 t4 t5 t6 t7 t8 _ (Kd.C_below HR2.out D1.out.bel) HC2.out HD.out).mono ?_
            rintro e y2 ⟨rfl, hb⟩
            refine ⟨_, rfl, ?_⟩
            have D2 := Aside0.mk (D1.out.below hb)
            have BK := Aside0.mk (blk_below BK1.out hb)
            have RO := Aside0.mk (Kd.R_below RO1.out hb)
            clear hb D1 BK1 RO1
            refine hK.out _ _ D2.out.vcells.2.2.2.2 (fun hHeld => ?_)
            clear hK K
            refine norm_ (a' := ?_) ?_ ?_
            rotate_left
            · show Act.put _ (some 66) _ = _
              simp only [Act.put, List.setIfInBounds_toArray, List.set_cons_zero, List.set_cons_succ, i64_w, i32_w]
              rfl
            refine pure_ (i := 7) (N := (some 59)) (v := ?_) (a' := ?_) #[true, true, true, true, true, true, true, true, false, false, false, true, false, false, false] rfl rfl (by kernel_rfl) (fun _ _ _ h => h) (Or.inl ⟨by rfl, ?_⟩) ?_ ?_
            rotate_left
            · intro w'
              go_simp
              with_reducible rfl
            rotate_left
            · simp only [Act.put, List.setIfInBounds_toArray, List.set_cons_zero, List.set_cons_succ, i64_w, i32_w]
              rfl
            refine pure_ (i := 8) (N := (some 67)) (v := ?_) (a' := ?_) #[true, true, true, true, true, true, true, true, true, false, false, true, false, false, false] rfl rfl (by kernel_rfl) (fun _ _ _ h => h) (Or.inl ⟨by rfl, ?_⟩) ?_ ?_
            rotate_left
            · intro w'
              go_simp
              with_reducible rfl
            rotate_left
            · simp only [Act.put, List.setIfInBounds_toArray, List.set_cons_zero, List.set_cons_succ, i64_w, i32_w]
              rfl
            refine pure_ (i := 9) (N := (some 68)) (v := ?_) (a' := ?_) #[true, true, true, true, true, true, true, true, true, true, false, true, false, false, false] rfl rfl (by kernel_rfl) (fun _ _ _ h => h) (Or.inl ⟨by rfl, ?_⟩) ?_ ?_
            rotate_left
            · intro w'
              go_simp
              with_reducible rfl
            rotate_left
            · simp only [Act.put, List.setIfInBounds_toArray, List.set_cons_zero, List.set_cons_succ, i64_w, i32_w]
              rfl
            refine pure_ (i := 10) (N := (some 69)) (v := ?_) (a' := ?_) #[true, true, true, true, true, true, true, true, true, true, true, true, false, false, false] rfl rfl (by kernel_rfl) (fun _ _ _ h => h) (Or.inl ⟨by rfl, ?_⟩) ?_ ?_
            rotate_left
            · intro w'
              go_simp
              with_reducible rfl
            rotate_left
            · simp only [Act.put, List.setIfInBounds_toArray, List.set_cons_zero, List.set_cons_succ, i64_w, i32_w]
              rfl
            exact norm_ (by simp only [putAll, Act.put, List.setIfInBounds_toArray, List.set_cons_zero, List.set_cons_succ]) (hCont g9 _ ⟨hHeld, GE, D2, BK, RO⟩)
        rintro g9 y3 ⟨hHeld, GE, D2, BK, RO⟩
        refine norm_ (a' := ?_) ?_ ?_
        rotate_left
        · simp only [putAll, Act.put, List.setIfInBounds_toArray, List.set_cons_zero, List.set_cons_succ]
          rfl
        refine one_ (i := 12) (N := none) #[true, true, true, true, true, true, true, true, true, true, true, true, true, false, false] rfl rfl (by kernel_rfl) (by decide) (fun K hK => ?_)
        have r0 : y3.cell? ⟨g9, 0, none⟩ = some (.bool false) := (blk_cell BK.out 0).trans rfl
        have r1 : y3.cell? ⟨g9, 1, none⟩ = some (.string ⟨#[]⟩) := (blk_cell BK.out 1).trans rfl
        have r2 : y3.cell? ⟨g9, 2, none⟩ = some (.bool false) := (blk_cell BK.out 2).trans rfl
        have r3 : y3.cell? ⟨g9, 3, none⟩ = some (.string ⟨#[]⟩) := (blk_cell BK.out 3).trans rfl
        have r4 : y3.cell? ⟨g9, 4, none⟩ = some (.int .i64 0) := (blk_cell BK.out 4).trans rfl
        have r5 : y3.cell? ⟨g9, 5, none⟩ = some (.int .i64 0) := (blk_cell BK.out 5).trans rfl
        have f0 := blk_frozen BK.out 0
        have f1 := blk_frozen BK.out 1
        have f2 := blk_frozen BK.out 2
        have f3 := blk_frozen BK.out 3
        have f4 := blk_frozen BK.out 4
        have f5 := blk_frozen BK.out 5
        refine skip_ (w1 := ?_) (by rfl) rfl ?_ ?_
        rotate_left
        · go_simp
          rfl
        refine hK.out _ _ (bd_far D2.out GE.out RO.out (.bool t1) (.string t2) (.bool t3) (.string t4) (.int .i64 t5) (.int .i64 t6)).1.vcells.2.2.2.2 (fun hHeld => ?_)
        clear hK K
        refine pure_ (i := 13) (N := (some 10)) (v := ?_) (a' := ?_) #[true, true, true, true, true, true, true, true, true, true, true, true, true, true, false] rfl rfl (by kernel_rfl) (fun _ _ _ h => h) (Or.inl ⟨by rfl, ?_⟩) ?_ ?_
        rotate_left
        · intro w'
          go_simp
          with_reducible rfl
        rotate_left
        · simp only [Act.put, List.setIfInBounds_toArray, List.set_cons_zero, List.set_cons_succ, i64_w, i32_w]
          rfl
        refine pure_ (i := 14) (N := (some 11)) (v := ?_) (a' := ?_) #[true, true, true, true, true, true, true, true, true, true, true, true, true, true, true] rfl rfl (by kernel_rfl) (fun _ _ _ h => h) (Or.inl ⟨by rfl, ?_⟩) ?_ ?_
        rotate_left
        · intro w'
          go_simp
          with_reducible rfl
        rotate_left
        · simp only [Act.put, List.setIfInBounds_toArray, List.set_cons_zero, List.set_cons_succ, i64_w, i32_w]
          rfl
        refine done_ (by kernel_rfl) ?_
        clear hHeld
        have F_ := bd_far D2.out GE.out RO.out (.bool t1) (.string t2) (.bool t3) (.string t4) (.int .i64 t5) (.int .i64 t6)
        have D3 := Aside0.mk F_.1
        have RO3 := Aside0.mk F_.2
        have s0 : (World.setCell y3 ⟨g9, 0, none⟩ ((.bool t1))).heap[g9]? = some (.cells #[(.bool t1), .string ⟨#[]⟩, .bool false, .string ⟨#[]⟩, .int .i64 0, .int .i64 0] 45 (0, 0)) := by simpa using blk_set BK.out 0 ((.bool t1))
        have s1 : (World.setCell (World.setCell y3 ⟨g9, 0, none⟩ ((.bool t1))) ⟨g9, 1, none⟩ ((.string t2))).heap[g9]? = some (.cells #[(.bool t1), (.string t2), .bool false, .string ⟨#[]⟩, .int .i64 0, .int .i64 0] 45 (0, 0)) := by simpa using blk_set s0 1 ((.string t2))
        have s2 : (World.setCell (World.setCell (World.setCell y3 ⟨g9, 0, none⟩ ((.bool t1))) ⟨g9, 1, none⟩ ((.string t2))) ⟨g9, 2, none⟩ ((.bool t3))).heap[g9]? = some (.cells #[(.bool t1), (.string t2), (.bool t3), .string ⟨#[]⟩, .int .i64 0, .int .i64 0] 45 (0, 0)) := by simpa using blk_set s1 2 ((.bool t3))
        have s3 : (World.setCell (World.setCell (World.setCell (World.setCell y3 ⟨g9, 0, none⟩ ((.bool t1))) ⟨g9, 1, none⟩ ((.string t2))) ⟨g9, 2, none⟩ ((.bool t3))) ⟨g9, 3, none⟩ ((.string t4))).heap[g9]? = some (.cells #[(.bool t1), (.string t2), (.bool t3), (.string t4), .int .i64 0, .int .i64 0] 45 (0, 0)) := by simpa using blk_set s2 3 ((.string t4))
        have s4 : (World.setCell (World.setCell (World.setCell (World.setCell (World.setCell y3 ⟨g9, 0, none⟩ ((.bool t1))) ⟨g9, 1, none⟩ ((.string t2))) ⟨g9, 2, none⟩ ((.bool t3))) ⟨g9, 3, none⟩ ((.string t4))) ⟨g9, 4, none⟩ ((.int .i64 t5))).heap[g9]? = some (.cells #[(.bool t1), (.string t2), (.bool t3), (.string t4), (.int .i64 t5), .int .i64 0] 45 (0, 0)) := by simpa using blk_set s3 4 ((.int .i64 t5))
        have s5 : (World.setCell (World.setCell (World.setCell (World.setCell (World.setCell (World.setCell y3 ⟨g9, 0, none⟩ ((.bool t1))) ⟨g9, 1, none⟩ ((.string t2))) ⟨g9, 2, none⟩ ((.bool t3))) ⟨g9, 3, none⟩ ((.string t4))) ⟨g9, 4, none⟩ ((.int .i64 t5))) ⟨g9, 5, none⟩ ((.int .i64 t6))).heap[g9]? = some (.cells #[(.bool t1), (.string t2), (.bool t3), (.string t4), (.int .i64 t5), (.int .i64 t6)] 45 (0, 0)) := by simpa using blk_set s4 5 ((.int .i64 t6))
        have BK3 := Aside0.mk s5
        clear s0 s1 s2 s3 s4 s5 F_ D2 RO BK r0 r1 r2 r3 r4 r5 f0 f1 f2 f3 f4 f5
        generalize (World.setCell (World.setCell (World.setCell (World.setCell (World.setCell (World.setCell y3 ⟨g9, 0, none⟩ ((.bool t1))) ⟨g9, 1, none⟩ ((.string t2))) ⟨g9, 2, none⟩ ((.bool t3))) ⟨g9, 3, none⟩ ((.string t4))) ⟨g9, 4, none⟩ ((.int .i64 t5))) ⟨g9, 5, none⟩ ((.int .i64 t6))) = y4 at D3 RO3 BK3 ⊢
        by_cases e8 : t8 = 0
        · have H := HH.out
          rw [if_pos e8] at H
          have b8 : (t8 != 0) = false := bne_eq_false_iff_eq.mpr e8
          by_cases e9 : x.length < 2199023255552
          case neg => rw [if_neg e9] at H; cases H
          rw [if_pos e9] at H
          have HLM := Aside0.mk e9
          obtain ⟨x2, hx2⟩ : ∃ x2, x2 = x ++ [(⟨t1, t2, t3, t4, t5, t6⟩ : S45)] := ⟨_, rfl⟩
          rw [← hx2] at H
          have HA := Aside0.mk H
          have HX2 := Aside0.mk hx2
          clear H HH e8 e9 hx2
          have e0_ : y4.cell? ⟨g9, 0, none⟩ = some (.bool t1) := (blk_cell BK3.out 0).trans rfl
          have e1_ : y4.cell? ⟨g9, 1, none⟩ = some (.string t2) := (blk_cell BK3.out 1).trans rfl
          have e2_ : y4.cell? ⟨g9, 2, none⟩ = some (.bool t3) := (blk_cell BK3.out 2).trans rfl
          have e3_ : y4.cell? ⟨g9, 3, none⟩ = some (.string t4) := (blk_cell BK3.out 3).trans rfl
          have e4_ : y4.cell? ⟨g9, 4, none⟩ = some (.int .i64 t5) := (blk_cell BK3.out 4).trans rfl
          have e5_ : y4.cell? ⟨g9, 5, none⟩ = some (.int .i64 t6) := (blk_cell BK3.out 5).trans rfl
          obtain ⟨-, -, -, -, y9_⟩ := D3.out.bcells
          go_wp2_with (at_builtin; refine Kd.R_append k45 (w0 := w) w.heap.size rfl (.tmp 74) (.tmp 76) 22 45 (.agg #[(.bool false), (.string ⟨#[]⟩), (.bool false), (.string ⟨#[]⟩), (.int .i64 0), (.int .i64 0)]) 64 rfl Try.underlying22 info45 rfl (by decide) (by omega) u x (⟨t1, t2, t3, t4, t5, t6⟩ : S45) [.bool t1, .string t2, .bool t3, .string t4, .int .i64 t5, .int .i64 t6] (fun _ => True) (fun _ => False) rfl (by first | (go_simp; done) | (go_simp; rfl)) ?aP (fun _ hk => hk.elim) ?aF ?aO ?aB ?aS ?aL ?_; (case aP => exact k45_mkM _ _ _ (⟨t1, t2, t3, t4, t5, t6⟩ : S45)); (case aB => exact D3.out.bel); (case aF => exact fun _ _ => trivial); (case aO => exact D3.out.row); (case aS => exact D3.out.bel.size); (case aL => have := HLM.out; omega); intro v7 y5 ho hb hg hat; rw [← HX2.out] at ho; have D5 := Aside0.mk (And.intro hb (And.intro (blk_grown D3.out.bt hg (Kd.R_ne D3.out.row D3.out.bt (by decide))) (blk_grown D3.out.vt hg (Kd.R_ne D3.out.row D3.out.vt (by decide))))); have HO5 := Aside0.mk ho; obtain ⟨A7, c7, e7⟩ := Kd.R_slice ho; subst e7; clear ho hb hg hat; have y4_ : y5.cell? ⟨w.heap.size, 4, none⟩ = some u := (blk_cell D5.out.2.1 4).trans rfl; have z4 := blk_frozen D5.out.2.1 4)
          go_roundg k2
          case measure => have := HK2.out; omega
          case rel => exact ⟨wrap64 (at_ + t7), x2, .slice A7 x2.length c7, rfl, rfl, by first | rfl | (simp; done), HA, ⟨by have := HK2.out; omega⟩, ⟨BdSt.setU D5.out.1 D5.out.2.1 D5.out.2.2 _ _ HO5.out⟩⟩
        · have H := HH.out
          rw [if_neg e8] at H
          have b8 : (t8 != 0) = true := bne_iff_ne.mpr e8
          unfold batch_Decode.bad at H
          simp only [Option.some.injEq, Prod.mk.injEq] at H
          obtain ⟨rfl, rfl, rfl, rfl, rfl, rfl, rfl⟩ := H
          clear HH
          obtain ⟨z0, z1, z2, z3, z4⟩ := D3.out.bfree
          obtain ⟨y0, y1, y2, y3, y4_⟩ := D3.out.bcells
          go_wp2_with fail
          have SB_ := (D3.out).setB 0 0 0 0 (.slice none 0 0) [] (Kd.R_nil _ _ _ _ _)
          refine bodyPost_ret (results_ctt rfl _ _ w.heap.size 24 #[.int .i64 0, .int .i64 0, .int .i64 0, .int .i64 0, .slice none 0 0] (0, 0) _ rfl SB_.bt Try.underlying24 rfl (by kernel_rfl)) rfl ?_
          exact ⟨_, rfl, Kd.R_nil _ _ _ _ _, SB_.bel⟩
      · rw [if_neg e1] at H
        have b1 : decide (at_ < 12 + m) = false := decide_eq_false e1
        unfold batch_Decode.fin at H
        obtain ⟨⟨en, ee⟩, HE_, H⟩ := Option.bind_eq_some_iff.mp H
        dsimp only at H
        have HE := Aside0.mk HE_
        have HH := Aside0.mk H
        clear H HE_
        obtain ⟨Au, cu, eu⟩ := Kd.R_slice ST.out.row
        subst eu
        obtain ⟨y0, y1, y2, y3, y4_⟩ := ST.out.bcells
        go_wp2_with fail
        refine (batch_Encode.calls k2 b s p q Au cu x en ee _ (Kd.R_reads' ST.out.row).2.2 (Kd.R_reads' ST.out.row).2.1 HE.out).mono ?_
        rintro e y6 ⟨v0, rfl, ho, hb⟩
        have D2 := Aside0.mk (ST.out.below hb)
        have HO := Aside0.mk (Kd.R_lower ho ST.out.bel.size)
        obtain ⟨Ae, ce, ev⟩ := Kd.R_slice ho
        subst ev
        clear ho hb y0 y1 y2 y3 y4_ ST
        by_cases e8 : ee = 0
        · have H := HH.out
          rw [if_pos e8] at H
          have b8 : (ee != 0) = false := bne_eq_false_iff_eq.mpr e8
          obtain ⟨eq, HQ_, H⟩ := Option.bind_eq_some_iff.mp H
          have HN := Aside0.mk (show 0 ≤ 12 + m ∧ 12 + m ≤ (l.length : Int) by omega)
          obtain ⟨i0, hi0, _, hsz0, _⟩ := info_parts info5
          obtain ⟨hcut, hA, hC⟩ := print_take_of (P := Try.prog) (Value.int .u8) 0 27 5 .i64 Try.underlying27 hi0 hsz0 A c l (12 + m) (by omega) (by omega) HC.out
          obtain ⟨tl, htl⟩ : ∃ tl, tl = l.take (12 + m).toNat := ⟨_, rfl⟩
          rw [← htl] at hcut hA hC HQ_
          have HQ2 := Aside0.mk HQ_
          have HR2 := Aside0.mk (Kd.C_of_reads (h1 := fun _ => rfl) (hA _ (Kd.reads_of_C HR.out)))
          have HC2 := Aside0.mk hC
          clear hi0 hsz0 hA hC HQ_ HH e8 htl
          cases eq with
          | true =>
            rw [if_pos rfl] at H
            simp only [Option.some.injEq, Prod.mk.injEq] at H
            obtain ⟨rfl, rfl, rfl, rfl, rfl, rfl, rfl⟩ := H
            go_wp2_with fail
            refine (bytes_Equal.calls Ae ce en A c tl true _ (Kd.R_reads' HO.out).2.2 (Kd.R_reads' HO.out).2.1 (Kd.C_below HR2.out D2.out.bel) HC2.out HQ2.out).mono ?_
            rintro e w' ⟨rfl, ⟨n7, rfl⟩⟩
            have D3 := Aside0.mk (D2.out.drewN n7)
            obtain ⟨z0, z1, z2, z3, z4⟩ := D3.out.bfree
            obtain ⟨y0, y1, y2, y3, y4_⟩ := D3.out.bcells
            go_wp2_with fail
            have SB_ := D3.out.setB b s p q _ x D3.out.row
            refine bodyPost_ret (results_ctt rfl _ _ w.heap.size 24 #[.int .i64 b, .int .i64 s, .int .i64 p, .int .i64 q, .slice Au x.length cu] (0, 0) _ rfl SB_.bt Try.underlying24 rfl (by kernel_rfl)) rfl ?_
            exact ⟨_, rfl, SB_.row, SB_.bel⟩
          | false =>
            rw [if_neg (by decide)] at H
            unfold batch_Decode.bad at H
            simp only [Option.some.injEq, Prod.mk.injEq] at H
            obtain ⟨rfl, rfl, rfl, rfl, rfl, rfl, rfl⟩ := H
            go_wp2_with fail
            refine (bytes_Equal.calls Ae ce en A c tl false _ (Kd.R_reads' HO.out).2.2 (Kd.R_reads' HO.out).2.1 (Kd.C_below HR2.out D2.out.bel) HC2.out HQ2.out).mono ?_
            rintro e w' ⟨rfl, ⟨n7, rfl⟩⟩
            have D3 := Aside0.mk (D2.out.drewN n7)
            obtain ⟨z0, z1, z2, z3, z4⟩ := D3.out.bfree
            obtain ⟨y0, y1, y2, y3, y4_⟩ := D3.out.bcells
            go_wp2_with fail
            have SB_ := (D3.out).setB 0 0 0 0 (.slice none 0 0) [] (Kd.R_nil _ _ _ _ _)
            refine bodyPost_ret (results_ctt rfl _ _ w.heap.size 24 #[.int .i64 0, .int .i64 0, .int .i64 0, .int .i64 0, .slice none 0 0] (0, 0) _ rfl SB_.bt Try.underlying24 rfl (by kernel_rfl)) rfl ?_
            exact ⟨_, rfl, Kd.R_nil _ _ _ _ _, SB_.bel⟩
        · have H := HH.out
          rw [if_neg e8] at H
          have b8 : (ee != 0) = true := bne_iff_ne.mpr e8
          unfold batch_Decode.bad at H
          simp only [Option.some.injEq, Prod.mk.injEq] at H
          obtain ⟨rfl, rfl, rfl, rfl, rfl, rfl, rfl⟩ := H
          clear HH
          obtain ⟨z0, z1, z2, z3, z4⟩ := D2.out.bfree
          obtain ⟨y0, y1, y2, y3, y4_⟩ := D2.out.bcells
          go_wp2_with fail
          have SB_ := (D2.out).setB 0 0 0 0 (.slice none 0 0) [] (Kd.R_nil _ _ _ _ _)
          refine bodyPost_ret (results_ctt rfl _ _ w.heap.size 24 #[.int .i64 0, .int .i64 0, .int .i64 0, .int .i64 0, .slice none 0 0] (0, 0) _ rfl SB_.bt Try.underlying24 rfl (by kernel_rfl)) rfl ?_
          exact ⟨_, rfl, Kd.R_nil _ _ _ _ _, SB_.bel⟩
theorem batch_Decode.calls (k : Nat) (A : Option Addr) (c : Nat) (l : List Int) (r1 r2 r3 r4 : Int) (r5 : List S45) (r6 r7 : Int) (w : World) (hr : Kd.C (Kd.int .u8) w A l.length l) (hc : l.length ≤ c) (h : batch_Decode.f k l = some (r1, r2, r3, r4, r5, r6, r7)) :
    Calls Try.prog 22 #[.slice A l.length c] w fun e w' => ∃ v4_ : Value, e = .returned (.tuple #[.agg #[.int .i64 r1, .int .i64 r2, .int .i64 r3, .int .i64 r4, v4_], .int .i64 r6, .int .i64 r7]) ∧ Kd.R k45 45 w' w.heap.size (fun _ => True) v4_ r5 ∧ Below w.heap.size w w' := by
  have bad : batch_Decode.bad = some (r1, r2, r3, r4, r5, r6, r7) → r1 = 0 ∧ r2 = 0 ∧ r3 = 0 ∧ r4 = 0 ∧ r5 = [] ∧ r6 = 0 ∧ r7 = 10 := by
    intro h
    unfold batch_Decode.bad at h
    simp only [Option.some.injEq, Prod.mk.injEq] at h
    obtain ⟨rfl, rfl, rfl, rfl, rfl, rfl, rfl⟩ := h
    exact ⟨rfl, rfl, rfl, rfl, rfl, rfl, rfl⟩
  unfold batch_Decode.f at h
  by_cases c0 : (l.length : Int) < 48
  · rw [if_pos c0] at h
    obtain ⟨rfl, rfl, rfl, rfl, rfl, rfl, rfl⟩ := bad h
    exact batch_Decode.short k A c l w hr hc c0
  rw [if_neg c0] at h
  obtain ⟨m, hg, h⟩ := Option.bind_eq_some_iff.mp h
  by_cases cm : 0 ≤ m ∧ m < 4294967296
  case neg => rw [if_neg cm] at h; cases h
  rw [if_pos cm] at h
  by_cases c1 : 12 + m < 48
  · rw [if_pos c1] at h
    obtain ⟨rfl, rfl, rfl, rfl, rfl, rfl, rfl⟩ := bad h
    exact batch_Decode.less k A c l w hr hc m c0 hg cm c1
  rw [if_neg c1] at h
  by_cases c2 : 12 + m > (l.length : Int)
  · rw [if_pos c2] at h
    obtain ⟨rfl, rfl, rfl, rfl, rfl, rfl, rfl⟩ := bad h
    exact batch_Decode.more k A c l w hr hc m c0 hg cm c1 c2
  rw [if_neg c2] at h
  by_cases c3 : 12 + m > 6000
  · rw [if_pos c3] at h
    obtain ⟨rfl, rfl, rfl, rfl, rfl, rfl, rfl⟩ := bad h
    exact batch_Decode.large k A c l w hr hc m c0 hg cm c1 c2 c3
  rw [if_neg c3] at h
  obtain ⟨p, hp, h⟩ := Option.bind_eq_some_iff.mp h
  obtain ⟨q, hq, h⟩ := Option.bind_eq_some_iff.mp h
  obtain ⟨s, hs, h⟩ := Option.bind_eq_some_iff.mp h
  obtain ⟨cn, hcn, h⟩ := Option.bind_eq_some_iff.mp h
  obtain ⟨t, ht, h⟩ := Option.bind_eq_some_iff.mp h
  obtain ⟨b, hb, h⟩ := Option.bind_eq_some_iff.mp h
  exact batch_Decode.main k A c l w hr hc m c0 hg cm c1 c2 c3 p q s cn t b hp hq hs hcn ht hb r1 r2 r3 r4 r5 r6 r7 h

end Go.Proofs.Ytgmeellapjimgaa.PBr

-- written by a program of this session (wip/tools/pr.py, over the kit's printer): not by hand
namespace Go.Proofs.Ytgmeellapjimgaa.PBr
open Go.RowKit Go.Proofs.YtgmeellapjimgaaW.PrintWords Go.Proofs.YtgmeellapjimgaaW.PrintLast Go.Proofs.YtgmeellapjimgaaW.PrintMore
attribute [local go_sem] max2_int min2_int max_two min_two max_three min_three max_four min_four   -- for this text's walks alone
set_option linter.unusedVariables false
set_option linter.unusedSimpArgs false

/-! ### bollardlaw13_BatchRows -/
/-- A batch's cells, as they stand in the caller's memory. -/
def kG (w0 : World) : Kd S24 where
  sz := 5
  E := []
  K _ x cs := k24.K w0 x cs
  M _ _ _ x cs := k24.K w0 x cs
  K_len h := k24.K_len h
  K_one h := k24.K_one h
  K_below _ h := h
  K_of_M h := h
  M_mono _ h := h
  M_bound h := h
  M_move _ h := h
  M_lower _ h := h
def rw1 (k : Nat) : List Int → List S24 → List S24 → Option (Option (List Int × List S24))
  | p, g, [] => some (some (p, g))
  | p, g, x :: l => (bollardalike_Small.f k x.f4).bind fun s => if s = true then (batch_Encode.f k x.f0 x.f1 x.f2 x.f3 x.f4).bind fun r => if r.2 = 0 then (if p.length ≤ 1000000 ∧ r.1.length ≤ 1000000 ∧ g.length ≤ 1000 then rw1 k (p ++ r.1) (g ++ [x]) l else none) else rw1 k p g l else some none
def rw2 (k : Nat) : List Int → List S24 → Option (List Int)
  | p, [] => some p
  | p, x :: g => (batch_Decode.f k p).bind fun b => if b.2.2.2.2.2.2 = 0 ∧ 1 ≤ b.2.2.2.2.2.1 ∧ b.2.2.2.2.2.1 ≤ (p.length : Int) then (bollardlaw13_same.f k b.1 b.2.1 b.2.2.1 b.2.2.2.1 b.2.2.2.2.1 x.f0 x.f1 x.f2 x.f3 x.f4).bind fun s => if s = true then rw2 k (p.drop b.2.2.2.2.2.1.toNat) g else none else none
def rw3 (k : Nat) : Option (List Int × List S24) → Option Bool
  | none => bollardlaw13_awake.f k
  | some y => (rw2 k y.1 y.2).bind fun q => (batch_Decode.f k q).bind fun b => if q.length = 0 ∧ b.2.2.2.2.2.1 = 0 ∧ b.2.2.2.2.2.2 = 10 then bollardlaw13_awake.f k else none
def bollardlaw13_BatchRows.f (k : Nat) (l : List S24) : Option Bool := if 10 < (l.length : Int) then bollardlaw13_awake.f k else (rw1 k [] [] l).bind fun o => rw3 k o
theorem rwb_drop {l : List S24} {i : Int} (h0 : 0 ≤ i) (h : i < (l.length : Int)) : l.drop i.toNat = rd_T24 l i :: l.drop (i + 1).toNat := by
  have e : (i + 1).toNat = i.toNat + 1 := by omega
  have hl : i.toNat < l.length := by omega
  rw [List.drop_eq_getElem_cons hl, e]
  congr 1
  unfold rd_T24
  rw [List.getD_eq_getElem?_getD, List.getElem?_eq_getElem hl]
  rfl
def RwSt (w W : World) (u3 u4 : Value) (p : List Int) (g : List S24) : Prop := Below w.heap.size w W ∧ Kd.R (Kd.int .u8) 5 W w.heap.size (fun _ => True) u3 p ∧ Kd.R (kG w) 24 W w.heap.size (fun _ => True) u4 g ∧ ∀ b, u3.ownBlock = some b → some b ≠ u4.ownBlock
theorem RwSt.below {w W W2 : World} {u3 u4 : Value} {p : List Int} {g : List S24} (h : RwSt w W u3 u4 p g) (hb : Below W.heap.size W W2) : RwSt w W2 u3 u4 p g := ⟨below_step h.1 hb, Kd.R_below h.2.1 hb, Kd.R_below h.2.2.1 hb, h.2.2.2⟩
theorem RwSt.put3 {w W W2 : World} {u3 u4 v : Value} {p q : List Int} {g : List S24} (h : RwSt w W u3 u4 p g) (ho : Kd.R (Kd.int .u8) 5 W2 w.heap.size (fun _ => True) v q) (hb : Below w.heap.size w W2) (hg : W.grownBy W2 u3.ownBlock) (hat : v.ownBlock = u3.ownBlock ∨ ∃ b, v.ownBlock = some b ∧ W.heap.size ≤ b) : RwSt w W2 v u4 q g := by
  refine ⟨hb, ho, Kd.R_grown2 h.2.2.1 rfl hg (fun b hb => h.2.2.2 b hb), fun b hb he => ?_⟩
  rcases hat with hat | ⟨b2, e2, hle⟩
  · exact h.2.2.2 b (hat ▸ hb) he
  · rw [hb] at e2
    injection e2 with e2
    have := own_lt h.2.2.1.2.choose_spec.1 b he.symm
    omega
theorem RwSt.put4 {w W W2 : World} {u3 u4 v : Value} {p : List Int} {g g2 : List S24} (h : RwSt w W u3 u4 p g) (ho : Kd.R (kG w) 24 W2 w.heap.size (fun _ => True) v g2) (hb : Below w.heap.size w W2) (hg : W.grownBy W2 u4.ownBlock) (hat : v.ownBlock = u4.ownBlock ∨ ∃ b, v.ownBlock = some b ∧ W.heap.size ≤ b) : RwSt w W2 u3 v p g2 := by
  refine ⟨hb, Kd.R_grown2 h.2.1 rfl hg (fun b hb he => h.2.2.2 b he.symm hb.symm), ho, fun b hb he => ?_⟩
  rcases hat with hat | ⟨b2, e2, hle⟩
  · exact h.2.2.2 b hb (he.trans hat)
  · rw [← he] at e2
    injection e2 with e2
    have := own_lt h.2.1.2.choose_spec.1 b hb
    omega
theorem rw_cells {w W : World} {ad : Addr} {v0 v1 v2 v3 v4 : Value} (hb : Below w.heap.size w W) (h : w.cell? ad = some v0 ∧ w.cell? ⟨ad.block, ad.off + 1, none⟩ = some v1 ∧ w.cell? ⟨ad.block, ad.off + 2, none⟩ = some v2 ∧ w.cell? ⟨ad.block, ad.off + 3, none⟩ = some v3 ∧ w.cell? ⟨ad.block, ad.off + 4, none⟩ = some v4) :
    W.cell? ad = some v0 ∧ W.cell? ⟨ad.block, ad.off + 1, none⟩ = some v1 ∧ W.cell? ⟨ad.block, ad.off + 2, none⟩ = some v2 ∧ W.cell? ⟨ad.block, ad.off + 3, none⟩ = some v3 ∧ W.cell? ⟨ad.block, ad.off + 4, none⟩ = some v4 :=
  ⟨pw_cell_below hb h.1, pw_cell_below hb h.2.1, pw_cell_below hb h.2.2.1, pw_cell_below hb h.2.2.2.1, pw_cell_below hb h.2.2.2.2⟩
theorem rw_drawn {w w1 : World} (h : Drawn0 w w1) : Below w.heap.size w w1 := by
  obtain ⟨⟨m, rfl⟩⟩ := h
  exact pw_below_drewN (Below.refl _ _) m
theorem rw_info : (Try.prog.info? 24).map (fun i => (i.zero, i.size, i.bytes)) = some (some (.agg #[(.int .i64 0), (.int .i64 0), (.int .i64 0), (.int .i64 0), (.slice none 0 0)]), 5, 56) := by kernel_rfl
theorem rw_blk {W : World} {g : Nat} {v0 v1 v2 v3 v4 : Value} (h : W.heap[g]? = some (.cells #[v0, v1, v2, v3, v4] 24 (0, 0))) : W.cell? ⟨g, 0, none⟩ = some v0 ∧ W.cell? ⟨g, 1, none⟩ = some v1 ∧ W.cell? ⟨g, 2, none⟩ = some v2 ∧ W.cell? ⟨g, 3, none⟩ = some v3 ∧ W.cell? ⟨g, 4, none⟩ = some v4 :=
  ⟨(blk_cell h 0).trans rfl, (blk_cell h 1).trans rfl, (blk_cell h 2).trans rfl, (blk_cell h 3).trans rfl, (blk_cell h 4).trans rfl⟩
def Rw2 (w W : World) (A3 : Option Addr) (c3 : Nat) (p : List Int) (Ag : Option Addr) (g : List S24) : Prop := Below w.heap.size w W ∧ (p.length ≤ c3 ∧ Kd.C (Kd.int .u8) W A3 p.length p) ∧ Kd.C (kG w) W Ag g.length g
theorem Rw2.below {w W W2 : World} {A3 : Option Addr} {c3 : Nat} {p : List Int} {Ag : Option Addr} {g : List S24} (h : Rw2 w W A3 c3 p Ag g) (hb : Below W.heap.size W W2) : Rw2 w W2 A3 c3 p Ag g := ⟨below_step h.1 hb, ⟨h.2.1.1, Kd.C_below h.2.1.2 hb⟩, Kd.C_below h.2.2 hb⟩
theorem at_G {w W : World} {A : Option Addr} {n : Nat} {xs : List S24} (h : Kd.C (kG w) W A n xs) (i : Int) (h0 : 0 ≤ i) (h1 : i < n) : ∃ ad A4 c4, A = some ad ∧ (W.cell? (ad.add (i.toNat * 5)) = some (.int .i64 (rd_T24 xs i).f0) ∧ W.cell? ⟨(ad.add (i.toNat * 5)).block, (ad.add (i.toNat * 5)).off + 1, none⟩ = some (.int .i64 (rd_T24 xs i).f1) ∧ W.cell? ⟨(ad.add (i.toNat * 5)).block, (ad.add (i.toNat * 5)).off + 2, none⟩ = some (.int .i64 (rd_T24 xs i).f2) ∧ W.cell? ⟨(ad.add (i.toNat * 5)).block, (ad.add (i.toNat * 5)).off + 3, none⟩ = some (.int .i64 (rd_T24 xs i).f3) ∧ W.cell? ⟨(ad.add (i.toNat * 5)).block, (ad.add (i.toNat * 5)).off + 4, none⟩ = some (.slice A4 (rd_T24 xs i).f4.length c4)) ∧ (rd_T24 xs i).f4.length ≤ c4 ∧ k45.C w A4 (rd_T24 xs i).f4.length (rd_T24 xs i).f4 := by
  obtain ⟨ad, c, e, _, hK, hc0⟩ := Kd.C_get h z24 i h0 h1
  have hc : ∀ j u, c[j]? = some u → W.cell? (ad.add (i.toNat * 5 + j)) = some u := hc0
  obtain ⟨A4, c4, rfl, l4, g4⟩ := k24_open hK
  exact ⟨ad, A4, c4, e, ⟨hc 0 _ rfl, by rw [← add_field _ _ 1 (by omega)]; exact hc 1 _ rfl, by rw [← add_field _ _ 2 (by omega)]; exact hc 2 _ rfl, by rw [← add_field _ _ 3 (by omega)]; exact hc 3 _ rfl, by rw [← add_field _ _ 4 (by omega)]; exact hc 4 _ rfl⟩, l4, g4⟩
set_option maxHeartbeats 4000000 in
set_option maxRecDepth 100000 in
theorem bollardlaw13_BatchRows.calls (k : Nat) (A : Option Addr) (c : Nat) (l : List S24) (r : Bool) (w : World) (hr : Kd.C k24 w A l.length l) (hc : l.length ≤ c) (h : bollardlaw13_BatchRows.f k l = some r) :
    Calls Try.prog 8 #[.slice A l.length c] w fun e w' => e = .returned (.bool r) ∧ Below w.heap.size w w' := by
  unfold bollardlaw13_BatchRows.f at h
  have HR := Aside0.mk hr
  clear hr hc
  by_cases c1 : 10 < (l.length : Int)
  · rw [if_pos c1] at h
    have f1 : decide (10 < (l.length : Int)) = true := decide_eq_true c1
    have HA := Aside0.mk h
    clear h
    go_enter Try.func8, Try.ntmps8
    go_wp2_with fail
    refine (bollardlaw13_awake.calls k r _ HA.out).mono ?_
    rintro e w1 ⟨rfl, hb⟩
    have HB := Aside0.mk hb
    clear hb
    go_wp2
    go_ret
    exact ⟨rfl, HB.out⟩
  · rw [if_neg c1] at h
    have f1 : decide (10 < (l.length : Int)) = false := decide_eq_false c1
    have HLM := Aside0.mk c1
    obtain ⟨o, h1, h2⟩ := Option.bind_eq_some_iff.mp h
    have H1 := Aside0.mk h1
    have H2 := Aside0.mk h2
    clear h h1 h2 c1
    go_enter Try.func8, Try.ntmps8
    go_wp2_with fail
    go_loopg [3, 4, 5] (l.length + 1) (fun kq v3 v4 v5 w' => ∃ (i : Int) (p : List Int) (g : List S24), v5 = .int .i64 i ∧ Aside0 (0 ≤ i ∧ i ≤ (l.length : Int) ∧ kq + i.toNat = l.length + 1) ∧ Aside0 (rw1 k p g (l.drop i.toNat) = some o) ∧ Aside0 (RwSt w w' v3 v4 p g))
    case atStart => exact ⟨0, [], [], rfl, ⟨by omega, by omega, by omega⟩, H1, ⟨Below.refl _ _, Kd.R_nil _ _ _ _ _, Kd.R_nil _ _ _ _ _, fun b hb => by cases hb⟩⟩
    case round =>
      clear H1
      obtain ⟨i, p, g, rfl, HI, HO, S1⟩ := hrel
      have b0 := HI.out.1
      have bi : i < 9223372036854775807 := by have := HI.out; have := HLM.out; omega
      by_cases e1 : i < (l.length : Int)
      · have d1 : decide (i < (l.length : Int)) = true := decide_eq_true e1
        have p1 := eq_true e1
        have p0 := eq_true b0
        have HD := HO.out
        rw [rwb_drop b0 e1] at HD
        unfold rw1 at HD
        obtain ⟨ad, A4, c4, rfl, y0, y1, y2, y3, y4, l4, g4⟩ := at_T24 HR.out i b0 e1
        obtain ⟨x, hx⟩ : ∃ x, x = rd_T24 l i := ⟨_, rfl⟩
        rw [← hx] at HD y0 y1 y2 y3 y4 l4 g4
        have KX := Aside0.mk (k24_mk w x l4 g4)
        have L4 := Aside0.mk l4
        have G4 := Aside0.mk g4
        have Y := Aside0.mk (And.intro y0 (And.intro y1 (And.intro y2 (And.intro y3 y4))))
        clear y0 y1 y2 y3 y4 hx HO b0 l4 g4
        have E1 := Aside0.mk e1
        clear e1
        obtain ⟨y0, y1, y2, y3, y4⟩ := rw_cells S1.out.1 Y.out
        obtain ⟨s, hs, hd⟩ := Option.bind_eq_some_iff.mp HD
        have HS := Aside0.mk hs
        have HD2 := Aside0.mk hd
        clear HD hs hd
        go_wp2_with fail
        refine (bollardalike_Small.calls k A4 c4 x.f4 s _ (Kd.C_below G4.out S1.out.1) L4.out HS.out).mono ?_
        rintro e w3 ⟨rfl, hb⟩
        have S2 := Aside0.mk (S1.out.below (rw_drawn hb))
        clear hb S1 y0 y1 y2 y3 y4
        cases s with
        | false =>
          have H := HD2.out
          rw [if_neg (by decide)] at H
          obtain rfl := Option.some.inj H
          have HA := Aside0.mk (show bollardlaw13_awake.f k = some r from H2.out)
          clear H HD2 H2
          go_wp2_with fail
          refine (bollardlaw13_awake.calls k r _ HA.out).mono ?_
          rintro e w4 ⟨rfl, hb⟩
          have HB := Aside0.mk (below_step S2.out.1 hb)
          clear hb
          go_wp2
          go_ret
          exact ⟨rfl, HB.out⟩
        | true =>
          have H := HD2.out
          rw [if_pos rfl] at H
          obtain ⟨⟨r1, r2⟩, he, hd⟩ := Option.bind_eq_some_iff.mp H
          have HE := Aside0.mk he
          have HD3 := Aside0.mk hd
          clear H HD2 he hd
          obtain ⟨y0, y1, y2, y3, y4⟩ := rw_cells S2.out.1 Y.out
          go_wp2_with fail
          refine (batch_Encode.calls k x.f0 x.f1 x.f2 x.f3 A4 c4 x.f4 r1 r2 _ (Kd.C_below G4.out S2.out.1) L4.out HE.out).mono ?_
          rintro e w4 ⟨v, rfl, ho, hb⟩
          obtain ⟨Ae, ce, ee⟩ := Kd.R_slice ho
          subst ee
          have HC := Aside0.mk (Kd.R_reads' ho).2
          have S3 := Aside0.mk (S2.out.below hb)
          clear hb ho S2 y0 y1 y2 y3 y4
          obtain ⟨y0, y1, y2, y3, y4⟩ := rw_cells S3.out.1 Y.out
          by_cases c2 : r2 = 0
          · have H := HD3.out
            rw [if_pos c2] at H
            by_cases c3 : p.length ≤ 1000000 ∧ r1.length ≤ 1000000 ∧ g.length ≤ 1000
            case neg => rw [if_neg c3] at H; cases H
            rw [if_pos c3] at H
            have HO := Aside0.mk H
            have HL := Aside0.mk c3
            subst c2
            clear H HD3 c3
            go_wp2_with (first | ((with_reducible refine gate_builtin (b := .append) (xs := #[.tmp 43, .tmp 44]) rfl ?_); at_builtin; refine Kd.R_append_rows (Kd.int .u8) (w0 := w) w.heap.size rfl (.tmp 43) (.tmp 44) 27 5 (.int .u8 0) 1 rfl Try.underlying27 info5 rfl (by decide) (by decide) u3 p r1 Ae r1.length ce (fun _ => True) (fun _ => False) rfl rfl S3.out.2.1 HC.out.2 (fun _ _ h => h) (fun _ h => h.elim) (fun _ _ => trivial) S3.out.1 S3.out.1.size ?aL ?_; (case aL => have := HL.out; omega); intro v5 w5 ho hb hg hat; have S4 := Aside0.mk (S3.out.put3 ho hb hg hat); clear ho hb hg hat S3 y0 y1 y2 y3 y4; obtain ⟨y0, y1, y2, y3, y4⟩ := rw_cells S4.out.1 Y.out) | ((with_reducible refine gate_builtin (b := .append) (xs := #[.tmp 46, .tmp 51]) rfl ?_); at_builtin; refine Kd.R_append (kG w) (w0 := w) w.heap.size rfl (.tmp 46) (.tmp 51) 54 24 (.agg #[(.int .i64 0), (.int .i64 0), (.int .i64 0), (.int .i64 0), (.slice none 0 0)]) 56 rfl Try.underlying54 rw_info rfl (show 0 < 5 from by decide) (by decide) u4 g x [.int .i64 x.f0, .int .i64 x.f1, .int .i64 x.f2, .int .i64 x.f3, .slice A4 x.f4.length c4] (fun _ => True) (fun _ => False) rfl (by first | (go_simp; done) | (go_simp; rfl)) KX.out (fun _ hk => hk.elim) (fun _ _ => trivial) S4.out.2.2.1 S4.out.1 S4.out.1.size ?aL ?_; (case aL => have := HL.out; omega); intro v6 w6 ho hb hg hat; have S5 := Aside0.mk (S4.out.put4 ho hb hg hat); clear ho hb hg hat S4 y0 y1 y2 y3 y4))
            go_roundg (l.length + 1 - (i + 1).toNat)
            case measure => have := HI.out; omega
            case rel => exact ⟨i + 1, p ++ r1, g ++ [x], congrArg (Value.int .i64) (by have := HI.out.1; unfold wrap64; omega), ⟨by have := HI.out; omega, by have := E1.out; omega, by have := HI.out; have := E1.out; omega⟩, HO, S5⟩
          · have H := HD3.out
            rw [if_neg c2] at H
            have HO := Aside0.mk H
            have g2 : (r2 == 0) = false := by simpa using c2
            clear H HD3 c2
            go_wp2_with fail
            go_roundg (l.length + 1 - (i + 1).toNat)
            case measure => have := HI.out; omega
            case rel => exact ⟨i + 1, p, g, congrArg (Value.int .i64) (by have := HI.out.1; unfold wrap64; omega), ⟨by have := HI.out; omega, by have := E1.out; omega, by have := HI.out; have := E1.out; omega⟩, HO, S3⟩
      · have d1 : decide (i < (l.length : Int)) = false := decide_eq_false e1
        obtain rfl : some (p, g) = o := by
          have h_ := HO.out
          rw [List.drop_eq_nil_of_le (by omega)] at h_
          exact Option.some.inj h_
        obtain ⟨q, hq, h3⟩ := Option.bind_eq_some_iff.mp (show ((rw2 k p g).bind fun q => (batch_Decode.f k q).bind fun b => if q.length = 0 ∧ b.2.2.2.2.2.1 = 0 ∧ b.2.2.2.2.2.2 = 10 then bollardlaw13_awake.f k else none) = some r from H2.out)
        have HQ := Aside0.mk hq
        have H3 := Aside0.mk h3
        clear hq h3 HO H2 HI e1 b0 bi
        obtain ⟨Ap, cp, ep⟩ := Kd.R_slice S1.out.2.1
        obtain ⟨Ag, cg, eg⟩ := Kd.R_slice S1.out.2.2.1
        subst ep eg
        have T0 := Aside0.mk (show Rw2 w wr Ap cp p Ag g from ⟨S1.out.1, (Kd.R_reads' S1.out.2.1).2, (Kd.R_reads' S1.out.2.2.1).2.2⟩)
        have GM := Aside0.mk (Kd.R_reads' S1.out.2.2.1).2.2.2.1
        clear S1
        go_wp2_with fail
        go_loopg [3, 8] (g.length + 1) (fun kq v3 v8 w' => ∃ (A3 : Option Addr) (c3 : Nat) (p : List Int) (j : Int), v3 = .slice A3 p.length c3 ∧ v8 = .int .i64 j ∧ Aside0 (0 ≤ j ∧ j ≤ (g.length : Int) ∧ kq + j.toNat = g.length + 1) ∧ Aside0 (rw2 k p (g.drop j.toNat) = some q) ∧ Aside0 (Rw2 w w' A3 c3 p Ag g))
        case atStart => exact ⟨Ap, cp, p, 0, rfl, rfl, ⟨by omega, by omega, by omega⟩, HQ, T0⟩
        case round =>
          clear HQ T0
          obtain ⟨A3, c3, p, j, rfl, rfl, HI, HO, S1⟩ := hrel
          have b0 := HI.out.1
          by_cases e1 : j < (g.length : Int)
          · have bi : j < 9223372036854775807 := by have := GM.out; omega
            have d1 : decide (j < (g.length : Int)) = true := decide_eq_true e1
            have p1 := eq_true e1
            have p0 := eq_true b0
            have HD := HO.out
            rw [rwb_drop b0 e1] at HD
            unfold rw2 at HD
            obtain ⟨x, hx⟩ : ∃ x, x = rd_T24 g j := ⟨_, rfl⟩
            rw [← hx] at HD
            have HX := Aside0.mk hx
            obtain ⟨⟨b1, b2, b3, b4, b5, b6, b7⟩, hb, hd⟩ := Option.bind_eq_some_iff.mp HD
            by_cases c2 : b7 = 0 ∧ 1 ≤ b6 ∧ b6 ≤ (p.length : Int)
            case neg => rw [if_neg c2] at hd; cases hd
            rw [if_pos c2] at hd
            obtain ⟨s, hs, he⟩ := Option.bind_eq_some_iff.mp hd
            have HB := Aside0.mk hb
            have HS := Aside0.mk hs
            cases s with
            | false => rw [if_neg (by decide)] at he; cases he
            | true =>
              rw [if_pos rfl] at he
              have HO2 : Aside0 (rw2 k (p.drop b6.toNat) (g.drop (j + 1).toNat) = some q) := ⟨he⟩
              obtain ⟨rfl, c3_, c4_⟩ := c2
              have C3 := Aside0.mk (And.intro c3_ c4_)
              have d2 : decide (b6 < 1) = false := decide_eq_false (by omega)
              have d3 : decide ((p.length : Int) < b6) = false := decide_eq_false (by omega)
              have E1 := Aside0.mk e1
              clear HD hb hd hs he HO hx c3_ c4_ e1
              go_wp2_with fail
              refine (batch_Decode.calls k A3 c3 p b1 b2 b3 b4 b5 b6 0 _ S1.out.2.1.2 S1.out.2.1.1 HB.out).mono ?_
              rintro e w2 ⟨v1, rfl, ho, hb⟩
              obtain ⟨A5, c5, e5⟩ := Kd.R_slice ho
              subst e5
              have S2 := Aside0.mk (And.intro (heap_alloc_new w2 (.cells #[.int .i64 b1, .int .i64 b2, .int .i64 b3, .int .i64 b4, .slice A5 b5.length c5] 24)) (And.intro (Kd.R_reads' (Kd.R_alloc ho (.cells #[.int .i64 b1, .int .i64 b2, .int .i64 b3, .int .i64 b4, .slice A5 b5.length c5] 24))).2 (S1.out.below (below_alloc hb (.cells #[.int .i64 b1, .int .i64 b2, .int .i64 b3, .int .i64 b4, .slice A5 b5.length c5] 24)))))
              clear hb ho S1
              go_wp2_with fail
              generalize w2.alloc (.cells #[.int .i64 b1, .int .i64 b2, .int .i64 b3, .int .i64 b4, .slice A5 b5.length c5] 24) = W3 at S2 ⊢
              obtain ⟨ag, A4, c4, rfl, y0, l4, g4⟩ := at_G S2.out.2.2.2.2 j b0 E1.out
              rw [← HX.out] at y0 l4 g4
              have Y := Aside0.mk y0
              have L4 := Aside0.mk l4
              have G4 := Aside0.mk g4
              clear y0 l4 g4
              refine start_ (n := 21) (S := fun w' => Below W3.heap.size W3 w') (ds := []) #[false, false, false, false, false, false, false, false, false, false, false, false, false, false, false, false, false, false, false, false, false] (by kernel_rfl) rfl rfl (below_drew1 (Below.refl _ _)) (fun hHeld => ?_)
              generalize W3.drew = y4 at hHeld ⊢
              refine pure_ (i := 0) (N := (some 65)) (v := ?_) (a' := ?_) #[true, false, false, false, false, false, false, false, false, false, false, false, false, false, false, false, false, false, false, false, false] rfl rfl (by kernel_rfl) (fun _ _ _ h => h) (Or.inl ⟨by rfl, ?_⟩) ?_ ?_
              rotate_left
              · intro w'
                go_simp
                with_reducible rfl
              rotate_left
              · simp only [Act.put, List.setIfInBounds_toArray, List.set_cons_zero, List.set_cons_succ, i64_w, i32_w]
                rfl
              refine pure_ (i := 1) (N := (some 66)) (v := ?_) (a' := ?_) #[true, true, false, false, false, false, false, false, false, false, false, false, false, false, false, false, false, false, false, false, false] rfl rfl (by kernel_rfl) (fun _ _ _ h => h) (Or.inl ⟨by rfl, ?_⟩) ?_ ?_
              rotate_left
              · intro w'
                go_simp
                with_reducible rfl
              rotate_left
              · simp only [Act.put, List.setIfInBounds_toArray, List.set_cons_zero, List.set_cons_succ, i64_w, i32_w]
                rfl
              refine pure_ (i := 2) (N := (some 67)) (v := ?_) (a' := ?_) #[true, true, true, false, false, false, false, false, false, false, false, false, false, false, false, false, false, false, false, false, false] rfl rfl (by kernel_rfl) (fun _ _ _ h => h) (Or.inl ⟨by rfl, ?_⟩) ?_ ?_
              rotate_left
              · intro w'
                go_simp
                with_reducible rfl
              rotate_left
              · simp only [Act.put, List.setIfInBounds_toArray, List.set_cons_zero, List.set_cons_succ, i64_w, i32_w]
                rfl
              refine pure_ (i := 3) (N := (some 68)) (v := ?_) (a' := ?_) #[true, true, true, true, false, false, false, false, false, false, false, false, false, false, false, false, false, false, false, false, false] rfl rfl (by kernel_rfl) (fun _ _ _ h => h) (Or.inl ⟨by rfl, ?_⟩) ?_ ?_
              rotate_left
              · intro w'
                go_simp
                with_reducible rfl
              rotate_left
              · simp only [Act.put, List.setIfInBounds_toArray, List.set_cons_zero, List.set_cons_succ, i64_w, i32_w]
                rfl
              refine pure_ (i := 4) (N := (some 69)) (v := ?_) (a' := ?_) #[true, true, true, true, true, false, false, false, false, false, false, false, false, false, false, false, false, false, false, false, false] rfl rfl (by kernel_rfl) (fun _ _ _ h => h) (Or.inl ⟨by rfl, ?_⟩) ?_ ?_
              rotate_left
              · intro w'
                go_simp
                with_reducible rfl
              rotate_left
              · simp only [Act.put, List.setIfInBounds_toArray, List.set_cons_zero, List.set_cons_succ, i64_w, i32_w]
                rfl
              refine pure_ (i := 5) (N := (some 70)) (v := ?_) (a' := ?_) #[true, true, true, true, true, true, false, false, false, false, false, false, false, false, false, false, false, false, false, false, false] rfl rfl (by kernel_rfl) (fun _ _ _ h => h) (Or.inl ⟨by rfl, ?_⟩) ?_ ?_
              rotate_left
              · intro w'
                go_simp
                with_reducible rfl
              rotate_left
              · simp only [Act.put, List.setIfInBounds_toArray, List.set_cons_zero, List.set_cons_succ, i64_w, i32_w]
                rfl
              refine pure_ (i := 6) (N := (some 71)) (v := ?_) (a' := ?_) #[true, true, true, true, true, true, true, false, false, false, false, false, false, false, false, false, false, false, false, false, false] rfl rfl (by kernel_rfl) (fun _ _ _ h => h) (Or.inl ⟨by rfl, ?_⟩) ?_ ?_
              rotate_left
              · intro w'
                go_simp
                with_reducible rfl
              rotate_left
              · simp only [Act.put, List.setIfInBounds_toArray, List.set_cons_zero, List.set_cons_succ, i64_w, i32_w]
                rfl
              refine pure_ (i := 7) (N := (some 72)) (v := ?_) (a' := ?_) #[true, true, true, true, true, true, true, true, false, false, false, false, false, false, false, false, false, false, false, false, false] rfl rfl (by kernel_rfl) (fun _ _ _ h => h) (Or.inl ⟨by rfl, ?_⟩) ?_ ?_
              rotate_left
              · intro w'
                go_simp
                with_reducible rfl
              rotate_left
              · simp only [Act.put, List.setIfInBounds_toArray, List.set_cons_zero, List.set_cons_succ, i64_w, i32_w]
                rfl
              refine pure_ (i := 8) (N := (some 73)) (v := ?_) (a' := ?_) #[true, true, true, true, true, true, true, true, true, false, false, false, false, false, false, false, false, false, false, false, false] rfl rfl (by kernel_rfl) (fun _ _ _ h => h) (Or.inl ⟨by rfl, ?_⟩) ?_ ?_
              rotate_left
              · intro w'
                go_simp
                with_reducible rfl
              rotate_left
              · simp only [Act.put, List.setIfInBounds_toArray, List.set_cons_zero, List.set_cons_succ, i64_w, i32_w]
                rfl
              refine pure_ (i := 9) (N := (some 74)) (v := ?_) (a' := ?_) #[true, true, true, true, true, true, true, true, true, true, false, false, false, false, false, false, false, false, false, false, false] rfl rfl (by kernel_rfl) (fun _ _ _ h => h) (Or.inl ⟨by rfl, ?_⟩) ?_ ?_
              rotate_left
              · intro w'
                go_simp
                with_reducible rfl
              rotate_left
              · simp only [Act.put, List.setIfInBounds_toArray, List.set_cons_zero, List.set_cons_succ, i64_w, i32_w]
                rfl
              refine pure_ (i := 10) (N := (some 75)) (v := ?_) (a' := ?_) #[true, true, true, true, true, true, true, true, true, true, true, false, false, false, false, false, false, false, false, false, false] rfl rfl (by kernel_rfl) (fun _ _ _ h => h) (Or.inl ⟨by rfl, ?_⟩) ?_ ?_
              rotate_left
              · intro w'
                go_simp
                with_reducible rfl
              rotate_left
              · simp only [Act.put, List.setIfInBounds_toArray, List.set_cons_zero, List.set_cons_succ, i64_w, i32_w]
                rfl
              refine pure_ (i := 11) (N := (some 76)) (v := ?_) (a' := ?_) #[true, true, true, true, true, true, true, true, true, true, true, true, false, false, false, false, false, false, false, false, false] rfl rfl (by kernel_rfl) (fun _ _ _ h => h) (Or.inl ⟨by rfl, ?_⟩) ?_ ?_
              rotate_left
              · intro w'
                go_simp
                with_reducible rfl
              rotate_left
              · simp only [Act.put, List.setIfInBounds_toArray, List.set_cons_zero, List.set_cons_succ, i64_w, i32_w]
                rfl
              refine pure_ (i := 12) (N := (some 77)) (v := ?_) (a' := ?_) #[true, true, true, true, true, true, true, true, true, true, true, true, true, false, false, false, false, false, false, false, false] rfl rfl (by kernel_rfl) (fun _ _ _ h => h) (Or.inl ⟨by rfl, ?_⟩) ?_ ?_
              rotate_left
              · intro w'
                go_simp
                with_reducible rfl
              rotate_left
              · simp only [Act.put, List.setIfInBounds_toArray, List.set_cons_zero, List.set_cons_succ, i64_w, i32_w]
                rfl
              refine take_ (i := 13) (N := (some 78)) (v := ?_) (a' := ?_) #[true, true, true, true, true, true, true, true, true, true, true, true, true, true, false, false, false, false, false, false, false] rfl rfl (by kernel_rfl) (fun _ _ _ h => h) (Or.inl ⟨by rfl, ?_⟩) hHeld ?_ ?_
              rotate_left
              · rintro w' s0
                obtain ⟨a0, a1, a2, a3, a4⟩ := rw_blk (blk_below S2.out.1 s0)
                go_simp
                with_reducible rfl
              rotate_left
              · simp only [Act.put, List.setIfInBounds_toArray, List.set_cons_zero, List.set_cons_succ, i64_w, i32_w]
                rfl
              refine pure_ (i := 14) (N := (some 79)) (v := ?_) (a' := ?_) #[true, true, true, true, true, true, true, true, true, true, true, true, true, true, true, false, false, false, false, false, false] rfl rfl (by kernel_rfl) (fun _ _ _ h => h) (Or.inl ⟨by rfl, ?_⟩) ?_ ?_
              rotate_left
              · intro w'
                go_simp
                with_reducible rfl
              rotate_left
              · simp only [Act.put, List.setIfInBounds_toArray, List.set_cons_zero, List.set_cons_succ, i64_w, i32_w]
                rfl
              refine pure_ (i := 15) (N := (some 80)) (v := ?_) (a' := ?_) #[true, true, true, true, true, true, true, true, true, true, true, true, true, true, true, true, false, false, false, false, false] rfl rfl (by kernel_rfl) (fun _ _ _ h => h) (Or.inl ⟨by rfl, ?_⟩) ?_ ?_
              rotate_left
              · intro w'
                go_simp
                with_reducible rfl
              rotate_left
              · simp only [Act.put, List.setIfInBounds_toArray, List.set_cons_zero, List.set_cons_succ, i64_w, i32_w]
                rfl
              refine pure_ (i := 16) (N := (some 81)) (v := ?_) (a' := ?_) #[true, true, true, true, true, true, true, true, true, true, true, true, true, true, true, true, true, false, false, false, false] rfl rfl (by kernel_rfl) (fun _ _ _ h => h) (Or.inl ⟨by rfl, ?_⟩) ?_ ?_
              rotate_left
              · intro w'
                go_simp
                with_reducible rfl
              rotate_left
              · simp only [Act.put, List.setIfInBounds_toArray, List.set_cons_zero, List.set_cons_succ, i64_w, i32_w]
                rfl
              refine take_ (i := 17) (N := (some 82)) (v := ?_) (a' := ?_) #[true, true, true, true, true, true, true, true, true, true, true, true, true, true, true, true, true, true, false, false, false] rfl rfl (by kernel_rfl) (fun _ _ _ h => h) (Or.inl ⟨by rfl, ?_⟩) hHeld ?_ ?_
              rotate_left
              · rintro w' s0
                obtain ⟨a0, a1, a2, a3, a4⟩ := rw_cells s0 Y.out
                go_simp
                with_reducible rfl
              rotate_left
              · simp only [Act.put, List.setIfInBounds_toArray, List.set_cons_zero, List.set_cons_succ, i64_w, i32_w]
                rfl
              refine one_ (i := 18) (N := (some 83)) #[true, true, true, true, true, true, true, true, true, true, true, true, true, true, true, true, true, true, true, false, false] rfl rfl (by kernel_rfl) (by decide) (fun K hK => ?_)
              refine goes_ Try.func20 (by kernel_rfl) rfl #[.agg #[.int .i64 b1, .int .i64 b2, .int .i64 b3, .int .i64 b4, .slice A5 b5.length c5], .agg #[.int .i64 x.f0, .int .i64 x.f1, .int .i64 x.f2, .int .i64 x.f3, .slice A4 x.f4.length c4]] (by rfl) rfl rfl (by (try simp only [List.map_toArray, List.map_cons, List.map_nil]); first | done | rfl) ?_
              refine (bollardlaw13_same.calls k b1 b2 b3 b4 A5 c5 b5 x.f0 x.f1 x.f2 x.f3 A4 c4 x.f4 true _ (Kd.C_below S2.out.2.1.2 hHeld) S2.out.2.1.1 (Kd.C_below (Kd.C_below G4.out S2.out.2.2.1) hHeld) L4.out HS.out).mono ?_
              rintro e w5 ⟨rfl, hb⟩
              refine ⟨_, rfl, ?_⟩
              have hB5 := below_step hHeld hb
              have S3 := Aside0.mk (S2.out.2.2.below hB5)
              clear hb hHeld
              refine hK.out _ _ hB5 (fun hHeld => ?_)
              clear hK K
              refine norm_ (a' := ?_) ?_ ?_
              rotate_left
              · show Act.put _ (some 83) _ = _
                simp only [Act.put, List.setIfInBounds_toArray, List.set_cons_zero, List.set_cons_succ, i64_w, i32_w]
                rfl
              refine pure_ (i := 19) (N := (some 84)) (v := ?_) (a' := ?_) #[true, true, true, true, true, true, true, true, true, true, true, true, true, true, true, true, true, true, true, true, false] rfl rfl (by kernel_rfl) (fun _ _ _ h => h) (Or.inl ⟨by rfl, ?_⟩) ?_ ?_
              rotate_left
              · intro w'
                go_simp
                with_reducible rfl
              rotate_left
              · simp only [Act.put, List.setIfInBounds_toArray, List.set_cons_zero, List.set_cons_succ, i64_w, i32_w]
                rfl
              refine pure_ (i := 20) (N := (some 85)) (v := ?_) (a' := ?_) #[true, true, true, true, true, true, true, true, true, true, true, true, true, true, true, true, true, true, true, true, true] rfl rfl (by kernel_rfl) (fun _ _ _ h => h) (Or.inl ⟨by rfl, ?_⟩) ?_ ?_
              rotate_left
              · intro w'
                go_simp
                with_reducible rfl
              rotate_left
              · simp only [Act.put, List.setIfInBounds_toArray, List.set_cons_zero, List.set_cons_succ, i64_w, i32_w]
                rfl
              refine done_ (by kernel_rfl) ?_
              clear hHeld
              clear S2 Y L4 G4 HS
              obtain ⟨jX, hjX, _, hjZ, _⟩ := info_parts info5
              obtain ⟨A6, hcut, hA, hC⟩ := print_drop_of (P := Try.prog) (Value.int .u8) 0 27 5 .i64 Try.underlying27 hjX hjZ A3 c3 p b6 (by have := C3.out; omega) C3.out.2 S3.out.2.1.1
              obtain ⟨p2, hp2⟩ : ∃ x, x = p.drop b6.toNat := ⟨_, rfl⟩
              rw [← hp2] at hcut hA hC
              have T2 := Aside0.mk (show Rw2 w w5 A6 (c3 - b6.toNat) p2 (some ag) g from ⟨S3.out.1, ⟨hC, Kd.C_of_reads (h1 := fun _ => rfl) (hA _ (Kd.reads_of_C S3.out.2.1.2))⟩, S3.out.2.2⟩)
              have HO3 : Aside0 (rw2 k p2 (g.drop (j + 1).toNat) = some q) := ⟨by rw [hp2]; exact HO2.out⟩
              clear hA hC hp2 S3 HO2
              go_wp2_with fail
              go_roundg (g.length + 1 - (j + 1).toNat)
              case measure => have := HI.out; omega
              case rel => exact ⟨A6, c3 - b6.toNat, p2, j + 1, rfl, congrArg (Value.int .i64) (by first | rfl | (have := HI.out.1; unfold wrap64; omega)), ⟨by have := HI.out; omega, by have := E1.out; omega, by have := HI.out; have := E1.out; omega⟩, HO3, T2⟩
          · have d1 : decide (j < (g.length : Int)) = false := decide_eq_false e1
            obtain rfl : p = q := by
              have h_ := HO.out
              rw [List.drop_eq_nil_of_le (by omega)] at h_
              exact Option.some.inj h_
            obtain ⟨⟨b1, b2, b3, b4, b5, b6, b7⟩, hb, hd⟩ := Option.bind_eq_some_iff.mp H3.out
            by_cases c2 : p.length = 0 ∧ b6 = 0 ∧ b7 = 10
            case neg => rw [if_neg c2] at hd; cases hd
            rw [if_pos c2] at hd
            obtain ⟨c2, rfl, rfl⟩ := c2
            have q1 : ((p.length : Int) == 0) = true := by rw [c2]; rfl
            have HA := Aside0.mk hd
            have HB := Aside0.mk hb
            clear hb hd HO HI H3 e1 b0 c2
            go_wp2_with fail
            refine (batch_Decode.calls k A3 c3 p b1 b2 b3 b4 b5 0 10 _ S1.out.2.1.2 S1.out.2.1.1 HB.out).mono ?_
            rintro e w2 ⟨v1, rfl, ho, hb⟩
            obtain ⟨A5, c5, e5⟩ := Kd.R_slice ho
            subst e5
            have S2 := Aside0.mk (S1.out.below (below_alloc hb (.cells #[.int .i64 b1, .int .i64 b2, .int .i64 b3, .int .i64 b4, .slice A5 b5.length c5] 24))).1
            clear hb ho S1
            go_wp2_with fail
            refine (bollardlaw13_awake.calls k r _ HA.out).mono ?_
            rintro e w4 ⟨rfl, hb⟩
            have HB2 := Aside0.mk (below_step S2.out hb)
            clear hb
            go_wp2
            go_ret
            exact ⟨rfl, HB2.out⟩

/-- THE ONE PURE STATEMENT of bollardlaw13_BatchRows: mine. -/
def bollardlaw13_BatchRows.Pure : Prop := ∀ (l0 : List (S24)), (l0.length * 56 ≤ 140737488351232 ∧ ∀ y0 ∈ l0, ((Lit.int .i64 y0.f0).wf = true ∧ ((Lit.int .i64 y0.f1).wf = true ∧ ((Lit.int .i64 y0.f2).wf = true ∧ ((Lit.int .i64 y0.f3).wf = true ∧ (y0.f4.length * 64 ≤ 140737488351232 ∧ ∀ y1 ∈ y0.f4, (True ∧ (y1.f1.size ≤ 140737488351232 ∧ (True ∧ (y1.f3.size ≤ 140737488351232 ∧ ((Lit.int .i64 y1.f4).wf = true ∧ (Lit.int .i64 y1.f5).wf = true))))))))))) → ∃ k, bollardlaw13_BatchRows.f k l0 = some true

end Go.Proofs.Ytgmeellapjimgaa.PBr

/- Plain facts on whole numbers as Go tells them: digits laid over one another, shifts, groups of seven, bytes of a number. No program in sight. -/
namespace Go.Proofs.Ytgmeellapjimgaa.Bp
open Go Go.RowKit Go.Proofs.YtgmeellapjimgaaW.PrintWords Go.Proofs.YtgmeellapjimgaaW.PrintLast Go.Proofs.YtgmeellapjimgaaW.PrintMore
set_option linter.unusedVariables false
set_option linter.unusedSimpArgs false

/-! one byte -/
set_option maxRecDepth 20000 in
theorem nat_or128 : ∀ n, n < 256 → n ||| 128 = n % 128 + 128 := by decide
set_option maxRecDepth 20000 in
theorem nat_and127 : ∀ n, n < 256 → n &&& 127 = n % 128 := by decide
theorem or128 (x : Int) : Go.bits .or .u8 (x % 256) 128 = x % 128 + 128 := by
  rw [u8_or _ _ (by omega) (by omega) (by omega) (by omega)]
  have := nat_or128 (x % 256).toNat (by omega)
  rw [show ((128 : Int)).toNat = 128 from rfl, this]
  omega
theorem and127 {x : Int} (h : 0 ≤ x ∧ x < 256) : Go.bits .and .u8 x 127 = x % 128 := by
  rw [u8_and _ _ (by omega) (by omega) (by omega) (by omega)]
  have := nat_and127 x.toNat (by omega)
  rw [show ((127 : Int)).toNat = 127 from rfl, this]
  omega
theorem u8_and1 {x : Int} (h : 0 ≤ x ∧ x < 256) : Go.bits .and .u8 x 1 = x % 2 := by
  rw [u8_and _ _ (by omega) (by omega) (by omega) (by omega)]
  rw [show ((1 : Int)).toNat = 1 from rfl, Nat.and_one_is_mod]
  omega

/-! words of 64 digits -/
theorem u64_and127 {x : Int} (h : 0 ≤ x ∧ x < 18446744073709551616) : Go.bits .and .u64 x 127 = x % 128 := by
  rw [u64_and _ _ (by omega) (by omega) (by omega) (by omega)]
  have := Nat.and_two_pow_sub_one_eq_mod x.toNat 7
  rw [show ((127 : Int)).toNat = 2 ^ 7 - 1 from rfl, this]
  omega
theorem u64_and1 {x : Int} (h : 0 ≤ x ∧ x < 18446744073709551616) : Go.bits .and .u64 x 1 = x % 2 := by
  rw [u64_and _ _ (by omega) (by omega) (by omega) (by omega)]
  rw [show ((1 : Int)).toNat = 1 from rfl, Nat.and_one_is_mod]
  omega
theorem u64_or128 {x : Int} (h : 0 ≤ x ∧ x < 128) : Go.bits .or .u64 x 128 = x + 128 := by
  rw [u64_or _ _ (by omega) (by omega) (by omega) (by omega)]
  have := nat_or128 x.toNat (by omega)
  rw [show ((128 : Int)).toNat = 128 from rfl, this]
  omega
/-- Digits above those of a smaller number. -/
theorem u64_or_add {v x : Int} (i : Nat) (h0 : 0 ≤ v) (h1 : v < 2 ^ i) (h2 : 0 ≤ x) (h3 : v + x * 2 ^ i < 18446744073709551616) : Go.bits .or .u64 v (x * 2 ^ i) = v + x * 2 ^ i := by
  obtain ⟨a, rfl⟩ := Int.eq_ofNat_of_zero_le h0
  obtain ⟨b, rfl⟩ := Int.eq_ofNat_of_zero_le h2
  have e : ((b : Int) * 2 ^ i) = ((2 ^ i * b : Nat) : Int) := by push_cast; rw [Int.mul_comm]
  rw [e] at h3 ⊢
  have ha : a < 2 ^ i := by exact_mod_cast h1
  rw [u64_or_nat _ _ (by omega) (by omega), Nat.or_comm, ← Nat.two_pow_add_eq_or_of_lt ha b]
  push_cast
  omega
theorem i64_and7 {x : Int} (h : 0 ≤ x) (h2 : x ≤ 9223372036854775807) : Go.bits .and .i64 x 7 = x % 8 := by
  obtain ⟨a, rfl⟩ := Int.eq_ofNat_of_zero_le h
  have e7 : (7 : Int) = ((7 : Nat) : Int) := rfl
  show IntKind.i64.wrap ((BitVec.ofInt 64 (a : Int) &&& BitVec.ofInt 64 (7 : Int)).toNat : Int) = _
  rw [e7, BitVec.ofInt_natCast, BitVec.ofInt_natCast, BitVec.toNat_and, BitVec.toNat_ofNat, BitVec.toNat_ofNat, Nat.mod_eq_of_lt (by omega), Nat.mod_eq_of_lt (by omega)]
  have := Nat.and_two_pow_sub_one_eq_mod a 3
  rw [show (7 : Nat) = 2 ^ 3 - 1 from rfl, this]
  have h8 : a % 2 ^ 3 < 8 := Nat.mod_lt _ (by omega)
  rw [i64_w]
  unfold wrap64
  omega

theorem w64 {x : Int} (h : -9223372036854775808 ≤ x) (h2 : x ≤ 9223372036854775807) : wrap64 x = x := by unfold wrap64; omega
theorem u64_id {x : Int} (h : 0 ≤ x) (h2 : x < 18446744073709551616) : IntKind.u64.wrap x = x := by rw [IntKind.wrap_u64]; omega
theorem up64 (i : Nat) (h : i ≤ 4000000000000000000) : wrap64 ((i : Int) + 1) = ((i + 1 : Nat) : Int) := by unfold wrap64; omega
theorem wf8 {x : Int} (h : (Lit.int .u8 x).wf = true) : 0 ≤ x ∧ x < 256 := by
  simp only [Lit.wf, IntKind.min, IntKind.max, IntKind.signed, IntKind.bits] at h
  simp at h
  omega
theorem wf64 {x : Int} (h : (Lit.int .u64 x).wf = true) : 0 ≤ x ∧ x < 18446744073709551616 := by
  simp only [Lit.wf, IntKind.min, IntKind.max, IntKind.signed, IntKind.bits] at h
  simp at h
  omega
theorem wfi {x : Int} (h : (Lit.int .i64 x).wf = true) : -9223372036854775808 ≤ x ∧ x ≤ 9223372036854775807 := by
  simp only [Lit.wf, IntKind.min, IntKind.max, IntKind.signed, IntKind.bits] at h
  simp at h
  omega
def Bytes (l : List Int) : Prop := ∀ x ∈ l, 0 ≤ x ∧ x < 256
theorem bytes_of {l : List Int} (h : ∀ x ∈ l, (Lit.int .u8 x).wf = true) : Bytes l := fun x hx => wf8 (h x hx)
theorem rd_at {l : List Int} {i : Nat} (h : i < l.length) : rd l (i : Int) = l[i] := by
  unfold rd
  rw [Int.toNat_natCast, List.getD_eq_getElem?_getD, List.getElem?_eq_getElem h]
  rfl
theorem rd_byte {l : List Int} (h : Bytes l) (i : Int) : 0 ≤ rd l i ∧ rd l i < 256 := by
  unfold rd
  rw [List.getD_eq_getElem?_getD]
  cases e : l[i.toNat]? with
  | none => simp
  | some x => exact h x (List.mem_of_getElem? e)
theorem drop_cons {l : List Int} {i : Nat} (h : i < l.length) : l.drop i = rd l (i : Int) :: l.drop (i + 1) := by
  rw [rd_at h, List.drop_eq_getElem_cons h]

/-! groups of seven digits -/
def vr (v : Nat) : List Int := if h : v < 128 then [(v : Int)] else ((v % 128 + 128 : Nat) : Int) :: vr (v / 128)
termination_by v
decreasing_by omega
theorem vr_small {v : Nat} (h : v < 128) : vr v = [(v : Int)] := by rw [vr, dif_pos h]
theorem vr_big {v : Nat} (h : ¬ v < 128) : vr v = ((v % 128 + 128 : Nat) : Int) :: vr (v / 128) := by rw [vr, dif_neg h]

/-- What a group adds. -/
def put7 (v x : Int) (i : Nat) : Int := Go.bits .or .u64 v (shl .u64 (IntKind.u64.wrap (Go.bits .and .u8 x 127)) (wrap64 (7 * (i : Int))))
/-- Bytes read as groups: from the i-th on, v read so far. -/
def unv : List Int → Nat → Int → Int × Int
  | [], _, _ => (0, 0)
  | x :: xs, i, v => if i = 10 ∨ (i = 9 ∧ x > 1) ∨ (0 < i ∧ x = 0) then (0, 0) else if x < 128 then (put7 v x i, (i : Int) + 1) else unv xs (i + 1) (put7 v x i)

theorem put7_add {v x : Int} {i : Nat} (hi : i ≤ 9) (hx : 0 ≤ x ∧ x < 256) (h9 : i = 9 → x % 128 ≤ 1) (h0 : 0 ≤ v) (h1 : v < 128 ^ i) : put7 v x i = v + (x % 128) * 128 ^ i := by
  unfold put7
  rw [and127 hx, u64_id (by omega) (by omega), w64 (by omega) (by omega)]
  unfold shl
  have hb : min (7 * (i : Int)).toNat IntKind.u64.bits = 7 * i := by
    simp only [IntKind.bits]; omega
  rw [hb]
  have hp : (128 : Int) ^ i = 2 ^ (7 * i) := by rw [Int.pow_mul]; rfl
  rw [hp] at h1 ⊢
  have hlt : v + x % 128 * 2 ^ (7 * i) < 18446744073709551616 := by
    have hc : i = 0 ∨ i = 1 ∨ i = 2 ∨ i = 3 ∨ i = 4 ∨ i = 5 ∨ i = 6 ∨ i = 7 ∨ i = 8 ∨ i = 9 := by omega
    rcases hc with h | h | h | h | h | h | h | h | h | h <;> subst h <;> simp at h1 ⊢ <;> omega
  have hnn : (0 : Int) ≤ x % 128 * 2 ^ (7 * i) := Int.mul_nonneg (by omega) (Int.pow_nonneg (by decide))
  rw [u64_id hnn (by omega)]
  exact u64_or_add (7 * i) h0 h1 (by omega) hlt

end Go.Proofs.Ytgmeellapjimgaa.Bp

/- Numbers of some bytes: plain facts. A number's bytes, greatest first (beL) or as they are laid into a row (lay); what bytes come to (be). -/
namespace Go.Proofs.Ytgmeellapjimgaa.Bp
open Go Go.RowKit Go.Proofs.YtgmeellapjimgaaW.PrintWords Go.Proofs.YtgmeellapjimgaaW.PrintLast Go.Proofs.YtgmeellapjimgaaW.PrintMore
set_option linter.unusedVariables false
set_option linter.unusedSimpArgs false

theorem u64_shl_or {v b : Int} (h0 : 0 ≤ v) (hb : 0 ≤ b ∧ b < 256) (h : v * 256 + b < 18446744073709551616) : Go.bits .or .u64 (v * 256) b = v * 256 + b := by
  obtain ⟨a, rfl⟩ := Int.eq_ofNat_of_zero_le h0
  obtain ⟨c, rfl⟩ := Int.eq_ofNat_of_zero_le hb.1
  have e : ((a : Int) * 256) = ((2 ^ 8 * a : Nat) : Int) := by omega
  rw [e] at h ⊢
  rw [u64_or_nat _ _ (by omega) (by omega), ← Nat.two_pow_add_eq_or_of_lt (show c < 2 ^ 8 from by omega) a]
  omega

/-- The j-th byte of a number, the least one first. -/
def dg (v j : Nat) : Int := ((v / 256 ^ j % 256 : Nat) : Int)
theorem dg_byte (v j : Nat) : 0 ≤ dg v j ∧ dg v j < 256 := by unfold dg; omega
theorem dg_shr (v j : Nat) (hj : j ≤ 7) : (shr .u64 (v : Int) (8 * (j : Int))) % 256 = dg v j := by
  unfold shr dg
  simp only [IntKind.bits]
  rw [show min (8 * (j : Int)).toNat 64 = 8 * j from by omega]
  have hp : (2 : Int) ^ (8 * j) = ((256 ^ j : Nat) : Int) := by rw [Int.pow_mul, Int.natCast_pow]; rfl
  rw [hp, Int.natCast_emod, Int.natCast_ediv]
  rfl

/-- What bytes come to, the greatest first. -/
def be (l : List Int) : Int := l.foldl (fun v b => v * 256 + b) 0
theorem be_from (l : List Int) : ∀ v : Int, l.foldl (fun v b => v * 256 + b) v = v * 256 ^ l.length + be l := by
  induction l with
  | nil => intro v; simp [be]
  | cons b l ih =>
    intro v
    unfold be
    rw [List.foldl_cons, List.foldl_cons, ih, ih (0 * 256 + b), List.length_cons, Int.pow_succ, Int.add_mul, Int.mul_assoc, Int.mul_comm 256, Int.zero_mul, Int.zero_add, Int.add_assoc]
theorem be_nil : be [] = 0 := rfl
theorem be_append (l m : List Int) : be (l ++ m) = be l * 256 ^ m.length + be m := by
  unfold be
  rw [List.foldl_append]
  exact be_from m _
theorem be_snoc (l : List Int) (b : Int) : be (l ++ [b]) = be l * 256 + b := by unfold be; rw [List.foldl_append]; rfl
theorem be_cons (b : Int) (l : List Int) : be (b :: l) = b * 256 ^ l.length + be l := by
  have := be_append [b] l
  simpa [be] using this
theorem be_range (l : List Int) (h : Bytes l) : 0 ≤ be l ∧ be l < 256 ^ l.length := by
  induction l with
  | nil => exact ⟨by rw [be_nil]; omega, by rw [be_nil]; simp⟩
  | cons b l ih =>
    have h1 := ih (fun x hx => h x (by simp [hx]))
    have h2 := h b (by simp)
    have hp : (0 : Int) < 256 ^ l.length := Int.pow_pos (by decide)
    rw [be_cons, List.length_cons, Int.pow_succ, Int.mul_comm _ 256]
    have l1 : 0 * 256 ^ l.length ≤ b * 256 ^ l.length := Int.mul_le_mul_of_nonneg_right (by omega) (by omega)
    have l2 : b * 256 ^ l.length ≤ 255 * 256 ^ l.length := Int.mul_le_mul_of_nonneg_right (by omega) (by omega)
    constructor <;> omega
theorem pow256_le {a b : Nat} (h : a ≤ b) : (256 : Int) ^ a ≤ 256 ^ b := by
  obtain ⟨c, rfl⟩ := Nat.exists_eq_add_of_le h
  rw [Int.pow_add]
  have h1 : (0 : Int) < 256 ^ a := Int.pow_pos (by decide)
  have h2 : (0 : Int) < 256 ^ c := Int.pow_pos (by decide)
  have : (256 : Int) ^ a * 1 ≤ 256 ^ a * 256 ^ c := Int.mul_le_mul_of_nonneg_left (by omega) (by omega)
  omega

/-- A number's bytes, the greatest first. -/
def beL (v : Nat) : Nat → List Int
  | 0 => []
  | n + 1 => dg v n :: beL v n
theorem beL_length (v n : Nat) : (beL v n).length = n := by
  induction n with
  | zero => rfl
  | succ n ih => rw [beL, List.length_cons, ih]
theorem beL_bytes (v n : Nat) : Bytes (beL v n) := by
  induction n with
  | zero => intro x hx; simp [beL] at hx
  | succ n ih =>
    intro x hx
    rcases List.mem_cons.1 hx with rfl | hx
    · exact dg_byte v n
    · exact ih x hx
theorem beL_get (v n p : Nat) (h : p < n) : (beL v n)[p]? = some (dg v (n - 1 - p)) := by
  induction n generalizing p with
  | zero => omega
  | succ n ih =>
    rw [beL]
    cases p with
    | zero => simp
    | succ p => rw [List.getElem?_cons_succ, ih p (by omega), show n - 1 - p = n + 1 - 1 - (p + 1) from by omega]
theorem be_beL (v n : Nat) : be (beL v n) = ((v % 256 ^ n : Nat) : Int) := by
  induction n with
  | zero => simp [beL, be_nil, Nat.mod_one]
  | succ n ih =>
    rw [beL, show dg v n :: beL v n = [dg v n] ++ beL v n from rfl, be_append, ih, beL_length, Nat.pow_succ, Nat.mod_mul]
    unfold dg
    have : be [((v / 256 ^ n % 256 : Nat) : Int)] = ((v / 256 ^ n % 256 : Nat) : Int) := by simp [be]
    rw [this, Int.natCast_add, Int.natCast_mul, Int.natCast_pow, Int.mul_comm, Int.add_comm]
    rfl

/-- A row with n bytes of it, from place a on, laid anew. -/
def lay (l : List Int) (a n : Nat) (d : Nat → Int) : List Int := l.take a ++ ((List.range n).map d ++ l.drop (a + n))
theorem lay_length (l : List Int) (a n : Nat) (d : Nat → Int) (h : a + n ≤ l.length) : (lay l a n d).length = l.length := by
  unfold lay
  simp
  omega
theorem lay_get (l : List Int) (a n : Nat) (d : Nat → Int) (h : a + n ≤ l.length) (p : Nat) : (lay l a n d)[p]? = if a ≤ p ∧ p < a + n then some (d (p - a)) else l[p]? := by
  unfold lay
  by_cases h1 : p < a
  · rw [List.getElem?_append_left (by simp; omega), if_neg (by omega), List.getElem?_take_of_lt h1]
  · rw [List.getElem?_append_right (by simp; omega), List.length_take, Nat.min_eq_left (by omega)]
    by_cases h2 : p < a + n
    · rw [List.getElem?_append_left (by simp; omega), if_pos (by omega), List.getElem?_map, List.getElem?_range (by omega)]
      rfl
    · rw [List.getElem?_append_right (by simp; omega), if_neg (by omega), List.getElem?_drop, List.length_map, List.length_range]
      congr 1
      omega
theorem lay_eq {l m : List Int} {a n : Nat} {d : Nat → Int} (h : a + n ≤ l.length) (hm : ∀ p, m[p]? = if a ≤ p ∧ p < a + n then some (d (p - a)) else l[p]?) : m = lay l a n d := by
  apply List.ext_getElem?
  intro p
  rw [hm p, lay_get l a n d h p]
theorem lay_bytes (l : List Int) (a n : Nat) (d : Nat → Int) (hl : Bytes l) (hd : ∀ p, 0 ≤ d p ∧ d p < 256) : Bytes (lay l a n d) := by
  intro x hx
  unfold lay at hx
  rcases List.mem_append.1 hx with hx | hx
  · exact hl x (List.mem_of_mem_take hx)
  · rcases List.mem_append.1 hx with hx | hx
    · obtain ⟨p, _, rfl⟩ := List.mem_map.1 hx
      exact hd p
    · exact hl x (List.mem_of_mem_drop hx)
/-- What is read there. -/
theorem lay_seg (l : List Int) (a n : Nat) (d : Nat → Int) (h : a + n ≤ l.length) : ((lay l a n d).drop a).take n = (List.range n).map d := by
  unfold lay
  rw [List.drop_append_of_le_length (by simp; omega), List.drop_eq_nil_of_le (by simp; omega), List.nil_append, List.take_append_of_le_length (by simp), List.take_of_length_le (by simp)]
/-- Which byte of a number stands at which place. -/
def wh (n : Nat) (big : Bool) (p : Nat) : Nat := if big = true then n - 1 - p else p
theorem range_big (v n : Nat) : (List.range n).map (fun p => dg v (wh n true p)) = beL v n := by
  apply List.ext_getElem?
  intro p
  by_cases h : p < n
  · rw [beL_get v n p h]
    simp [h, wh]
  · rw [List.getElem?_eq_none (by simp; omega), List.getElem?_eq_none (by rw [beL_length]; omega)]
theorem range_little (v n : Nat) : (List.range n).map (fun p => dg v (wh n false p)) = (beL v n).reverse := by
  apply List.ext_getElem?
  intro p
  by_cases h : p < n
  · rw [List.getElem?_reverse (by rw [beL_length]; omega), beL_length, beL_get v n _ (by omega)]
    simp [h, wh]
    congr 1
    omega
  · rw [List.getElem?_eq_none (by simp; omega), List.getElem?_eq_none (by rw [List.length_reverse, beL_length]; omega)]
/-- A number that is read: of so many bytes from place a on, the greatest first or last. -/
def get (l : List Int) (a n : Nat) (big : Bool) : Int := be (if big = true then (l.drop a).take n else ((l.drop a).take n).reverse)
theorem seg_bytes {l : List Int} (h : Bytes l) (a n : Nat) : Bytes ((l.drop a).take n) := fun x hx => h x (List.mem_of_mem_drop (List.mem_of_mem_take hx))
theorem rev_bytes {l : List Int} (h : Bytes l) : Bytes l.reverse := fun x hx => h x (List.mem_reverse.1 hx)
theorem get_range {l : List Int} (h : Bytes l) (a n : Nat) (big : Bool) : 0 ≤ get l a n big ∧ get l a n big < 256 ^ n := by
  unfold get
  have hb := seg_bytes h a n
  have hl : ((l.drop a).take n).length ≤ n := by simp; omega
  have := pow256_le hl
  split
  · have := be_range _ hb
    omega
  · have := be_range _ (rev_bytes hb)
    rw [List.length_reverse] at this
    omega
theorem get_lay (l : List Int) (a n v : Nat) (big : Bool) (h : a + n ≤ l.length) : get (lay l a n (fun p => dg v (wh n big p))) a n big = ((v % 256 ^ n : Nat) : Int) := by
  unfold get
  rw [lay_seg l a n _ h]
  cases big with
  | true => rw [if_pos rfl, range_big, be_beL]
  | false => rw [if_neg (by simp), range_little, List.reverse_reverse, be_beL]

end Go.Proofs.Ytgmeellapjimgaa.Bp

/- What the program's Get and Put come to, as printed. -/
namespace Go.Proofs.Ytgmeellapjimgaa.Bp
open Go Go.RowKit Go.Proofs.Ytgmeellapjimgaa.PBr Go.Proofs.YtgmeellapjimgaaW.PrintWords Go.Proofs.YtgmeellapjimgaaW.PrintLast Go.Proofs.YtgmeellapjimgaaW.PrintMore
set_option linter.unusedVariables false
set_option linter.unusedSimpArgs false

theorem may_f (l : List Int) (a n : Int) (hl : l.length ≤ 4000000000000000000) : bits_may.f l a n = some (decide (1 ≤ n ∧ n ≤ 8 ∧ 0 ≤ a ∧ a ≤ (l.length : Int) - n)) := by
  unfold bits_may.f
  by_cases c1 : n ≥ 1
  · rw [if_pos c1]
    by_cases c2 : n ≤ 8
    · rw [if_pos c2]
      by_cases c3 : a ≥ 0
      · rw [if_pos c3, w64 (by omega) (by omega)]
        congr 1
        rw [Bool.eq_iff_iff]
        simp
        omega
      · rw [if_neg c3]
        simp
        omega
    · rw [if_neg c2]
      simp
      omega
  · rw [if_neg c1]
    simp
    omega

theorem take_step {l : List Int} {i : Nat} {x : Int} (h : l[i]? = some x) : l.take (i + 1) = l.take i ++ [x] := by
  rw [List.take_add_one, h]
  rfl

theorem clone_f (l : List Int) (hl : l.length ≤ 140737488351232) : slices_Clone_byte_byte.f l = some l := by
  unfold slices_Clone_byte_byte.f
  simp only [Option.bind_some, List.nil_append, List.length_nil, Nat.zero_add]
  rw [if_pos (by omega)]

theorem put_l0 (l : List Int) (hl : l.length ≤ 140737488351232) (a n v : Nat) (big : Bool) (h : a + n ≤ l.length) (h8 : n ≤ 8) (m : Nat) : ∀ (k i : Nat) (c : List Int), i + m = n → m + 1 ≤ k →
    (∀ p, c[p]? = if (if big = true then a + n ≤ p + i else a ≤ p) ∧ (if big = true then p < a + n else p < a + i) then some (dg v (wh n big (p - a))) else l[p]?) → c.length = l.length →
    bits_Put.l0 k (a : Int) (n : Int) big (v : Int) c (n : Int) (i : Int) = some (lay l a n (fun p => dg v (wh n big p)), true) := by
  induction m with
  | zero =>
    intro k i c hi hk hc hcl
    obtain ⟨K, rfl⟩ : ∃ K, k = K + 1 := ⟨k - 1, by omega⟩
    simp only [bits_Put.l0]
    rw [if_neg (by omega)]
    congr 2
    refine lay_eq h (fun p => ?_)
    rw [hc p]
    have e : ((if big = true then a + n ≤ p + i else a ≤ p) ∧ (if big = true then p < a + n else p < a + i)) ↔ (a ≤ p ∧ p < a + n) := by
      cases big with
      | true => simp only [if_true]; omega
      | false => simp only [Bool.false_eq_true, if_false]; omega
    simp only [e]
  | succ m ih =>
    intro k i c hi hk hc hcl
    obtain ⟨K, rfl⟩ : ∃ K, k = K + 1 := ⟨k - 1, by omega⟩
    simp only [bits_Put.l0]
    rw [if_pos (by omega), w64 (x := 8 * (i : Int)) (by omega) (by omega), dg_shr v i (by omega), up64 i (by omega)]
    have go : ∀ q : Nat, q = a + (if big = true then n - 1 - i else i) → ∀ p, (c.set q (dg v i))[p]? = if (if big = true then a + n ≤ p + (i + 1) else a ≤ p) ∧ (if big = true then p < a + n else p < a + (i + 1)) then some (dg v (wh n big (p - a))) else l[p]? := by
      intro q hq p
      rw [List.getElem?_set]
      by_cases e : q = p
      · subst e
        rw [if_pos rfl, if_pos (by rw [hcl]; cases big <;> simp at hq <;> omega)]
        cases big with
        | true =>
          simp only [if_true] at hq ⊢
          rw [if_pos (by omega)]
          unfold wh
          rw [if_pos rfl, show n - 1 - (q - a) = i from by omega]
        | false =>
          simp only [Bool.false_eq_true, if_false] at hq ⊢
          rw [if_pos (by omega)]
          unfold wh
          rw [if_neg (by simp), show q - a = i from by omega]
      · rw [if_neg e, hc p]
        cases big with
        | true =>
          simp only [if_true] at hq ⊢
          by_cases d : a + n ≤ p + i ∧ p < a + n
          · rw [if_pos d, if_pos (by omega)]
          · rw [if_neg d, if_neg (by omega)]
        | false =>
          simp only [Bool.false_eq_true, if_false] at hq ⊢
          by_cases d : a ≤ p ∧ p < a + i
          · rw [if_pos d, if_pos (by omega)]
          · rw [if_neg d, if_neg (by omega)]
    cases big with
    | true =>
      rw [if_pos (by trivial), if_pos (by omega), w64 (x := (n : Int) - 1) (by omega) (by omega), w64 (x := (n : Int) - 1 - (i : Int)) (by omega) (by omega), w64 (by omega) (by omega), if_pos (by omega), if_pos (by omega)]
      refine ih K (i + 1) _ (by omega) (by omega) (go _ ?_) (by rw [List.length_set]; exact hcl)
      rw [if_pos rfl]; omega
    | false =>
      rw [if_neg (by simp), if_pos (by omega), w64 (by omega) (by omega), if_pos (by omega), if_pos (by omega)]
      refine ih K (i + 1) _ (by omega) (by omega) (go _ ?_) (by rw [List.length_set]; exact hcl)
      rw [if_neg (by simp)]; omega

theorem put_f (l : List Int) (hl : l.length ≤ 140737488351232) (a n v : Nat) (big : Bool) (h1 : 1 ≤ n) (h8 : n ≤ 8) (h : a + n ≤ l.length) (k : Nat) (hk : 9 ≤ k) : bits_Put.f k l (a : Int) (n : Int) big (v : Int) = some (lay l a n (fun p => dg v (wh n big p)), true) := by
  unfold bits_Put.f
  rw [may_f l _ _ (by omega), decide_eq_true (by omega), clone_f l hl]
  simp only [Option.bind_some]
  rw [if_pos (by trivial)]
  refine put_l0 l hl a n v big h h8 n k 0 l (by omega) (by omega) (fun p => ?_) rfl
  rw [if_neg]
  cases big with
  | true => simp only [if_true]; omega
  | false => simp only [Bool.false_eq_true, if_false]; omega
theorem put_none (l : List Int) (hl : l.length ≤ 4000000000000000000) (a n v : Int) (big : Bool) (h : ¬ (1 ≤ n ∧ n ≤ 8 ∧ 0 ≤ a ∧ a ≤ (l.length : Int) - n)) (k : Nat) : bits_Put.f k l a n big v = some ([], false) := by
  unfold bits_Put.f
  rw [may_f l _ _ hl, decide_eq_false h]
  rfl

end Go.Proofs.Ytgmeellapjimgaa.Bp
