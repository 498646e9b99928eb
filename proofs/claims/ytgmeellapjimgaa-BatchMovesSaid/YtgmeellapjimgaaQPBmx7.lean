-- written by a program of this session (wip/tools/pr.py, over the kit's printer): not by hand
import Derived.Test.YtgmeellapjimgaaQPBmx1
import Derived.Test.YtgmeellapjimgaaQPBmx3
import Derived.Test.YtgmeellapjimgaaQPBmx4
import Derived.Test.YtgmeellapjimgaaQPBmx6
namespace Go.Proofs.Ytgmeellapjimgaa.PBm
open Go.RowKit Go.Proofs.YtgmeellapjimgaaW.PrintWords Go.Proofs.YtgmeellapjimgaaW.PrintLast Go.Proofs.YtgmeellapjimgaaW.PrintMore
attribute [local go_sem] max2_int min2_int max_two min_two max_three min_three max_four min_four   -- for this text's walks alone
set_option linter.unusedVariables false
set_option linter.unusedSimpArgs false

/-! ### batch_Decode -/
def batch_Decode.bad : Option (Int × Int × Int × Int × List S45 × Int × Int) := some (0, 0, 0, 0, [], 0, 10)
def batch_Decode.fin (k : Nat) (l : List Int) (n b s p q : Int) (x : List S45) : Option (Int × Int × Int × Int × List S45 × Int × Int) :=
  (batch_Encode.f k b s p q x).bind fun t => if t.2 = 0 then (bytes_Equal.f t.1 (l.take n.toNat)).bind fun e => if e = true then some (b, s, p, q, x, n, 0) else batch_Decode.bad else batch_Decode.bad
def batch_Decode.l0 : Nat → List Int → Int → Int → Int → Int → Int → Int → Int → List S45 → Option (Int × Int × Int × Int × List S45 × Int × Int)
  | 0, _, _, _, _, _, _, _, _, _ => none
  | k + 1, l, n, first, b, s, p, q, at_, x => if at_ < n then (if 0 ≤ at_ then (record_Decode.f k ((l.take n.toNat).drop at_.toNat) first).bind fun t => (if t.2.2.2.2.2.2.2 = 0 then (if x.length < 2199023255552 then batch_Decode.l0 k l n first b s p q (wrap64 (at_ + t.2.2.2.2.2.2.1)) (x ++ [(⟨t.1, t.2.1, t.2.2.1, t.2.2.2.1, t.2.2.2.2.1, t.2.2.2.2.2.1⟩ : S45)]) else none) else batch_Decode.bad) else none) else batch_Decode.fin k l n b s p q x
def batch_Decode.f (k : Nat) (l : List Int) : Option (Int × Int × Int × Int × List S45 × Int × Int) :=
  if (l.length : Int) < 48 then batch_Decode.bad else (batch_get.f k l 8 4).bind fun m => if 0 ≤ m ∧ m < 4294967296 then (if 12 + m < 48 then batch_Decode.bad else if 12 + m > (l.length : Int) then batch_Decode.bad else if 12 + m > 6000 then batch_Decode.bad else
    (batch_get.f k l 16 8).bind fun p => (batch_get.f k l 24 8).bind fun q => (batch_get.f k l 32 4).bind fun s => (batch_get.f k l 36 4).bind fun c => (batch_get.f k l 40 8).bind fun t => (batch_get.f k l 0 8).bind fun b => batch_Decode.l0 k l (12 + m) t b s p q 48 []) else none
theorem batch_Decode.fin_mono (k : Nat) (l : List Int) (n b s p q : Int) (x : List S45) : LeO (batch_Decode.fin k l n b s p q x) (batch_Decode.fin (k + 1) l n b s p q x) := by
  unfold batch_Decode.fin
  exact LeO.bind (batch_Encode.mono _ _ _ _ _ _) (fun t => LeO.refl _)
theorem batch_Decode.mono_l : ∀ k l n first b s p q at_ x, LeO (batch_Decode.l0 k l n first b s p q at_ x) (batch_Decode.l0 (k + 1) l n first b s p q at_ x)
  | 0 => fun _ _ _ _ _ _ _ _ _ r h => by cases h
  | k + 1 => fun l n first b s p q at_ x => by
    rw [batch_Decode.l0, batch_Decode.l0]
    exact LeO.ite (LeO.ite (LeO.bind (record_Decode.mono _ _ _) (fun t => LeO.ite (LeO.ite (batch_Decode.mono_l k _ _ _ _ _ _ _ _ _) (LeO.refl _)) (LeO.refl _))) (LeO.refl _)) (batch_Decode.fin_mono _ _ _ _ _ _ _ _)
theorem batch_Decode.mono : ∀ a0 k, LeO (batch_Decode.f k a0) (batch_Decode.f (k + 1) a0) := by
  intro l k
  unfold batch_Decode.f
  repeat' first | (with_reducible exact LeO.refl _) | (with_reducible exact batch_get.mono _ _ _ _) | (with_reducible exact batch_Decode.mono_l _ _ _ _ _ _ _ _ _ _) | (with_reducible refine LeO.ite ?_ ?_) | (with_reducible refine LeO.bind ?_ (fun _ => ?_))
/-- Where Decode stands: the result's block, the numbers' block behind it, the records. -/
structure BdSt (w W : World) (b s p q : Int) (u : Value) (v0 v1 v2 v3 v4 : Int) (x : List S45) : Prop where
  bel : Below w.heap.size w W
  bt : W.heap[w.heap.size]? = some (.cells #[.int .i64 b, .int .i64 s, .int .i64 p, .int .i64 q, u] 24 (0, 0))
  vt : W.heap[w.heap.size + 1]? = some (.cells #[.int .i64 v0, .int .i64 v1, .int .i64 v2, .int .i64 v3, .int .i64 v4] 69 (0, 0))
  row : Kd.R k45 45 W w.heap.size (fun _ => True) u x
theorem BdSt.new (w : World) (nd : Nat) : BdSt w (((w.alloc (.cells #[.int .i64 0, .int .i64 0, .int .i64 0, .int .i64 0, .slice none 0 0] 24)).drewN nd).alloc (.cells #[.int .i64 0, .int .i64 0, .int .i64 0, .int .i64 0, .int .i64 0] 69)) 0 0 0 0 (.slice none 0 0) 0 0 0 0 0 [] := by
  refine ⟨below_alloc (pw_below_drewN (below_alloc (Below.refl _ _) _) _) _, blk_alloc (blk_drewN (heap_alloc_new w _) _) _, ?_, Kd.R_nil _ _ _ _ _⟩
  have := heap_alloc_new ((w.alloc (.cells #[.int .i64 0, .int .i64 0, .int .i64 0, .int .i64 0, .slice none 0 0] 24)).drewN nd) (.cells #[.int .i64 0, .int .i64 0, .int .i64 0, .int .i64 0, .int .i64 0] 69)
  simpa using this
section
variable {w W W2 : World} {b s p q : Int} {u : Value} {v0 v1 v2 v3 v4 : Int} {x : List S45}
theorem BdSt.below (h : BdSt w W b s p q u v0 v1 v2 v3 v4 x) (hb : Below W.heap.size W W2) : BdSt w W2 b s p q u v0 v1 v2 v3 v4 x := ⟨below_step h.bel hb, blk_below h.bt hb, blk_below h.vt hb, Kd.R_below h.row hb⟩
theorem BdSt.drewN (h : BdSt w W b s p q u v0 v1 v2 v3 v4 x) (m : Nat) : BdSt w (W.drewN m) b s p q u v0 v1 v2 v3 v4 x := h.below (pw_below_drewN (Below.refl _ _) m)
theorem BdSt.drew (h : BdSt w W b s p q u v0 v1 v2 v3 v4 x) : BdSt w W.drew b s p q u v0 v1 v2 v3 v4 x := h.below (below_drew1 (Below.refl _ _))
theorem BdSt.alloc (h : BdSt w W b s p q u v0 v1 v2 v3 v4 x) (o : Obj) : BdSt w (W.alloc o) b s p q u v0 v1 v2 v3 v4 x := h.below (below_alloc (Below.refl _ _) o)
theorem BdSt.setv0 (h : BdSt w W b s p q u v0 v1 v2 v3 v4 x) (y : Int) : BdSt w (W.setCell ⟨w.heap.size + 1, 0, none⟩ (.int .i64 y)) b s p q u y v1 v2 v3 v4 x := ⟨below_set h.bel (Nat.le_succ _), blk_far h.bt (by simp) _, by simpa using blk_set h.vt 0 (.int .i64 y), Kd.R_set h.row h.vt (by decide) 0 _⟩
theorem BdSt.setv1 (h : BdSt w W b s p q u v0 v1 v2 v3 v4 x) (y : Int) : BdSt w (W.setCell ⟨w.heap.size + 1, 1, none⟩ (.int .i64 y)) b s p q u v0 y v2 v3 v4 x := ⟨below_set h.bel (Nat.le_succ _), blk_far h.bt (by simp) _, by simpa using blk_set h.vt 1 (.int .i64 y), Kd.R_set h.row h.vt (by decide) 1 _⟩
theorem BdSt.setv2 (h : BdSt w W b s p q u v0 v1 v2 v3 v4 x) (y : Int) : BdSt w (W.setCell ⟨w.heap.size + 1, 2, none⟩ (.int .i64 y)) b s p q u v0 v1 y v3 v4 x := ⟨below_set h.bel (Nat.le_succ _), blk_far h.bt (by simp) _, by simpa using blk_set h.vt 2 (.int .i64 y), Kd.R_set h.row h.vt (by decide) 2 _⟩
theorem BdSt.setv3 (h : BdSt w W b s p q u v0 v1 v2 v3 v4 x) (y : Int) : BdSt w (W.setCell ⟨w.heap.size + 1, 3, none⟩ (.int .i64 y)) b s p q u v0 v1 v2 y v4 x := ⟨below_set h.bel (Nat.le_succ _), blk_far h.bt (by simp) _, by simpa using blk_set h.vt 3 (.int .i64 y), Kd.R_set h.row h.vt (by decide) 3 _⟩
theorem BdSt.setv4 (h : BdSt w W b s p q u v0 v1 v2 v3 v4 x) (y : Int) : BdSt w (W.setCell ⟨w.heap.size + 1, 4, none⟩ (.int .i64 y)) b s p q u v0 v1 v2 v3 y x := ⟨below_set h.bel (Nat.le_succ _), blk_far h.bt (by simp) _, by simpa using blk_set h.vt 4 (.int .i64 y), Kd.R_set h.row h.vt (by decide) 4 _⟩
theorem BdSt.bcells (h : BdSt w W b s p q u v0 v1 v2 v3 v4 x) : W.cell? ⟨w.heap.size, 0, none⟩ = some (.int .i64 b) ∧ W.cell? ⟨w.heap.size, 1, none⟩ = some (.int .i64 s) ∧ W.cell? ⟨w.heap.size, 2, none⟩ = some (.int .i64 p) ∧ W.cell? ⟨w.heap.size, 3, none⟩ = some (.int .i64 q) ∧ W.cell? ⟨w.heap.size, 4, none⟩ = some u :=
  ⟨(blk_cell h.bt 0).trans rfl, (blk_cell h.bt 1).trans rfl, (blk_cell h.bt 2).trans rfl, (blk_cell h.bt 3).trans rfl, (blk_cell h.bt 4).trans rfl⟩
theorem BdSt.vcells (h : BdSt w W b s p q u v0 v1 v2 v3 v4 x) : W.cell? ⟨w.heap.size + 1, 0, none⟩ = some (.int .i64 v0) ∧ W.cell? ⟨w.heap.size + 1, 1, none⟩ = some (.int .i64 v1) ∧ W.cell? ⟨w.heap.size + 1, 2, none⟩ = some (.int .i64 v2) ∧ W.cell? ⟨w.heap.size + 1, 3, none⟩ = some (.int .i64 v3) ∧ W.cell? ⟨w.heap.size + 1, 4, none⟩ = some (.int .i64 v4) :=
  ⟨(blk_cell h.vt 0).trans rfl, (blk_cell h.vt 1).trans rfl, (blk_cell h.vt 2).trans rfl, (blk_cell h.vt 3).trans rfl, (blk_cell h.vt 4).trans rfl⟩
theorem BdSt.bfree (h : BdSt w W b s p q u v0 v1 v2 v3 v4 x) : W.frozen? ⟨w.heap.size, 0, none⟩ = false ∧ W.frozen? ⟨w.heap.size, 1, none⟩ = false ∧ W.frozen? ⟨w.heap.size, 2, none⟩ = false ∧ W.frozen? ⟨w.heap.size, 3, none⟩ = false ∧ W.frozen? ⟨w.heap.size, 4, none⟩ = false :=
  ⟨blk_frozen h.bt 0, blk_frozen h.bt 1, blk_frozen h.bt 2, blk_frozen h.bt 3, blk_frozen h.bt 4⟩
theorem BdSt.vfree (h : BdSt w W b s p q u v0 v1 v2 v3 v4 x) (j : Nat) : W.frozen? ⟨w.heap.size + 1, j, none⟩ = false := blk_frozen h.vt j
/-- A whole batch laid into the result's block, its records' row being another's. -/
theorem BdSt.setB (h : BdSt w W b s p q u v0 v1 v2 v3 v4 x) (b' s' p' q' : Int) (u' : Value) (x' : List S45) (hr : Kd.R k45 45 W w.heap.size (fun _ => True) u' x') :
    BdSt w (((((W.setCell ⟨w.heap.size, 0, none⟩ (.int .i64 b')).setCell ⟨w.heap.size, 1, none⟩ (.int .i64 s')).setCell ⟨w.heap.size, 2, none⟩ (.int .i64 p')).setCell ⟨w.heap.size, 3, none⟩ (.int .i64 q')).setCell ⟨w.heap.size, 4, none⟩ u') b' s' p' q' u' v0 v1 v2 v3 v4 x' := by
  have far : ∀ {W : World} (j : Nat) (y : Value), W.heap[w.heap.size + 1]? = some (.cells #[.int .i64 v0, .int .i64 v1, .int .i64 v2, .int .i64 v3, .int .i64 v4] 69 (0, 0)) → (W.setCell ⟨w.heap.size, j, none⟩ y).heap[w.heap.size + 1]? = some (.cells #[.int .i64 v0, .int .i64 v1, .int .i64 v2, .int .i64 v3, .int .i64 v4] 69 (0, 0)) := fun j y hv => blk_far hv (by simp) y
  have s0 : (W.setCell ⟨w.heap.size, 0, none⟩ (.int .i64 b')).heap[w.heap.size]? = some (.cells #[.int .i64 b', .int .i64 s, .int .i64 p, .int .i64 q, u] 24 (0, 0)) := by simpa using blk_set h.bt 0 (.int .i64 b')
  have s1 : ((W.setCell ⟨w.heap.size, 0, none⟩ (.int .i64 b')).setCell ⟨w.heap.size, 1, none⟩ (.int .i64 s')).heap[w.heap.size]? = some (.cells #[.int .i64 b', .int .i64 s', .int .i64 p, .int .i64 q, u] 24 (0, 0)) := by simpa using blk_set s0 1 (.int .i64 s')
  have s2 : (((W.setCell ⟨w.heap.size, 0, none⟩ (.int .i64 b')).setCell ⟨w.heap.size, 1, none⟩ (.int .i64 s')).setCell ⟨w.heap.size, 2, none⟩ (.int .i64 p')).heap[w.heap.size]? = some (.cells #[.int .i64 b', .int .i64 s', .int .i64 p', .int .i64 q, u] 24 (0, 0)) := by simpa using blk_set s1 2 (.int .i64 p')
  have s3 : ((((W.setCell ⟨w.heap.size, 0, none⟩ (.int .i64 b')).setCell ⟨w.heap.size, 1, none⟩ (.int .i64 s')).setCell ⟨w.heap.size, 2, none⟩ (.int .i64 p')).setCell ⟨w.heap.size, 3, none⟩ (.int .i64 q')).heap[w.heap.size]? = some (.cells #[.int .i64 b', .int .i64 s', .int .i64 p', .int .i64 q', u] 24 (0, 0)) := by simpa using blk_set s2 3 (.int .i64 q')
  refine ⟨?_, by simpa using blk_set s3 4 u', far 4 _ (far 3 _ (far 2 _ (far 1 _ (far 0 _ h.vt)))), ?_⟩
  · exact below_set (below_set (below_set (below_set (below_set h.bel (Nat.le_refl _)) (Nat.le_refl _)) (Nat.le_refl _)) (Nat.le_refl _)) (Nat.le_refl _)
  · exact Kd.R_set (Kd.R_set (Kd.R_set (Kd.R_set (Kd.R_set hr h.bt (by decide) 0 _) s0 (by decide) 1 _) s1 (by decide) 2 _) s2 (by decide) 3 _) s3 (by decide) 4 _
/-- The records' row alone. -/
theorem BdSt.setU (hbel : Below w.heap.size w W) (hbt : W.heap[w.heap.size]? = some (.cells #[.int .i64 b, .int .i64 s, .int .i64 p, .int .i64 q, u] 24 (0, 0))) (hvt : W.heap[w.heap.size + 1]? = some (.cells #[.int .i64 v0, .int .i64 v1, .int .i64 v2, .int .i64 v3, .int .i64 v4] 69 (0, 0))) (u' : Value) (x' : List S45) (hr : Kd.R k45 45 W w.heap.size (fun _ => True) u' x') :
    BdSt w (W.setCell ⟨w.heap.size, 4, none⟩ u') b s p q u' v0 v1 v2 v3 v4 x' :=
  ⟨below_set hbel (Nat.le_refl _), by simpa using blk_set hbt 4 u', blk_far hvt (by simp) _, Kd.R_set hr hbt (by decide) 4 _⟩
end
theorem bd_far {w W : World} {b s p q : Int} {u : Value} {v0 v1 v2 v3 v4 : Int} {x : List S45} {g : Nat} (h : BdSt w W b s p q u v0 v1 v2 v3 v4 x) (hg : w.heap.size + 2 ≤ g) (hr : Kd.R k45 45 W w.heap.size (fun k => k ≠ g) u x) (c0 c1 c2 c3 c4 c5 : Value) :
    BdSt w ((((((W.setCell ⟨g, 0, none⟩ c0).setCell ⟨g, 1, none⟩ c1).setCell ⟨g, 2, none⟩ c2).setCell ⟨g, 3, none⟩ c3).setCell ⟨g, 4, none⟩ c4).setCell ⟨g, 5, none⟩ c5) b s p q u v0 v1 v2 v3 v4 x ∧
    Kd.R k45 45 ((((((W.setCell ⟨g, 0, none⟩ c0).setCell ⟨g, 1, none⟩ c1).setCell ⟨g, 2, none⟩ c2).setCell ⟨g, 3, none⟩ c3).setCell ⟨g, 4, none⟩ c4).setCell ⟨g, 5, none⟩ c5) w.heap.size (fun k => k ≠ g) u x := by
  have one : ∀ {W : World} (j : Nat) (y : Value), BdSt w W b s p q u v0 v1 v2 v3 v4 x ∧ Kd.R k45 45 W w.heap.size (fun k => k ≠ g) u x → BdSt w (W.setCell ⟨g, j, none⟩ y) b s p q u v0 v1 v2 v3 v4 x ∧ Kd.R k45 45 (W.setCell ⟨g, j, none⟩ y) w.heap.size (fun k => k ≠ g) u x := by
    rintro W j y ⟨h, hr⟩
    have hr2 := Kd.R_far (p := ⟨g, j, none⟩) hr (fun _ hk => hk) y
    exact ⟨⟨below_set h.bel (by omega), blk_far h.bt (show w.heap.size ≠ g by omega) y, blk_far h.vt (show w.heap.size + 1 ≠ g by omega) y, Kd.R_mono hr2 (fun _ _ => trivial)⟩, hr2⟩
  exact one 5 c5 (one 4 c4 (one 3 c3 (one 2 c2 (one 1 c1 (one 0 c0 ⟨h, hr⟩)))))
theorem bd_zero {w W : World} {c0 c1 c2 c3 c4 : Value} (hb : Below w.heap.size w W) (ht : W.heap[w.heap.size]? = some (.cells #[c0, c1, c2, c3, c4] 24 (0, 0))) (a0 a1 a2 a3 a4 : Value) :
    (((((W.setCell ⟨w.heap.size, 0, none⟩ a0).setCell ⟨w.heap.size, 1, none⟩ a1).setCell ⟨w.heap.size, 2, none⟩ a2).setCell ⟨w.heap.size, 3, none⟩ a3).setCell ⟨w.heap.size, 4, none⟩ a4).heap[w.heap.size]? = some (.cells #[a0, a1, a2, a3, a4] 24 (0, 0)) ∧
    Below w.heap.size w (((((W.setCell ⟨w.heap.size, 0, none⟩ a0).setCell ⟨w.heap.size, 1, none⟩ a1).setCell ⟨w.heap.size, 2, none⟩ a2).setCell ⟨w.heap.size, 3, none⟩ a3).setCell ⟨w.heap.size, 4, none⟩ a4) := by
  have s0 := blk_set ht 0 a0
  have s1 := blk_set s0 1 a1
  have s2 := blk_set s1 2 a2
  have s3 := blk_set s2 3 a3
  have s4 := blk_set s3 4 a4
  exact ⟨by simpa using s4, below_set (below_set (below_set (below_set (below_set hb (Nat.le_refl _)) (Nat.le_refl _)) (Nat.le_refl _)) (Nat.le_refl _)) (Nat.le_refl _)⟩
set_option maxHeartbeats 4000000 in
set_option maxRecDepth 100000 in
theorem batch_Decode.short (k : Nat) (A : Option Addr) (c : Nat) (l : List Int) (w : World) (hr : Kd.C (Kd.int .u8) w A l.length l) (hc : l.length ≤ c) (h : (l.length : Int) < 48) :
    Calls Try.prog 22 #[.slice A l.length c] w fun e w' => ∃ v4_ : Value, e = .returned (.tuple #[.agg #[.int .i64 0, .int .i64 0, .int .i64 0, .int .i64 0, v4_], .int .i64 0, .int .i64 10]) ∧ Kd.R k45 45 w' w.heap.size (fun _ => True) v4_ [] ∧ Below w.heap.size w w' := by
  have f0 : decide ((l.length : Int) < 48) = true := decide_eq_true h
  have f1 : decide (l.length < 48) = true := decide_eq_true (by omega)
  clear hr hc h
  go_enter Try.func22, Try.ntmps22
  go_wp2_with fail
  refine bodyPost_ret (results_ctt rfl _ _ w.heap.size 24 #[.int .i64 0, .int .i64 0, .int .i64 0, .int .i64 0, .slice none 0 0] (0, 0) _ rfl (heap_alloc_new w _) Try.underlying24 rfl (by kernel_rfl)) rfl ?_
  exact ⟨_, rfl, Kd.R_nil _ _ _ _ _, below_alloc (Below.refl _ _) _⟩
set_option maxHeartbeats 4000000 in
set_option maxRecDepth 100000 in
theorem batch_Decode.less (k : Nat) (A : Option Addr) (c : Nat) (l : List Int) (w : World) (hr : Kd.C (Kd.int .u8) w A l.length l) (hc : l.length ≤ c) (m : Int) (h0 : ¬ (l.length : Int) < 48) (hg : batch_get.f k l 8 4 = some m) (hm : 0 ≤ m ∧ m < 4294967296) (h1 : 12 + m < 48) :
    Calls Try.prog 22 #[.slice A l.length c] w fun e w' => ∃ v4_ : Value, e = .returned (.tuple #[.agg #[.int .i64 0, .int .i64 0, .int .i64 0, .int .i64 0, v4_], .int .i64 0, .int .i64 10]) ∧ Kd.R k45 45 w' w.heap.size (fun _ => True) v4_ [] ∧ Below w.heap.size w w' := by
  have f0 : decide ((l.length : Int) < 48) = false := decide_eq_false h0
  have f1 : decide (l.length < 48) = false := decide_eq_false (by omega)
  have g0 : decide (12 + m < 48) = true := decide_eq_true h1
  have HR := Aside0.mk hr
  have HC := Aside0.mk hc
  have HG := Aside0.mk hg
  have m0 := hm.1
  have m1 := hm.2
  clear hr hc hg hm
  go_enter Try.func22, Try.ntmps22
  go_wp2_with fail
  refine (batch_get.calls k A c l 8 4 m _ (Kd.C_below HR.out (below_alloc (Below.refl _ _) _)) HC.out HG.out).mono ?_
  rintro e w' ⟨rfl, ⟨nd, rfl⟩⟩
  have b0 : ((w.alloc (.cells #[.int .i64 0, .int .i64 0, .int .i64 0, .int .i64 0, .slice none 0 0] 24)).drewN nd).heap[w.heap.size]? = some (.cells #[.int .i64 0, .int .i64 0, .int .i64 0, .int .i64 0, .slice none 0 0] 24 (0, 0)) := heap_alloc_new w _
  have B0 := Aside0.mk b0
  clear b0
  go_wp2_with fail
  have Z_ := bd_zero (pw_below_drewN (below_alloc (Below.refl _ _) _) nd) B0.out (.int .i64 0) (.int .i64 0) (.int .i64 0) (.int .i64 0) (.slice none 0 0)
  refine bodyPost_ret (results_ctt rfl _ _ w.heap.size 24 #[.int .i64 0, .int .i64 0, .int .i64 0, .int .i64 0, .slice none 0 0] (0, 0) _ rfl Z_.1 Try.underlying24 rfl (by kernel_rfl)) rfl ?_
  exact ⟨_, rfl, Kd.R_nil _ _ _ _ _, Z_.2⟩
set_option maxHeartbeats 4000000 in
set_option maxRecDepth 100000 in
theorem batch_Decode.more (k : Nat) (A : Option Addr) (c : Nat) (l : List Int) (w : World) (hr : Kd.C (Kd.int .u8) w A l.length l) (hc : l.length ≤ c) (m : Int) (h0 : ¬ (l.length : Int) < 48) (hg : batch_get.f k l 8 4 = some m) (hm : 0 ≤ m ∧ m < 4294967296) (h1 : ¬ 12 + m < 48) (h2 : 12 + m > (l.length : Int)) :
    Calls Try.prog 22 #[.slice A l.length c] w fun e w' => ∃ v4_ : Value, e = .returned (.tuple #[.agg #[.int .i64 0, .int .i64 0, .int .i64 0, .int .i64 0, v4_], .int .i64 0, .int .i64 10]) ∧ Kd.R k45 45 w' w.heap.size (fun _ => True) v4_ [] ∧ Below w.heap.size w w' := by
  have f0 : decide ((l.length : Int) < 48) = false := decide_eq_false h0
  have f1 : decide (l.length < 48) = false := decide_eq_false (by omega)
  have g0 : decide (12 + m < 48) = false := decide_eq_false h1
  have g1 : decide ((l.length : Int) < 12 + m) = true := decide_eq_true h2
  have HR := Aside0.mk hr
  have HC := Aside0.mk hc
  have HG := Aside0.mk hg
  have m0 := hm.1
  have m1 := hm.2
  clear hr hc hg hm
  go_enter Try.func22, Try.ntmps22
  go_wp2_with fail
  refine (batch_get.calls k A c l 8 4 m _ (Kd.C_below HR.out (below_alloc (Below.refl _ _) _)) HC.out HG.out).mono ?_
  rintro e w' ⟨rfl, ⟨nd, rfl⟩⟩
  have b0 : ((w.alloc (.cells #[.int .i64 0, .int .i64 0, .int .i64 0, .int .i64 0, .slice none 0 0] 24)).drewN nd).heap[w.heap.size]? = some (.cells #[.int .i64 0, .int .i64 0, .int .i64 0, .int .i64 0, .slice none 0 0] 24 (0, 0)) := heap_alloc_new w _
  have B0 := Aside0.mk b0
  clear b0
  go_wp2_with fail
  have Z_ := bd_zero (pw_below_drewN (below_alloc (Below.refl _ _) _) nd) B0.out (.int .i64 0) (.int .i64 0) (.int .i64 0) (.int .i64 0) (.slice none 0 0)
  refine bodyPost_ret (results_ctt rfl _ _ w.heap.size 24 #[.int .i64 0, .int .i64 0, .int .i64 0, .int .i64 0, .slice none 0 0] (0, 0) _ rfl Z_.1 Try.underlying24 rfl (by kernel_rfl)) rfl ?_
  exact ⟨_, rfl, Kd.R_nil _ _ _ _ _, Z_.2⟩
set_option maxHeartbeats 4000000 in
set_option maxRecDepth 100000 in
theorem batch_Decode.large (k : Nat) (A : Option Addr) (c : Nat) (l : List Int) (w : World) (hr : Kd.C (Kd.int .u8) w A l.length l) (hc : l.length ≤ c) (m : Int) (h0 : ¬ (l.length : Int) < 48) (hg : batch_get.f k l 8 4 = some m) (hm : 0 ≤ m ∧ m < 4294967296) (h1 : ¬ 12 + m < 48) (h2 : ¬ 12 + m > (l.length : Int)) (h3 : 12 + m > 6000) :
    Calls Try.prog 22 #[.slice A l.length c] w fun e w' => ∃ v4_ : Value, e = .returned (.tuple #[.agg #[.int .i64 0, .int .i64 0, .int .i64 0, .int .i64 0, v4_], .int .i64 0, .int .i64 10]) ∧ Kd.R k45 45 w' w.heap.size (fun _ => True) v4_ [] ∧ Below w.heap.size w w' := by
  have f0 : decide ((l.length : Int) < 48) = false := decide_eq_false h0
  have f1 : decide (l.length < 48) = false := decide_eq_false (by omega)
  have g0 : decide (12 + m < 48) = false := decide_eq_false h1
  have g1 : decide ((l.length : Int) < 12 + m) = false := decide_eq_false (by omega)
  have g2 : decide (6000 < 12 + m) = true := decide_eq_true h3
  have HR := Aside0.mk hr
  have HC := Aside0.mk hc
  have HG := Aside0.mk hg
  have m0 := hm.1
  have m1 := hm.2
  clear hr hc hg hm
  go_enter Try.func22, Try.ntmps22
  go_wp2_with fail
  refine (batch_get.calls k A c l 8 4 m _ (Kd.C_below HR.out (below_alloc (Below.refl _ _) _)) HC.out HG.out).mono ?_
  rintro e w' ⟨rfl, ⟨nd, rfl⟩⟩
  have b0 : ((w.alloc (.cells #[.int .i64 0, .int .i64 0, .int .i64 0, .int .i64 0, .slice none 0 0] 24)).drewN nd).heap[w.heap.size]? = some (.cells #[.int .i64 0, .int .i64 0, .int .i64 0, .int .i64 0, .slice none 0 0] 24 (0, 0)) := heap_alloc_new w _
  have B0 := Aside0.mk b0
  clear b0
  go_wp2_with fail
  have Z_ := bd_zero (pw_below_drewN (below_alloc (Below.refl _ _) _) nd) B0.out (.int .i64 0) (.int .i64 0) (.int .i64 0) (.int .i64 0) (.slice none 0 0)
  refine bodyPost_ret (results_ctt rfl _ _ w.heap.size 24 #[.int .i64 0, .int .i64 0, .int .i64 0, .int .i64 0, .slice none 0 0] (0, 0) _ rfl Z_.1 Try.underlying24 rfl (by kernel_rfl)) rfl ?_
  exact ⟨_, rfl, Kd.R_nil _ _ _ _ _, Z_.2⟩
set_option maxHeartbeats 4000000 in
set_option maxRecDepth 100000 in
theorem batch_Decode.main (k : Nat) (A : Option Addr) (c : Nat) (l : List Int) (w : World) (hr : Kd.C (Kd.int .u8) w A l.length l) (hc : l.length ≤ c) (m : Int) (h0 : ¬ (l.length : Int) < 48) (hg : batch_get.f k l 8 4 = some m) (hm : 0 ≤ m ∧ m < 4294967296) (h1 : ¬ 12 + m < 48) (h2 : ¬ 12 + m > (l.length : Int)) (h3 : ¬ 12 + m > 6000) (p q s cn t b : Int) (hp : batch_get.f k l 16 8 = some p) (hq : batch_get.f k l 24 8 = some q) (hs : batch_get.f k l 32 4 = some s) (hcn : batch_get.f k l 36 4 = some cn) (ht : batch_get.f k l 40 8 = some t) (hb : batch_get.f k l 0 8 = some b) (r1 r2 r3 r4 : Int) (r5 : List S45) (r6 r7 : Int) (h : batch_Decode.l0 k l (12 + m) t b s p q 48 [] = some (r1, r2, r3, r4, r5, r6, r7)) :
    Calls Try.prog 22 #[.slice A l.length c] w fun e w' => ∃ v4_ : Value, e = .returned (.tuple #[.agg #[.int .i64 r1, .int .i64 r2, .int .i64 r3, .int .i64 r4, v4_], .int .i64 r6, .int .i64 r7]) ∧ Kd.R k45 45 w' w.heap.size (fun _ => True) v4_ r5 ∧ Below w.heap.size w w' := by
  have f0 : decide ((l.length : Int) < 48) = false := decide_eq_false h0
  have f1 : decide (l.length < 48) = false := decide_eq_false (by omega)
  have g0 : decide (12 + m < 48) = false := decide_eq_false h1
  have g1 : decide ((l.length : Int) < 12 + m) = false := decide_eq_false (by omega)
  have g2 : decide (6000 < 12 + m) = false := decide_eq_false h3
  have HP := Aside0.mk hp
  have HQ := Aside0.mk hq
  have HS := Aside0.mk hs
  have HCN := Aside0.mk hcn
  have HT := Aside0.mk ht
  have HB := Aside0.mk hb
  have HL := Aside0.mk h
  clear hp hq hs hcn ht hb h
  have HR := Aside0.mk hr
  have HC := Aside0.mk hc
  have HG := Aside0.mk hg
  have m0 := hm.1
  have m1 := hm.2
  clear hr hc hg hm
  go_enter Try.func22, Try.ntmps22
  go_wp2_with fail
  refine (batch_get.calls k A c l 8 4 m _ (Kd.C_below HR.out (below_alloc (Below.refl _ _) _)) HC.out HG.out).mono ?_
  rintro e w' ⟨rfl, ⟨nd, rfl⟩⟩
  have b0 : ((w.alloc (.cells #[.int .i64 0, .int .i64 0, .int .i64 0, .int .i64 0, .slice none 0 0] 24)).drewN nd).heap[w.heap.size]? = some (.cells #[.int .i64 0, .int .i64 0, .int .i64 0, .int .i64 0, .slice none 0 0] 24 (0, 0)) := heap_alloc_new w _
  have B0 := Aside0.mk b0
  clear b0
  go_wp2_with fail
  have ST0 := Aside0.mk (BdSt.new w nd)
  generalize (((w.alloc (.cells #[.int .i64 0, .int .i64 0, .int .i64 0, .int .i64 0, .slice none 0 0] 24)).drewN nd).alloc (.cells #[.int .i64 0, .int .i64 0, .int .i64 0, .int .i64 0, .int .i64 0] 69)) = W0 at ST0 ⊢
  refine (batch_numbers.calls _).mono ?_
  rintro e x0 ⟨rfl, hb0⟩
  have S0 := Aside0.mk (ST0.out.below hb0)
  clear hb0 ST0 B0
  go_wp2_with fail
  refine wp_loop_rounds 6 ?_
  rw [rounds_succ]
  have ix0 : ∀ w, (Instr.index 72 (.agg numsC) (.int .i64 0)).run Try.prog w = .ok (.agg #[.int .i64 16, .int .i64 8]) w := fun _ => by kernel_rfl
  go_wp2_with fail
  have T0 := Aside0.mk (S0.out.alloc (.cells #[.int .i64 16, .int .i64 8] 71))
  refine (batch_get.calls k A c l 16 8 p _ (Kd.C_below HR.out T0.out.bel) HC.out HP.out).mono ?_
  rintro e w' ⟨rfl, ⟨n0, rfl⟩⟩
  have z0 := T0.out.vfree 0
  have c0 := T0.out.vcells.1
  go_wp2_with fail
  have S1 := Aside0.mk ((T0.out.drewN n0).setv0 p)
  generalize World.setCell ((x0.alloc (.cells #[.int .i64 16, .int .i64 8] 71)).drewN n0) ⟨w.heap.size + 1, 0, none⟩ (.int .i64 p) = x1 at S1 ⊢
  clear ix0 S0 T0 z0 c0
  rw [rounds_succ]
  have ix1 : ∀ w, (Instr.index 72 (.agg numsC) (.int .i64 1)).run Try.prog w = .ok (.agg #[.int .i64 24, .int .i64 8]) w := fun _ => by kernel_rfl
  go_wp2_with fail
  have T1 := Aside0.mk (S1.out.alloc (.cells #[.int .i64 24, .int .i64 8] 71))
  refine (batch_get.calls k A c l 24 8 q _ (Kd.C_below HR.out T1.out.bel) HC.out HQ.out).mono ?_
  rintro e w' ⟨rfl, ⟨n1, rfl⟩⟩
  have z1 := T1.out.vfree 1
  have c1 := T1.out.vcells.2.1
  go_wp2_with fail
  have S2 := Aside0.mk ((T1.out.drewN n1).setv1 q)
  generalize World.setCell ((x1.alloc (.cells #[.int .i64 24, .int .i64 8] 71)).drewN n1) ⟨w.heap.size + 1, 1, none⟩ (.int .i64 q) = x2 at S2 ⊢
  clear ix1 S1 T1 z1 c1
  rw [rounds_succ]
  have ix2 : ∀ w, (Instr.index 72 (.agg numsC) (.int .i64 2)).run Try.prog w = .ok (.agg #[.int .i64 32, .int .i64 4]) w := fun _ => by kernel_rfl
  go_wp2_with fail
  have T2 := Aside0.mk (S2.out.alloc (.cells #[.int .i64 32, .int .i64 4] 71))
  refine (batch_get.calls k A c l 32 4 s _ (Kd.C_below HR.out T2.out.bel) HC.out HS.out).mono ?_
  rintro e w' ⟨rfl, ⟨n2, rfl⟩⟩
  have z2 := T2.out.vfree 2
  have c2 := T2.out.vcells.2.2.1
  go_wp2_with fail
  have S3 := Aside0.mk ((T2.out.drewN n2).setv2 s)
  generalize World.setCell ((x2.alloc (.cells #[.int .i64 32, .int .i64 4] 71)).drewN n2) ⟨w.heap.size + 1, 2, none⟩ (.int .i64 s) = x3 at S3 ⊢
  clear ix2 S2 T2 z2 c2
  rw [rounds_succ]
  have ix3 : ∀ w, (Instr.index 72 (.agg numsC) (.int .i64 3)).run Try.prog w = .ok (.agg #[.int .i64 36, .int .i64 4]) w := fun _ => by kernel_rfl
  go_wp2_with fail
  have T3 := Aside0.mk (S3.out.alloc (.cells #[.int .i64 36, .int .i64 4] 71))
  refine (batch_get.calls k A c l 36 4 cn _ (Kd.C_below HR.out T3.out.bel) HC.out HCN.out).mono ?_
  rintro e w' ⟨rfl, ⟨n3, rfl⟩⟩
  have z3 := T3.out.vfree 3
  have c3 := T3.out.vcells.2.2.2.1
  go_wp2_with fail
  have S4 := Aside0.mk ((T3.out.drewN n3).setv3 cn)
  generalize World.setCell ((x3.alloc (.cells #[.int .i64 36, .int .i64 4] 71)).drewN n3) ⟨w.heap.size + 1, 3, none⟩ (.int .i64 cn) = x4 at S4 ⊢
  clear ix3 S3 T3 z3 c3
  rw [rounds_succ]
  have ix4 : ∀ w, (Instr.index 72 (.agg numsC) (.int .i64 4)).run Try.prog w = .ok (.agg #[.int .i64 40, .int .i64 8]) w := fun _ => by kernel_rfl
  go_wp2_with fail
  have T4 := Aside0.mk (S4.out.alloc (.cells #[.int .i64 40, .int .i64 8] 71))
  refine (batch_get.calls k A c l 40 8 t _ (Kd.C_below HR.out T4.out.bel) HC.out HT.out).mono ?_
  rintro e w' ⟨rfl, ⟨n4, rfl⟩⟩
  have z4 := T4.out.vfree 4
  have c4 := T4.out.vcells.2.2.2.2
  go_wp2_with fail
  have S5 := Aside0.mk ((T4.out.drewN n4).setv4 t)
  generalize World.setCell ((x4.alloc (.cells #[.int .i64 40, .int .i64 8] 71)).drewN n4) ⟨w.heap.size + 1, 4, none⟩ (.int .i64 t) = x5 at S5 ⊢
  clear ix4 S4 T4 z4 c4
  rw [rounds_succ]
  go_wp2_with fail
  refine start_ (n := 10) (S := fun w' => w'.cell? ⟨w.heap.size + 1, 0, none⟩ = some (.int .i64 p) ∧ w'.cell? ⟨w.heap.size + 1, 1, none⟩ = some (.int .i64 q) ∧ w'.cell? ⟨w.heap.size + 1, 2, none⟩ = some (.int .i64 s)) (ds := []) #[false, false, false, false, false, false, false, false, false, false] (by kernel_rfl) rfl rfl ⟨S5.out.drew.vcells.1, S5.out.drew.vcells.2.1, S5.out.drew.vcells.2.2.1⟩ (fun hHeld => ?_)
  have D5 := Aside0.mk S5.out.drew
  generalize x5.drew = y5 at D5 hHeld ⊢
  clear S5
  refine pure_ (i := 0) (N := (some 47)) (v := ?_) (a' := ?_) #[true, false, false, false, false, false, false, false, false, false] rfl rfl (by kernel_rfl) (fun _ _ _ h => h) (Or.inl ⟨by rfl, ?_⟩) ?_ ?_
  rotate_left
  · intro w'
    go_simp
    with_reducible rfl
  rotate_left
  · simp only [Act.put, List.setIfInBounds_toArray, List.set_cons_zero, List.set_cons_succ, i64_w, i32_w]
    rfl
  refine pure_ (i := 2) (N := (some 49)) (v := ?_) (a' := ?_) #[true, false, true, false, false, false, false, false, false, false] rfl rfl (by kernel_rfl) (fun _ _ _ h => h) (Or.inl ⟨by rfl, ?_⟩) ?_ ?_
  rotate_left
  · intro w'
    go_simp
    with_reducible rfl
  rotate_left
  · simp only [Act.put, List.setIfInBounds_toArray, List.set_cons_zero, List.set_cons_succ, i64_w, i32_w]
    rfl
  refine pure_ (i := 4) (N := (some 51)) (v := ?_) (a' := ?_) #[true, false, true, false, true, false, false, false, false, false] rfl rfl (by kernel_rfl) (fun _ _ _ h => h) (Or.inl ⟨by rfl, ?_⟩) ?_ ?_
  rotate_left
  · intro w'
    go_simp
    with_reducible rfl
  rotate_left
  · simp only [Act.put, List.setIfInBounds_toArray, List.set_cons_zero, List.set_cons_succ, i64_w, i32_w]
    rfl
  refine pure_ (i := 6) (N := (some 53)) (v := ?_) (a' := ?_) #[true, false, true, false, true, false, true, false, false, false] rfl rfl (by kernel_rfl) (fun _ _ _ h => h) (Or.inl ⟨by rfl, ?_⟩) ?_ ?_
  rotate_left
  · intro w'
    go_simp
    with_reducible rfl
  rotate_left
  · simp only [Act.put, List.setIfInBounds_toArray, List.set_cons_zero, List.set_cons_succ, i64_w, i32_w]
    rfl
  refine take_ (i := 3) (N := (some 50)) (v := ?_) (a' := ?_) #[true, false, true, true, true, false, true, false, false, false] rfl rfl (by kernel_rfl) (fun _ _ _ h => h) (Or.inl ⟨by rfl, ?_⟩) hHeld ?_ ?_
  rotate_left
  · rintro w' ⟨s0, s1, s2⟩
    go_simp
    with_reducible rfl
  rotate_left
  · simp only [Act.put, List.setIfInBounds_toArray, List.set_cons_zero, List.set_cons_succ, i64_w, i32_w]
    rfl
  refine take_ (i := 5) (N := (some 52)) (v := ?_) (a' := ?_) #[true, false, true, true, true, true, true, false, false, false] rfl rfl (by kernel_rfl) (fun _ _ _ h => h) (Or.inl ⟨by rfl, ?_⟩) hHeld ?_ ?_
  rotate_left
  · rintro w' ⟨s0, s1, s2⟩
    go_simp
    with_reducible rfl
  rotate_left
  · simp only [Act.put, List.setIfInBounds_toArray, List.set_cons_zero, List.set_cons_succ, i64_w, i32_w]
    rfl
  refine take_ (i := 7) (N := (some 54)) (v := ?_) (a' := ?_) #[true, false, true, true, true, true, true, true, false, false] rfl rfl (by kernel_rfl) (fun _ _ _ h => h) (Or.inl ⟨by rfl, ?_⟩) hHeld ?_ ?_
  rotate_left
  · rintro w' ⟨s0, s1, s2⟩
    go_simp
    with_reducible rfl
  rotate_left
  · simp only [Act.put, List.setIfInBounds_toArray, List.set_cons_zero, List.set_cons_succ, i64_w, i32_w]
    rfl
  refine one_ (i := 1) (N := (some 48)) #[true, true, true, true, true, true, true, true, false, false] rfl rfl (by kernel_rfl) (by decide) (fun K hK => ?_)
  refine goes_ Try.func34 (by kernel_rfl) rfl #[.slice A l.length c, .int .i64 0, .int .i64 8] (by rfl) rfl rfl (by (try simp only [List.map_toArray, List.map_cons, List.map_nil]); first | done | rfl) ?_
  refine (batch_get.calls k A c l 0 8 b _ (Kd.C_below HR.out D5.out.bel) HC.out HB.out).mono ?_
  rintro e w' ⟨rfl, ⟨n5, rfl⟩⟩
  refine ⟨_, rfl, ?_⟩
  have D6 := Aside0.mk (D5.out.drewN n5)
  refine hK.out _ _ ⟨D6.out.vcells.1, D6.out.vcells.2.1, D6.out.vcells.2.2.1⟩ (fun hHeld => ?_)
  clear hK K
  refine norm_ (a' := ?_) ?_ ?_
  rotate_left
  · show Act.put _ (some 48) _ = _
    simp only [Act.put, List.setIfInBounds_toArray, List.set_cons_zero, List.set_cons_succ, i64_w, i32_w]
    rfl
  refine pure_ (i := 8) (N := (some 55)) (v := ?_) (a' := ?_) #[true, true, true, true, true, true, true, true, true, false] rfl rfl (by kernel_rfl) (fun _ _ _ h => h) (Or.inl ⟨by rfl, ?_⟩) ?_ ?_
  rotate_left
  · intro w'
    go_simp
    with_reducible rfl
  rotate_left
  · simp only [Act.put, List.setIfInBounds_toArray, List.set_cons_zero, List.set_cons_succ, i64_w, i32_w]
    rfl
  refine one_ (i := 9) (N := none) #[true, true, true, true, true, true, true, true, true, true] rfl rfl (by kernel_rfl) (by decide) (fun K hK => ?_)
  obtain ⟨y0, y1, y2, y3, y4⟩ := D6.out.bcells
  obtain ⟨z0, z1, z2, z3, z4⟩ := D6.out.bfree
  refine skip_ (w1 := ?_) (by rfl) rfl ?_ ?_
  rotate_left
  · go_simp
    rfl
  refine hK.out _ _ ⟨(D6.out.setB b s p q (.slice none 0 0) [] (Kd.R_nil _ _ _ _ _)).vcells.1, (D6.out.setB b s p q (.slice none 0 0) [] (Kd.R_nil _ _ _ _ _)).vcells.2.1, (D6.out.setB b s p q (.slice none 0 0) [] (Kd.R_nil _ _ _ _ _)).vcells.2.2.1⟩ (fun hHeld => ?_)
  clear hK K
  refine done_ (by kernel_rfl) ?_
  clear hHeld
  have D7 := Aside0.mk (D6.out.setB b s p q (.slice none 0 0) [] (Kd.R_nil _ _ _ _ _))
  generalize (((((World.setCell (y5.drewN n5) ⟨w.heap.size, 0, none⟩ (.int .i64 b)).setCell ⟨w.heap.size, 1, none⟩ (.int .i64 s)).setCell ⟨w.heap.size, 2, none⟩ (.int .i64 p)).setCell ⟨w.heap.size, 3, none⟩ (.int .i64 q)).setCell ⟨w.heap.size, 4, none⟩ (.slice none 0 0)) = x6 at D7 ⊢
  clear y0 y1 y2 y3 y4 z0 z1 z2 z3 z4
  clear D5 D6
  go_wp2_with fail
  go_loopg [3, 4, 8] k (fun kq v3 v4 v8 w' => ∃ (at_ : Int) (x : List S45) (u : Value), v3 = .int .i64 (12 + m) ∧ v4 = .int .i64 0 ∧ v8 = .int .i64 at_ ∧ Aside0 (batch_Decode.l0 kq l (12 + m) t b s p q at_ x = some (r1, r2, r3, r4, r5, r6, r7)) ∧ Aside0 (kq ≤ k) ∧ Aside0 (BdSt w w' b s p q u p q s cn t x))
  case atStart => exact ⟨48, [], .slice none 0 0, rfl, rfl, rfl, HL, ⟨Nat.le_refl _⟩, D7⟩
  case round =>
    clear D7 HL
    obtain ⟨at_, x, u, rfl, rfl, rfl, HA, HK2, ST⟩ := hrel
    cases gk with
    | zero => exact absurd HA.out (by intro h_; exact nomatch (show (none : Option _) = some _ from h_))
    | succ k2 =>
      have H := HA.out
      clear HA
      rw [batch_Decode.l0] at H
      by_cases e1 : at_ < 12 + m
      · rw [if_pos e1] at H
        by_cases e2 : 0 ≤ at_
        case neg => rw [if_neg e2] at H; cases H
        rw [if_pos e2] at H
        obtain ⟨⟨t1, t2, t3, t4, t5, t6, t7, t8⟩, HD_, H⟩ := Option.bind_eq_some_iff.mp H
        dsimp only at H
        have HH := Aside0.mk H
        obtain ⟨i0, hi0, _, hsz0, _⟩ := info_parts info5
        obtain ⟨A1, hcut, hA, hC⟩ := print_mid_of (P := Try.prog) (Value.int .u8) 0 27 5 .i64 .i64 Try.underlying27 hi0 hsz0 A c l at_ (12 + m) e2 (by omega) (by omega) HC.out
        obtain ⟨sl, hsl⟩ : ∃ sl, sl = ((l.take (12 + m).toNat).drop at_.toNat) := ⟨_, rfl⟩
        rw [← hsl] at hcut hA hC HD_
        have HD := Aside0.mk HD_
        have HR2 := Aside0.mk (Kd.C_of_reads (h1 := fun _ => rfl) (hA _ (Kd.reads_of_C HR.out)))
        have HC2 := Aside0.mk hC
        clear hsl
        have b1 : decide (at_ < 12 + m) = true := decide_eq_true e1
        clear HD_ H hA hC hi0 hsz0
        go_wp2_with fail
        refine start_ (n := 15) (S := fun w' => w'.cell? ⟨w.heap.size + 1, 4, none⟩ = some (.int .i64 t)) (ds := []) #[false, false, false, false, false, false, false, false, false, false, false, false, false, false, false] (by kernel_rfl) rfl rfl ST.out.drew.vcells.2.2.2.2 (fun hHeld => ?_)
        have D0 := Aside0.mk ST.out.drew
        generalize wr.drew = y0 at D0 hHeld ⊢
        clear ST
        refine pure_ (i := 0) (N := (some 60)) (v := ?_) (a' := ?_) #[true, false, false, false, false, false, false, false, false, false, false, false, false, false, false] rfl rfl (by kernel_rfl) (fun _ _ _ h => h) (Or.inl ⟨by rfl, ?_⟩) ?_ ?_
        rotate_left
        · intro w'
          go_simp
          with_reducible rfl
        rotate_left
        · simp only [Act.put, List.setIfInBounds_toArray, List.set_cons_zero, List.set_cons_succ, i64_w, i32_w]
          rfl
        refine pure_ (i := 1) (N := (some 61)) (v := ?_) (a' := ?_) #[true, true, false, false, false, false, false, false, false, false, false, false, false, false, false] rfl rfl (by kernel_rfl) (fun _ _ _ h => h) (Or.inl ⟨by rfl, ?_⟩) ?_ ?_
        rotate_left
        · intro w'
          go_simp
          with_reducible rfl
        rotate_left
        · simp only [Act.put, List.setIfInBounds_toArray, List.set_cons_zero, List.set_cons_succ, i64_w, i32_w]
          rfl
        refine pure_ (i := 2) (N := (some 62)) (v := ?_) (a' := ?_) #[true, true, true, false, false, false, false, false, false, false, false, false, false, false, false] rfl rfl (by kernel_rfl) (fun _ _ _ h => h) (Or.inl ⟨by rfl, ?_⟩) ?_ ?_
        rotate_left
        · intro w'
          go_simp
          with_reducible rfl
        rotate_left
        · simp only [Act.put, List.setIfInBounds_toArray, List.set_cons_zero, List.set_cons_succ, i64_w, i32_w]
          rfl
        refine pure_ (i := 3) (N := (some 63)) (v := ?_) (a' := ?_) #[true, true, true, true, false, false, false, false, false, false, false, false, false, false, false] rfl rfl (by kernel_rfl) (fun _ _ _ h => h) (Or.inl ⟨by rfl, ?_⟩) ?_ ?_
        rotate_left
        · intro w'
          go_simp
          with_reducible rfl
        rotate_left
        · simp only [Act.put, List.setIfInBounds_toArray, List.set_cons_zero, List.set_cons_succ, i64_w, i32_w]
          rfl
        refine pure_ (i := 4) (N := (some 64)) (v := ?_) (a' := ?_) #[true, true, true, true, true, false, false, false, false, false, false, false, false, false, false] rfl rfl (by kernel_rfl) (fun _ _ _ h => h) (Or.inl ⟨by rfl, ?_⟩) ?_ ?_
        rotate_left
        · intro w'
          go_simp
          with_reducible rfl
        rotate_left
        · simp only [Act.put, List.setIfInBounds_toArray, List.set_cons_zero, List.set_cons_succ, i64_w, i32_w]
          rfl
        refine take_ (i := 5) (N := (some 65)) (v := ?_) (a' := ?_) #[true, true, true, true, true, true, false, false, false, false, false, false, false, false, false] rfl rfl (by kernel_rfl) (fun _ _ _ h => h) (Or.inl ⟨by rfl, ?_⟩) hHeld ?_ ?_
        rotate_left
        · rintro w' s0
          go_simp
          with_reducible rfl
        rotate_left
        · simp only [Act.put, List.setIfInBounds_toArray, List.set_cons_zero, List.set_cons_succ, i64_w, i32_w]
          rfl
        refine join_ (σ := Nat) 3 #[true, true, true, true, true, true, true, true, true, true, true, true, false, false, false] (fun s_ => [(66, .tuple #[.agg #[.bool t1, .string t2, .bool t3, .string t4, .int .i64 t5, .int .i64 t6], .int .i64 t7, .int .i64 t8]), (59, .tuple #[.agg #[.bool t1, .string t2, .bool t3, .string t4, .int .i64 t5, .int .i64 t6], .int .i64 t7, .int .i64 t8]), (67, .agg #[.bool t1, .string t2, .bool t3, .string t4, .int .i64 t5, .int .i64 t6]), (68, .int .i64 t7), (69, .int .i64 t8), (9, .pointer (some ⟨s_, 0, none⟩))]) (fun s_ w' => w'.cell? ⟨w.heap.size + 1, 4, none⟩ = some (.int .i64 t) ∧ Aside0 (w.heap.size + 2 ≤ s_) ∧ Aside0 (BdSt w w' b s p q u p q s cn t x) ∧ Aside0 (w'.heap[s_]? = some (.cells #[.bool false, .string ⟨#[]⟩, .bool false, .string ⟨#[]⟩, .int .i64 0, .int .i64 0] 45 (0, 0))) ∧ Aside0 (Kd.R k45 45 w' w.heap.size (fun k_ => k_ ≠ s_) u x)) ?_ ?_
        rotate_left
        · intro hCont
          refine two_ (i := 6) (j := 11) (Ni := (some 66)) (Nj := (some 9)) #[true, true, true, true, true, true, true, false, false, false, false, false, false, false, false] #[true, true, true, true, true, true, false, false, false, false, false, true, false, false, false] rfl rfl rfl rfl (by kernel_rfl) (by decide) (by decide) (fun K hK => ?_) (fun K hK => ?_)
          · refine goes_ Try.func36 (by kernel_rfl) rfl #[.slice A1 sl.length (c - at_.toNat), .int .i64 t] (by rfl) rfl rfl (by (try simp only [List.map_toArray, List.map_cons, List.map_nil]); first | done | rfl) ?_
            refine (record_Decode.calls k2 A1 (c - at_.toNat) sl t t1 t2 t3 t4 t5 t6 t7 t8 _ (Kd.C_below HR2.out D0.out.bel) HC2.out HD.out).mono ?_
            rintro e y1 ⟨rfl, hb⟩
            refine ⟨_, rfl, ?_⟩
            have D1 := Aside0.mk (D0.out.below hb)
            clear hb D0
            refine hK.out _ _ D1.out.vcells.2.2.2.2 (fun hHeld => ?_)
            clear hK K
            refine norm_ (a' := ?_) ?_ ?_
            rotate_left
            · show Act.put _ (some 66) _ = _
              simp only [Act.put, List.setIfInBounds_toArray, List.set_cons_zero, List.set_cons_succ, i64_w, i32_w]
              rfl
            refine pure_ (i := 7) (N := (some 59)) (v := ?_) (a' := ?_) #[true, true, true, true, true, true, true, true, false, false, false, false, false, false, false] rfl rfl (by kernel_rfl) (fun _ _ _ h => h) (Or.inl ⟨by rfl, ?_⟩) ?_ ?_
            rotate_left
            · intro w'
              go_simp
              with_reducible rfl
            rotate_left
            · simp only [Act.put, List.setIfInBounds_toArray, List.set_cons_zero, List.set_cons_succ, i64_w, i32_w]
              rfl
            refine pure_ (i := 8) (N := (some 67)) (v := ?_) (a' := ?_) #[true, true, true, true, true, true, true, true, true, false, false, false, false, false, false] rfl rfl (by kernel_rfl) (fun _ _ _ h => h) (Or.inl ⟨by rfl, ?_⟩) ?_ ?_
            rotate_left
            · intro w'
              go_simp
              with_reducible rfl
            rotate_left
            · simp only [Act.put, List.setIfInBounds_toArray, List.set_cons_zero, List.set_cons_succ, i64_w, i32_w]
              rfl
            refine pure_ (i := 9) (N := (some 68)) (v := ?_) (a' := ?_) #[true, true, true, true, true, true, true, true, true, true, false, false, false, false, false] rfl rfl (by kernel_rfl) (fun _ _ _ h => h) (Or.inl ⟨by rfl, ?_⟩) ?_ ?_
            rotate_left
            · intro w'
              go_simp
              with_reducible rfl
            rotate_left
            · simp only [Act.put, List.setIfInBounds_toArray, List.set_cons_zero, List.set_cons_succ, i64_w, i32_w]
              rfl
            refine pure_ (i := 10) (N := (some 69)) (v := ?_) (a' := ?_) #[true, true, true, true, true, true, true, true, true, true, true, false, false, false, false] rfl rfl (by kernel_rfl) (fun _ _ _ h => h) (Or.inl ⟨by rfl, ?_⟩) ?_ ?_
            rotate_left
            · intro w'
              go_simp
              with_reducible rfl
            rotate_left
            · simp only [Act.put, List.setIfInBounds_toArray, List.set_cons_zero, List.set_cons_succ, i64_w, i32_w]
              rfl
            refine one_ (i := 11) (N := (some 9)) #[true, true, true, true, true, true, true, true, true, true, true, true, false, false, false] rfl rfl (by kernel_rfl) (by decide) (fun K hK => ?_)
            refine box_step ?hg (N := 9) ?hd (cs := #[.bool false, .string ⟨#[]⟩, .bool false, .string ⟨#[]⟩, .int .i64 0, .int .i64 0]) (t := 45) ?hr ?_; (case hd => rfl); (case hg => rfl); (case hr => first | (go_simp; done) | (go_simp; rfl))
            intro g9 hg y2 hbox hb
            have GE := Aside0.mk (show w.heap.size + 2 ≤ g9 from by rw [hg]; exact blk_lt D1.out.vt)
            have RO := Aside0.mk (Kd.R_mono (Kd.R_below (Kd.R_elderB D1.out.row g9 (Nat.le_of_eq hg.symm)) hb) (fun k_ hk => hk.2))
            have D2 := Aside0.mk (D1.out.below hb)
            have BK := Aside0.mk hbox
            clear hbox hb hg D1
            refine hK.out _ _ D2.out.vcells.2.2.2.2 (fun hHeld => ?_)
            clear hK K
            refine norm_ (a' := ?_) ?_ ?_
            rotate_left
            · show Act.put _ (some 9) _ = _
              simp only [Act.put, List.setIfInBounds_toArray, List.set_cons_zero, List.set_cons_succ, i64_w, i32_w]
              rfl
            exact norm_ (by simp only [putAll, Act.put, List.setIfInBounds_toArray, List.set_cons_zero, List.set_cons_succ]) (hCont g9 _ ⟨hHeld, GE, D2, BK, RO⟩)
          · refine box_step ?hg (N := 9) ?hd (cs := #[.bool false, .string ⟨#[]⟩, .bool false, .string ⟨#[]⟩, .int .i64 0, .int .i64 0]) (t := 45) ?hr ?_; (case hd => rfl); (case hg => rfl); (case hr => first | (go_simp; done) | (go_simp; rfl))
            intro g9 hg y1 hbox hb
            have GE := Aside0.mk (show w.heap.size + 2 ≤ g9 from by rw [hg]; exact blk_lt D0.out.vt)
            have RO1 := Aside0.mk (Kd.R_mono (Kd.R_below (Kd.R_elderB D0.out.row g9 (Nat.le_of_eq hg.symm)) hb) (fun k_ hk => hk.2))
            have D1 := Aside0.mk (D0.out.below hb)
            have BK1 := Aside0.mk hbox
            clear hbox hb hg D0
            refine hK.out _ _ D1.out.vcells.2.2.2.2 (fun hHeld => ?_)
            clear hK K
            refine norm_ (a' := ?_) ?_ ?_
            rotate_left
            · show Act.put _ (some 9) _ = _
              simp only [Act.put, List.setIfInBounds_toArray, List.set_cons_zero, List.set_cons_succ, i64_w, i32_w]
              rfl
            refine one_ (i := 6) (N := (some 66)) #[true, true, true, true, true, true, true, false, false, false, false, true, false, false, false] rfl rfl (by kernel_rfl) (by decide) (fun K hK => ?_)
            refine goes_ Try.func36 (by kernel_rfl) rfl #[.slice A1 sl.length (c - at_.toNat), .int .i64 t] (by rfl) rfl rfl (by (try simp only [List.map_toArray, List.map_cons, List.map_nil]); first | done | rfl) ?_
            refine (record_Decode.calls k2 A1 (c - at_.toNat) sl t t1 t2 t3 t4 t5 t6 t7 t8 _ (Kd.C_below HR2.out D1.out.bel) HC2.out HD.out).mono ?_
            rintro e y2 ⟨rfl, hb⟩
            refine ⟨_, rfl, ?_⟩
            have D2 := Aside0.mk (D1.out.below hb)
            have BK := Aside0.mk (blk_below BK1.out hb)
            have RO := Aside0.mk (Kd.R_below RO1.out hb)
            clear hb D1 BK1 RO1
            refine hK.out _ _ D2.out.vcells.2.2.2.2 (fun hHeld => ?_)
            clear hK K
            refine norm_ (a' := ?_) ?_ ?_
            rotate_left
            · show Act.put _ (some 66) _ = _
              simp only [Act.put, List.setIfInBounds_toArray, List.set_cons_zero, List.set_cons_succ, i64_w, i32_w]
              rfl
            refine pure_ (i := 7) (N := (some 59)) (v := ?_) (a' := ?_) #[true, true, true, true, true, true, true, true, false, false, false, true, false, false, false] rfl rfl (by kernel_rfl) (fun _ _ _ h => h) (Or.inl ⟨by rfl, ?_⟩) ?_ ?_
            rotate_left
            · intro w'
              go_simp
              with_reducible rfl
            rotate_left
            · simp only [Act.put, List.setIfInBounds_toArray, List.set_cons_zero, List.set_cons_succ, i64_w, i32_w]
              rfl
            refine pure_ (i := 8) (N := (some 67)) (v := ?_) (a' := ?_) #[true, true, true, true, true, true, true, true, true, false, false, true, false, false, false] rfl rfl (by kernel_rfl) (fun _ _ _ h => h) (Or.inl ⟨by rfl, ?_⟩) ?_ ?_
            rotate_left
            · intro w'
              go_simp
              with_reducible rfl
            rotate_left
            · simp only [Act.put, List.setIfInBounds_toArray, List.set_cons_zero, List.set_cons_succ, i64_w, i32_w]
              rfl
            refine pure_ (i := 9) (N := (some 68)) (v := ?_) (a' := ?_) #[true, true, true, true, true, true, true, true, true, true, false, true, false, false, false] rfl rfl (by kernel_rfl) (fun _ _ _ h => h) (Or.inl ⟨by rfl, ?_⟩) ?_ ?_
            rotate_left
            · intro w'
              go_simp
              with_reducible rfl
            rotate_left
            · simp only [Act.put, List.setIfInBounds_toArray, List.set_cons_zero, List.set_cons_succ, i64_w, i32_w]
              rfl
            refine pure_ (i := 10) (N := (some 69)) (v := ?_) (a' := ?_) #[true, true, true, true, true, true, true, true, true, true, true, true, false, false, false] rfl rfl (by kernel_rfl) (fun _ _ _ h => h) (Or.inl ⟨by rfl, ?_⟩) ?_ ?_
            rotate_left
            · intro w'
              go_simp
              with_reducible rfl
            rotate_left
            · simp only [Act.put, List.setIfInBounds_toArray, List.set_cons_zero, List.set_cons_succ, i64_w, i32_w]
              rfl
            exact norm_ (by simp only [putAll, Act.put, List.setIfInBounds_toArray, List.set_cons_zero, List.set_cons_succ]) (hCont g9 _ ⟨hHeld, GE, D2, BK, RO⟩)
        rintro g9 y3 ⟨hHeld, GE, D2, BK, RO⟩
        refine norm_ (a' := ?_) ?_ ?_
        rotate_left
        · simp only [putAll, Act.put, List.setIfInBounds_toArray, List.set_cons_zero, List.set_cons_succ]
          rfl
        refine one_ (i := 12) (N := none) #[true, true, true, true, true, true, true, true, true, true, true, true, true, false, false] rfl rfl (by kernel_rfl) (by decide) (fun K hK => ?_)
        have r0 : y3.cell? ⟨g9, 0, none⟩ = some (.bool false) := (blk_cell BK.out 0).trans rfl
        have r1 : y3.cell? ⟨g9, 1, none⟩ = some (.string ⟨#[]⟩) := (blk_cell BK.out 1).trans rfl
        have r2 : y3.cell? ⟨g9, 2, none⟩ = some (.bool false) := (blk_cell BK.out 2).trans rfl
        have r3 : y3.cell? ⟨g9, 3, none⟩ = some (.string ⟨#[]⟩) := (blk_cell BK.out 3).trans rfl
        have r4 : y3.cell? ⟨g9, 4, none⟩ = some (.int .i64 0) := (blk_cell BK.out 4).trans rfl
        have r5 : y3.cell? ⟨g9, 5, none⟩ = some (.int .i64 0) := (blk_cell BK.out 5).trans rfl
        have f0 := blk_frozen BK.out 0
        have f1 := blk_frozen BK.out 1
        have f2 := blk_frozen BK.out 2
        have f3 := blk_frozen BK.out 3
        have f4 := blk_frozen BK.out 4
        have f5 := blk_frozen BK.out 5
        refine skip_ (w1 := ?_) (by rfl) rfl ?_ ?_
        rotate_left
        · go_simp
          rfl
        refine hK.out _ _ (bd_far D2.out GE.out RO.out (.bool t1) (.string t2) (.bool t3) (.string t4) (.int .i64 t5) (.int .i64 t6)).1.vcells.2.2.2.2 (fun hHeld => ?_)
        clear hK K
        refine pure_ (i := 13) (N := (some 10)) (v := ?_) (a' := ?_) #[true, true, true, true, true, true, true, true, true, true, true, true, true, true, false] rfl rfl (by kernel_rfl) (fun _ _ _ h => h) (Or.inl ⟨by rfl, ?_⟩) ?_ ?_
        rotate_left
        · intro w'
          go_simp
          with_reducible rfl
        rotate_left
        · simp only [Act.put, List.setIfInBounds_toArray, List.set_cons_zero, List.set_cons_succ, i64_w, i32_w]
          rfl
        refine pure_ (i := 14) (N := (some 11)) (v := ?_) (a' := ?_) #[true, true, true, true, true, true, true, true, true, true, true, true, true, true, true] rfl rfl (by kernel_rfl) (fun _ _ _ h => h) (Or.inl ⟨by rfl, ?_⟩) ?_ ?_
        rotate_left
        · intro w'
          go_simp
          with_reducible rfl
        rotate_left
        · simp only [Act.put, List.setIfInBounds_toArray, List.set_cons_zero, List.set_cons_succ, i64_w, i32_w]
          rfl
        refine done_ (by kernel_rfl) ?_
        clear hHeld
        have F_ := bd_far D2.out GE.out RO.out (.bool t1) (.string t2) (.bool t3) (.string t4) (.int .i64 t5) (.int .i64 t6)
        have D3 := Aside0.mk F_.1
        have RO3 := Aside0.mk F_.2
        have s0 : (World.setCell y3 ⟨g9, 0, none⟩ ((.bool t1))).heap[g9]? = some (.cells #[(.bool t1), .string ⟨#[]⟩, .bool false, .string ⟨#[]⟩, .int .i64 0, .int .i64 0] 45 (0, 0)) := by simpa using blk_set BK.out 0 ((.bool t1))
        have s1 : (World.setCell (World.setCell y3 ⟨g9, 0, none⟩ ((.bool t1))) ⟨g9, 1, none⟩ ((.string t2))).heap[g9]? = some (.cells #[(.bool t1), (.string t2), .bool false, .string ⟨#[]⟩, .int .i64 0, .int .i64 0] 45 (0, 0)) := by simpa using blk_set s0 1 ((.string t2))
        have s2 : (World.setCell (World.setCell (World.setCell y3 ⟨g9, 0, none⟩ ((.bool t1))) ⟨g9, 1, none⟩ ((.string t2))) ⟨g9, 2, none⟩ ((.bool t3))).heap[g9]? = some (.cells #[(.bool t1), (.string t2), (.bool t3), .string ⟨#[]⟩, .int .i64 0, .int .i64 0] 45 (0, 0)) := by simpa using blk_set s1 2 ((.bool t3))
        have s3 : (World.setCell (World.setCell (World.setCell (World.setCell y3 ⟨g9, 0, none⟩ ((.bool t1))) ⟨g9, 1, none⟩ ((.string t2))) ⟨g9, 2, none⟩ ((.bool t3))) ⟨g9, 3, none⟩ ((.string t4))).heap[g9]? = some (.cells #[(.bool t1), (.string t2), (.bool t3), (.string t4), .int .i64 0, .int .i64 0] 45 (0, 0)) := by simpa using blk_set s2 3 ((.string t4))
        have s4 : (World.setCell (World.setCell (World.setCell (World.setCell (World.setCell y3 ⟨g9, 0, none⟩ ((.bool t1))) ⟨g9, 1, none⟩ ((.string t2))) ⟨g9, 2, none⟩ ((.bool t3))) ⟨g9, 3, none⟩ ((.string t4))) ⟨g9, 4, none⟩ ((.int .i64 t5))).heap[g9]? = some (.cells #[(.bool t1), (.string t2), (.bool t3), (.string t4), (.int .i64 t5), .int .i64 0] 45 (0, 0)) := by simpa using blk_set s3 4 ((.int .i64 t5))
        have s5 : (World.setCell (World.setCell (World.setCell (World.setCell (World.setCell (World.setCell y3 ⟨g9, 0, none⟩ ((.bool t1))) ⟨g9, 1, none⟩ ((.string t2))) ⟨g9, 2, none⟩ ((.bool t3))) ⟨g9, 3, none⟩ ((.string t4))) ⟨g9, 4, none⟩ ((.int .i64 t5))) ⟨g9, 5, none⟩ ((.int .i64 t6))).heap[g9]? = some (.cells #[(.bool t1), (.string t2), (.bool t3), (.string t4), (.int .i64 t5), (.int .i64 t6)] 45 (0, 0)) := by simpa using blk_set s4 5 ((.int .i64 t6))
        have BK3 := Aside0.mk s5
        clear s0 s1 s2 s3 s4 s5 F_ D2 RO BK r0 r1 r2 r3 r4 r5 f0 f1 f2 f3 f4 f5
        generalize (World.setCell (World.setCell (World.setCell (World.setCell (World.setCell (World.setCell y3 ⟨g9, 0, none⟩ ((.bool t1))) ⟨g9, 1, none⟩ ((.string t2))) ⟨g9, 2, none⟩ ((.bool t3))) ⟨g9, 3, none⟩ ((.string t4))) ⟨g9, 4, none⟩ ((.int .i64 t5))) ⟨g9, 5, none⟩ ((.int .i64 t6))) = y4 at D3 RO3 BK3 ⊢
        by_cases e8 : t8 = 0
        · have H := HH.out
          rw [if_pos e8] at H
          have b8 : (t8 != 0) = false := bne_eq_false_iff_eq.mpr e8
          by_cases e9 : x.length < 2199023255552
          case neg => rw [if_neg e9] at H; cases H
          rw [if_pos e9] at H
          have HLM := Aside0.mk e9
          obtain ⟨x2, hx2⟩ : ∃ x2, x2 = x ++ [(⟨t1, t2, t3, t4, t5, t6⟩ : S45)] := ⟨_, rfl⟩
          rw [← hx2] at H
          have HA := Aside0.mk H
          have HX2 := Aside0.mk hx2
          clear H HH e8 e9 hx2
          have e0_ : y4.cell? ⟨g9, 0, none⟩ = some (.bool t1) := (blk_cell BK3.out 0).trans rfl
          have e1_ : y4.cell? ⟨g9, 1, none⟩ = some (.string t2) := (blk_cell BK3.out 1).trans rfl
          have e2_ : y4.cell? ⟨g9, 2, none⟩ = some (.bool t3) := (blk_cell BK3.out 2).trans rfl
          have e3_ : y4.cell? ⟨g9, 3, none⟩ = some (.string t4) := (blk_cell BK3.out 3).trans rfl
          have e4_ : y4.cell? ⟨g9, 4, none⟩ = some (.int .i64 t5) := (blk_cell BK3.out 4).trans rfl
          have e5_ : y4.cell? ⟨g9, 5, none⟩ = some (.int .i64 t6) := (blk_cell BK3.out 5).trans rfl
          obtain ⟨-, -, -, -, y9_⟩ := D3.out.bcells
          go_wp2_with (at_builtin; refine Kd.R_append k45 (w0 := w) w.heap.size rfl (.tmp 74) (.tmp 76) 22 45 (.agg #[(.bool false), (.string ⟨#[]⟩), (.bool false), (.string ⟨#[]⟩), (.int .i64 0), (.int .i64 0)]) 64 rfl Try.underlying22 info45 rfl (by decide) (by omega) u x (⟨t1, t2, t3, t4, t5, t6⟩ : S45) [.bool t1, .string t2, .bool t3, .string t4, .int .i64 t5, .int .i64 t6] (fun _ => True) (fun _ => False) rfl (by first | (go_simp; done) | (go_simp; rfl)) ?aP (fun _ hk => hk.elim) ?aF ?aO ?aB ?aS ?aL ?_; (case aP => exact k45_mkM _ _ _ (⟨t1, t2, t3, t4, t5, t6⟩ : S45)); (case aB => exact D3.out.bel); (case aF => exact fun _ _ => trivial); (case aO => exact D3.out.row); (case aS => exact D3.out.bel.size); (case aL => have := HLM.out; omega); intro v7 y5 ho hb hg hat; rw [← HX2.out] at ho; have D5 := Aside0.mk (And.intro hb (And.intro (blk_grown D3.out.bt hg (Kd.R_ne D3.out.row D3.out.bt (by decide))) (blk_grown D3.out.vt hg (Kd.R_ne D3.out.row D3.out.vt (by decide))))); have HO5 := Aside0.mk ho; obtain ⟨A7, c7, e7⟩ := Kd.R_slice ho; subst e7; clear ho hb hg hat; have y4_ : y5.cell? ⟨w.heap.size, 4, none⟩ = some u := (blk_cell D5.out.2.1 4).trans rfl; have z4 := blk_frozen D5.out.2.1 4)
          go_roundg k2
          case measure => have := HK2.out; omega
          case rel => exact ⟨wrap64 (at_ + t7), x2, .slice A7 x2.length c7, rfl, rfl, by first | rfl | (simp; done), HA, ⟨by have := HK2.out; omega⟩, ⟨BdSt.setU D5.out.1 D5.out.2.1 D5.out.2.2 _ _ HO5.out⟩⟩
        · have H := HH.out
          rw [if_neg e8] at H
          have b8 : (t8 != 0) = true := bne_iff_ne.mpr e8
          unfold batch_Decode.bad at H
          simp only [Option.some.injEq, Prod.mk.injEq] at H
          obtain ⟨rfl, rfl, rfl, rfl, rfl, rfl, rfl⟩ := H
          clear HH
          obtain ⟨z0, z1, z2, z3, z4⟩ := D3.out.bfree
          obtain ⟨y0, y1, y2, y3, y4_⟩ := D3.out.bcells
          go_wp2_with fail
          have SB_ := (D3.out).setB 0 0 0 0 (.slice none 0 0) [] (Kd.R_nil _ _ _ _ _)
          refine bodyPost_ret (results_ctt rfl _ _ w.heap.size 24 #[.int .i64 0, .int .i64 0, .int .i64 0, .int .i64 0, .slice none 0 0] (0, 0) _ rfl SB_.bt Try.underlying24 rfl (by kernel_rfl)) rfl ?_
          exact ⟨_, rfl, Kd.R_nil _ _ _ _ _, SB_.bel⟩
      · rw [if_neg e1] at H
        have b1 : decide (at_ < 12 + m) = false := decide_eq_false e1
        unfold batch_Decode.fin at H
        obtain ⟨⟨en, ee⟩, HE_, H⟩ := Option.bind_eq_some_iff.mp H
        dsimp only at H
        have HE := Aside0.mk HE_
        have HH := Aside0.mk H
        clear H HE_
        obtain ⟨Au, cu, eu⟩ := Kd.R_slice ST.out.row
        subst eu
        obtain ⟨y0, y1, y2, y3, y4_⟩ := ST.out.bcells
        go_wp2_with fail
        refine (batch_Encode.calls k2 b s p q Au cu x en ee _ (Kd.R_reads' ST.out.row).2.2 (Kd.R_reads' ST.out.row).2.1 HE.out).mono ?_
        rintro e y6 ⟨v0, rfl, ho, hb⟩
        have D2 := Aside0.mk (ST.out.below hb)
        have HO := Aside0.mk (Kd.R_lower ho ST.out.bel.size)
        obtain ⟨Ae, ce, ev⟩ := Kd.R_slice ho
        subst ev
        clear ho hb y0 y1 y2 y3 y4_ ST
        by_cases e8 : ee = 0
        · have H := HH.out
          rw [if_pos e8] at H
          have b8 : (ee != 0) = false := bne_eq_false_iff_eq.mpr e8
          obtain ⟨eq, HQ_, H⟩ := Option.bind_eq_some_iff.mp H
          have HN := Aside0.mk (show 0 ≤ 12 + m ∧ 12 + m ≤ (l.length : Int) by omega)
          obtain ⟨i0, hi0, _, hsz0, _⟩ := info_parts info5
          obtain ⟨hcut, hA, hC⟩ := print_take_of (P := Try.prog) (Value.int .u8) 0 27 5 .i64 Try.underlying27 hi0 hsz0 A c l (12 + m) (by omega) (by omega) HC.out
          obtain ⟨tl, htl⟩ : ∃ tl, tl = l.take (12 + m).toNat := ⟨_, rfl⟩
          rw [← htl] at hcut hA hC HQ_
          have HQ2 := Aside0.mk HQ_
          have HR2 := Aside0.mk (Kd.C_of_reads (h1 := fun _ => rfl) (hA _ (Kd.reads_of_C HR.out)))
          have HC2 := Aside0.mk hC
          clear hi0 hsz0 hA hC HQ_ HH e8 htl
          cases eq with
          | true =>
            rw [if_pos rfl] at H
            simp only [Option.some.injEq, Prod.mk.injEq] at H
            obtain ⟨rfl, rfl, rfl, rfl, rfl, rfl, rfl⟩ := H
            go_wp2_with fail
            refine (bytes_Equal.calls Ae ce en A c tl true _ (Kd.R_reads' HO.out).2.2 (Kd.R_reads' HO.out).2.1 (Kd.C_below HR2.out D2.out.bel) HC2.out HQ2.out).mono ?_
            rintro e w' ⟨rfl, ⟨n7, rfl⟩⟩
            have D3 := Aside0.mk (D2.out.drewN n7)
            obtain ⟨z0, z1, z2, z3, z4⟩ := D3.out.bfree
            obtain ⟨y0, y1, y2, y3, y4_⟩ := D3.out.bcells
            go_wp2_with fail
            have SB_ := D3.out.setB b s p q _ x D3.out.row
            refine bodyPost_ret (results_ctt rfl _ _ w.heap.size 24 #[.int .i64 b, .int .i64 s, .int .i64 p, .int .i64 q, .slice Au x.length cu] (0, 0) _ rfl SB_.bt Try.underlying24 rfl (by kernel_rfl)) rfl ?_
            exact ⟨_, rfl, SB_.row, SB_.bel⟩
          | false =>
            rw [if_neg (by decide)] at H
            unfold batch_Decode.bad at H
            simp only [Option.some.injEq, Prod.mk.injEq] at H
            obtain ⟨rfl, rfl, rfl, rfl, rfl, rfl, rfl⟩ := H
            go_wp2_with fail
            refine (bytes_Equal.calls Ae ce en A c tl false _ (Kd.R_reads' HO.out).2.2 (Kd.R_reads' HO.out).2.1 (Kd.C_below HR2.out D2.out.bel) HC2.out HQ2.out).mono ?_
            rintro e w' ⟨rfl, ⟨n7, rfl⟩⟩
            have D3 := Aside0.mk (D2.out.drewN n7)
            obtain ⟨z0, z1, z2, z3, z4⟩ := D3.out.bfree
            obtain ⟨y0, y1, y2, y3, y4_⟩ := D3.out.bcells
            go_wp2_with fail
            have SB_ := (D3.out).setB 0 0 0 0 (.slice none 0 0) [] (Kd.R_nil _ _ _ _ _)
            refine bodyPost_ret (results_ctt rfl _ _ w.heap.size 24 #[.int .i64 0, .int .i64 0, .int .i64 0, .int .i64 0, .slice none 0 0] (0, 0) _ rfl SB_.bt Try.underlying24 rfl (by kernel_rfl)) rfl ?_
            exact ⟨_, rfl, Kd.R_nil _ _ _ _ _, SB_.bel⟩
        · have H := HH.out
          rw [if_neg e8] at H
          have b8 : (ee != 0) = true := bne_iff_ne.mpr e8
          unfold batch_Decode.bad at H
          simp only [Option.some.injEq, Prod.mk.injEq] at H
          obtain ⟨rfl, rfl, rfl, rfl, rfl, rfl, rfl⟩ := H
          clear HH
          obtain ⟨z0, z1, z2, z3, z4⟩ := D2.out.bfree
          obtain ⟨y0, y1, y2, y3, y4_⟩ := D2.out.bcells
          go_wp2_with fail
          have SB_ := (D2.out).setB 0 0 0 0 (.slice none 0 0) [] (Kd.R_nil _ _ _ _ _)
          refine bodyPost_ret (results_ctt rfl _ _ w.heap.size 24 #[.int .i64 0, .int .i64 0, .int .i64 0, .int .i64 0, .slice none 0 0] (0, 0) _ rfl SB_.bt Try.underlying24 rfl (by kernel_rfl)) rfl ?_
          exact ⟨_, rfl, Kd.R_nil _ _ _ _ _, SB_.bel⟩
theorem batch_Decode.calls (k : Nat) (A : Option Addr) (c : Nat) (l : List Int) (r1 r2 r3 r4 : Int) (r5 : List S45) (r6 r7 : Int) (w : World) (hr : Kd.C (Kd.int .u8) w A l.length l) (hc : l.length ≤ c) (h : batch_Decode.f k l = some (r1, r2, r3, r4, r5, r6, r7)) :
    Calls Try.prog 22 #[.slice A l.length c] w fun e w' => ∃ v4_ : Value, e = .returned (.tuple #[.agg #[.int .i64 r1, .int .i64 r2, .int .i64 r3, .int .i64 r4, v4_], .int .i64 r6, .int .i64 r7]) ∧ Kd.R k45 45 w' w.heap.size (fun _ => True) v4_ r5 ∧ Below w.heap.size w w' := by
  have bad : batch_Decode.bad = some (r1, r2, r3, r4, r5, r6, r7) → r1 = 0 ∧ r2 = 0 ∧ r3 = 0 ∧ r4 = 0 ∧ r5 = [] ∧ r6 = 0 ∧ r7 = 10 := by
    intro h
    unfold batch_Decode.bad at h
    simp only [Option.some.injEq, Prod.mk.injEq] at h
    obtain ⟨rfl, rfl, rfl, rfl, rfl, rfl, rfl⟩ := h
    exact ⟨rfl, rfl, rfl, rfl, rfl, rfl, rfl⟩
  unfold batch_Decode.f at h
  by_cases c0 : (l.length : Int) < 48
  · rw [if_pos c0] at h
    obtain ⟨rfl, rfl, rfl, rfl, rfl, rfl, rfl⟩ := bad h
    exact batch_Decode.short k A c l w hr hc c0
  rw [if_neg c0] at h
  obtain ⟨m, hg, h⟩ := Option.bind_eq_some_iff.mp h
  by_cases cm : 0 ≤ m ∧ m < 4294967296
  case neg => rw [if_neg cm] at h; cases h
  rw [if_pos cm] at h
  by_cases c1 : 12 + m < 48
  · rw [if_pos c1] at h
    obtain ⟨rfl, rfl, rfl, rfl, rfl, rfl, rfl⟩ := bad h
    exact batch_Decode.less k A c l w hr hc m c0 hg cm c1
  rw [if_neg c1] at h
  by_cases c2 : 12 + m > (l.length : Int)
  · rw [if_pos c2] at h
    obtain ⟨rfl, rfl, rfl, rfl, rfl, rfl, rfl⟩ := bad h
    exact batch_Decode.more k A c l w hr hc m c0 hg cm c1 c2
  rw [if_neg c2] at h
  by_cases c3 : 12 + m > 6000
  · rw [if_pos c3] at h
    obtain ⟨rfl, rfl, rfl, rfl, rfl, rfl, rfl⟩ := bad h
    exact batch_Decode.large k A c l w hr hc m c0 hg cm c1 c2 c3
  rw [if_neg c3] at h
  obtain ⟨p, hp, h⟩ := Option.bind_eq_some_iff.mp h
  obtain ⟨q, hq, h⟩ := Option.bind_eq_some_iff.mp h
  obtain ⟨s, hs, h⟩ := Option.bind_eq_some_iff.mp h
  obtain ⟨cn, hcn, h⟩ := Option.bind_eq_some_iff.mp h
  obtain ⟨t, ht, h⟩ := Option.bind_eq_some_iff.mp h
  obtain ⟨b, hb, h⟩ := Option.bind_eq_some_iff.mp h
  exact batch_Decode.main k A c l w hr hc m c0 hg cm c1 c2 c3 p q s cn t b hp hq hs hcn ht hb r1 r2 r3 r4 r5 r6 r7 h

end Go.Proofs.Ytgmeellapjimgaa.PBm
