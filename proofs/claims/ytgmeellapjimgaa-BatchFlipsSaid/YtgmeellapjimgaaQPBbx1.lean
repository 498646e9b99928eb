-- written by a program of this session (wip/tools/pr.py, over the kit's printer): not by hand
import Derived.Test.YtgmeellapjimgaaQPBbx2
import Derived.Test.YtgmeellapjimgaaQPBbx3
import Derived.Test.YtgmeellapjimgaaQPBbx7
import Derived.Test.YtgmeellapjimgaaQPBbx5
namespace Go.Proofs.Ytgmeellapjimgaa.PBb
open Go.RowKit Go.Proofs.YtgmeellapjimgaaW.PrintWords Go.Proofs.YtgmeellapjimgaaW.PrintLast Go.Proofs.YtgmeellapjimgaaW.PrintMore
attribute [local go_sem] max2_int min2_int max_two min_two max_three min_three max_four min_four   -- for this text's walks alone
set_option linter.unusedVariables false
set_option linter.unusedSimpArgs false

/-- A number of the reader: its value and how many bytes it takes (0: there is none). -/
def rdNum (k : Nat) (l : List Int) (at_ : Int) : Option (Int × Int) :=
  (bits_Unvarint.f k (l.drop at_.toNat)).bind fun t => if 0 ≤ t.1 ∧ t.1 < 18446744073709551616 ∧ 0 ≤ t.2 ∧ 0 ≤ at_ ∧ at_ + t.2 ≤ (l.length : Int) then some t else none
/-- A text of the reader, the place behind it, is it over? -/
def rdText (k : Nat) (l : List Int) (at_ : Int) (is bad : Bool) : Option (ByteArray × Int × Bool) :=
  if (!is || bad) = true then some (⟨#[]⟩, at_, bad) else (rdNum k l at_).bind fun t =>
    if t.2 = 0 then some (⟨#[]⟩, at_, true) else if (l.length : Int) - (at_ + t.2) < t.1 then some (⟨#[]⟩, at_ + t.2, true)
    else some (strOfNums ((l.take (at_ + t.2 + t.1).toNat).drop (at_ + t.2).toNat), at_ + t.2 + t.1, false)
theorem rdNum_tells {k : Nat} {l : List Int} {at_ v n : Int} (h : rdNum k l at_ = some (v, n)) : bits_Unvarint.f k (l.drop at_.toNat) = some (v, n) ∧ 0 ≤ v ∧ v < 18446744073709551616 ∧ 0 ≤ n ∧ 0 ≤ at_ ∧ at_ + n ≤ (l.length : Int) := by
  obtain ⟨t, h1, h2⟩ := Option.bind_eq_some_iff.mp h
  split at h2
  · rename_i hc
    obtain rfl := Option.some.inj h2
    exact ⟨h1, hc⟩
  · cases h2
theorem varint_no (k : Nat) (g : Nat) (A : Option Addr) (c : Nat) (l : List Int) (at_ : Int) (v : Int) (w : World) (hb : IsRd w g A l.length c at_ false) (hr : Kd.C (Kd.int .u8) w A l.length l) (hc : l.length ≤ c) (hl : l.length ≤ 1000000000000000) (hu : rdNum k l at_ = some (v, 0)) :
    Calls Try.prog 51 #[.pointer (some ⟨g, 0, none⟩)] w fun e w' => e = .returned (.int .u64 v) ∧ IsRd w' g A l.length c at_ true ∧ Turned g w w' := by
  obtain ⟨hu, v0, v1, n0, a0, an⟩ := rdNum_tells hu
  have h := varint_calls k g A c l at_ false v 0 w hb hr hc a0 (by omega) hu
  rw [show wrap64 (at_ + 0) = at_ from by unfold wrap64; omega] at h
  exact h
theorem varint_yes (k : Nat) (g : Nat) (A : Option Addr) (c : Nat) (l : List Int) (at_ : Int) (v n : Int) (w : World) (hb : IsRd w g A l.length c at_ false) (hr : Kd.C (Kd.int .u8) w A l.length l) (hc : l.length ≤ c) (hl : l.length ≤ 1000000000000000) (hu : rdNum k l at_ = some (v, n)) (hn : n ≠ 0) :
    Calls Try.prog 51 #[.pointer (some ⟨g, 0, none⟩)] w fun e w' => e = .returned (.int .u64 v) ∧ IsRd w' g A l.length c (at_ + n) false ∧ Turned g w w' := by
  obtain ⟨hu, v0, v1, n0, a0, an⟩ := rdNum_tells hu
  have h := varint_calls k g A c l at_ false v n w hb hr hc a0 (by omega) hu
  rw [show wrap64 (at_ + n) = at_ + n from by unfold wrap64; omega, decide_eq_false hn] at h
  exact h
theorem text_calls (k : Nat) (g : Nat) (A : Option Addr) (c : Nat) (l : List Int) (at_ at2 : Int) (is bad bad2 : Bool) (s : ByteArray) (w : World) (hb : IsRd w g A l.length c at_ bad) (hr : ∀ W, Turned g w W → Kd.C (Kd.int .u8) W A l.length l) (hc : l.length ≤ c)
    (hl : l.length ≤ 1000000000000000) (h : rdText k l at_ is bad = some (s, at2, bad2)) :
    Calls Try.prog 53 #[.pointer (some ⟨g, 0, none⟩), .bool is] w fun e w' => e = .returned (.string s) ∧ IsRd w' g A l.length c at2 bad2 ∧ Turned g w w' := by
  unfold rdText at h
  by_cases c1 : (!is || bad) = true
  · rw [if_pos c1] at h
    simp only [Option.some.injEq, Prod.mk.injEq] at h
    obtain ⟨rfl, rfl, rfl⟩ := h
    exact (text_none g A l.length c at_ is bad w hb c1).mono fun e w' ⟨h1, h2⟩ => ⟨h1, h2 ▸ hb, h2 ▸ Turned.refl g w⟩
  · rw [if_neg c1] at h
    have hi : is = true := by cases is <;> simp at c1 ⊢
    have hbd : bad = false := by cases bad <;> cases is <;> simp at c1 ⊢
    subst hi hbd
    obtain ⟨⟨v, n⟩, h1, h2⟩ := Option.bind_eq_some_iff.mp h
    obtain ⟨hu, v0, v1, n0, a0, an⟩ := rdNum_tells h1
    dsimp only at h2
    by_cases c2 : n = 0
    · subst c2
      rw [if_pos rfl] at h2
      simp only [Option.some.injEq, Prod.mk.injEq] at h2
      obtain ⟨rfl, rfl, rfl⟩ := h2
      exact text_bad k g A c l at_ v w hb hr hc a0 (by omega) hl hu
    · rw [if_neg c2] at h2
      by_cases c3 : (l.length : Int) - (at_ + n) < v
      · rw [if_pos c3] at h2
        simp only [Option.some.injEq, Prod.mk.injEq] at h2
        obtain ⟨rfl, rfl, rfl⟩ := h2
        exact text_long k g A c l at_ (at_ + n) v n w hb hr hc a0 (by omega) hl hu (by omega) rfl an c3 v1
      · rw [if_neg c3] at h2
        simp only [Option.some.injEq, Prod.mk.injEq] at h2
        obtain ⟨rfl, rfl, rfl⟩ := h2
        exact text_good k g A c l at_ (at_ + n) (at_ + n + v) v n w hb hr hc a0 (by omega) hl hu (by omega) rfl an v0 rfl (by omega)

/-- Where Decode stands: the result's block, the reader's block behind it. -/
structure DecSt (w W : World) (A : Option Addr) (n c : Nat) (at_ : Int) (bad : Bool) (hk : Bool) (key : ByteArray) (hv : Bool) (val : ByteArray) (t o : Int) : Prop where
  rd : IsRd W (w.heap.size + 1) A n c at_ bad
  rc : W.heap[w.heap.size]? = some (.cells #[.bool hk, .string key, .bool hv, .string val, .int .i64 t, .int .i64 o] 45 (0, 0))
  bel : Below w.heap.size w W
section
variable {w W W2 : World} {A : Option Addr} {n c : Nat} {at_ at2 : Int} {bad bad2 : Bool} {hk : Bool} {key : ByteArray} {hv : Bool} {val : ByteArray} {t o : Int}
theorem DecSt.new (w : World) (A : Option Addr) (n c : Nat) : DecSt w ((w.alloc (.cells #[.bool false, .string ⟨#[]⟩, .bool false, .string ⟨#[]⟩, .int .i64 0, .int .i64 0] 45)).alloc (.cells #[.slice A n c, .int .i64 1, .bool false] 92)) A n c 1 false false ⟨#[]⟩ false ⟨#[]⟩ 0 0 := by
  refine ⟨?_, ?_, ?_⟩
  · have := heap_alloc_new (w.alloc (.cells #[.bool false, .string ⟨#[]⟩, .bool false, .string ⟨#[]⟩, .int .i64 0, .int .i64 0] 45)) (.cells #[.slice A n c, .int .i64 1, .bool false] 92)
    simpa [IsRd] using this
  · have := heap_alloc_new w (.cells #[.bool false, .string ⟨#[]⟩, .bool false, .string ⟨#[]⟩, .int .i64 0, .int .i64 0] 45)
    rw [Below.heap_alloc _ _ _ (by simp)]
    exact this
  · exact below_alloc (below_alloc (Below.refl _ _) _) _
theorem DecSt.turned (h : DecSt w W A n c at_ bad hk key hv val t o) (ht : Turned (w.heap.size + 1) W W2) (hb : IsRd W2 (w.heap.size + 1) A n c at2 bad2) : DecSt w W2 A n c at2 bad2 hk key hv val t o :=
  ⟨hb, (ht.block _ (by omega)).trans h.rc, ht.below h.bel (by omega)⟩
theorem DecSt.drewN (h : DecSt w W A n c at_ bad hk key hv val t o) (m : Nat) : DecSt w (W.drewN m) A n c at_ bad hk key hv val t o := ⟨h.rd, h.rc, pw_below_drewN h.bel m⟩
theorem DecSt.below (h : DecSt w W A n c at_ bad hk key hv val t o) (hb : Below W.heap.size W W2) : DecSt w W2 A n c at_ bad hk key hv val t o :=
  ⟨(hb.block _ (blk_lt h.rd)).trans h.rd, (hb.block _ (blk_lt h.rc)).trans h.rc, below_step h.bel hb⟩
theorem DecSt.set0 (h : DecSt w W A n c at_ bad hk key hv val t o) (x : Bool) : DecSt w (W.setCell ⟨w.heap.size, 0, none⟩ (.bool x)) A n c at_ bad x key hv val t o := ⟨blk_far h.rd (by simp) _, by simpa using blk_set h.rc 0 (.bool x), h.bel.setCell (Nat.le_refl _) _⟩
theorem DecSt.set1 (h : DecSt w W A n c at_ bad hk key hv val t o) (x : ByteArray) : DecSt w (W.setCell ⟨w.heap.size, 1, none⟩ (.string x)) A n c at_ bad hk x hv val t o := ⟨blk_far h.rd (by simp) _, by simpa using blk_set h.rc 1 (.string x), h.bel.setCell (Nat.le_refl _) _⟩
theorem DecSt.set2 (h : DecSt w W A n c at_ bad hk key hv val t o) (x : Bool) : DecSt w (W.setCell ⟨w.heap.size, 2, none⟩ (.bool x)) A n c at_ bad hk key x val t o := ⟨blk_far h.rd (by simp) _, by simpa using blk_set h.rc 2 (.bool x), h.bel.setCell (Nat.le_refl _) _⟩
theorem DecSt.set3 (h : DecSt w W A n c at_ bad hk key hv val t o) (x : ByteArray) : DecSt w (W.setCell ⟨w.heap.size, 3, none⟩ (.string x)) A n c at_ bad hk key hv x t o := ⟨blk_far h.rd (by simp) _, by simpa using blk_set h.rc 3 (.string x), h.bel.setCell (Nat.le_refl _) _⟩
theorem DecSt.set4 (h : DecSt w W A n c at_ bad hk key hv val t o) (x : Int) : DecSt w (W.setCell ⟨w.heap.size, 4, none⟩ (.int .i64 x)) A n c at_ bad hk key hv val x o := ⟨blk_far h.rd (by simp) _, by simpa using blk_set h.rc 4 (.int .i64 x), h.bel.setCell (Nat.le_refl _) _⟩
theorem DecSt.set5 (h : DecSt w W A n c at_ bad hk key hv val t o) (x : Int) : DecSt w (W.setCell ⟨w.heap.size, 5, none⟩ (.int .i64 x)) A n c at_ bad hk key hv val t x := ⟨blk_far h.rd (by simp) _, by simpa using blk_set h.rc 5 (.int .i64 x), h.bel.setCell (Nat.le_refl _) _⟩
theorem DecSt.rcells (h : DecSt w W A n c at_ bad hk key hv val t o) : W.cell? ⟨w.heap.size, 0, none⟩ = some (.bool hk) ∧ W.cell? ⟨w.heap.size, 1, none⟩ = some (.string key) ∧ W.cell? ⟨w.heap.size, 2, none⟩ = some (.bool hv) ∧ W.cell? ⟨w.heap.size, 3, none⟩ = some (.string val) ∧ W.cell? ⟨w.heap.size, 4, none⟩ = some (.int .i64 t) ∧ W.cell? ⟨w.heap.size, 5, none⟩ = some (.int .i64 o) :=
  ⟨(blk_cell h.rc 0).trans rfl, (blk_cell h.rc 1).trans rfl, (blk_cell h.rc 2).trans rfl, (blk_cell h.rc 3).trans rfl, (blk_cell h.rc 4).trans rfl, (blk_cell h.rc 5).trans rfl⟩
theorem DecSt.rfree (h : DecSt w W A n c at_ bad hk key hv val t o) : W.frozen? ⟨w.heap.size, 0, none⟩ = false ∧ W.frozen? ⟨w.heap.size, 1, none⟩ = false ∧ W.frozen? ⟨w.heap.size, 2, none⟩ = false ∧ W.frozen? ⟨w.heap.size, 3, none⟩ = false ∧ W.frozen? ⟨w.heap.size, 4, none⟩ = false ∧ W.frozen? ⟨w.heap.size, 5, none⟩ = false :=
  ⟨blk_frozen h.rc 0, blk_frozen h.rc 1, blk_frozen h.rc 2, blk_frozen h.rc 3, blk_frozen h.rc 4, blk_frozen h.rc 5⟩
theorem DecSt.pcells (h : DecSt w W A n c at_ bad hk key hv val t o) : W.cell? ⟨w.heap.size + 1, 0, none⟩ = some (.slice A n c) ∧ W.cell? ⟨w.heap.size + 1, 1, none⟩ = some (.int .i64 at_) ∧ W.cell? ⟨w.heap.size + 1, 2, none⟩ = some (.bool bad) := ⟨h.rd.c0, h.rd.c1, h.rd.c2⟩
end

set_option maxHeartbeats 2000000 in
set_option maxRecDepth 100000 in
theorem decode_empty (k : Nat) (A : Option Addr) (c : Nat) (l : List Int) (first : Int) (w : World) (hr : Kd.C (Kd.int .u8) w A l.length l) (hc : l.length ≤ c) (h0 : l.length = 0) :
    Calls Try.prog 36 #[.slice A l.length c, .int .i64 first] w fun e w' => e = .returned (.tuple #[.agg #[.bool false, .string ⟨#[]⟩, .bool false, .string ⟨#[]⟩, .int .i64 0, .int .i64 0], .int .i64 0, .int .i64 10]) ∧ Below w.heap.size w w' := by
  have HB := Aside0.mk (Below.refl w.heap.size w)
  have f0 : ((l.length : Int) == 0) = true := by rw [h0]; rfl
  clear hr hc h0
  go_enter Try.func36, Try.ntmps36
  go_wp2
  refine bodyPost_ret (v := .tuple #[.agg #[.bool false, .string ⟨#[]⟩, .bool false, .string ⟨#[]⟩, .int .i64 0, .int .i64 0], .int .i64 0, .int .i64 10]) (by simp [results, Try.results36, go_sem]) rfl ⟨rfl, ?_⟩
  repeat (with_reducible first | exact HB.out | apply below_alloc | apply pw_below_drewN | (refine below_set ?_ (by first | exact Nat.le_refl _ | omega)))

set_option maxHeartbeats 2000000 in
set_option maxRecDepth 100000 in
theorem decode_flags (k : Nat) (A : Option Addr) (c : Nat) (l : List Int) (first : Int) (w : World) (hr : Kd.C (Kd.int .u8) w A l.length l) (hc : l.length ≤ c) (h0 : 0 < l.length) (h1 : 3 < rd l 0) :
    Calls Try.prog 36 #[.slice A l.length c, .int .i64 first] w fun e w' => e = .returned (.tuple #[.agg #[.bool false, .string ⟨#[]⟩, .bool false, .string ⟨#[]⟩, .int .i64 0, .int .i64 0], .int .i64 0, .int .i64 10]) ∧ Below w.heap.size w w' := by
  have HB := Aside0.mk (Below.refl w.heap.size w)
  obtain ⟨ad, e, hx⟩ := Kd.at_int hr 0 (by decide) (by omega)
  cases e
  have qi : (0 < l.length) = True := eq_true (by omega)
  rw [show ((0 : Int)).toNat = 0 from rfl, Addr.add_zero'] at hx
  have hx' : ∀ o : Obj, (w.alloc o).cell? ad = some (.int .u8 (rd l 0)) := fun o => pw_cell_below (below_alloc (Below.refl _ _) o) hx
  have f0 : ((l.length : Int) == 0) = false := by simpa using (by omega : ¬ (l.length = 0))
  have f1 : decide (3 < rd l 0) = true := decide_eq_true h1
  clear hr hc h0 h1
  go_enter Try.func36, Try.ntmps36
  go_wp2
  refine bodyPost_ret (v := .tuple #[.agg #[.bool false, .string ⟨#[]⟩, .bool false, .string ⟨#[]⟩, .int .i64 0, .int .i64 0], .int .i64 0, .int .i64 10]) (by simp [results, Try.results36, go_sem]) rfl ⟨rfl, ?_⟩
  repeat (with_reducible first | exact HB.out | apply below_alloc | apply pw_below_drewN | (refine below_set ?_ (by first | exact Nat.le_refl _ | omega)))

set_option maxHeartbeats 2000000 in
set_option maxRecDepth 100000 in
theorem decode_first0 (k : Nat) (A : Option Addr) (c : Nat) (l : List Int) (first : Int) (w : World) (hr : Kd.C (Kd.int .u8) w A l.length l) (hc : l.length ≤ c) (h0 : 0 < l.length) (h1 : rd l 0 ≤ 3) (h2 : first < 0) :
    Calls Try.prog 36 #[.slice A l.length c, .int .i64 first] w fun e w' => e = .returned (.tuple #[.agg #[.bool false, .string ⟨#[]⟩, .bool false, .string ⟨#[]⟩, .int .i64 0, .int .i64 0], .int .i64 0, .int .i64 10]) ∧ Below w.heap.size w w' := by
  have HB := Aside0.mk (Below.refl w.heap.size w)
  obtain ⟨ad, e, hx⟩ := Kd.at_int hr 0 (by decide) (by omega)
  cases e
  have qi : (0 < l.length) = True := eq_true (by omega)
  rw [show ((0 : Int)).toNat = 0 from rfl, Addr.add_zero'] at hx
  have hx' : ∀ o : Obj, (w.alloc o).cell? ad = some (.int .u8 (rd l 0)) := fun o => pw_cell_below (below_alloc (Below.refl _ _) o) hx
  have f0 : ((l.length : Int) == 0) = false := by simpa using (by omega : ¬ (l.length = 0))
  have f1 : decide (3 < rd l 0) = false := decide_eq_false (by omega)
  have f2 : decide (first < 0) = true := decide_eq_true h2
  clear hr hc h0 h1 h2
  go_enter Try.func36, Try.ntmps36
  go_wp2
  refine bodyPost_ret (v := .tuple #[.agg #[.bool false, .string ⟨#[]⟩, .bool false, .string ⟨#[]⟩, .int .i64 0, .int .i64 0], .int .i64 0, .int .i64 10]) (by simp [results, Try.results36, go_sem]) rfl ⟨rfl, ?_⟩
  repeat (with_reducible first | exact HB.out | apply below_alloc | apply pw_below_drewN | (refine below_set ?_ (by first | exact Nat.le_refl _ | omega)))

set_option maxHeartbeats 2000000 in
set_option maxRecDepth 100000 in
theorem decode_first1 (k : Nat) (A : Option Addr) (c : Nat) (l : List Int) (first : Int) (w : World) (hr : Kd.C (Kd.int .u8) w A l.length l) (hc : l.length ≤ c) (h0 : 0 < l.length) (h1 : rd l 0 ≤ 3) (h2 : 0 ≤ first) (h3 : 1125899906842624 < first) :
    Calls Try.prog 36 #[.slice A l.length c, .int .i64 first] w fun e w' => e = .returned (.tuple #[.agg #[.bool false, .string ⟨#[]⟩, .bool false, .string ⟨#[]⟩, .int .i64 0, .int .i64 0], .int .i64 0, .int .i64 10]) ∧ Below w.heap.size w w' := by
  have HB := Aside0.mk (Below.refl w.heap.size w)
  obtain ⟨ad, e, hx⟩ := Kd.at_int hr 0 (by decide) (by omega)
  cases e
  have qi : (0 < l.length) = True := eq_true (by omega)
  rw [show ((0 : Int)).toNat = 0 from rfl, Addr.add_zero'] at hx
  have hx' : ∀ o : Obj, (w.alloc o).cell? ad = some (.int .u8 (rd l 0)) := fun o => pw_cell_below (below_alloc (Below.refl _ _) o) hx
  have f0 : ((l.length : Int) == 0) = false := by simpa using (by omega : ¬ (l.length = 0))
  have f1 : decide (3 < rd l 0) = false := decide_eq_false (by omega)
  have f2 : decide (first < 0) = false := decide_eq_false (by omega)
  have f3 : decide (1125899906842624 < first) = true := decide_eq_true h3
  clear hr hc h0 h1 h2 h3
  go_enter Try.func36, Try.ntmps36
  go_wp2
  refine bodyPost_ret (v := .tuple #[.agg #[.bool false, .string ⟨#[]⟩, .bool false, .string ⟨#[]⟩, .int .i64 0, .int .i64 0], .int .i64 0, .int .i64 10]) (by simp [results, Try.results36, go_sem]) rfl ⟨rfl, ?_⟩
  repeat (with_reducible first | exact HB.out | apply below_alloc | apply pw_below_drewN | (refine below_set ?_ (by first | exact Nat.le_refl _ | omega)))

set_option maxHeartbeats 2000000 in
set_option maxRecDepth 100000 in
theorem decode_none1 (k : Nat) (A : Option Addr) (c : Nat) (l : List Int) (first : Int) (v : Int) (w : World) (hr : Kd.C (Kd.int .u8) w A l.length l) (hc : l.length ≤ c) (h0 : 0 < l.length) (h1 : rd l 0 ≤ 3) (h2 : 0 ≤ first) (h3 : first ≤ 1125899906842624) (hl : l.length ≤ 1000000000000000) (hu : rdNum k l 1 = some (v, 0)) :
    Calls Try.prog 36 #[.slice A l.length c, .int .i64 first] w fun e w' => e = .returned (.tuple #[.agg #[.bool false, .string ⟨#[]⟩, .bool false, .string ⟨#[]⟩, .int .i64 0, .int .i64 0], .int .i64 0, .int .i64 10]) ∧ Below w.heap.size w w' := by
  obtain ⟨ad, e, hx⟩ := Kd.at_int hr 0 (by decide) (by omega)
  cases e
  have qi : (0 < l.length) = True := eq_true (by omega)
  rw [show ((0 : Int)).toNat = 0 from rfl, Addr.add_zero'] at hx
  have hx' : ∀ o : Obj, (w.alloc o).cell? ad = some (.int .u8 (rd l 0)) := fun o => pw_cell_below (below_alloc (Below.refl _ _) o) hx
  have HX := Aside0.mk hx
  have f0 : ((l.length : Int) == 0) = false := by simpa using (by omega : ¬ (l.length = 0))
  have f1 : decide (3 < rd l 0) = false := decide_eq_false (by omega)
  have f2 : decide (first < 0) = false := decide_eq_false (by omega)
  have f3 : decide (1125899906842624 < first) = false := decide_eq_false (by omega)
  have HR := Aside0.mk hr
  have HC := Aside0.mk hc
  have HL := Aside0.mk hl
  have HU0 := Aside0.mk hu
  clear hr hc hl h0 h1 h2 h3 hu
  go_enter Try.func36, Try.ntmps36
  go_wp2_with fail
  have S0 := Aside0.mk (DecSt.new w (some ad) l.length c)
  refine (varint_no k (w.heap.size + 1) (some ad) c l 1 v _ S0.out.rd (Kd.C_below HR.out S0.out.bel) HC.out HL.out HU0.out).mono ?_
  rintro e w1 ⟨rfl, hb, ht⟩
  have S1 := Aside0.mk (S0.out.turned ht hb)
  clear hb ht S0
  obtain ⟨p0, p1, p2⟩ := S1.out.pcells
  obtain ⟨r0, r1, r2, r3, r4, r5⟩ := S1.out.rcells
  obtain ⟨z0, z1, z2, z3, z4, z5⟩ := S1.out.rfree
  go_wp2
  refine bodyPost_ret (v := .tuple #[.agg #[.bool false, .string ⟨#[]⟩, .bool false, .string ⟨#[]⟩, .int .i64 0, .int .i64 0], .int .i64 0, .int .i64 10]) (by simp [results, Try.results36, go_sem, r0, r1, r2, r3, r4, r5]) rfl ⟨rfl, ?_⟩
  exact ((((((S1.out.set0 false).set1 ⟨#[]⟩).set2 false).set3 ⟨#[]⟩).set4 0).set5 0).bel

set_option maxHeartbeats 2000000 in
set_option maxRecDepth 100000 in
theorem decode_none2 (k : Nat) (A : Option Addr) (c : Nat) (l : List Int) (first : Int) (off n u ago : Int) (w : World) (hr : Kd.C (Kd.int .u8) w A l.length l) (hc : l.length ≤ c) (h0 : 0 < l.length) (h1 : rd l 0 ≤ 3) (h2 : 0 ≤ first) (h3 : first ≤ 1125899906842624) (hl : l.length ≤ 1000000000000000) (hu : rdNum k l 1 = some (off, n)) (hn : n ≠ 0) (hu2 : rdNum k l (1 + n) = some (u, 0)) (hz : bits_Zag.f u = some ago) :
    Calls Try.prog 36 #[.slice A l.length c, .int .i64 first] w fun e w' => e = .returned (.tuple #[.agg #[.bool false, .string ⟨#[]⟩, .bool false, .string ⟨#[]⟩, .int .i64 0, .int .i64 0], .int .i64 0, .int .i64 10]) ∧ Below w.heap.size w w' := by
  obtain ⟨ad, e, hx⟩ := Kd.at_int hr 0 (by decide) (by omega)
  cases e
  have qi : (0 < l.length) = True := eq_true (by omega)
  rw [show ((0 : Int)).toNat = 0 from rfl, Addr.add_zero'] at hx
  have hx' : ∀ o : Obj, (w.alloc o).cell? ad = some (.int .u8 (rd l 0)) := fun o => pw_cell_below (below_alloc (Below.refl _ _) o) hx
  have HX := Aside0.mk hx
  have f0 : ((l.length : Int) == 0) = false := by simpa using (by omega : ¬ (l.length = 0))
  have f1 : decide (3 < rd l 0) = false := decide_eq_false (by omega)
  have f2 : decide (first < 0) = false := decide_eq_false (by omega)
  have f3 : decide (1125899906842624 < first) = false := decide_eq_false (by omega)
  have HR := Aside0.mk hr
  have HC := Aside0.mk hc
  have HL := Aside0.mk hl
  have HU0 := Aside0.mk hu
  have HN0 := Aside0.mk hn
  have HU1 := Aside0.mk hu2
  have HZ := Aside0.mk hz
  clear hr hc hl h0 h1 hu hn hu2 hz
  go_enter Try.func36, Try.ntmps36
  go_wp2_with fail
  have S0 := Aside0.mk (DecSt.new w (some ad) l.length c)
  refine (varint_yes k (w.heap.size + 1) (some ad) c l 1 off n _ S0.out.rd (Kd.C_below HR.out S0.out.bel) HC.out HL.out HU0.out HN0.out).mono ?_
  rintro e w1 ⟨rfl, hb, ht⟩
  have S1 := Aside0.mk (S0.out.turned ht hb)
  clear hb ht S0
  obtain ⟨p0, p1, p2⟩ := S1.out.pcells
  go_wp2_with fail
  refine (varint_no k (w.heap.size + 1) (some ad) c l (1 + n) u _ S1.out.rd (Kd.C_below HR.out S1.out.bel) HC.out HL.out HU1.out).mono ?_
  rintro e w2 ⟨rfl, hb, ht⟩
  have S2 := Aside0.mk (S1.out.turned ht hb)
  clear hb ht S1
  clear p0 p1 p2
  go_wp2_with fail
  refine (bits_Zag.calls u ago _ HZ.out).mono ?_
  rintro e w3 ⟨rfl, ⟨q, rfl⟩⟩
  have S3 := Aside0.mk (S2.out.drewN q)
  clear S2
  obtain ⟨p0, p1, p2⟩ := S3.out.pcells
  obtain ⟨r0, r1, r2, r3, r4, r5⟩ := S3.out.rcells
  obtain ⟨z0, z1, z2, z3, z4, z5⟩ := S3.out.rfree
  go_wp2
  refine bodyPost_ret (v := .tuple #[.agg #[.bool false, .string ⟨#[]⟩, .bool false, .string ⟨#[]⟩, .int .i64 0, .int .i64 0], .int .i64 0, .int .i64 10]) (by simp [results, Try.results36, go_sem, r0, r1, r2, r3, r4, r5]) rfl ⟨rfl, ?_⟩
  exact ((((((S3.out.set0 false).set1 ⟨#[]⟩).set2 false).set3 ⟨#[]⟩).set4 0).set5 0).bel

set_option maxHeartbeats 2000000 in
set_option maxRecDepth 100000 in
theorem decode_off (k : Nat) (A : Option Addr) (c : Nat) (l : List Int) (first : Int) (off n u m ago : Int) (w : World) (hr : Kd.C (Kd.int .u8) w A l.length l) (hc : l.length ≤ c) (h0 : 0 < l.length) (h1 : rd l 0 ≤ 3) (h2 : 0 ≤ first) (h3 : first ≤ 1125899906842624) (hl : l.length ≤ 1000000000000000) (hu : rdNum k l 1 = some (off, n)) (hn : n ≠ 0) (hu2 : rdNum k l (1 + n) = some (u, m)) (hz : bits_Zag.f u = some ago) (hm : m ≠ 0) (h4 : 100 ≤ off) :
    Calls Try.prog 36 #[.slice A l.length c, .int .i64 first] w fun e w' => e = .returned (.tuple #[.agg #[.bool false, .string ⟨#[]⟩, .bool false, .string ⟨#[]⟩, .int .i64 0, .int .i64 0], .int .i64 0, .int .i64 10]) ∧ Below w.heap.size w w' := by
  obtain ⟨ad, e, hx⟩ := Kd.at_int hr 0 (by decide) (by omega)
  cases e
  have qi : (0 < l.length) = True := eq_true (by omega)
  rw [show ((0 : Int)).toNat = 0 from rfl, Addr.add_zero'] at hx
  have hx' : ∀ o : Obj, (w.alloc o).cell? ad = some (.int .u8 (rd l 0)) := fun o => pw_cell_below (below_alloc (Below.refl _ _) o) hx
  have HX := Aside0.mk hx
  have f0 : ((l.length : Int) == 0) = false := by simpa using (by omega : ¬ (l.length = 0))
  have f1 : decide (3 < rd l 0) = false := decide_eq_false (by omega)
  have f2 : decide (first < 0) = false := decide_eq_false (by omega)
  have f3 : decide (1125899906842624 < first) = false := decide_eq_false (by omega)
  have HR := Aside0.mk hr
  have HC := Aside0.mk hc
  have HL := Aside0.mk hl
  have HU0 := Aside0.mk hu
  have HN0 := Aside0.mk hn
  have HU1 := Aside0.mk hu2
  have HZ := Aside0.mk hz
  have HM := Aside0.mk hm
  have f4 : decide (100 ≤ off) = true := decide_eq_true h4
  clear hm h4
  clear hr hc hl h0 h1 hu hn hu2 hz
  go_enter Try.func36, Try.ntmps36
  go_wp2_with fail
  have S0 := Aside0.mk (DecSt.new w (some ad) l.length c)
  refine (varint_yes k (w.heap.size + 1) (some ad) c l 1 off n _ S0.out.rd (Kd.C_below HR.out S0.out.bel) HC.out HL.out HU0.out HN0.out).mono ?_
  rintro e w1 ⟨rfl, hb, ht⟩
  have S1 := Aside0.mk (S0.out.turned ht hb)
  clear hb ht S0
  obtain ⟨p0, p1, p2⟩ := S1.out.pcells
  go_wp2_with fail
  refine (varint_yes k (w.heap.size + 1) (some ad) c l (1 + n) u m _ S1.out.rd (Kd.C_below HR.out S1.out.bel) HC.out HL.out HU1.out HM.out).mono ?_
  rintro e w2 ⟨rfl, hb, ht⟩
  have S2 := Aside0.mk (S1.out.turned ht hb)
  clear hb ht S1
  clear p0 p1 p2
  go_wp2_with fail
  refine (bits_Zag.calls u ago _ HZ.out).mono ?_
  rintro e w3 ⟨rfl, ⟨q, rfl⟩⟩
  have S3 := Aside0.mk (S2.out.drewN q)
  clear S2
  obtain ⟨p0, p1, p2⟩ := S3.out.pcells
  obtain ⟨r0, r1, r2, r3, r4, r5⟩ := S3.out.rcells
  obtain ⟨z0, z1, z2, z3, z4, z5⟩ := S3.out.rfree
  go_wp2
  refine bodyPost_ret (v := .tuple #[.agg #[.bool false, .string ⟨#[]⟩, .bool false, .string ⟨#[]⟩, .int .i64 0, .int .i64 0], .int .i64 0, .int .i64 10]) (by simp [results, Try.results36, go_sem, r0, r1, r2, r3, r4, r5]) rfl ⟨rfl, ?_⟩
  exact ((((((S3.out.set0 false).set1 ⟨#[]⟩).set2 false).set3 ⟨#[]⟩).set4 0).set5 0).bel

set_option maxHeartbeats 2000000 in
set_option maxRecDepth 100000 in
theorem decode_ago0 (k : Nat) (A : Option Addr) (c : Nat) (l : List Int) (first : Int) (off n u m ago : Int) (w : World) (hr : Kd.C (Kd.int .u8) w A l.length l) (hc : l.length ≤ c) (h0 : 0 < l.length) (h1 : rd l 0 ≤ 3) (h2 : 0 ≤ first) (h3 : first ≤ 1125899906842624) (hl : l.length ≤ 1000000000000000) (hu : rdNum k l 1 = some (off, n)) (hn : n ≠ 0) (hu2 : rdNum k l (1 + n) = some (u, m)) (hz : bits_Zag.f u = some ago) (hm : m ≠ 0) (h4 : off < 100) (h5 : ago < -first) :
    Calls Try.prog 36 #[.slice A l.length c, .int .i64 first] w fun e w' => e = .returned (.tuple #[.agg #[.bool false, .string ⟨#[]⟩, .bool false, .string ⟨#[]⟩, .int .i64 0, .int .i64 0], .int .i64 0, .int .i64 10]) ∧ Below w.heap.size w w' := by
  obtain ⟨ad, e, hx⟩ := Kd.at_int hr 0 (by decide) (by omega)
  cases e
  have qi : (0 < l.length) = True := eq_true (by omega)
  rw [show ((0 : Int)).toNat = 0 from rfl, Addr.add_zero'] at hx
  have hx' : ∀ o : Obj, (w.alloc o).cell? ad = some (.int .u8 (rd l 0)) := fun o => pw_cell_below (below_alloc (Below.refl _ _) o) hx
  have HX := Aside0.mk hx
  have f0 : ((l.length : Int) == 0) = false := by simpa using (by omega : ¬ (l.length = 0))
  have f1 : decide (3 < rd l 0) = false := decide_eq_false (by omega)
  have f2 : decide (first < 0) = false := decide_eq_false (by omega)
  have f3 : decide (1125899906842624 < first) = false := decide_eq_false (by omega)
  have HR := Aside0.mk hr
  have HC := Aside0.mk hc
  have HL := Aside0.mk hl
  have HU0 := Aside0.mk hu
  have HN0 := Aside0.mk hn
  have HU1 := Aside0.mk hu2
  have HZ := Aside0.mk hz
  have HM := Aside0.mk hm
  have f4 : decide (100 ≤ off) = false := decide_eq_false (by omega)
  have f5 : decide (ago < -first) = true := decide_eq_true h5
  clear hm h4 h5
  clear hr hc hl h0 h1 hu hn hu2 hz
  go_enter Try.func36, Try.ntmps36
  go_wp2_with fail
  have S0 := Aside0.mk (DecSt.new w (some ad) l.length c)
  refine (varint_yes k (w.heap.size + 1) (some ad) c l 1 off n _ S0.out.rd (Kd.C_below HR.out S0.out.bel) HC.out HL.out HU0.out HN0.out).mono ?_
  rintro e w1 ⟨rfl, hb, ht⟩
  have S1 := Aside0.mk (S0.out.turned ht hb)
  clear hb ht S0
  obtain ⟨p0, p1, p2⟩ := S1.out.pcells
  go_wp2_with fail
  refine (varint_yes k (w.heap.size + 1) (some ad) c l (1 + n) u m _ S1.out.rd (Kd.C_below HR.out S1.out.bel) HC.out HL.out HU1.out HM.out).mono ?_
  rintro e w2 ⟨rfl, hb, ht⟩
  have S2 := Aside0.mk (S1.out.turned ht hb)
  clear hb ht S1
  clear p0 p1 p2
  go_wp2_with fail
  refine (bits_Zag.calls u ago _ HZ.out).mono ?_
  rintro e w3 ⟨rfl, ⟨q, rfl⟩⟩
  have S3 := Aside0.mk (S2.out.drewN q)
  clear S2
  obtain ⟨p0, p1, p2⟩ := S3.out.pcells
  obtain ⟨r0, r1, r2, r3, r4, r5⟩ := S3.out.rcells
  obtain ⟨z0, z1, z2, z3, z4, z5⟩ := S3.out.rfree
  go_wp2
  refine bodyPost_ret (v := .tuple #[.agg #[.bool false, .string ⟨#[]⟩, .bool false, .string ⟨#[]⟩, .int .i64 0, .int .i64 0], .int .i64 0, .int .i64 10]) (by simp [results, Try.results36, go_sem, r0, r1, r2, r3, r4, r5]) rfl ⟨rfl, ?_⟩
  exact ((((((S3.out.set0 false).set1 ⟨#[]⟩).set2 false).set3 ⟨#[]⟩).set4 0).set5 0).bel

set_option maxHeartbeats 2000000 in
set_option maxRecDepth 100000 in
theorem decode_ago1 (k : Nat) (A : Option Addr) (c : Nat) (l : List Int) (first : Int) (off n u m ago : Int) (w : World) (hr : Kd.C (Kd.int .u8) w A l.length l) (hc : l.length ≤ c) (h0 : 0 < l.length) (h1 : rd l 0 ≤ 3) (h2 : 0 ≤ first) (h3 : first ≤ 1125899906842624) (hl : l.length ≤ 1000000000000000) (hu : rdNum k l 1 = some (off, n)) (hn : n ≠ 0) (hu2 : rdNum k l (1 + n) = some (u, m)) (hz : bits_Zag.f u = some ago) (hm : m ≠ 0) (h4 : off < 100) (h5 : -first ≤ ago) (h6 : 1125899906842624 - first < ago) :
    Calls Try.prog 36 #[.slice A l.length c, .int .i64 first] w fun e w' => e = .returned (.tuple #[.agg #[.bool false, .string ⟨#[]⟩, .bool false, .string ⟨#[]⟩, .int .i64 0, .int .i64 0], .int .i64 0, .int .i64 10]) ∧ Below w.heap.size w w' := by
  obtain ⟨ad, e, hx⟩ := Kd.at_int hr 0 (by decide) (by omega)
  cases e
  have qi : (0 < l.length) = True := eq_true (by omega)
  rw [show ((0 : Int)).toNat = 0 from rfl, Addr.add_zero'] at hx
  have hx' : ∀ o : Obj, (w.alloc o).cell? ad = some (.int .u8 (rd l 0)) := fun o => pw_cell_below (below_alloc (Below.refl _ _) o) hx
  have HX := Aside0.mk hx
  have f0 : ((l.length : Int) == 0) = false := by simpa using (by omega : ¬ (l.length = 0))
  have f1 : decide (3 < rd l 0) = false := decide_eq_false (by omega)
  have f2 : decide (first < 0) = false := decide_eq_false (by omega)
  have f3 : decide (1125899906842624 < first) = false := decide_eq_false (by omega)
  have HR := Aside0.mk hr
  have HC := Aside0.mk hc
  have HL := Aside0.mk hl
  have HU0 := Aside0.mk hu
  have HN0 := Aside0.mk hn
  have HU1 := Aside0.mk hu2
  have HZ := Aside0.mk hz
  have HM := Aside0.mk hm
  have f4 : decide (100 ≤ off) = false := decide_eq_false (by omega)
  have f5 : decide (ago < -first) = false := decide_eq_false (by omega)
  have f6 : decide (1125899906842624 - first < ago) = true := decide_eq_true h6
  clear hm h4 h5 h6
  clear hr hc hl h0 h1 hu hn hu2 hz
  go_enter Try.func36, Try.ntmps36
  go_wp2_with fail
  have S0 := Aside0.mk (DecSt.new w (some ad) l.length c)
  refine (varint_yes k (w.heap.size + 1) (some ad) c l 1 off n _ S0.out.rd (Kd.C_below HR.out S0.out.bel) HC.out HL.out HU0.out HN0.out).mono ?_
  rintro e w1 ⟨rfl, hb, ht⟩
  have S1 := Aside0.mk (S0.out.turned ht hb)
  clear hb ht S0
  obtain ⟨p0, p1, p2⟩ := S1.out.pcells
  go_wp2_with fail
  refine (varint_yes k (w.heap.size + 1) (some ad) c l (1 + n) u m _ S1.out.rd (Kd.C_below HR.out S1.out.bel) HC.out HL.out HU1.out HM.out).mono ?_
  rintro e w2 ⟨rfl, hb, ht⟩
  have S2 := Aside0.mk (S1.out.turned ht hb)
  clear hb ht S1
  clear p0 p1 p2
  go_wp2_with fail
  refine (bits_Zag.calls u ago _ HZ.out).mono ?_
  rintro e w3 ⟨rfl, ⟨q, rfl⟩⟩
  have S3 := Aside0.mk (S2.out.drewN q)
  clear S2
  obtain ⟨p0, p1, p2⟩ := S3.out.pcells
  obtain ⟨r0, r1, r2, r3, r4, r5⟩ := S3.out.rcells
  obtain ⟨z0, z1, z2, z3, z4, z5⟩ := S3.out.rfree
  go_wp2
  refine bodyPost_ret (v := .tuple #[.agg #[.bool false, .string ⟨#[]⟩, .bool false, .string ⟨#[]⟩, .int .i64 0, .int .i64 0], .int .i64 0, .int .i64 10]) (by simp [results, Try.results36, go_sem, r0, r1, r2, r3, r4, r5]) rfl ⟨rfl, ?_⟩
  exact ((((((S3.out.set0 false).set1 ⟨#[]⟩).set2 false).set3 ⟨#[]⟩).set4 0).set5 0).bel

set_option maxHeartbeats 2000000 in
set_option maxRecDepth 100000 in
theorem decode_good (k : Nat) (A : Option Addr) (c : Nat) (l : List Int) (first : Int) (off n u m ago : Int) (hk hv : Bool) (key val : ByteArray) (at3 at4 : Int) (b3 b4 : Bool) (w : World) (hr : Kd.C (Kd.int .u8) w A l.length l) (hc : l.length ≤ c) (h0 : 0 < l.length) (h1 : rd l 0 ≤ 3) (h2 : 0 ≤ first) (h3 : first ≤ 1125899906842624) (hl : l.length ≤ 1000000000000000) (hu : rdNum k l 1 = some (off, n)) (hn : n ≠ 0) (hu2 : rdNum k l (1 + n) = some (u, m)) (hz : bits_Zag.f u = some ago) (hm : m ≠ 0) (h40 : 0 ≤ off) (h4 : off < 100) (h5 : -first ≤ ago) (h6 : ago ≤ 1125899906842624 - first) (f7 : decide (0 < Go.bits BinOp.and IntKind.u8 (rd l 0) 1) = hk) (f8 : decide (0 < Go.bits BinOp.and IntKind.u8 (rd l 0) 2) = hv) (ht1 : rdText k l (1 + n + m) hk false = some (key, at3, b3)) (ht2 : rdText k l at3 hv b3 = some (val, at4, b4)) (h9 : b4 = false) (h10 : record_Check.f k hk key hv val (first + ago) off = some 0) :
    Calls Try.prog 36 #[.slice A l.length c, .int .i64 first] w fun e w' => e = .returned (.tuple #[.agg #[.bool hk, .string key, .bool hv, .string val, .int .i64 (first + ago), .int .i64 off], .int .i64 at4, .int .i64 0]) ∧ Below w.heap.size w w' := by
  obtain ⟨ad, e, hx⟩ := Kd.at_int hr 0 (by decide) (by omega)
  cases e
  have qi : (0 < l.length) = True := eq_true (by omega)
  rw [show ((0 : Int)).toNat = 0 from rfl, Addr.add_zero'] at hx
  have hx' : ∀ o : Obj, (w.alloc o).cell? ad = some (.int .u8 (rd l 0)) := fun o => pw_cell_below (below_alloc (Below.refl _ _) o) hx
  have HX := Aside0.mk hx
  have f0 : ((l.length : Int) == 0) = false := by simpa using (by omega : ¬ (l.length = 0))
  have f1 : decide (3 < rd l 0) = false := decide_eq_false (by omega)
  have f2 : decide (first < 0) = false := decide_eq_false (by omega)
  have f3 : decide (1125899906842624 < first) = false := decide_eq_false (by omega)
  have HR := Aside0.mk hr
  have HC := Aside0.mk hc
  have HL := Aside0.mk hl
  have HU0 := Aside0.mk hu
  have HN0 := Aside0.mk hn
  have HU1 := Aside0.mk hu2
  have HZ := Aside0.mk hz
  have HM := Aside0.mk hm
  have HT1 := Aside0.mk ht1
  have HT2 := Aside0.mk ht2
  have f4 : decide (100 ≤ off) = false := decide_eq_false (by omega)
  have f5 : decide (ago < -first) = false := decide_eq_false (by omega)
  have f6 : decide (1125899906842624 - first < ago) = false := decide_eq_false (by omega)
  have HK := Aside0.mk h10
  have H9 := Aside0.mk h9
  clear h10 h9
  clear hr hc hl h0 h1 hu hn hu2 hz hm ht1 ht2
  go_enter Try.func36, Try.ntmps36
  go_wp2_with fail
  have S0 := Aside0.mk (DecSt.new w (some ad) l.length c)
  refine (varint_yes k (w.heap.size + 1) (some ad) c l 1 off n _ S0.out.rd (Kd.C_below HR.out S0.out.bel) HC.out HL.out HU0.out HN0.out).mono ?_
  rintro e w1 ⟨rfl, hb, ht⟩
  have S1 := Aside0.mk (S0.out.turned ht hb)
  clear hb ht S0
  obtain ⟨p0, p1, p2⟩ := S1.out.pcells
  go_wp2_with fail
  refine (varint_yes k (w.heap.size + 1) (some ad) c l (1 + n) u m _ S1.out.rd (Kd.C_below HR.out S1.out.bel) HC.out HL.out HU1.out HM.out).mono ?_
  rintro e w2 ⟨rfl, hb, ht⟩
  have S2 := Aside0.mk (S1.out.turned ht hb)
  clear hb ht S1
  clear p0 p1 p2
  go_wp2_with fail
  refine (bits_Zag.calls u ago _ HZ.out).mono ?_
  rintro e w3 ⟨rfl, ⟨q, rfl⟩⟩
  obtain ⟨p0, p1, p2⟩ := S2.out.pcells
  obtain ⟨r0, r1, r2, r3, r4, r5⟩ := S2.out.rcells
  obtain ⟨z0, z1, z2, z3, z4, z5⟩ := S2.out.rfree
  have hx3 := pw_cell_below S2.out.bel HX.out
  go_wp2
  refine wp_region_still_tail 16 (by kernel_rfl) (by kernel_rfl) ?_
  change wpStill _ _ (World.drew _) _ _ _
  simp only [List.take_succ_cons, List.take_zero, List.drop_succ_cons, List.drop_zero]
  repeat still_step
  try refine wpStill_nil ?_
  have S4 := Aside0.mk (S2.out.drewN (q + 1))
  change wpList _ _ _ _ _ (w2.drewN (q + 1))
  clear p0 p1 p2 r0 r1 r2 r3 r4 r5 z0 z1 z2 z3 z4 z5 hx3 S2
  generalize w2.drewN (q + 1) = w4 at S4 ⊢
  obtain ⟨p0, p1, p2⟩ := S4.out.pcells
  obtain ⟨r0, r1, r2, r3, r4, r5⟩ := S4.out.rcells
  obtain ⟨z0, z1, z2, z3, z4, z5⟩ := S4.out.rfree
  go_wp2_with fail
  have S5 := Aside0.mk ((((((S4.out.set0 hk).set1 ⟨#[]⟩).set2 hv).set3 ⟨#[]⟩).set4 (first + ago)).set5 off)
  refine (text_calls k (w.heap.size + 1) (some ad) c l (1 + n + m) at3 hk false b3 key _ S5.out.rd (fun W ht => Kd.C_below HR.out (ht.below S5.out.bel (by omega))) HC.out HL.out HT1.out).mono ?_
  rintro e w6 ⟨rfl, hb, ht⟩
  have S6 := Aside0.mk (S5.out.turned ht hb)
  clear p0 p1 p2 r0 r1 r2 r3 r4 r5 z0 z1 z2 z3 z4 z5 hb ht S4 S5
  obtain ⟨p0, p1, p2⟩ := S6.out.pcells
  obtain ⟨r0, r1, r2, r3, r4, r5⟩ := S6.out.rcells
  obtain ⟨z0, z1, z2, z3, z4, z5⟩ := S6.out.rfree
  go_wp2_with fail
  have S7 := Aside0.mk (S6.out.set1 key)
  refine (text_calls k (w.heap.size + 1) (some ad) c l at3 at4 hv b3 b4 val _ S7.out.rd (fun W ht => Kd.C_below HR.out (ht.below S7.out.bel (by omega))) HC.out HL.out HT2.out).mono ?_
  rintro e w8 ⟨rfl, hb, ht⟩
  have S8 := Aside0.mk (S7.out.turned ht hb)
  clear p0 p1 p2 r0 r1 r2 r3 r4 r5 z0 z1 z2 z3 z4 z5 hb ht S6 S7
  obtain rfl : b4 = false := H9.out
  obtain ⟨p0, p1, p2⟩ := S8.out.pcells
  obtain ⟨r0, r1, r2, r3, r4, r5⟩ := S8.out.rcells
  obtain ⟨z0, z1, z2, z3, z4, z5⟩ := S8.out.rfree
  go_wp2_with fail
  have S9 := Aside0.mk (S8.out.set3 val)
  refine (record_Check.calls k hk key hv val (first + ago) off 0 _ HK.out).mono ?_
  rintro e w10 ⟨rfl, hb⟩
  have S10 := Aside0.mk (S9.out.below hb)
  clear p0 p1 p2 r0 r1 r2 r3 r4 r5 z0 z1 z2 z3 z4 z5 hb S8 S9
  obtain ⟨p0, p1, p2⟩ := S10.out.pcells
  obtain ⟨r0, r1, r2, r3, r4, r5⟩ := S10.out.rcells
  obtain ⟨z0, z1, z2, z3, z4, z5⟩ := S10.out.rfree
  go_wp2_with fail
  go_region
  all_goals go_wp2
  refine bodyPost_ret (v := .tuple #[.agg #[.bool hk, .string key, .bool hv, .string val, .int .i64 (first + ago), .int .i64 off], .int .i64 at4, .int .i64 0]) (by simp [results, Try.results36, go_sem, r0, r1, r2, r3, r4, r5]) rfl ⟨rfl, ?_⟩
  exact (((((((S10.out.set0 hk).set1 key).set2 hv).set3 val).set4 (first + ago)).set5 off).drewN 1).bel

set_option maxHeartbeats 2000000 in
set_option maxRecDepth 100000 in
theorem decode_over (k : Nat) (A : Option Addr) (c : Nat) (l : List Int) (first : Int) (off n u m ago : Int) (hk hv : Bool) (key val : ByteArray) (at3 at4 : Int) (b3 b4 : Bool) (w : World) (hr : Kd.C (Kd.int .u8) w A l.length l) (hc : l.length ≤ c) (h0 : 0 < l.length) (h1 : rd l 0 ≤ 3) (h2 : 0 ≤ first) (h3 : first ≤ 1125899906842624) (hl : l.length ≤ 1000000000000000) (hu : rdNum k l 1 = some (off, n)) (hn : n ≠ 0) (hu2 : rdNum k l (1 + n) = some (u, m)) (hz : bits_Zag.f u = some ago) (hm : m ≠ 0) (h40 : 0 ≤ off) (h4 : off < 100) (h5 : -first ≤ ago) (h6 : ago ≤ 1125899906842624 - first) (f7 : decide (0 < Go.bits BinOp.and IntKind.u8 (rd l 0) 1) = hk) (f8 : decide (0 < Go.bits BinOp.and IntKind.u8 (rd l 0) 2) = hv) (ht1 : rdText k l (1 + n + m) hk false = some (key, at3, b3)) (ht2 : rdText k l at3 hv b3 = some (val, at4, b4)) (h9 : b4 = true) :
    Calls Try.prog 36 #[.slice A l.length c, .int .i64 first] w fun e w' => e = .returned (.tuple #[.agg #[.bool false, .string ⟨#[]⟩, .bool false, .string ⟨#[]⟩, .int .i64 0, .int .i64 0], .int .i64 0, .int .i64 10]) ∧ Below w.heap.size w w' := by
  obtain ⟨ad, e, hx⟩ := Kd.at_int hr 0 (by decide) (by omega)
  cases e
  have qi : (0 < l.length) = True := eq_true (by omega)
  rw [show ((0 : Int)).toNat = 0 from rfl, Addr.add_zero'] at hx
  have hx' : ∀ o : Obj, (w.alloc o).cell? ad = some (.int .u8 (rd l 0)) := fun o => pw_cell_below (below_alloc (Below.refl _ _) o) hx
  have HX := Aside0.mk hx
  have f0 : ((l.length : Int) == 0) = false := by simpa using (by omega : ¬ (l.length = 0))
  have f1 : decide (3 < rd l 0) = false := decide_eq_false (by omega)
  have f2 : decide (first < 0) = false := decide_eq_false (by omega)
  have f3 : decide (1125899906842624 < first) = false := decide_eq_false (by omega)
  have HR := Aside0.mk hr
  have HC := Aside0.mk hc
  have HL := Aside0.mk hl
  have HU0 := Aside0.mk hu
  have HN0 := Aside0.mk hn
  have HU1 := Aside0.mk hu2
  have HZ := Aside0.mk hz
  have HM := Aside0.mk hm
  have HT1 := Aside0.mk ht1
  have HT2 := Aside0.mk ht2
  have f4 : decide (100 ≤ off) = false := decide_eq_false (by omega)
  have f5 : decide (ago < -first) = false := decide_eq_false (by omega)
  have f6 : decide (1125899906842624 - first < ago) = false := decide_eq_false (by omega)
  have H9 := Aside0.mk h9
  clear h9
  clear hr hc hl h0 h1 hu hn hu2 hz hm ht1 ht2
  go_enter Try.func36, Try.ntmps36
  go_wp2_with fail
  have S0 := Aside0.mk (DecSt.new w (some ad) l.length c)
  refine (varint_yes k (w.heap.size + 1) (some ad) c l 1 off n _ S0.out.rd (Kd.C_below HR.out S0.out.bel) HC.out HL.out HU0.out HN0.out).mono ?_
  rintro e w1 ⟨rfl, hb, ht⟩
  have S1 := Aside0.mk (S0.out.turned ht hb)
  clear hb ht S0
  obtain ⟨p0, p1, p2⟩ := S1.out.pcells
  go_wp2_with fail
  refine (varint_yes k (w.heap.size + 1) (some ad) c l (1 + n) u m _ S1.out.rd (Kd.C_below HR.out S1.out.bel) HC.out HL.out HU1.out HM.out).mono ?_
  rintro e w2 ⟨rfl, hb, ht⟩
  have S2 := Aside0.mk (S1.out.turned ht hb)
  clear hb ht S1
  clear p0 p1 p2
  go_wp2_with fail
  refine (bits_Zag.calls u ago _ HZ.out).mono ?_
  rintro e w3 ⟨rfl, ⟨q, rfl⟩⟩
  obtain ⟨p0, p1, p2⟩ := S2.out.pcells
  obtain ⟨r0, r1, r2, r3, r4, r5⟩ := S2.out.rcells
  obtain ⟨z0, z1, z2, z3, z4, z5⟩ := S2.out.rfree
  have hx3 := pw_cell_below S2.out.bel HX.out
  go_wp2
  refine wp_region_still_tail 16 (by kernel_rfl) (by kernel_rfl) ?_
  change wpStill _ _ (World.drew _) _ _ _
  simp only [List.take_succ_cons, List.take_zero, List.drop_succ_cons, List.drop_zero]
  repeat still_step
  try refine wpStill_nil ?_
  have S4 := Aside0.mk (S2.out.drewN (q + 1))
  change wpList _ _ _ _ _ (w2.drewN (q + 1))
  clear p0 p1 p2 r0 r1 r2 r3 r4 r5 z0 z1 z2 z3 z4 z5 hx3 S2
  generalize w2.drewN (q + 1) = w4 at S4 ⊢
  obtain ⟨p0, p1, p2⟩ := S4.out.pcells
  obtain ⟨r0, r1, r2, r3, r4, r5⟩ := S4.out.rcells
  obtain ⟨z0, z1, z2, z3, z4, z5⟩ := S4.out.rfree
  go_wp2_with fail
  have S5 := Aside0.mk ((((((S4.out.set0 hk).set1 ⟨#[]⟩).set2 hv).set3 ⟨#[]⟩).set4 (first + ago)).set5 off)
  refine (text_calls k (w.heap.size + 1) (some ad) c l (1 + n + m) at3 hk false b3 key _ S5.out.rd (fun W ht => Kd.C_below HR.out (ht.below S5.out.bel (by omega))) HC.out HL.out HT1.out).mono ?_
  rintro e w6 ⟨rfl, hb, ht⟩
  have S6 := Aside0.mk (S5.out.turned ht hb)
  clear p0 p1 p2 r0 r1 r2 r3 r4 r5 z0 z1 z2 z3 z4 z5 hb ht S4 S5
  obtain ⟨p0, p1, p2⟩ := S6.out.pcells
  obtain ⟨r0, r1, r2, r3, r4, r5⟩ := S6.out.rcells
  obtain ⟨z0, z1, z2, z3, z4, z5⟩ := S6.out.rfree
  go_wp2_with fail
  have S7 := Aside0.mk (S6.out.set1 key)
  refine (text_calls k (w.heap.size + 1) (some ad) c l at3 at4 hv b3 b4 val _ S7.out.rd (fun W ht => Kd.C_below HR.out (ht.below S7.out.bel (by omega))) HC.out HL.out HT2.out).mono ?_
  rintro e w8 ⟨rfl, hb, ht⟩
  have S8 := Aside0.mk (S7.out.turned ht hb)
  clear p0 p1 p2 r0 r1 r2 r3 r4 r5 z0 z1 z2 z3 z4 z5 hb ht S6 S7
  obtain rfl : b4 = true := H9.out
  obtain ⟨p0, p1, p2⟩ := S8.out.pcells
  obtain ⟨r0, r1, r2, r3, r4, r5⟩ := S8.out.rcells
  obtain ⟨z0, z1, z2, z3, z4, z5⟩ := S8.out.rfree
  go_wp2
  refine bodyPost_ret (v := .tuple #[.agg #[.bool false, .string ⟨#[]⟩, .bool false, .string ⟨#[]⟩, .int .i64 0, .int .i64 0], .int .i64 0, .int .i64 10]) (by simp [results, Try.results36, go_sem, r0, r1, r2, r3, r4, r5]) rfl ⟨rfl, ?_⟩
  exact (((((((S8.out.set3 val).set0 false).set1 ⟨#[]⟩).set2 false).set3 ⟨#[]⟩).set4 0).set5 0).bel

set_option maxHeartbeats 2000000 in
set_option maxRecDepth 100000 in
theorem decode_wrong (k : Nat) (A : Option Addr) (c : Nat) (l : List Int) (first : Int) (off n u m ago : Int) (hk hv : Bool) (key val : ByteArray) (at3 at4 : Int) (b3 b4 : Bool) (e : Int) (w : World) (hr : Kd.C (Kd.int .u8) w A l.length l) (hc : l.length ≤ c) (h0 : 0 < l.length) (h1 : rd l 0 ≤ 3) (h2 : 0 ≤ first) (h3 : first ≤ 1125899906842624) (hl : l.length ≤ 1000000000000000) (hu : rdNum k l 1 = some (off, n)) (hn : n ≠ 0) (hu2 : rdNum k l (1 + n) = some (u, m)) (hz : bits_Zag.f u = some ago) (hm : m ≠ 0) (h40 : 0 ≤ off) (h4 : off < 100) (h5 : -first ≤ ago) (h6 : ago ≤ 1125899906842624 - first) (f7 : decide (0 < Go.bits BinOp.and IntKind.u8 (rd l 0) 1) = hk) (f8 : decide (0 < Go.bits BinOp.and IntKind.u8 (rd l 0) 2) = hv) (ht1 : rdText k l (1 + n + m) hk false = some (key, at3, b3)) (ht2 : rdText k l at3 hv b3 = some (val, at4, b4)) (h9 : b4 = false) (h10 : record_Check.f k hk key hv val (first + ago) off = some e) (h11 : e ≠ 0) :
    Calls Try.prog 36 #[.slice A l.length c, .int .i64 first] w fun e w' => e = .returned (.tuple #[.agg #[.bool false, .string ⟨#[]⟩, .bool false, .string ⟨#[]⟩, .int .i64 0, .int .i64 0], .int .i64 0, .int .i64 10]) ∧ Below w.heap.size w w' := by
  obtain ⟨ad, e, hx⟩ := Kd.at_int hr 0 (by decide) (by omega)
  cases e
  have qi : (0 < l.length) = True := eq_true (by omega)
  rw [show ((0 : Int)).toNat = 0 from rfl, Addr.add_zero'] at hx
  have hx' : ∀ o : Obj, (w.alloc o).cell? ad = some (.int .u8 (rd l 0)) := fun o => pw_cell_below (below_alloc (Below.refl _ _) o) hx
  have HX := Aside0.mk hx
  have f0 : ((l.length : Int) == 0) = false := by simpa using (by omega : ¬ (l.length = 0))
  have f1 : decide (3 < rd l 0) = false := decide_eq_false (by omega)
  have f2 : decide (first < 0) = false := decide_eq_false (by omega)
  have f3 : decide (1125899906842624 < first) = false := decide_eq_false (by omega)
  have HR := Aside0.mk hr
  have HC := Aside0.mk hc
  have HL := Aside0.mk hl
  have HU0 := Aside0.mk hu
  have HN0 := Aside0.mk hn
  have HU1 := Aside0.mk hu2
  have HZ := Aside0.mk hz
  have HM := Aside0.mk hm
  have HT1 := Aside0.mk ht1
  have HT2 := Aside0.mk ht2
  have f4 : decide (100 ≤ off) = false := decide_eq_false (by omega)
  have f5 : decide (ago < -first) = false := decide_eq_false (by omega)
  have f6 : decide (1125899906842624 - first < ago) = false := decide_eq_false (by omega)
  have HK := Aside0.mk h10
  have H9 := Aside0.mk h9
  have f11 : (e != 0) = true := bne_iff_ne.mpr h11
  clear h10 h9 h11
  clear hr hc hl h0 h1 hu hn hu2 hz hm ht1 ht2
  go_enter Try.func36, Try.ntmps36
  go_wp2_with fail
  have S0 := Aside0.mk (DecSt.new w (some ad) l.length c)
  refine (varint_yes k (w.heap.size + 1) (some ad) c l 1 off n _ S0.out.rd (Kd.C_below HR.out S0.out.bel) HC.out HL.out HU0.out HN0.out).mono ?_
  rintro e w1 ⟨rfl, hb, ht⟩
  have S1 := Aside0.mk (S0.out.turned ht hb)
  clear hb ht S0
  obtain ⟨p0, p1, p2⟩ := S1.out.pcells
  go_wp2_with fail
  refine (varint_yes k (w.heap.size + 1) (some ad) c l (1 + n) u m _ S1.out.rd (Kd.C_below HR.out S1.out.bel) HC.out HL.out HU1.out HM.out).mono ?_
  rintro e w2 ⟨rfl, hb, ht⟩
  have S2 := Aside0.mk (S1.out.turned ht hb)
  clear hb ht S1
  clear p0 p1 p2
  go_wp2_with fail
  refine (bits_Zag.calls u ago _ HZ.out).mono ?_
  rintro e w3 ⟨rfl, ⟨q, rfl⟩⟩
  obtain ⟨p0, p1, p2⟩ := S2.out.pcells
  obtain ⟨r0, r1, r2, r3, r4, r5⟩ := S2.out.rcells
  obtain ⟨z0, z1, z2, z3, z4, z5⟩ := S2.out.rfree
  have hx3 := pw_cell_below S2.out.bel HX.out
  go_wp2
  refine wp_region_still_tail 16 (by kernel_rfl) (by kernel_rfl) ?_
  change wpStill _ _ (World.drew _) _ _ _
  simp only [List.take_succ_cons, List.take_zero, List.drop_succ_cons, List.drop_zero]
  repeat still_step
  try refine wpStill_nil ?_
  have S4 := Aside0.mk (S2.out.drewN (q + 1))
  change wpList _ _ _ _ _ (w2.drewN (q + 1))
  clear p0 p1 p2 r0 r1 r2 r3 r4 r5 z0 z1 z2 z3 z4 z5 hx3 S2
  generalize w2.drewN (q + 1) = w4 at S4 ⊢
  obtain ⟨p0, p1, p2⟩ := S4.out.pcells
  obtain ⟨r0, r1, r2, r3, r4, r5⟩ := S4.out.rcells
  obtain ⟨z0, z1, z2, z3, z4, z5⟩ := S4.out.rfree
  go_wp2_with fail
  have S5 := Aside0.mk ((((((S4.out.set0 hk).set1 ⟨#[]⟩).set2 hv).set3 ⟨#[]⟩).set4 (first + ago)).set5 off)
  refine (text_calls k (w.heap.size + 1) (some ad) c l (1 + n + m) at3 hk false b3 key _ S5.out.rd (fun W ht => Kd.C_below HR.out (ht.below S5.out.bel (by omega))) HC.out HL.out HT1.out).mono ?_
  rintro e w6 ⟨rfl, hb, ht⟩
  have S6 := Aside0.mk (S5.out.turned ht hb)
  clear p0 p1 p2 r0 r1 r2 r3 r4 r5 z0 z1 z2 z3 z4 z5 hb ht S4 S5
  obtain ⟨p0, p1, p2⟩ := S6.out.pcells
  obtain ⟨r0, r1, r2, r3, r4, r5⟩ := S6.out.rcells
  obtain ⟨z0, z1, z2, z3, z4, z5⟩ := S6.out.rfree
  go_wp2_with fail
  have S7 := Aside0.mk (S6.out.set1 key)
  refine (text_calls k (w.heap.size + 1) (some ad) c l at3 at4 hv b3 b4 val _ S7.out.rd (fun W ht => Kd.C_below HR.out (ht.below S7.out.bel (by omega))) HC.out HL.out HT2.out).mono ?_
  rintro e w8 ⟨rfl, hb, ht⟩
  have S8 := Aside0.mk (S7.out.turned ht hb)
  clear p0 p1 p2 r0 r1 r2 r3 r4 r5 z0 z1 z2 z3 z4 z5 hb ht S6 S7
  obtain rfl : b4 = false := H9.out
  obtain ⟨p0, p1, p2⟩ := S8.out.pcells
  obtain ⟨r0, r1, r2, r3, r4, r5⟩ := S8.out.rcells
  obtain ⟨z0, z1, z2, z3, z4, z5⟩ := S8.out.rfree
  go_wp2_with fail
  have S9 := Aside0.mk (S8.out.set3 val)
  refine (record_Check.calls k hk key hv val (first + ago) off e _ HK.out).mono ?_
  rintro e w10 ⟨rfl, hb⟩
  have S10 := Aside0.mk (S9.out.below hb)
  clear p0 p1 p2 r0 r1 r2 r3 r4 r5 z0 z1 z2 z3 z4 z5 hb S8 S9
  obtain ⟨p0, p1, p2⟩ := S10.out.pcells
  obtain ⟨r0, r1, r2, r3, r4, r5⟩ := S10.out.rcells
  obtain ⟨z0, z1, z2, z3, z4, z5⟩ := S10.out.rfree
  go_wp2
  refine bodyPost_ret (v := .tuple #[.agg #[.bool false, .string ⟨#[]⟩, .bool false, .string ⟨#[]⟩, .int .i64 0, .int .i64 0], .int .i64 0, .int .i64 10]) (by simp [results, Try.results36, go_sem, r0, r1, r2, r3, r4, r5]) rfl ⟨rfl, ?_⟩
  exact ((((((S10.out.set0 false).set1 ⟨#[]⟩).set2 false).set3 ⟨#[]⟩).set4 0).set5 0).bel

/-- What Decode tells: the record, the place behind it, the error. -/
def record_Decode.bad : Option (Bool × ByteArray × Bool × ByteArray × Int × Int × Int × Int) := some (false, ⟨#[]⟩, false, ⟨#[]⟩, 0, 0, 0, 10)
def record_Decode.f (k : Nat) (l : List Int) (first : Int) : Option (Bool × ByteArray × Bool × ByteArray × Int × Int × Int × Int) :=
  if ¬ l.length ≤ 1000000000000000 then none else if l.length = 0 then record_Decode.bad else if 3 < rd l 0 then record_Decode.bad else if first < 0 then record_Decode.bad else if 1125899906842624 < first then record_Decode.bad
  else (rdNum k l 1).bind fun t => if t.2 = 0 then record_Decode.bad else (rdNum k l (1 + t.2)).bind fun u => (bits_Zag.f u.1).bind fun ago =>
    if u.2 = 0 then record_Decode.bad else if 100 ≤ t.1 then record_Decode.bad else if ago < -first then record_Decode.bad else if 1125899906842624 - first < ago then record_Decode.bad
    else (rdText k l (1 + t.2 + u.2) (decide (0 < Go.bits BinOp.and IntKind.u8 (rd l 0) 1)) false).bind fun x => (rdText k l x.2.1 (decide (0 < Go.bits BinOp.and IntKind.u8 (rd l 0) 2)) x.2.2).bind fun y =>
      if y.2.2 = true then record_Decode.bad else (record_Check.f k (decide (0 < Go.bits BinOp.and IntKind.u8 (rd l 0) 1)) x.1 (decide (0 < Go.bits BinOp.and IntKind.u8 (rd l 0) 2)) y.1 (first + ago) t.1).bind fun e =>
        if e = 0 then some (decide (0 < Go.bits BinOp.and IntKind.u8 (rd l 0) 1), x.1, decide (0 < Go.bits BinOp.and IntKind.u8 (rd l 0) 2), y.1, first + ago, t.1, y.2.1, 0) else record_Decode.bad
theorem rdNum.mono (k : Nat) (l : List Int) (at_ : Int) : LeO (rdNum k l at_) (rdNum (k + 1) l at_) := by
  unfold rdNum
  exact LeO.bind (bits_Unvarint.mono _ _) (fun _ => LeO.refl _)
theorem rdText.mono (k : Nat) (l : List Int) (at_ : Int) (is bad : Bool) : LeO (rdText k l at_ is bad) (rdText (k + 1) l at_ is bad) := by
  unfold rdText
  exact LeO.ite (LeO.refl _) (LeO.bind (rdNum.mono _ _ _) (fun _ => LeO.refl _))
theorem record_Decode.mono : ∀ a0 a1 k, LeO (record_Decode.f k a0 a1) (record_Decode.f (k + 1) a0 a1) := by
  intro l first k
  unfold record_Decode.f
  refine LeO.ite (LeO.refl _) (LeO.ite (LeO.refl _) (LeO.ite (LeO.refl _) (LeO.ite (LeO.refl _) (LeO.ite (LeO.refl _) ?_))))
  refine LeO.bind (rdNum.mono _ _ _) (fun _ => LeO.ite (LeO.refl _) (LeO.bind (rdNum.mono _ _ _) (fun _ => LeO.bind (LeO.refl _) (fun _ => ?_))))
  refine LeO.ite (LeO.refl _) (LeO.ite (LeO.refl _) (LeO.ite (LeO.refl _) (LeO.ite (LeO.refl _) ?_)))
  refine LeO.bind (rdText.mono _ _ _ _ _) (fun _ => LeO.bind (rdText.mono _ _ _ _ _) (fun _ => LeO.ite (LeO.refl _) (LeO.bind (record_Check.mono _ _ _ _ _ _ _) (fun _ => LeO.refl _))))
theorem record_Decode.calls (k : Nat) (A0 : Option Addr) (c0 : Nat) (l0 : List Int) (a1 : Int) (r1 : Bool) (r2 : ByteArray) (r3 : Bool) (r4 : ByteArray) (r5 : Int) (r6 : Int) (r7 : Int) (r8 : Int) (w : World) (hr0 : Kd.C (Kd.int .u8) w A0 l0.length l0) (hc0 : l0.length ≤ c0) (h : record_Decode.f k l0 a1 = some (r1, r2, r3, r4, r5, r6, r7, r8)) :
    Calls Try.prog 36 #[.slice A0 l0.length c0, .int .i64 a1] w fun e w' => e = .returned (.tuple #[.agg #[.bool r1, .string r2, .bool r3, .string r4, .int .i64 r5, .int .i64 r6], .int .i64 r7, .int .i64 r8]) ∧ Below w.heap.size w w' := by
  have bad : ∀ {r}, record_Decode.bad = some r → r = (false, ⟨#[]⟩, false, ⟨#[]⟩, 0, 0, 0, 10) := fun h => (Option.some.inj h).symm
  unfold record_Decode.f at h
  by_cases hl : l0.length ≤ 1000000000000000
  case neg => rw [if_pos hl] at h; cases h
  rw [if_neg (not_not_intro hl)] at h
  by_cases h0 : l0.length = 0
  · rw [if_pos h0] at h
    have q := bad h; simp only [Prod.mk.injEq] at q; obtain ⟨rfl, rfl, rfl, rfl, rfl, rfl, rfl, rfl⟩ := q
    exact decode_empty k A0 c0 l0 a1 w hr0 hc0 h0
  rw [if_neg h0] at h
  by_cases h1 : 3 < rd l0 0
  · rw [if_pos h1] at h
    have q := bad h; simp only [Prod.mk.injEq] at q; obtain ⟨rfl, rfl, rfl, rfl, rfl, rfl, rfl, rfl⟩ := q
    exact decode_flags k A0 c0 l0 a1 w hr0 hc0 (by omega) h1
  rw [if_neg h1] at h
  by_cases h2 : a1 < 0
  · rw [if_pos h2] at h
    have q := bad h; simp only [Prod.mk.injEq] at q; obtain ⟨rfl, rfl, rfl, rfl, rfl, rfl, rfl, rfl⟩ := q
    exact decode_first0 k A0 c0 l0 a1 w hr0 hc0 (by omega) (by omega) h2
  rw [if_neg h2] at h
  by_cases h3 : 1125899906842624 < a1
  · rw [if_pos h3] at h
    have q := bad h; simp only [Prod.mk.injEq] at q; obtain ⟨rfl, rfl, rfl, rfl, rfl, rfl, rfl, rfl⟩ := q
    exact decode_first1 k A0 c0 l0 a1 w hr0 hc0 (by omega) (by omega) (by omega) h3
  rw [if_neg h3] at h
  obtain ⟨⟨off, n⟩, hu, h⟩ := Option.bind_eq_some_iff.mp h
  dsimp only at h
  by_cases hn : n = 0
  · rw [if_pos hn] at h
    have q := bad h; simp only [Prod.mk.injEq] at q; obtain ⟨rfl, rfl, rfl, rfl, rfl, rfl, rfl, rfl⟩ := q
    subst hn
    exact decode_none1 k A0 c0 l0 a1 off w hr0 hc0 (by omega) (by omega) (by omega) (by omega) hl hu
  rw [if_neg hn] at h
  obtain ⟨⟨u, m⟩, hu2, h⟩ := Option.bind_eq_some_iff.mp h
  dsimp only at h
  obtain ⟨ago, hz, h⟩ := Option.bind_eq_some_iff.mp h
  by_cases hm : m = 0
  · rw [if_pos hm] at h
    have q := bad h; simp only [Prod.mk.injEq] at q; obtain ⟨rfl, rfl, rfl, rfl, rfl, rfl, rfl, rfl⟩ := q
    subst hm
    exact decode_none2 k A0 c0 l0 a1 off n u ago w hr0 hc0 (by omega) (by omega) (by omega) (by omega) hl hu hn hu2 hz
  rw [if_neg hm] at h
  by_cases h4 : 100 ≤ off
  · rw [if_pos h4] at h
    have q := bad h; simp only [Prod.mk.injEq] at q; obtain ⟨rfl, rfl, rfl, rfl, rfl, rfl, rfl, rfl⟩ := q
    exact decode_off k A0 c0 l0 a1 off n u m ago w hr0 hc0 (by omega) (by omega) (by omega) (by omega) hl hu hn hu2 hz hm h4
  rw [if_neg h4] at h
  by_cases h5 : ago < -a1
  · rw [if_pos h5] at h
    have q := bad h; simp only [Prod.mk.injEq] at q; obtain ⟨rfl, rfl, rfl, rfl, rfl, rfl, rfl, rfl⟩ := q
    exact decode_ago0 k A0 c0 l0 a1 off n u m ago w hr0 hc0 (by omega) (by omega) (by omega) (by omega) hl hu hn hu2 hz hm (by omega) h5
  rw [if_neg h5] at h
  by_cases h6 : 1125899906842624 - a1 < ago
  · rw [if_pos h6] at h
    have q := bad h; simp only [Prod.mk.injEq] at q; obtain ⟨rfl, rfl, rfl, rfl, rfl, rfl, rfl, rfl⟩ := q
    exact decode_ago1 k A0 c0 l0 a1 off n u m ago w hr0 hc0 (by omega) (by omega) (by omega) (by omega) hl hu hn hu2 hz hm (by omega) (by omega) h6
  rw [if_neg h6] at h
  obtain ⟨⟨key, at3, b3⟩, ht1, h⟩ := Option.bind_eq_some_iff.mp h
  dsimp only at h
  obtain ⟨⟨val, at4, b4⟩, ht2, h⟩ := Option.bind_eq_some_iff.mp h
  dsimp only at h
  have hoff : 0 ≤ off := (rdNum_tells hu).2.1
  by_cases h9 : b4 = true
  · rw [if_pos h9] at h
    have q := bad h; simp only [Prod.mk.injEq] at q; obtain ⟨rfl, rfl, rfl, rfl, rfl, rfl, rfl, rfl⟩ := q
    exact decode_over k A0 c0 l0 a1 off n u m ago _ _ key val at3 at4 b3 b4 w hr0 hc0 (by omega) (by omega) (by omega) (by omega) hl hu hn hu2 hz hm hoff (by omega) (by omega) (by omega) rfl rfl ht1 ht2 h9
  rw [if_neg h9] at h
  have h9' : b4 = false := by simpa using h9
  obtain ⟨e, hk, h⟩ := Option.bind_eq_some_iff.mp h
  by_cases h10 : e = 0
  · rw [if_pos h10] at h
    have q := (Option.some.inj h).symm; simp only [Prod.mk.injEq] at q; obtain ⟨rfl, rfl, rfl, rfl, rfl, rfl, rfl, rfl⟩ := q
    exact decode_good k A0 c0 l0 a1 _ n u m ago _ _ _ _ at3 _ b3 b4 w hr0 hc0 (by omega) (by omega) (by omega) (by omega) hl hu hn hu2 hz hm hoff (by omega) (by omega) (by omega) rfl rfl ht1 ht2 h9' (by rw [h10] at hk; exact hk)
  · rw [if_neg h10] at h
    have q := bad h; simp only [Prod.mk.injEq] at q; obtain ⟨rfl, rfl, rfl, rfl, rfl, rfl, rfl, rfl⟩ := q
    exact decode_wrong k A0 c0 l0 a1 off n u m ago _ _ key val at3 at4 b3 b4 e w hr0 hc0 (by omega) (by omega) (by omega) (by omega) hl hu hn hu2 hz hm hoff (by omega) (by omega) (by omega) rfl rfl ht1 ht2 h9' hk h10

/-! ### bytes_Equal: function 37 -/
def bytes_Equal.f (l0 : List Int) (l1 : List Int) : Option (Bool) := some ((strOfNums l0).toList == (strOfNums l1).toList)
set_option maxHeartbeats 8000000 in
set_option maxRecDepth 100000 in
theorem bytes_Equal.calls (A0 : Option Addr) (c0 : Nat) (l0 : List Int) (A1 : Option Addr) (c1 : Nat) (l1 : List Int) (r : Bool) (w : World) (hr0 : Kd.C (Kd.int .u8) w A0 l0.length l0) (hc0 : l0.length ≤ c0) (hr1 : Kd.C (Kd.int .u8) w A1 l1.length l1) (hc1 : l1.length ≤ c1) (h : bytes_Equal.f l0 l1 = some r) :
    Calls Try.prog 37 #[.slice A0 l0.length c0, .slice A1 l1.length c1] w fun e w' => e = .returned (.bool r) ∧ Drawn0 w w' := by
  have HR0 := Aside0.mk hr0
  have HC0 := Aside0.mk hc0
  clear hr0 hc0
  have HR1 := Aside0.mk hr1
  have HC1 := Aside0.mk hc1
  clear hr1 hc1
  have H : (some ((strOfNums l0).toList == (strOfNums l1).toList)) = some r := h
  clear h
  obtain rfl := Option.some.inj H
  have hcv3 := Kd.C_string (P := Try.prog) (A := A0) (c := c0) Try.underlying27 Try.underlying5 Try.underlying9 HR0.out
  have hcv4 := Kd.C_string (P := Try.prog) (A := A1) (c := c1) Try.underlying27 Try.underlying5 Try.underlying9 HR1.out
  go_enter Try.func37, Try.ntmps37
  go_wp2
  go_ret
  exact ⟨by first | rfl | (simp; done) | (simp [*]; done) | exact congrArg Value.bool (ne_empty _) | exact congrArg Value.bool (eq_empty _), by repeat (first | exact Drawn0.refl _ | apply Drawn0.step)⟩

end Go.Proofs.Ytgmeellapjimgaa.PBb

-- written by a program of this session (wip/tools/pr.py, over the kit's printer): not by hand
namespace Go.Proofs.Ytgmeellapjimgaa.PBb
open Go.RowKit Go.Proofs.YtgmeellapjimgaaW.PrintWords Go.Proofs.YtgmeellapjimgaaW.PrintLast Go.Proofs.YtgmeellapjimgaaW.PrintMore
attribute [local go_sem] max2_int min2_int max_two min_two max_three min_three max_four min_four   -- for this text's walks alone
set_option linter.unusedVariables false
set_option linter.unusedSimpArgs false

/-! ### batch_Decode -/
def batch_Decode.bad : Option (Int × Int × Int × Int × List S45 × Int × Int) := some (0, 0, 0, 0, [], 0, 10)
def batch_Decode.fin (k : Nat) (l : List Int) (n b s p q : Int) (x : List S45) : Option (Int × Int × Int × Int × List S45 × Int × Int) :=
  (batch_Encode.f k b s p q x).bind fun t => if t.2 = 0 then (bytes_Equal.f t.1 (l.take n.toNat)).bind fun e => if e = true then some (b, s, p, q, x, n, 0) else batch_Decode.bad else batch_Decode.bad
def batch_Decode.l0 : Nat → List Int → Int → Int → Int → Int → Int → Int → Int → List S45 → Option (Int × Int × Int × Int × List S45 × Int × Int)
  | 0, _, _, _, _, _, _, _, _, _ => none
  | k + 1, l, n, first, b, s, p, q, at_, x => if at_ < n then (if 0 ≤ at_ then (record_Decode.f k ((l.take n.toNat).drop at_.toNat) first).bind fun t => (if t.2.2.2.2.2.2.2 = 0 then (if x.length < 2199023255552 then batch_Decode.l0 k l n first b s p q (wrap64 (at_ + t.2.2.2.2.2.2.1)) (x ++ [(⟨t.1, t.2.1, t.2.2.1, t.2.2.2.1, t.2.2.2.2.1, t.2.2.2.2.2.1⟩ : S45)]) else none) else batch_Decode.bad) else none) else batch_Decode.fin k l n b s p q x
def batch_Decode.f (k : Nat) (l : List Int) : Option (Int × Int × Int × Int × List S45 × Int × Int) :=
  if (l.length : Int) < 48 then batch_Decode.bad else (batch_get.f k l 8 4).bind fun m => if 0 ≤ m ∧ m < 4294967296 then (if 12 + m < 48 then batch_Decode.bad else if 12 + m > (l.length : Int) then batch_Decode.bad else if 12 + m > 6000 then batch_Decode.bad else
    (batch_get.f k l 16 8).bind fun p => (batch_get.f k l 24 8).bind fun q => (batch_get.f k l 32 4).bind fun s => (batch_get.f k l 36 4).bind fun c => (batch_get.f k l 40 8).bind fun t => (batch_get.f k l 0 8).bind fun b => batch_Decode.l0 k l (12 + m) t b s p q 48 []) else none
theorem batch_Decode.fin_mono (k : Nat) (l : List Int) (n b s p q : Int) (x : List S45) : LeO (batch_Decode.fin k l n b s p q x) (batch_Decode.fin (k + 1) l n b s p q x) := by
  unfold batch_Decode.fin
  exact LeO.bind (batch_Encode.mono _ _ _ _ _ _) (fun t => LeO.refl _)
theorem batch_Decode.mono_l : ∀ k l n first b s p q at_ x, LeO (batch_Decode.l0 k l n first b s p q at_ x) (batch_Decode.l0 (k + 1) l n first b s p q at_ x)
  | 0 => fun _ _ _ _ _ _ _ _ _ r h => by cases h
  | k + 1 => fun l n first b s p q at_ x => by
    rw [batch_Decode.l0, batch_Decode.l0]
    exact LeO.ite (LeO.ite (LeO.bind (record_Decode.mono _ _ _) (fun t => LeO.ite (LeO.ite (batch_Decode.mono_l k _ _ _ _ _ _ _ _ _) (LeO.refl _)) (LeO.refl _))) (LeO.refl _)) (batch_Decode.fin_mono _ _ _ _ _ _ _ _)
theorem batch_Decode.mono : ∀ a0 k, LeO (batch_Decode.f k a0) (batch_Decode.f (k + 1) a0) := by
  intro l k
  unfold batch_Decode.f
  repeat' first | (with_reducible exact LeO.refl _) | (with_reducible exact batch_get.mono _ _ _ _) | (with_reducible exact batch_Decode.mono_l _ _ _ _ _ _ _ _ _ _) | (with_reducible refine LeO.ite ?_ ?_) | (with_reducible refine LeO.bind ?_ (fun _ => ?_))
/-- Where Decode stands: the result's block, the numbers' block behind it, the records. -/
structure BdSt (w W : World) (b s p q : Int) (u : Value) (v0 v1 v2 v3 v4 : Int) (x : List S45) : Prop where
  bel : Below w.heap.size w W
  bt : W.heap[w.heap.size]? = some (.cells #[.int .i64 b, .int .i64 s, .int .i64 p, .int .i64 q, u] 24 (0, 0))
  vt : W.heap[w.heap.size + 1]? = some (.cells #[.int .i64 v0, .int .i64 v1, .int .i64 v2, .int .i64 v3, .int .i64 v4] 69 (0, 0))
  row : Kd.R k45 45 W w.heap.size (fun _ => True) u x
theorem BdSt.new (w : World) (nd : Nat) : BdSt w (((w.alloc (.cells #[.int .i64 0, .int .i64 0, .int .i64 0, .int .i64 0, .slice none 0 0] 24)).drewN nd).alloc (.cells #[.int .i64 0, .int .i64 0, .int .i64 0, .int .i64 0, .int .i64 0] 69)) 0 0 0 0 (.slice none 0 0) 0 0 0 0 0 [] := by
  refine ⟨below_alloc (pw_below_drewN (below_alloc (Below.refl _ _) _) _) _, blk_alloc (blk_drewN (heap_alloc_new w _) _) _, ?_, Kd.R_nil _ _ _ _ _⟩
  have := heap_alloc_new ((w.alloc (.cells #[.int .i64 0, .int .i64 0, .int .i64 0, .int .i64 0, .slice none 0 0] 24)).drewN nd) (.cells #[.int .i64 0, .int .i64 0, .int .i64 0, .int .i64 0, .int .i64 0] 69)
  simpa using this
section
variable {w W W2 : World} {b s p q : Int} {u : Value} {v0 v1 v2 v3 v4 : Int} {x : List S45}
theorem BdSt.below (h : BdSt w W b s p q u v0 v1 v2 v3 v4 x) (hb : Below W.heap.size W W2) : BdSt w W2 b s p q u v0 v1 v2 v3 v4 x := ⟨below_step h.bel hb, blk_below h.bt hb, blk_below h.vt hb, Kd.R_below h.row hb⟩
theorem BdSt.drewN (h : BdSt w W b s p q u v0 v1 v2 v3 v4 x) (m : Nat) : BdSt w (W.drewN m) b s p q u v0 v1 v2 v3 v4 x := h.below (pw_below_drewN (Below.refl _ _) m)
theorem BdSt.drew (h : BdSt w W b s p q u v0 v1 v2 v3 v4 x) : BdSt w W.drew b s p q u v0 v1 v2 v3 v4 x := h.below (below_drew1 (Below.refl _ _))
theorem BdSt.alloc (h : BdSt w W b s p q u v0 v1 v2 v3 v4 x) (o : Obj) : BdSt w (W.alloc o) b s p q u v0 v1 v2 v3 v4 x := h.below (below_alloc (Below.refl _ _) o)
theorem BdSt.setv0 (h : BdSt w W b s p q u v0 v1 v2 v3 v4 x) (y : Int) : BdSt w (W.setCell ⟨w.heap.size + 1, 0, none⟩ (.int .i64 y)) b s p q u y v1 v2 v3 v4 x := ⟨below_set h.bel (Nat.le_succ _), blk_far h.bt (by simp) _, by simpa using blk_set h.vt 0 (.int .i64 y), Kd.R_set h.row h.vt (by decide) 0 _⟩
theorem BdSt.setv1 (h : BdSt w W b s p q u v0 v1 v2 v3 v4 x) (y : Int) : BdSt w (W.setCell ⟨w.heap.size + 1, 1, none⟩ (.int .i64 y)) b s p q u v0 y v2 v3 v4 x := ⟨below_set h.bel (Nat.le_succ _), blk_far h.bt (by simp) _, by simpa using blk_set h.vt 1 (.int .i64 y), Kd.R_set h.row h.vt (by decide) 1 _⟩
theorem BdSt.setv2 (h : BdSt w W b s p q u v0 v1 v2 v3 v4 x) (y : Int) : BdSt w (W.setCell ⟨w.heap.size + 1, 2, none⟩ (.int .i64 y)) b s p q u v0 v1 y v3 v4 x := ⟨below_set h.bel (Nat.le_succ _), blk_far h.bt (by simp) _, by simpa using blk_set h.vt 2 (.int .i64 y), Kd.R_set h.row h.vt (by decide) 2 _⟩
theorem BdSt.setv3 (h : BdSt w W b s p q u v0 v1 v2 v3 v4 x) (y : Int) : BdSt w (W.setCell ⟨w.heap.size + 1, 3, none⟩ (.int .i64 y)) b s p q u v0 v1 v2 y v4 x := ⟨below_set h.bel (Nat.le_succ _), blk_far h.bt (by simp) _, by simpa using blk_set h.vt 3 (.int .i64 y), Kd.R_set h.row h.vt (by decide) 3 _⟩
theorem BdSt.setv4 (h : BdSt w W b s p q u v0 v1 v2 v3 v4 x) (y : Int) : BdSt w (W.setCell ⟨w.heap.size + 1, 4, none⟩ (.int .i64 y)) b s p q u v0 v1 v2 v3 y x := ⟨below_set h.bel (Nat.le_succ _), blk_far h.bt (by simp) _, by simpa using blk_set h.vt 4 (.int .i64 y), Kd.R_set h.row h.vt (by decide) 4 _⟩
theorem BdSt.bcells (h : BdSt w W b s p q u v0 v1 v2 v3 v4 x) : W.cell? ⟨w.heap.size, 0, none⟩ = some (.int .i64 b) ∧ W.cell? ⟨w.heap.size, 1, none⟩ = some (.int .i64 s) ∧ W.cell? ⟨w.heap.size, 2, none⟩ = some (.int .i64 p) ∧ W.cell? ⟨w.heap.size, 3, none⟩ = some (.int .i64 q) ∧ W.cell? ⟨w.heap.size, 4, none⟩ = some u :=
  ⟨(blk_cell h.bt 0).trans rfl, (blk_cell h.bt 1).trans rfl, (blk_cell h.bt 2).trans rfl, (blk_cell h.bt 3).trans rfl, (blk_cell h.bt 4).trans rfl⟩
theorem BdSt.vcells (h : BdSt w W b s p q u v0 v1 v2 v3 v4 x) : W.cell? ⟨w.heap.size + 1, 0, none⟩ = some (.int .i64 v0) ∧ W.cell? ⟨w.heap.size + 1, 1, none⟩ = some (.int .i64 v1) ∧ W.cell? ⟨w.heap.size + 1, 2, none⟩ = some (.int .i64 v2) ∧ W.cell? ⟨w.heap.size + 1, 3, none⟩ = some (.int .i64 v3) ∧ W.cell? ⟨w.heap.size + 1, 4, none⟩ = some (.int .i64 v4) :=
  ⟨(blk_cell h.vt 0).trans rfl, (blk_cell h.vt 1).trans rfl, (blk_cell h.vt 2).trans rfl, (blk_cell h.vt 3).trans rfl, (blk_cell h.vt 4).trans rfl⟩
theorem BdSt.bfree (h : BdSt w W b s p q u v0 v1 v2 v3 v4 x) : W.frozen? ⟨w.heap.size, 0, none⟩ = false ∧ W.frozen? ⟨w.heap.size, 1, none⟩ = false ∧ W.frozen? ⟨w.heap.size, 2, none⟩ = false ∧ W.frozen? ⟨w.heap.size, 3, none⟩ = false ∧ W.frozen? ⟨w.heap.size, 4, none⟩ = false :=
  ⟨blk_frozen h.bt 0, blk_frozen h.bt 1, blk_frozen h.bt 2, blk_frozen h.bt 3, blk_frozen h.bt 4⟩
theorem BdSt.vfree (h : BdSt w W b s p q u v0 v1 v2 v3 v4 x) (j : Nat) : W.frozen? ⟨w.heap.size + 1, j, none⟩ = false := blk_frozen h.vt j
/-- A whole batch laid into the result's block, its records' row being another's. -/
theorem BdSt.setB (h : BdSt w W b s p q u v0 v1 v2 v3 v4 x) (b' s' p' q' : Int) (u' : Value) (x' : List S45) (hr : Kd.R k45 45 W w.heap.size (fun _ => True) u' x') :
    BdSt w (((((W.setCell ⟨w.heap.size, 0, none⟩ (.int .i64 b')).setCell ⟨w.heap.size, 1, none⟩ (.int .i64 s')).setCell ⟨w.heap.size, 2, none⟩ (.int .i64 p')).setCell ⟨w.heap.size, 3, none⟩ (.int .i64 q')).setCell ⟨w.heap.size, 4, none⟩ u') b' s' p' q' u' v0 v1 v2 v3 v4 x' := by
  have far : ∀ {W : World} (j : Nat) (y : Value), W.heap[w.heap.size + 1]? = some (.cells #[.int .i64 v0, .int .i64 v1, .int .i64 v2, .int .i64 v3, .int .i64 v4] 69 (0, 0)) → (W.setCell ⟨w.heap.size, j, none⟩ y).heap[w.heap.size + 1]? = some (.cells #[.int .i64 v0, .int .i64 v1, .int .i64 v2, .int .i64 v3, .int .i64 v4] 69 (0, 0)) := fun j y hv => blk_far hv (by simp) y
  have s0 : (W.setCell ⟨w.heap.size, 0, none⟩ (.int .i64 b')).heap[w.heap.size]? = some (.cells #[.int .i64 b', .int .i64 s, .int .i64 p, .int .i64 q, u] 24 (0, 0)) := by simpa using blk_set h.bt 0 (.int .i64 b')
  have s1 : ((W.setCell ⟨w.heap.size, 0, none⟩ (.int .i64 b')).setCell ⟨w.heap.size, 1, none⟩ (.int .i64 s')).heap[w.heap.size]? = some (.cells #[.int .i64 b', .int .i64 s', .int .i64 p, .int .i64 q, u] 24 (0, 0)) := by simpa using blk_set s0 1 (.int .i64 s')
  have s2 : (((W.setCell ⟨w.heap.size, 0, none⟩ (.int .i64 b')).setCell ⟨w.heap.size, 1, none⟩ (.int .i64 s')).setCell ⟨w.heap.size, 2, none⟩ (.int .i64 p')).heap[w.heap.size]? = some (.cells #[.int .i64 b', .int .i64 s', .int .i64 p', .int .i64 q, u] 24 (0, 0)) := by simpa using blk_set s1 2 (.int .i64 p')
  have s3 : ((((W.setCell ⟨w.heap.size, 0, none⟩ (.int .i64 b')).setCell ⟨w.heap.size, 1, none⟩ (.int .i64 s')).setCell ⟨w.heap.size, 2, none⟩ (.int .i64 p')).setCell ⟨w.heap.size, 3, none⟩ (.int .i64 q')).heap[w.heap.size]? = some (.cells #[.int .i64 b', .int .i64 s', .int .i64 p', .int .i64 q', u] 24 (0, 0)) := by simpa using blk_set s2 3 (.int .i64 q')
  refine ⟨?_, by simpa using blk_set s3 4 u', far 4 _ (far 3 _ (far 2 _ (far 1 _ (far 0 _ h.vt)))), ?_⟩
  · exact below_set (below_set (below_set (below_set (below_set h.bel (Nat.le_refl _)) (Nat.le_refl _)) (Nat.le_refl _)) (Nat.le_refl _)) (Nat.le_refl _)
  · exact Kd.R_set (Kd.R_set (Kd.R_set (Kd.R_set (Kd.R_set hr h.bt (by decide) 0 _) s0 (by decide) 1 _) s1 (by decide) 2 _) s2 (by decide) 3 _) s3 (by decide) 4 _
/-- The records' row alone. -/
theorem BdSt.setU (hbel : Below w.heap.size w W) (hbt : W.heap[w.heap.size]? = some (.cells #[.int .i64 b, .int .i64 s, .int .i64 p, .int .i64 q, u] 24 (0, 0))) (hvt : W.heap[w.heap.size + 1]? = some (.cells #[.int .i64 v0, .int .i64 v1, .int .i64 v2, .int .i64 v3, .int .i64 v4] 69 (0, 0))) (u' : Value) (x' : List S45) (hr : Kd.R k45 45 W w.heap.size (fun _ => True) u' x') :
    BdSt w (W.setCell ⟨w.heap.size, 4, none⟩ u') b s p q u' v0 v1 v2 v3 v4 x' :=
  ⟨below_set hbel (Nat.le_refl _), by simpa using blk_set hbt 4 u', blk_far hvt (by simp) _, Kd.R_set hr hbt (by decide) 4 _⟩
end
theorem bd_far {w W : World} {b s p q : Int} {u : Value} {v0 v1 v2 v3 v4 : Int} {x : List S45} {g : Nat} (h : BdSt w W b s p q u v0 v1 v2 v3 v4 x) (hg : w.heap.size + 2 ≤ g) (hr : Kd.R k45 45 W w.heap.size (fun k => k ≠ g) u x) (c0 c1 c2 c3 c4 c5 : Value) :
    BdSt w ((((((W.setCell ⟨g, 0, none⟩ c0).setCell ⟨g, 1, none⟩ c1).setCell ⟨g, 2, none⟩ c2).setCell ⟨g, 3, none⟩ c3).setCell ⟨g, 4, none⟩ c4).setCell ⟨g, 5, none⟩ c5) b s p q u v0 v1 v2 v3 v4 x ∧
    Kd.R k45 45 ((((((W.setCell ⟨g, 0, none⟩ c0).setCell ⟨g, 1, none⟩ c1).setCell ⟨g, 2, none⟩ c2).setCell ⟨g, 3, none⟩ c3).setCell ⟨g, 4, none⟩ c4).setCell ⟨g, 5, none⟩ c5) w.heap.size (fun k => k ≠ g) u x := by
  have one : ∀ {W : World} (j : Nat) (y : Value), BdSt w W b s p q u v0 v1 v2 v3 v4 x ∧ Kd.R k45 45 W w.heap.size (fun k => k ≠ g) u x → BdSt w (W.setCell ⟨g, j, none⟩ y) b s p q u v0 v1 v2 v3 v4 x ∧ Kd.R k45 45 (W.setCell ⟨g, j, none⟩ y) w.heap.size (fun k => k ≠ g) u x := by
    rintro W j y ⟨h, hr⟩
    have hr2 := Kd.R_far (p := ⟨g, j, none⟩) hr (fun _ hk => hk) y
    exact ⟨⟨below_set h.bel (by omega), blk_far h.bt (show w.heap.size ≠ g by omega) y, blk_far h.vt (show w.heap.size + 1 ≠ g by omega) y, Kd.R_mono hr2 (fun _ _ => trivial)⟩, hr2⟩
  exact one 5 c5 (one 4 c4 (one 3 c3 (one 2 c2 (one 1 c1 (one 0 c0 ⟨h, hr⟩)))))
theorem bd_zero {w W : World} {c0 c1 c2 c3 c4 : Value} (hb : Below w.heap.size w W) (ht : W.heap[w.heap.size]? = some (.cells #[c0, c1, c2, c3, c4] 24 (0, 0))) (a0 a1 a2 a3 a4 : Value) :
    (((((W.setCell ⟨w.heap.size, 0, none⟩ a0).setCell ⟨w.heap.size, 1, none⟩ a1).setCell ⟨w.heap.size, 2, none⟩ a2).setCell ⟨w.heap.size, 3, none⟩ a3).setCell ⟨w.heap.size, 4, none⟩ a4).heap[w.heap.size]? = some (.cells #[a0, a1, a2, a3, a4] 24 (0, 0)) ∧
    Below w.heap.size w (((((W.setCell ⟨w.heap.size, 0, none⟩ a0).setCell ⟨w.heap.size, 1, none⟩ a1).setCell ⟨w.heap.size, 2, none⟩ a2).setCell ⟨w.heap.size, 3, none⟩ a3).setCell ⟨w.heap.size, 4, none⟩ a4) := by
  have s0 := blk_set ht 0 a0
  have s1 := blk_set s0 1 a1
  have s2 := blk_set s1 2 a2
  have s3 := blk_set s2 3 a3
  have s4 := blk_set s3 4 a4
  exact ⟨by simpa using s4, below_set (below_set (below_set (below_set (below_set hb (Nat.le_refl _)) (Nat.le_refl _)) (Nat.le_refl _)) (Nat.le_refl _)) (Nat.le_refl _)⟩
set_option maxHeartbeats 4000000 in
set_option maxRecDepth 100000 in
theorem batch_Decode.short (k : Nat) (A : Option Addr) (c : Nat) (l : List Int) (w : World) (hr : Kd.C (Kd.int .u8) w A l.length l) (hc : l.length ≤ c) (h : (l.length : Int) < 48) :
    Calls Try.prog 22 #[.slice A l.length c] w fun e w' => ∃ v4_ : Value, e = .returned (.tuple #[.agg #[.int .i64 0, .int .i64 0, .int .i64 0, .int .i64 0, v4_], .int .i64 0, .int .i64 10]) ∧ Kd.R k45 45 w' w.heap.size (fun _ => True) v4_ [] ∧ Below w.heap.size w w' := by
  have f0 : decide ((l.length : Int) < 48) = true := decide_eq_true h
  have f1 : decide (l.length < 48) = true := decide_eq_true (by omega)
  clear hr hc h
  go_enter Try.func22, Try.ntmps22
  go_wp2_with fail
  refine bodyPost_ret (results_ctt rfl _ _ w.heap.size 24 #[.int .i64 0, .int .i64 0, .int .i64 0, .int .i64 0, .slice none 0 0] (0, 0) _ rfl (heap_alloc_new w _) Try.underlying24 rfl (by kernel_rfl)) rfl ?_
  exact ⟨_, rfl, Kd.R_nil _ _ _ _ _, below_alloc (Below.refl _ _) _⟩
set_option maxHeartbeats 4000000 in
set_option maxRecDepth 100000 in
theorem batch_Decode.less (k : Nat) (A : Option Addr) (c : Nat) (l : List Int) (w : World) (hr : Kd.C (Kd.int .u8) w A l.length l) (hc : l.length ≤ c) (m : Int) (h0 : ¬ (l.length : Int) < 48) (hg : batch_get.f k l 8 4 = some m) (hm : 0 ≤ m ∧ m < 4294967296) (h1 : 12 + m < 48) :
    Calls Try.prog 22 #[.slice A l.length c] w fun e w' => ∃ v4_ : Value, e = .returned (.tuple #[.agg #[.int .i64 0, .int .i64 0, .int .i64 0, .int .i64 0, v4_], .int .i64 0, .int .i64 10]) ∧ Kd.R k45 45 w' w.heap.size (fun _ => True) v4_ [] ∧ Below w.heap.size w w' := by
  have f0 : decide ((l.length : Int) < 48) = false := decide_eq_false h0
  have f1 : decide (l.length < 48) = false := decide_eq_false (by omega)
  have g0 : decide (12 + m < 48) = true := decide_eq_true h1
  have HR := Aside0.mk hr
  have HC := Aside0.mk hc
  have HG := Aside0.mk hg
  have m0 := hm.1
  have m1 := hm.2
  clear hr hc hg hm
  go_enter Try.func22, Try.ntmps22
  go_wp2_with fail
  refine (batch_get.calls k A c l 8 4 m _ (Kd.C_below HR.out (below_alloc (Below.refl _ _) _)) HC.out HG.out).mono ?_
  rintro e w' ⟨rfl, ⟨nd, rfl⟩⟩
  have b0 : ((w.alloc (.cells #[.int .i64 0, .int .i64 0, .int .i64 0, .int .i64 0, .slice none 0 0] 24)).drewN nd).heap[w.heap.size]? = some (.cells #[.int .i64 0, .int .i64 0, .int .i64 0, .int .i64 0, .slice none 0 0] 24 (0, 0)) := heap_alloc_new w _
  have B0 := Aside0.mk b0
  clear b0
  go_wp2_with fail
  have Z_ := bd_zero (pw_below_drewN (below_alloc (Below.refl _ _) _) nd) B0.out (.int .i64 0) (.int .i64 0) (.int .i64 0) (.int .i64 0) (.slice none 0 0)
  refine bodyPost_ret (results_ctt rfl _ _ w.heap.size 24 #[.int .i64 0, .int .i64 0, .int .i64 0, .int .i64 0, .slice none 0 0] (0, 0) _ rfl Z_.1 Try.underlying24 rfl (by kernel_rfl)) rfl ?_
  exact ⟨_, rfl, Kd.R_nil _ _ _ _ _, Z_.2⟩
set_option maxHeartbeats 4000000 in
set_option maxRecDepth 100000 in
theorem batch_Decode.more (k : Nat) (A : Option Addr) (c : Nat) (l : List Int) (w : World) (hr : Kd.C (Kd.int .u8) w A l.length l) (hc : l.length ≤ c) (m : Int) (h0 : ¬ (l.length : Int) < 48) (hg : batch_get.f k l 8 4 = some m) (hm : 0 ≤ m ∧ m < 4294967296) (h1 : ¬ 12 + m < 48) (h2 : 12 + m > (l.length : Int)) :
    Calls Try.prog 22 #[.slice A l.length c] w fun e w' => ∃ v4_ : Value, e = .returned (.tuple #[.agg #[.int .i64 0, .int .i64 0, .int .i64 0, .int .i64 0, v4_], .int .i64 0, .int .i64 10]) ∧ Kd.R k45 45 w' w.heap.size (fun _ => True) v4_ [] ∧ Below w.heap.size w w' := by
  have f0 : decide ((l.length : Int) < 48) = false := decide_eq_false h0
  have f1 : decide (l.length < 48) = false := decide_eq_false (by omega)
  have g0 : decide (12 + m < 48) = false := decide_eq_false h1
  have g1 : decide ((l.length : Int) < 12 + m) = true := decide_eq_true h2
  have HR := Aside0.mk hr
  have HC := Aside0.mk hc
  have HG := Aside0.mk hg
  have m0 := hm.1
  have m1 := hm.2
  clear hr hc hg hm
  go_enter Try.func22, Try.ntmps22
  go_wp2_with fail
  refine (batch_get.calls k A c l 8 4 m _ (Kd.C_below HR.out (below_alloc (Below.refl _ _) _)) HC.out HG.out).mono ?_
  rintro e w' ⟨rfl, ⟨nd, rfl⟩⟩
  have b0 : ((w.alloc (.cells #[.int .i64 0, .int .i64 0, .int .i64 0, .int .i64 0, .slice none 0 0] 24)).drewN nd).heap[w.heap.size]? = some (.cells #[.int .i64 0, .int .i64 0, .int .i64 0, .int .i64 0, .slice none 0 0] 24 (0, 0)) := heap_alloc_new w _
  have B0 := Aside0.mk b0
  clear b0
  go_wp2_with fail
  have Z_ := bd_zero (pw_below_drewN (below_alloc (Below.refl _ _) _) nd) B0.out (.int .i64 0) (.int .i64 0) (.int .i64 0) (.int .i64 0) (.slice none 0 0)
  refine bodyPost_ret (results_ctt rfl _ _ w.heap.size 24 #[.int .i64 0, .int .i64 0, .int .i64 0, .int .i64 0, .slice none 0 0] (0, 0) _ rfl Z_.1 Try.underlying24 rfl (by kernel_rfl)) rfl ?_
  exact ⟨_, rfl, Kd.R_nil _ _ _ _ _, Z_.2⟩
set_option maxHeartbeats 4000000 in
set_option maxRecDepth 100000 in
theorem batch_Decode.large (k : Nat) (A : Option Addr) (c : Nat) (l : List Int) (w : World) (hr : Kd.C (Kd.int .u8) w A l.length l) (hc : l.length ≤ c) (m : Int) (h0 : ¬ (l.length : Int) < 48) (hg : batch_get.f k l 8 4 = some m) (hm : 0 ≤ m ∧ m < 4294967296) (h1 : ¬ 12 + m < 48) (h2 : ¬ 12 + m > (l.length : Int)) (h3 : 12 + m > 6000) :
    Calls Try.prog 22 #[.slice A l.length c] w fun e w' => ∃ v4_ : Value, e = .returned (.tuple #[.agg #[.int .i64 0, .int .i64 0, .int .i64 0, .int .i64 0, v4_], .int .i64 0, .int .i64 10]) ∧ Kd.R k45 45 w' w.heap.size (fun _ => True) v4_ [] ∧ Below w.heap.size w w' := by
  have f0 : decide ((l.length : Int) < 48) = false := decide_eq_false h0
  have f1 : decide (l.length < 48) = false := decide_eq_false (by omega)
  have g0 : decide (12 + m < 48) = false := decide_eq_false h1
  have g1 : decide ((l.length : Int) < 12 + m) = false := decide_eq_false (by omega)
  have g2 : decide (6000 < 12 + m) = true := decide_eq_true h3
  have HR := Aside0.mk hr
  have HC := Aside0.mk hc
  have HG := Aside0.mk hg
  have m0 := hm.1
  have m1 := hm.2
  clear hr hc hg hm
  go_enter Try.func22, Try.ntmps22
  go_wp2_with fail
  refine (batch_get.calls k A c l 8 4 m _ (Kd.C_below HR.out (below_alloc (Below.refl _ _) _)) HC.out HG.out).mono ?_
  rintro e w' ⟨rfl, ⟨nd, rfl⟩⟩
  have b0 : ((w.alloc (.cells #[.int .i64 0, .int .i64 0, .int .i64 0, .int .i64 0, .slice none 0 0] 24)).drewN nd).heap[w.heap.size]? = some (.cells #[.int .i64 0, .int .i64 0, .int .i64 0, .int .i64 0, .slice none 0 0] 24 (0, 0)) := heap_alloc_new w _
  have B0 := Aside0.mk b0
  clear b0
  go_wp2_with fail
  have Z_ := bd_zero (pw_below_drewN (below_alloc (Below.refl _ _) _) nd) B0.out (.int .i64 0) (.int .i64 0) (.int .i64 0) (.int .i64 0) (.slice none 0 0)
  refine bodyPost_ret (results_ctt rfl _ _ w.heap.size 24 #[.int .i64 0, .int .i64 0, .int .i64 0, .int .i64 0, .slice none 0 0] (0, 0) _ rfl Z_.1 Try.underlying24 rfl (by kernel_rfl)) rfl ?_
  exact ⟨_, rfl, Kd.R_nil _ _ _ _ _, Z_.2⟩
set_option maxHeartbeats 4000000 in
set_option maxRecDepth 100000 in
theorem batch_Decode.main (k : Nat) (A : Option Addr) (c : Nat) (l : List Int) (w : World) (hr : Kd.C (Kd.int .u8) w A l.length l) (hc : l.length ≤ c) (m : Int) (h0 : ¬ (l.length : Int) < 48) (hg : batch_get.f k l 8 4 = some m) (hm : 0 ≤ m ∧ m < 4294967296) (h1 : ¬ 12 + m < 48) (h2 : ¬ 12 + m > (l.length : Int)) (h3 : ¬ 12 + m > 6000) (p q s cn t b : Int) (hp : batch_get.f k l 16 8 = some p) (hq : batch_get.f k l 24 8 = some q) (hs : batch_get.f k l 32 4 = some s) (hcn : batch_get.f k l 36 4 = some cn) (ht : batch_get.f k l 40 8 = some t) (hb : batch_get.f k l 0 8 = some b) (r1 r2 r3 r4 : Int) (r5 : List S45) (r6 r7 : Int) (h : batch_Decode.l0 k l (12 + m) t b s p q 48 [] = some (r1, r2, r3, r4, r5, r6, r7)) :
    Calls Try.prog 22 #[.slice A l.length c] w fun e w' => ∃ v4_ : Value, e = .returned (.tuple #[.agg #[.int .i64 r1, .int .i64 r2, .int .i64 r3, .int .i64 r4, v4_], .int .i64 r6, .int .i64 r7]) ∧ Kd.R k45 45 w' w.heap.size (fun _ => True) v4_ r5 ∧ Below w.heap.size w w' := by
  have f0 : decide ((l.length : Int) < 48) = false := decide_eq_false h0
  have f1 : decide (l.length < 48) = false := decide_eq_false (by omega)
  have g0 : decide (12 + m < 48) = false := decide_eq_false h1
  have g1 : decide ((l.length : Int) < 12 + m) = false := decide_eq_false (by omega)
  have g2 : decide (6000 < 12 + m) = false := decide_eq_false h3
  have HP := Aside0.mk hp
  have HQ := Aside0.mk hq
  have HS := Aside0.mk hs
  have HCN := Aside0.mk hcn
  have HT := Aside0.mk ht
  have HB := Aside0.mk hb
  have HL := Aside0.mk h
  clear hp hq hs hcn ht hb h
  have HR := Aside0.mk hr
  have HC := Aside0.mk hc
  have HG := Aside0.mk hg
  have m0 := hm.1
  have m1 := hm.2
  clear hr hc hg hm
  go_enter Try.func22, Try.ntmps22
  go_wp2_with fail
  refine (batch_get.calls k A c l 8 4 m _ (Kd.C_below HR.out (below_alloc (Below.refl _ _) _)) HC.out HG.out).mono ?_
  rintro e w' ⟨rfl, ⟨nd, rfl⟩⟩
  have b0 : ((w.alloc (.cells #[.int .i64 0, .int .i64 0, .int .i64 0, .int .i64 0, .slice none 0 0] 24)).drewN nd).heap[w.heap.size]? = some (.cells #[.int .i64 0, .int .i64 0, .int .i64 0, .int .i64 0, .slice none 0 0] 24 (0, 0)) := heap_alloc_new w _
  have B0 := Aside0.mk b0
  clear b0
  go_wp2_with fail
  have ST0 := Aside0.mk (BdSt.new w nd)
  generalize (((w.alloc (.cells #[.int .i64 0, .int .i64 0, .int .i64 0, .int .i64 0, .slice none 0 0] 24)).drewN nd).alloc (.cells #[.int .i64 0, .int .i64 0, .int .i64 0, .int .i64 0, .int .i64 0] 69)) = W0 at ST0 ⊢
  refine (batch_numbers.calls _).mono ?_
  rintro e x0 ⟨rfl, hb0⟩
  have S0 := Aside0.mk (ST0.out.below hb0)
  clear hb0 ST0 B0
  go_wp2_with fail
  refine wp_loop_rounds 6 ?_
  rw [rounds_succ]
  have ix0 : ∀ w, (Instr.index 72 (.agg numsC) (.int .i64 0)).run Try.prog w = .ok (.agg #[.int .i64 16, .int .i64 8]) w := fun _ => by kernel_rfl
  go_wp2_with fail
  have T0 := Aside0.mk (S0.out.alloc (.cells #[.int .i64 16, .int .i64 8] 71))
  refine (batch_get.calls k A c l 16 8 p _ (Kd.C_below HR.out T0.out.bel) HC.out HP.out).mono ?_
  rintro e w' ⟨rfl, ⟨n0, rfl⟩⟩
  have z0 := T0.out.vfree 0
  have c0 := T0.out.vcells.1
  go_wp2_with fail
  have S1 := Aside0.mk ((T0.out.drewN n0).setv0 p)
  generalize World.setCell ((x0.alloc (.cells #[.int .i64 16, .int .i64 8] 71)).drewN n0) ⟨w.heap.size + 1, 0, none⟩ (.int .i64 p) = x1 at S1 ⊢
  clear ix0 S0 T0 z0 c0
  rw [rounds_succ]
  have ix1 : ∀ w, (Instr.index 72 (.agg numsC) (.int .i64 1)).run Try.prog w = .ok (.agg #[.int .i64 24, .int .i64 8]) w := fun _ => by kernel_rfl
  go_wp2_with fail
  have T1 := Aside0.mk (S1.out.alloc (.cells #[.int .i64 24, .int .i64 8] 71))
  refine (batch_get.calls k A c l 24 8 q _ (Kd.C_below HR.out T1.out.bel) HC.out HQ.out).mono ?_
  rintro e w' ⟨rfl, ⟨n1, rfl⟩⟩
  have z1 := T1.out.vfree 1
  have c1 := T1.out.vcells.2.1
  go_wp2_with fail
  have S2 := Aside0.mk ((T1.out.drewN n1).setv1 q)
  generalize World.setCell ((x1.alloc (.cells #[.int .i64 24, .int .i64 8] 71)).drewN n1) ⟨w.heap.size + 1, 1, none⟩ (.int .i64 q) = x2 at S2 ⊢
  clear ix1 S1 T1 z1 c1
  rw [rounds_succ]
  have ix2 : ∀ w, (Instr.index 72 (.agg numsC) (.int .i64 2)).run Try.prog w = .ok (.agg #[.int .i64 32, .int .i64 4]) w := fun _ => by kernel_rfl
  go_wp2_with fail
  have T2 := Aside0.mk (S2.out.alloc (.cells #[.int .i64 32, .int .i64 4] 71))
  refine (batch_get.calls k A c l 32 4 s _ (Kd.C_below HR.out T2.out.bel) HC.out HS.out).mono ?_
  rintro e w' ⟨rfl, ⟨n2, rfl⟩⟩
  have z2 := T2.out.vfree 2
  have c2 := T2.out.vcells.2.2.1
  go_wp2_with fail
  have S3 := Aside0.mk ((T2.out.drewN n2).setv2 s)
  generalize World.setCell ((x2.alloc (.cells #[.int .i64 32, .int .i64 4] 71)).drewN n2) ⟨w.heap.size + 1, 2, none⟩ (.int .i64 s) = x3 at S3 ⊢
  clear ix2 S2 T2 z2 c2
  rw [rounds_succ]
  have ix3 : ∀ w, (Instr.index 72 (.agg numsC) (.int .i64 3)).run Try.prog w = .ok (.agg #[.int .i64 36, .int .i64 4]) w := fun _ => by kernel_rfl
  go_wp2_with fail
  have T3 := Aside0.mk (S3.out.alloc (.cells #[.int .i64 36, .int .i64 4] 71))
  refine (batch_get.calls k A c l 36 4 cn _ (Kd.C_below HR.out T3.out.bel) HC.out HCN.out).mono ?_
  rintro e w' ⟨rfl, ⟨n3, rfl⟩⟩
  have z3 := T3.out.vfree 3
  have c3 := T3.out.vcells.2.2.2.1
  go_wp2_with fail
  have S4 := Aside0.mk ((T3.out.drewN n3).setv3 cn)
  generalize World.setCell ((x3.alloc (.cells #[.int .i64 36, .int .i64 4] 71)).drewN n3) ⟨w.heap.size + 1, 3, none⟩ (.int .i64 cn) = x4 at S4 ⊢
  clear ix3 S3 T3 z3 c3
  rw [rounds_succ]
  have ix4 : ∀ w, (Instr.index 72 (.agg numsC) (.int .i64 4)).run Try.prog w = .ok (.agg #[.int .i64 40, .int .i64 8]) w := fun _ => by kernel_rfl
  go_wp2_with fail
  have T4 := Aside0.mk (S4.out.alloc (.cells #[.int .i64 40, .int .i64 8] 71))
  refine (batch_get.calls k A c l 40 8 t _ (Kd.C_below HR.out T4.out.bel) HC.out HT.out).mono ?_
  rintro e w' ⟨rfl, ⟨n4, rfl⟩⟩
  have z4 := T4.out.vfree 4
  have c4 := T4.out.vcells.2.2.2.2
  go_wp2_with fail
  have S5 := Aside0.mk ((T4.out.drewN n4).setv4 t)
  generalize World.setCell ((x4.alloc (.cells #[.int .i64 40, .int .i64 8] 71)).drewN n4) ⟨w.heap.size + 1, 4, none⟩ (.int .i64 t) = x5 at S5 ⊢
  clear ix4 S4 T4 z4 c4
  rw [rounds_succ]
  go_wp2_with fail
  refine start_ (n := 10) (S := fun w' => w'.cell? ⟨w.heap.size + 1, 0, none⟩ = some (.int .i64 p) ∧ w'.cell? ⟨w.heap.size + 1, 1, none⟩ = some (.int .i64 q) ∧ w'.cell? ⟨w.heap.size + 1, 2, none⟩ = some (.int .i64 s)) (ds := []) #[false, false, false, false, false, false, false, false, false, false] (by kernel_rfl) rfl rfl ⟨S5.out.drew.vcells.1, S5.out.drew.vcells.2.1, S5.out.drew.vcells.2.2.1⟩ (fun hHeld => ?_)
  have D5 := Aside0.mk S5.out.drew
  generalize x5.drew = y5 at D5 hHeld ⊢
  clear S5
  refine pure_ (i := 0) (N := (some 47)) (v := ?_) (a' := ?_) #[true, false, false, false, false, false, false, false, false, false] rfl rfl (by kernel_rfl) (fun _ _ _ h => h) (Or.inl ⟨by rfl, ?_⟩) ?_ ?_
  rotate_left
  · intro w'
    go_simp
    with_reducible rfl
  rotate_left
  · simp only [Act.put, List.setIfInBounds_toArray, List.set_cons_zero, List.set_cons_succ, i64_w, i32_w]
    rfl
  refine pure_ (i := 2) (N := (some 49)) (v := ?_) (a' := ?_) #[true, false, true, false, false, false, false, false, false, false] rfl rfl (by kernel_rfl) (fun _ _ _ h => h) (Or.inl ⟨by rfl, ?_⟩) ?_ ?_
  rotate_left
  · intro w'
    go_simp
    with_reducible rfl
  rotate_left
  · simp only [Act.put, List.setIfInBounds_toArray, List.set_cons_zero, List.set_cons_succ, i64_w, i32_w]
    rfl
  refine pure_ (i := 4) (N := (some 51)) (v := ?_) (a' := ?_) #[true, false, true, false, true, false, false, false, false, false] rfl rfl (by kernel_rfl) (fun _ _ _ h => h) (Or.inl ⟨by rfl, ?_⟩) ?_ ?_
  rotate_left
  · intro w'
    go_simp
    with_reducible rfl
  rotate_left
  · simp only [Act.put, List.setIfInBounds_toArray, List.set_cons_zero, List.set_cons_succ, i64_w, i32_w]
    rfl
  refine pure_ (i := 6) (N := (some 53)) (v := ?_) (a' := ?_) #[true, false, true, false, true, false, true, false, false, false] rfl rfl (by kernel_rfl) (fun _ _ _ h => h) (Or.inl ⟨by rfl, ?_⟩) ?_ ?_
  rotate_left
  · intro w'
    go_simp
    with_reducible rfl
  rotate_left
  · simp only [Act.put, List.setIfInBounds_toArray, List.set_cons_zero, List.set_cons_succ, i64_w, i32_w]
    rfl
  refine take_ (i := 3) (N := (some 50)) (v := ?_) (a' := ?_) #[true, false, true, true, true, false, true, false, false, false] rfl rfl (by kernel_rfl) (fun _ _ _ h => h) (Or.inl ⟨by rfl, ?_⟩) hHeld ?_ ?_
  rotate_left
  · rintro w' ⟨s0, s1, s2⟩
    go_simp
    with_reducible rfl
  rotate_left
  · simp only [Act.put, List.setIfInBounds_toArray, List.set_cons_zero, List.set_cons_succ, i64_w, i32_w]
    rfl
  refine take_ (i := 5) (N := (some 52)) (v := ?_) (a' := ?_) #[true, false, true, true, true, true, true, false, false, false] rfl rfl (by kernel_rfl) (fun _ _ _ h => h) (Or.inl ⟨by rfl, ?_⟩) hHeld ?_ ?_
  rotate_left
  · rintro w' ⟨s0, s1, s2⟩
    go_simp
    with_reducible rfl
  rotate_left
  · simp only [Act.put, List.setIfInBounds_toArray, List.set_cons_zero, List.set_cons_succ, i64_w, i32_w]
    rfl
  refine take_ (i := 7) (N := (some 54)) (v := ?_) (a' := ?_) #[true, false, true, true, true, true, true, true, false, false] rfl rfl (by kernel_rfl) (fun _ _ _ h => h) (Or.inl ⟨by rfl, ?_⟩) hHeld ?_ ?_
  rotate_left
  · rintro w' ⟨s0, s1, s2⟩
    go_simp
    with_reducible rfl
  rotate_left
  · simp only [Act.put, List.setIfInBounds_toArray, List.set_cons_zero, List.set_cons_succ, i64_w, i32_w]
    rfl
  refine one_ (i := 1) (N := (some 48)) #[true, true, true, true, true, true, true, true, false, false] rfl rfl (by kernel_rfl) (by decide) (fun K hK => ?_)
  refine goes_ Try.func34 (by kernel_rfl) rfl #[.slice A l.length c, .int .i64 0, .int .i64 8] (by rfl) rfl rfl (by (try simp only [List.map_toArray, List.map_cons, List.map_nil]); first | done | rfl) ?_
  refine (batch_get.calls k A c l 0 8 b _ (Kd.C_below HR.out D5.out.bel) HC.out HB.out).mono ?_
  rintro e w' ⟨rfl, ⟨n5, rfl⟩⟩
  refine ⟨_, rfl, ?_⟩
  have D6 := Aside0.mk (D5.out.drewN n5)
  refine hK.out _ _ ⟨D6.out.vcells.1, D6.out.vcells.2.1, D6.out.vcells.2.2.1⟩ (fun hHeld => ?_)
  clear hK K
  refine norm_ (a' := ?_) ?_ ?_
  rotate_left
  · show Act.put _ (some 48) _ = _
    simp only [Act.put, List.setIfInBounds_toArray, List.set_cons_zero, List.set_cons_succ, i64_w, i32_w]
    rfl
  refine pure_ (i := 8) (N := (some 55)) (v := ?_) (a' := ?_) #[true, true, true, true, true, true, true, true, true, false] rfl rfl (by kernel_rfl) (fun _ _ _ h => h) (Or.inl ⟨by rfl, ?_⟩) ?_ ?_
  rotate_left
  · intro w'
    go_simp
    with_reducible rfl
  rotate_left
  · simp only [Act.put, List.setIfInBounds_toArray, List.set_cons_zero, List.set_cons_succ, i64_w, i32_w]
    rfl
  refine one_ (i := 9) (N := none) #[true, true, true, true, true, true, true, true, true, true] rfl rfl (by kernel_rfl) (by decide) (fun K hK => ?_)
  obtain ⟨y0, y1, y2, y3, y4⟩ := D6.out.bcells
  obtain ⟨z0, z1, z2, z3, z4⟩ := D6.out.bfree
  refine skip_ (w1 := ?_) (by rfl) rfl ?_ ?_
  rotate_left
  · go_simp
    rfl
  refine hK.out _ _ ⟨(D6.out.setB b s p q (.slice none 0 0) [] (Kd.R_nil _ _ _ _ _)).vcells.1, (D6.out.setB b s p q (.slice none 0 0) [] (Kd.R_nil _ _ _ _ _)).vcells.2.1, (D6.out.setB b s p q (.slice none 0 0) [] (Kd.R_nil _ _ _ _ _)).vcells.2.2.1⟩ (fun hHeld => ?_)
  clear hK K
  refine done_ (by kernel_rfl) ?_
  clear hHeld
  have D7 := Aside0.mk (D6.out.setB b s p q (.slice none 0 0) [] (Kd.R_nil _ _ _ _ _))
  generalize (((((World.setCell (y5.drewN n5) ⟨w.heap.size, 0, none⟩ (.int .i64 b)).setCell ⟨w.heap.size, 1, none⟩ (.int .i64 s)).setCell ⟨w.heap.size, 2, none⟩ (.int .i64 p)).setCell ⟨w.heap.size, 3, none⟩ (.int .i64 q)).setCell ⟨w.heap.size, 4, none⟩ (.slice none 0 0)) = x6 at D7 ⊢
  clear y0 y1 y2 y3 y4 z0 z1 z2 z3 z4
  clear D5 D6
  go_wp2_with fail
  go_loopg [3, 4, 8] k (fun kq v3 v4 v8 w' => ∃ (at_ : Int) (x : List S45) (u : Value), v3 = .int .i64 (12 + m) ∧ v4 = .int .i64 0 ∧ v8 = .int .i64 at_ ∧ Aside0 (batch_Decode.l0 kq l (12 + m) t b s p q at_ x = some (r1, r2, r3, r4, r5, r6, r7)) ∧ Aside0 (kq ≤ k) ∧ Aside0 (BdSt w w' b s p q u p q s cn t x))
  case atStart => exact ⟨48, [], .slice none 0 0, rfl, rfl, rfl, HL, ⟨Nat.le_refl _⟩, D7⟩
  case round =>
    clear D7 HL
    obtain ⟨at_, x, u, rfl, rfl, rfl, HA, HK2, ST⟩ := hrel
    cases gk with
    | zero => exact absurd HA.out (by intro h_; exact nomatch (show (none : Option _) = some _ from h_))
    | succ k2 =>
      have H := HA.out
      clear HA
      rw [batch_Decode.l0] at H
      by_cases e1 : at_ < 12 + m
      · rw [if_pos e1] at H
        by_cases e2 : 0 ≤ at_
        case neg => rw [if_neg e2] at H; cases H
        rw [if_pos e2] at H
        obtain ⟨⟨t1, t2, t3, t4, t5, t6, t7, t8⟩, HD_, H⟩ := Option.bind_eq_some_iff.mp H
        dsimp only at H
        have HH := Aside0.mk H
        obtain ⟨i0, hi0, _, hsz0, _⟩ := info_parts info5
        obtain ⟨A1, hcut, hA, hC⟩ := print_mid_of (P := Try.prog) (Value.int .u8) 0 27 5 .i64 .i64 Try.underlying27 hi0 hsz0 A c l at_ (12 + m) e2 (by omega) (by omega) HC.out
        obtain ⟨sl, hsl⟩ : ∃ sl, sl = ((l.take (12 + m).toNat).drop at_.toNat) := ⟨_, rfl⟩
        rw [← hsl] at hcut hA hC HD_
        have HD := Aside0.mk HD_
        have HR2 := Aside0.mk (Kd.C_of_reads (h1 := fun _ => rfl) (hA _ (Kd.reads_of_C HR.out)))
        have HC2 := Aside0.mk hC
        clear hsl
        have b1 : decide (at_ < 12 + m) = true := decide_eq_true e1
        clear HD_ H hA hC hi0 hsz0
        go_wp2_with fail
        refine start_ (n := 15) (S := fun w' => w'.cell? ⟨w.heap.size + 1, 4, none⟩ = some (.int .i64 t)) (ds := []) #[false, false, false, false, false, false, false, false, false, false, false, false, false, false, false] (by kernel_rfl) rfl rfl ST.out.drew.vcells.2.2.2.2 (fun hHeld => ?_)
        have D0 := Aside0.mk ST.out.drew
        generalize wr.drew = y0 at D0 hHeld ⊢
        clear ST
        refine pure_ (i := 0) (N := (some 60)) (v := ?_) (a' := ?_) #[true, false, false, false, false, false, false, false, false, false, false, false, false, false, false] rfl rfl (by kernel_rfl) (fun _ _ _ h => h) (Or.inl ⟨by rfl, ?_⟩) ?_ ?_
        rotate_left
        · intro w'
          go_simp
          with_reducible rfl
        rotate_left
        · simp only [Act.put, List.setIfInBounds_toArray, List.set_cons_zero, List.set_cons_succ, i64_w, i32_w]
          rfl
        refine pure_ (i := 1) (N := (some 61)) (v := ?_) (a' := ?_) #[true, true, false, false, false, false, false, false, false, false, false, false, false, false, false] rfl rfl (by kernel_rfl) (fun _ _ _ h => h) (Or.inl ⟨by rfl, ?_⟩) ?_ ?_
        rotate_left
        · intro w'
          go_simp
          with_reducible rfl
        rotate_left
        · simp only [Act.put, List.setIfInBounds_toArray, List.set_cons_zero, List.set_cons_succ, i64_w, i32_w]
          rfl
        refine pure_ (i := 2) (N := (some 62)) (v := ?_) (a' := ?_) #[true, true, true, false, false, false, false, false, false, false, false, false, false, false, false] rfl rfl (by kernel_rfl) (fun _ _ _ h => h) (Or.inl ⟨by rfl, ?_⟩) ?_ ?_
        rotate_left
        · intro w'
          go_simp
          with_reducible rfl
        rotate_left
        · simp only [Act.put, List.setIfInBounds_toArray, List.set_cons_zero, List.set_cons_succ, i64_w, i32_w]
          rfl
        refine pure_ (i := 3) (N := (some 63)) (v := ?_) (a' := ?_) #[true, true, true, true, false, false, false, false, false, false, false, false, false, false, false] rfl rfl (by kernel_rfl) (fun _ _ _ h => h) (Or.inl ⟨by rfl, ?_⟩) ?_ ?_
        rotate_left
        · intro w'
          go_simp
          with_reducible rfl
        rotate_left
        · simp only [Act.put, List.setIfInBounds_toArray, List.set_cons_zero, List.set_cons_succ, i64_w, i32_w]
          rfl
        refine pure_ (i := 4) (N := (some 64)) (v := ?_) (a' := ?_) #[true, true, true, true, true, false, false, false, false, false, false, false, false, false, false] rfl rfl (by kernel_rfl) (fun _ _ _ h => h) (Or.inl ⟨by rfl, ?_⟩) ?_ ?_
        rotate_left
        · intro w'
          go_simp
          with_reducible rfl
        rotate_left
        · simp only [Act.put, List.setIfInBounds_toArray, List.set_cons_zero, List.set_cons_succ, i64_w, i32_w]
          rfl
        refine take_ (i := 5) (N := (some 65)) (v := ?_) (a' := ?_) #[true, true, true, true, true, true, false, false, false, false, false, false, false, false, false] rfl rfl (by kernel_rfl) (fun _ _ _ h => h) (Or.inl ⟨by rfl, ?_⟩) hHeld ?_ ?_
        rotate_left
        · rintro w' s0
          go_simp
          with_reducible rfl
        rotate_left
        · simp only [Act.put, List.setIfInBounds_toArray, List.set_cons_zero, List.set_cons_succ, i64_w, i32_w]
          rfl
        refine join_ (σ := Nat) 3 #[true, true, true, true, true, true, true, true, true, true, true, true, false, false, false] (fun s_ => [(66, .tuple #[.agg #[.bool t1, .string t2, .bool t3, .string t4, .int .i64 t5, .int .i64 t6], .int .i64 t7, .int .i64 t8]), (59, .tuple #[.agg #[.bool t1, .string t2, .bool t3, .string t4, .int .i64 t5, .int .i64 t6], .int .i64 t7, .int .i64 t8]), (67, .agg #[.bool t1, .string t2, .bool t3, .string t4, .int .i64 t5, .int .i64 t6]), (68, .int .i64 t7), (69, .int .i64 t8), (9, .pointer (some ⟨s_, 0, none⟩))]) (fun s_ w' => w'.cell? ⟨w.heap.size + 1, 4, none⟩ = some (.int .i64 t) ∧ Aside0 (w.heap.size + 2 ≤ s_) ∧ Aside0 (BdSt w w' b s p q u p q s cn t x) ∧ Aside0 (w'.heap[s_]? = some (.cells #[.bool false, .string ⟨#[]⟩, .bool false, .string ⟨#[]⟩, .int .i64 0, .int .i64 0] 45 (0, 0))) ∧ Aside0 (Kd.R k45 45 w' w.heap.size (fun k_ => k_ ≠ s_) u x)) ?_ ?_
        rotate_left
        · intro hCont
          refine two_ (i := 6) (j := 11) (Ni := (some 66)) (Nj := (some 9)) #[true, true, true, true, true, true, true, false, false, false, false, false, false, false, false] #[true, true, true, true, true, true, false, false, false, false, false, true, false, false, false] rfl rfl rfl rfl (by kernel_rfl) (by decide) (by decide) (fun K hK => ?_) (fun K hK => ?_)
          · refine goes_ Try.func36 (by kernel_rfl) rfl #[.slice A1 sl.length (c - at_.toNat), .int .i64 t] (by rfl) rfl rfl (by (try simp only [List.map_toArray, List.map_cons, List.map_nil]); first | done | rfl) ?_
            refine (record_Decode.calls k2 A1 (c - at_.toNat) sl t t1 t2 t3 t4 t5 t6 t7 t8 _ (Kd.C_below HR2.out D0.out.bel) HC2.out HD.out).mono ?_
            rintro e y1 ⟨rfl, hb⟩
            refine ⟨_, rfl, ?_⟩
            have D1 := Aside0.mk (D0.out.below hb)
            clear hb D0
            refine hK.out _ _ D1.out.vcells.2.2.2.2 (fun hHeld => ?_)
            clear hK K
            refine norm_ (a' := ?_) ?_ ?_
            rotate_left
            · show Act.put _ (some 66) _ = _
              simp only [Act.put, List.setIfInBounds_toArray, List.set_cons_zero, List.set_cons_succ, i64_w, i32_w]
              rfl
            refine pure_ (i := 7) (N := (some 59)) (v := ?_) (a' := ?_) #[true, true, true, true, true, true, true, true, false, false, false, false, false, false, false] rfl rfl (by kernel_rfl) (fun _ _ _ h => h) (Or.inl ⟨by rfl, ?_⟩) ?_ ?_
            rotate_left
            · intro w'
              go_simp
              with_reducible rfl
            rotate_left
            · simp only [Act.put, List.setIfInBounds_toArray, List.set_cons_zero, List.set_cons_succ, i64_w, i32_w]
              rfl
            refine pure_ (i := 8) (N := (some 67)) (v := ?_) (a' := ?_) #[true, true, true, true, true, true, true, true, true, false, false, false, false, false, false] rfl rfl (by kernel_rfl) (fun _ _ _ h => h) (Or.inl ⟨by rfl, ?_⟩) ?_ ?_
            rotate_left
            · intro w'
              go_simp
              with_reducible rfl
            rotate_left
            · simp only [Act.put, List.setIfInBounds_toArray, List.set_cons_zero, List.set_cons_succ, i64_w, i32_w]
              rfl
            refine pure_ (i := 9) (N := (some 68)) (v := ?_) (a' := ?_) #[true, true, true, true, true, true, true, true, true, true, false, false, false, false, false] rfl rfl (by kernel_rfl) (fun _ _ _ h => h) (Or.inl ⟨by rfl, ?_⟩) ?_ ?_
            rotate_left
            · intro w'
              go_simp
              with_reducible rfl
            rotate_left
            · simp only [Act.put, List.setIfInBounds_toArray, List.set_cons_zero, List.set_cons_succ, i64_w, i32_w]
              rfl
            refine pure_ (i := 10) (N := (some 69)) (v := ?_) (a' := ?_) #[true, true, true, true, true, true, true, true, true, true, true, false, false, false, false] rfl rfl (by kernel_rfl) (fun _ _ _ h => h) (Or.inl ⟨by rfl, ?_⟩) ?_ ?_
            rotate_left
            · intro w'
              go_simp
              with_reducible rfl
            rotate_left
            · simp only [Act.put, List.setIfInBounds_toArray, List.set_cons_zero, List.set_cons_succ, i64_w, i32_w]
              rfl
            refine one_ (i := 11) (N := (some 9)) #[true, true, true, true, true, true, true, true, true, true, true, true, false, false, false] rfl rfl (by kernel_rfl) (by decide) (fun K hK => ?_)
            refine box_step ?hg (N := 9) ?hd (cs := #[.bool false, .string ⟨#[]⟩, .bool false, .string ⟨#[]⟩, .int .i64 0, .int .i64 0]) (t := 45) ?hr ?_; (case hd => rfl); (case hg => rfl); (case hr => first | (go_simp; done) | (go_simp; rfl))
            intro g9 hg y2 hbox hb
            have GE := Aside0.mk (show w.heap.size + 2 ≤ g9 from by rw [hg]; exact blk_lt D1.out.vt)
            have RO := Aside0.mk (Kd.R_mono (Kd.R_below (Kd.R_elderB D1.out.row g9 (Nat.le_of_eq hg.symm)) hb) (fun k_ hk => hk.2))
            have D2 := Aside0.mk (D1.out.below hb)
            have BK := Aside0.mk hbox
            clear hbox hb hg D1
            refine hK.out _ _ D2.out.vcells.2.2.2.2 (fun hHeld => ?_)
            clear hK K
            refine norm_ (a' := ?_) ?_ ?_
            rotate_left
            · show Act.put _ (some 9) _ = _
              simp only [Act.put, List.setIfInBounds_toArray, List.set_cons_zero, List.set_cons_succ, i64_w, i32_w]
              rfl
            exact norm_ (by simp only [putAll, Act.put, List.setIfInBounds_toArray, List.set_cons_zero, List.set_cons_succ]) (hCont g9 _ ⟨hHeld, GE, D2, BK, RO⟩)
          · refine box_step ?hg (N := 9) ?hd (cs := #[.bool false, .string ⟨#[]⟩, .bool false, .string ⟨#[]⟩, .int .i64 0, .int .i64 0]) (t := 45) ?hr ?_; (case hd => rfl); (case hg => rfl); (case hr => first | (go_simp; done) | (go_simp; rfl))
            intro g9 hg y1 hbox hb
            have GE := Aside0.mk (show w.heap.size + 2 ≤ g9 from by rw [hg]; exact blk_lt D0.out.vt)
            have RO1 := Aside0.mk (Kd.R_mono (Kd.R_below (Kd.R_elderB D0.out.row g9 (Nat.le_of_eq hg.symm)) hb) (fun k_ hk => hk.2))
            have D1 := Aside0.mk (D0.out.below hb)
            have BK1 := Aside0.mk hbox
            clear hbox hb hg D0
            refine hK.out _ _ D1.out.vcells.2.2.2.2 (fun hHeld => ?_)
            clear hK K
            refine norm_ (a' := ?_) ?_ ?_
            rotate_left
            · show Act.put _ (some 9) _ = _
              simp only [Act.put, List.setIfInBounds_toArray, List.set_cons_zero, List.set_cons_succ, i64_w, i32_w]
              rfl
            refine one_ (i := 6) (N := (some 66)) #[true, true, true, true, true, true, true, false, false, false, false, true, false, false, false] rfl rfl (by kernel_rfl) (by decide) (fun K hK => ?_)
            refine goes_ Try.func36 (by kernel_rfl) rfl #[.slice A1 sl.length (c - at_.toNat), .int .i64 t] (by rfl) rfl rfl (by (try simp only [List.map_toArray, List.map_cons, List.map_nil]); first | done | rfl) ?_
            refine (record_Decode.calls k2 A1 (c - at_.toNat) sl t t1 t2 t3 t4 t5 t6 t7 t8 _ (Kd.C_below HR2.out D1.out.bel) HC2.out HD.out).mono ?_
            rintro e y2 ⟨rfl, hb⟩
            refine ⟨_, rfl, ?_⟩
            have D2 := Aside0.mk (D1.out.below hb)
            have BK := Aside0.mk (blk_below BK1.out hb)
            have RO := Aside0.mk (Kd.R_below RO1.out hb)
            clear hb D1 BK1 RO1
            refine hK.out _ _ D2.out.vcells.2.2.2.2 (fun hHeld => ?_)
            clear hK K
            refine norm_ (a' := ?_) ?_ ?_
            rotate_left
            · show Act.put _ (some 66) _ = _
              simp only [Act.put, List.setIfInBounds_toArray, List.set_cons_zero, List.set_cons_succ, i64_w, i32_w]
              rfl
            refine pure_ (i := 7) (N := (some 59)) (v := ?_) (a' := ?_) #[true, true, true, true, true, true, true, true, false, false, false, true, false, false, false] rfl rfl (by kernel_rfl) (fun _ _ _ h => h) (Or.inl ⟨by rfl, ?_⟩) ?_ ?_
            rotate_left
            · intro w'
              go_simp
              with_reducible rfl
            rotate_left
            · simp only [Act.put, List.setIfInBounds_toArray, List.set_cons_zero, List.set_cons_succ, i64_w, i32_w]
              rfl
            refine pure_ (i := 8) (N := (some 67)) (v := ?_) (a' := ?_) #[true, true, true, true, true, true, true, true, true, false, false, true, false, false, false] rfl rfl (by kernel_rfl) (fun _ _ _ h => h) (Or.inl ⟨by rfl, ?_⟩) ?_ ?_
            rotate_left
            · intro w'
              go_simp
              with_reducible rfl
            rotate_left
            · simp only [Act.put, List.setIfInBounds_toArray, List.set_cons_zero, List.set_cons_succ, i64_w, i32_w]
              rfl
            refine pure_ (i := 9) (N := (some 68)) (v := ?_) (a' := ?_) #[true, true, true, true, true, true, true, true, true, true, false, true, false, false, false] rfl rfl (by kernel_rfl) (fun _ _ _ h => h) (Or.inl ⟨by rfl, ?_⟩) ?_ ?_
            rotate_left
            · intro w'
              go_simp
              with_reducible rfl
            rotate_left
            · simp only [Act.put, List.setIfInBounds_toArray, List.set_cons_zero, List.set_cons_succ, i64_w, i32_w]
              rfl
            refine pure_ (i := 10) (N := (some 69)) (v := ?_) (a' := ?_) #[true, true, true, true, true, true, true, true, true, true, true, true, false, false, false] rfl rfl (by kernel_rfl) (fun _ _ _ h => h) (Or.inl ⟨by rfl, ?_⟩) ?_ ?_
            rotate_left
            · intro w'
              go_simp
              with_reducible rfl
            rotate_left
            · simp only [Act.put, List.setIfInBounds_toArray, List.set_cons_zero, List.set_cons_succ, i64_w, i32_w]
              rfl
            exact norm_ (by simp only [putAll, Act.put, List.setIfInBounds_toArray, List.set_cons_zero, List.set_cons_succ]) (hCont g9 _ ⟨hHeld, GE, D2, BK, RO⟩)
        rintro g9 y3 ⟨hHeld, GE, D2, BK, RO⟩
        refine norm_ (a' := ?_) ?_ ?_
        rotate_left
        · simp only [putAll, Act.put, List.setIfInBounds_toArray, List.set_cons_zero, List.set_cons_succ]
          rfl
        refine one_ (i := 12) (N := none) #[true, true, true, true, true, true, true, true, true, true, true, true, true, false, false] rfl rfl (by kernel_rfl) (by decide) (fun K hK => ?_)
        have r0 : y3.cell? ⟨g9, 0, none⟩ = some (.bool false) := (blk_cell BK.out 0).trans rfl
        have r1 : y3.cell? ⟨g9, 1, none⟩ = some (.string ⟨#[]⟩) := (blk_cell BK.out 1).trans rfl
        have r2 : y3.cell? ⟨g9, 2, none⟩ = some (.bool false) := (blk_cell BK.out 2).trans rfl
        have r3 : y3.cell? ⟨g9, 3, none⟩ = some (.string ⟨#[]⟩) := (blk_cell BK.out 3).trans rfl
        have r4 : y3.cell? ⟨g9, 4, none⟩ = some (.int .i64 0) := (blk_cell BK.out 4).trans rfl
        have r5 : y3.cell? ⟨g9, 5, none⟩ = some (.int .i64 0) := (blk_cell BK.out 5).trans rfl
        have f0 := blk_frozen BK.out 0
        have f1 := blk_frozen BK.out 1
        have f2 := blk_frozen BK.out 2
        have f3 := blk_frozen BK.out 3
        have f4 := blk_frozen BK.out 4
        have f5 := blk_frozen BK.out 5
        refine skip_ (w1 := ?_) (by rfl) rfl ?_ ?_
        rotate_left
        · go_simp
          rfl
        refine hK.out _ _ (bd_far D2.out GE.out RO.out (.bool t1) (.string t2) (.bool t3) (.string t4) (.int .i64 t5) (.int .i64 t6)).1.vcells.2.2.2.2 (fun hHeld => ?_)
        clear hK K
        refine pure_ (i := 13) (N := (some 10)) (v := ?_) (a' := ?_) #[true, true, true, true, true, true, true, true, true, true, true, true, true, true, false] rfl rfl (by kernel_rfl) (fun _ _ _ h => h) (Or.inl ⟨by rfl, ?_⟩) ?_ ?_
        rotate_left
        · intro w'
          go_simp
          with_reducible rfl
        rotate_left
        · simp only [Act.put, List.setIfInBounds_toArray, List.set_cons_zero, List.set_cons_succ, i64_w, i32_w]
          rfl
        refine pure_ (i := 14) (N := (some 11)) (v := ?_) (a' := ?_) #[true, true, true, true, true, true, true, true, true, true, true, true, true, true, true] rfl rfl (by kernel_rfl) (fun _ _ _ h => h) (Or.inl ⟨by rfl, ?_⟩) ?_ ?_
        rotate_left
        · intro w'
          go_simp
          with_reducible rfl
        rotate_left
        · simp only [Act.put, List.setIfInBounds_toArray, List.set_cons_zero, List.set_cons_succ, i64_w, i32_w]
          rfl
        refine done_ (by kernel_rfl) ?_
        clear hHeld
        have F_ := bd_far D2.out GE.out RO.out (.bool t1) (.string t2) (.bool t3) (.string t4) (.int .i64 t5) (.int .i64 t6)
        have D3 := Aside0.mk F_.1
        have RO3 := Aside0.mk F_.2
        have s0 : (World.setCell y3 ⟨g9, 0, none⟩ ((.bool t1))).heap[g9]? = some (.cells #[(.bool t1), .string ⟨#[]⟩, .bool false, .string ⟨#[]⟩, .int .i64 0, .int .i64 0] 45 (0, 0)) := by simpa using blk_set BK.out 0 ((.bool t1))
        have s1 : (World.setCell (World.setCell y3 ⟨g9, 0, none⟩ ((.bool t1))) ⟨g9, 1, none⟩ ((.string t2))).heap[g9]? = some (.cells #[(.bool t1), (.string t2), .bool false, .string ⟨#[]⟩, .int .i64 0, .int .i64 0] 45 (0, 0)) := by simpa using blk_set s0 1 ((.string t2))
        have s2 : (World.setCell (World.setCell (World.setCell y3 ⟨g9, 0, none⟩ ((.bool t1))) ⟨g9, 1, none⟩ ((.string t2))) ⟨g9, 2, none⟩ ((.bool t3))).heap[g9]? = some (.cells #[(.bool t1), (.string t2), (.bool t3), .string ⟨#[]⟩, .int .i64 0, .int .i64 0] 45 (0, 0)) := by simpa using blk_set s1 2 ((.bool t3))
        have s3 : (World.setCell (World.setCell (World.setCell (World.setCell y3 ⟨g9, 0, none⟩ ((.bool t1))) ⟨g9, 1, none⟩ ((.string t2))) ⟨g9, 2, none⟩ ((.bool t3))) ⟨g9, 3, none⟩ ((.string t4))).heap[g9]? = some (.cells #[(.bool t1), (.string t2), (.bool t3), (.string t4), .int .i64 0, .int .i64 0] 45 (0, 0)) := by simpa using blk_set s2 3 ((.string t4))
        have s4 : (World.setCell (World.setCell (World.setCell (World.setCell (World.setCell y3 ⟨g9, 0, none⟩ ((.bool t1))) ⟨g9, 1, none⟩ ((.string t2))) ⟨g9, 2, none⟩ ((.bool t3))) ⟨g9, 3, none⟩ ((.string t4))) ⟨g9, 4, none⟩ ((.int .i64 t5))).heap[g9]? = some (.cells #[(.bool t1), (.string t2), (.bool t3), (.string t4), (.int .i64 t5), .int .i64 0] 45 (0, 0)) := by simpa using blk_set s3 4 ((.int .i64 t5))
        have s5 : (World.setCell (World.setCell (World.setCell (World.setCell (World.setCell (World.setCell y3 ⟨g9, 0, none⟩ ((.bool t1))) ⟨g9, 1, none⟩ ((.string t2))) ⟨g9, 2, none⟩ ((.bool t3))) ⟨g9, 3, none⟩ ((.string t4))) ⟨g9, 4, none⟩ ((.int .i64 t5))) ⟨g9, 5, none⟩ ((.int .i64 t6))).heap[g9]? = some (.cells #[(.bool t1), (.string t2), (.bool t3), (.string t4), (.int .i64 t5), (.int .i64 t6)] 45 (0, 0)) := by simpa using blk_set s4 5 ((.int .i64 t6))
        have BK3 := Aside0.mk s5
        clear s0 s1 s2 s3 s4 s5 F_ D2 RO BK r0 r1 r2 r3 r4 r5 f0 f1 f2 f3 f4 f5
        generalize (World.setCell (World.setCell (World.setCell (World.setCell (World.setCell (World.setCell y3 ⟨g9, 0, none⟩ ((.bool t1))) ⟨g9, 1, none⟩ ((.string t2))) ⟨g9, 2, none⟩ ((.bool t3))) ⟨g9, 3, none⟩ ((.string t4))) ⟨g9, 4, none⟩ ((.int .i64 t5))) ⟨g9, 5, none⟩ ((.int .i64 t6))) = y4 at D3 RO3 BK3 ⊢
        by_cases e8 : t8 = 0
        · have H := HH.out
          rw [if_pos e8] at H
          have b8 : (t8 != 0) = false := bne_eq_false_iff_eq.mpr e8
          by_cases e9 : x.length < 2199023255552
          case neg => rw [if_neg e9] at H; cases H
          rw [if_pos e9] at H
          have HLM := Aside0.mk e9
          obtain ⟨x2, hx2⟩ : ∃ x2, x2 = x ++ [(⟨t1, t2, t3, t4, t5, t6⟩ : S45)] := ⟨_, rfl⟩
          rw [← hx2] at H
          have HA := Aside0.mk H
          have HX2 := Aside0.mk hx2
          clear H HH e8 e9 hx2
          have e0_ : y4.cell? ⟨g9, 0, none⟩ = some (.bool t1) := (blk_cell BK3.out 0).trans rfl
          have e1_ : y4.cell? ⟨g9, 1, none⟩ = some (.string t2) := (blk_cell BK3.out 1).trans rfl
          have e2_ : y4.cell? ⟨g9, 2, none⟩ = some (.bool t3) := (blk_cell BK3.out 2).trans rfl
          have e3_ : y4.cell? ⟨g9, 3, none⟩ = some (.string t4) := (blk_cell BK3.out 3).trans rfl
          have e4_ : y4.cell? ⟨g9, 4, none⟩ = some (.int .i64 t5) := (blk_cell BK3.out 4).trans rfl
          have e5_ : y4.cell? ⟨g9, 5, none⟩ = some (.int .i64 t6) := (blk_cell BK3.out 5).trans rfl
          obtain ⟨-, -, -, -, y9_⟩ := D3.out.bcells
          go_wp2_with (at_builtin; refine Kd.R_append k45 (w0 := w) w.heap.size rfl (.tmp 74) (.tmp 76) 22 45 (.agg #[(.bool false), (.string ⟨#[]⟩), (.bool false), (.string ⟨#[]⟩), (.int .i64 0), (.int .i64 0)]) 64 rfl Try.underlying22 info45 rfl (by decide) (by omega) u x (⟨t1, t2, t3, t4, t5, t6⟩ : S45) [.bool t1, .string t2, .bool t3, .string t4, .int .i64 t5, .int .i64 t6] (fun _ => True) (fun _ => False) rfl (by first | (go_simp; done) | (go_simp; rfl)) ?aP (fun _ hk => hk.elim) ?aF ?aO ?aB ?aS ?aL ?_; (case aP => exact k45_mkM _ _ _ (⟨t1, t2, t3, t4, t5, t6⟩ : S45)); (case aB => exact D3.out.bel); (case aF => exact fun _ _ => trivial); (case aO => exact D3.out.row); (case aS => exact D3.out.bel.size); (case aL => have := HLM.out; omega); intro v7 y5 ho hb hg hat; rw [← HX2.out] at ho; have D5 := Aside0.mk (And.intro hb (And.intro (blk_grown D3.out.bt hg (Kd.R_ne D3.out.row D3.out.bt (by decide))) (blk_grown D3.out.vt hg (Kd.R_ne D3.out.row D3.out.vt (by decide))))); have HO5 := Aside0.mk ho; obtain ⟨A7, c7, e7⟩ := Kd.R_slice ho; subst e7; clear ho hb hg hat; have y4_ : y5.cell? ⟨w.heap.size, 4, none⟩ = some u := (blk_cell D5.out.2.1 4).trans rfl; have z4 := blk_frozen D5.out.2.1 4)
          go_roundg k2
          case measure => have := HK2.out; omega
          case rel => exact ⟨wrap64 (at_ + t7), x2, .slice A7 x2.length c7, rfl, rfl, by first | rfl | (simp; done), HA, ⟨by have := HK2.out; omega⟩, ⟨BdSt.setU D5.out.1 D5.out.2.1 D5.out.2.2 _ _ HO5.out⟩⟩
        · have H := HH.out
          rw [if_neg e8] at H
          have b8 : (t8 != 0) = true := bne_iff_ne.mpr e8
          unfold batch_Decode.bad at H
          simp only [Option.some.injEq, Prod.mk.injEq] at H
          obtain ⟨rfl, rfl, rfl, rfl, rfl, rfl, rfl⟩ := H
          clear HH
          obtain ⟨z0, z1, z2, z3, z4⟩ := D3.out.bfree
          obtain ⟨y0, y1, y2, y3, y4_⟩ := D3.out.bcells
          go_wp2_with fail
          have SB_ := (D3.out).setB 0 0 0 0 (.slice none 0 0) [] (Kd.R_nil _ _ _ _ _)
          refine bodyPost_ret (results_ctt rfl _ _ w.heap.size 24 #[.int .i64 0, .int .i64 0, .int .i64 0, .int .i64 0, .slice none 0 0] (0, 0) _ rfl SB_.bt Try.underlying24 rfl (by kernel_rfl)) rfl ?_
          exact ⟨_, rfl, Kd.R_nil _ _ _ _ _, SB_.bel⟩
      · rw [if_neg e1] at H
        have b1 : decide (at_ < 12 + m) = false := decide_eq_false e1
        unfold batch_Decode.fin at H
        obtain ⟨⟨en, ee⟩, HE_, H⟩ := Option.bind_eq_some_iff.mp H
        dsimp only at H
        have HE := Aside0.mk HE_
        have HH := Aside0.mk H
        clear H HE_
        obtain ⟨Au, cu, eu⟩ := Kd.R_slice ST.out.row
        subst eu
        obtain ⟨y0, y1, y2, y3, y4_⟩ := ST.out.bcells
        go_wp2_with fail
        refine (batch_Encode.calls k2 b s p q Au cu x en ee _ (Kd.R_reads' ST.out.row).2.2 (Kd.R_reads' ST.out.row).2.1 HE.out).mono ?_
        rintro e y6 ⟨v0, rfl, ho, hb⟩
        have D2 := Aside0.mk (ST.out.below hb)
        have HO := Aside0.mk (Kd.R_lower ho ST.out.bel.size)
        obtain ⟨Ae, ce, ev⟩ := Kd.R_slice ho
        subst ev
        clear ho hb y0 y1 y2 y3 y4_ ST
        by_cases e8 : ee = 0
        · have H := HH.out
          rw [if_pos e8] at H
          have b8 : (ee != 0) = false := bne_eq_false_iff_eq.mpr e8
          obtain ⟨eq, HQ_, H⟩ := Option.bind_eq_some_iff.mp H
          have HN := Aside0.mk (show 0 ≤ 12 + m ∧ 12 + m ≤ (l.length : Int) by omega)
          obtain ⟨i0, hi0, _, hsz0, _⟩ := info_parts info5
          obtain ⟨hcut, hA, hC⟩ := print_take_of (P := Try.prog) (Value.int .u8) 0 27 5 .i64 Try.underlying27 hi0 hsz0 A c l (12 + m) (by omega) (by omega) HC.out
          obtain ⟨tl, htl⟩ : ∃ tl, tl = l.take (12 + m).toNat := ⟨_, rfl⟩
          rw [← htl] at hcut hA hC HQ_
          have HQ2 := Aside0.mk HQ_
          have HR2 := Aside0.mk (Kd.C_of_reads (h1 := fun _ => rfl) (hA _ (Kd.reads_of_C HR.out)))
          have HC2 := Aside0.mk hC
          clear hi0 hsz0 hA hC HQ_ HH e8 htl
          cases eq with
          | true =>
            rw [if_pos rfl] at H
            simp only [Option.some.injEq, Prod.mk.injEq] at H
            obtain ⟨rfl, rfl, rfl, rfl, rfl, rfl, rfl⟩ := H
            go_wp2_with fail
            refine (bytes_Equal.calls Ae ce en A c tl true _ (Kd.R_reads' HO.out).2.2 (Kd.R_reads' HO.out).2.1 (Kd.C_below HR2.out D2.out.bel) HC2.out HQ2.out).mono ?_
            rintro e w' ⟨rfl, ⟨n7, rfl⟩⟩
            have D3 := Aside0.mk (D2.out.drewN n7)
            obtain ⟨z0, z1, z2, z3, z4⟩ := D3.out.bfree
            obtain ⟨y0, y1, y2, y3, y4_⟩ := D3.out.bcells
            go_wp2_with fail
            have SB_ := D3.out.setB b s p q _ x D3.out.row
            refine bodyPost_ret (results_ctt rfl _ _ w.heap.size 24 #[.int .i64 b, .int .i64 s, .int .i64 p, .int .i64 q, .slice Au x.length cu] (0, 0) _ rfl SB_.bt Try.underlying24 rfl (by kernel_rfl)) rfl ?_
            exact ⟨_, rfl, SB_.row, SB_.bel⟩
          | false =>
            rw [if_neg (by decide)] at H
            unfold batch_Decode.bad at H
            simp only [Option.some.injEq, Prod.mk.injEq] at H
            obtain ⟨rfl, rfl, rfl, rfl, rfl, rfl, rfl⟩ := H
            go_wp2_with fail
            refine (bytes_Equal.calls Ae ce en A c tl false _ (Kd.R_reads' HO.out).2.2 (Kd.R_reads' HO.out).2.1 (Kd.C_below HR2.out D2.out.bel) HC2.out HQ2.out).mono ?_
            rintro e w' ⟨rfl, ⟨n7, rfl⟩⟩
            have D3 := Aside0.mk (D2.out.drewN n7)
            obtain ⟨z0, z1, z2, z3, z4⟩ := D3.out.bfree
            obtain ⟨y0, y1, y2, y3, y4_⟩ := D3.out.bcells
            go_wp2_with fail
            have SB_ := (D3.out).setB 0 0 0 0 (.slice none 0 0) [] (Kd.R_nil _ _ _ _ _)
            refine bodyPost_ret (results_ctt rfl _ _ w.heap.size 24 #[.int .i64 0, .int .i64 0, .int .i64 0, .int .i64 0, .slice none 0 0] (0, 0) _ rfl SB_.bt Try.underlying24 rfl (by kernel_rfl)) rfl ?_
            exact ⟨_, rfl, Kd.R_nil _ _ _ _ _, SB_.bel⟩
        · have H := HH.out
          rw [if_neg e8] at H
          have b8 : (ee != 0) = true := bne_iff_ne.mpr e8
          unfold batch_Decode.bad at H
          simp only [Option.some.injEq, Prod.mk.injEq] at H
          obtain ⟨rfl, rfl, rfl, rfl, rfl, rfl, rfl⟩ := H
          clear HH
          obtain ⟨z0, z1, z2, z3, z4⟩ := D2.out.bfree
          obtain ⟨y0, y1, y2, y3, y4_⟩ := D2.out.bcells
          go_wp2_with fail
          have SB_ := (D2.out).setB 0 0 0 0 (.slice none 0 0) [] (Kd.R_nil _ _ _ _ _)
          refine bodyPost_ret (results_ctt rfl _ _ w.heap.size 24 #[.int .i64 0, .int .i64 0, .int .i64 0, .int .i64 0, .slice none 0 0] (0, 0) _ rfl SB_.bt Try.underlying24 rfl (by kernel_rfl)) rfl ?_
          exact ⟨_, rfl, Kd.R_nil _ _ _ _ _, SB_.bel⟩
theorem batch_Decode.calls (k : Nat) (A : Option Addr) (c : Nat) (l : List Int) (r1 r2 r3 r4 : Int) (r5 : List S45) (r6 r7 : Int) (w : World) (hr : Kd.C (Kd.int .u8) w A l.length l) (hc : l.length ≤ c) (h : batch_Decode.f k l = some (r1, r2, r3, r4, r5, r6, r7)) :
    Calls Try.prog 22 #[.slice A l.length c] w fun e w' => ∃ v4_ : Value, e = .returned (.tuple #[.agg #[.int .i64 r1, .int .i64 r2, .int .i64 r3, .int .i64 r4, v4_], .int .i64 r6, .int .i64 r7]) ∧ Kd.R k45 45 w' w.heap.size (fun _ => True) v4_ r5 ∧ Below w.heap.size w w' := by
  have bad : batch_Decode.bad = some (r1, r2, r3, r4, r5, r6, r7) → r1 = 0 ∧ r2 = 0 ∧ r3 = 0 ∧ r4 = 0 ∧ r5 = [] ∧ r6 = 0 ∧ r7 = 10 := by
    intro h
    unfold batch_Decode.bad at h
    simp only [Option.some.injEq, Prod.mk.injEq] at h
    obtain ⟨rfl, rfl, rfl, rfl, rfl, rfl, rfl⟩ := h
    exact ⟨rfl, rfl, rfl, rfl, rfl, rfl, rfl⟩
  unfold batch_Decode.f at h
  by_cases c0 : (l.length : Int) < 48
  · rw [if_pos c0] at h
    obtain ⟨rfl, rfl, rfl, rfl, rfl, rfl, rfl⟩ := bad h
    exact batch_Decode.short k A c l w hr hc c0
  rw [if_neg c0] at h
  obtain ⟨m, hg, h⟩ := Option.bind_eq_some_iff.mp h
  by_cases cm : 0 ≤ m ∧ m < 4294967296
  case neg => rw [if_neg cm] at h; cases h
  rw [if_pos cm] at h
  by_cases c1 : 12 + m < 48
  · rw [if_pos c1] at h
    obtain ⟨rfl, rfl, rfl, rfl, rfl, rfl, rfl⟩ := bad h
    exact batch_Decode.less k A c l w hr hc m c0 hg cm c1
  rw [if_neg c1] at h
  by_cases c2 : 12 + m > (l.length : Int)
  · rw [if_pos c2] at h
    obtain ⟨rfl, rfl, rfl, rfl, rfl, rfl, rfl⟩ := bad h
    exact batch_Decode.more k A c l w hr hc m c0 hg cm c1 c2
  rw [if_neg c2] at h
  by_cases c3 : 12 + m > 6000
  · rw [if_pos c3] at h
    obtain ⟨rfl, rfl, rfl, rfl, rfl, rfl, rfl⟩ := bad h
    exact batch_Decode.large k A c l w hr hc m c0 hg cm c1 c2 c3
  rw [if_neg c3] at h
  obtain ⟨p, hp, h⟩ := Option.bind_eq_some_iff.mp h
  obtain ⟨q, hq, h⟩ := Option.bind_eq_some_iff.mp h
  obtain ⟨s, hs, h⟩ := Option.bind_eq_some_iff.mp h
  obtain ⟨cn, hcn, h⟩ := Option.bind_eq_some_iff.mp h
  obtain ⟨t, ht, h⟩ := Option.bind_eq_some_iff.mp h
  obtain ⟨b, hb, h⟩ := Option.bind_eq_some_iff.mp h
  exact batch_Decode.main k A c l w hr hc m c0 hg cm c1 c2 c3 p q s cn t b hp hq hs hcn ht hb r1 r2 r3 r4 r5 r6 r7 h

/-! ### bollardalike_Round: function 24 -/
def bollardalike_Round.f (a0 : Int) (a1 : Int) : Option (Int) := if a1 = 0 then (none) else (if (Int.tmod a0 a1) < 0 then (some (wrap64 ((Int.tmod a0 a1) + a1))) else (some (Int.tmod a0 a1)))
set_option maxHeartbeats 8000000 in
set_option maxRecDepth 100000 in
theorem bollardalike_Round.calls (a0 : Int) (a1 : Int) (r : Int) (w : World) (h : bollardalike_Round.f a0 a1 = some r) :
    Calls Try.prog 24 #[.int .i64 a0, .int .i64 a1] w fun e w' => e = .returned (.int .i64 r) ∧ Drawn0 w w' := by
  have H : (if a1 = 0 then (none) else (if (Int.tmod a0 a1) < 0 then (some (wrap64 ((Int.tmod a0 a1) + a1))) else (some (Int.tmod a0 a1)))) = some r := h
  clear h
  by_cases c3 : a1 = 0
  · rw [if_pos c3] at H
    exact absurd H (by simp)
  · rw [if_neg c3] at H
    have c3b0 : (a1 == 0) = false := beq_eq_false_iff_ne.mpr c3
    have c3b1 : (a1 != 0) = true := bne_iff_ne.mpr c3
    by_cases c4 : (Int.tmod a0 a1) < 0
    · rw [if_pos c4] at H
      have c4b0 : decide ((Int.tmod a0 a1) < 0) = true := decide_eq_true c4
      clear c4
      obtain rfl := Option.some.inj H
      go_enter Try.func24, Try.ntmps24
      go_wp2
      go_ret
      exact ⟨by first | rfl | (simp; done) | (simp [*]; done) | exact congrArg Value.bool (ne_empty _) | exact congrArg Value.bool (eq_empty _), by repeat (first | exact Drawn0.refl _ | apply Drawn0.step)⟩
    · rw [if_neg c4] at H
      have c4b0 : decide ((Int.tmod a0 a1) < 0) = false := decide_eq_false c4
      clear c4
      obtain rfl := Option.some.inj H
      go_enter Try.func24, Try.ntmps24
      go_wp2
      go_ret
      exact ⟨by first | rfl | (simp; done) | (simp [*]; done) | exact congrArg Value.bool (ne_empty _) | exact congrArg Value.bool (eq_empty _), by repeat (first | exact Drawn0.refl _ | apply Drawn0.step)⟩

end Go.Proofs.Ytgmeellapjimgaa.PBb

-- written by a program of this session (wip/tools/pr.py, over the kit's printer): not by hand
namespace Go.Proofs.Ytgmeellapjimgaa.PBb
open Go.RowKit Go.Proofs.YtgmeellapjimgaaW.PrintWords Go.Proofs.YtgmeellapjimgaaW.PrintLast Go.Proofs.YtgmeellapjimgaaW.PrintMore
attribute [local go_sem] max2_int min2_int max_two min_two max_three min_three max_four min_four   -- for this text's walks alone
set_option linter.unusedVariables false
set_option linter.unusedSimpArgs false

theorem eqA45 (d : Nat) (w : World) (x0 y0 : Bool) (x1 y1 : ByteArray) (x2 y2 : Bool) (x3 y3 : ByteArray) (x4 y4 : Int) (x5 y5 : Int) :
    (Op.equalIn (d + 2) 45 (.agg #[.bool x0, .string x1, .bool x2, .string x3, .int .i64 x4, .int .i64 x5]) (.agg #[.bool y0, .string y1, .bool y2, .string y3, .int .i64 y4, .int .i64 y5])).run Try.prog w = .ok (x0 == y0 && (x1.toList == y1.toList && (x2 == y2 && (x3.toList == y3.toList && (x4 == y4 && (x5 == y5)))))) w := by
  refine eqA_of Try.underlying45 (by kernel_rfl) ?_
  refine eqf_cons (by rfl) (by go_simp; rfl) (by go_simp; rfl) (by go_simp) ?_
  refine eqf_cons (by rfl) (by go_simp; rfl) (by go_simp; rfl) (by go_simp) ?_
  refine eqf_cons (by rfl) (by go_simp; rfl) (by go_simp; rfl) (by go_simp) ?_
  refine eqf_cons (by rfl) (by go_simp; rfl) (by go_simp; rfl) (by go_simp) ?_
  refine eqf_cons (by rfl) (by go_simp; rfl) (by go_simp; rfl) (by go_simp) ?_
  exact eqf_last (by rfl) (by go_simp; rfl) (by go_simp; rfl) (by go_simp)
end Go.Proofs.Ytgmeellapjimgaa.PBb
