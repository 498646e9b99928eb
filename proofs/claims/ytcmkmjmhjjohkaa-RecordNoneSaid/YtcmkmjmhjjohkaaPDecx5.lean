-- written by a program of this session (wip/tools/pr.py, over the kit's printer): not by hand
import Derived.Test.YtcmkmjmhjjohkaaPDecx0
import Derived.Test.YtcmkmjmhjjohkaaPDecx2
import Derived.Test.YtcmkmjmhjjohkaaPDecx4
namespace Go.Proofs.Ytcmkmjmhjjohkaa.PDec
open Go.RowKit Go.Proofs.YtcmkmjmhjjohkaaW.PrintWords Go.Proofs.YtcmkmjmhjjohkaaW.PrintLast Go.Proofs.YtcmkmjmhjjohkaaW.PrintMore
attribute [local go_sem] max2_int min2_int max_two min_two max_three min_three max_four min_four   -- for this text's walks alone
set_option linter.unusedVariables false
set_option linter.unusedSimpArgs false

/-- A number of the reader: its value and how many bytes it takes (0: there is none). -/
def rdNum (k : Nat) (l : List Int) (at_ : Int) : Option (Int × Int) :=
  (bits_Unvarint.f k (l.drop at_.toNat)).bind fun t => if 0 ≤ t.1 ∧ t.1 < 18446744073709551616 ∧ 0 ≤ t.2 ∧ 0 ≤ at_ ∧ at_ + t.2 ≤ (l.length : Int) then some t else none
/-- A text of the reader, the place behind it, is it over? -/
def rdText (k : Nat) (l : List Int) (at_ : Int) (is bad : Bool) : Option (ByteArray × Int × Bool) :=
  if (!is || bad) = true then some (⟨#[]⟩, at_, bad) else (rdNum k l at_).bind fun t =>
    if t.2 = 0 then some (⟨#[]⟩, at_, true) else if (l.length : Int) - (at_ + t.2) < t.1 then some (⟨#[]⟩, at_ + t.2, true)
    else some (strOfNums ((l.take (at_ + t.2 + t.1).toNat).drop (at_ + t.2).toNat), at_ + t.2 + t.1, false)
theorem rdNum_tells {k : Nat} {l : List Int} {at_ v n : Int} (h : rdNum k l at_ = some (v, n)) : bits_Unvarint.f k (l.drop at_.toNat) = some (v, n) ∧ 0 ≤ v ∧ v < 18446744073709551616 ∧ 0 ≤ n ∧ 0 ≤ at_ ∧ at_ + n ≤ (l.length : Int) := by
  obtain ⟨t, h1, h2⟩ := Option.bind_eq_some_iff.mp h
  split at h2
  · rename_i hc
    obtain rfl := Option.some.inj h2
    exact ⟨h1, hc⟩
  · cases h2
theorem varint_no (k : Nat) (g : Nat) (A : Option Addr) (c : Nat) (l : List Int) (at_ : Int) (v : Int) (w : World) (hb : IsRd w g A l.length c at_ false) (hr : Kd.C (Kd.int .u8) w A l.length l) (hc : l.length ≤ c) (hl : l.length ≤ 1000000000000000) (hu : rdNum k l at_ = some (v, 0)) :
    Calls Try.prog 26 #[.pointer (some ⟨g, 0, none⟩)] w fun e w' => e = .returned (.int .u64 v) ∧ IsRd w' g A l.length c at_ true ∧ Turned g w w' := by
  obtain ⟨hu, v0, v1, n0, a0, an⟩ := rdNum_tells hu
  have h := varint_calls k g A c l at_ false v 0 w hb hr hc a0 (by omega) hu
  rw [show wrap64 (at_ + 0) = at_ from by unfold wrap64; omega] at h
  exact h
theorem varint_yes (k : Nat) (g : Nat) (A : Option Addr) (c : Nat) (l : List Int) (at_ : Int) (v n : Int) (w : World) (hb : IsRd w g A l.length c at_ false) (hr : Kd.C (Kd.int .u8) w A l.length l) (hc : l.length ≤ c) (hl : l.length ≤ 1000000000000000) (hu : rdNum k l at_ = some (v, n)) (hn : n ≠ 0) :
    Calls Try.prog 26 #[.pointer (some ⟨g, 0, none⟩)] w fun e w' => e = .returned (.int .u64 v) ∧ IsRd w' g A l.length c (at_ + n) false ∧ Turned g w w' := by
  obtain ⟨hu, v0, v1, n0, a0, an⟩ := rdNum_tells hu
  have h := varint_calls k g A c l at_ false v n w hb hr hc a0 (by omega) hu
  rw [show wrap64 (at_ + n) = at_ + n from by unfold wrap64; omega, decide_eq_false hn] at h
  exact h
theorem text_calls (k : Nat) (g : Nat) (A : Option Addr) (c : Nat) (l : List Int) (at_ at2 : Int) (is bad bad2 : Bool) (s : ByteArray) (w : World) (hb : IsRd w g A l.length c at_ bad) (hr : ∀ W, Turned g w W → Kd.C (Kd.int .u8) W A l.length l) (hc : l.length ≤ c)
    (hl : l.length ≤ 1000000000000000) (h : rdText k l at_ is bad = some (s, at2, bad2)) :
    Calls Try.prog 28 #[.pointer (some ⟨g, 0, none⟩), .bool is] w fun e w' => e = .returned (.string s) ∧ IsRd w' g A l.length c at2 bad2 ∧ Turned g w w' := by
  unfold rdText at h
  by_cases c1 : (!is || bad) = true
  · rw [if_pos c1] at h
    simp only [Option.some.injEq, Prod.mk.injEq] at h
    obtain ⟨rfl, rfl, rfl⟩ := h
    exact (text_none g A l.length c at_ is bad w hb c1).mono fun e w' ⟨h1, h2⟩ => ⟨h1, h2 ▸ hb, h2 ▸ Turned.refl g w⟩
  · rw [if_neg c1] at h
    have hi : is = true := by cases is <;> simp at c1 ⊢
    have hbd : bad = false := by cases bad <;> cases is <;> simp at c1 ⊢
    subst hi hbd
    obtain ⟨⟨v, n⟩, h1, h2⟩ := Option.bind_eq_some_iff.mp h
    obtain ⟨hu, v0, v1, n0, a0, an⟩ := rdNum_tells h1
    dsimp only at h2
    by_cases c2 : n = 0
    · subst c2
      rw [if_pos rfl] at h2
      simp only [Option.some.injEq, Prod.mk.injEq] at h2
      obtain ⟨rfl, rfl, rfl⟩ := h2
      exact text_bad k g A c l at_ v w hb hr hc a0 (by omega) hl hu
    · rw [if_neg c2] at h2
      by_cases c3 : (l.length : Int) - (at_ + n) < v
      · rw [if_pos c3] at h2
        simp only [Option.some.injEq, Prod.mk.injEq] at h2
        obtain ⟨rfl, rfl, rfl⟩ := h2
        exact text_long k g A c l at_ (at_ + n) v n w hb hr hc a0 (by omega) hl hu (by omega) rfl an c3 v1
      · rw [if_neg c3] at h2
        simp only [Option.some.injEq, Prod.mk.injEq] at h2
        obtain ⟨rfl, rfl, rfl⟩ := h2
        exact text_good k g A c l at_ (at_ + n) (at_ + n + v) v n w hb hr hc a0 (by omega) hl hu (by omega) rfl an v0 rfl (by omega)

/-- Where Decode stands: the result's block, the reader's block behind it. -/
structure DecSt (w W : World) (A : Option Addr) (n c : Nat) (at_ : Int) (bad : Bool) (hk : Bool) (key : ByteArray) (hv : Bool) (val : ByteArray) (t o : Int) : Prop where
  rd : IsRd W (w.heap.size + 1) A n c at_ bad
  rc : W.heap[w.heap.size]? = some (.cells #[.bool hk, .string key, .bool hv, .string val, .int .i64 t, .int .i64 o] 23 (0, 0))
  bel : Below w.heap.size w W
section
variable {w W W2 : World} {A : Option Addr} {n c : Nat} {at_ at2 : Int} {bad bad2 : Bool} {hk : Bool} {key : ByteArray} {hv : Bool} {val : ByteArray} {t o : Int}
theorem DecSt.new (w : World) (A : Option Addr) (n c : Nat) : DecSt w ((w.alloc (.cells #[.bool false, .string ⟨#[]⟩, .bool false, .string ⟨#[]⟩, .int .i64 0, .int .i64 0] 23)).alloc (.cells #[.slice A n c, .int .i64 1, .bool false] 55)) A n c 1 false false ⟨#[]⟩ false ⟨#[]⟩ 0 0 := by
  refine ⟨?_, ?_, ?_⟩
  · have := heap_alloc_new (w.alloc (.cells #[.bool false, .string ⟨#[]⟩, .bool false, .string ⟨#[]⟩, .int .i64 0, .int .i64 0] 23)) (.cells #[.slice A n c, .int .i64 1, .bool false] 55)
    simpa [IsRd] using this
  · have := heap_alloc_new w (.cells #[.bool false, .string ⟨#[]⟩, .bool false, .string ⟨#[]⟩, .int .i64 0, .int .i64 0] 23)
    rw [Below.heap_alloc _ _ _ (by simp)]
    exact this
  · exact below_alloc (below_alloc (Below.refl _ _) _) _
theorem DecSt.turned (h : DecSt w W A n c at_ bad hk key hv val t o) (ht : Turned (w.heap.size + 1) W W2) (hb : IsRd W2 (w.heap.size + 1) A n c at2 bad2) : DecSt w W2 A n c at2 bad2 hk key hv val t o :=
  ⟨hb, (ht.block _ (by omega)).trans h.rc, ht.below h.bel (by omega)⟩
theorem DecSt.drewN (h : DecSt w W A n c at_ bad hk key hv val t o) (m : Nat) : DecSt w (W.drewN m) A n c at_ bad hk key hv val t o := ⟨h.rd, h.rc, pw_below_drewN h.bel m⟩
theorem DecSt.below (h : DecSt w W A n c at_ bad hk key hv val t o) (hb : Below W.heap.size W W2) : DecSt w W2 A n c at_ bad hk key hv val t o :=
  ⟨(hb.block _ (blk_lt h.rd)).trans h.rd, (hb.block _ (blk_lt h.rc)).trans h.rc, below_step h.bel hb⟩
theorem DecSt.set0 (h : DecSt w W A n c at_ bad hk key hv val t o) (x : Bool) : DecSt w (W.setCell ⟨w.heap.size, 0, none⟩ (.bool x)) A n c at_ bad x key hv val t o := ⟨blk_far h.rd (by simp) _, by simpa using blk_set h.rc 0 (.bool x), h.bel.setCell (Nat.le_refl _) _⟩
theorem DecSt.set1 (h : DecSt w W A n c at_ bad hk key hv val t o) (x : ByteArray) : DecSt w (W.setCell ⟨w.heap.size, 1, none⟩ (.string x)) A n c at_ bad hk x hv val t o := ⟨blk_far h.rd (by simp) _, by simpa using blk_set h.rc 1 (.string x), h.bel.setCell (Nat.le_refl _) _⟩
theorem DecSt.set2 (h : DecSt w W A n c at_ bad hk key hv val t o) (x : Bool) : DecSt w (W.setCell ⟨w.heap.size, 2, none⟩ (.bool x)) A n c at_ bad hk key x val t o := ⟨blk_far h.rd (by simp) _, by simpa using blk_set h.rc 2 (.bool x), h.bel.setCell (Nat.le_refl _) _⟩
theorem DecSt.set3 (h : DecSt w W A n c at_ bad hk key hv val t o) (x : ByteArray) : DecSt w (W.setCell ⟨w.heap.size, 3, none⟩ (.string x)) A n c at_ bad hk key hv x t o := ⟨blk_far h.rd (by simp) _, by simpa using blk_set h.rc 3 (.string x), h.bel.setCell (Nat.le_refl _) _⟩
theorem DecSt.set4 (h : DecSt w W A n c at_ bad hk key hv val t o) (x : Int) : DecSt w (W.setCell ⟨w.heap.size, 4, none⟩ (.int .i64 x)) A n c at_ bad hk key hv val x o := ⟨blk_far h.rd (by simp) _, by simpa using blk_set h.rc 4 (.int .i64 x), h.bel.setCell (Nat.le_refl _) _⟩
theorem DecSt.set5 (h : DecSt w W A n c at_ bad hk key hv val t o) (x : Int) : DecSt w (W.setCell ⟨w.heap.size, 5, none⟩ (.int .i64 x)) A n c at_ bad hk key hv val t x := ⟨blk_far h.rd (by simp) _, by simpa using blk_set h.rc 5 (.int .i64 x), h.bel.setCell (Nat.le_refl _) _⟩
theorem DecSt.rcells (h : DecSt w W A n c at_ bad hk key hv val t o) : W.cell? ⟨w.heap.size, 0, none⟩ = some (.bool hk) ∧ W.cell? ⟨w.heap.size, 1, none⟩ = some (.string key) ∧ W.cell? ⟨w.heap.size, 2, none⟩ = some (.bool hv) ∧ W.cell? ⟨w.heap.size, 3, none⟩ = some (.string val) ∧ W.cell? ⟨w.heap.size, 4, none⟩ = some (.int .i64 t) ∧ W.cell? ⟨w.heap.size, 5, none⟩ = some (.int .i64 o) :=
  ⟨(blk_cell h.rc 0).trans rfl, (blk_cell h.rc 1).trans rfl, (blk_cell h.rc 2).trans rfl, (blk_cell h.rc 3).trans rfl, (blk_cell h.rc 4).trans rfl, (blk_cell h.rc 5).trans rfl⟩
theorem DecSt.rfree (h : DecSt w W A n c at_ bad hk key hv val t o) : W.frozen? ⟨w.heap.size, 0, none⟩ = false ∧ W.frozen? ⟨w.heap.size, 1, none⟩ = false ∧ W.frozen? ⟨w.heap.size, 2, none⟩ = false ∧ W.frozen? ⟨w.heap.size, 3, none⟩ = false ∧ W.frozen? ⟨w.heap.size, 4, none⟩ = false ∧ W.frozen? ⟨w.heap.size, 5, none⟩ = false :=
  ⟨blk_frozen h.rc 0, blk_frozen h.rc 1, blk_frozen h.rc 2, blk_frozen h.rc 3, blk_frozen h.rc 4, blk_frozen h.rc 5⟩
theorem DecSt.pcells (h : DecSt w W A n c at_ bad hk key hv val t o) : W.cell? ⟨w.heap.size + 1, 0, none⟩ = some (.slice A n c) ∧ W.cell? ⟨w.heap.size + 1, 1, none⟩ = some (.int .i64 at_) ∧ W.cell? ⟨w.heap.size + 1, 2, none⟩ = some (.bool bad) := ⟨h.rd.c0, h.rd.c1, h.rd.c2⟩
end

set_option maxHeartbeats 2000000 in
set_option maxRecDepth 100000 in
theorem decode_empty (k : Nat) (A : Option Addr) (c : Nat) (l : List Int) (first : Int) (w : World) (hr : Kd.C (Kd.int .u8) w A l.length l) (hc : l.length ≤ c) (h0 : l.length = 0) :
    Calls Try.prog 16 #[.slice A l.length c, .int .i64 first] w fun e w' => e = .returned (.tuple #[.agg #[.bool false, .string ⟨#[]⟩, .bool false, .string ⟨#[]⟩, .int .i64 0, .int .i64 0], .int .i64 0, .int .i64 10]) ∧ Below w.heap.size w w' := by
  have HB := Aside0.mk (Below.refl w.heap.size w)
  have f0 : ((l.length : Int) == 0) = true := by rw [h0]; rfl
  clear hr hc h0
  go_enter Try.func16, Try.ntmps16
  go_wp2
  refine bodyPost_ret (v := .tuple #[.agg #[.bool false, .string ⟨#[]⟩, .bool false, .string ⟨#[]⟩, .int .i64 0, .int .i64 0], .int .i64 0, .int .i64 10]) (by simp [results, Try.results16, go_sem]) rfl ⟨rfl, ?_⟩
  repeat (with_reducible first | exact HB.out | apply below_alloc | apply pw_below_drewN | (refine below_set ?_ (by first | exact Nat.le_refl _ | omega)))

set_option maxHeartbeats 2000000 in
set_option maxRecDepth 100000 in
theorem decode_flags (k : Nat) (A : Option Addr) (c : Nat) (l : List Int) (first : Int) (w : World) (hr : Kd.C (Kd.int .u8) w A l.length l) (hc : l.length ≤ c) (h0 : 0 < l.length) (h1 : 3 < rd l 0) :
    Calls Try.prog 16 #[.slice A l.length c, .int .i64 first] w fun e w' => e = .returned (.tuple #[.agg #[.bool false, .string ⟨#[]⟩, .bool false, .string ⟨#[]⟩, .int .i64 0, .int .i64 0], .int .i64 0, .int .i64 10]) ∧ Below w.heap.size w w' := by
  have HB := Aside0.mk (Below.refl w.heap.size w)
  obtain ⟨ad, e, hx⟩ := Kd.at_int hr 0 (by decide) (by omega)
  cases e
  have qi : (0 < l.length) = True := eq_true (by omega)
  rw [show ((0 : Int)).toNat = 0 from rfl, Addr.add_zero'] at hx
  have hx' : ∀ o : Obj, (w.alloc o).cell? ad = some (.int .u8 (rd l 0)) := fun o => pw_cell_below (below_alloc (Below.refl _ _) o) hx
  have f0 : ((l.length : Int) == 0) = false := by simpa using (by omega : ¬ (l.length = 0))
  have f1 : decide (3 < rd l 0) = true := decide_eq_true h1
  clear hr hc h0 h1
  go_enter Try.func16, Try.ntmps16
  go_wp2
  refine bodyPost_ret (v := .tuple #[.agg #[.bool false, .string ⟨#[]⟩, .bool false, .string ⟨#[]⟩, .int .i64 0, .int .i64 0], .int .i64 0, .int .i64 10]) (by simp [results, Try.results16, go_sem]) rfl ⟨rfl, ?_⟩
  repeat (with_reducible first | exact HB.out | apply below_alloc | apply pw_below_drewN | (refine below_set ?_ (by first | exact Nat.le_refl _ | omega)))

set_option maxHeartbeats 2000000 in
set_option maxRecDepth 100000 in
theorem decode_first0 (k : Nat) (A : Option Addr) (c : Nat) (l : List Int) (first : Int) (w : World) (hr : Kd.C (Kd.int .u8) w A l.length l) (hc : l.length ≤ c) (h0 : 0 < l.length) (h1 : rd l 0 ≤ 3) (h2 : first < 0) :
    Calls Try.prog 16 #[.slice A l.length c, .int .i64 first] w fun e w' => e = .returned (.tuple #[.agg #[.bool false, .string ⟨#[]⟩, .bool false, .string ⟨#[]⟩, .int .i64 0, .int .i64 0], .int .i64 0, .int .i64 10]) ∧ Below w.heap.size w w' := by
  have HB := Aside0.mk (Below.refl w.heap.size w)
  obtain ⟨ad, e, hx⟩ := Kd.at_int hr 0 (by decide) (by omega)
  cases e
  have qi : (0 < l.length) = True := eq_true (by omega)
  rw [show ((0 : Int)).toNat = 0 from rfl, Addr.add_zero'] at hx
  have hx' : ∀ o : Obj, (w.alloc o).cell? ad = some (.int .u8 (rd l 0)) := fun o => pw_cell_below (below_alloc (Below.refl _ _) o) hx
  have f0 : ((l.length : Int) == 0) = false := by simpa using (by omega : ¬ (l.length = 0))
  have f1 : decide (3 < rd l 0) = false := decide_eq_false (by omega)
  have f2 : decide (first < 0) = true := decide_eq_true h2
  clear hr hc h0 h1 h2
  go_enter Try.func16, Try.ntmps16
  go_wp2
  refine bodyPost_ret (v := .tuple #[.agg #[.bool false, .string ⟨#[]⟩, .bool false, .string ⟨#[]⟩, .int .i64 0, .int .i64 0], .int .i64 0, .int .i64 10]) (by simp [results, Try.results16, go_sem]) rfl ⟨rfl, ?_⟩
  repeat (with_reducible first | exact HB.out | apply below_alloc | apply pw_below_drewN | (refine below_set ?_ (by first | exact Nat.le_refl _ | omega)))

set_option maxHeartbeats 2000000 in
set_option maxRecDepth 100000 in
theorem decode_first1 (k : Nat) (A : Option Addr) (c : Nat) (l : List Int) (first : Int) (w : World) (hr : Kd.C (Kd.int .u8) w A l.length l) (hc : l.length ≤ c) (h0 : 0 < l.length) (h1 : rd l 0 ≤ 3) (h2 : 0 ≤ first) (h3 : 1125899906842624 < first) :
    Calls Try.prog 16 #[.slice A l.length c, .int .i64 first] w fun e w' => e = .returned (.tuple #[.agg #[.bool false, .string ⟨#[]⟩, .bool false, .string ⟨#[]⟩, .int .i64 0, .int .i64 0], .int .i64 0, .int .i64 10]) ∧ Below w.heap.size w w' := by
  have HB := Aside0.mk (Below.refl w.heap.size w)
  obtain ⟨ad, e, hx⟩ := Kd.at_int hr 0 (by decide) (by omega)
  cases e
  have qi : (0 < l.length) = True := eq_true (by omega)
  rw [show ((0 : Int)).toNat = 0 from rfl, Addr.add_zero'] at hx
  have hx' : ∀ o : Obj, (w.alloc o).cell? ad = some (.int .u8 (rd l 0)) := fun o => pw_cell_below (below_alloc (Below.refl _ _) o) hx
  have f0 : ((l.length : Int) == 0) = false := by simpa using (by omega : ¬ (l.length = 0))
  have f1 : decide (3 < rd l 0) = false := decide_eq_false (by omega)
  have f2 : decide (first < 0) = false := decide_eq_false (by omega)
  have f3 : decide (1125899906842624 < first) = true := decide_eq_true h3
  clear hr hc h0 h1 h2 h3
  go_enter Try.func16, Try.ntmps16
  go_wp2
  refine bodyPost_ret (v := .tuple #[.agg #[.bool false, .string ⟨#[]⟩, .bool false, .string ⟨#[]⟩, .int .i64 0, .int .i64 0], .int .i64 0, .int .i64 10]) (by simp [results, Try.results16, go_sem]) rfl ⟨rfl, ?_⟩
  repeat (with_reducible first | exact HB.out | apply below_alloc | apply pw_below_drewN | (refine below_set ?_ (by first | exact Nat.le_refl _ | omega)))

set_option maxHeartbeats 2000000 in
set_option maxRecDepth 100000 in
theorem decode_none1 (k : Nat) (A : Option Addr) (c : Nat) (l : List Int) (first : Int) (v : Int) (w : World) (hr : Kd.C (Kd.int .u8) w A l.length l) (hc : l.length ≤ c) (h0 : 0 < l.length) (h1 : rd l 0 ≤ 3) (h2 : 0 ≤ first) (h3 : first ≤ 1125899906842624) (hl : l.length ≤ 1000000000000000) (hu : rdNum k l 1 = some (v, 0)) :
    Calls Try.prog 16 #[.slice A l.length c, .int .i64 first] w fun e w' => e = .returned (.tuple #[.agg #[.bool false, .string ⟨#[]⟩, .bool false, .string ⟨#[]⟩, .int .i64 0, .int .i64 0], .int .i64 0, .int .i64 10]) ∧ Below w.heap.size w w' := by
  obtain ⟨ad, e, hx⟩ := Kd.at_int hr 0 (by decide) (by omega)
  cases e
  have qi : (0 < l.length) = True := eq_true (by omega)
  rw [show ((0 : Int)).toNat = 0 from rfl, Addr.add_zero'] at hx
  have hx' : ∀ o : Obj, (w.alloc o).cell? ad = some (.int .u8 (rd l 0)) := fun o => pw_cell_below (below_alloc (Below.refl _ _) o) hx
  have HX := Aside0.mk hx
  have f0 : ((l.length : Int) == 0) = false := by simpa using (by omega : ¬ (l.length = 0))
  have f1 : decide (3 < rd l 0) = false := decide_eq_false (by omega)
  have f2 : decide (first < 0) = false := decide_eq_false (by omega)
  have f3 : decide (1125899906842624 < first) = false := decide_eq_false (by omega)
  have HR := Aside0.mk hr
  have HC := Aside0.mk hc
  have HL := Aside0.mk hl
  have HU0 := Aside0.mk hu
  clear hr hc hl h0 h1 h2 h3 hu
  go_enter Try.func16, Try.ntmps16
  go_wp2_with fail
  have S0 := Aside0.mk (DecSt.new w (some ad) l.length c)
  refine (varint_no k (w.heap.size + 1) (some ad) c l 1 v _ S0.out.rd (Kd.C_below HR.out S0.out.bel) HC.out HL.out HU0.out).mono ?_
  rintro e w1 ⟨rfl, hb, ht⟩
  have S1 := Aside0.mk (S0.out.turned ht hb)
  clear hb ht S0
  obtain ⟨p0, p1, p2⟩ := S1.out.pcells
  obtain ⟨r0, r1, r2, r3, r4, r5⟩ := S1.out.rcells
  obtain ⟨z0, z1, z2, z3, z4, z5⟩ := S1.out.rfree
  go_wp2
  refine bodyPost_ret (v := .tuple #[.agg #[.bool false, .string ⟨#[]⟩, .bool false, .string ⟨#[]⟩, .int .i64 0, .int .i64 0], .int .i64 0, .int .i64 10]) (by simp [results, Try.results16, go_sem, r0, r1, r2, r3, r4, r5]) rfl ⟨rfl, ?_⟩
  exact ((((((S1.out.set0 false).set1 ⟨#[]⟩).set2 false).set3 ⟨#[]⟩).set4 0).set5 0).bel

set_option maxHeartbeats 2000000 in
set_option maxRecDepth 100000 in
theorem decode_none2 (k : Nat) (A : Option Addr) (c : Nat) (l : List Int) (first : Int) (off n u ago : Int) (w : World) (hr : Kd.C (Kd.int .u8) w A l.length l) (hc : l.length ≤ c) (h0 : 0 < l.length) (h1 : rd l 0 ≤ 3) (h2 : 0 ≤ first) (h3 : first ≤ 1125899906842624) (hl : l.length ≤ 1000000000000000) (hu : rdNum k l 1 = some (off, n)) (hn : n ≠ 0) (hu2 : rdNum k l (1 + n) = some (u, 0)) (hz : bits_Zag.f u = some ago) :
    Calls Try.prog 16 #[.slice A l.length c, .int .i64 first] w fun e w' => e = .returned (.tuple #[.agg #[.bool false, .string ⟨#[]⟩, .bool false, .string ⟨#[]⟩, .int .i64 0, .int .i64 0], .int .i64 0, .int .i64 10]) ∧ Below w.heap.size w w' := by
  obtain ⟨ad, e, hx⟩ := Kd.at_int hr 0 (by decide) (by omega)
  cases e
  have qi : (0 < l.length) = True := eq_true (by omega)
  rw [show ((0 : Int)).toNat = 0 from rfl, Addr.add_zero'] at hx
  have hx' : ∀ o : Obj, (w.alloc o).cell? ad = some (.int .u8 (rd l 0)) := fun o => pw_cell_below (below_alloc (Below.refl _ _) o) hx
  have HX := Aside0.mk hx
  have f0 : ((l.length : Int) == 0) = false := by simpa using (by omega : ¬ (l.length = 0))
  have f1 : decide (3 < rd l 0) = false := decide_eq_false (by omega)
  have f2 : decide (first < 0) = false := decide_eq_false (by omega)
  have f3 : decide (1125899906842624 < first) = false := decide_eq_false (by omega)
  have HR := Aside0.mk hr
  have HC := Aside0.mk hc
  have HL := Aside0.mk hl
  have HU0 := Aside0.mk hu
  have HN0 := Aside0.mk hn
  have HU1 := Aside0.mk hu2
  have HZ := Aside0.mk hz
  clear hr hc hl h0 h1 hu hn hu2 hz
  go_enter Try.func16, Try.ntmps16
  go_wp2_with fail
  have S0 := Aside0.mk (DecSt.new w (some ad) l.length c)
  refine (varint_yes k (w.heap.size + 1) (some ad) c l 1 off n _ S0.out.rd (Kd.C_below HR.out S0.out.bel) HC.out HL.out HU0.out HN0.out).mono ?_
  rintro e w1 ⟨rfl, hb, ht⟩
  have S1 := Aside0.mk (S0.out.turned ht hb)
  clear hb ht S0
  obtain ⟨p0, p1, p2⟩ := S1.out.pcells
  go_wp2_with fail
  refine (varint_no k (w.heap.size + 1) (some ad) c l (1 + n) u _ S1.out.rd (Kd.C_below HR.out S1.out.bel) HC.out HL.out HU1.out).mono ?_
  rintro e w2 ⟨rfl, hb, ht⟩
  have S2 := Aside0.mk (S1.out.turned ht hb)
  clear hb ht S1
  clear p0 p1 p2
  go_wp2_with fail
  refine (bits_Zag.calls u ago _ HZ.out).mono ?_
  rintro e w3 ⟨rfl, ⟨q, rfl⟩⟩
  have S3 := Aside0.mk (S2.out.drewN q)
  clear S2
  obtain ⟨p0, p1, p2⟩ := S3.out.pcells
  obtain ⟨r0, r1, r2, r3, r4, r5⟩ := S3.out.rcells
  obtain ⟨z0, z1, z2, z3, z4, z5⟩ := S3.out.rfree
  go_wp2
  refine bodyPost_ret (v := .tuple #[.agg #[.bool false, .string ⟨#[]⟩, .bool false, .string ⟨#[]⟩, .int .i64 0, .int .i64 0], .int .i64 0, .int .i64 10]) (by simp [results, Try.results16, go_sem, r0, r1, r2, r3, r4, r5]) rfl ⟨rfl, ?_⟩
  exact ((((((S3.out.set0 false).set1 ⟨#[]⟩).set2 false).set3 ⟨#[]⟩).set4 0).set5 0).bel

set_option maxHeartbeats 2000000 in
set_option maxRecDepth 100000 in
theorem decode_off (k : Nat) (A : Option Addr) (c : Nat) (l : List Int) (first : Int) (off n u m ago : Int) (w : World) (hr : Kd.C (Kd.int .u8) w A l.length l) (hc : l.length ≤ c) (h0 : 0 < l.length) (h1 : rd l 0 ≤ 3) (h2 : 0 ≤ first) (h3 : first ≤ 1125899906842624) (hl : l.length ≤ 1000000000000000) (hu : rdNum k l 1 = some (off, n)) (hn : n ≠ 0) (hu2 : rdNum k l (1 + n) = some (u, m)) (hz : bits_Zag.f u = some ago) (hm : m ≠ 0) (h4 : 100 ≤ off) :
    Calls Try.prog 16 #[.slice A l.length c, .int .i64 first] w fun e w' => e = .returned (.tuple #[.agg #[.bool false, .string ⟨#[]⟩, .bool false, .string ⟨#[]⟩, .int .i64 0, .int .i64 0], .int .i64 0, .int .i64 10]) ∧ Below w.heap.size w w' := by
  obtain ⟨ad, e, hx⟩ := Kd.at_int hr 0 (by decide) (by omega)
  cases e
  have qi : (0 < l.length) = True := eq_true (by omega)
  rw [show ((0 : Int)).toNat = 0 from rfl, Addr.add_zero'] at hx
  have hx' : ∀ o : Obj, (w.alloc o).cell? ad = some (.int .u8 (rd l 0)) := fun o => pw_cell_below (below_alloc (Below.refl _ _) o) hx
  have HX := Aside0.mk hx
  have f0 : ((l.length : Int) == 0) = false := by simpa using (by omega : ¬ (l.length = 0))
  have f1 : decide (3 < rd l 0) = false := decide_eq_false (by omega)
  have f2 : decide (first < 0) = false := decide_eq_false (by omega)
  have f3 : decide (1125899906842624 < first) = false := decide_eq_false (by omega)
  have HR := Aside0.mk hr
  have HC := Aside0.mk hc
  have HL := Aside0.mk hl
  have HU0 := Aside0.mk hu
  have HN0 := Aside0.mk hn
  have HU1 := Aside0.mk hu2
  have HZ := Aside0.mk hz
  have HM := Aside0.mk hm
  have f4 : decide (100 ≤ off) = true := decide_eq_true h4
  clear hm h4
  clear hr hc hl h0 h1 hu hn hu2 hz
  go_enter Try.func16, Try.ntmps16
  go_wp2_with fail
  have S0 := Aside0.mk (DecSt.new w (some ad) l.length c)
  refine (varint_yes k (w.heap.size + 1) (some ad) c l 1 off n _ S0.out.rd (Kd.C_below HR.out S0.out.bel) HC.out HL.out HU0.out HN0.out).mono ?_
  rintro e w1 ⟨rfl, hb, ht⟩
  have S1 := Aside0.mk (S0.out.turned ht hb)
  clear hb ht S0
  obtain ⟨p0, p1, p2⟩ := S1.out.pcells
  go_wp2_with fail
  refine (varint_yes k (w.heap.size + 1) (some ad) c l (1 + n) u m _ S1.out.rd (Kd.C_below HR.out S1.out.bel) HC.out HL.out HU1.out HM.out).mono ?_
  rintro e w2 ⟨rfl, hb, ht⟩
  have S2 := Aside0.mk (S1.out.turned ht hb)
  clear hb ht S1
  clear p0 p1 p2
  go_wp2_with fail
  refine (bits_Zag.calls u ago _ HZ.out).mono ?_
  rintro e w3 ⟨rfl, ⟨q, rfl⟩⟩
  have S3 := Aside0.mk (S2.out.drewN q)
  clear S2
  obtain ⟨p0, p1, p2⟩ := S3.out.pcells
  obtain ⟨r0, r1, r2, r3, r4, r5⟩ := S3.out.rcells
  obtain ⟨z0, z1, z2, z3, z4, z5⟩ := S3.out.rfree
  go_wp2
  refine bodyPost_ret (v := .tuple #[.agg #[.bool false, .string ⟨#[]⟩, .bool false, .string ⟨#[]⟩, .int .i64 0, .int .i64 0], .int .i64 0, .int .i64 10]) (by simp [results, Try.results16, go_sem, r0, r1, r2, r3, r4, r5]) rfl ⟨rfl, ?_⟩
  exact ((((((S3.out.set0 false).set1 ⟨#[]⟩).set2 false).set3 ⟨#[]⟩).set4 0).set5 0).bel

set_option maxHeartbeats 2000000 in
set_option maxRecDepth 100000 in
theorem decode_ago0 (k : Nat) (A : Option Addr) (c : Nat) (l : List Int) (first : Int) (off n u m ago : Int) (w : World) (hr : Kd.C (Kd.int .u8) w A l.length l) (hc : l.length ≤ c) (h0 : 0 < l.length) (h1 : rd l 0 ≤ 3) (h2 : 0 ≤ first) (h3 : first ≤ 1125899906842624) (hl : l.length ≤ 1000000000000000) (hu : rdNum k l 1 = some (off, n)) (hn : n ≠ 0) (hu2 : rdNum k l (1 + n) = some (u, m)) (hz : bits_Zag.f u = some ago) (hm : m ≠ 0) (h4 : off < 100) (h5 : ago < -first) :
    Calls Try.prog 16 #[.slice A l.length c, .int .i64 first] w fun e w' => e = .returned (.tuple #[.agg #[.bool false, .string ⟨#[]⟩, .bool false, .string ⟨#[]⟩, .int .i64 0, .int .i64 0], .int .i64 0, .int .i64 10]) ∧ Below w.heap.size w w' := by
  obtain ⟨ad, e, hx⟩ := Kd.at_int hr 0 (by decide) (by omega)
  cases e
  have qi : (0 < l.length) = True := eq_true (by omega)
  rw [show ((0 : Int)).toNat = 0 from rfl, Addr.add_zero'] at hx
  have hx' : ∀ o : Obj, (w.alloc o).cell? ad = some (.int .u8 (rd l 0)) := fun o => pw_cell_below (below_alloc (Below.refl _ _) o) hx
  have HX := Aside0.mk hx
  have f0 : ((l.length : Int) == 0) = false := by simpa using (by omega : ¬ (l.length = 0))
  have f1 : decide (3 < rd l 0) = false := decide_eq_false (by omega)
  have f2 : decide (first < 0) = false := decide_eq_false (by omega)
  have f3 : decide (1125899906842624 < first) = false := decide_eq_false (by omega)
  have HR := Aside0.mk hr
  have HC := Aside0.mk hc
  have HL := Aside0.mk hl
  have HU0 := Aside0.mk hu
  have HN0 := Aside0.mk hn
  have HU1 := Aside0.mk hu2
  have HZ := Aside0.mk hz
  have HM := Aside0.mk hm
  have f4 : decide (100 ≤ off) = false := decide_eq_false (by omega)
  have f5 : decide (ago < -first) = true := decide_eq_true h5
  clear hm h4 h5
  clear hr hc hl h0 h1 hu hn hu2 hz
  go_enter Try.func16, Try.ntmps16
  go_wp2_with fail
  have S0 := Aside0.mk (DecSt.new w (some ad) l.length c)
  refine (varint_yes k (w.heap.size + 1) (some ad) c l 1 off n _ S0.out.rd (Kd.C_below HR.out S0.out.bel) HC.out HL.out HU0.out HN0.out).mono ?_
  rintro e w1 ⟨rfl, hb, ht⟩
  have S1 := Aside0.mk (S0.out.turned ht hb)
  clear hb ht S0
  obtain ⟨p0, p1, p2⟩ := S1.out.pcells
  go_wp2_with fail
  refine (varint_yes k (w.heap.size + 1) (some ad) c l (1 + n) u m _ S1.out.rd (Kd.C_below HR.out S1.out.bel) HC.out HL.out HU1.out HM.out).mono ?_
  rintro e w2 ⟨rfl, hb, ht⟩
  have S2 := Aside0.mk (S1.out.turned ht hb)
  clear hb ht S1
  clear p0 p1 p2
  go_wp2_with fail
  refine (bits_Zag.calls u ago _ HZ.out).mono ?_
  rintro e w3 ⟨rfl, ⟨q, rfl⟩⟩
  have S3 := Aside0.mk (S2.out.drewN q)
  clear S2
  obtain ⟨p0, p1, p2⟩ := S3.out.pcells
  obtain ⟨r0, r1, r2, r3, r4, r5⟩ := S3.out.rcells
  obtain ⟨z0, z1, z2, z3, z4, z5⟩ := S3.out.rfree
  go_wp2
  refine bodyPost_ret (v := .tuple #[.agg #[.bool false, .string ⟨#[]⟩, .bool false, .string ⟨#[]⟩, .int .i64 0, .int .i64 0], .int .i64 0, .int .i64 10]) (by simp [results, Try.results16, go_sem, r0, r1, r2, r3, r4, r5]) rfl ⟨rfl, ?_⟩
  exact ((((((S3.out.set0 false).set1 ⟨#[]⟩).set2 false).set3 ⟨#[]⟩).set4 0).set5 0).bel

set_option maxHeartbeats 2000000 in
set_option maxRecDepth 100000 in
theorem decode_ago1 (k : Nat) (A : Option Addr) (c : Nat) (l : List Int) (first : Int) (off n u m ago : Int) (w : World) (hr : Kd.C (Kd.int .u8) w A l.length l) (hc : l.length ≤ c) (h0 : 0 < l.length) (h1 : rd l 0 ≤ 3) (h2 : 0 ≤ first) (h3 : first ≤ 1125899906842624) (hl : l.length ≤ 1000000000000000) (hu : rdNum k l 1 = some (off, n)) (hn : n ≠ 0) (hu2 : rdNum k l (1 + n) = some (u, m)) (hz : bits_Zag.f u = some ago) (hm : m ≠ 0) (h4 : off < 100) (h5 : -first ≤ ago) (h6 : 1125899906842624 - first < ago) :
    Calls Try.prog 16 #[.slice A l.length c, .int .i64 first] w fun e w' => e = .returned (.tuple #[.agg #[.bool false, .string ⟨#[]⟩, .bool false, .string ⟨#[]⟩, .int .i64 0, .int .i64 0], .int .i64 0, .int .i64 10]) ∧ Below w.heap.size w w' := by
  obtain ⟨ad, e, hx⟩ := Kd.at_int hr 0 (by decide) (by omega)
  cases e
  have qi : (0 < l.length) = True := eq_true (by omega)
  rw [show ((0 : Int)).toNat = 0 from rfl, Addr.add_zero'] at hx
  have hx' : ∀ o : Obj, (w.alloc o).cell? ad = some (.int .u8 (rd l 0)) := fun o => pw_cell_below (below_alloc (Below.refl _ _) o) hx
  have HX := Aside0.mk hx
  have f0 : ((l.length : Int) == 0) = false := by simpa using (by omega : ¬ (l.length = 0))
  have f1 : decide (3 < rd l 0) = false := decide_eq_false (by omega)
  have f2 : decide (first < 0) = false := decide_eq_false (by omega)
  have f3 : decide (1125899906842624 < first) = false := decide_eq_false (by omega)
  have HR := Aside0.mk hr
  have HC := Aside0.mk hc
  have HL := Aside0.mk hl
  have HU0 := Aside0.mk hu
  have HN0 := Aside0.mk hn
  have HU1 := Aside0.mk hu2
  have HZ := Aside0.mk hz
  have HM := Aside0.mk hm
  have f4 : decide (100 ≤ off) = false := decide_eq_false (by omega)
  have f5 : decide (ago < -first) = false := decide_eq_false (by omega)
  have f6 : decide (1125899906842624 - first < ago) = true := decide_eq_true h6
  clear hm h4 h5 h6
  clear hr hc hl h0 h1 hu hn hu2 hz
  go_enter Try.func16, Try.ntmps16
  go_wp2_with fail
  have S0 := Aside0.mk (DecSt.new w (some ad) l.length c)
  refine (varint_yes k (w.heap.size + 1) (some ad) c l 1 off n _ S0.out.rd (Kd.C_below HR.out S0.out.bel) HC.out HL.out HU0.out HN0.out).mono ?_
  rintro e w1 ⟨rfl, hb, ht⟩
  have S1 := Aside0.mk (S0.out.turned ht hb)
  clear hb ht S0
  obtain ⟨p0, p1, p2⟩ := S1.out.pcells
  go_wp2_with fail
  refine (varint_yes k (w.heap.size + 1) (some ad) c l (1 + n) u m _ S1.out.rd (Kd.C_below HR.out S1.out.bel) HC.out HL.out HU1.out HM.out).mono ?_
  rintro e w2 ⟨rfl, hb, ht⟩
  have S2 := Aside0.mk (S1.out.turned ht hb)
  clear hb ht S1
  clear p0 p1 p2
  go_wp2_with fail
  refine (bits_Zag.calls u ago _ HZ.out).mono ?_
  rintro e w3 ⟨rfl, ⟨q, rfl⟩⟩
  have S3 := Aside0.mk (S2.out.drewN q)
  clear S2
  obtain ⟨p0, p1, p2⟩ := S3.out.pcells
  obtain ⟨r0, r1, r2, r3, r4, r5⟩ := S3.out.rcells
  obtain ⟨z0, z1, z2, z3, z4, z5⟩ := S3.out.rfree
  go_wp2
  refine bodyPost_ret (v := .tuple #[.agg #[.bool false, .string ⟨#[]⟩, .bool false, .string ⟨#[]⟩, .int .i64 0, .int .i64 0], .int .i64 0, .int .i64 10]) (by simp [results, Try.results16, go_sem, r0, r1, r2, r3, r4, r5]) rfl ⟨rfl, ?_⟩
  exact ((((((S3.out.set0 false).set1 ⟨#[]⟩).set2 false).set3 ⟨#[]⟩).set4 0).set5 0).bel

set_option maxHeartbeats 2000000 in
set_option maxRecDepth 100000 in
theorem decode_good (k : Nat) (A : Option Addr) (c : Nat) (l : List Int) (first : Int) (off n u m ago : Int) (hk hv : Bool) (key val : ByteArray) (at3 at4 : Int) (b3 b4 : Bool) (w : World) (hr : Kd.C (Kd.int .u8) w A l.length l) (hc : l.length ≤ c) (h0 : 0 < l.length) (h1 : rd l 0 ≤ 3) (h2 : 0 ≤ first) (h3 : first ≤ 1125899906842624) (hl : l.length ≤ 1000000000000000) (hu : rdNum k l 1 = some (off, n)) (hn : n ≠ 0) (hu2 : rdNum k l (1 + n) = some (u, m)) (hz : bits_Zag.f u = some ago) (hm : m ≠ 0) (h40 : 0 ≤ off) (h4 : off < 100) (h5 : -first ≤ ago) (h6 : ago ≤ 1125899906842624 - first) (f7 : decide (0 < Go.bits BinOp.and IntKind.u8 (rd l 0) 1) = hk) (f8 : decide (0 < Go.bits BinOp.and IntKind.u8 (rd l 0) 2) = hv) (ht1 : rdText k l (1 + n + m) hk false = some (key, at3, b3)) (ht2 : rdText k l at3 hv b3 = some (val, at4, b4)) (h9 : b4 = false) (h10 : record_Check.f k hk key hv val (first + ago) off = some 0) :
    Calls Try.prog 16 #[.slice A l.length c, .int .i64 first] w fun e w' => e = .returned (.tuple #[.agg #[.bool hk, .string key, .bool hv, .string val, .int .i64 (first + ago), .int .i64 off], .int .i64 at4, .int .i64 0]) ∧ Below w.heap.size w w' := by
  obtain ⟨ad, e, hx⟩ := Kd.at_int hr 0 (by decide) (by omega)
  cases e
  have qi : (0 < l.length) = True := eq_true (by omega)
  rw [show ((0 : Int)).toNat = 0 from rfl, Addr.add_zero'] at hx
  have hx' : ∀ o : Obj, (w.alloc o).cell? ad = some (.int .u8 (rd l 0)) := fun o => pw_cell_below (below_alloc (Below.refl _ _) o) hx
  have HX := Aside0.mk hx
  have f0 : ((l.length : Int) == 0) = false := by simpa using (by omega : ¬ (l.length = 0))
  have f1 : decide (3 < rd l 0) = false := decide_eq_false (by omega)
  have f2 : decide (first < 0) = false := decide_eq_false (by omega)
  have f3 : decide (1125899906842624 < first) = false := decide_eq_false (by omega)
  have HR := Aside0.mk hr
  have HC := Aside0.mk hc
  have HL := Aside0.mk hl
  have HU0 := Aside0.mk hu
  have HN0 := Aside0.mk hn
  have HU1 := Aside0.mk hu2
  have HZ := Aside0.mk hz
  have HM := Aside0.mk hm
  have HT1 := Aside0.mk ht1
  have HT2 := Aside0.mk ht2
  have f4 : decide (100 ≤ off) = false := decide_eq_false (by omega)
  have f5 : decide (ago < -first) = false := decide_eq_false (by omega)
  have f6 : decide (1125899906842624 - first < ago) = false := decide_eq_false (by omega)
  have HK := Aside0.mk h10
  have H9 := Aside0.mk h9
  clear h10 h9
  clear hr hc hl h0 h1 hu hn hu2 hz hm ht1 ht2
  go_enter Try.func16, Try.ntmps16
  go_wp2_with fail
  have S0 := Aside0.mk (DecSt.new w (some ad) l.length c)
  refine (varint_yes k (w.heap.size + 1) (some ad) c l 1 off n _ S0.out.rd (Kd.C_below HR.out S0.out.bel) HC.out HL.out HU0.out HN0.out).mono ?_
  rintro e w1 ⟨rfl, hb, ht⟩
  have S1 := Aside0.mk (S0.out.turned ht hb)
  clear hb ht S0
  obtain ⟨p0, p1, p2⟩ := S1.out.pcells
  go_wp2_with fail
  refine (varint_yes k (w.heap.size + 1) (some ad) c l (1 + n) u m _ S1.out.rd (Kd.C_below HR.out S1.out.bel) HC.out HL.out HU1.out HM.out).mono ?_
  rintro e w2 ⟨rfl, hb, ht⟩
  have S2 := Aside0.mk (S1.out.turned ht hb)
  clear hb ht S1
  clear p0 p1 p2
  go_wp2_with fail
  refine (bits_Zag.calls u ago _ HZ.out).mono ?_
  rintro e w3 ⟨rfl, ⟨q, rfl⟩⟩
  obtain ⟨p0, p1, p2⟩ := S2.out.pcells
  obtain ⟨r0, r1, r2, r3, r4, r5⟩ := S2.out.rcells
  obtain ⟨z0, z1, z2, z3, z4, z5⟩ := S2.out.rfree
  have hx3 := pw_cell_below S2.out.bel HX.out
  go_wp2
  refine wp_region_still_tail 16 (by kernel_rfl) (by kernel_rfl) ?_
  change wpStill _ _ (World.drew _) _ _ _
  simp only [List.take_succ_cons, List.take_zero, List.drop_succ_cons, List.drop_zero]
  repeat still_step
  try refine wpStill_nil ?_
  have S4 := Aside0.mk (S2.out.drewN (q + 1))
  change wpList _ _ _ _ _ (w2.drewN (q + 1))
  clear p0 p1 p2 r0 r1 r2 r3 r4 r5 z0 z1 z2 z3 z4 z5 hx3 S2
  generalize w2.drewN (q + 1) = w4 at S4 ⊢
  obtain ⟨p0, p1, p2⟩ := S4.out.pcells
  obtain ⟨r0, r1, r2, r3, r4, r5⟩ := S4.out.rcells
  obtain ⟨z0, z1, z2, z3, z4, z5⟩ := S4.out.rfree
  go_wp2_with fail
  have S5 := Aside0.mk ((((((S4.out.set0 hk).set1 ⟨#[]⟩).set2 hv).set3 ⟨#[]⟩).set4 (first + ago)).set5 off)
  refine (text_calls k (w.heap.size + 1) (some ad) c l (1 + n + m) at3 hk false b3 key _ S5.out.rd (fun W ht => Kd.C_below HR.out (ht.below S5.out.bel (by omega))) HC.out HL.out HT1.out).mono ?_
  rintro e w6 ⟨rfl, hb, ht⟩
  have S6 := Aside0.mk (S5.out.turned ht hb)
  clear p0 p1 p2 r0 r1 r2 r3 r4 r5 z0 z1 z2 z3 z4 z5 hb ht S4 S5
  obtain ⟨p0, p1, p2⟩ := S6.out.pcells
  obtain ⟨r0, r1, r2, r3, r4, r5⟩ := S6.out.rcells
  obtain ⟨z0, z1, z2, z3, z4, z5⟩ := S6.out.rfree
  go_wp2_with fail
  have S7 := Aside0.mk (S6.out.set1 key)
  refine (text_calls k (w.heap.size + 1) (some ad) c l at3 at4 hv b3 b4 val _ S7.out.rd (fun W ht => Kd.C_below HR.out (ht.below S7.out.bel (by omega))) HC.out HL.out HT2.out).mono ?_
  rintro e w8 ⟨rfl, hb, ht⟩
  have S8 := Aside0.mk (S7.out.turned ht hb)
  clear p0 p1 p2 r0 r1 r2 r3 r4 r5 z0 z1 z2 z3 z4 z5 hb ht S6 S7
  obtain rfl : b4 = false := H9.out
  obtain ⟨p0, p1, p2⟩ := S8.out.pcells
  obtain ⟨r0, r1, r2, r3, r4, r5⟩ := S8.out.rcells
  obtain ⟨z0, z1, z2, z3, z4, z5⟩ := S8.out.rfree
  go_wp2_with fail
  have S9 := Aside0.mk (S8.out.set3 val)
  refine (record_Check.calls k hk key hv val (first + ago) off 0 _ HK.out).mono ?_
  rintro e w10 ⟨rfl, hb⟩
  have S10 := Aside0.mk (S9.out.below hb)
  clear p0 p1 p2 r0 r1 r2 r3 r4 r5 z0 z1 z2 z3 z4 z5 hb S8 S9
  obtain ⟨p0, p1, p2⟩ := S10.out.pcells
  obtain ⟨r0, r1, r2, r3, r4, r5⟩ := S10.out.rcells
  obtain ⟨z0, z1, z2, z3, z4, z5⟩ := S10.out.rfree
  go_wp2_with fail
  go_region
  all_goals go_wp2
  refine bodyPost_ret (v := .tuple #[.agg #[.bool hk, .string key, .bool hv, .string val, .int .i64 (first + ago), .int .i64 off], .int .i64 at4, .int .i64 0]) (by simp [results, Try.results16, go_sem, r0, r1, r2, r3, r4, r5]) rfl ⟨rfl, ?_⟩
  exact (((((((S10.out.set0 hk).set1 key).set2 hv).set3 val).set4 (first + ago)).set5 off).drewN 1).bel

set_option maxHeartbeats 2000000 in
set_option maxRecDepth 100000 in
theorem decode_over (k : Nat) (A : Option Addr) (c : Nat) (l : List Int) (first : Int) (off n u m ago : Int) (hk hv : Bool) (key val : ByteArray) (at3 at4 : Int) (b3 b4 : Bool) (w : World) (hr : Kd.C (Kd.int .u8) w A l.length l) (hc : l.length ≤ c) (h0 : 0 < l.length) (h1 : rd l 0 ≤ 3) (h2 : 0 ≤ first) (h3 : first ≤ 1125899906842624) (hl : l.length ≤ 1000000000000000) (hu : rdNum k l 1 = some (off, n)) (hn : n ≠ 0) (hu2 : rdNum k l (1 + n) = some (u, m)) (hz : bits_Zag.f u = some ago) (hm : m ≠ 0) (h40 : 0 ≤ off) (h4 : off < 100) (h5 : -first ≤ ago) (h6 : ago ≤ 1125899906842624 - first) (f7 : decide (0 < Go.bits BinOp.and IntKind.u8 (rd l 0) 1) = hk) (f8 : decide (0 < Go.bits BinOp.and IntKind.u8 (rd l 0) 2) = hv) (ht1 : rdText k l (1 + n + m) hk false = some (key, at3, b3)) (ht2 : rdText k l at3 hv b3 = some (val, at4, b4)) (h9 : b4 = true) :
    Calls Try.prog 16 #[.slice A l.length c, .int .i64 first] w fun e w' => e = .returned (.tuple #[.agg #[.bool false, .string ⟨#[]⟩, .bool false, .string ⟨#[]⟩, .int .i64 0, .int .i64 0], .int .i64 0, .int .i64 10]) ∧ Below w.heap.size w w' := by
  obtain ⟨ad, e, hx⟩ := Kd.at_int hr 0 (by decide) (by omega)
  cases e
  have qi : (0 < l.length) = True := eq_true (by omega)
  rw [show ((0 : Int)).toNat = 0 from rfl, Addr.add_zero'] at hx
  have hx' : ∀ o : Obj, (w.alloc o).cell? ad = some (.int .u8 (rd l 0)) := fun o => pw_cell_below (below_alloc (Below.refl _ _) o) hx
  have HX := Aside0.mk hx
  have f0 : ((l.length : Int) == 0) = false := by simpa using (by omega : ¬ (l.length = 0))
  have f1 : decide (3 < rd l 0) = false := decide_eq_false (by omega)
  have f2 : decide (first < 0) = false := decide_eq_false (by omega)
  have f3 : decide (1125899906842624 < first) = false := decide_eq_false (by omega)
  have HR := Aside0.mk hr
  have HC := Aside0.mk hc
  have HL := Aside0.mk hl
  have HU0 := Aside0.mk hu
  have HN0 := Aside0.mk hn
  have HU1 := Aside0.mk hu2
  have HZ := Aside0.mk hz
  have HM := Aside0.mk hm
  have HT1 := Aside0.mk ht1
  have HT2 := Aside0.mk ht2
  have f4 : decide (100 ≤ off) = false := decide_eq_false (by omega)
  have f5 : decide (ago < -first) = false := decide_eq_false (by omega)
  have f6 : decide (1125899906842624 - first < ago) = false := decide_eq_false (by omega)
  have H9 := Aside0.mk h9
  clear h9
  clear hr hc hl h0 h1 hu hn hu2 hz hm ht1 ht2
  go_enter Try.func16, Try.ntmps16
  go_wp2_with fail
  have S0 := Aside0.mk (DecSt.new w (some ad) l.length c)
  refine (varint_yes k (w.heap.size + 1) (some ad) c l 1 off n _ S0.out.rd (Kd.C_below HR.out S0.out.bel) HC.out HL.out HU0.out HN0.out).mono ?_
  rintro e w1 ⟨rfl, hb, ht⟩
  have S1 := Aside0.mk (S0.out.turned ht hb)
  clear hb ht S0
  obtain ⟨p0, p1, p2⟩ := S1.out.pcells
  go_wp2_with fail
  refine (varint_yes k (w.heap.size + 1) (some ad) c l (1 + n) u m _ S1.out.rd (Kd.C_below HR.out S1.out.bel) HC.out HL.out HU1.out HM.out).mono ?_
  rintro e w2 ⟨rfl, hb, ht⟩
  have S2 := Aside0.mk (S1.out.turned ht hb)
  clear hb ht S1
  clear p0 p1 p2
  go_wp2_with fail
  refine (bits_Zag.calls u ago _ HZ.out).mono ?_
  rintro e w3 ⟨rfl, ⟨q, rfl⟩⟩
  obtain ⟨p0, p1, p2⟩ := S2.out.pcells
  obtain ⟨r0, r1, r2, r3, r4, r5⟩ := S2.out.rcells
  obtain ⟨z0, z1, z2, z3, z4, z5⟩ := S2.out.rfree
  have hx3 := pw_cell_below S2.out.bel HX.out
  go_wp2
  refine wp_region_still_tail 16 (by kernel_rfl) (by kernel_rfl) ?_
  change wpStill _ _ (World.drew _) _ _ _
  simp only [List.take_succ_cons, List.take_zero, List.drop_succ_cons, List.drop_zero]
  repeat still_step
  try refine wpStill_nil ?_
  have S4 := Aside0.mk (S2.out.drewN (q + 1))
  change wpList _ _ _ _ _ (w2.drewN (q + 1))
  clear p0 p1 p2 r0 r1 r2 r3 r4 r5 z0 z1 z2 z3 z4 z5 hx3 S2
  generalize w2.drewN (q + 1) = w4 at S4 ⊢
  obtain ⟨p0, p1, p2⟩ := S4.out.pcells
  obtain ⟨r0, r1, r2, r3, r4, r5⟩ := S4.out.rcells
  obtain ⟨z0, z1, z2, z3, z4, z5⟩ := S4.out.rfree
  go_wp2_with fail
  have S5 := Aside0.mk ((((((S4.out.set0 hk).set1 ⟨#[]⟩).set2 hv).set3 ⟨#[]⟩).set4 (first + ago)).set5 off)
  refine (text_calls k (w.heap.size + 1) (some ad) c l (1 + n + m) at3 hk false b3 key _ S5.out.rd (fun W ht => Kd.C_below HR.out (ht.below S5.out.bel (by omega))) HC.out HL.out HT1.out).mono ?_
  rintro e w6 ⟨rfl, hb, ht⟩
  have S6 := Aside0.mk (S5.out.turned ht hb)
  clear p0 p1 p2 r0 r1 r2 r3 r4 r5 z0 z1 z2 z3 z4 z5 hb ht S4 S5
  obtain ⟨p0, p1, p2⟩ := S6.out.pcells
  obtain ⟨r0, r1, r2, r3, r4, r5⟩ := S6.out.rcells
  obtain ⟨z0, z1, z2, z3, z4, z5⟩ := S6.out.rfree
  go_wp2_with fail
  have S7 := Aside0.mk (S6.out.set1 key)
  refine (text_calls k (w.heap.size + 1) (some ad) c l at3 at4 hv b3 b4 val _ S7.out.rd (fun W ht => Kd.C_below HR.out (ht.below S7.out.bel (by omega))) HC.out HL.out HT2.out).mono ?_
  rintro e w8 ⟨rfl, hb, ht⟩
  have S8 := Aside0.mk (S7.out.turned ht hb)
  clear p0 p1 p2 r0 r1 r2 r3 r4 r5 z0 z1 z2 z3 z4 z5 hb ht S6 S7
  obtain rfl : b4 = true := H9.out
  obtain ⟨p0, p1, p2⟩ := S8.out.pcells
  obtain ⟨r0, r1, r2, r3, r4, r5⟩ := S8.out.rcells
  obtain ⟨z0, z1, z2, z3, z4, z5⟩ := S8.out.rfree
  go_wp2
  refine bodyPost_ret (v := .tuple #[.agg #[.bool false, .string ⟨#[]⟩, .bool false, .string ⟨#[]⟩, .int .i64 0, .int .i64 0], .int .i64 0, .int .i64 10]) (by simp [results, Try.results16, go_sem, r0, r1, r2, r3, r4, r5]) rfl ⟨rfl, ?_⟩
  exact (((((((S8.out.set3 val).set0 false).set1 ⟨#[]⟩).set2 false).set3 ⟨#[]⟩).set4 0).set5 0).bel

set_option maxHeartbeats 2000000 in
set_option maxRecDepth 100000 in
theorem decode_wrong (k : Nat) (A : Option Addr) (c : Nat) (l : List Int) (first : Int) (off n u m ago : Int) (hk hv : Bool) (key val : ByteArray) (at3 at4 : Int) (b3 b4 : Bool) (e : Int) (w : World) (hr : Kd.C (Kd.int .u8) w A l.length l) (hc : l.length ≤ c) (h0 : 0 < l.length) (h1 : rd l 0 ≤ 3) (h2 : 0 ≤ first) (h3 : first ≤ 1125899906842624) (hl : l.length ≤ 1000000000000000) (hu : rdNum k l 1 = some (off, n)) (hn : n ≠ 0) (hu2 : rdNum k l (1 + n) = some (u, m)) (hz : bits_Zag.f u = some ago) (hm : m ≠ 0) (h40 : 0 ≤ off) (h4 : off < 100) (h5 : -first ≤ ago) (h6 : ago ≤ 1125899906842624 - first) (f7 : decide (0 < Go.bits BinOp.and IntKind.u8 (rd l 0) 1) = hk) (f8 : decide (0 < Go.bits BinOp.and IntKind.u8 (rd l 0) 2) = hv) (ht1 : rdText k l (1 + n + m) hk false = some (key, at3, b3)) (ht2 : rdText k l at3 hv b3 = some (val, at4, b4)) (h9 : b4 = false) (h10 : record_Check.f k hk key hv val (first + ago) off = some e) (h11 : e ≠ 0) :
    Calls Try.prog 16 #[.slice A l.length c, .int .i64 first] w fun e w' => e = .returned (.tuple #[.agg #[.bool false, .string ⟨#[]⟩, .bool false, .string ⟨#[]⟩, .int .i64 0, .int .i64 0], .int .i64 0, .int .i64 10]) ∧ Below w.heap.size w w' := by
  obtain ⟨ad, e, hx⟩ := Kd.at_int hr 0 (by decide) (by omega)
  cases e
  have qi : (0 < l.length) = True := eq_true (by omega)
  rw [show ((0 : Int)).toNat = 0 from rfl, Addr.add_zero'] at hx
  have hx' : ∀ o : Obj, (w.alloc o).cell? ad = some (.int .u8 (rd l 0)) := fun o => pw_cell_below (below_alloc (Below.refl _ _) o) hx
  have HX := Aside0.mk hx
  have f0 : ((l.length : Int) == 0) = false := by simpa using (by omega : ¬ (l.length = 0))
  have f1 : decide (3 < rd l 0) = false := decide_eq_false (by omega)
  have f2 : decide (first < 0) = false := decide_eq_false (by omega)
  have f3 : decide (1125899906842624 < first) = false := decide_eq_false (by omega)
  have HR := Aside0.mk hr
  have HC := Aside0.mk hc
  have HL := Aside0.mk hl
  have HU0 := Aside0.mk hu
  have HN0 := Aside0.mk hn
  have HU1 := Aside0.mk hu2
  have HZ := Aside0.mk hz
  have HM := Aside0.mk hm
  have HT1 := Aside0.mk ht1
  have HT2 := Aside0.mk ht2
  have f4 : decide (100 ≤ off) = false := decide_eq_false (by omega)
  have f5 : decide (ago < -first) = false := decide_eq_false (by omega)
  have f6 : decide (1125899906842624 - first < ago) = false := decide_eq_false (by omega)
  have HK := Aside0.mk h10
  have H9 := Aside0.mk h9
  have f11 : (e != 0) = true := bne_iff_ne.mpr h11
  clear h10 h9 h11
  clear hr hc hl h0 h1 hu hn hu2 hz hm ht1 ht2
  go_enter Try.func16, Try.ntmps16
  go_wp2_with fail
  have S0 := Aside0.mk (DecSt.new w (some ad) l.length c)
  refine (varint_yes k (w.heap.size + 1) (some ad) c l 1 off n _ S0.out.rd (Kd.C_below HR.out S0.out.bel) HC.out HL.out HU0.out HN0.out).mono ?_
  rintro e w1 ⟨rfl, hb, ht⟩
  have S1 := Aside0.mk (S0.out.turned ht hb)
  clear hb ht S0
  obtain ⟨p0, p1, p2⟩ := S1.out.pcells
  go_wp2_with fail
  refine (varint_yes k (w.heap.size + 1) (some ad) c l (1 + n) u m _ S1.out.rd (Kd.C_below HR.out S1.out.bel) HC.out HL.out HU1.out HM.out).mono ?_
  rintro e w2 ⟨rfl, hb, ht⟩
  have S2 := Aside0.mk (S1.out.turned ht hb)
  clear hb ht S1
  clear p0 p1 p2
  go_wp2_with fail
  refine (bits_Zag.calls u ago _ HZ.out).mono ?_
  rintro e w3 ⟨rfl, ⟨q, rfl⟩⟩
  obtain ⟨p0, p1, p2⟩ := S2.out.pcells
  obtain ⟨r0, r1, r2, r3, r4, r5⟩ := S2.out.rcells
  obtain ⟨z0, z1, z2, z3, z4, z5⟩ := S2.out.rfree
  have hx3 := pw_cell_below S2.out.bel HX.out
  go_wp2
  refine wp_region_still_tail 16 (by kernel_rfl) (by kernel_rfl) ?_
  change wpStill _ _ (World.drew _) _ _ _
  simp only [List.take_succ_cons, List.take_zero, List.drop_succ_cons, List.drop_zero]
  repeat still_step
  try refine wpStill_nil ?_
  have S4 := Aside0.mk (S2.out.drewN (q + 1))
  change wpList _ _ _ _ _ (w2.drewN (q + 1))
  clear p0 p1 p2 r0 r1 r2 r3 r4 r5 z0 z1 z2 z3 z4 z5 hx3 S2
  generalize w2.drewN (q + 1) = w4 at S4 ⊢
  obtain ⟨p0, p1, p2⟩ := S4.out.pcells
  obtain ⟨r0, r1, r2, r3, r4, r5⟩ := S4.out.rcells
  obtain ⟨z0, z1, z2, z3, z4, z5⟩ := S4.out.rfree
  go_wp2_with fail
  have S5 := Aside0.mk ((((((S4.out.set0 hk).set1 ⟨#[]⟩).set2 hv).set3 ⟨#[]⟩).set4 (first + ago)).set5 off)
  refine (text_calls k (w.heap.size + 1) (some ad) c l (1 + n + m) at3 hk false b3 key _ S5.out.rd (fun W ht => Kd.C_below HR.out (ht.below S5.out.bel (by omega))) HC.out HL.out HT1.out).mono ?_
  rintro e w6 ⟨rfl, hb, ht⟩
  have S6 := Aside0.mk (S5.out.turned ht hb)
  clear p0 p1 p2 r0 r1 r2 r3 r4 r5 z0 z1 z2 z3 z4 z5 hb ht S4 S5
  obtain ⟨p0, p1, p2⟩ := S6.out.pcells
  obtain ⟨r0, r1, r2, r3, r4, r5⟩ := S6.out.rcells
  obtain ⟨z0, z1, z2, z3, z4, z5⟩ := S6.out.rfree
  go_wp2_with fail
  have S7 := Aside0.mk (S6.out.set1 key)
  refine (text_calls k (w.heap.size + 1) (some ad) c l at3 at4 hv b3 b4 val _ S7.out.rd (fun W ht => Kd.C_below HR.out (ht.below S7.out.bel (by omega))) HC.out HL.out HT2.out).mono ?_
  rintro e w8 ⟨rfl, hb, ht⟩
  have S8 := Aside0.mk (S7.out.turned ht hb)
  clear p0 p1 p2 r0 r1 r2 r3 r4 r5 z0 z1 z2 z3 z4 z5 hb ht S6 S7
  obtain rfl : b4 = false := H9.out
  obtain ⟨p0, p1, p2⟩ := S8.out.pcells
  obtain ⟨r0, r1, r2, r3, r4, r5⟩ := S8.out.rcells
  obtain ⟨z0, z1, z2, z3, z4, z5⟩ := S8.out.rfree
  go_wp2_with fail
  have S9 := Aside0.mk (S8.out.set3 val)
  refine (record_Check.calls k hk key hv val (first + ago) off e _ HK.out).mono ?_
  rintro e w10 ⟨rfl, hb⟩
  have S10 := Aside0.mk (S9.out.below hb)
  clear p0 p1 p2 r0 r1 r2 r3 r4 r5 z0 z1 z2 z3 z4 z5 hb S8 S9
  obtain ⟨p0, p1, p2⟩ := S10.out.pcells
  obtain ⟨r0, r1, r2, r3, r4, r5⟩ := S10.out.rcells
  obtain ⟨z0, z1, z2, z3, z4, z5⟩ := S10.out.rfree
  go_wp2
  refine bodyPost_ret (v := .tuple #[.agg #[.bool false, .string ⟨#[]⟩, .bool false, .string ⟨#[]⟩, .int .i64 0, .int .i64 0], .int .i64 0, .int .i64 10]) (by simp [results, Try.results16, go_sem, r0, r1, r2, r3, r4, r5]) rfl ⟨rfl, ?_⟩
  exact ((((((S10.out.set0 false).set1 ⟨#[]⟩).set2 false).set3 ⟨#[]⟩).set4 0).set5 0).bel

/-- What Decode tells: the record, the place behind it, the error. -/
def record_Decode.bad : Option (Bool × ByteArray × Bool × ByteArray × Int × Int × Int × Int) := some (false, ⟨#[]⟩, false, ⟨#[]⟩, 0, 0, 0, 10)
def record_Decode.f (k : Nat) (l : List Int) (first : Int) : Option (Bool × ByteArray × Bool × ByteArray × Int × Int × Int × Int) :=
  if ¬ l.length ≤ 1000000000000000 then none else if l.length = 0 then record_Decode.bad else if 3 < rd l 0 then record_Decode.bad else if first < 0 then record_Decode.bad else if 1125899906842624 < first then record_Decode.bad
  else (rdNum k l 1).bind fun t => if t.2 = 0 then record_Decode.bad else (rdNum k l (1 + t.2)).bind fun u => (bits_Zag.f u.1).bind fun ago =>
    if u.2 = 0 then record_Decode.bad else if 100 ≤ t.1 then record_Decode.bad else if ago < -first then record_Decode.bad else if 1125899906842624 - first < ago then record_Decode.bad
    else (rdText k l (1 + t.2 + u.2) (decide (0 < Go.bits BinOp.and IntKind.u8 (rd l 0) 1)) false).bind fun x => (rdText k l x.2.1 (decide (0 < Go.bits BinOp.and IntKind.u8 (rd l 0) 2)) x.2.2).bind fun y =>
      if y.2.2 = true then record_Decode.bad else (record_Check.f k (decide (0 < Go.bits BinOp.and IntKind.u8 (rd l 0) 1)) x.1 (decide (0 < Go.bits BinOp.and IntKind.u8 (rd l 0) 2)) y.1 (first + ago) t.1).bind fun e =>
        if e = 0 then some (decide (0 < Go.bits BinOp.and IntKind.u8 (rd l 0) 1), x.1, decide (0 < Go.bits BinOp.and IntKind.u8 (rd l 0) 2), y.1, first + ago, t.1, y.2.1, 0) else record_Decode.bad
theorem rdNum.mono (k : Nat) (l : List Int) (at_ : Int) : LeO (rdNum k l at_) (rdNum (k + 1) l at_) := by
  unfold rdNum
  exact LeO.bind (bits_Unvarint.mono _ _) (fun _ => LeO.refl _)
theorem rdText.mono (k : Nat) (l : List Int) (at_ : Int) (is bad : Bool) : LeO (rdText k l at_ is bad) (rdText (k + 1) l at_ is bad) := by
  unfold rdText
  exact LeO.ite (LeO.refl _) (LeO.bind (rdNum.mono _ _ _) (fun _ => LeO.refl _))
theorem record_Decode.mono : ∀ a0 a1 k, LeO (record_Decode.f k a0 a1) (record_Decode.f (k + 1) a0 a1) := by
  intro l first k
  unfold record_Decode.f
  refine LeO.ite (LeO.refl _) (LeO.ite (LeO.refl _) (LeO.ite (LeO.refl _) (LeO.ite (LeO.refl _) (LeO.ite (LeO.refl _) ?_))))
  refine LeO.bind (rdNum.mono _ _ _) (fun _ => LeO.ite (LeO.refl _) (LeO.bind (rdNum.mono _ _ _) (fun _ => LeO.bind (LeO.refl _) (fun _ => ?_))))
  refine LeO.ite (LeO.refl _) (LeO.ite (LeO.refl _) (LeO.ite (LeO.refl _) (LeO.ite (LeO.refl _) ?_)))
  refine LeO.bind (rdText.mono _ _ _ _ _) (fun _ => LeO.bind (rdText.mono _ _ _ _ _) (fun _ => LeO.ite (LeO.refl _) (LeO.bind (record_Check.mono _ _ _ _ _ _ _) (fun _ => LeO.refl _))))
theorem record_Decode.calls (k : Nat) (A0 : Option Addr) (c0 : Nat) (l0 : List Int) (a1 : Int) (r1 : Bool) (r2 : ByteArray) (r3 : Bool) (r4 : ByteArray) (r5 : Int) (r6 : Int) (r7 : Int) (r8 : Int) (w : World) (hr0 : Kd.C (Kd.int .u8) w A0 l0.length l0) (hc0 : l0.length ≤ c0) (h : record_Decode.f k l0 a1 = some (r1, r2, r3, r4, r5, r6, r7, r8)) :
    Calls Try.prog 16 #[.slice A0 l0.length c0, .int .i64 a1] w fun e w' => e = .returned (.tuple #[.agg #[.bool r1, .string r2, .bool r3, .string r4, .int .i64 r5, .int .i64 r6], .int .i64 r7, .int .i64 r8]) ∧ Below w.heap.size w w' := by
  have bad : ∀ {r}, record_Decode.bad = some r → r = (false, ⟨#[]⟩, false, ⟨#[]⟩, 0, 0, 0, 10) := fun h => (Option.some.inj h).symm
  unfold record_Decode.f at h
  by_cases hl : l0.length ≤ 1000000000000000
  case neg => rw [if_pos hl] at h; cases h
  rw [if_neg (not_not_intro hl)] at h
  by_cases h0 : l0.length = 0
  · rw [if_pos h0] at h
    have q := bad h; simp only [Prod.mk.injEq] at q; obtain ⟨rfl, rfl, rfl, rfl, rfl, rfl, rfl, rfl⟩ := q
    exact decode_empty k A0 c0 l0 a1 w hr0 hc0 h0
  rw [if_neg h0] at h
  by_cases h1 : 3 < rd l0 0
  · rw [if_pos h1] at h
    have q := bad h; simp only [Prod.mk.injEq] at q; obtain ⟨rfl, rfl, rfl, rfl, rfl, rfl, rfl, rfl⟩ := q
    exact decode_flags k A0 c0 l0 a1 w hr0 hc0 (by omega) h1
  rw [if_neg h1] at h
  by_cases h2 : a1 < 0
  · rw [if_pos h2] at h
    have q := bad h; simp only [Prod.mk.injEq] at q; obtain ⟨rfl, rfl, rfl, rfl, rfl, rfl, rfl, rfl⟩ := q
    exact decode_first0 k A0 c0 l0 a1 w hr0 hc0 (by omega) (by omega) h2
  rw [if_neg h2] at h
  by_cases h3 : 1125899906842624 < a1
  · rw [if_pos h3] at h
    have q := bad h; simp only [Prod.mk.injEq] at q; obtain ⟨rfl, rfl, rfl, rfl, rfl, rfl, rfl, rfl⟩ := q
    exact decode_first1 k A0 c0 l0 a1 w hr0 hc0 (by omega) (by omega) (by omega) h3
  rw [if_neg h3] at h
  obtain ⟨⟨off, n⟩, hu, h⟩ := Option.bind_eq_some_iff.mp h
  dsimp only at h
  by_cases hn : n = 0
  · rw [if_pos hn] at h
    have q := bad h; simp only [Prod.mk.injEq] at q; obtain ⟨rfl, rfl, rfl, rfl, rfl, rfl, rfl, rfl⟩ := q
    subst hn
    exact decode_none1 k A0 c0 l0 a1 off w hr0 hc0 (by omega) (by omega) (by omega) (by omega) hl hu
  rw [if_neg hn] at h
  obtain ⟨⟨u, m⟩, hu2, h⟩ := Option.bind_eq_some_iff.mp h
  dsimp only at h
  obtain ⟨ago, hz, h⟩ := Option.bind_eq_some_iff.mp h
  by_cases hm : m = 0
  · rw [if_pos hm] at h
    have q := bad h; simp only [Prod.mk.injEq] at q; obtain ⟨rfl, rfl, rfl, rfl, rfl, rfl, rfl, rfl⟩ := q
    subst hm
    exact decode_none2 k A0 c0 l0 a1 off n u ago w hr0 hc0 (by omega) (by omega) (by omega) (by omega) hl hu hn hu2 hz
  rw [if_neg hm] at h
  by_cases h4 : 100 ≤ off
  · rw [if_pos h4] at h
    have q := bad h; simp only [Prod.mk.injEq] at q; obtain ⟨rfl, rfl, rfl, rfl, rfl, rfl, rfl, rfl⟩ := q
    exact decode_off k A0 c0 l0 a1 off n u m ago w hr0 hc0 (by omega) (by omega) (by omega) (by omega) hl hu hn hu2 hz hm h4
  rw [if_neg h4] at h
  by_cases h5 : ago < -a1
  · rw [if_pos h5] at h
    have q := bad h; simp only [Prod.mk.injEq] at q; obtain ⟨rfl, rfl, rfl, rfl, rfl, rfl, rfl, rfl⟩ := q
    exact decode_ago0 k A0 c0 l0 a1 off n u m ago w hr0 hc0 (by omega) (by omega) (by omega) (by omega) hl hu hn hu2 hz hm (by omega) h5
  rw [if_neg h5] at h
  by_cases h6 : 1125899906842624 - a1 < ago
  · rw [if_pos h6] at h
    have q := bad h; simp only [Prod.mk.injEq] at q; obtain ⟨rfl, rfl, rfl, rfl, rfl, rfl, rfl, rfl⟩ := q
    exact decode_ago1 k A0 c0 l0 a1 off n u m ago w hr0 hc0 (by omega) (by omega) (by omega) (by omega) hl hu hn hu2 hz hm (by omega) (by omega) h6
  rw [if_neg h6] at h
  obtain ⟨⟨key, at3, b3⟩, ht1, h⟩ := Option.bind_eq_some_iff.mp h
  dsimp only at h
  obtain ⟨⟨val, at4, b4⟩, ht2, h⟩ := Option.bind_eq_some_iff.mp h
  dsimp only at h
  have hoff : 0 ≤ off := (rdNum_tells hu).2.1
  by_cases h9 : b4 = true
  · rw [if_pos h9] at h
    have q := bad h; simp only [Prod.mk.injEq] at q; obtain ⟨rfl, rfl, rfl, rfl, rfl, rfl, rfl, rfl⟩ := q
    exact decode_over k A0 c0 l0 a1 off n u m ago _ _ key val at3 at4 b3 b4 w hr0 hc0 (by omega) (by omega) (by omega) (by omega) hl hu hn hu2 hz hm hoff (by omega) (by omega) (by omega) rfl rfl ht1 ht2 h9
  rw [if_neg h9] at h
  have h9' : b4 = false := by simpa using h9
  obtain ⟨e, hk, h⟩ := Option.bind_eq_some_iff.mp h
  by_cases h10 : e = 0
  · rw [if_pos h10] at h
    have q := (Option.some.inj h).symm; simp only [Prod.mk.injEq] at q; obtain ⟨rfl, rfl, rfl, rfl, rfl, rfl, rfl, rfl⟩ := q
    exact decode_good k A0 c0 l0 a1 _ n u m ago _ _ _ _ at3 _ b3 b4 w hr0 hc0 (by omega) (by omega) (by omega) (by omega) hl hu hn hu2 hz hm hoff (by omega) (by omega) (by omega) rfl rfl ht1 ht2 h9' (by rw [h10] at hk; exact hk)
  · rw [if_neg h10] at h
    have q := bad h; simp only [Prod.mk.injEq] at q; obtain ⟨rfl, rfl, rfl, rfl, rfl, rfl, rfl, rfl⟩ := q
    exact decode_wrong k A0 c0 l0 a1 off n u m ago _ _ key val at3 at4 b3 b4 e w hr0 hc0 (by omega) (by omega) (by omega) (by omega) hl hu hn hu2 hz hm hoff (by omega) (by omega) (by omega) rfl rfl ht1 ht2 h9' hk h10

end Go.Proofs.Ytcmkmjmhjjohkaa.PDec
