-- written by a program of this session (wip/tools/pr.py, over the kit's printer): not by hand
import Derived.Test.YtgmeellapjimgaaQPBmx1
import Derived.Test.YtgmeellapjimgaaQPBmx11
namespace Go.Proofs.Ytgmeellapjimgaa.PBm
open Go.RowKit Go.Proofs.YtgmeellapjimgaaW.PrintWords Go.Proofs.YtgmeellapjimgaaW.PrintLast Go.Proofs.YtgmeellapjimgaaW.PrintMore
attribute [local go_sem] max2_int min2_int max_two min_two max_three min_three max_four min_four   -- for this text's walks alone
set_option linter.unusedVariables false
set_option linter.unusedSimpArgs false

/-! ### bollardref12_Decode -/
def bollardref12_Decode.bad : Option (Bool × ByteArray × Bool × ByteArray × Int × Int × Int × Int) := some (false, ⟨#[]⟩, false, ⟨#[]⟩, 0, 0, 0, 10)
def bollardref12_Decode.no1 (l : List Int) (first : Int) : Bool := decide (first < 0) || (decide (1125899906842624 < first) || (decide (l.length = 0) || decide (3 < rd l 0)))
def bollardref12_Decode.no2 (u n : Int) : Bool := decide (n = 0) || decide (100 ≤ u)
def bollardref12_Decode.no3 (n d first : Int) : Bool := decide (n = 0) || (decide (d < -first) || decide (1125899906842624 - first < d))
def bollardref12_Decode.tx (k : Nat) (l : List Int) (is : Bool) (i : Int) : Option (ByteArray × Int) := if is = true then bollardref12_text.f k l i else some (⟨#[]⟩, i)
def bollardref12_Decode.num (k : Nat) (l : List Int) (i : Int) : Option (Int × Int) := (bollardref1_Unvarint.f k (l.drop i.toNat)).bind fun u => if 0 ≤ u.1 ∧ u.1 < 18446744073709551616 ∧ 0 ≤ u.2 ∧ i + u.2 ≤ (l.length : Int) then some u else none
def bollardref12_Decode.f (k : Nat) (l : List Int) (first : Int) : Option (Bool × ByteArray × Bool × ByteArray × Int × Int × Int × Int) :=
  if bollardref12_Decode.no1 l first = true then bollardref12_Decode.bad else (bollardref12_Decode.num k l 1).bind fun u => if bollardref12_Decode.no2 u.1 u.2 = true then bollardref12_Decode.bad else (bollardref12_Decode.num k l (1 + u.2)).bind fun v => (bollardref1_Zag.f v.1).bind fun d => if bollardref12_Decode.no3 v.2 d first = true then bollardref12_Decode.bad else
    (bollardref12_Decode.tx k l (Go.bits .and .u8 (rd l 0) 1 == 1) (1 + u.2 + v.2)).bind fun a => (bollardref12_Decode.tx k l (decide (0 ≤ a.2) && (Go.bits .and .u8 (rd l 0) 2 == 2)) a.2).bind fun b => if b.2 < 0 then bollardref12_Decode.bad else some (Go.bits .and .u8 (rd l 0) 1 == 1, a.1, Go.bits .and .u8 (rd l 0) 2 == 2, b.1, first + d, u.1, b.2, 0)
theorem bollardref12_Decode.num_mono (k : Nat) (l : List Int) (i : Int) : LeO (bollardref12_Decode.num k l i) (bollardref12_Decode.num (k + 1) l i) := LeO.bind (bollardref1_Unvarint.mono _ _) (fun _ => LeO.refl _)
theorem bollardref12_Decode.tx_mono (k : Nat) (l : List Int) (is : Bool) (i : Int) : LeO (bollardref12_Decode.tx k l is i) (bollardref12_Decode.tx (k + 1) l is i) := LeO.ite (bollardref12_text.mono _ _ _) (LeO.refl _)
theorem bollardref12_Decode.mono : ∀ a0 a1 k, LeO (bollardref12_Decode.f k a0 a1) (bollardref12_Decode.f (k + 1) a0 a1) := by
  intro l first k
  unfold bollardref12_Decode.f
  repeat' first | (with_reducible exact LeO.refl _) | (with_reducible exact bollardref12_Decode.num_mono _ _ _) | (with_reducible exact bollardref12_Decode.tx_mono _ _ _ _) | (with_reducible refine LeO.ite ?_ ?_) | (with_reducible refine LeO.bind ?_ (fun _ => ?_))
theorem bollardref12_Decode.num_tells {k : Nat} {l : List Int} {i : Int} {u : Int × Int} (h : bollardref12_Decode.num k l i = some u) : bollardref1_Unvarint.f k (l.drop i.toNat) = some u ∧ 0 ≤ u.1 ∧ u.1 < 18446744073709551616 ∧ 0 ≤ u.2 ∧ i + u.2 ≤ (l.length : Int) := by
  obtain ⟨t, h1, h2⟩ := Option.bind_eq_some_iff.mp h
  split at h2
  · rename_i hc
    obtain rfl := Option.some.inj h2
    exact ⟨h1, hc⟩
  · cases h2
def RdSt (w W : World) : Prop := Below w.heap.size w W ∧ W.heap.size = w.heap.size + 2 ∧ W.heap[w.heap.size]? = some (.cells #[.bool false, .string ⟨#[]⟩, .bool false, .string ⟨#[]⟩, .int .i64 0, .int .i64 0] 45 (0, 0)) ∧ W.heap[w.heap.size + 1]? = some (.cells #[.bool false, .string ⟨#[]⟩, .bool false, .string ⟨#[]⟩, .int .i64 0, .int .i64 0] 45 (0, 0))
theorem RdSt.new (w : World) : RdSt w ((w.alloc (.cells #[.bool false, .string ⟨#[]⟩, .bool false, .string ⟨#[]⟩, .int .i64 0, .int .i64 0] 45)).alloc (.cells #[.bool false, .string ⟨#[]⟩, .bool false, .string ⟨#[]⟩, .int .i64 0, .int .i64 0] 45)) := by
  refine ⟨below_alloc (below_alloc (Below.refl _ _) _) _, by simp, blk_alloc (heap_alloc_new w _) _, ?_⟩
  have := heap_alloc_new (w.alloc (.cells #[.bool false, .string ⟨#[]⟩, .bool false, .string ⟨#[]⟩, .int .i64 0, .int .i64 0] 45)) (.cells #[.bool false, .string ⟨#[]⟩, .bool false, .string ⟨#[]⟩, .int .i64 0, .int .i64 0] 45)
  simpa using this
theorem RdSt.drewN {w W : World} (h : RdSt w W) (m : Nat) : RdSt w (W.drewN m) := ⟨pw_below_drewN h.1 m, h.2.1, h.2.2.1, h.2.2.2⟩
theorem RdSt.drew {w W : World} (h : RdSt w W) : RdSt w W.drew := h.drewN 1
theorem rd_cells {W : World} {g : Nat} {c0 c1 c2 c3 c4 c5 : Value} (h : W.heap[g]? = some (.cells #[c0, c1, c2, c3, c4, c5] 45 (0, 0))) : W.cell? ⟨g, 0, none⟩ = some c0 ∧ W.cell? ⟨g, 1, none⟩ = some c1 ∧ W.cell? ⟨g, 2, none⟩ = some c2 ∧ W.cell? ⟨g, 3, none⟩ = some c3 ∧ W.cell? ⟨g, 4, none⟩ = some c4 ∧ W.cell? ⟨g, 5, none⟩ = some c5 :=
  ⟨(blk_cell h 0).trans rfl, (blk_cell h 1).trans rfl, (blk_cell h 2).trans rfl, (blk_cell h 3).trans rfl, (blk_cell h 4).trans rfl, (blk_cell h 5).trans rfl⟩
theorem rd_free {W : World} {g : Nat} {cs : Array Value} (h : W.heap[g]? = some (.cells cs 45 (0, 0))) : W.frozen? ⟨g, 0, none⟩ = false ∧ W.frozen? ⟨g, 1, none⟩ = false ∧ W.frozen? ⟨g, 2, none⟩ = false ∧ W.frozen? ⟨g, 3, none⟩ = false ∧ W.frozen? ⟨g, 4, none⟩ = false ∧ W.frozen? ⟨g, 5, none⟩ = false :=
  ⟨blk_frozen h 0, blk_frozen h 1, blk_frozen h 2, blk_frozen h 3, blk_frozen h 4, blk_frozen h 5⟩
theorem rd_set {w W : World} {g : Nat} {c0 c1 c2 c3 c4 c5 : Value} (hb : Below w.heap.size w W) (hg : w.heap.size ≤ g) (ht : W.heap[g]? = some (.cells #[c0, c1, c2, c3, c4, c5] 45 (0, 0))) (a0 a1 a2 a3 a4 a5 : Value) :
    ((((((W.setCell ⟨g, 0, none⟩ a0).setCell ⟨g, 1, none⟩ a1).setCell ⟨g, 2, none⟩ a2).setCell ⟨g, 3, none⟩ a3).setCell ⟨g, 4, none⟩ a4).setCell ⟨g, 5, none⟩ a5).heap[g]? = some (.cells #[a0, a1, a2, a3, a4, a5] 45 (0, 0)) ∧
    Below w.heap.size w ((((((W.setCell ⟨g, 0, none⟩ a0).setCell ⟨g, 1, none⟩ a1).setCell ⟨g, 2, none⟩ a2).setCell ⟨g, 3, none⟩ a3).setCell ⟨g, 4, none⟩ a4).setCell ⟨g, 5, none⟩ a5) := by
  have s5 := blk_set (blk_set (blk_set (blk_set (blk_set (blk_set ht 0 a0) 1 a1) 2 a2) 3 a3) 4 a4) 5 a5
  exact ⟨by simpa using s5, below_set (below_set (below_set (below_set (below_set (below_set hb hg) hg) hg) hg) hg) hg⟩
def RxSt (w W : World) (hk : Bool) (key : ByteArray) (hv : Bool) (val : ByteArray) (t o : Int) : Prop := Below w.heap.size w W ∧ W.heap[w.heap.size]? = some (.cells #[.bool false, .string ⟨#[]⟩, .bool false, .string ⟨#[]⟩, .int .i64 0, .int .i64 0] 45 (0, 0)) ∧ W.heap[w.heap.size + 1]? = some (.cells #[.bool false, .string ⟨#[]⟩, .bool false, .string ⟨#[]⟩, .int .i64 0, .int .i64 0] 45 (0, 0)) ∧ W.heap[w.heap.size + 2]? = some (.cells #[.bool hk, .string key, .bool hv, .string val, .int .i64 t, .int .i64 o] 45 (0, 0))
theorem RxSt.drewN {w W : World} {hk : Bool} {key : ByteArray} {hv : Bool} {val : ByteArray} {t o : Int} (h : RxSt w W hk key hv val t o) (m : Nat) : RxSt w (W.drewN m) hk key hv val t o := ⟨pw_below_drewN h.1 m, h.2⟩
theorem RxSt.set1 {w W : World} {hk : Bool} {key : ByteArray} {hv : Bool} {val : ByteArray} {t o : Int} (h : RxSt w W hk key hv val t o) (x : ByteArray) : RxSt w (W.setCell ⟨w.heap.size + 2, 1, none⟩ (.string x)) hk x hv val t o :=
  ⟨below_set h.1 (by omega), blk_far h.2.1 (by simp) _, blk_far h.2.2.1 (by simp) _, by simpa using blk_set h.2.2.2 1 (.string x)⟩
theorem RxSt.set3 {w W : World} {hk : Bool} {key : ByteArray} {hv : Bool} {val : ByteArray} {t o : Int} (h : RxSt w W hk key hv val t o) (x : ByteArray) : RxSt w (W.setCell ⟨w.heap.size + 2, 3, none⟩ (.string x)) hk key hv x t o :=
  ⟨below_set h.1 (by omega), blk_far h.2.1 (by simp) _, blk_far h.2.2.1 (by simp) _, by simpa using blk_set h.2.2.2 3 (.string x)⟩
theorem RxSt.new {w W : World} (h : Below w.heap.size w W ∧ W.heap[w.heap.size]? = some (.cells #[.bool false, .string ⟨#[]⟩, .bool false, .string ⟨#[]⟩, .int .i64 0, .int .i64 0] 45 (0, 0)) ∧ W.heap[w.heap.size + 1]? = some (.cells #[.bool false, .string ⟨#[]⟩, .bool false, .string ⟨#[]⟩, .int .i64 0, .int .i64 0] 45 (0, 0)) ∧ W.heap[w.heap.size + 2]? = some (.cells #[.bool false, .string ⟨#[]⟩, .bool false, .string ⟨#[]⟩, .int .i64 0, .int .i64 0] 45 (0, 0))) (hk hv : Bool) (t o : Int) :
    RxSt w ((((((W.setCell ⟨w.heap.size + 2, 0, none⟩ (.bool hk)).setCell ⟨w.heap.size + 2, 1, none⟩ (.string ⟨#[]⟩)).setCell ⟨w.heap.size + 2, 2, none⟩ (.bool hv)).setCell ⟨w.heap.size + 2, 3, none⟩ (.string ⟨#[]⟩)).setCell ⟨w.heap.size + 2, 4, none⟩ (.int .i64 t)).setCell ⟨w.heap.size + 2, 5, none⟩ (.int .i64 o)) hk ⟨#[]⟩ hv ⟨#[]⟩ t o := by
  have z := rd_set h.1 (g := w.heap.size + 2) (by omega) h.2.2.2 (.bool hk) (.string ⟨#[]⟩) (.bool hv) (.string ⟨#[]⟩) (.int .i64 t) (.int .i64 o)
  have far : ∀ {W : World} (j : Nat) (y : Value) (q : Nat), q < w.heap.size + 2 → W.heap[q]? = some (.cells #[.bool false, .string ⟨#[]⟩, .bool false, .string ⟨#[]⟩, .int .i64 0, .int .i64 0] 45 (0, 0)) → (W.setCell ⟨w.heap.size + 2, j, none⟩ y).heap[q]? = some (.cells #[.bool false, .string ⟨#[]⟩, .bool false, .string ⟨#[]⟩, .int .i64 0, .int .i64 0] 45 (0, 0)) := fun j y q hq hv => blk_far hv (by simp; omega) y
  exact ⟨z.2, far 5 _ _ (by omega) (far 4 _ _ (by omega) (far 3 _ _ (by omega) (far 2 _ _ (by omega) (far 1 _ _ (by omega) (far 0 _ _ (by omega) h.2.1))))), far 5 _ _ (by omega) (far 4 _ _ (by omega) (far 3 _ _ (by omega) (far 2 _ _ (by omega) (far 1 _ _ (by omega) (far 0 _ _ (by omega) h.2.2.1))))), z.1⟩
set_option maxHeartbeats 4000000 in
set_option maxRecDepth 100000 in
theorem bollardref12_Decode.calls (k : Nat) (A0 : Option Addr) (c0 : Nat) (l0 : List Int) (first : Int) (r1 : Bool) (r2 : ByteArray) (r3 : Bool) (r4 : ByteArray) (r5 r6 r7 r8 : Int) (w : World) (hr0 : Kd.C (Kd.int .u8) w A0 l0.length l0) (hc0 : l0.length ≤ c0) (h : bollardref12_Decode.f k l0 first = some (r1, r2, r3, r4, r5, r6, r7, r8)) :
    Calls Try.prog 40 #[.slice A0 l0.length c0, .int .i64 first] w fun e w' => e = .returned (.tuple #[.agg #[.bool r1, .string r2, .bool r3, .string r4, .int .i64 r5, .int .i64 r6], .int .i64 r7, .int .i64 r8]) ∧ Below w.heap.size w w' := by
  unfold bollardref12_Decode.f at h
  have HR0 := Aside0.mk hr0
  have HC0 := Aside0.mk hc0
  have HLM := Aside0.mk hr0.2.1
  have HH := Aside0.mk h
  obtain ⟨b1, hb1⟩ : ∃ b, b = bollardref12_Decode.no1 l0 first := ⟨_, rfl⟩
  have HB1 := Aside0.mk hb1
  clear hr0 hc0 h hb1
  go_enter Try.func40, Try.ntmps40
  go_upto_region 2 with (fail)
  (try simp only [Act.put, List.setIfInBounds_toArray, List.set_cons_zero, List.set_cons_succ])
  have S0 := Aside0.mk (RdSt.new w)
  generalize (w.alloc (.cells #[.bool false, .string ⟨#[]⟩, .bool false, .string ⟨#[]⟩, .int .i64 0, .int .i64 0] 45)).alloc (.cells #[.bool false, .string ⟨#[]⟩, .bool false, .string ⟨#[]⟩, .int .i64 0, .int .i64 0] 45) = W0 at S0 ⊢
  go_upto_region 2 with (fail)
  (try simp only [Act.put, List.setIfInBounds_toArray, List.set_cons_zero, List.set_cons_succ])
  go_cut [31] (fun v31 wc => v31 = .bool b1 ∧ Aside0 (RdSt w wc))
  case first =>
    by_cases h0 : l0.length = 0
    case pos =>
      have g0 : ((l0.length : Int) == 0) = true := by rw [h0]; rfl
      have H0 := Aside0.mk h0
      clear h0
      go_wp2
      all_goals
        go_meet
        case rel => exact ⟨congrArg Value.bool (by rw [HB1.out]; have h0 := H0.out; unfold bollardref12_Decode.no1; first | (simp [*]; done) | (simp [*, Bool.or_assoc]; done)), S0⟩
    obtain ⟨ad, ea, hx⟩ := Kd.at_int HR0.out 0 (by decide) (by omega)
    cases ea
    have qi : (0 < l0.length) = True := eq_true (by omega)
    have qj : ((l0.length : Int) == 0) = false := by simpa using h0
    rw [show ((0 : Int)).toNat = 0 from rfl, Addr.add_zero'] at hx
    have hx' := pw_cell_below S0.out.1 hx
    all_goals
      go_wp2
      all_goals
        go_meet
        case rel => exact ⟨congrArg Value.bool (by rw [HB1.out]; unfold bollardref12_Decode.no1; first | (simp [*]; done) | (simp [*, Bool.or_assoc]; done)), S0⟩
  clear S0
  obtain ⟨rfl, S0⟩ := hcut
  cases b1 with
  | true =>
    have H := HH.out
    rw [if_pos HB1.out.symm] at H
    unfold bollardref12_Decode.bad at H
    simp only [Option.some.injEq, Prod.mk.injEq] at H
    obtain ⟨rfl, rfl, rfl, rfl, rfl, rfl, rfl, rfl⟩ := H
    obtain ⟨n0_, n1_, n2_, n3_, n4_, n5_⟩ := rd_cells (S0.out.2.2.2)
    obtain ⟨o0_, o1_, o2_, o3_, o4_, o5_⟩ := rd_cells (S0.out.2.2.1)
    obtain ⟨z0_, z1_, z2_, z3_, z4_, z5_⟩ := rd_free (S0.out.2.2.1)
    go_wp2_with fail
    have Z_ := rd_set (S0.out.1) (Nat.le_refl _) (S0.out.2.2.1) (.bool false) (.string ⟨#[]⟩) (.bool false) (.string ⟨#[]⟩) (.int .i64 0) (.int .i64 0)
    refine bodyPost_ret (results_ctt rfl _ _ w.heap.size 45 #[.bool false, .string ⟨#[]⟩, .bool false, .string ⟨#[]⟩, .int .i64 0, .int .i64 0] (0, 0) _ rfl Z_.1 Try.underlying45 rfl (by kernel_rfl)) rfl ?_
    exact ⟨rfl, Z_.2⟩
  | false =>
    have H := HH.out
    rw [if_neg (by rw [← HB1.out]; simp)] at H
    have hn := HB1.out.symm
    unfold bollardref12_Decode.no1 at hn
    simp only [Bool.or_eq_false_iff, decide_eq_false_iff_not] at hn
    obtain ⟨q1, q2, q3, q4⟩ := hn
    have lp : 1 ≤ (l0.length : Int) := by omega
    have f0 : 0 ≤ first := by omega
    have f1 : first ≤ 1125899906842624 := by omega
    obtain ⟨⟨u, n⟩, HU_, H⟩ := Option.bind_eq_some_iff.mp H
    dsimp only at H
    have HH := Aside0.mk H
    obtain ⟨hu, u0, u1, n0, n1⟩ := bollardref12_Decode.num_tells HU_
    dsimp only at u0 u1 n0 n1
    obtain ⟨jX, hjX, _, hjZ, _⟩ := info_parts info5
    obtain ⟨A1, hcut1, hA1, hC1⟩ := print_drop_of (P := Try.prog) (Value.int .u8) 0 27 5 .i64 Try.underlying27 hjX hjZ A0 c0 l0 ((1 : Int)) (by omega) (by omega) HC0.out
    obtain ⟨l1, hl1⟩ : ∃ x, x = l0.drop ((1 : Int)).toNat := ⟨_, rfl⟩
    rw [← hl1] at hcut1 hA1 hC1
    have RA1 := Aside0.mk (Kd.C_of_reads (h1 := fun _ => rfl) (hA1 _ (Kd.reads_of_C HR0.out)))
    have RB1 := Aside0.mk hC1
    rw [← hl1] at hu
    have HU := Aside0.mk hu
    obtain ⟨b2, hb2⟩ : ∃ b, b = bollardref12_Decode.no2 u n := ⟨_, rfl⟩
    have HB2 := Aside0.mk hb2
    clear HB1 q1 q2 q3 q4 H HU_ hu hjX hjZ hA1 hC1 hl1 hb2
    go_wp2_with fail
    refine (bollardref1_Unvarint.calls k A1 (c0 - 1) l1 u n _ (Kd.C_below RA1.out S0.out.1) RB1.out HU.out).mono ?_
    rintro e w' ⟨rfl, ⟨m1, rfl⟩⟩
    have S1 := Aside0.mk (S0.out.drewN m1)
    generalize World.drewN _ m1 = W1 at S1 ⊢
    clear S0
    go_upto_region 5 with (fail)
    (try simp only [Act.put, List.setIfInBounds_toArray, List.set_cons_zero, List.set_cons_succ])
    go_cut [44] (fun v44 wc => v44 = .bool b2 ∧ Aside0 (RdSt w wc))
    case first =>
      by_cases h0 : n = 0
      case pos =>
        have g0 : (n == 0) = true := beq_iff_eq.mpr h0
        have H0 := Aside0.mk h0
        clear h0
        go_wp2
        all_goals
          go_meet
          case rel => exact ⟨congrArg Value.bool (by rw [HB2.out]; unfold bollardref12_Decode.no2; simp [H0.out]), S1⟩
      have g0 : (n == 0) = false := beq_eq_false_iff_ne.mpr h0
      have H0 := Aside0.mk h0
      clear h0
      all_goals
        go_wp2
        all_goals
          go_meet
          case rel => exact ⟨congrArg Value.bool (by rw [HB2.out]; unfold bollardref12_Decode.no2; have h0 := H0.out; first | (simp [*]; done) | (simp [*, Bool.or_assoc]; done)), S1⟩
    clear S1
    obtain ⟨rfl, S1⟩ := hcut
    cases b2 with
    | true =>
      have H := HH.out
      rw [if_pos HB2.out.symm] at H
      unfold bollardref12_Decode.bad at H
      simp only [Option.some.injEq, Prod.mk.injEq] at H
      obtain ⟨rfl, rfl, rfl, rfl, rfl, rfl, rfl, rfl⟩ := H
      obtain ⟨n0_, n1_, n2_, n3_, n4_, n5_⟩ := rd_cells (S1.out.2.2.2)
      obtain ⟨o0_, o1_, o2_, o3_, o4_, o5_⟩ := rd_cells (S1.out.2.2.1)
      obtain ⟨z0_, z1_, z2_, z3_, z4_, z5_⟩ := rd_free (S1.out.2.2.1)
      go_wp2_with fail
      have Z_ := rd_set (S1.out.1) (Nat.le_refl _) (S1.out.2.2.1) (.bool false) (.string ⟨#[]⟩) (.bool false) (.string ⟨#[]⟩) (.int .i64 0) (.int .i64 0)
      refine bodyPost_ret (results_ctt rfl _ _ w.heap.size 45 #[.bool false, .string ⟨#[]⟩, .bool false, .string ⟨#[]⟩, .int .i64 0, .int .i64 0] (0, 0) _ rfl Z_.1 Try.underlying45 rfl (by kernel_rfl)) rfl ?_
      exact ⟨rfl, Z_.2⟩
    | false =>
      have H := HH.out
      rw [if_neg (by rw [← HB2.out]; simp)] at H
      have hn := HB2.out.symm
      unfold bollardref12_Decode.no2 at hn
      simp only [Bool.or_eq_false_iff, decide_eq_false_iff_not] at hn
      have u2 : u < 100 := by omega
      clear hn HH
      obtain ⟨⟨v, m⟩, HV_, H⟩ := Option.bind_eq_some_iff.mp H
      obtain ⟨d, HZ_, H⟩ := Option.bind_eq_some_iff.mp H
      dsimp only at H HZ_
      have HH := Aside0.mk H
      obtain ⟨hv_, v0, v1, p0, p1⟩ := bollardref12_Decode.num_tells HV_
      dsimp only at v0 v1 p0 p1
      obtain ⟨jX, hjX, _, hjZ, _⟩ := info_parts info5
      obtain ⟨A2, hcut2, hA2, hC2⟩ := print_drop_of (P := Try.prog) (Value.int .u8) 0 27 5 .i64 Try.underlying27 hjX hjZ A0 c0 l0 (1 + n) (by omega) (by omega) HC0.out
      obtain ⟨l2, hl2⟩ : ∃ x, x = l0.drop (1 + n).toNat := ⟨_, rfl⟩
      rw [← hl2] at hcut2 hA2 hC2
      have RA2 := Aside0.mk (Kd.C_of_reads (h1 := fun _ => rfl) (hA2 _ (Kd.reads_of_C HR0.out)))
      have RB2 := Aside0.mk hC2
      rw [← hl2] at hv_
      have HV := Aside0.mk hv_
      have HZ := Aside0.mk HZ_
      obtain ⟨b3, hb3⟩ : ∃ b, b = bollardref12_Decode.no3 m d first := ⟨_, rfl⟩
      have HB3 := Aside0.mk hb3
      have lm := HLM.out
      clear HB2 H HV_ HZ_ hv_ hjX hjZ hA2 hC2 hl2 hb3 RA1 RB1 hcut1
      go_wp2_with fail
      refine (bollardref1_Unvarint.calls k A2 (c0 - (1 + n).toNat) l2 v m _ (Kd.C_below RA2.out S1.out.1) RB2.out HV.out).mono ?_
      rintro e w' ⟨rfl, ⟨m2, rfl⟩⟩
      have S2 := Aside0.mk (S1.out.drewN m2)
      generalize World.drewN _ m2 = W2 at S2 ⊢
      clear S1
      go_wp2_with fail
      refine (bollardref1_Zag.calls v d _ HZ.out).mono ?_
      rintro e w' ⟨rfl, ⟨m3, rfl⟩⟩
      have S3 := Aside0.mk (S2.out.drewN m3)
      generalize World.drewN _ m3 = W3 at S3 ⊢
      clear S2 RA2 RB2 hcut2
      go_upto_region 10 with (fail)
      (try simp only [Act.put, List.setIfInBounds_toArray, List.set_cons_zero, List.set_cons_succ])
      go_cut [70] (fun v70 wc => v70 = .bool b3 ∧ Aside0 (RdSt w wc))
      case first =>
        by_cases h0 : m = 0
        case pos =>
          have g0 : (m == 0) = true := beq_iff_eq.mpr h0
          have H0 := Aside0.mk h0
          clear h0
          go_wp2
          all_goals
            go_meet
            case rel => exact ⟨congrArg Value.bool (by rw [HB3.out]; unfold bollardref12_Decode.no3; simp [H0.out]), S3⟩
        have g0 : (m == 0) = false := beq_eq_false_iff_ne.mpr h0
        have H0 := Aside0.mk h0
        clear h0
        all_goals
          go_wp2
          all_goals
            go_meet
            case rel => exact ⟨congrArg Value.bool (by rw [HB3.out]; unfold bollardref12_Decode.no3; have h0 := H0.out; first | (simp [*]; done) | (simp [*, Bool.or_assoc]; done)), S3⟩
      clear S3
      obtain ⟨rfl, S3⟩ := hcut
      cases b3 with
      | true =>
        have H := HH.out
        rw [if_pos HB3.out.symm] at H
        unfold bollardref12_Decode.bad at H
        simp only [Option.some.injEq, Prod.mk.injEq] at H
        obtain ⟨rfl, rfl, rfl, rfl, rfl, rfl, rfl, rfl⟩ := H
        obtain ⟨n0_, n1_, n2_, n3_, n4_, n5_⟩ := rd_cells (S3.out.2.2.2)
        obtain ⟨o0_, o1_, o2_, o3_, o4_, o5_⟩ := rd_cells (S3.out.2.2.1)
        obtain ⟨z0_, z1_, z2_, z3_, z4_, z5_⟩ := rd_free (S3.out.2.2.1)
        go_wp2_with fail
        have Z_ := rd_set (S3.out.1) (Nat.le_refl _) (S3.out.2.2.1) (.bool false) (.string ⟨#[]⟩) (.bool false) (.string ⟨#[]⟩) (.int .i64 0) (.int .i64 0)
        refine bodyPost_ret (results_ctt rfl _ _ w.heap.size 45 #[.bool false, .string ⟨#[]⟩, .bool false, .string ⟨#[]⟩, .int .i64 0, .int .i64 0] (0, 0) _ rfl Z_.1 Try.underlying45 rfl (by kernel_rfl)) rfl ?_
        exact ⟨rfl, Z_.2⟩
      | false =>
        have H := HH.out
        rw [if_neg (by rw [← HB3.out]; simp)] at H
        have hn := HB3.out.symm
        unfold bollardref12_Decode.no3 at hn
        simp only [Bool.or_eq_false_iff, decide_eq_false_iff_not] at hn
        have d0 : 0 ≤ first + d := by omega
        have d1 : first + d ≤ 1125899906842624 := by omega
        obtain ⟨⟨s, i⟩, HX_, H⟩ := Option.bind_eq_some_iff.mp H
        obtain ⟨⟨s2, i2⟩, HY_, H⟩ := Option.bind_eq_some_iff.mp H
        dsimp only at H HY_
        obtain ⟨hk, hhk⟩ : ∃ b : Bool, b = (Go.bits .and .u8 (rd l0 0) 1 == 1) := ⟨_, rfl⟩
        obtain ⟨hv, hhv⟩ : ∃ b : Bool, b = (Go.bits .and .u8 (rd l0 0) 2 == 2) := ⟨_, rfl⟩
        rw [← hhk] at HX_ H
        rw [← hhv] at HY_ H
        have HX := Aside0.mk HX_
        have HY := Aside0.mk HY_
        have HH := Aside0.mk H
        have e1 : wrap64 u = u := by unfold wrap64; omega
        have e2 : IntKind.i64.wrap (first + d) = first + d := (i64_w _).trans (by unfold wrap64; omega)
        obtain ⟨ad, ea, hx⟩ := Kd.at_int HR0.out 0 (by decide) (by omega)
        cases ea
        have qi : (0 < l0.length) = True := eq_true (by omega)
        rw [show ((0 : Int)).toNat = 0 from rfl, Addr.add_zero'] at hx
        have HXC := Aside0.mk hx
        clear hn HB3 HX_ HY_ H hx
        go_wp2_with fail
        refine start_ (n := 18) (S := fun w' => w'.cell? ad = some (.int .u8 (rd l0 0))) (ds := []) #[false, false, false, false, false, false, false, false, false, false, false, false, false, false, false, false, false, false] (by kernel_rfl) rfl rfl (pw_cell_below (Aside0.mk S3.out.drew).out.1 HXC.out) (fun hHeld => ?_)
        have S4 := Aside0.mk S3.out.drew
        generalize World.drew _ = y4 at S4 hHeld ⊢
        clear S3
        refine pure_ (i := 0) (N := (some 75)) (v := ?_) (a' := ?_) #[true, false, false, false, false, false, false, false, false, false, false, false, false, false, false, false, false, false] rfl rfl (by kernel_rfl) (fun _ _ _ h => h) (Or.inl ⟨by rfl, ?_⟩) ?_ ?_
        rotate_left
        · intro w'
          go_simp
          with_reducible rfl
        rotate_left
        · simp only [Act.put, List.setIfInBounds_toArray, List.set_cons_zero, List.set_cons_succ, i64_w, i32_w]
          rfl
        refine pure_ (i := 1) (N := (some 76)) (v := ?_) (a' := ?_) #[true, true, false, false, false, false, false, false, false, false, false, false, false, false, false, false, false, false] rfl rfl (by kernel_rfl) (fun _ _ _ h => h) (Or.inl ⟨by rfl, ?_⟩) ?_ ?_
        rotate_left
        · intro w'
          go_simp
          with_reducible rfl
        rotate_left
        · simp only [Act.put, List.setIfInBounds_toArray, List.set_cons_zero, List.set_cons_succ, i64_w, i32_w]
          rfl
        refine pure_ (i := 2) (N := (some 77)) (v := ?_) (a' := ?_) #[true, true, true, false, false, false, false, false, false, false, false, false, false, false, false, false, false, false] rfl rfl (by kernel_rfl) (fun _ _ _ h => h) (Or.inl ⟨by rfl, ?_⟩) ?_ ?_
        rotate_left
        · intro w'
          go_simp
          with_reducible rfl
        rotate_left
        · simp only [Act.put, List.setIfInBounds_toArray, List.set_cons_zero, List.set_cons_succ, i64_w, i32_w]
          rfl
        refine pure_ (i := 3) (N := (some 78)) (v := ?_) (a' := ?_) #[true, true, true, true, false, false, false, false, false, false, false, false, false, false, false, false, false, false] rfl rfl (by kernel_rfl) (fun _ _ _ h => h) (Or.inl ⟨by rfl, ?_⟩) ?_ ?_
        rotate_left
        · intro w'
          go_simp
          with_reducible rfl
        rotate_left
        · simp only [Act.put, List.setIfInBounds_toArray, List.set_cons_zero, List.set_cons_succ, i64_w, i32_w]
          rfl
        refine pure_ (i := 4) (N := (some 79)) (v := ?_) (a' := ?_) #[true, true, true, true, true, false, false, false, false, false, false, false, false, false, false, false, false, false] rfl rfl (by kernel_rfl) (fun _ _ _ h => h) (Or.inl ⟨by rfl, ?_⟩) ?_ ?_
        rotate_left
        · intro w'
          go_simp
          with_reducible rfl
        rotate_left
        · simp only [Act.put, List.setIfInBounds_toArray, List.set_cons_zero, List.set_cons_succ, i64_w, i32_w]
          rfl
        refine pure_ (i := 5) (N := (some 80)) (v := ?_) (a' := ?_) #[true, true, true, true, true, true, false, false, false, false, false, false, false, false, false, false, false, false] rfl rfl (by kernel_rfl) (fun _ _ _ h => h) (Or.inl ⟨by rfl, ?_⟩) ?_ ?_
        rotate_left
        · intro w'
          go_simp
          with_reducible rfl
        rotate_left
        · simp only [Act.put, List.setIfInBounds_toArray, List.set_cons_zero, List.set_cons_succ, i64_w, i32_w]
          rfl
        refine pure_ (i := 6) (N := (some 81)) (v := ?_) (a' := ?_) #[true, true, true, true, true, true, true, false, false, false, false, false, false, false, false, false, false, false] rfl rfl (by kernel_rfl) (fun _ _ _ h => h) (Or.inl ⟨by rfl, ?_⟩) ?_ ?_
        rotate_left
        · intro w'
          go_simp
          with_reducible rfl
        rotate_left
        · simp only [Act.put, List.setIfInBounds_toArray, List.set_cons_zero, List.set_cons_succ, i64_w, i32_w]
          rfl
        refine pure_ (i := 10) (N := (some 85)) (v := ?_) (a' := ?_) #[true, true, true, true, true, true, true, false, false, false, true, false, false, false, false, false, false, false] rfl rfl (by kernel_rfl) (fun _ _ _ h => h) (Or.inl ⟨by rfl, ?_⟩) ?_ ?_
        rotate_left
        · intro w'
          go_simp
          with_reducible rfl
        rotate_left
        · simp only [Act.put, List.setIfInBounds_toArray, List.set_cons_zero, List.set_cons_succ, i64_w, i32_w]
          rfl
        refine pure_ (i := 11) (N := (some 86)) (v := ?_) (a' := ?_) #[true, true, true, true, true, true, true, false, false, false, true, true, false, false, false, false, false, false] rfl rfl (by kernel_rfl) (fun _ _ _ h => h) (Or.inl ⟨by rfl, ?_⟩) ?_ ?_
        rotate_left
        · intro w'
          go_simp
          with_reducible rfl
        rotate_left
        · simp only [Act.put, List.setIfInBounds_toArray, List.set_cons_zero, List.set_cons_succ, i64_w, i32_w]
          rfl
        refine take_ (i := 7) (N := (some 82)) (v := ?_) (a' := ?_) #[true, true, true, true, true, true, true, true, false, false, true, true, false, false, false, false, false, false] rfl rfl (by kernel_rfl) (fun _ _ _ h => h) (Or.inl ⟨by rfl, ?_⟩) hHeld ?_ ?_
        rotate_left
        · rintro w' s0
          go_simp
          with_reducible rfl
        rotate_left
        · simp only [Act.put, List.setIfInBounds_toArray, List.set_cons_zero, List.set_cons_succ, i64_w, i32_w]
          rfl
        refine take_ (i := 12) (N := (some 87)) (v := ?_) (a' := ?_) #[true, true, true, true, true, true, true, true, false, false, true, true, true, false, false, false, false, false] rfl rfl (by kernel_rfl) (fun _ _ _ h => h) (Or.inl ⟨by rfl, ?_⟩) hHeld ?_ ?_
        rotate_left
        · rintro w' s0
          go_simp
          with_reducible rfl
        rotate_left
        · simp only [Act.put, List.setIfInBounds_toArray, List.set_cons_zero, List.set_cons_succ, i64_w, i32_w]
          rfl
        refine pure_ (i := 8) (N := (some 83)) (v := ?_) (a' := ?_) #[true, true, true, true, true, true, true, true, true, false, true, true, true, false, false, false, false, false] rfl rfl (by kernel_rfl) (fun _ _ _ h => h) (Or.inl ⟨by rfl, ?_⟩) ?_ ?_
        rotate_left
        · intro w'
          go_simp
          with_reducible rfl
        rotate_left
        · simp only [Act.put, List.setIfInBounds_toArray, List.set_cons_zero, List.set_cons_succ, i64_w, i32_w]
          rfl
        refine pure_ (i := 9) (N := (some 84)) (v := ?_) (a' := ?_) #[true, true, true, true, true, true, true, true, true, true, true, true, true, false, false, false, false, false] rfl rfl (by kernel_rfl) (fun _ _ _ h => h) (Or.inl ⟨by rfl, ?_⟩) ?_ ?_
        rotate_left
        · intro w'
          go_simp
          with_reducible rfl
        rotate_left
        · simp only [Act.put, List.setIfInBounds_toArray, List.set_cons_zero, List.set_cons_succ, i64_w, i32_w]
          rfl
        refine pure_ (i := 13) (N := (some 88)) (v := ?_) (a' := ?_) #[true, true, true, true, true, true, true, true, true, true, true, true, true, true, false, false, false, false] rfl rfl (by kernel_rfl) (fun _ _ _ h => h) (Or.inl ⟨by rfl, ?_⟩) ?_ ?_
        rotate_left
        · intro w'
          go_simp
          with_reducible rfl
        rotate_left
        · simp only [Act.put, List.setIfInBounds_toArray, List.set_cons_zero, List.set_cons_succ, i64_w, i32_w]
          rfl
        refine pure_ (i := 14) (N := (some 89)) (v := ?_) (a' := ?_) #[true, true, true, true, true, true, true, true, true, true, true, true, true, true, true, false, false, false] rfl rfl (by kernel_rfl) (fun _ _ _ h => h) (Or.inl ⟨by rfl, ?_⟩) ?_ ?_
        rotate_left
        · intro w'
          go_simp
          with_reducible rfl
        rotate_left
        · simp only [Act.put, List.setIfInBounds_toArray, List.set_cons_zero, List.set_cons_succ, i64_w, i32_w]
          rfl
        refine pure_ (i := 15) (N := (some 90)) (v := ?_) (a' := ?_) #[true, true, true, true, true, true, true, true, true, true, true, true, true, true, true, true, false, false] rfl rfl (by kernel_rfl) (fun _ _ _ h => h) (Or.inl ⟨by rfl, ?_⟩) ?_ ?_
        rotate_left
        · intro w'
          go_simp
          with_reducible rfl
        rotate_left
        · simp only [Act.put, List.setIfInBounds_toArray, List.set_cons_zero, List.set_cons_succ, i64_w, i32_w]
          rfl
        refine one_ (i := 16) (N := (some 13)) #[true, true, true, true, true, true, true, true, true, true, true, true, true, true, true, true, true, false] rfl rfl (by kernel_rfl) (by decide) (fun K hK => ?_)
        refine box_step ?hg (N := 13) ?hd (cs := #[.bool false, .string ⟨#[]⟩, .bool false, .string ⟨#[]⟩, .int .i64 0, .int .i64 0]) (t := 45) ?hr ?_; (case hd => rfl); (case hg => rfl); (case hr => first | (go_simp; done) | (go_simp; rfl))
        intro g hg y5 hbox hb
        have hg2 := hg.trans S4.out.2.1
        subst hg2
        have S5 := Aside0.mk (And.intro (below_step S4.out.1 hb) (And.intro (blk_below S4.out.2.2.1 hb) (And.intro (blk_below S4.out.2.2.2 hb) hbox)))
        clear hbox hb hg S4
        refine hK.out _ _ (pw_cell_below S5.out.1 HXC.out) (fun hHeld => ?_)
        clear hK K
        refine norm_ (a' := ?_) ?_ ?_
        rotate_left
        · show Act.put _ (some 13) _ = _
          simp only [Act.put, List.setIfInBounds_toArray, List.set_cons_zero, List.set_cons_succ, i64_w, i32_w]
          rfl
        refine one_ (i := 17) (N := none) #[true, true, true, true, true, true, true, true, true, true, true, true, true, true, true, true, true, true] rfl rfl (by kernel_rfl) (by decide) (fun K hK => ?_)
        obtain ⟨n0_, n1_, n2_, n3_, n4_, n5_⟩ := rd_cells S5.out.2.2.2
        obtain ⟨z0_, z1_, z2_, z3_, z4_, z5_⟩ := rd_free S5.out.2.2.2
        refine skip_ (w1 := ?_) (by rfl) rfl ?_ ?_
        rotate_left
        · go_simp
          rfl
        refine hK.out _ _ (pw_cell_below (rd_set S5.out.1 (by omega) S5.out.2.2.2 _ _ _ _ _ _).2 HXC.out) (fun hHeld => ?_)
        clear hK K
        refine done_ (by kernel_rfl) ?_
        clear hHeld
        have S6 := Aside0.mk (RxSt.new S5.out (Go.bits .and .u8 (rd l0 0) 1 == 1) (Go.bits .and .u8 (rd l0 0) 2 == 2) (first + d) u)
        generalize ((((((y5.setCell ⟨w.heap.size + 2, 0, none⟩ (.bool (Go.bits .and .u8 (rd l0 0) 1 == 1))).setCell ⟨w.heap.size + 2, 1, none⟩ (.string ⟨#[]⟩)).setCell ⟨w.heap.size + 2, 2, none⟩ (.bool (Go.bits .and .u8 (rd l0 0) 2 == 2))).setCell ⟨w.heap.size + 2, 3, none⟩ (.string ⟨#[]⟩)).setCell ⟨w.heap.size + 2, 4, none⟩ (.int .i64 (first + d))).setCell ⟨w.heap.size + 2, 5, none⟩ (.int .i64 u)) = y6 at S6 ⊢
        rw [← hhk, ← hhv] at S6
        clear S5 n0_ n1_ n2_ n3_ n4_ n5_ z0_ z1_ z2_ z3_ z4_ z5_ hhk hhv e1 e2
        obtain ⟨n0_, n1_, n2_, n3_, n4_, n5_⟩ := rd_cells S6.out.2.2.2
        go_upto_if 92 with (fail)
        (try simp only [Act.put, List.setIfInBounds_toArray, List.set_cons_zero, List.set_cons_succ])
        go_cut [10] (fun v10 wc => v10 = .int .i64 i ∧ Aside0 (RxSt w wc hk s hv ⟨#[]⟩ (first + d) u))
        case first =>
          cases hk with
          | false =>
            have hx_ := HX.out
            simp only [bollardref12_Decode.tx, Bool.false_eq_true, if_false, Option.some.injEq, Prod.mk.injEq] at hx_
            obtain ⟨rfl, rfl⟩ := hx_
            go_wp2
            go_meet
            case rel => exact ⟨rfl, S6⟩
          | true =>
            go_wp2_with fail
            refine (bollardref12_text.calls k (some ad) c0 l0 (1 + n + m) s i _ (Kd.C_below HR0.out S6.out.1) HC0.out HX.out).mono ?_
            rintro e w' ⟨rfl, ⟨m4, rfl⟩⟩
            have S7 := Aside0.mk (S6.out.drewN m4)
            clear n0_ n1_ n2_ n3_ n4_ n5_
            obtain ⟨n0_, n1_, n2_, n3_, n4_, n5_⟩ := rd_cells S7.out.2.2.2
            obtain ⟨z0_, z1_, z2_, z3_, z4_, z5_⟩ := rd_free S7.out.2.2.2
            go_wp2
            go_meet
            case rel => exact ⟨rfl, ⟨S7.out.set1 s⟩⟩
        clear S6 n0_ n1_ n2_ n3_ n4_ n5_
        obtain ⟨rfl, S6⟩ := hcut
        obtain ⟨n0_, n1_, n2_, n3_, n4_, n5_⟩ := rd_cells S6.out.2.2.2
        obtain ⟨b4, hb4⟩ : ∃ b, b = (decide (0 ≤ i) && hv) := ⟨_, rfl⟩
        have HB4 := Aside0.mk hb4
        clear hb4
        go_upto_region 16 with (fail)
        (try simp only [Act.put, List.setIfInBounds_toArray, List.set_cons_zero, List.set_cons_succ])
        go_cut [105] (fun v105 wc => v105 = .bool b4 ∧ Aside0 (RxSt w wc hk s hv ⟨#[]⟩ (first + d) u))
        case first =>
          by_cases c : 0 ≤ i
          · have g0 : decide (0 ≤ i) = true := decide_eq_true c
            go_wp2
            go_meet
            case rel => exact ⟨congrArg Value.bool (by rw [HB4.out, g0, Bool.true_and]), S6⟩
          · have g0 : decide (0 ≤ i) = false := decide_eq_false c
            go_wp2
            go_meet
            case rel => exact ⟨congrArg Value.bool (by rw [HB4.out, g0]; rfl), S6⟩
        clear S6 n0_ n1_ n2_ n3_ n4_ n5_
        obtain ⟨rfl, S6⟩ := hcut
        have HY2 := Aside0.mk (show bollardref12_Decode.tx k l0 b4 i = some (s2, i2) from by rw [HB4.out]; exact HY.out)
        clear HY HB4
        go_upto_if 105 with (fail)
        (try simp only [Act.put, List.setIfInBounds_toArray, List.set_cons_zero, List.set_cons_succ])
        go_cut [10] (fun v10 wc => v10 = .int .i64 i2 ∧ Aside0 (RxSt w wc hk s hv s2 (first + d) u))
        case first =>
          cases b4 with
          | false =>
            have hx_ := HY2.out
            simp only [bollardref12_Decode.tx, Bool.false_eq_true, if_false, Option.some.injEq, Prod.mk.injEq] at hx_
            obtain ⟨rfl, rfl⟩ := hx_
            go_wp2
            go_meet
            case rel => exact ⟨rfl, S6⟩
          | true =>
            go_wp2_with fail
            refine (bollardref12_text.calls k (some ad) c0 l0 i s2 i2 _ (Kd.C_below HR0.out S6.out.1) HC0.out HY2.out).mono ?_
            rintro e w' ⟨rfl, ⟨m4, rfl⟩⟩
            have S7 := Aside0.mk (S6.out.drewN m4)
            obtain ⟨n0_, n1_, n2_, n3_, n4_, n5_⟩ := rd_cells S7.out.2.2.2
            obtain ⟨z0_, z1_, z2_, z3_, z4_, z5_⟩ := rd_free S7.out.2.2.2
            go_wp2
            go_meet
            case rel => exact ⟨rfl, ⟨S7.out.set3 s2⟩⟩
        clear S6
        obtain ⟨rfl, S6⟩ := hcut
        have H := HH.out
        by_cases c : i2 < 0
        · rw [if_pos c] at H
          have g0 : decide (i2 < 0) = true := decide_eq_true c
          unfold bollardref12_Decode.bad at H
          simp only [Option.some.injEq, Prod.mk.injEq] at H
          obtain ⟨rfl, rfl, rfl, rfl, rfl, rfl, rfl, rfl⟩ := H
          obtain ⟨n0_, n1_, n2_, n3_, n4_, n5_⟩ := rd_cells (S6.out.2.2.1)
          obtain ⟨o0_, o1_, o2_, o3_, o4_, o5_⟩ := rd_cells (S6.out.2.1)
          obtain ⟨z0_, z1_, z2_, z3_, z4_, z5_⟩ := rd_free (S6.out.2.1)
          go_wp2_with fail
          have Z_ := rd_set (S6.out.1) (Nat.le_refl _) (S6.out.2.1) (.bool false) (.string ⟨#[]⟩) (.bool false) (.string ⟨#[]⟩) (.int .i64 0) (.int .i64 0)
          refine bodyPost_ret (results_ctt rfl _ _ w.heap.size 45 #[.bool false, .string ⟨#[]⟩, .bool false, .string ⟨#[]⟩, .int .i64 0, .int .i64 0] (0, 0) _ rfl Z_.1 Try.underlying45 rfl (by kernel_rfl)) rfl ?_
          exact ⟨rfl, Z_.2⟩
        · rw [if_neg c] at H
          have g0 : decide (i2 < 0) = false := decide_eq_false c
          simp only [Option.some.injEq, Prod.mk.injEq] at H
          obtain ⟨rfl, rfl, rfl, rfl, rfl, rfl, rfl, rfl⟩ := H
          obtain ⟨n0_, n1_, n2_, n3_, n4_, n5_⟩ := rd_cells S6.out.2.2.2
          obtain ⟨o0_, o1_, o2_, o3_, o4_, o5_⟩ := rd_cells S6.out.2.1
          obtain ⟨z0_, z1_, z2_, z3_, z4_, z5_⟩ := rd_free S6.out.2.1
          go_wp2_with fail
          have Z_ := rd_set S6.out.1 (Nat.le_refl _) S6.out.2.1 (.bool hk) (.string s) (.bool hv) (.string s2) (.int .i64 (first + d)) (.int .i64 u)
          refine bodyPost_ret (results_ctt rfl _ _ w.heap.size 45 #[.bool hk, .string s, .bool hv, .string s2, .int .i64 (first + d), .int .i64 u] (0, 0) _ rfl Z_.1 Try.underlying45 rfl (by kernel_rfl)) rfl ?_
          exact ⟨rfl, Z_.2⟩

end Go.Proofs.Ytgmeellapjimgaa.PBm

-- written by a program of this session (wip/tools/pr.py, over the kit's printer): not by hand
namespace Go.Proofs.Ytgmeellapjimgaa.PBm
open Go.RowKit Go.Proofs.YtgmeellapjimgaaW.PrintWords Go.Proofs.YtgmeellapjimgaaW.PrintLast Go.Proofs.YtgmeellapjimgaaW.PrintMore
attribute [local go_sem] max2_int min2_int max_two min_two max_three min_three max_four min_four   -- for this text's walks alone
set_option linter.unusedVariables false
set_option linter.unusedSimpArgs false

/-! ### bollardref12_DecodeBatch -/
def bollardref12_DecodeG.bad : Option (Int × Int × Int × Int × List S45 × Int × Int) := some (0, 0, 0, 0, [], 0, 10)
def bollardref12_DecodeG.fin (k : Nat) (l : List Int) (n i b s p q : Int) (x : List S45) : Option (Int × Int × Int × Int × List S45 × Int × Int) :=
  (bollardref12_EncodeBatch.f k b s p q x).bind fun t => if t.2 = 0 then (if i = n then (if (strOfNums t.1).toList = (strOfNums (l.take n.toNat)).toList then some (b, s, p, q, x, n, 0) else bollardref12_DecodeG.bad) else bollardref12_DecodeG.bad) else bollardref12_DecodeG.bad
def bollardref12_DecodeG.l0 : Nat → List Int → Int → Int → Int → Int → Int → Int → Int → Int → Int → List S45 → Option (Int × Int × Int × Int × List S45 × Int × Int)
  | 0, _, _, _, _, _, _, _, _, _, _, _ => none
  | k + 1, l, n, cn, t, b, s, p, q, i, j, x => if j < cn then (if 0 ≤ i ∧ i ≤ n then (bollardref12_Decode.f k ((l.take n.toNat).drop i.toNat) t).bind fun r => (if r.2.2.2.2.2.2.2 = 0 then (if x.length < 2199023255552 then bollardref12_DecodeG.l0 k l n cn t b s p q (wrap64 (i + r.2.2.2.2.2.2.1)) (wrap64 (j + 1)) (x ++ [(⟨r.1, r.2.1, r.2.2.1, r.2.2.2.1, r.2.2.2.2.1, r.2.2.2.2.2.1⟩ : S45)]) else none) else bollardref12_DecodeG.bad) else none) else bollardref12_DecodeG.fin k l n i b s p q x
/-- The numbers that the quick look refuses. -/
def bollardref12_DecodeG.early (l : List Int) (b n p q s c t : Int) : Prop := n < 36 ∨ (l.length : Int) - 12 < n ∨ 6000 < n ∨ 1125899906842624 < b ∨ 4611686018427387904 < p ∨ 4611686018427387904 < q ∨ 100 < s ∨ c < 1 ∨ 100 < c ∨ 1125899906842624 < t
instance (l : List Int) (b n p q s c t : Int) : Decidable (bollardref12_DecodeG.early l b n p q s c t) := by unfold bollardref12_DecodeG.early; infer_instance
def bollardref12_DecodeG.f (H_ : Nat → List Int → Int → Int → Int → Int → Option (Int × Int × Int × Int × List S45 × Int × Int)) (k : Nat) (l : List Int) : Option (Int × Int × Int × Int × List S45 × Int × Int) :=
  if (l.length : Int) < 48 then bollardref12_DecodeG.bad else (bollardref1_Get.f k l 0 8 true).bind fun b => (bollardref1_Get.f k l 8 4 true).bind fun n => (bollardref1_Get.f k l 16 8 true).bind fun p => (bollardref1_Get.f k l 24 8 true).bind fun q => (bollardref1_Get.f k l 32 4 true).bind fun s => (bollardref1_Get.f k l 36 4 true).bind fun c => (bollardref1_Get.f k l 40 8 true).bind fun t =>
    if 0 ≤ b.1 ∧ 0 ≤ n.1 ∧ 0 ≤ p.1 ∧ 0 ≤ q.1 ∧ 0 ≤ s.1 ∧ 0 ≤ c.1 ∧ 0 ≤ t.1 then (if bollardref12_DecodeG.early l b.1 n.1 p.1 q.1 s.1 c.1 t.1 then H_ k l b.1 n.1 p.1 q.1 else bollardref12_DecodeG.l0 k l (12 + n.1) c.1 t.1 b.1 s.1 p.1 q.1 48 0 []) else none
theorem bollardref12_DecodeG.fin_mono (k : Nat) (l : List Int) (n i b s p q : Int) (x : List S45) : LeO (bollardref12_DecodeG.fin k l n i b s p q x) (bollardref12_DecodeG.fin (k + 1) l n i b s p q x) := by
  unfold bollardref12_DecodeG.fin
  exact LeO.bind (bollardref12_EncodeBatch.mono _ _ _ _ _ _) (fun t => LeO.refl _)
theorem bollardref12_DecodeG.mono_l : ∀ k l n cn t b s p q i j x, LeO (bollardref12_DecodeG.l0 k l n cn t b s p q i j x) (bollardref12_DecodeG.l0 (k + 1) l n cn t b s p q i j x)
  | 0 => fun _ _ _ _ _ _ _ _ _ _ _ _ h => by cases h
  | k + 1 => fun l n cn t b s p q i j x => by
    rw [bollardref12_DecodeG.l0, bollardref12_DecodeG.l0]
    exact LeO.ite (LeO.ite (LeO.bind (bollardref12_Decode.mono _ _ _) (fun t => LeO.ite (LeO.ite (bollardref12_DecodeG.mono_l k _ _ _ _ _ _ _ _ _ _ _) (LeO.refl _)) (LeO.refl _))) (LeO.refl _)) (bollardref12_DecodeG.fin_mono _ _ _ _ _ _ _ _ _)
theorem bollardref12_DecodeG.mono (H_ : Nat → List Int → Int → Int → Int → Int → Option (Int × Int × Int × Int × List S45 × Int × Int)) (HM_ : ∀ a0 a1 a2 a3 a4 k, LeO (H_ k a0 a1 a2 a3 a4) (H_ (k + 1) a0 a1 a2 a3 a4)) : ∀ a0 k, LeO (bollardref12_DecodeG.f H_ k a0) (bollardref12_DecodeG.f H_ (k + 1) a0) := by
  intro l k
  unfold bollardref12_DecodeG.f
  repeat' first | (with_reducible exact LeO.refl _) | (with_reducible exact bollardref1_Get.mono _ _ _ _ _) | (with_reducible exact bollardref12_DecodeG.mono_l _ _ _ _ _ _ _ _ _ _ _ _) | (with_reducible exact HM_ _ _ _ _ _ _) | (with_reducible refine LeO.ite ?_ ?_) | (with_reducible refine LeO.bind ?_ (fun _ => ?_))
/-- Where DecodeBatch stands: the result's block, that of nothing, the batch's, its records. -/
structure DbSt (w W : World) (b s p q : Int) (u : Value) (x : List S45) : Prop where
  bel : Below w.heap.size w W
  rt : W.heap[w.heap.size]? = some (.cells #[.int .i64 0, .int .i64 0, .int .i64 0, .int .i64 0, .slice none 0 0] 24 (0, 0))
  nt : W.heap[w.heap.size + 1]? = some (.cells #[.int .i64 0, .int .i64 0, .int .i64 0, .int .i64 0, .slice none 0 0] 24 (0, 0))
  bt : W.heap[w.heap.size + 2]? = some (.cells #[.int .i64 b, .int .i64 s, .int .i64 p, .int .i64 q, u] 24 (0, 0))
  row : Kd.R k45 45 W w.heap.size (fun _ => True) u x
section
variable {w W W2 : World} {b s p q : Int} {u : Value} {x : List S45}
theorem DbSt.below (h : DbSt w W b s p q u x) (hb : Below W.heap.size W W2) : DbSt w W2 b s p q u x := ⟨below_step h.bel hb, blk_below h.rt hb, blk_below h.nt hb, blk_below h.bt hb, Kd.R_below h.row hb⟩
theorem DbSt.bcells (h : DbSt w W b s p q u x) : W.cell? ⟨w.heap.size + 2, 0, none⟩ = some (.int .i64 b) ∧ W.cell? ⟨w.heap.size + 2, 1, none⟩ = some (.int .i64 s) ∧ W.cell? ⟨w.heap.size + 2, 2, none⟩ = some (.int .i64 p) ∧ W.cell? ⟨w.heap.size + 2, 3, none⟩ = some (.int .i64 q) ∧ W.cell? ⟨w.heap.size + 2, 4, none⟩ = some u :=
  ⟨(blk_cell h.bt 0).trans rfl, (blk_cell h.bt 1).trans rfl, (blk_cell h.bt 2).trans rfl, (blk_cell h.bt 3).trans rfl, (blk_cell h.bt 4).trans rfl⟩
end
theorem db_cells {W : World} {g : Nat} {c0 c1 c2 c3 c4 : Value} (h : W.heap[g]? = some (.cells #[c0, c1, c2, c3, c4] 24 (0, 0))) : W.cell? ⟨g, 0, none⟩ = some c0 ∧ W.cell? ⟨g, 1, none⟩ = some c1 ∧ W.cell? ⟨g, 2, none⟩ = some c2 ∧ W.cell? ⟨g, 3, none⟩ = some c3 ∧ W.cell? ⟨g, 4, none⟩ = some c4 :=
  ⟨(blk_cell h 0).trans rfl, (blk_cell h 1).trans rfl, (blk_cell h 2).trans rfl, (blk_cell h 3).trans rfl, (blk_cell h 4).trans rfl⟩
theorem db_free {W : World} {g : Nat} {c0 c1 c2 c3 c4 : Value} (h : W.heap[g]? = some (.cells #[c0, c1, c2, c3, c4] 24 (0, 0))) : W.frozen? ⟨g, 0, none⟩ = false ∧ W.frozen? ⟨g, 1, none⟩ = false ∧ W.frozen? ⟨g, 2, none⟩ = false ∧ W.frozen? ⟨g, 3, none⟩ = false ∧ W.frozen? ⟨g, 4, none⟩ = false :=
  ⟨blk_frozen h 0, blk_frozen h 1, blk_frozen h 2, blk_frozen h 3, blk_frozen h 4⟩
/-- The result's block laid over. -/
theorem db_set {w W : World} {c0 c1 c2 c3 c4 : Value} (hb : Below w.heap.size w W) (ht : W.heap[w.heap.size]? = some (.cells #[c0, c1, c2, c3, c4] 24 (0, 0))) (a0 a1 a2 a3 a4 : Value) {v : Value} {x : List S45} (hr : Kd.R k45 45 W w.heap.size (fun _ => True) v x) :
    (((((W.setCell ⟨w.heap.size, 0, none⟩ a0).setCell ⟨w.heap.size, 1, none⟩ a1).setCell ⟨w.heap.size, 2, none⟩ a2).setCell ⟨w.heap.size, 3, none⟩ a3).setCell ⟨w.heap.size, 4, none⟩ a4).heap[w.heap.size]? = some (.cells #[a0, a1, a2, a3, a4] 24 (0, 0)) ∧
    Kd.R k45 45 (((((W.setCell ⟨w.heap.size, 0, none⟩ a0).setCell ⟨w.heap.size, 1, none⟩ a1).setCell ⟨w.heap.size, 2, none⟩ a2).setCell ⟨w.heap.size, 3, none⟩ a3).setCell ⟨w.heap.size, 4, none⟩ a4) w.heap.size (fun _ => True) v x ∧
    Below w.heap.size w (((((W.setCell ⟨w.heap.size, 0, none⟩ a0).setCell ⟨w.heap.size, 1, none⟩ a1).setCell ⟨w.heap.size, 2, none⟩ a2).setCell ⟨w.heap.size, 3, none⟩ a3).setCell ⟨w.heap.size, 4, none⟩ a4) := by
  have s0 := blk_set ht 0 a0
  have s1 := blk_set s0 1 a1
  have s2 := blk_set s1 2 a2
  have s3 := blk_set s2 3 a3
  have s4 := blk_set s3 4 a4
  exact ⟨by simpa using s4, Kd.R_set (Kd.R_set (Kd.R_set (Kd.R_set (Kd.R_set hr ht (by decide) 0 _) s0 (by decide) 1 _) s1 (by decide) 2 _) s2 (by decide) 3 _) s3 (by decide) 4 _, below_set (below_set (below_set (below_set (below_set hb (Nat.le_refl _)) (Nat.le_refl _)) (Nat.le_refl _)) (Nat.le_refl _)) (Nat.le_refl _)⟩
theorem db_new (w : World) : Below w.heap.size w ((w.alloc (.cells #[.int .i64 0, .int .i64 0, .int .i64 0, .int .i64 0, .slice none 0 0] 24)).alloc (.cells #[.int .i64 0, .int .i64 0, .int .i64 0, .int .i64 0, .slice none 0 0] 24)) ∧ ((w.alloc (.cells #[.int .i64 0, .int .i64 0, .int .i64 0, .int .i64 0, .slice none 0 0] 24)).alloc (.cells #[.int .i64 0, .int .i64 0, .int .i64 0, .int .i64 0, .slice none 0 0] 24)).heap.size = w.heap.size + 2 ∧ ((w.alloc (.cells #[.int .i64 0, .int .i64 0, .int .i64 0, .int .i64 0, .slice none 0 0] 24)).alloc (.cells #[.int .i64 0, .int .i64 0, .int .i64 0, .int .i64 0, .slice none 0 0] 24)).heap[w.heap.size]? = some (.cells #[.int .i64 0, .int .i64 0, .int .i64 0, .int .i64 0, .slice none 0 0] 24 (0, 0)) ∧ ((w.alloc (.cells #[.int .i64 0, .int .i64 0, .int .i64 0, .int .i64 0, .slice none 0 0] 24)).alloc (.cells #[.int .i64 0, .int .i64 0, .int .i64 0, .int .i64 0, .slice none 0 0] 24)).heap[w.heap.size + 1]? = some (.cells #[.int .i64 0, .int .i64 0, .int .i64 0, .int .i64 0, .slice none 0 0] 24 (0, 0)) := by
  refine ⟨below_alloc (below_alloc (Below.refl _ _) _) _, by simp, blk_alloc (heap_alloc_new w _) _, ?_⟩
  have := heap_alloc_new (w.alloc (.cells #[.int .i64 0, .int .i64 0, .int .i64 0, .int .i64 0, .slice none 0 0] 24)) (.cells #[.int .i64 0, .int .i64 0, .int .i64 0, .int .i64 0, .slice none 0 0] 24)
  simpa using this
theorem db_start {w W : World} (h : Below w.heap.size w W ∧ W.heap.size = w.heap.size + 2 ∧ W.heap[w.heap.size]? = some (.cells #[.int .i64 0, .int .i64 0, .int .i64 0, .int .i64 0, .slice none 0 0] 24 (0, 0)) ∧ W.heap[w.heap.size + 1]? = some (.cells #[.int .i64 0, .int .i64 0, .int .i64 0, .int .i64 0, .slice none 0 0] 24 (0, 0))) (b s p q : Int) : DbSt w (W.alloc (.cells #[.int .i64 b, .int .i64 s, .int .i64 p, .int .i64 q, .slice none 0 0] 24)) b s p q (.slice none 0 0) [] := by
  refine ⟨below_alloc h.1 _, blk_alloc h.2.2.1 _, blk_alloc h.2.2.2 _, ?_, Kd.R_nil _ _ _ _ _⟩
  rw [← h.2.1]
  exact heap_alloc_new W _
theorem DbSt.setU {w W : World} {b s p q : Int} {u : Value} (hbel : Below w.heap.size w W) (hrt : W.heap[w.heap.size]? = some (.cells #[.int .i64 0, .int .i64 0, .int .i64 0, .int .i64 0, .slice none 0 0] 24 (0, 0))) (hnt : W.heap[w.heap.size + 1]? = some (.cells #[.int .i64 0, .int .i64 0, .int .i64 0, .int .i64 0, .slice none 0 0] 24 (0, 0))) (hbt : W.heap[w.heap.size + 2]? = some (.cells #[.int .i64 b, .int .i64 s, .int .i64 p, .int .i64 q, u] 24 (0, 0))) (u' : Value) (x' : List S45) (hr : Kd.R k45 45 W w.heap.size (fun _ => True) u' x') :
    DbSt w (W.setCell ⟨w.heap.size + 2, 4, none⟩ u') b s p q u' x' :=
  ⟨below_set hbel (by omega), blk_far hrt (by simp) _, blk_far hnt (by simp) _, by simpa using blk_set hbt 4 u', Kd.R_set hr hbt (by decide) 4 _⟩
theorem db_drewN {w W : World} {P1 P2 : Option Obj} (h : Below w.heap.size w W ∧ W.heap.size = w.heap.size + 2 ∧ W.heap[w.heap.size]? = P1 ∧ W.heap[w.heap.size + 1]? = P2) (m : Nat) : Below w.heap.size w (W.drewN m) ∧ (W.drewN m).heap.size = w.heap.size + 2 ∧ (W.drewN m).heap[w.heap.size]? = P1 ∧ (W.drewN m).heap[w.heap.size + 1]? = P2 :=
  ⟨pw_below_drewN h.1 m, h.2.1, h.2.2.1, h.2.2.2⟩
set_option maxHeartbeats 4000000 in
set_option maxRecDepth 100000 in
theorem bollardref12_DecodeG.short (k : Nat) (A : Option Addr) (c : Nat) (l : List Int) (w : World) (hr : Kd.C (Kd.int .u8) w A l.length l) (hc : l.length ≤ c) (h : (l.length : Int) < 48) :
    Calls Try.prog 23 #[.slice A l.length c] w fun e w' => ∃ v4_ : Value, e = .returned (.tuple #[.agg #[.int .i64 0, .int .i64 0, .int .i64 0, .int .i64 0, v4_], .int .i64 0, .int .i64 10]) ∧ Kd.R k45 45 w' w.heap.size (fun _ => True) v4_ [] ∧ Below w.heap.size w w' := by
  have f0 : decide ((l.length : Int) < 48) = true := decide_eq_true h
  have f1 : decide (l.length < 48) = true := decide_eq_true (by omega)
  clear hr hc h
  go_enter Try.func23, Try.ntmps23
  go_wp2_with fail
  have Z_ := db_new w
  refine bodyPost_ret (results_ctt rfl _ _ w.heap.size 24 #[.int .i64 0, .int .i64 0, .int .i64 0, .int .i64 0, .slice none 0 0] (0, 0) _ rfl Z_.2.2.1 Try.underlying24 rfl (by kernel_rfl)) rfl ?_
  exact ⟨_, rfl, Kd.R_nil _ _ _ _ _, Z_.1⟩
set_option maxHeartbeats 4000000 in
set_option maxRecDepth 100000 in
theorem bollardref12_DecodeG.early_calls (k : Nat) (A : Option Addr) (c : Nat) (l : List Int) (w : World) (hr : Kd.C (Kd.int .u8) w A l.length l) (hc : l.length ≤ c) (h0 : ¬ (l.length : Int) < 48) (b : Int) (eb : Bool) (hb : bollardref1_Get.f k l 0 8 true = some (b, eb)) (nb : 0 ≤ b) (n : Int) (en : Bool) (hn : bollardref1_Get.f k l 8 4 true = some (n, en)) (nn : 0 ≤ n) (p : Int) (ep : Bool) (hp : bollardref1_Get.f k l 16 8 true = some (p, ep)) (np : 0 ≤ p) (q : Int) (eq : Bool) (hq : bollardref1_Get.f k l 24 8 true = some (q, eq)) (nq : 0 ≤ q) (s : Int) (es : Bool) (hs : bollardref1_Get.f k l 32 4 true = some (s, es)) (ns : 0 ≤ s) (c_ : Int) (ec_ : Bool) (hc_ : bollardref1_Get.f k l 36 4 true = some (c_, ec_)) (nc_ : 0 ≤ c_) (t : Int) (et : Bool) (ht : bollardref1_Get.f k l 40 8 true = some (t, et)) (nt : 0 ≤ t) (he : bollardref12_DecodeG.early l b n p q s c_ t) (H_ : Nat → List Int → Int → Int → Int → Int → Option (Int × Int × Int × Int × List S45 × Int × Int)) (HC_ : Aside0 (∀ (k : Nat) (A : Option Addr) (c : Nat) (l : List Int) (a1 a2 a3 a4 : Int) (r1 r2 r3 r4 : Int) (r5 : List S45) (r6 r7 : Int) (w : World) (hr0 : Kd.C (Kd.int .u8) w A l.length l) (hc0 : l.length ≤ c) (h : H_ k l a1 a2 a3 a4 = some (r1, r2, r3, r4, r5, r6, r7)), Calls Try.prog 39 #[.slice A l.length c, .int .u64 a1, .int .u64 a2, .int .u64 a3, .int .u64 a4] w fun e w' => ∃ v4_ : Value, e = .returned (.tuple #[.agg #[.int .i64 r1, .int .i64 r2, .int .i64 r3, .int .i64 r4, v4_], .int .i64 r6, .int .i64 r7]) ∧ Kd.R k45 45 w' w.heap.size (fun _ => True) v4_ r5 ∧ Below w.heap.size w w')) (r1 r2 r3 r4 : Int) (r5 : List S45) (r6 r7 : Int) (h : H_ k l b n p q = some (r1, r2, r3, r4, r5, r6, r7)) :
    Calls Try.prog 23 #[.slice A l.length c] w fun e w' => ∃ v4_ : Value, e = .returned (.tuple #[.agg #[.int .i64 r1, .int .i64 r2, .int .i64 r3, .int .i64 r4, v4_], .int .i64 r6, .int .i64 r7]) ∧ Kd.R k45 45 w' w.heap.size (fun _ => True) v4_ r5 ∧ Below w.heap.size w w' := by
  have g0 : decide ((l.length : Int) < 48) = false := decide_eq_false h0
  have g1 : decide (l.length < 48) = false := decide_eq_false (by omega)
  have hlm : (l.length : Int) ≤ 9223372036854775807 := by have := hr.2.1; omega
  have hl48 : 48 ≤ (l.length : Int) := by omega
  have hu : IntKind.u64.wrap ((l.length : Int) - 12) = (l.length : Int) - 12 := by rw [IntKind.wrap_u64]; omega
  have HR := Aside0.mk hr
  have HC := Aside0.mk hc
  have HB := Aside0.mk hb
  have HN := Aside0.mk hn
  have HP := Aside0.mk hp
  have HQ := Aside0.mk hq
  have HS := Aside0.mk hs
  have HC_ := Aside0.mk hc_
  have HT := Aside0.mk ht
  have HE := Aside0.mk he
  have HH := Aside0.mk h
  clear he h
  clear hr hc h0 hb hn hp hq hs hc_ ht
  go_enter Try.func23, Try.ntmps23
  go_wp2_with fail
  have Z2 := Aside0.mk (db_new w)
  generalize (w.alloc (.cells #[.int .i64 0, .int .i64 0, .int .i64 0, .int .i64 0, .slice none 0 0] 24)).alloc (.cells #[.int .i64 0, .int .i64 0, .int .i64 0, .int .i64 0, .slice none 0 0] 24) = W0 at Z2 ⊢
  refine (bollardref1_Get.calls k A c l 0 8 true b eb _ (Kd.C_below HR.out Z2.out.1) HC.out HB.out).mono ?_
  rintro e w' ⟨rfl, ⟨m0, rfl⟩⟩
  have Z3 := Aside0.mk (db_drewN Z2.out m0)
  generalize W0.drewN m0 = W1 at Z3 ⊢
  clear Z2 HB
  go_wp2_with fail
  refine (bollardref1_Get.calls k A c l 8 4 true n en _ (Kd.C_below HR.out Z3.out.1) HC.out HN.out).mono ?_
  rintro e w' ⟨rfl, ⟨m1, rfl⟩⟩
  have Z4 := Aside0.mk (db_drewN Z3.out m1)
  generalize W1.drewN m1 = W2 at Z4 ⊢
  clear Z3 HN
  go_wp2_with fail
  refine (bollardref1_Get.calls k A c l 16 8 true p ep _ (Kd.C_below HR.out Z4.out.1) HC.out HP.out).mono ?_
  rintro e w' ⟨rfl, ⟨m2, rfl⟩⟩
  have Z5 := Aside0.mk (db_drewN Z4.out m2)
  generalize W2.drewN m2 = W3 at Z5 ⊢
  clear Z4 HP
  go_wp2_with fail
  refine (bollardref1_Get.calls k A c l 24 8 true q eq _ (Kd.C_below HR.out Z5.out.1) HC.out HQ.out).mono ?_
  rintro e w' ⟨rfl, ⟨m3, rfl⟩⟩
  have Z6 := Aside0.mk (db_drewN Z5.out m3)
  generalize W3.drewN m3 = W4 at Z6 ⊢
  clear Z5 HQ
  go_wp2_with fail
  refine (bollardref1_Get.calls k A c l 32 4 true s es _ (Kd.C_below HR.out Z6.out.1) HC.out HS.out).mono ?_
  rintro e w' ⟨rfl, ⟨m4, rfl⟩⟩
  have Z7 := Aside0.mk (db_drewN Z6.out m4)
  generalize W4.drewN m4 = W5 at Z7 ⊢
  clear Z6 HS
  go_wp2_with fail
  refine (bollardref1_Get.calls k A c l 36 4 true c_ ec_ _ (Kd.C_below HR.out Z7.out.1) HC.out HC_.out).mono ?_
  rintro e w' ⟨rfl, ⟨m5, rfl⟩⟩
  have Z8 := Aside0.mk (db_drewN Z7.out m5)
  generalize W5.drewN m5 = W6 at Z8 ⊢
  clear Z7 HC_
  go_wp2_with fail
  refine (bollardref1_Get.calls k A c l 40 8 true t et _ (Kd.C_below HR.out Z8.out.1) HC.out HT.out).mono ?_
  rintro e w' ⟨rfl, ⟨m6, rfl⟩⟩
  have Z9 := Aside0.mk (db_drewN Z8.out m6)
  generalize W6.drewN m6 = W7 at Z9 ⊢
  clear Z8 HT
  have HL := HE.out
  clear HE
  unfold bollardref12_DecodeG.early at HL
  have hl_ := Aside0.mk HL
  clear HL
  by_cases d0 : n < 36
  · have f0 : decide (n < 36) = true := decide_eq_true d0
    clear d0
    go_wp2_with fail
    refine (HC_.out k A c l b n p q r1 r2 r3 r4 r5 r6 r7 _ (Kd.C_below HR.out Z9.out.1) HC.out HH.out).mono ?_
    rintro e y1 ⟨v, rfl, ho, hb⟩
    have Z10 := Aside0.mk (And.intro (below_step Z9.out.1 hb) (blk_below Z9.out.2.2.1 hb))
    have HO := Aside0.mk (Kd.R_lower ho Z9.out.1.size)
    obtain ⟨Av, cv, ev⟩ := Kd.R_slice ho
    subst ev
    clear ho hb
    obtain ⟨y0, y1_, y2, y3, y4⟩ := db_cells Z10.out.2
    obtain ⟨z0, z1, z2, z3, z4⟩ := db_free Z10.out.2
    go_wp2_with fail
    have Z_ := db_set Z10.out.1 Z10.out.2 (.int .i64 r1) (.int .i64 r2) (.int .i64 r3) (.int .i64 r4) (.slice Av r5.length cv) HO.out
    refine bodyPost_ret (results_ctt rfl _ _ w.heap.size 24 _ (0, 0) _ rfl Z_.1 Try.underlying24 rfl (by kernel_rfl)) rfl ?_
    exact ⟨_, rfl, Z_.2.1, Z_.2.2⟩
  have f0 : decide (n < 36) = false := decide_eq_false d0
  by_cases d1 : (l.length : Int) - 12 < n
  · have f1 : decide ((l.length : Int) - 12 < n) = true := decide_eq_true d1
    clear d1
    go_wp2_with fail
    refine (HC_.out k A c l b n p q r1 r2 r3 r4 r5 r6 r7 _ (Kd.C_below HR.out Z9.out.1) HC.out HH.out).mono ?_
    rintro e y1 ⟨v, rfl, ho, hb⟩
    have Z10 := Aside0.mk (And.intro (below_step Z9.out.1 hb) (blk_below Z9.out.2.2.1 hb))
    have HO := Aside0.mk (Kd.R_lower ho Z9.out.1.size)
    obtain ⟨Av, cv, ev⟩ := Kd.R_slice ho
    subst ev
    clear ho hb
    obtain ⟨y0, y1_, y2, y3, y4⟩ := db_cells Z10.out.2
    obtain ⟨z0, z1, z2, z3, z4⟩ := db_free Z10.out.2
    go_wp2_with fail
    have Z_ := db_set Z10.out.1 Z10.out.2 (.int .i64 r1) (.int .i64 r2) (.int .i64 r3) (.int .i64 r4) (.slice Av r5.length cv) HO.out
    refine bodyPost_ret (results_ctt rfl _ _ w.heap.size 24 _ (0, 0) _ rfl Z_.1 Try.underlying24 rfl (by kernel_rfl)) rfl ?_
    exact ⟨_, rfl, Z_.2.1, Z_.2.2⟩
  have f1 : decide ((l.length : Int) - 12 < n) = false := decide_eq_false d1
  by_cases d2 : 6000 < n
  · have f2 : decide (6000 < n) = true := decide_eq_true d2
    clear d2
    go_wp2_with fail
    refine (HC_.out k A c l b n p q r1 r2 r3 r4 r5 r6 r7 _ (Kd.C_below HR.out Z9.out.1) HC.out HH.out).mono ?_
    rintro e y1 ⟨v, rfl, ho, hb⟩
    have Z10 := Aside0.mk (And.intro (below_step Z9.out.1 hb) (blk_below Z9.out.2.2.1 hb))
    have HO := Aside0.mk (Kd.R_lower ho Z9.out.1.size)
    obtain ⟨Av, cv, ev⟩ := Kd.R_slice ho
    subst ev
    clear ho hb
    obtain ⟨y0, y1_, y2, y3, y4⟩ := db_cells Z10.out.2
    obtain ⟨z0, z1, z2, z3, z4⟩ := db_free Z10.out.2
    go_wp2_with fail
    have Z_ := db_set Z10.out.1 Z10.out.2 (.int .i64 r1) (.int .i64 r2) (.int .i64 r3) (.int .i64 r4) (.slice Av r5.length cv) HO.out
    refine bodyPost_ret (results_ctt rfl _ _ w.heap.size 24 _ (0, 0) _ rfl Z_.1 Try.underlying24 rfl (by kernel_rfl)) rfl ?_
    exact ⟨_, rfl, Z_.2.1, Z_.2.2⟩
  have f2 : decide (6000 < n) = false := decide_eq_false d2
  by_cases d3 : 1125899906842624 < b
  · have f3 : decide (1125899906842624 < b) = true := decide_eq_true d3
    clear d3
    go_wp2_with fail
    refine (HC_.out k A c l b n p q r1 r2 r3 r4 r5 r6 r7 _ (Kd.C_below HR.out Z9.out.1) HC.out HH.out).mono ?_
    rintro e y1 ⟨v, rfl, ho, hb⟩
    have Z10 := Aside0.mk (And.intro (below_step Z9.out.1 hb) (blk_below Z9.out.2.2.1 hb))
    have HO := Aside0.mk (Kd.R_lower ho Z9.out.1.size)
    obtain ⟨Av, cv, ev⟩ := Kd.R_slice ho
    subst ev
    clear ho hb
    obtain ⟨y0, y1_, y2, y3, y4⟩ := db_cells Z10.out.2
    obtain ⟨z0, z1, z2, z3, z4⟩ := db_free Z10.out.2
    go_wp2_with fail
    have Z_ := db_set Z10.out.1 Z10.out.2 (.int .i64 r1) (.int .i64 r2) (.int .i64 r3) (.int .i64 r4) (.slice Av r5.length cv) HO.out
    refine bodyPost_ret (results_ctt rfl _ _ w.heap.size 24 _ (0, 0) _ rfl Z_.1 Try.underlying24 rfl (by kernel_rfl)) rfl ?_
    exact ⟨_, rfl, Z_.2.1, Z_.2.2⟩
  have f3 : decide (1125899906842624 < b) = false := decide_eq_false d3
  by_cases d4 : 4611686018427387904 < p
  · have f4 : decide (4611686018427387904 < p) = true := decide_eq_true d4
    clear d4
    go_wp2_with fail
    refine (HC_.out k A c l b n p q r1 r2 r3 r4 r5 r6 r7 _ (Kd.C_below HR.out Z9.out.1) HC.out HH.out).mono ?_
    rintro e y1 ⟨v, rfl, ho, hb⟩
    have Z10 := Aside0.mk (And.intro (below_step Z9.out.1 hb) (blk_below Z9.out.2.2.1 hb))
    have HO := Aside0.mk (Kd.R_lower ho Z9.out.1.size)
    obtain ⟨Av, cv, ev⟩ := Kd.R_slice ho
    subst ev
    clear ho hb
    obtain ⟨y0, y1_, y2, y3, y4⟩ := db_cells Z10.out.2
    obtain ⟨z0, z1, z2, z3, z4⟩ := db_free Z10.out.2
    go_wp2_with fail
    have Z_ := db_set Z10.out.1 Z10.out.2 (.int .i64 r1) (.int .i64 r2) (.int .i64 r3) (.int .i64 r4) (.slice Av r5.length cv) HO.out
    refine bodyPost_ret (results_ctt rfl _ _ w.heap.size 24 _ (0, 0) _ rfl Z_.1 Try.underlying24 rfl (by kernel_rfl)) rfl ?_
    exact ⟨_, rfl, Z_.2.1, Z_.2.2⟩
  have f4 : decide (4611686018427387904 < p) = false := decide_eq_false d4
  by_cases d5 : 4611686018427387904 < q
  · have f5 : decide (4611686018427387904 < q) = true := decide_eq_true d5
    clear d5
    go_wp2_with fail
    refine (HC_.out k A c l b n p q r1 r2 r3 r4 r5 r6 r7 _ (Kd.C_below HR.out Z9.out.1) HC.out HH.out).mono ?_
    rintro e y1 ⟨v, rfl, ho, hb⟩
    have Z10 := Aside0.mk (And.intro (below_step Z9.out.1 hb) (blk_below Z9.out.2.2.1 hb))
    have HO := Aside0.mk (Kd.R_lower ho Z9.out.1.size)
    obtain ⟨Av, cv, ev⟩ := Kd.R_slice ho
    subst ev
    clear ho hb
    obtain ⟨y0, y1_, y2, y3, y4⟩ := db_cells Z10.out.2
    obtain ⟨z0, z1, z2, z3, z4⟩ := db_free Z10.out.2
    go_wp2_with fail
    have Z_ := db_set Z10.out.1 Z10.out.2 (.int .i64 r1) (.int .i64 r2) (.int .i64 r3) (.int .i64 r4) (.slice Av r5.length cv) HO.out
    refine bodyPost_ret (results_ctt rfl _ _ w.heap.size 24 _ (0, 0) _ rfl Z_.1 Try.underlying24 rfl (by kernel_rfl)) rfl ?_
    exact ⟨_, rfl, Z_.2.1, Z_.2.2⟩
  have f5 : decide (4611686018427387904 < q) = false := decide_eq_false d5
  by_cases d6 : 100 < s
  · have f6 : decide (100 < s) = true := decide_eq_true d6
    clear d6
    go_wp2_with fail
    refine (HC_.out k A c l b n p q r1 r2 r3 r4 r5 r6 r7 _ (Kd.C_below HR.out Z9.out.1) HC.out HH.out).mono ?_
    rintro e y1 ⟨v, rfl, ho, hb⟩
    have Z10 := Aside0.mk (And.intro (below_step Z9.out.1 hb) (blk_below Z9.out.2.2.1 hb))
    have HO := Aside0.mk (Kd.R_lower ho Z9.out.1.size)
    obtain ⟨Av, cv, ev⟩ := Kd.R_slice ho
    subst ev
    clear ho hb
    obtain ⟨y0, y1_, y2, y3, y4⟩ := db_cells Z10.out.2
    obtain ⟨z0, z1, z2, z3, z4⟩ := db_free Z10.out.2
    go_wp2_with fail
    have Z_ := db_set Z10.out.1 Z10.out.2 (.int .i64 r1) (.int .i64 r2) (.int .i64 r3) (.int .i64 r4) (.slice Av r5.length cv) HO.out
    refine bodyPost_ret (results_ctt rfl _ _ w.heap.size 24 _ (0, 0) _ rfl Z_.1 Try.underlying24 rfl (by kernel_rfl)) rfl ?_
    exact ⟨_, rfl, Z_.2.1, Z_.2.2⟩
  have f6 : decide (100 < s) = false := decide_eq_false d6
  by_cases d7 : c_ < 1
  · have f7 : decide (c_ < 1) = true := decide_eq_true d7
    clear d7
    go_wp2_with fail
    refine (HC_.out k A c l b n p q r1 r2 r3 r4 r5 r6 r7 _ (Kd.C_below HR.out Z9.out.1) HC.out HH.out).mono ?_
    rintro e y1 ⟨v, rfl, ho, hb⟩
    have Z10 := Aside0.mk (And.intro (below_step Z9.out.1 hb) (blk_below Z9.out.2.2.1 hb))
    have HO := Aside0.mk (Kd.R_lower ho Z9.out.1.size)
    obtain ⟨Av, cv, ev⟩ := Kd.R_slice ho
    subst ev
    clear ho hb
    obtain ⟨y0, y1_, y2, y3, y4⟩ := db_cells Z10.out.2
    obtain ⟨z0, z1, z2, z3, z4⟩ := db_free Z10.out.2
    go_wp2_with fail
    have Z_ := db_set Z10.out.1 Z10.out.2 (.int .i64 r1) (.int .i64 r2) (.int .i64 r3) (.int .i64 r4) (.slice Av r5.length cv) HO.out
    refine bodyPost_ret (results_ctt rfl _ _ w.heap.size 24 _ (0, 0) _ rfl Z_.1 Try.underlying24 rfl (by kernel_rfl)) rfl ?_
    exact ⟨_, rfl, Z_.2.1, Z_.2.2⟩
  have f7 : decide (c_ < 1) = false := decide_eq_false d7
  by_cases d8 : 100 < c_
  · have f8 : decide (100 < c_) = true := decide_eq_true d8
    clear d8
    go_wp2_with fail
    refine (HC_.out k A c l b n p q r1 r2 r3 r4 r5 r6 r7 _ (Kd.C_below HR.out Z9.out.1) HC.out HH.out).mono ?_
    rintro e y1 ⟨v, rfl, ho, hb⟩
    have Z10 := Aside0.mk (And.intro (below_step Z9.out.1 hb) (blk_below Z9.out.2.2.1 hb))
    have HO := Aside0.mk (Kd.R_lower ho Z9.out.1.size)
    obtain ⟨Av, cv, ev⟩ := Kd.R_slice ho
    subst ev
    clear ho hb
    obtain ⟨y0, y1_, y2, y3, y4⟩ := db_cells Z10.out.2
    obtain ⟨z0, z1, z2, z3, z4⟩ := db_free Z10.out.2
    go_wp2_with fail
    have Z_ := db_set Z10.out.1 Z10.out.2 (.int .i64 r1) (.int .i64 r2) (.int .i64 r3) (.int .i64 r4) (.slice Av r5.length cv) HO.out
    refine bodyPost_ret (results_ctt rfl _ _ w.heap.size 24 _ (0, 0) _ rfl Z_.1 Try.underlying24 rfl (by kernel_rfl)) rfl ?_
    exact ⟨_, rfl, Z_.2.1, Z_.2.2⟩
  have f8 : decide (100 < c_) = false := decide_eq_false d8
  have f9 : decide (1125899906842624 < t) = true := decide_eq_true (by have := hl_.out; omega)
  clear d0 d1 d2 d3 d4 d5 d6 d7 d8
  go_wp2_with fail
  refine (HC_.out k A c l b n p q r1 r2 r3 r4 r5 r6 r7 _ (Kd.C_below HR.out Z9.out.1) HC.out HH.out).mono ?_
  rintro e y1 ⟨v, rfl, ho, hb⟩
  have Z10 := Aside0.mk (And.intro (below_step Z9.out.1 hb) (blk_below Z9.out.2.2.1 hb))
  have HO := Aside0.mk (Kd.R_lower ho Z9.out.1.size)
  obtain ⟨Av, cv, ev⟩ := Kd.R_slice ho
  subst ev
  clear ho hb
  obtain ⟨y0, y1_, y2, y3, y4⟩ := db_cells Z10.out.2
  obtain ⟨z0, z1, z2, z3, z4⟩ := db_free Z10.out.2
  go_wp2_with fail
  have Z_ := db_set Z10.out.1 Z10.out.2 (.int .i64 r1) (.int .i64 r2) (.int .i64 r3) (.int .i64 r4) (.slice Av r5.length cv) HO.out
  refine bodyPost_ret (results_ctt rfl _ _ w.heap.size 24 _ (0, 0) _ rfl Z_.1 Try.underlying24 rfl (by kernel_rfl)) rfl ?_
  exact ⟨_, rfl, Z_.2.1, Z_.2.2⟩
set_option maxHeartbeats 4000000 in
set_option maxRecDepth 100000 in
theorem bollardref12_DecodeG.main (k : Nat) (A : Option Addr) (c : Nat) (l : List Int) (w : World) (hr : Kd.C (Kd.int .u8) w A l.length l) (hc : l.length ≤ c) (h0 : ¬ (l.length : Int) < 48) (b : Int) (eb : Bool) (hb : bollardref1_Get.f k l 0 8 true = some (b, eb)) (nb : 0 ≤ b) (n : Int) (en : Bool) (hn : bollardref1_Get.f k l 8 4 true = some (n, en)) (nn : 0 ≤ n) (p : Int) (ep : Bool) (hp : bollardref1_Get.f k l 16 8 true = some (p, ep)) (np : 0 ≤ p) (q : Int) (eq : Bool) (hq : bollardref1_Get.f k l 24 8 true = some (q, eq)) (nq : 0 ≤ q) (s : Int) (es : Bool) (hs : bollardref1_Get.f k l 32 4 true = some (s, es)) (ns : 0 ≤ s) (c_ : Int) (ec_ : Bool) (hc_ : bollardref1_Get.f k l 36 4 true = some (c_, ec_)) (nc_ : 0 ≤ c_) (t : Int) (et : Bool) (ht : bollardref1_Get.f k l 40 8 true = some (t, et)) (nt : 0 ≤ t) (he : ¬ bollardref12_DecodeG.early l b n p q s c_ t) (r1 r2 r3 r4 : Int) (r5 : List S45) (r6 r7 : Int) (h : bollardref12_DecodeG.l0 k l (12 + n) c_ t b s p q 48 0 [] = some (r1, r2, r3, r4, r5, r6, r7)) :
    Calls Try.prog 23 #[.slice A l.length c] w fun e w' => ∃ v4_ : Value, e = .returned (.tuple #[.agg #[.int .i64 r1, .int .i64 r2, .int .i64 r3, .int .i64 r4, v4_], .int .i64 r6, .int .i64 r7]) ∧ Kd.R k45 45 w' w.heap.size (fun _ => True) v4_ r5 ∧ Below w.heap.size w w' := by
  have g0 : decide ((l.length : Int) < 48) = false := decide_eq_false h0
  have g1 : decide (l.length < 48) = false := decide_eq_false (by omega)
  have hlm : (l.length : Int) ≤ 9223372036854775807 := by have := hr.2.1; omega
  have hl48 : 48 ≤ (l.length : Int) := by omega
  have hu : IntKind.u64.wrap ((l.length : Int) - 12) = (l.length : Int) - 12 := by rw [IntKind.wrap_u64]; omega
  have HR := Aside0.mk hr
  have HC := Aside0.mk hc
  have HB := Aside0.mk hb
  have HN := Aside0.mk hn
  have HP := Aside0.mk hp
  have HQ := Aside0.mk hq
  have HS := Aside0.mk hs
  have HC_ := Aside0.mk hc_
  have HT := Aside0.mk ht
  have HE := Aside0.mk he
  have HH := Aside0.mk h
  clear he h
  clear hr hc h0 hb hn hp hq hs hc_ ht
  go_enter Try.func23, Try.ntmps23
  go_wp2_with fail
  have Z2 := Aside0.mk (db_new w)
  generalize (w.alloc (.cells #[.int .i64 0, .int .i64 0, .int .i64 0, .int .i64 0, .slice none 0 0] 24)).alloc (.cells #[.int .i64 0, .int .i64 0, .int .i64 0, .int .i64 0, .slice none 0 0] 24) = W0 at Z2 ⊢
  refine (bollardref1_Get.calls k A c l 0 8 true b eb _ (Kd.C_below HR.out Z2.out.1) HC.out HB.out).mono ?_
  rintro e w' ⟨rfl, ⟨m0, rfl⟩⟩
  have Z3 := Aside0.mk (db_drewN Z2.out m0)
  generalize W0.drewN m0 = W1 at Z3 ⊢
  clear Z2 HB
  go_wp2_with fail
  refine (bollardref1_Get.calls k A c l 8 4 true n en _ (Kd.C_below HR.out Z3.out.1) HC.out HN.out).mono ?_
  rintro e w' ⟨rfl, ⟨m1, rfl⟩⟩
  have Z4 := Aside0.mk (db_drewN Z3.out m1)
  generalize W1.drewN m1 = W2 at Z4 ⊢
  clear Z3 HN
  go_wp2_with fail
  refine (bollardref1_Get.calls k A c l 16 8 true p ep _ (Kd.C_below HR.out Z4.out.1) HC.out HP.out).mono ?_
  rintro e w' ⟨rfl, ⟨m2, rfl⟩⟩
  have Z5 := Aside0.mk (db_drewN Z4.out m2)
  generalize W2.drewN m2 = W3 at Z5 ⊢
  clear Z4 HP
  go_wp2_with fail
  refine (bollardref1_Get.calls k A c l 24 8 true q eq _ (Kd.C_below HR.out Z5.out.1) HC.out HQ.out).mono ?_
  rintro e w' ⟨rfl, ⟨m3, rfl⟩⟩
  have Z6 := Aside0.mk (db_drewN Z5.out m3)
  generalize W3.drewN m3 = W4 at Z6 ⊢
  clear Z5 HQ
  go_wp2_with fail
  refine (bollardref1_Get.calls k A c l 32 4 true s es _ (Kd.C_below HR.out Z6.out.1) HC.out HS.out).mono ?_
  rintro e w' ⟨rfl, ⟨m4, rfl⟩⟩
  have Z7 := Aside0.mk (db_drewN Z6.out m4)
  generalize W4.drewN m4 = W5 at Z7 ⊢
  clear Z6 HS
  go_wp2_with fail
  refine (bollardref1_Get.calls k A c l 36 4 true c_ ec_ _ (Kd.C_below HR.out Z7.out.1) HC.out HC_.out).mono ?_
  rintro e w' ⟨rfl, ⟨m5, rfl⟩⟩
  have Z8 := Aside0.mk (db_drewN Z7.out m5)
  generalize W5.drewN m5 = W6 at Z8 ⊢
  clear Z7 HC_
  go_wp2_with fail
  refine (bollardref1_Get.calls k A c l 40 8 true t et _ (Kd.C_below HR.out Z8.out.1) HC.out HT.out).mono ?_
  rintro e w' ⟨rfl, ⟨m6, rfl⟩⟩
  have Z9 := Aside0.mk (db_drewN Z8.out m6)
  generalize W6.drewN m6 = W7 at Z9 ⊢
  clear Z8 HT
  have f0 : decide (n < 36) = false := decide_eq_false (by have := HE.out; unfold bollardref12_DecodeG.early at this; omega)
  have f1 : decide ((l.length : Int) - 12 < n) = false := decide_eq_false (by have := HE.out; unfold bollardref12_DecodeG.early at this; omega)
  have f2 : decide (6000 < n) = false := decide_eq_false (by have := HE.out; unfold bollardref12_DecodeG.early at this; omega)
  have f3 : decide (1125899906842624 < b) = false := decide_eq_false (by have := HE.out; unfold bollardref12_DecodeG.early at this; omega)
  have f4 : decide (4611686018427387904 < p) = false := decide_eq_false (by have := HE.out; unfold bollardref12_DecodeG.early at this; omega)
  have f5 : decide (4611686018427387904 < q) = false := decide_eq_false (by have := HE.out; unfold bollardref12_DecodeG.early at this; omega)
  have f6 : decide (100 < s) = false := decide_eq_false (by have := HE.out; unfold bollardref12_DecodeG.early at this; omega)
  have f7 : decide (c_ < 1) = false := decide_eq_false (by have := HE.out; unfold bollardref12_DecodeG.early at this; omega)
  have f8 : decide (100 < c_) = false := decide_eq_false (by have := HE.out; unfold bollardref12_DecodeG.early at this; omega)
  have f9 : decide (1125899906842624 < t) = false := decide_eq_false (by have := HE.out; unfold bollardref12_DecodeG.early at this; omega)
  have bn : 36 ≤ n ∧ n ≤ 6000 ∧ n ≤ (l.length : Int) - 12 ∧ b ≤ 1125899906842624 ∧ p ≤ 4611686018427387904 ∧ q ≤ 4611686018427387904 ∧ s ≤ 100 ∧ c_ ≤ 100 ∧ t ≤ 1125899906842624 := by have := HE.out; unfold bollardref12_DecodeG.early at this; omega
  obtain ⟨bn0, bn1, bn2, bn3, bn4, bn5, bn6, bn7, bn8⟩ := bn
  clear HE
  go_wp2_with fail
  have D0 := Aside0.mk (db_start Z9.out b s p q)
  rw [Z9.out.2.1]
  generalize W7.alloc (.cells #[.int .i64 b, .int .i64 s, .int .i64 p, .int .i64 q, .slice none 0 0] 24) = x0 at D0 ⊢
  go_loopg [22, 23] k (fun kq v22 v23 w' => ∃ (i j : Int) (x : List S45) (u : Value), v22 = .int .i64 i ∧ v23 = .int .i64 j ∧ Aside0 (bollardref12_DecodeG.l0 kq l (12 + n) c_ t b s p q i j x = some (r1, r2, r3, r4, r5, r6, r7)) ∧ Aside0 (kq ≤ k) ∧ Aside0 (DbSt w w' b s p q u x))
  case atStart => exact ⟨48, 0, [], .slice none 0 0, rfl, rfl, HH, ⟨Nat.le_refl _⟩, D0⟩
  case round =>
    clear D0 HH Z9
    obtain ⟨i, j, x, u, rfl, rfl, HA, HK2, SD⟩ := hrel
    cases gk with
    | zero => exact absurd HA.out (by intro h_; exact nomatch (show (none : Option _) = some _ from h_))
    | succ k2 =>
      have H := HA.out
      clear HA
      rw [bollardref12_DecodeG.l0] at H
      by_cases e1 : j < c_
      · rw [if_pos e1] at H
        by_cases e2 : 0 ≤ i ∧ i ≤ 12 + n
        case neg => rw [if_neg e2] at H; cases H
        rw [if_pos e2] at H
        obtain ⟨⟨t1, t2, t3, t4, t5, t6, t7, t8⟩, HD_, H⟩ := Option.bind_eq_some_iff.mp H
        dsimp only at H
        have HH := Aside0.mk H
        obtain ⟨i0, hi0, _, hsz0, _⟩ := info_parts info5
        obtain ⟨A1, hcut, hA, hC⟩ := print_mid_of (P := Try.prog) (Value.int .u8) 0 27 5 .i64 .i64 Try.underlying27 hi0 hsz0 A c l i (12 + n) e2.1 e2.2 (by omega) HC.out
        obtain ⟨sl, hsl⟩ : ∃ sl, sl = ((l.take (12 + n).toNat).drop i.toNat) := ⟨_, rfl⟩
        rw [← hsl] at hcut hA hC HD_
        have HD := Aside0.mk HD_
        have HR2 := Aside0.mk (Kd.C_of_reads (h1 := fun _ => rfl) (hA _ (Kd.reads_of_C HR.out)))
        have HC2 := Aside0.mk hC
        clear hsl
        have b1 : decide (j < c_) = true := decide_eq_true e1
        have b2 := e2.1
        have b3 := e2.2
        clear HD_ H hA hC hi0 hsz0 e2
        go_wp2_with fail
        refine (bollardref12_Decode.calls k2 A1 (c - i.toNat) sl t t1 t2 t3 t4 t5 t6 t7 t8 _ (Kd.C_below HR2.out SD.out.bel) HC2.out HD.out).mono ?_
        rintro e y1 ⟨rfl, hb⟩
        have D1 := Aside0.mk (SD.out.below hb)
        clear hb SD
        by_cases e8 : t8 = 0
        · have H := HH.out
          rw [if_pos e8] at H
          have b8 : (t8 != 0) = false := bne_eq_false_iff_eq.mpr e8
          by_cases e9 : x.length < 2199023255552
          case neg => rw [if_neg e9] at H; cases H
          rw [if_pos e9] at H
          have HLM := Aside0.mk e9
          obtain ⟨x2, hx2⟩ : ∃ x2, x2 = x ++ [(⟨t1, t2, t3, t4, t5, t6⟩ : S45)] := ⟨_, rfl⟩
          rw [← hx2] at H
          have HA := Aside0.mk H
          have HX2 := Aside0.mk hx2
          clear H HH e8 e9 hx2
          have y9_ : ∀ o : Obj, (y1.alloc o).cell? ⟨w.heap.size + 2, 4, none⟩ = some u := fun o => (blk_cell (blk_alloc D1.out.bt o) 4).trans rfl
          go_wp2_with (at_builtin; refine Kd.R_append k45 (w0 := w) w.heap.size rfl (.tmp 153) (.tmp 155) 22 45 (.agg #[(.bool false), (.string ⟨#[]⟩), (.bool false), (.string ⟨#[]⟩), (.int .i64 0), (.int .i64 0)]) 64 rfl Try.underlying22 info45 rfl (by decide) (by omega) u x (⟨t1, t2, t3, t4, t5, t6⟩ : S45) [.bool t1, .string t2, .bool t3, .string t4, .int .i64 t5, .int .i64 t6] (fun _ => True) (fun _ => False) rfl (by first | (go_simp; done) | (go_simp; rfl)) ?aP (fun _ hk => hk.elim) ?aF ?aO ?aB ?aS ?aL ?_; (case aP => exact k45_mkM _ _ _ (⟨t1, t2, t3, t4, t5, t6⟩ : S45)); (case aB => exact below_alloc D1.out.bel _); (case aF => exact fun _ _ => trivial); (case aO => exact Kd.R_alloc D1.out.row _); (case aS => exact (below_alloc D1.out.bel _).size); (case aL => have := HLM.out; omega); intro v7 y5 ho hb hg hat; rw [← HX2.out] at ho; have D5 := Aside0.mk (And.intro hb (And.intro (blk_grown (blk_alloc D1.out.rt _) hg (Kd.R_ne D1.out.row D1.out.rt (by decide))) (And.intro (blk_grown (blk_alloc D1.out.nt _) hg (Kd.R_ne D1.out.row D1.out.nt (by decide))) (blk_grown (blk_alloc D1.out.bt _) hg (Kd.R_ne D1.out.row D1.out.bt (by decide)))))); have HO5 := Aside0.mk ho; obtain ⟨A7, c7, e7⟩ := Kd.R_slice ho; subst e7; clear ho hb hg hat; have y4_ : y5.cell? ⟨w.heap.size + 2, 4, none⟩ = some u := (blk_cell D5.out.2.2.2 4).trans rfl; have z4 := blk_frozen D5.out.2.2.2 4)
          go_roundg k2
          case measure => have := HK2.out; omega
          case rel => exact ⟨wrap64 (i + t7), wrap64 (j + 1), x2, .slice A7 x2.length c7, by first | rfl | (simp; done), by first | rfl | (simp; done), HA, ⟨by have := HK2.out; omega⟩, ⟨DbSt.setU D5.out.1 D5.out.2.1 D5.out.2.2.1 D5.out.2.2.2 _ _ HO5.out⟩⟩
        · have H := HH.out
          rw [if_neg e8] at H
          have b8 : (t8 != 0) = true := bne_iff_ne.mpr e8
          unfold bollardref12_DecodeG.bad at H
          simp only [Option.some.injEq, Prod.mk.injEq] at H
          obtain ⟨rfl, rfl, rfl, rfl, rfl, rfl, rfl⟩ := H
          clear HH
          have D2 := Aside0.mk (D1.out.below (below_alloc (Below.refl _ _) (.cells #[.bool t1, .string t2, .bool t3, .string t4, .int .i64 t5, .int .i64 t6] 45)))
          obtain ⟨n0_, n1_, n2_, n3_, n4_⟩ := db_cells D2.out.nt
          obtain ⟨o0_, o1_, o2_, o3_, o4_⟩ := db_cells D2.out.rt
          obtain ⟨z0_, z1_, z2_, z3_, z4_⟩ := db_free D2.out.rt
          go_wp2_with fail
          have Z_ := db_set D2.out.bel D2.out.rt (.int .i64 0) (.int .i64 0) (.int .i64 0) (.int .i64 0) (.slice none 0 0) (Kd.R_nil k45 45 _ _ _)
          refine bodyPost_ret (results_ctt rfl _ _ w.heap.size 24 #[.int .i64 0, .int .i64 0, .int .i64 0, .int .i64 0, .slice none 0 0] (0, 0) _ rfl Z_.1 Try.underlying24 rfl (by kernel_rfl)) rfl ?_
          exact ⟨_, rfl, Kd.R_nil _ _ _ _ _, Z_.2.2⟩
      · rw [if_neg e1] at H
        have b1 : decide (j < c_) = false := decide_eq_false e1
        unfold bollardref12_DecodeG.fin at H
        obtain ⟨⟨en, ee⟩, HE_, H⟩ := Option.bind_eq_some_iff.mp H
        dsimp only at H
        have HE := Aside0.mk HE_
        have HH := Aside0.mk H
        clear H HE_
        obtain ⟨Au, cu, eu⟩ := Kd.R_slice SD.out.row
        subst eu
        obtain ⟨y0, y1, y2, y3, y4_⟩ := SD.out.bcells
        go_wp2_with fail
        refine (bollardref12_EncodeBatch.calls k2 b s p q Au cu x en ee _ (Kd.R_reads' SD.out.row).2.2 (Kd.R_reads' SD.out.row).2.1 HE.out).mono ?_
        rintro e y6 ⟨v0, rfl, ho, hb⟩
        have D2 := Aside0.mk (SD.out.below hb)
        have HO := Aside0.mk (Kd.R_lower ho SD.out.bel.size)
        obtain ⟨Ae, ce, ev⟩ := Kd.R_slice ho
        subst ev
        clear ho hb y0 y1 y2 y3 y4_ SD
        obtain ⟨i0, hi0, _, hsz0, _⟩ := info_parts info5
        obtain ⟨hcut, hA, hC⟩ := print_take_of (P := Try.prog) (Value.int .u8) 0 27 5 .i64 Try.underlying27 hi0 hsz0 A c l (12 + n) (by omega) (by omega) HC.out
        obtain ⟨tl, htl⟩ : ∃ tl, tl = l.take (12 + n).toNat := ⟨_, rfl⟩
        rw [← htl] at hcut hA hC
        have HR2 := Aside0.mk (Kd.C_of_reads (h1 := fun _ => rfl) (hA _ (Kd.reads_of_C HR.out)))
        have HC2 := Aside0.mk hC
        have H := HH.out
        rw [← htl] at H
        have HH := Aside0.mk H
        clear hi0 hsz0 hA hC htl H
        by_cases e8 : ee = 0
        · have H := HH.out
          rw [if_pos e8] at H
          have b8 : (ee != 0) = false := bne_eq_false_iff_eq.mpr e8
          by_cases e9 : i = 12 + n
          · rw [if_pos e9] at H
            have b9 : (i != 12 + n) = false := bne_eq_false_iff_eq.mpr e9
            by_cases ec : (strOfNums en).toList = (strOfNums tl).toList
            · rw [if_pos ec] at H
              have b10 : ((strOfNums en).toList != (strOfNums tl).toList) = false := bne_eq_false_iff_eq.mpr ec
              have b11 : ((strOfNums en).toList == (strOfNums tl).toList) = true := beq_iff_eq.mpr ec
              simp only [Option.some.injEq, Prod.mk.injEq] at H
              obtain ⟨rfl, rfl, rfl, rfl, rfl, rfl, rfl⟩ := H
              clear e8 e9 HH ec
              go_wp2_with fail
              refine start_ (n := 16) (S := fun w' => Kd.C (Kd.int .u8) w' Ae en.length en ∧ Kd.C (Kd.int .u8) w' A tl.length tl) (ds := []) #[false, false, false, false, false, false, false, false, false, false, false, false, false, false, false, false] (by kernel_rfl) rfl rfl ⟨(Kd.R_reads' (Kd.R_drew HO.out)).2.2, Kd.C_below HR2.out (below_drew1 D2.out.bel)⟩ (fun hHeld => ?_)
              have D3 := Aside0.mk (D2.out.below (below_drew1 (Below.refl _ _)))
              generalize y6.drew = y7 at D3 hHeld ⊢
              refine pure_ (i := 0) (N := (some 166)) (v := ?_) (a' := ?_) #[true, false, false, false, false, false, false, false, false, false, false, false, false, false, false, false] rfl rfl (by kernel_rfl) (fun _ _ _ h => h) (Or.inl ⟨by rfl, ?_⟩) ?_ ?_
              rotate_left
              · intro w'
                go_simp
                with_reducible rfl
              rotate_left
              · simp only [Act.put, List.setIfInBounds_toArray, List.set_cons_zero, List.set_cons_succ, i64_w, i32_w]
                rfl
              refine pure_ (i := 1) (N := (some 167)) (v := ?_) (a' := ?_) #[true, true, false, false, false, false, false, false, false, false, false, false, false, false, false, false] rfl rfl (by kernel_rfl) (fun _ _ _ h => h) (Or.inl ⟨by rfl, ?_⟩) ?_ ?_
              rotate_left
              · intro w'
                go_simp
                with_reducible rfl
              rotate_left
              · simp only [Act.put, List.setIfInBounds_toArray, List.set_cons_zero, List.set_cons_succ, i64_w, i32_w]
                rfl
              refine pure_ (i := 2) (N := (some 168)) (v := ?_) (a' := ?_) #[true, true, true, false, false, false, false, false, false, false, false, false, false, false, false, false] rfl rfl (by kernel_rfl) (fun _ _ _ h => h) (Or.inl ⟨by rfl, ?_⟩) ?_ ?_
              rotate_left
              · intro w'
                go_simp
                with_reducible rfl
              rotate_left
              · simp only [Act.put, List.setIfInBounds_toArray, List.set_cons_zero, List.set_cons_succ, i64_w, i32_w]
                rfl
              refine pure_ (i := 3) (N := (some 169)) (v := ?_) (a' := ?_) #[true, true, true, true, false, false, false, false, false, false, false, false, false, false, false, false] rfl rfl (by kernel_rfl) (fun _ _ _ h => h) (Or.inl ⟨by rfl, ?_⟩) ?_ ?_
              rotate_left
              · intro w'
                go_simp
                with_reducible rfl
              rotate_left
              · simp only [Act.put, List.setIfInBounds_toArray, List.set_cons_zero, List.set_cons_succ, i64_w, i32_w]
                rfl
              refine pure_ (i := 4) (N := (some 170)) (v := ?_) (a' := ?_) #[true, true, true, true, true, false, false, false, false, false, false, false, false, false, false, false] rfl rfl (by kernel_rfl) (fun _ _ _ h => h) (Or.inl ⟨by rfl, ?_⟩) ?_ ?_
              rotate_left
              · intro w'
                go_simp
                with_reducible rfl
              rotate_left
              · simp only [Act.put, List.setIfInBounds_toArray, List.set_cons_zero, List.set_cons_succ, i64_w, i32_w]
                rfl
              refine pure_ (i := 5) (N := (some 171)) (v := ?_) (a' := ?_) #[true, true, true, true, true, true, false, false, false, false, false, false, false, false, false, false] rfl rfl (by kernel_rfl) (fun _ _ _ h => h) (Or.inl ⟨by rfl, ?_⟩) ?_ ?_
              rotate_left
              · intro w'
                go_simp
                with_reducible rfl
              rotate_left
              · simp only [Act.put, List.setIfInBounds_toArray, List.set_cons_zero, List.set_cons_succ, i64_w, i32_w]
                rfl
              refine pure_ (i := 6) (N := (some 172)) (v := ?_) (a' := ?_) #[true, true, true, true, true, true, true, false, false, false, false, false, false, false, false, false] rfl rfl (by kernel_rfl) (fun _ _ _ h => h) (Or.inl ⟨by rfl, ?_⟩) ?_ ?_
              rotate_left
              · intro w'
                go_simp
                with_reducible rfl
              rotate_left
              · simp only [Act.put, List.setIfInBounds_toArray, List.set_cons_zero, List.set_cons_succ, i64_w, i32_w]
                rfl
              refine pure_ (i := 7) (N := (some 173)) (v := ?_) (a' := ?_) #[true, true, true, true, true, true, true, true, false, false, false, false, false, false, false, false] rfl rfl (by kernel_rfl) (fun _ _ _ h => h) (Or.inl ⟨by rfl, ?_⟩) ?_ ?_
              rotate_left
              · intro w'
                go_simp
                with_reducible rfl
              rotate_left
              · simp only [Act.put, List.setIfInBounds_toArray, List.set_cons_zero, List.set_cons_succ, i64_w, i32_w]
                rfl
              refine pure_ (i := 8) (N := (some 174)) (v := ?_) (a' := ?_) #[true, true, true, true, true, true, true, true, true, false, false, false, false, false, false, false] rfl rfl (by kernel_rfl) (fun _ _ _ h => h) (Or.inl ⟨by rfl, ?_⟩) ?_ ?_
              rotate_left
              · intro w'
                go_simp
                with_reducible rfl
              rotate_left
              · simp only [Act.put, List.setIfInBounds_toArray, List.set_cons_zero, List.set_cons_succ, i64_w, i32_w]
                rfl
              refine take_ (i := 9) (N := (some 175)) (v := ?_) (a' := ?_) #[true, true, true, true, true, true, true, true, true, true, false, false, false, false, false, false] rfl rfl (by kernel_rfl) (fun _ _ _ h => h) (Or.inl ⟨by rfl, ?_⟩) hHeld ?_ ?_
              rotate_left
              · rintro w' ⟨sA, sB⟩
                have hcv := Kd.C_string (P := Try.prog) (A := Ae) (c := ce) Try.underlying27 Try.underlying5 Try.underlying9 sA
                go_simp
                with_reducible rfl
              rotate_left
              · simp only [Act.put, List.setIfInBounds_toArray, List.set_cons_zero, List.set_cons_succ, i64_w, i32_w]
                rfl
              refine pure_ (i := 10) (N := (some 176)) (v := ?_) (a' := ?_) #[true, true, true, true, true, true, true, true, true, true, true, false, false, false, false, false] rfl rfl (by kernel_rfl) (fun _ _ _ h => h) (Or.inl ⟨by rfl, ?_⟩) ?_ ?_
              rotate_left
              · intro w'
                go_simp
                with_reducible rfl
              rotate_left
              · simp only [Act.put, List.setIfInBounds_toArray, List.set_cons_zero, List.set_cons_succ, i64_w, i32_w]
                rfl
              refine pure_ (i := 11) (N := (some 177)) (v := ?_) (a' := ?_) #[true, true, true, true, true, true, true, true, true, true, true, true, false, false, false, false] rfl rfl (by kernel_rfl) (fun _ _ _ h => h) (Or.inl ⟨by rfl, ?_⟩) ?_ ?_
              rotate_left
              · intro w'
                go_simp
                with_reducible rfl
              rotate_left
              · simp only [Act.put, List.setIfInBounds_toArray, List.set_cons_zero, List.set_cons_succ, i64_w, i32_w]
                rfl
              refine pure_ (i := 12) (N := (some 178)) (v := ?_) (a' := ?_) #[true, true, true, true, true, true, true, true, true, true, true, true, true, false, false, false] rfl rfl (by kernel_rfl) (fun _ _ _ h => h) (Or.inl ⟨by rfl, ?_⟩) ?_ ?_
              rotate_left
              · intro w'
                go_simp
                with_reducible rfl
              rotate_left
              · simp only [Act.put, List.setIfInBounds_toArray, List.set_cons_zero, List.set_cons_succ, i64_w, i32_w]
                rfl
              refine take_ (i := 13) (N := (some 179)) (v := ?_) (a' := ?_) #[true, true, true, true, true, true, true, true, true, true, true, true, true, true, false, false] rfl rfl (by kernel_rfl) (fun _ _ _ h => h) (Or.inl ⟨by rfl, ?_⟩) hHeld ?_ ?_
              rotate_left
              · rintro w' ⟨sA, sB⟩
                have hcv := Kd.C_string (P := Try.prog) (A := A) (c := c) Try.underlying27 Try.underlying5 Try.underlying9 sB
                go_simp
                with_reducible rfl
              rotate_left
              · simp only [Act.put, List.setIfInBounds_toArray, List.set_cons_zero, List.set_cons_succ, i64_w, i32_w]
                rfl
              refine pure_ (i := 14) (N := (some 180)) (v := ?_) (a' := ?_) #[true, true, true, true, true, true, true, true, true, true, true, true, true, true, true, false] rfl rfl (by kernel_rfl) (fun _ _ _ h => h) (Or.inl ⟨by rfl, ?_⟩) ?_ ?_
              rotate_left
              · intro w'
                go_simp
                with_reducible rfl
              rotate_left
              · simp only [Act.put, List.setIfInBounds_toArray, List.set_cons_zero, List.set_cons_succ, i64_w, i32_w]
                rfl
              refine pure_ (i := 15) (N := (some 181)) (v := ?_) (a' := ?_) #[true, true, true, true, true, true, true, true, true, true, true, true, true, true, true, true] rfl rfl (by kernel_rfl) (fun _ _ _ h => h) (Or.inl ⟨by rfl, ?_⟩) ?_ ?_
              rotate_left
              · intro w'
                go_simp
                with_reducible rfl
              rotate_left
              · simp only [Act.put, List.setIfInBounds_toArray, List.set_cons_zero, List.set_cons_succ, i64_w, i32_w]
                rfl
              refine done_ (by kernel_rfl) ?_
              clear hHeld
              obtain ⟨n0_, n1_, n2_, n3_, n4_⟩ := D3.out.bcells
              obtain ⟨o0_, o1_, o2_, o3_, o4_⟩ := db_cells D3.out.rt
              obtain ⟨z0_, z1_, z2_, z3_, z4_⟩ := db_free D3.out.rt
              go_wp2_with fail
              have Z_ := db_set D3.out.bel D3.out.rt (.int .i64 b) (.int .i64 s) (.int .i64 p) (.int .i64 q) (.slice Au x.length cu) D3.out.row
              refine bodyPost_ret (results_ctt rfl _ _ w.heap.size 24 #[.int .i64 b, .int .i64 s, .int .i64 p, .int .i64 q, .slice Au x.length cu] (0, 0) _ rfl Z_.1 Try.underlying24 rfl (by kernel_rfl)) rfl ?_
              exact ⟨_, rfl, Z_.2.1, Z_.2.2⟩
            · rw [if_neg ec] at H
              have b10 : ((strOfNums en).toList != (strOfNums tl).toList) = true := bne_iff_ne.mpr ec
              have b11 : ((strOfNums en).toList == (strOfNums tl).toList) = false := beq_eq_false_iff_ne.mpr ec
              clear e8 e9 HH ec
              unfold bollardref12_DecodeG.bad at H
              simp only [Option.some.injEq, Prod.mk.injEq] at H
              obtain ⟨rfl, rfl, rfl, rfl, rfl, rfl, rfl⟩ := H
              go_wp2_with fail
              refine start_ (n := 16) (S := fun w' => Kd.C (Kd.int .u8) w' Ae en.length en ∧ Kd.C (Kd.int .u8) w' A tl.length tl) (ds := []) #[false, false, false, false, false, false, false, false, false, false, false, false, false, false, false, false] (by kernel_rfl) rfl rfl ⟨(Kd.R_reads' (Kd.R_drew HO.out)).2.2, Kd.C_below HR2.out (below_drew1 D2.out.bel)⟩ (fun hHeld => ?_)
              have D3 := Aside0.mk (D2.out.below (below_drew1 (Below.refl _ _)))
              generalize y6.drew = y7 at D3 hHeld ⊢
              refine pure_ (i := 0) (N := (some 166)) (v := ?_) (a' := ?_) #[true, false, false, false, false, false, false, false, false, false, false, false, false, false, false, false] rfl rfl (by kernel_rfl) (fun _ _ _ h => h) (Or.inl ⟨by rfl, ?_⟩) ?_ ?_
              rotate_left
              · intro w'
                go_simp
                with_reducible rfl
              rotate_left
              · simp only [Act.put, List.setIfInBounds_toArray, List.set_cons_zero, List.set_cons_succ, i64_w, i32_w]
                rfl
              refine pure_ (i := 1) (N := (some 167)) (v := ?_) (a' := ?_) #[true, true, false, false, false, false, false, false, false, false, false, false, false, false, false, false] rfl rfl (by kernel_rfl) (fun _ _ _ h => h) (Or.inl ⟨by rfl, ?_⟩) ?_ ?_
              rotate_left
              · intro w'
                go_simp
                with_reducible rfl
              rotate_left
              · simp only [Act.put, List.setIfInBounds_toArray, List.set_cons_zero, List.set_cons_succ, i64_w, i32_w]
                rfl
              refine pure_ (i := 2) (N := (some 168)) (v := ?_) (a' := ?_) #[true, true, true, false, false, false, false, false, false, false, false, false, false, false, false, false] rfl rfl (by kernel_rfl) (fun _ _ _ h => h) (Or.inl ⟨by rfl, ?_⟩) ?_ ?_
              rotate_left
              · intro w'
                go_simp
                with_reducible rfl
              rotate_left
              · simp only [Act.put, List.setIfInBounds_toArray, List.set_cons_zero, List.set_cons_succ, i64_w, i32_w]
                rfl
              refine pure_ (i := 3) (N := (some 169)) (v := ?_) (a' := ?_) #[true, true, true, true, false, false, false, false, false, false, false, false, false, false, false, false] rfl rfl (by kernel_rfl) (fun _ _ _ h => h) (Or.inl ⟨by rfl, ?_⟩) ?_ ?_
              rotate_left
              · intro w'
                go_simp
                with_reducible rfl
              rotate_left
              · simp only [Act.put, List.setIfInBounds_toArray, List.set_cons_zero, List.set_cons_succ, i64_w, i32_w]
                rfl
              refine pure_ (i := 4) (N := (some 170)) (v := ?_) (a' := ?_) #[true, true, true, true, true, false, false, false, false, false, false, false, false, false, false, false] rfl rfl (by kernel_rfl) (fun _ _ _ h => h) (Or.inl ⟨by rfl, ?_⟩) ?_ ?_
              rotate_left
              · intro w'
                go_simp
                with_reducible rfl
              rotate_left
              · simp only [Act.put, List.setIfInBounds_toArray, List.set_cons_zero, List.set_cons_succ, i64_w, i32_w]
                rfl
              refine pure_ (i := 5) (N := (some 171)) (v := ?_) (a' := ?_) #[true, true, true, true, true, true, false, false, false, false, false, false, false, false, false, false] rfl rfl (by kernel_rfl) (fun _ _ _ h => h) (Or.inl ⟨by rfl, ?_⟩) ?_ ?_
              rotate_left
              · intro w'
                go_simp
                with_reducible rfl
              rotate_left
              · simp only [Act.put, List.setIfInBounds_toArray, List.set_cons_zero, List.set_cons_succ, i64_w, i32_w]
                rfl
              refine pure_ (i := 6) (N := (some 172)) (v := ?_) (a' := ?_) #[true, true, true, true, true, true, true, false, false, false, false, false, false, false, false, false] rfl rfl (by kernel_rfl) (fun _ _ _ h => h) (Or.inl ⟨by rfl, ?_⟩) ?_ ?_
              rotate_left
              · intro w'
                go_simp
                with_reducible rfl
              rotate_left
              · simp only [Act.put, List.setIfInBounds_toArray, List.set_cons_zero, List.set_cons_succ, i64_w, i32_w]
                rfl
              refine pure_ (i := 7) (N := (some 173)) (v := ?_) (a' := ?_) #[true, true, true, true, true, true, true, true, false, false, false, false, false, false, false, false] rfl rfl (by kernel_rfl) (fun _ _ _ h => h) (Or.inl ⟨by rfl, ?_⟩) ?_ ?_
              rotate_left
              · intro w'
                go_simp
                with_reducible rfl
              rotate_left
              · simp only [Act.put, List.setIfInBounds_toArray, List.set_cons_zero, List.set_cons_succ, i64_w, i32_w]
                rfl
              refine pure_ (i := 8) (N := (some 174)) (v := ?_) (a' := ?_) #[true, true, true, true, true, true, true, true, true, false, false, false, false, false, false, false] rfl rfl (by kernel_rfl) (fun _ _ _ h => h) (Or.inl ⟨by rfl, ?_⟩) ?_ ?_
              rotate_left
              · intro w'
                go_simp
                with_reducible rfl
              rotate_left
              · simp only [Act.put, List.setIfInBounds_toArray, List.set_cons_zero, List.set_cons_succ, i64_w, i32_w]
                rfl
              refine take_ (i := 9) (N := (some 175)) (v := ?_) (a' := ?_) #[true, true, true, true, true, true, true, true, true, true, false, false, false, false, false, false] rfl rfl (by kernel_rfl) (fun _ _ _ h => h) (Or.inl ⟨by rfl, ?_⟩) hHeld ?_ ?_
              rotate_left
              · rintro w' ⟨sA, sB⟩
                have hcv := Kd.C_string (P := Try.prog) (A := Ae) (c := ce) Try.underlying27 Try.underlying5 Try.underlying9 sA
                go_simp
                with_reducible rfl
              rotate_left
              · simp only [Act.put, List.setIfInBounds_toArray, List.set_cons_zero, List.set_cons_succ, i64_w, i32_w]
                rfl
              refine pure_ (i := 10) (N := (some 176)) (v := ?_) (a' := ?_) #[true, true, true, true, true, true, true, true, true, true, true, false, false, false, false, false] rfl rfl (by kernel_rfl) (fun _ _ _ h => h) (Or.inl ⟨by rfl, ?_⟩) ?_ ?_
              rotate_left
              · intro w'
                go_simp
                with_reducible rfl
              rotate_left
              · simp only [Act.put, List.setIfInBounds_toArray, List.set_cons_zero, List.set_cons_succ, i64_w, i32_w]
                rfl
              refine pure_ (i := 11) (N := (some 177)) (v := ?_) (a' := ?_) #[true, true, true, true, true, true, true, true, true, true, true, true, false, false, false, false] rfl rfl (by kernel_rfl) (fun _ _ _ h => h) (Or.inl ⟨by rfl, ?_⟩) ?_ ?_
              rotate_left
              · intro w'
                go_simp
                with_reducible rfl
              rotate_left
              · simp only [Act.put, List.setIfInBounds_toArray, List.set_cons_zero, List.set_cons_succ, i64_w, i32_w]
                rfl
              refine pure_ (i := 12) (N := (some 178)) (v := ?_) (a' := ?_) #[true, true, true, true, true, true, true, true, true, true, true, true, true, false, false, false] rfl rfl (by kernel_rfl) (fun _ _ _ h => h) (Or.inl ⟨by rfl, ?_⟩) ?_ ?_
              rotate_left
              · intro w'
                go_simp
                with_reducible rfl
              rotate_left
              · simp only [Act.put, List.setIfInBounds_toArray, List.set_cons_zero, List.set_cons_succ, i64_w, i32_w]
                rfl
              refine take_ (i := 13) (N := (some 179)) (v := ?_) (a' := ?_) #[true, true, true, true, true, true, true, true, true, true, true, true, true, true, false, false] rfl rfl (by kernel_rfl) (fun _ _ _ h => h) (Or.inl ⟨by rfl, ?_⟩) hHeld ?_ ?_
              rotate_left
              · rintro w' ⟨sA, sB⟩
                have hcv := Kd.C_string (P := Try.prog) (A := A) (c := c) Try.underlying27 Try.underlying5 Try.underlying9 sB
                go_simp
                with_reducible rfl
              rotate_left
              · simp only [Act.put, List.setIfInBounds_toArray, List.set_cons_zero, List.set_cons_succ, i64_w, i32_w]
                rfl
              refine pure_ (i := 14) (N := (some 180)) (v := ?_) (a' := ?_) #[true, true, true, true, true, true, true, true, true, true, true, true, true, true, true, false] rfl rfl (by kernel_rfl) (fun _ _ _ h => h) (Or.inl ⟨by rfl, ?_⟩) ?_ ?_
              rotate_left
              · intro w'
                go_simp
                with_reducible rfl
              rotate_left
              · simp only [Act.put, List.setIfInBounds_toArray, List.set_cons_zero, List.set_cons_succ, i64_w, i32_w]
                rfl
              refine pure_ (i := 15) (N := (some 181)) (v := ?_) (a' := ?_) #[true, true, true, true, true, true, true, true, true, true, true, true, true, true, true, true] rfl rfl (by kernel_rfl) (fun _ _ _ h => h) (Or.inl ⟨by rfl, ?_⟩) ?_ ?_
              rotate_left
              · intro w'
                go_simp
                with_reducible rfl
              rotate_left
              · simp only [Act.put, List.setIfInBounds_toArray, List.set_cons_zero, List.set_cons_succ, i64_w, i32_w]
                rfl
              refine done_ (by kernel_rfl) ?_
              clear hHeld
              obtain ⟨n0_, n1_, n2_, n3_, n4_⟩ := db_cells D3.out.nt
              obtain ⟨o0_, o1_, o2_, o3_, o4_⟩ := db_cells D3.out.rt
              obtain ⟨z0_, z1_, z2_, z3_, z4_⟩ := db_free D3.out.rt
              go_wp2_with fail
              have Z_ := db_set D3.out.bel D3.out.rt (.int .i64 0) (.int .i64 0) (.int .i64 0) (.int .i64 0) (.slice none 0 0) (Kd.R_nil k45 45 _ _ _)
              refine bodyPost_ret (results_ctt rfl _ _ w.heap.size 24 #[.int .i64 0, .int .i64 0, .int .i64 0, .int .i64 0, .slice none 0 0] (0, 0) _ rfl Z_.1 Try.underlying24 rfl (by kernel_rfl)) rfl ?_
              exact ⟨_, rfl, Kd.R_nil _ _ _ _ _, Z_.2.2⟩
          · rw [if_neg e9] at H
            have b9 : (i != 12 + n) = true := bne_iff_ne.mpr e9
            clear HH
            unfold bollardref12_DecodeG.bad at H
            simp only [Option.some.injEq, Prod.mk.injEq] at H
            obtain ⟨rfl, rfl, rfl, rfl, rfl, rfl, rfl⟩ := H
            go_wp2_with fail
            refine start_ (n := 16) (S := fun w' => Kd.C (Kd.int .u8) w' Ae en.length en ∧ Kd.C (Kd.int .u8) w' A tl.length tl) (ds := []) #[false, false, false, false, false, false, false, false, false, false, false, false, false, false, false, false] (by kernel_rfl) rfl rfl ⟨(Kd.R_reads' (Kd.R_drew HO.out)).2.2, Kd.C_below HR2.out (below_drew1 D2.out.bel)⟩ (fun hHeld => ?_)
            have D3 := Aside0.mk (D2.out.below (below_drew1 (Below.refl _ _)))
            generalize y6.drew = y7 at D3 hHeld ⊢
            refine pure_ (i := 0) (N := (some 166)) (v := ?_) (a' := ?_) #[true, false, false, false, false, false, false, false, false, false, false, false, false, false, false, false] rfl rfl (by kernel_rfl) (fun _ _ _ h => h) (Or.inl ⟨by rfl, ?_⟩) ?_ ?_
            rotate_left
            · intro w'
              go_simp
              with_reducible rfl
            rotate_left
            · simp only [Act.put, List.setIfInBounds_toArray, List.set_cons_zero, List.set_cons_succ, i64_w, i32_w]
              rfl
            refine pure_ (i := 1) (N := (some 167)) (v := ?_) (a' := ?_) #[true, true, false, false, false, false, false, false, false, false, false, false, false, false, false, false] rfl rfl (by kernel_rfl) (fun _ _ _ h => h) (Or.inl ⟨by rfl, ?_⟩) ?_ ?_
            rotate_left
            · intro w'
              go_simp
              with_reducible rfl
            rotate_left
            · simp only [Act.put, List.setIfInBounds_toArray, List.set_cons_zero, List.set_cons_succ, i64_w, i32_w]
              rfl
            refine pure_ (i := 2) (N := (some 168)) (v := ?_) (a' := ?_) #[true, true, true, false, false, false, false, false, false, false, false, false, false, false, false, false] rfl rfl (by kernel_rfl) (fun _ _ _ h => h) (Or.inl ⟨by rfl, ?_⟩) ?_ ?_
            rotate_left
            · intro w'
              go_simp
              with_reducible rfl
            rotate_left
            · simp only [Act.put, List.setIfInBounds_toArray, List.set_cons_zero, List.set_cons_succ, i64_w, i32_w]
              rfl
            refine pure_ (i := 3) (N := (some 169)) (v := ?_) (a' := ?_) #[true, true, true, true, false, false, false, false, false, false, false, false, false, false, false, false] rfl rfl (by kernel_rfl) (fun _ _ _ h => h) (Or.inl ⟨by rfl, ?_⟩) ?_ ?_
            rotate_left
            · intro w'
              go_simp
              with_reducible rfl
            rotate_left
            · simp only [Act.put, List.setIfInBounds_toArray, List.set_cons_zero, List.set_cons_succ, i64_w, i32_w]
              rfl
            refine pure_ (i := 4) (N := (some 170)) (v := ?_) (a' := ?_) #[true, true, true, true, true, false, false, false, false, false, false, false, false, false, false, false] rfl rfl (by kernel_rfl) (fun _ _ _ h => h) (Or.inl ⟨by rfl, ?_⟩) ?_ ?_
            rotate_left
            · intro w'
              go_simp
              with_reducible rfl
            rotate_left
            · simp only [Act.put, List.setIfInBounds_toArray, List.set_cons_zero, List.set_cons_succ, i64_w, i32_w]
              rfl
            refine pure_ (i := 5) (N := (some 171)) (v := ?_) (a' := ?_) #[true, true, true, true, true, true, false, false, false, false, false, false, false, false, false, false] rfl rfl (by kernel_rfl) (fun _ _ _ h => h) (Or.inl ⟨by rfl, ?_⟩) ?_ ?_
            rotate_left
            · intro w'
              go_simp
              with_reducible rfl
            rotate_left
            · simp only [Act.put, List.setIfInBounds_toArray, List.set_cons_zero, List.set_cons_succ, i64_w, i32_w]
              rfl
            refine pure_ (i := 6) (N := (some 172)) (v := ?_) (a' := ?_) #[true, true, true, true, true, true, true, false, false, false, false, false, false, false, false, false] rfl rfl (by kernel_rfl) (fun _ _ _ h => h) (Or.inl ⟨by rfl, ?_⟩) ?_ ?_
            rotate_left
            · intro w'
              go_simp
              with_reducible rfl
            rotate_left
            · simp only [Act.put, List.setIfInBounds_toArray, List.set_cons_zero, List.set_cons_succ, i64_w, i32_w]
              rfl
            refine pure_ (i := 7) (N := (some 173)) (v := ?_) (a' := ?_) #[true, true, true, true, true, true, true, true, false, false, false, false, false, false, false, false] rfl rfl (by kernel_rfl) (fun _ _ _ h => h) (Or.inl ⟨by rfl, ?_⟩) ?_ ?_
            rotate_left
            · intro w'
              go_simp
              with_reducible rfl
            rotate_left
            · simp only [Act.put, List.setIfInBounds_toArray, List.set_cons_zero, List.set_cons_succ, i64_w, i32_w]
              rfl
            refine pure_ (i := 8) (N := (some 174)) (v := undef) (a' := ?_) #[true, true, true, true, true, true, true, true, true, false, false, false, false, false, false, false] rfl rfl (by kernel_rfl) (fun _ _ _ h => h) (Or.inr ⟨by rfl, rfl⟩) ?_ ?_
            rotate_left
            · simp only [Act.put, List.setIfInBounds_toArray, List.set_cons_zero, List.set_cons_succ, i64_w, i32_w]
              rfl
            refine pure_ (i := 9) (N := (some 175)) (v := undef) (a' := ?_) #[true, true, true, true, true, true, true, true, true, true, false, false, false, false, false, false] rfl rfl (by kernel_rfl) (fun _ _ _ h => h) (Or.inr ⟨by rfl, rfl⟩) ?_ ?_
            rotate_left
            · simp only [Act.put, List.setIfInBounds_toArray, List.set_cons_zero, List.set_cons_succ, i64_w, i32_w]
              rfl
            refine pure_ (i := 10) (N := (some 176)) (v := undef) (a' := ?_) #[true, true, true, true, true, true, true, true, true, true, true, false, false, false, false, false] rfl rfl (by kernel_rfl) (fun _ _ _ h => h) (Or.inr ⟨by rfl, rfl⟩) ?_ ?_
            rotate_left
            · simp only [Act.put, List.setIfInBounds_toArray, List.set_cons_zero, List.set_cons_succ, i64_w, i32_w]
              rfl
            refine pure_ (i := 11) (N := (some 177)) (v := undef) (a' := ?_) #[true, true, true, true, true, true, true, true, true, true, true, true, false, false, false, false] rfl rfl (by kernel_rfl) (fun _ _ _ h => h) (Or.inr ⟨by rfl, rfl⟩) ?_ ?_
            rotate_left
            · simp only [Act.put, List.setIfInBounds_toArray, List.set_cons_zero, List.set_cons_succ, i64_w, i32_w]
              rfl
            refine pure_ (i := 12) (N := (some 178)) (v := undef) (a' := ?_) #[true, true, true, true, true, true, true, true, true, true, true, true, true, false, false, false] rfl rfl (by kernel_rfl) (fun _ _ _ h => h) (Or.inr ⟨by rfl, rfl⟩) ?_ ?_
            rotate_left
            · simp only [Act.put, List.setIfInBounds_toArray, List.set_cons_zero, List.set_cons_succ, i64_w, i32_w]
              rfl
            refine pure_ (i := 13) (N := (some 179)) (v := undef) (a' := ?_) #[true, true, true, true, true, true, true, true, true, true, true, true, true, true, false, false] rfl rfl (by kernel_rfl) (fun _ _ _ h => h) (Or.inr ⟨by rfl, rfl⟩) ?_ ?_
            rotate_left
            · simp only [Act.put, List.setIfInBounds_toArray, List.set_cons_zero, List.set_cons_succ, i64_w, i32_w]
              rfl
            refine pure_ (i := 14) (N := (some 180)) (v := undef) (a' := ?_) #[true, true, true, true, true, true, true, true, true, true, true, true, true, true, true, false] rfl rfl (by kernel_rfl) (fun _ _ _ h => h) (Or.inr ⟨by rfl, rfl⟩) ?_ ?_
            rotate_left
            · simp only [Act.put, List.setIfInBounds_toArray, List.set_cons_zero, List.set_cons_succ, i64_w, i32_w]
              rfl
            refine pure_ (i := 15) (N := (some 181)) (v := ?_) (a' := ?_) #[true, true, true, true, true, true, true, true, true, true, true, true, true, true, true, true] rfl rfl (by kernel_rfl) (fun _ _ _ h => h) (Or.inl ⟨by rfl, ?_⟩) ?_ ?_
            rotate_left
            · intro w'
              go_simp
              with_reducible rfl
            rotate_left
            · simp only [Act.put, List.setIfInBounds_toArray, List.set_cons_zero, List.set_cons_succ, i64_w, i32_w]
              rfl
            refine done_ (by kernel_rfl) ?_
            clear hHeld
            obtain ⟨n0_, n1_, n2_, n3_, n4_⟩ := db_cells D3.out.nt
            obtain ⟨o0_, o1_, o2_, o3_, o4_⟩ := db_cells D3.out.rt
            obtain ⟨z0_, z1_, z2_, z3_, z4_⟩ := db_free D3.out.rt
            go_wp2_with fail
            have Z_ := db_set D3.out.bel D3.out.rt (.int .i64 0) (.int .i64 0) (.int .i64 0) (.int .i64 0) (.slice none 0 0) (Kd.R_nil k45 45 _ _ _)
            refine bodyPost_ret (results_ctt rfl _ _ w.heap.size 24 #[.int .i64 0, .int .i64 0, .int .i64 0, .int .i64 0, .slice none 0 0] (0, 0) _ rfl Z_.1 Try.underlying24 rfl (by kernel_rfl)) rfl ?_
            exact ⟨_, rfl, Kd.R_nil _ _ _ _ _, Z_.2.2⟩
        · have H := HH.out
          rw [if_neg e8] at H
          have b8 : (ee != 0) = true := bne_iff_ne.mpr e8
          clear HH
          unfold bollardref12_DecodeG.bad at H
          simp only [Option.some.injEq, Prod.mk.injEq] at H
          obtain ⟨rfl, rfl, rfl, rfl, rfl, rfl, rfl⟩ := H
          go_wp2_with fail
          refine start_ (n := 16) (S := fun w' => Kd.C (Kd.int .u8) w' Ae en.length en ∧ Kd.C (Kd.int .u8) w' A tl.length tl) (ds := []) #[false, false, false, false, false, false, false, false, false, false, false, false, false, false, false, false] (by kernel_rfl) rfl rfl ⟨(Kd.R_reads' (Kd.R_drew HO.out)).2.2, Kd.C_below HR2.out (below_drew1 D2.out.bel)⟩ (fun hHeld => ?_)
          have D3 := Aside0.mk (D2.out.below (below_drew1 (Below.refl _ _)))
          generalize y6.drew = y7 at D3 hHeld ⊢
          refine pure_ (i := 0) (N := (some 166)) (v := ?_) (a' := ?_) #[true, false, false, false, false, false, false, false, false, false, false, false, false, false, false, false] rfl rfl (by kernel_rfl) (fun _ _ _ h => h) (Or.inl ⟨by rfl, ?_⟩) ?_ ?_
          rotate_left
          · intro w'
            go_simp
            with_reducible rfl
          rotate_left
          · simp only [Act.put, List.setIfInBounds_toArray, List.set_cons_zero, List.set_cons_succ, i64_w, i32_w]
            rfl
          refine pure_ (i := 1) (N := (some 167)) (v := ?_) (a' := ?_) #[true, true, false, false, false, false, false, false, false, false, false, false, false, false, false, false] rfl rfl (by kernel_rfl) (fun _ _ _ h => h) (Or.inl ⟨by rfl, ?_⟩) ?_ ?_
          rotate_left
          · intro w'
            go_simp
            with_reducible rfl
          rotate_left
          · simp only [Act.put, List.setIfInBounds_toArray, List.set_cons_zero, List.set_cons_succ, i64_w, i32_w]
            rfl
          refine pure_ (i := 2) (N := (some 168)) (v := ?_) (a' := ?_) #[true, true, true, false, false, false, false, false, false, false, false, false, false, false, false, false] rfl rfl (by kernel_rfl) (fun _ _ _ h => h) (Or.inl ⟨by rfl, ?_⟩) ?_ ?_
          rotate_left
          · intro w'
            go_simp
            with_reducible rfl
          rotate_left
          · simp only [Act.put, List.setIfInBounds_toArray, List.set_cons_zero, List.set_cons_succ, i64_w, i32_w]
            rfl
          refine pure_ (i := 3) (N := (some 169)) (v := undef) (a' := ?_) #[true, true, true, true, false, false, false, false, false, false, false, false, false, false, false, false] rfl rfl (by kernel_rfl) (fun _ _ _ h => h) (Or.inr ⟨by rfl, rfl⟩) ?_ ?_
          rotate_left
          · simp only [Act.put, List.setIfInBounds_toArray, List.set_cons_zero, List.set_cons_succ, i64_w, i32_w]
            rfl
          refine pure_ (i := 4) (N := (some 170)) (v := undef) (a' := ?_) #[true, true, true, true, true, false, false, false, false, false, false, false, false, false, false, false] rfl rfl (by kernel_rfl) (fun _ _ _ h => h) (Or.inr ⟨by rfl, rfl⟩) ?_ ?_
          rotate_left
          · simp only [Act.put, List.setIfInBounds_toArray, List.set_cons_zero, List.set_cons_succ, i64_w, i32_w]
            rfl
          refine pure_ (i := 5) (N := (some 171)) (v := undef) (a' := ?_) #[true, true, true, true, true, true, false, false, false, false, false, false, false, false, false, false] rfl rfl (by kernel_rfl) (fun _ _ _ h => h) (Or.inr ⟨by rfl, rfl⟩) ?_ ?_
          rotate_left
          · simp only [Act.put, List.setIfInBounds_toArray, List.set_cons_zero, List.set_cons_succ, i64_w, i32_w]
            rfl
          refine pure_ (i := 6) (N := (some 172)) (v := ?_) (a' := ?_) #[true, true, true, true, true, true, true, false, false, false, false, false, false, false, false, false] rfl rfl (by kernel_rfl) (fun _ _ _ h => h) (Or.inl ⟨by rfl, ?_⟩) ?_ ?_
          rotate_left
          · intro w'
            go_simp
            with_reducible rfl
          rotate_left
          · simp only [Act.put, List.setIfInBounds_toArray, List.set_cons_zero, List.set_cons_succ, i64_w, i32_w]
            rfl
          refine pure_ (i := 7) (N := (some 173)) (v := ?_) (a' := ?_) #[true, true, true, true, true, true, true, true, false, false, false, false, false, false, false, false] rfl rfl (by kernel_rfl) (fun _ _ _ h => h) (Or.inl ⟨by rfl, ?_⟩) ?_ ?_
          rotate_left
          · intro w'
            go_simp
            with_reducible rfl
          rotate_left
          · simp only [Act.put, List.setIfInBounds_toArray, List.set_cons_zero, List.set_cons_succ, i64_w, i32_w]
            rfl
          refine pure_ (i := 8) (N := (some 174)) (v := undef) (a' := ?_) #[true, true, true, true, true, true, true, true, true, false, false, false, false, false, false, false] rfl rfl (by kernel_rfl) (fun _ _ _ h => h) (Or.inr ⟨by rfl, rfl⟩) ?_ ?_
          rotate_left
          · simp only [Act.put, List.setIfInBounds_toArray, List.set_cons_zero, List.set_cons_succ, i64_w, i32_w]
            rfl
          refine pure_ (i := 9) (N := (some 175)) (v := undef) (a' := ?_) #[true, true, true, true, true, true, true, true, true, true, false, false, false, false, false, false] rfl rfl (by kernel_rfl) (fun _ _ _ h => h) (Or.inr ⟨by rfl, rfl⟩) ?_ ?_
          rotate_left
          · simp only [Act.put, List.setIfInBounds_toArray, List.set_cons_zero, List.set_cons_succ, i64_w, i32_w]
            rfl
          refine pure_ (i := 10) (N := (some 176)) (v := undef) (a' := ?_) #[true, true, true, true, true, true, true, true, true, true, true, false, false, false, false, false] rfl rfl (by kernel_rfl) (fun _ _ _ h => h) (Or.inr ⟨by rfl, rfl⟩) ?_ ?_
          rotate_left
          · simp only [Act.put, List.setIfInBounds_toArray, List.set_cons_zero, List.set_cons_succ, i64_w, i32_w]
            rfl
          refine pure_ (i := 11) (N := (some 177)) (v := undef) (a' := ?_) #[true, true, true, true, true, true, true, true, true, true, true, true, false, false, false, false] rfl rfl (by kernel_rfl) (fun _ _ _ h => h) (Or.inr ⟨by rfl, rfl⟩) ?_ ?_
          rotate_left
          · simp only [Act.put, List.setIfInBounds_toArray, List.set_cons_zero, List.set_cons_succ, i64_w, i32_w]
            rfl
          refine pure_ (i := 12) (N := (some 178)) (v := undef) (a' := ?_) #[true, true, true, true, true, true, true, true, true, true, true, true, true, false, false, false] rfl rfl (by kernel_rfl) (fun _ _ _ h => h) (Or.inr ⟨by rfl, rfl⟩) ?_ ?_
          rotate_left
          · simp only [Act.put, List.setIfInBounds_toArray, List.set_cons_zero, List.set_cons_succ, i64_w, i32_w]
            rfl
          refine pure_ (i := 13) (N := (some 179)) (v := undef) (a' := ?_) #[true, true, true, true, true, true, true, true, true, true, true, true, true, true, false, false] rfl rfl (by kernel_rfl) (fun _ _ _ h => h) (Or.inr ⟨by rfl, rfl⟩) ?_ ?_
          rotate_left
          · simp only [Act.put, List.setIfInBounds_toArray, List.set_cons_zero, List.set_cons_succ, i64_w, i32_w]
            rfl
          refine pure_ (i := 14) (N := (some 180)) (v := undef) (a' := ?_) #[true, true, true, true, true, true, true, true, true, true, true, true, true, true, true, false] rfl rfl (by kernel_rfl) (fun _ _ _ h => h) (Or.inr ⟨by rfl, rfl⟩) ?_ ?_
          rotate_left
          · simp only [Act.put, List.setIfInBounds_toArray, List.set_cons_zero, List.set_cons_succ, i64_w, i32_w]
            rfl
          refine pure_ (i := 15) (N := (some 181)) (v := ?_) (a' := ?_) #[true, true, true, true, true, true, true, true, true, true, true, true, true, true, true, true] rfl rfl (by kernel_rfl) (fun _ _ _ h => h) (Or.inl ⟨by rfl, ?_⟩) ?_ ?_
          rotate_left
          · intro w'
            go_simp
            with_reducible rfl
          rotate_left
          · simp only [Act.put, List.setIfInBounds_toArray, List.set_cons_zero, List.set_cons_succ, i64_w, i32_w]
            rfl
          refine done_ (by kernel_rfl) ?_
          clear hHeld
          obtain ⟨n0_, n1_, n2_, n3_, n4_⟩ := db_cells D3.out.nt
          obtain ⟨o0_, o1_, o2_, o3_, o4_⟩ := db_cells D3.out.rt
          obtain ⟨z0_, z1_, z2_, z3_, z4_⟩ := db_free D3.out.rt
          go_wp2_with fail
          have Z_ := db_set D3.out.bel D3.out.rt (.int .i64 0) (.int .i64 0) (.int .i64 0) (.int .i64 0) (.slice none 0 0) (Kd.R_nil k45 45 _ _ _)
          refine bodyPost_ret (results_ctt rfl _ _ w.heap.size 24 #[.int .i64 0, .int .i64 0, .int .i64 0, .int .i64 0, .slice none 0 0] (0, 0) _ rfl Z_.1 Try.underlying24 rfl (by kernel_rfl)) rfl ?_
          exact ⟨_, rfl, Kd.R_nil _ _ _ _ _, Z_.2.2⟩
theorem bollardref12_DecodeG.calls (H_ : Nat → List Int → Int → Int → Int → Int → Option (Int × Int × Int × Int × List S45 × Int × Int)) (HC_ : Aside0 (∀ (k : Nat) (A : Option Addr) (c : Nat) (l : List Int) (a1 a2 a3 a4 : Int) (r1 r2 r3 r4 : Int) (r5 : List S45) (r6 r7 : Int) (w : World) (hr0 : Kd.C (Kd.int .u8) w A l.length l) (hc0 : l.length ≤ c) (h : H_ k l a1 a2 a3 a4 = some (r1, r2, r3, r4, r5, r6, r7)), Calls Try.prog 39 #[.slice A l.length c, .int .u64 a1, .int .u64 a2, .int .u64 a3, .int .u64 a4] w fun e w' => ∃ v4_ : Value, e = .returned (.tuple #[.agg #[.int .i64 r1, .int .i64 r2, .int .i64 r3, .int .i64 r4, v4_], .int .i64 r6, .int .i64 r7]) ∧ Kd.R k45 45 w' w.heap.size (fun _ => True) v4_ r5 ∧ Below w.heap.size w w')) (k : Nat) (A : Option Addr) (c : Nat) (l : List Int) (r1 r2 r3 r4 : Int) (r5 : List S45) (r6 r7 : Int) (w : World) (hr : Kd.C (Kd.int .u8) w A l.length l) (hc : l.length ≤ c) (h : bollardref12_DecodeG.f H_ k l = some (r1, r2, r3, r4, r5, r6, r7)) :
    Calls Try.prog 23 #[.slice A l.length c] w fun e w' => ∃ v4_ : Value, e = .returned (.tuple #[.agg #[.int .i64 r1, .int .i64 r2, .int .i64 r3, .int .i64 r4, v4_], .int .i64 r6, .int .i64 r7]) ∧ Kd.R k45 45 w' w.heap.size (fun _ => True) v4_ r5 ∧ Below w.heap.size w w' := by
  unfold bollardref12_DecodeG.f at h
  by_cases c0 : (l.length : Int) < 48
  · rw [if_pos c0] at h
    unfold bollardref12_DecodeG.bad at h
    simp only [Option.some.injEq, Prod.mk.injEq] at h
    obtain ⟨rfl, rfl, rfl, rfl, rfl, rfl, rfl⟩ := h
    exact bollardref12_DecodeG.short k A c l w hr hc c0
  rw [if_neg c0] at h
  obtain ⟨⟨b, eb⟩, hb, h⟩ := Option.bind_eq_some_iff.mp h
  obtain ⟨⟨n, en⟩, hn, h⟩ := Option.bind_eq_some_iff.mp h
  obtain ⟨⟨p, ep⟩, hp, h⟩ := Option.bind_eq_some_iff.mp h
  obtain ⟨⟨q, eq⟩, hq, h⟩ := Option.bind_eq_some_iff.mp h
  obtain ⟨⟨s, es⟩, hs, h⟩ := Option.bind_eq_some_iff.mp h
  obtain ⟨⟨c_, ec⟩, hc_, h⟩ := Option.bind_eq_some_iff.mp h
  obtain ⟨⟨t, et⟩, ht, h⟩ := Option.bind_eq_some_iff.mp h
  dsimp only at h
  by_cases c1 : 0 ≤ b ∧ 0 ≤ n ∧ 0 ≤ p ∧ 0 ≤ q ∧ 0 ≤ s ∧ 0 ≤ c_ ∧ 0 ≤ t
  case neg => rw [if_neg c1] at h; cases h
  rw [if_pos c1] at h
  obtain ⟨nb, nn, np, nq, ns, nc, nt⟩ := c1
  by_cases c2 : bollardref12_DecodeG.early l b n p q s c_ t
  · rw [if_pos c2] at h
    exact bollardref12_DecodeG.early_calls k A c l w hr hc c0 b eb hb nb n en hn nn p ep hp np q eq hq nq s es hs ns c_ ec hc_ nc t et ht nt c2 H_ HC_ r1 r2 r3 r4 r5 r6 r7 h
  · rw [if_neg c2] at h
    exact bollardref12_DecodeG.main k A c l w hr hc c0 b eb hb nb n en hn nn p ep hp np q eq hq nq s es hs ns c_ ec hc_ nc t et ht nt c2 r1 r2 r3 r4 r5 r6 r7 h

end Go.Proofs.Ytgmeellapjimgaa.PBm
