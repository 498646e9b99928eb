import Derived.Test.YtdlkofmcioalfaaChW
import Derived.Test.YtdlkofmcioalfaaChL
import Derived.Test.YtdlkofmcioalfaaChLP
import Derived.Test.YtdlkofmcioalfaaPCkx7
import Derived.Outline
import Derived.StillTailTactics
import Derived.RegionTactic
import Derived.BigRegion
import Derived.Lib.BufferWrite
namespace Go.Proofs.Ytdlkofmcioalfaa.PCk
open Go.RowKit Go.Proofs.YtdlkofmcioalfaaW.PrintWords Go.Proofs.YtdlkofmcioalfaaW.PrintLast Go.Proofs.YtdlkofmcioalfaaW.PrintMore
attribute [local go_sem] max2_int min2_int max_two min_two max_three min_three max_four min_four
set_option linter.unusedVariables false
set_option linter.unusedSimpArgs false

/-! ### CheckAlone -/
theorem LogP.cells {w : World} {g : Nat} {E R S : Value → Option Value} (h : LogP w g E R S) : ∃ cs, w.heap[g]? = some (.cells cs 59 (0, 0)) := by
  obtain ⟨oE, oR, oS, h1, _⟩ := h
  exact ⟨_, h1⟩
theorem MapO.ne {P : Program} {kt : TypeId} {w : World} {o : Option Nat} {F : Value → Option Value} (h : MapO P kt w o F) {g : Nat} {cs : Array Value} {t : TypeId} (hg : w.heap[g]? = some (.cells cs t (0, 0))) : ∀ b, o = some b → b ≠ g := fun b e q => by
  subst e
  subst q
  obtain ⟨es, c, h1, _⟩ := h
  rw [h1] at hg
  cases hg
/-- Another Log is written: this one stands. -/
theorem LogP.other {w w1 : World} {g g2 : Nat} {E R S : Value → Option Value} (h : LogP w g E R S) {cs : Array Value} {t : TypeId} (h2 : w.heap[g2]? = some (.cells cs t (0, 0))) (hne : g ≠ g2) (hg : w.grownBy w1 (some g2)) : LogP w1 g E R S := by
  obtain ⟨oE, oR, oS, h1, m1, m2, m3, h5⟩ := h
  have key : ∀ b, b < w.heap.size → b ≠ g2 → w1.heap[b]? = w.heap[b]? := fun b hb hn => hg.block b hb (fun e => hn (Option.some.inj e))
  exact ⟨oE, oR, oS, (key g (blk_lt h1) hne).trans h1, m1.move (fun b e => key b (m1.lt b e) (m1.ne h2 b e)), m2.move (fun b e => key b (m2.lt b e) (m2.ne h2 b e)), m3.move (fun b e => key b (m3.lt b e) (m3.ne h2 b e)), h5⟩
/-- What the row of steps knows. -/
def StOk (s : S35) : Prop := s.f0.size ≤ 140737488351232 ∧ (Lit.int .i64 s.f1).wf = true ∧ (Lit.int .i64 s.f2).wf = true ∧ (Lit.int .i64 s.f3).wf = true ∧ (Lit.int .i64 s.f4).wf = true ∧ s.f5.length ≤ 140737488355328 ∧ ∀ b ∈ s.f5, (Lit.int .i64 b.f0).wf = true ∧ (Lit.int .i64 b.f1).wf = true ∧ (Lit.int .i64 b.f2).wf = true ∧ (Lit.int .i64 b.f3).wf = true ∧ b.f4.length ≤ 140737488355328 ∧ ∀ r ∈ b.f4, (Lit.int .i64 r.f5).wf = true
theorem StOk.arg {s : S35} (h : StOk s) (t : ByteArray) (ht : t.size ≤ maxLen) : SawArg t s.f1 s.f2 s.f3 s.f4 s.f5 := ⟨ht, h.2.1, h.2.2.1, h.2.2.2.1, h.2.2.2.2.1, h.2.2.2.2.2.1, h.2.2.2.2.2.2⟩
theorem StOk.none {s : S35} (h : StOk s) (t : ByteArray) (ht : t.size ≤ maxLen) : SawArg t s.f1 s.f2 s.f3 s.f4 [] := ⟨ht, h.2.1, h.2.2.1, h.2.2.2.1, h.2.2.2.2.1, by decide, fun _ h => by cases h⟩
theorem StOk.small {s : S35} (h : StOk s) : s.f5.length ≤ 140737488355328 ∧ ∀ b ∈ s.f5, b.f4.length ≤ 140737488355328 := ⟨h.2.2.2.2.2.1, fun b hb => (h.2.2.2.2.2.2 b hb).2.2.2.2.1⟩
theorem nX_size {t : ByteArray} (h : t.size ≤ 140737488351232) : (nX t).size ≤ maxLen := by
  unfold nX
  rw [ByteArray.size_append]
  exact Nat.le_trans (Nat.add_le_add_right h 1) (by decide)
theorem St_ok {l : List S35} (h : l.length * 72 ≤ 140737488351232 ∧ ∀ y0 ∈ l, (y0.f0.size ≤ 140737488351232 ∧ ((Lit.int .i64 y0.f1).wf = true ∧ ((Lit.int .i64 y0.f2).wf = true ∧ ((Lit.int .i64 y0.f3).wf = true ∧ ((Lit.int .i64 y0.f4).wf = true ∧ (y0.f5.length * 56 ≤ 140737488351232 ∧ ∀ y1 ∈ y0.f5, ((Lit.int .i64 y1.f0).wf = true ∧ ((Lit.int .i64 y1.f1).wf = true ∧ ((Lit.int .i64 y1.f2).wf = true ∧ ((Lit.int .i64 y1.f3).wf = true ∧ (y1.f4.length * 64 ≤ 140737488351232 ∧ ∀ y2 ∈ y1.f4, (True ∧ (y2.f1.size ≤ 140737488351232 ∧ (True ∧ (y2.f3.size ≤ 140737488351232 ∧ ((Lit.int .i64 y2.f4).wf = true ∧ (Lit.int .i64 y2.f5).wf = true))))))))))))))))) : l.length ≤ 140737488355328 ∧ ∀ s ∈ l, StOk s := by
  refine ⟨by omega, fun s hs => ?_⟩
  obtain ⟨h1, h2, h3, h4, h5, h6, h7⟩ := h.2 s hs
  refine ⟨h1, h2, h3, h4, h5, by omega, fun b hb => ?_⟩
  obtain ⟨b1, b2, b3, b4, b5, b6⟩ := h7 b hb
  exact ⟨b1, b2, b3, b4, by omega, fun r hr => (b6 r hr).2.2.2.2.2⟩
set_option maxHeartbeats 4000000 in
set_option maxRecDepth 100000 in
theorem bollardlaw24_CheckAlone.calls (k : Nat) (A0 : Option Addr) (c0 : Nat) (l0 : List S35) (r : Bool) (w : World) (hr0 : Kd.C k35 w A0 l0.length l0) (hc0 : l0.length ≤ c0) (h : bollardlaw24_CheckAlone.f k l0 = some r) :
    Calls Try.prog 5 #[.slice A0 l0.length c0] w fun e w' => e = .returned (.bool r) ∧ Below w.heap.size w w' := by
  unfold bollardlaw24_CheckAlone.f at h
  split at h
  case isFalse => cases h
  rename_i hcond
  obtain rfl := Option.some.inj h
  clear h
  obtain ⟨hlen, hok⟩ := St_ok hcond
  obtain ⟨ks, r1, hsm⟩ := small_some l0 hlen (fun s hs => (hok s hs).small)
  have HL := Aside0.mk hlen
  have HOK := Aside0.mk hok
  have HSM := Aside0.mk hsm
  have HR := Aside0.mk hr0
  have HC := Aside0.mk hc0
  clear hcond hlen hok hsm hr0 hc0
  go_enter Try.func5, Try.ntmps5
  go_wp2_with fail
  refine (bollardlaw24_small.calls ks A0 c0 l0 r1 _ HR.out HC.out HSM.out).mono ?_
  rintro e w1 ⟨rfl, hb⟩
  have B := Aside0.mk (show Below w.heap.size w w1 from by first | exact hb | exact hb.below)
  clear hb
  cases r1 with
  | false =>
    go_wp2_with fail
    refine (bollardlaw24_awake.calls _).mono ?_
    rintro e w2 ⟨rfl, hb⟩
    have B2 := Aside0.mk (below_step B.out hb)
    clear hb
    go_wp2_with fail
    go_ret
    exact ⟨rfl, B2.out⟩
  | true =>
    go_wp2_with fail
    refine (check_New.calls _).mono ?_
    rintro e w2 ⟨ga, rfl, hga, hLa, hb⟩
    have GA := Aside0.mk (show w.heap.size ≤ ga from Nat.le_trans B.out.size hga)
    have B2 := Aside0.mk (below_step B.out hb)
    have LA := Aside0.mk hLa
    clear hga hLa hb B
    go_wp2_with fail
    have LA2 := Aside0.mk (LA.out.below (bel1 w2 (.cells #[.map none, .map none, .map none] 59)))
    have LB := Aside0.mk (show LogP (w2.alloc (.cells #[.map none, .map none, .map none] 59)) w2.heap.size N0 N0 N0 from ⟨none, none, none, heap_alloc_new w2 _, fun _ => rfl, fun _ => rfl, fun _ => rfl, ShE.none, ShR.none, ShS.none⟩)
    have B3 := Aside0.mk (below_step B2.out (bel1 w2 (.cells #[.map none, .map none, .map none] 59)))
    have GB := Aside0.mk (show w.heap.size ≤ w2.heap.size ∧ w2.heap.size ≠ ga from ⟨B2.out.size, by obtain ⟨_, h_⟩ := LA.out.cells; have := blk_lt h_; omega⟩)
    clear LA B2
    generalize w2.alloc (.cells #[.map none, .map none, .map none] 59) = w3 at LA2 LB B3 ⊢
    obtain ⟨gb, hgb⟩ : ∃ gb, gb = w2.heap.size := ⟨_, rfl⟩
    rw [← hgb] at LB GB ⊢
    clear hgb
    go_loopg [5] (l0.length + 1) (fun kq v5 wr => ∃ (i : Int) (Ea Ra Sa Eb Rb Sb : Value → Option Value), v5 = .int .i64 i ∧ Aside0 (kq + i.toNat = l0.length + 1 ∧ 0 ≤ i ∧ i ≤ (l0.length : Int)) ∧ Aside0 (LogP wr ga Ea Ra Sa ∧ LogP wr gb Eb Rb Sb ∧ RelE Ea Eb ∧ RelR Ra Rb ∧ RelS Sa Sb ∧ Below w.heap.size w wr))
    case atStart => exact ⟨0, _, _, _, _, _, _, rfl, ⟨by simp, by omega, by omega⟩, ⟨LA2.out, LB.out, rel_N.1, rel_N.2.1, rel_N.2.2, B3.out⟩⟩
    case round =>
      obtain ⟨i, Ea, Ra, Sa, Eb, Rb, Sb, rfl, HI, HS⟩ := hrel
      clear LA2 LB B3
      by_cases hi : i < (l0.length : Int)
      case neg =>
        have d1 : decide (i < (l0.length : Int)) = false := decide_eq_false hi
        clear hi
        go_wp2_with fail
        refine (check_nil.calls _ _ _ _ _ _ _).mono ?_
        rintro e w4 ⟨rfl, hb⟩
        have B4 := Aside0.mk (below_step HS.out.2.2.2.2.2 hb)
        clear hb
        go_wp2_with fail
        refine (bollardlaw24_awake.calls _).mono ?_
        rintro e w5 ⟨rfl, hb⟩
        have B5 := Aside0.mk (below_step B4.out hb)
        clear hb
        go_wp2_with fail
        go_ret
        exact ⟨rfl, B5.out⟩
      case pos =>
        have d1 : decide (i < (l0.length : Int)) = true := decide_eq_true hi
        have h0 := HI.out.2.1
        obtain ⟨ad, A5, c5, ea, x0, x1, x2, x3, x4, x5, l5, g5⟩ := at_T35 HR.out i h0 hi
        replace x0 := pw_cell_below HS.out.2.2.2.2.2 x0
        replace x1 := pw_cell_below HS.out.2.2.2.2.2 x1
        replace x2 := pw_cell_below HS.out.2.2.2.2.2 x2
        replace x3 := pw_cell_below HS.out.2.2.2.2.2 x3
        replace x4 := pw_cell_below HS.out.2.2.2.2.2 x4
        replace x5 := pw_cell_below HS.out.2.2.2.2.2 x5
        have HOKi := Aside0.mk (show StOk (rd_T35 l0 i) from HOK.out _ (get_mem z35 h0 hi))
        have HC5 := Aside0.mk (And.intro g5 l5)
        have p1 := eq_true h0
        have p2 := eq_true hi
        have HI2 := Aside0.mk hi
        clear g5 l5 h0 hi
        cases ea
        go_upto_region 9 with fail
        (try simp only [Act.put, List.setIfInBounds_toArray, List.set_cons_zero, List.set_cons_succ])
        have K1 := Aside0.mk (show LogP (wr.alloc (.cells #[.string (rd_T35 l0 i).f0, .int .i64 (rd_T35 l0 i).f1, .int .i64 (rd_T35 l0 i).f2, .int .i64 (rd_T35 l0 i).f3, .int .i64 (rd_T35 l0 i).f4, .slice A5 (rd_T35 l0 i).f5.length c5] 35)) ga Ea Ra Sa ∧ LogP (wr.alloc (.cells #[.string (rd_T35 l0 i).f0, .int .i64 (rd_T35 l0 i).f1, .int .i64 (rd_T35 l0 i).f2, .int .i64 (rd_T35 l0 i).f3, .int .i64 (rd_T35 l0 i).f4, .slice A5 (rd_T35 l0 i).f5.length c5] 35)) gb Eb Rb Sb ∧ Below w.heap.size w (wr.alloc (.cells #[.string (rd_T35 l0 i).f0, .int .i64 (rd_T35 l0 i).f1, .int .i64 (rd_T35 l0 i).f2, .int .i64 (rd_T35 l0 i).f3, .int .i64 (rd_T35 l0 i).f4, .slice A5 (rd_T35 l0 i).f5.length c5] 35)) ∧ (wr.alloc (.cells #[.string (rd_T35 l0 i).f0, .int .i64 (rd_T35 l0 i).f1, .int .i64 (rd_T35 l0 i).f2, .int .i64 (rd_T35 l0 i).f3, .int .i64 (rd_T35 l0 i).f4, .slice A5 (rd_T35 l0 i).f5.length c5] 35)).heap[wr.heap.size]? = some (.cells #[.string (rd_T35 l0 i).f0, .int .i64 (rd_T35 l0 i).f1, .int .i64 (rd_T35 l0 i).f2, .int .i64 (rd_T35 l0 i).f3, .int .i64 (rd_T35 l0 i).f4, .slice A5 (rd_T35 l0 i).f5.length c5] 35 (0, 0)) from ⟨HS.out.1.below (bel1 wr _), HS.out.2.1.below (bel1 wr _), below_step HS.out.2.2.2.2.2 (bel1 wr _), heap_alloc_new wr _⟩)
        have HREL := Aside0.mk (And.intro HS.out.2.2.1 (And.intro HS.out.2.2.2.1 HS.out.2.2.2.2.1))
        have HGS := Aside0.mk (show ga ≠ wr.heap.size ∧ gb ≠ wr.heap.size from ⟨by obtain ⟨_, h_⟩ := HS.out.1.cells; have := blk_lt h_; omega, by obtain ⟨_, h_⟩ := HS.out.2.1.cells; have := blk_lt h_; omega⟩)
        clear x0 x1 x2 x3 x4 x5 HS
        generalize wr.alloc (.cells #[.string (rd_T35 l0 i).f0, .int .i64 (rd_T35 l0 i).f1, .int .i64 (rd_T35 l0 i).f2, .int .i64 (rd_T35 l0 i).f3, .int .i64 (rd_T35 l0 i).f4, .slice A5 (rd_T35 l0 i).f5.length c5] 35) = w4 at K1 ⊢
        obtain ⟨gs, hgs⟩ : ∃ gs, gs = wr.heap.size := ⟨_, rfl⟩
        rw [← hgs] at K1 HGS ⊢
        clear hgs
        have s0 := (blk_cell K1.out.2.2.2 0).trans rfl
        have s1 := (blk_cell K1.out.2.2.2 1).trans rfl
        have s2 := (blk_cell K1.out.2.2.2 2).trans rfl
        have s3 := (blk_cell K1.out.2.2.2 3).trans rfl
        have s4 := (blk_cell K1.out.2.2.2 4).trans rfl
        have s5 := (blk_cell K1.out.2.2.2 5).trans rfl
        go_wp2_with fail
        refine (check_Log_Saw.calls ga Ea Ra Sa (rd_T35 l0 i).f0 (rd_T35 l0 i).f1 (rd_T35 l0 i).f2 (rd_T35 l0 i).f3 (rd_T35 l0 i).f4 A5 c5 (rd_T35 l0 i).f5 w4 K1.out.1 (Kd.C_below HC5.out.1 K1.out.2.2.1) HC5.out.2 (HOKi.out.arg _ (Nat.le_trans HOKi.out.1 (by decide)))).mono ?_
        rintro e w5 ⟨rfl, hl5, hg5⟩
        obtain ⟨csa, hca⟩ := K1.out.1.cells
        have K2 := Aside0.mk (show LogP w5 ga _ _ _ ∧ LogP w5 gb Eb Rb Sb ∧ Below w.heap.size w w5 ∧ w5.heap[gs]? = some (.cells #[.string (rd_T35 l0 i).f0, .int .i64 (rd_T35 l0 i).f1, .int .i64 (rd_T35 l0 i).f2, .int .i64 (rd_T35 l0 i).f3, .int .i64 (rd_T35 l0 i).f4, .slice A5 (rd_T35 l0 i).f5.length c5] 35 (0, 0)) from ⟨hl5, K1.out.2.1.other hca GB.out.2 hg5, chg_old K1.out.2.2.1 GA.out hg5, (hg5.block gs (blk_lt K1.out.2.2.2) (fun e_ => HGS.out.1 (Option.some.inj e_).symm)).trans K1.out.2.2.2⟩)
        clear hl5 hg5 hca K1 s0 s1 s2 s3 s4 s5
        have hsz_ : ¬ 9223372036854775807 < (rd_T35 l0 i).f0.size + 1 := by have := HOKi.out.1; omega
        have s0 := (blk_cell K2.out.2.2.2 0).trans rfl
        have s1 := (blk_cell K2.out.2.2.2 1).trans rfl
        have s2 := (blk_cell K2.out.2.2.2 2).trans rfl
        have s3 := (blk_cell K2.out.2.2.2 3).trans rfl
        have s4 := (blk_cell K2.out.2.2.2 4).trans rfl
        have s5 := (blk_cell K2.out.2.2.2 5).trans rfl
        go_wp2_with fail
        refine (check_Log_Saw.calls gb Eb Rb Sb (nX (rd_T35 l0 i).f0) (rd_T35 l0 i).f1 (rd_T35 l0 i).f2 (rd_T35 l0 i).f3 (rd_T35 l0 i).f4 A5 c5 (rd_T35 l0 i).f5 w5 K2.out.2.1 (Kd.C_below HC5.out.1 K2.out.2.2.1) HC5.out.2 (HOKi.out.arg _ (nX_size HOKi.out.1))).mono ?_
        rintro e w6 ⟨rfl, hl6, hg6⟩
        obtain ⟨csb, hcb⟩ := K2.out.2.1.cells
        have K3 := Aside0.mk (show LogP w6 ga _ _ _ ∧ LogP w6 gb _ _ _ ∧ Below w.heap.size w w6 ∧ w6.heap[gs]? = some (.cells #[.string (rd_T35 l0 i).f0, .int .i64 (rd_T35 l0 i).f1, .int .i64 (rd_T35 l0 i).f2, .int .i64 (rd_T35 l0 i).f3, .int .i64 (rd_T35 l0 i).f4, .slice A5 (rd_T35 l0 i).f5.length c5] 35 (0, 0)) from ⟨K2.out.1.other hcb GB.out.2.symm hg6, hl6, chg_old K2.out.2.2.1 GB.out.1 hg6, (hg6.block gs (blk_lt K2.out.2.2.2) (fun e_ => HGS.out.2 (Option.some.inj e_).symm)).trans K2.out.2.2.2⟩)
        have hrs := rel_saw (rd_T35 l0 i).f0 (rd_T35 l0 i).f1 (rd_T35 l0 i).f2 (rd_T35 l0 i).f3 (rd_T35 l0 i).f4 (rd_T35 l0 i).f5 HREL.out.1 HREL.out.2.1 HREL.out.2.2
        have HX := Aside0.mk hrs.1
        have HREL2 := Aside0.mk hrs.2
        clear hl6 hg6 hcb K2 s0 s1 s2 s3 s4 s5 hsz_ hrs HREL
        have s0 := (blk_cell K3.out.2.2.2 0).trans rfl
        have s1 := (blk_cell K3.out.2.2.2 1).trans rfl
        have s2 := (blk_cell K3.out.2.2.2 2).trans rfl
        have s3 := (blk_cell K3.out.2.2.2 3).trans rfl
        have s4 := (blk_cell K3.out.2.2.2 4).trans rfl
        have s5 := (blk_cell K3.out.2.2.2 5).trans rfl
        go_wp2_with fail
        refine (check_Log_Saw.calls gb _ _ _ (⟨#[111, 116, 104, 101, 114]⟩ : ByteArray) (rd_T35 l0 i).f1 (rd_T35 l0 i).f2 (rd_T35 l0 i).f3 (rd_T35 l0 i).f4 none 0 [] w6 K3.out.2.1 (rows_nil _) (Nat.le_refl 0) (HOKi.out.none _ (by decide))).mono ?_
        rintro e w7 ⟨rfl, hl7, hg7⟩
        obtain ⟨csb, hcb⟩ := K3.out.2.1.cells
        obtain ⟨o1, o2, o3⟩ := rel_oth (rd_T35 l0 i).f1 (rd_T35 l0 i).f2 (rd_T35 l0 i).f3 (rd_T35 l0 i).f4 HREL2.out.1 (R' := (sawF (nX (rd_T35 l0 i).f0) (rd_T35 l0 i).f1 (rd_T35 l0 i).f2 (rd_T35 l0 i).f3 (rd_T35 l0 i).f4 (rd_T35 l0 i).f5 Eb Rb Sb).2.2.1) (S' := (sawF (nX (rd_T35 l0 i).f0) (rd_T35 l0 i).f1 (rd_T35 l0 i).f2 (rd_T35 l0 i).f3 (rd_T35 l0 i).f4 (rd_T35 l0 i).f5 Eb Rb Sb).2.2.2)
        rw [o2, o3] at hl7
        have K4 := Aside0.mk (show LogP w7 ga _ _ _ ∧ LogP w7 gb _ _ _ ∧ Below w.heap.size w w7 from ⟨K3.out.1.other hcb GB.out.2.symm hg7, hl7, chg_old K3.out.2.2.1 GB.out.1 hg7⟩)
        have HREL3 := Aside0.mk (And.intro o1 HREL2.out.2)
        clear hl7 hg7 hcb K3 s0 s1 s2 s3 s4 s5 o1 o2 o3 HREL2
        have e1 : IntKind.i64.wrap (i + 1) = i + 1 := (i64_w _).trans (by have := HI.out; have := HL.out; unfold wrap64; omega)
        generalize (sawF (nX (rd_T35 l0 i).f0) (rd_T35 l0 i).f1 (rd_T35 l0 i).f2 (rd_T35 l0 i).f3 (rd_T35 l0 i).f4 (rd_T35 l0 i).f5 Eb Rb Sb).1 = qb at HX ⊢
        generalize (sawF (rd_T35 l0 i).f0 (rd_T35 l0 i).f1 (rd_T35 l0 i).f2 (rd_T35 l0 i).f3 (rd_T35 l0 i).f4 (rd_T35 l0 i).f5 Ea Ra Sa).1 = qa at HX ⊢
        obtain rfl : qb = qa := HX.out
        have f1 : (qb != qb) = false := by simp
        go_wp2_with fail
        go_roundg (l0.length + 1 - (i + 1).toNat)
        case measure => have := HI.out; have := HI2.out; omega
        case rel => exact ⟨i + 1, _, _, _, _, _, _, by first | rfl | rw [e1], ⟨by have := HI.out; have := HI2.out; omega, by have := HI.out; omega, by have := HI2.out; omega⟩, ⟨K4.out.1, K4.out.2.1, HREL3.out.1, HREL3.out.2.1, HREL3.out.2.2, K4.out.2.2⟩⟩

end Go.Proofs.Ytdlkofmcioalfaa.PCk
