import Derived.Test.YtdlkofmcioalfaaQChLW
import Derived.Test.YtdlkofmcioalfaaQChRW
import Derived.Test.YtdlkofmcioalfaaQPCkx3
import Derived.Outline
import Derived.StillTailTactics
import Derived.RegionTactic
import Derived.BigRegion
import Derived.Lib.BufferWrite
namespace Go.Proofs.Ytdlkofmcioalfaa.PCk
open Go.RowKit Go.Proofs.YtdlkofmcioalfaaW.PrintWords Go.Proofs.YtdlkofmcioalfaaW.PrintLast Go.Proofs.YtdlkofmcioalfaaW.PrintMore
attribute [local go_sem] max2_int min2_int max_two min_two max_three min_three max_four min_four
set_option linter.unusedVariables false
set_option linter.unusedSimpArgs false

/-! ### CheckSaw -/
theorem IsRow.step {cs : Array Value} : ¬ IsRow (.cells cs 35 (0, 0)) := by
  rintro ⟨c1, t, e, ht⟩
  injection e with _ e _
  rcases ht with ht | ht | ht <;> (rw [ht] at e; revert e; decide)
theorem ChkP.below {base m : Nat} {w w1 : World} {F : List Fct} {T : List Snt} {P : List Spn} (h : ChkP base w m F T P) (hb : Below w.heap.size w w1) : ChkP base w1 m F T P := by
  obtain ⟨vF, vS, vP, h1, h2, h3, h4⟩ := h
  exact ⟨vF, vS, vP, blk_below h1 hb, h2.move fun k hk => hb.block k (own_lt h2 k hk), h3.move fun k hk => hb.block k (own_lt h3 k hk), h4.move fun k hk => hb.block k (own_lt h4 k hk)⟩
theorem ChkP.blk {base m : Nat} {w : World} {F : List Fct} {T : List Snt} {P : List Spn} (h : ChkP base w m F T P) : ∃ cs, w.heap[m]? = some (.cells cs 32 (0, 0)) := by
  obtain ⟨vF, vS, vP, h1, _⟩ := h
  exact ⟨_, h1⟩
theorem ChkP.start (base : Nat) (w : World) : ChkP base (w.alloc (.cells #[.slice none 0 0, .slice none 0 0, .slice none 0 0] 32)) w.heap.size [] [] [] :=
  ⟨_, _, _, heap_alloc_new w _, ORow.nil _ _ _ _ _, ORow.nil _ _ _ _ _, ORow.nil _ _ _ _ _⟩
/-- A step's cell stands behind the document's Saw. -/
theorem Keep.step {base m gs : Nat} {w w1 : World} {cs cm : Array Value} (h : Keep base m w w1) (hg : w.heap[gs]? = some (.cells cs 35 (0, 0))) (hm : w.heap[m]? = some (.cells cm 32 (0, 0))) : w1.heap[gs]? = some (.cells cs 35 (0, 0)) :=
  h.keep gs _ hg (fun e => by subst e; rw [hm] at hg; injection hg with hg; injection hg with _ hg _; exact absurd hg (by decide)) (fun hr => IsRow.step hr.2)
def Lens (F : List Fct) (T : List Snt) (P : List Spn) (n : Nat) : Prop := F.length + n ≤ 400 ∧ T.length + n ≤ 400 ∧ P.length + n ≤ 400
theorem Lens.arg {F : List Fct} {T : List Snt} {P : List Spn} {s : S35} {r : List (S35)} (h : Lens F T P (tot (s :: r))) : F.length + recs s.f5 ≤ 1000000000 ∧ T.length + s.f5.length ≤ 1000000000 ∧ P.length ≤ 1000000000 := by
  obtain ⟨h1, h2, h3⟩ := h
  rw [tot_cons] at h1 h2 h3
  unfold tot1 at h1 h2 h3
  exact ⟨by omega, by omega, by omega⟩
theorem Lens.next {F : List Fct} {T : List Snt} {P : List Spn} {s : S35} {r : List (S35)} (h : Lens F T P (tot (s :: r))) : Lens (refF s.f0 s.f1 s.f2 s.f3 s.f4 s.f5 F T P).2.1 (refF s.f0 s.f1 s.f2 s.f3 s.f4 s.f5 F T P).2.2.1 (refF s.f0 s.f1 s.f2 s.f3 s.f4 s.f5 F T P).2.2.2 (tot r) := by
  obtain ⟨h1, h2, h3⟩ := h
  rw [tot_cons] at h1 h2 h3
  unfold tot1 at h1 h2 h3
  obtain ⟨g1, g2, g3⟩ := refF_len s.f0 s.f1 s.f2 s.f3 s.f4 s.f5 F T P
  exact ⟨by omega, by omega, by omega⟩
/-- What the bulk's bound gives. -/
def wt3 (y2 : SR) : Nat := (1 + ((y2.f1.size + 1) + (1 + ((y2.f3.size + 1) + (1 + 1))))) + 1
def wt2 (y1 : SB) : Nat := (1 + (1 + (1 + (1 + ((y1.f4.map wt3).sum + 1))))) + 1
def wt1 (y0 : S35) : Nat := ((y0.f0.size + 1) + (1 + (1 + (1 + (1 + ((y0.f5.map wt2).sum + 1)))))) + 1
theorem sum_len {α : Type} (m : α → Nat) (hm : ∀ x, 1 ≤ m x) : ∀ l : List α, l.length ≤ (l.map m).sum
  | [] => by simp
  | x :: l => by have := sum_len m hm l; have := hm x; simp only [List.map_cons, List.sum_cons, List.length_cons]; omega
theorem sum_recs (m : SB → Nat) (hm : ∀ b, b.f4.length + 1 ≤ m b) : ∀ l : List SB, recs l + l.length ≤ (l.map m).sum
  | [] => by simp [recs]
  | b :: l => by have := sum_recs m hm l; have := hm b; rw [recs_cons]; simp only [List.map_cons, List.sum_cons, List.length_cons]; omega
theorem wt_tot1 (s : S35) : tot1 s ≤ wt1 s := by
  unfold tot1 wt1
  have := sum_recs wt2 (fun b => by
    have := sum_len wt3 (fun x => by unfold wt3; omega) b.f4
    unfold wt2
    omega) s.f5
  omega
theorem wt_tot : ∀ l : List (S35), tot l ≤ (l.map wt1).sum
  | [] => by simp [tot]
  | s :: l => by have := wt_tot l; have := wt_tot1 s; rw [tot_cons]; simp only [List.map_cons, List.sum_cons]; omega
theorem tot_len : ∀ l : List (S35), l.length ≤ tot l
  | [] => by simp [tot]
  | s :: l => by have := tot_len l; rw [tot_cons, List.length_cons]; unfold tot1; omega
set_option maxHeartbeats 16000000 in
set_option maxRecDepth 100000 in
theorem bollardlaw24_CheckSaw.calls (k : Nat) (A0 : Option Addr) (c0 : Nat) (l0 : List S35) (r : Bool) (w : World) (hr0 : Kd.C k35 w A0 l0.length l0) (hc0 : l0.length ≤ c0) (h : bollardlaw24_CheckSaw.f k l0 = some r) :
    Calls Try.prog 3 #[.slice A0 l0.length c0] w fun e w' => e = .returned (.bool r) ∧ Below w.heap.size w w' := by
  unfold bollardlaw24_CheckSaw.f at h
  split at h
  case isFalse => cases h
  rename_i hcond
  obtain rfl := Option.some.inj h
  clear h
  have hT0 : tot l0 ≤ 1048576 := Nat.le_trans (wt_tot l0) (Nat.le_trans (Nat.le_succ _) (show (l0.map wt1).sum + 1 ≤ 1048576 from hcond.2))
  obtain ⟨hlen, hok⟩ := St_ok hcond.1
  obtain ⟨ks, r1, hsm⟩ := small_some l0 hlen (fun s hs => (hok s hs).small)
  have hST : r1 = true → (∀ s ∈ l0, GSt s) ∧ tot l0 ≤ 400 := fun e => small_true l0 (by rw [← e]; exact hsm) (by omega) (by have := tot_len l0; omega)
  have HL := Aside0.mk (And.intro hlen (Nat.le_trans (tot_len l0) hT0))
  have HOK := Aside0.mk hok
  have HSM := Aside0.mk hsm
  have HR := Aside0.mk hr0
  have HC := Aside0.mk hc0
  have HT := Aside0.mk hST
  clear hcond hlen hok hsm hr0 hc0 hST hT0
  go_enter Try.func3, Try.ntmps3
  go_wp2_with fail
  refine (bollardlaw24_small.calls ks A0 c0 l0 r1 _ HR.out HC.out HSM.out).mono ?_
  rintro e w1 ⟨rfl, hb⟩
  have B := Aside0.mk (show Below w.heap.size w w1 from by first | exact hb | exact hb.below)
  clear hb
  cases r1 with
  | false =>
    go_wp2_with fail
    refine (bollardlaw24_awake.calls _).mono ?_
    rintro e w2 ⟨rfl, hb⟩
    have B2 := Aside0.mk (below_step B.out hb)
    clear hb
    go_wp2_with fail
    go_ret
    exact ⟨rfl, B2.out⟩
  | true =>
    have HG := Aside0.mk (HT.out rfl)
    clear HT
    go_wp2_with fail
    refine (check_New.calls _).mono ?_
    rintro e w2 ⟨ga, rfl, hga, hLa, hb⟩
    have GA := Aside0.mk (show w.heap.size ≤ ga from Nat.le_trans B.out.size hga)
    have B2 := Aside0.mk (below_step B.out hb)
    have LA := Aside0.mk hLa
    clear hga hLa hb B
    go_wp2_with fail
    have LA2 := Aside0.mk (LA.out.below (bel1 w2 (.cells #[.slice none 0 0, .slice none 0 0, .slice none 0 0] 32)))
    have LM := Aside0.mk (ChkP.start w.heap.size w2)
    have B3 := Aside0.mk (below_step B2.out (bel1 w2 (.cells #[.slice none 0 0, .slice none 0 0, .slice none 0 0] 32)))
    have GM := Aside0.mk (show w.heap.size ≤ w2.heap.size from B2.out.size)
    clear LA B2
    generalize w2.alloc (.cells #[.slice none 0 0, .slice none 0 0, .slice none 0 0] 32) = w3 at LA2 LM B3 ⊢
    obtain ⟨m, hm_⟩ : ∃ m, m = w2.heap.size := ⟨_, rfl⟩
    rw [← hm_] at LM GM ⊢
    clear hm_
    go_loopg [5] (l0.length + 1) (fun kq v5 wr => ∃ (i : Int) (E R S : Value → Option Value) (FA : List Fct) (SA : List Snt) (PA : List Spn), v5 = .int .i64 i ∧ Aside0 (kq + i.toNat = l0.length + 1 ∧ 0 ≤ i ∧ i ≤ (l0.length : Int)) ∧ Aside0 (LogP wr ga E R S ∧ ChkP w.heap.size wr m FA SA PA ∧ Sim E R S FA SA PA ∧ Below w.heap.size w wr ∧ Lens FA SA PA (tot (l0.drop i.toNat))))
    case atStart => exact ⟨0, _, _, _, _, _, _, rfl, ⟨by simp, by omega, by omega⟩, ⟨LA2.out, LM.out, Sim.start, B3.out, ⟨by simpa using HG.out.2, by simpa using HG.out.2, by simpa using HG.out.2⟩⟩⟩
    case round =>
      obtain ⟨i, E, R, S, FA, SA, PA, rfl, HI, HS⟩ := hrel
      clear LA2 LM B3
      by_cases hi : i < (l0.length : Int)
      case neg =>
        have d1 : decide (i < (l0.length : Int)) = false := decide_eq_false hi
        clear hi
        go_wp2_with fail
        refine (bollardlaw24_awake.calls _).mono ?_
        rintro e w5 ⟨rfl, hb⟩
        have B5 := Aside0.mk (below_step HS.out.2.2.2.1 hb)
        clear hb
        go_wp2_with fail
        go_ret
        exact ⟨rfl, B5.out⟩
      case pos =>
        have d1 : decide (i < (l0.length : Int)) = true := decide_eq_true hi
        have h0 := HI.out.2.1
        obtain ⟨ad, A5, c5, ea, x0, x1, x2, x3, x4, x5, l5, g5⟩ := at_T35 HR.out i h0 hi
        replace x0 := pw_cell_below HS.out.2.2.2.1 x0
        replace x1 := pw_cell_below HS.out.2.2.2.1 x1
        replace x2 := pw_cell_below HS.out.2.2.2.1 x2
        replace x3 := pw_cell_below HS.out.2.2.2.1 x3
        replace x4 := pw_cell_below HS.out.2.2.2.1 x4
        replace x5 := pw_cell_below HS.out.2.2.2.1 x5
        have HOKi := Aside0.mk (And.intro (show StOk (rd_T35 l0 i) from HOK.out _ (get_mem z35 h0 hi)) (show GSt (rd_T35 l0 i) from HG.out.1 _ (get_mem z35 h0 hi)))
        have HLen := Aside0.mk (show Lens FA SA PA (tot ((rd_T35 l0 i) :: l0.drop (i + 1).toNat)) from by have h_ := HS.out.2.2.2.2; rw [drop_get z35 h0 hi] at h_; exact h_)
        have HC5 := Aside0.mk (And.intro g5 l5)
        have p1 := eq_true h0
        have p2 := eq_true hi
        have HI2 := Aside0.mk hi
        clear g5 l5 h0 hi
        cases ea
        go_upto_region 11 with fail
        (try simp only [Act.put, List.setIfInBounds_toArray, List.set_cons_zero, List.set_cons_succ])
        have K1 := Aside0.mk (show LogP (wr.alloc (.cells #[.string (rd_T35 l0 i).f0, .int .i64 (rd_T35 l0 i).f1, .int .i64 (rd_T35 l0 i).f2, .int .i64 (rd_T35 l0 i).f3, .int .i64 (rd_T35 l0 i).f4, .slice A5 (rd_T35 l0 i).f5.length c5] 35)) ga E R S ∧ ChkP w.heap.size (wr.alloc (.cells #[.string (rd_T35 l0 i).f0, .int .i64 (rd_T35 l0 i).f1, .int .i64 (rd_T35 l0 i).f2, .int .i64 (rd_T35 l0 i).f3, .int .i64 (rd_T35 l0 i).f4, .slice A5 (rd_T35 l0 i).f5.length c5] 35)) m FA SA PA ∧ Below w.heap.size w (wr.alloc (.cells #[.string (rd_T35 l0 i).f0, .int .i64 (rd_T35 l0 i).f1, .int .i64 (rd_T35 l0 i).f2, .int .i64 (rd_T35 l0 i).f3, .int .i64 (rd_T35 l0 i).f4, .slice A5 (rd_T35 l0 i).f5.length c5] 35)) ∧ (wr.alloc (.cells #[.string (rd_T35 l0 i).f0, .int .i64 (rd_T35 l0 i).f1, .int .i64 (rd_T35 l0 i).f2, .int .i64 (rd_T35 l0 i).f3, .int .i64 (rd_T35 l0 i).f4, .slice A5 (rd_T35 l0 i).f5.length c5] 35)).heap[wr.heap.size]? = some (.cells #[.string (rd_T35 l0 i).f0, .int .i64 (rd_T35 l0 i).f1, .int .i64 (rd_T35 l0 i).f2, .int .i64 (rd_T35 l0 i).f3, .int .i64 (rd_T35 l0 i).f4, .slice A5 (rd_T35 l0 i).f5.length c5] 35 (0, 0)) from ⟨HS.out.1.below (bel1 wr _), HS.out.2.1.below (bel1 wr _), below_step HS.out.2.2.2.1 (bel1 wr _), heap_alloc_new wr _⟩)
        have HREL := Aside0.mk HS.out.2.2.1
        have HGS := Aside0.mk (show ga ≠ wr.heap.size from by obtain ⟨_, h_⟩ := HS.out.1.cells; have := blk_lt h_; omega)
        clear x0 x1 x2 x3 x4 x5 HS
        generalize wr.alloc (.cells #[.string (rd_T35 l0 i).f0, .int .i64 (rd_T35 l0 i).f1, .int .i64 (rd_T35 l0 i).f2, .int .i64 (rd_T35 l0 i).f3, .int .i64 (rd_T35 l0 i).f4, .slice A5 (rd_T35 l0 i).f5.length c5] 35) = w4 at K1 ⊢
        obtain ⟨gs, hgs⟩ : ∃ gs, gs = wr.heap.size := ⟨_, rfl⟩
        rw [← hgs] at K1 HGS ⊢
        clear hgs
        refine start_ (n := 29) (S := fun w' => w'.heap[gs]? = some (.cells #[.string (rd_T35 l0 i).f0, .int .i64 (rd_T35 l0 i).f1, .int .i64 (rd_T35 l0 i).f2, .int .i64 (rd_T35 l0 i).f3, .int .i64 (rd_T35 l0 i).f4, .slice A5 (rd_T35 l0 i).f5.length c5] 35 (0, 0))) (ds := []) #[false, false, false, false, false, false, false, false, false, false, false, false, false, false, false, false, false, false, false, false, false, false, false, false, false, false, false, false, false] (by kernel_rfl) rfl rfl (blk_below K1.out.2.2.2 (below_drew1 (Below.refl _ _))) (fun hHeld => ?_)
        have K2 := Aside0.mk (show LogP w4.drew ga E R S ∧ ChkP w.heap.size w4.drew m FA SA PA ∧ Below w.heap.size w w4.drew from ⟨K1.out.1.below (below_drew1 (Below.refl _ _)), K1.out.2.1.below (below_drew1 (Below.refl _ _)), below_drew1 K1.out.2.2.1⟩)
        clear K1
        generalize w4.drew = w5 at K2 hHeld ⊢
        refine pure_ (i := 0) (N := some 26) (v := ?_) (a' := ?_) #[true, false, false, false, false, false, false, false, false, false, false, false, false, false, false, false, false, false, false, false, false, false, false, false, false, false, false, false, false] rfl rfl (by kernel_rfl) (fun _ _ _ h => h) (Or.inl ⟨by rfl, ?_⟩) ?_ ?_
        rotate_left
        · intro w'
          go_simp
          with_reducible rfl
        rotate_left
        · simp only [Act.put, List.setIfInBounds_toArray, List.set_cons_zero, List.set_cons_succ, i64_w, i32_w]
          rfl
        refine pure_ (i := 1) (N := some 27) (v := ?_) (a' := ?_) #[true, true, false, false, false, false, false, false, false, false, false, false, false, false, false, false, false, false, false, false, false, false, false, false, false, false, false, false, false] rfl rfl (by kernel_rfl) (fun _ _ _ h => h) (Or.inl ⟨by rfl, ?_⟩) ?_ ?_
        rotate_left
        · intro w'
          go_simp
          with_reducible rfl
        rotate_left
        · simp only [Act.put, List.setIfInBounds_toArray, List.set_cons_zero, List.set_cons_succ, i64_w, i32_w]
          rfl
        refine take_ (i := 2) (N := some 28) (v := ?_) (a' := ?_) #[true, true, true, false, false, false, false, false, false, false, false, false, false, false, false, false, false, false, false, false, false, false, false, false, false, false, false, false, false] rfl rfl (by kernel_rfl) (fun _ _ _ h => h) (Or.inl ⟨by rfl, ?_⟩) hHeld ?_ ?_
        rotate_left
        · intro w' s_
          have s0 := (blk_cell s_ 0).trans rfl
          clear s_
          go_simp
          with_reducible rfl
        rotate_left
        · simp only [Act.put, List.setIfInBounds_toArray, List.set_cons_zero, List.set_cons_succ, i64_w, i32_w]
          rfl
        refine pure_ (i := 3) (N := some 29) (v := ?_) (a' := ?_) #[true, true, true, true, false, false, false, false, false, false, false, false, false, false, false, false, false, false, false, false, false, false, false, false, false, false, false, false, false] rfl rfl (by kernel_rfl) (fun _ _ _ h => h) (Or.inl ⟨by rfl, ?_⟩) ?_ ?_
        rotate_left
        · intro w'
          go_simp
          with_reducible rfl
        rotate_left
        · simp only [Act.put, List.setIfInBounds_toArray, List.set_cons_zero, List.set_cons_succ, i64_w, i32_w]
          rfl
        refine take_ (i := 4) (N := some 30) (v := ?_) (a' := ?_) #[true, true, true, true, true, false, false, false, false, false, false, false, false, false, false, false, false, false, false, false, false, false, false, false, false, false, false, false, false] rfl rfl (by kernel_rfl) (fun _ _ _ h => h) (Or.inl ⟨by rfl, ?_⟩) hHeld ?_ ?_
        rotate_left
        · intro w' s_
          have s0 := (blk_cell s_ 1).trans rfl
          clear s_
          go_simp
          with_reducible rfl
        rotate_left
        · simp only [Act.put, List.setIfInBounds_toArray, List.set_cons_zero, List.set_cons_succ, i64_w, i32_w]
          rfl
        refine pure_ (i := 5) (N := some 31) (v := ?_) (a' := ?_) #[true, true, true, true, true, true, false, false, false, false, false, false, false, false, false, false, false, false, false, false, false, false, false, false, false, false, false, false, false] rfl rfl (by kernel_rfl) (fun _ _ _ h => h) (Or.inl ⟨by rfl, ?_⟩) ?_ ?_
        rotate_left
        · intro w'
          go_simp
          with_reducible rfl
        rotate_left
        · simp only [Act.put, List.setIfInBounds_toArray, List.set_cons_zero, List.set_cons_succ, i64_w, i32_w]
          rfl
        refine take_ (i := 6) (N := some 32) (v := ?_) (a' := ?_) #[true, true, true, true, true, true, true, false, false, false, false, false, false, false, false, false, false, false, false, false, false, false, false, false, false, false, false, false, false] rfl rfl (by kernel_rfl) (fun _ _ _ h => h) (Or.inl ⟨by rfl, ?_⟩) hHeld ?_ ?_
        rotate_left
        · intro w' s_
          have s0 := (blk_cell s_ 2).trans rfl
          clear s_
          go_simp
          with_reducible rfl
        rotate_left
        · simp only [Act.put, List.setIfInBounds_toArray, List.set_cons_zero, List.set_cons_succ, i64_w, i32_w]
          rfl
        refine pure_ (i := 7) (N := some 33) (v := ?_) (a' := ?_) #[true, true, true, true, true, true, true, true, false, false, false, false, false, false, false, false, false, false, false, false, false, false, false, false, false, false, false, false, false] rfl rfl (by kernel_rfl) (fun _ _ _ h => h) (Or.inl ⟨by rfl, ?_⟩) ?_ ?_
        rotate_left
        · intro w'
          go_simp
          with_reducible rfl
        rotate_left
        · simp only [Act.put, List.setIfInBounds_toArray, List.set_cons_zero, List.set_cons_succ, i64_w, i32_w]
          rfl
        refine take_ (i := 8) (N := some 34) (v := ?_) (a' := ?_) #[true, true, true, true, true, true, true, true, true, false, false, false, false, false, false, false, false, false, false, false, false, false, false, false, false, false, false, false, false] rfl rfl (by kernel_rfl) (fun _ _ _ h => h) (Or.inl ⟨by rfl, ?_⟩) hHeld ?_ ?_
        rotate_left
        · intro w' s_
          have s0 := (blk_cell s_ 3).trans rfl
          clear s_
          go_simp
          with_reducible rfl
        rotate_left
        · simp only [Act.put, List.setIfInBounds_toArray, List.set_cons_zero, List.set_cons_succ, i64_w, i32_w]
          rfl
        refine pure_ (i := 9) (N := some 35) (v := ?_) (a' := ?_) #[true, true, true, true, true, true, true, true, true, true, false, false, false, false, false, false, false, false, false, false, false, false, false, false, false, false, false, false, false] rfl rfl (by kernel_rfl) (fun _ _ _ h => h) (Or.inl ⟨by rfl, ?_⟩) ?_ ?_
        rotate_left
        · intro w'
          go_simp
          with_reducible rfl
        rotate_left
        · simp only [Act.put, List.setIfInBounds_toArray, List.set_cons_zero, List.set_cons_succ, i64_w, i32_w]
          rfl
        refine take_ (i := 10) (N := some 36) (v := ?_) (a' := ?_) #[true, true, true, true, true, true, true, true, true, true, true, false, false, false, false, false, false, false, false, false, false, false, false, false, false, false, false, false, false] rfl rfl (by kernel_rfl) (fun _ _ _ h => h) (Or.inl ⟨by rfl, ?_⟩) hHeld ?_ ?_
        rotate_left
        · intro w' s_
          have s0 := (blk_cell s_ 4).trans rfl
          clear s_
          go_simp
          with_reducible rfl
        rotate_left
        · simp only [Act.put, List.setIfInBounds_toArray, List.set_cons_zero, List.set_cons_succ, i64_w, i32_w]
          rfl
        refine pure_ (i := 11) (N := some 37) (v := ?_) (a' := ?_) #[true, true, true, true, true, true, true, true, true, true, true, true, false, false, false, false, false, false, false, false, false, false, false, false, false, false, false, false, false] rfl rfl (by kernel_rfl) (fun _ _ _ h => h) (Or.inl ⟨by rfl, ?_⟩) ?_ ?_
        rotate_left
        · intro w'
          go_simp
          with_reducible rfl
        rotate_left
        · simp only [Act.put, List.setIfInBounds_toArray, List.set_cons_zero, List.set_cons_succ, i64_w, i32_w]
          rfl
        refine take_ (i := 12) (N := some 38) (v := ?_) (a' := ?_) #[true, true, true, true, true, true, true, true, true, true, true, true, true, false, false, false, false, false, false, false, false, false, false, false, false, false, false, false, false] rfl rfl (by kernel_rfl) (fun _ _ _ h => h) (Or.inl ⟨by rfl, ?_⟩) hHeld ?_ ?_
        rotate_left
        · intro w' s_
          have s0 := (blk_cell s_ 5).trans rfl
          clear s_
          go_simp
          with_reducible rfl
        rotate_left
        · simp only [Act.put, List.setIfInBounds_toArray, List.set_cons_zero, List.set_cons_succ, i64_w, i32_w]
          rfl
        refine pure_ (i := 14) (N := some 40) (v := ?_) (a' := ?_) #[true, true, true, true, true, true, true, true, true, true, true, true, true, false, true, false, false, false, false, false, false, false, false, false, false, false, false, false, false] rfl rfl (by kernel_rfl) (fun _ _ _ h => h) (Or.inl ⟨by rfl, ?_⟩) ?_ ?_
        rotate_left
        · intro w'
          go_simp
          with_reducible rfl
        rotate_left
        · simp only [Act.put, List.setIfInBounds_toArray, List.set_cons_zero, List.set_cons_succ, i64_w, i32_w]
          rfl
        refine pure_ (i := 15) (N := some 41) (v := ?_) (a' := ?_) #[true, true, true, true, true, true, true, true, true, true, true, true, true, false, true, true, false, false, false, false, false, false, false, false, false, false, false, false, false] rfl rfl (by kernel_rfl) (fun _ _ _ h => h) (Or.inl ⟨by rfl, ?_⟩) ?_ ?_
        rotate_left
        · intro w'
          go_simp
          with_reducible rfl
        rotate_left
        · simp only [Act.put, List.setIfInBounds_toArray, List.set_cons_zero, List.set_cons_succ, i64_w, i32_w]
          rfl
        refine take_ (i := 16) (N := some 42) (v := ?_) (a' := ?_) #[true, true, true, true, true, true, true, true, true, true, true, true, true, false, true, true, true, false, false, false, false, false, false, false, false, false, false, false, false] rfl rfl (by kernel_rfl) (fun _ _ _ h => h) (Or.inl ⟨by rfl, ?_⟩) hHeld ?_ ?_
        rotate_left
        · intro w' s_
          have s0 := (blk_cell s_ 0).trans rfl
          clear s_
          go_simp
          with_reducible rfl
        rotate_left
        · simp only [Act.put, List.setIfInBounds_toArray, List.set_cons_zero, List.set_cons_succ, i64_w, i32_w]
          rfl
        refine pure_ (i := 17) (N := some 43) (v := ?_) (a' := ?_) #[true, true, true, true, true, true, true, true, true, true, true, true, true, false, true, true, true, true, false, false, false, false, false, false, false, false, false, false, false] rfl rfl (by kernel_rfl) (fun _ _ _ h => h) (Or.inl ⟨by rfl, ?_⟩) ?_ ?_
        rotate_left
        · intro w'
          go_simp
          with_reducible rfl
        rotate_left
        · simp only [Act.put, List.setIfInBounds_toArray, List.set_cons_zero, List.set_cons_succ, i64_w, i32_w]
          rfl
        refine take_ (i := 18) (N := some 44) (v := ?_) (a' := ?_) #[true, true, true, true, true, true, true, true, true, true, true, true, true, false, true, true, true, true, true, false, false, false, false, false, false, false, false, false, false] rfl rfl (by kernel_rfl) (fun _ _ _ h => h) (Or.inl ⟨by rfl, ?_⟩) hHeld ?_ ?_
        rotate_left
        · intro w' s_
          have s0 := (blk_cell s_ 1).trans rfl
          clear s_
          go_simp
          with_reducible rfl
        rotate_left
        · simp only [Act.put, List.setIfInBounds_toArray, List.set_cons_zero, List.set_cons_succ, i64_w, i32_w]
          rfl
        refine pure_ (i := 19) (N := some 45) (v := ?_) (a' := ?_) #[true, true, true, true, true, true, true, true, true, true, true, true, true, false, true, true, true, true, true, true, false, false, false, false, false, false, false, false, false] rfl rfl (by kernel_rfl) (fun _ _ _ h => h) (Or.inl ⟨by rfl, ?_⟩) ?_ ?_
        rotate_left
        · intro w'
          go_simp
          with_reducible rfl
        rotate_left
        · simp only [Act.put, List.setIfInBounds_toArray, List.set_cons_zero, List.set_cons_succ, i64_w, i32_w]
          rfl
        refine take_ (i := 20) (N := some 46) (v := ?_) (a' := ?_) #[true, true, true, true, true, true, true, true, true, true, true, true, true, false, true, true, true, true, true, true, true, false, false, false, false, false, false, false, false] rfl rfl (by kernel_rfl) (fun _ _ _ h => h) (Or.inl ⟨by rfl, ?_⟩) hHeld ?_ ?_
        rotate_left
        · intro w' s_
          have s0 := (blk_cell s_ 2).trans rfl
          clear s_
          go_simp
          with_reducible rfl
        rotate_left
        · simp only [Act.put, List.setIfInBounds_toArray, List.set_cons_zero, List.set_cons_succ, i64_w, i32_w]
          rfl
        refine pure_ (i := 21) (N := some 47) (v := ?_) (a' := ?_) #[true, true, true, true, true, true, true, true, true, true, true, true, true, false, true, true, true, true, true, true, true, true, false, false, false, false, false, false, false] rfl rfl (by kernel_rfl) (fun _ _ _ h => h) (Or.inl ⟨by rfl, ?_⟩) ?_ ?_
        rotate_left
        · intro w'
          go_simp
          with_reducible rfl
        rotate_left
        · simp only [Act.put, List.setIfInBounds_toArray, List.set_cons_zero, List.set_cons_succ, i64_w, i32_w]
          rfl
        refine take_ (i := 22) (N := some 48) (v := ?_) (a' := ?_) #[true, true, true, true, true, true, true, true, true, true, true, true, true, false, true, true, true, true, true, true, true, true, true, false, false, false, false, false, false] rfl rfl (by kernel_rfl) (fun _ _ _ h => h) (Or.inl ⟨by rfl, ?_⟩) hHeld ?_ ?_
        rotate_left
        · intro w' s_
          have s0 := (blk_cell s_ 3).trans rfl
          clear s_
          go_simp
          with_reducible rfl
        rotate_left
        · simp only [Act.put, List.setIfInBounds_toArray, List.set_cons_zero, List.set_cons_succ, i64_w, i32_w]
          rfl
        refine pure_ (i := 23) (N := some 49) (v := ?_) (a' := ?_) #[true, true, true, true, true, true, true, true, true, true, true, true, true, false, true, true, true, true, true, true, true, true, true, true, false, false, false, false, false] rfl rfl (by kernel_rfl) (fun _ _ _ h => h) (Or.inl ⟨by rfl, ?_⟩) ?_ ?_
        rotate_left
        · intro w'
          go_simp
          with_reducible rfl
        rotate_left
        · simp only [Act.put, List.setIfInBounds_toArray, List.set_cons_zero, List.set_cons_succ, i64_w, i32_w]
          rfl
        refine take_ (i := 24) (N := some 50) (v := ?_) (a' := ?_) #[true, true, true, true, true, true, true, true, true, true, true, true, true, false, true, true, true, true, true, true, true, true, true, true, true, false, false, false, false] rfl rfl (by kernel_rfl) (fun _ _ _ h => h) (Or.inl ⟨by rfl, ?_⟩) hHeld ?_ ?_
        rotate_left
        · intro w' s_
          have s0 := (blk_cell s_ 4).trans rfl
          clear s_
          go_simp
          with_reducible rfl
        rotate_left
        · simp only [Act.put, List.setIfInBounds_toArray, List.set_cons_zero, List.set_cons_succ, i64_w, i32_w]
          rfl
        refine pure_ (i := 25) (N := some 51) (v := ?_) (a' := ?_) #[true, true, true, true, true, true, true, true, true, true, true, true, true, false, true, true, true, true, true, true, true, true, true, true, true, true, false, false, false] rfl rfl (by kernel_rfl) (fun _ _ _ h => h) (Or.inl ⟨by rfl, ?_⟩) ?_ ?_
        rotate_left
        · intro w'
          go_simp
          with_reducible rfl
        rotate_left
        · simp only [Act.put, List.setIfInBounds_toArray, List.set_cons_zero, List.set_cons_succ, i64_w, i32_w]
          rfl
        refine take_ (i := 26) (N := some 52) (v := ?_) (a' := ?_) #[true, true, true, true, true, true, true, true, true, true, true, true, true, false, true, true, true, true, true, true, true, true, true, true, true, true, true, false, false] rfl rfl (by kernel_rfl) (fun _ _ _ h => h) (Or.inl ⟨by rfl, ?_⟩) hHeld ?_ ?_
        rotate_left
        · intro w' s_
          have s0 := (blk_cell s_ 5).trans rfl
          clear s_
          go_simp
          with_reducible rfl
        rotate_left
        · simp only [Act.put, List.setIfInBounds_toArray, List.set_cons_zero, List.set_cons_succ, i64_w, i32_w]
          rfl
        refine one_ (i := 13) (N := some 39) #[true, true, true, true, true, true, true, true, true, true, true, true, true, true, true, true, true, true, true, true, true, true, true, true, true, true, true, false, false] rfl rfl (by kernel_rfl) (by decide) (fun K hK => ?_)
        refine goes_ Try.func11 (by kernel_rfl) rfl #[.pointer (some ⟨ga, 0, none⟩), .string (rd_T35 l0 i).f0, .int .i64 (rd_T35 l0 i).f1, .int .i64 (rd_T35 l0 i).f2, .int .i64 (rd_T35 l0 i).f3, .int .i64 (rd_T35 l0 i).f4, .slice A5 (rd_T35 l0 i).f5.length c5] (by rfl) rfl rfl (by (try simp only [List.map_toArray, List.map_cons, List.map_nil]); first | done | rfl) ?_
        refine (check_Log_Saw.calls ga E R S (rd_T35 l0 i).f0 (rd_T35 l0 i).f1 (rd_T35 l0 i).f2 (rd_T35 l0 i).f3 (rd_T35 l0 i).f4 A5 c5 (rd_T35 l0 i).f5 w5 K2.out.1 (Kd.C_below HC5.out.1 K2.out.2.2) HC5.out.2 (HOKi.out.1.arg _ (Nat.le_trans HOKi.out.1.1 (by decide)))).mono ?_
        rintro e w6 ⟨rfl, hl6, hg6⟩
        obtain ⟨csa, hca⟩ := K2.out.1.cells
        refine ⟨_, rfl, ?_⟩
        have K3 := Aside0.mk (show LogP w6 ga _ _ _ ∧ ChkP w.heap.size w6 m FA SA PA ∧ Below w.heap.size w w6 from ⟨hl6, K2.out.2.1.log hca hg6, chg_old K2.out.2.2 GA.out hg6⟩)
        have hs6 : w6.heap[gs]? = some (.cells #[.string (rd_T35 l0 i).f0, .int .i64 (rd_T35 l0 i).f1, .int .i64 (rd_T35 l0 i).f2, .int .i64 (rd_T35 l0 i).f3, .int .i64 (rd_T35 l0 i).f4, .slice A5 (rd_T35 l0 i).f5.length c5] 35 (0, 0)) := (hg6.block gs (blk_lt hHeld) (fun e_ => HGS.out (Option.some.inj e_).symm)).trans hHeld
        clear hl6 hg6 hca K2 hHeld
        refine hK.out _ _ hs6 (fun hHeld => ?_)
        clear hs6
        clear hK K
        refine norm_ (a' := ?_) ?_ ?_
        rotate_left
        · show Act.put _ (some 39) _ = _
          simp only [Act.put, List.setIfInBounds_toArray, List.set_cons_zero, List.set_cons_succ, i64_w, i32_w]
          rfl
        refine one_ (i := 27) (N := some 53) #[true, true, true, true, true, true, true, true, true, true, true, true, true, true, true, true, true, true, true, true, true, true, true, true, true, true, true, true, false] rfl rfl (by kernel_rfl) (by decide) (fun K hK => ?_)
        refine goes_ Try.func12 (by kernel_rfl) rfl #[.pointer (some ⟨m, 0, none⟩), .string (rd_T35 l0 i).f0, .int .i64 (rd_T35 l0 i).f1, .int .i64 (rd_T35 l0 i).f2, .int .i64 (rd_T35 l0 i).f3, .int .i64 (rd_T35 l0 i).f4, .slice A5 (rd_T35 l0 i).f5.length c5] (by rfl) rfl rfl (by (try simp only [List.map_toArray, List.map_cons, List.map_nil]); first | done | rfl) ?_
        refine (ref_Saw.calls m FA SA PA (rd_T35 l0 i).f0 (rd_T35 l0 i).f1 (rd_T35 l0 i).f2 (rd_T35 l0 i).f3 (rd_T35 l0 i).f4 A5 c5 (rd_T35 l0 i).f5 w w6 K3.out.2.1 K3.out.2.2 GM.out HC5.out.1 HC5.out.2 (HOKi.out.1.arg _ (Nat.le_trans HOKi.out.1.1 (by decide))) HLen.out.arg).mono ?_
        rintro e w7 ⟨rfl, hm7, hk7⟩
        obtain ⟨cm, hcm⟩ := K3.out.2.1.blk
        refine ⟨_, rfl, ?_⟩
        have K4 := Aside0.mk (show LogP w7 ga _ _ _ ∧ ChkP w.heap.size w7 m _ _ _ ∧ Below w.heap.size w w7 from ⟨K3.out.1.keep hk7 hcm, hm7, hk7.below K3.out.2.2 GM.out (Nat.le_refl _)⟩)
        have hs7 : w7.heap[gs]? = some (.cells #[.string (rd_T35 l0 i).f0, .int .i64 (rd_T35 l0 i).f1, .int .i64 (rd_T35 l0 i).f2, .int .i64 (rd_T35 l0 i).f3, .int .i64 (rd_T35 l0 i).f4, .slice A5 (rd_T35 l0 i).f5.length c5] 35 (0, 0)) := hk7.step hHeld hcm
        have hsim := HREL.out.saw (rd_T35 l0 i).f0 (rd_T35 l0 i).f1 (rd_T35 l0 i).f2 (rd_T35 l0 i).f3 (rd_T35 l0 i).f4 (rd_T35 l0 i).f5 (fun b hb => (HOKi.out.2.1 b hb).bnd)
        have HX := Aside0.mk hsim.1
        have HREL2 := Aside0.mk hsim.2
        have HLen2 := Aside0.mk HLen.out.next
        clear hm7 hk7 hcm K3 hHeld hsim
        refine hK.out _ _ hs7 (fun hHeld => ?_)
        clear hs7
        clear hK K
        refine norm_ (a' := ?_) ?_ ?_
        rotate_left
        · show Act.put _ (some 53) _ = _
          simp only [Act.put, List.setIfInBounds_toArray, List.set_cons_zero, List.set_cons_succ, i64_w, i32_w]
          rfl
        generalize (sawF (rd_T35 l0 i).f0 (rd_T35 l0 i).f1 (rd_T35 l0 i).f2 (rd_T35 l0 i).f3 (rd_T35 l0 i).f4 (rd_T35 l0 i).f5 E R S).1 = qa at HX ⊢
        generalize (refF (rd_T35 l0 i).f0 (rd_T35 l0 i).f1 (rd_T35 l0 i).f2 (rd_T35 l0 i).f3 (rd_T35 l0 i).f4 (rd_T35 l0 i).f5 FA SA PA).1 = qb at HX ⊢
        obtain rfl : qa = qb := HX.out
        have f1 : (qa != qa) = false := by simp
        refine pure_ (i := 28) (N := some 54) (v := ?_) (a' := ?_) #[true, true, true, true, true, true, true, true, true, true, true, true, true, true, true, true, true, true, true, true, true, true, true, true, true, true, true, true, true] rfl rfl (by kernel_rfl) (fun _ _ _ h => h) (Or.inl ⟨by rfl, ?_⟩) ?_ ?_
        rotate_left
        · intro w'
          go_simp
          with_reducible rfl
        rotate_left
        · simp only [Act.put, List.setIfInBounds_toArray, List.set_cons_zero, List.set_cons_succ, i64_w, i32_w]
          rfl
        refine done_ (by kernel_rfl) ?_
        clear hHeld
        have e1 : IntKind.i64.wrap (i + 1) = i + 1 := (i64_w _).trans (by have := HI.out; have := HL.out; unfold wrap64; omega)
        go_wp2_with fail
        go_roundg (l0.length + 1 - (i + 1).toNat)
        case measure => have := HI.out; have := HI2.out; omega
        case rel => exact ⟨i + 1, _, _, _, _, _, _, by first | rfl | rw [e1], ⟨by have := HI.out; have := HI2.out; omega, by have := HI.out; omega, by have := HI2.out; omega⟩, ⟨K4.out.1, K4.out.2.1, HREL2.out, K4.out.2.2, HLen2.out⟩⟩

end Go.Proofs.Ytdlkofmcioalfaa.PCk

/- CheckSaw: what its law's f says; the walk stands in ChSW. -/
namespace Go.Proofs.Ytdlkofmcioalfaa.Pure
open Go Go.RowKit Go.Proofs.Ytdlkofmcioalfaa.PCk
theorem CheckSaw : bollardlaw24_CheckSaw.Pure := by
  intro l h hb
  exact ⟨0, if_pos ⟨h, hb⟩⟩
end Go.Proofs.Ytdlkofmcioalfaa.Pure
