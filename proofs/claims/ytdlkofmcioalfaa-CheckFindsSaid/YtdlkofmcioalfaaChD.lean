import Derived.Test.YtdlkofmcioalfaaChC
import Derived.Outline
import Derived.StillTailTactics
import Derived.RegionTactic
import Derived.BigRegion
import Derived.Lib.BufferWrite
namespace Go.Proofs.Ytdlkofmcioalfaa.PCk
open Go.RowKit Go.Proofs.YtdlkofmcioalfaaW.PrintWords Go.Proofs.YtdlkofmcioalfaaW.PrintLast Go.Proofs.YtdlkofmcioalfaaW.PrintMore
attribute [local go_sem] max2_int min2_int max_two min_two max_three min_three max_four min_four
set_option linter.unusedVariables false
set_option linter.unusedSimpArgs false

/-! ### check.again -/
theorem agnB_no {t : ByteArray} {p : Int} {b : SB} {l : List SB} {F : Value → Option Value} (h : F (sentV t p b.f2 b.f3) ≠ none ∧ F (sentV t p b.f2 b.f3) ≠ some (.int .i64 b.f0) ∧ 0 < b.f2) : agnB t p (b :: l) F = none := if_pos h
theorem agnB_ok {t : ByteArray} {p : Int} {b : SB} {l : List SB} {F : Value → Option Value} (h : ¬ (F (sentV t p b.f2 b.f3) ≠ none ∧ F (sentV t p b.f2 b.f3) ≠ some (.int .i64 b.f0) ∧ 0 < b.f2)) : agnB t p (b :: l) F = agnB t p l (upd F (sentV t p b.f2 b.f3) (.int .i64 b.f0)) := if_neg h
set_option maxHeartbeats 4000000 in
set_option maxRecDepth 100000 in
theorem check_again.calls (m : Nat) (F : Value → Option Value) (t : ByteArray) (p : Int) (A : Option Addr) (c : Nat) (l : List SB) (w0 w : World) (hF : MapV Try.prog 80 w m F) (hS : ShS F) (hr : Kd.C k61 w0 A l.length l) (hb : Below w0.heap.size w0 w) (hm : w0.heap.size ≤ m)
    (ht : t.size ≤ maxLen) (hp : (Lit.int .i64 p).wf = true) (hl : l.length ≤ 140737488355328) (hw : ∀ b ∈ l, (Lit.int .i64 b.f2).wf = true ∧ (Lit.int .i64 b.f3).wf = true) :
    Calls Try.prog 29 #[.map (some m), .agg #[.string t, .int .i64 p], .slice A l.length c] w fun e w' => w.grownBy w' (some m) ∧ ((agnB t p l F = none ∧ e = .returned (.bool true)) ∨ ∃ F', agnB t p l F = some F' ∧ ShS F' ∧ e = .returned (.bool false) ∧ MapV Try.prog 80 w' m F') := by
  have HR := Aside0.mk hr
  have HB := Aside0.mk hb
  have HM := Aside0.mk hm
  have HML := Aside0.mk hF.lt
  have HT := Aside0.mk ht
  have HP := Aside0.mk hp
  have HL := Aside0.mk hl
  have HW := Aside0.mk hw
  have H1 := Aside0.mk (show agnB t p (l.drop (0 : Int).toNat) F = agnB t p l F ∧ ShS F ∧ MapV Try.prog 80 (w.alloc (.cells #[.string t, .int .i64 p] 68)) m F from ⟨rfl, hS, hF.all _⟩)
  have H2 := Aside0.mk (show w.grownBy (w.alloc (.cells #[.string t, .int .i64 p] 68)) (some m) ∧ (w.alloc (.cells #[.string t, .int .i64 p] 68)).heap[w.heap.size]? = some (.cells #[.string t, .int .i64 p] 68 (0, 0)) from ⟨below_grown (bel1 w _) m, heap_alloc_new w _⟩)
  clear hr hb hm hF hS ht hp hl hw
  go_enter Try.func29, Try.ntmps29
  go_wp2_with fail
  generalize w.alloc (.cells #[.string t, .int .i64 p] 68) = wa at H1 H2 ⊢
  go_loopg [14] (l.length + 1) (fun kq v14 wr => ∃ (i : Int) (G : Value → Option Value), v14 = .int .i64 i ∧ Aside0 (kq + i.toNat = l.length + 1 ∧ 0 ≤ i ∧ i ≤ (l.length : Int)) ∧ Aside0 (agnB t p (l.drop i.toNat) G = agnB t p l F ∧ ShS G ∧ MapV Try.prog 80 wr m G) ∧ Aside0 (w.grownBy wr (some m) ∧ wr.heap[w.heap.size]? = some (.cells #[.string t, .int .i64 p] 68 (0, 0))))
  case atStart => exact ⟨0, F, rfl, ⟨by simp, by omega, by omega⟩, H1, H2⟩
  case round =>
    obtain ⟨i, G, rfl, HI, HG, HH⟩ := hrel
    clear H1 H2
    by_cases hi : i < (l.length : Int)
    case neg =>
      have d1 : decide (i < (l.length : Int)) = false := decide_eq_false hi
      have he : i = (l.length : Int) := by have := HI.out; omega
      have HE := Aside0.mk (show agnB t p l F = some G from by have h_ := HG.out.1; rw [he, Int.toNat_natCast, List.drop_length] at h_; exact h_.symm)
      clear he hi
      go_wp2_with fail
      go_ret
      exact ⟨HH.out.1, .inr ⟨G, HE.out, HG.out.2.1, rfl, HG.out.2.2⟩⟩
    case pos =>
      have d1 : decide (i < (l.length : Int)) = true := decide_eq_true hi
      have h0 := HI.out.2.1
      obtain ⟨ad, A4, c4, ea, x0, x1, x2, x3, x4, l4, g4⟩ := at_T61 HR.out i h0 hi
      have hbw := chg_old HB.out HM.out HH.out.1
      replace x0 := pw_cell_below hbw x0
      replace x1 := pw_cell_below hbw x1
      replace x2 := pw_cell_below hbw x2
      replace x3 := pw_cell_below hbw x3
      replace x4 := pw_cell_below hbw x4
      have HWB := Aside0.mk (HW.out (rd_T61 l i) (get_mem z61 h0 hi))
      have HD := Aside0.mk (drop_get z61 h0 hi)
      have p1 := eq_true h0
      have p2 := eq_true hi
      have HI2 := Aside0.mk hi
      clear g4 l4 hbw h0 hi
      cases ea
      go_upto_region 4 with fail
      (try simp only [Act.put, List.setIfInBounds_toArray, List.set_cons_zero, List.set_cons_succ])
      have K2 := Aside0.mk (show MapV Try.prog 80 (wr.alloc (.cells #[.int .i64 (rd_T61 l i).f0, .int .i64 (rd_T61 l i).f1, .int .i64 (rd_T61 l i).f2, .int .i64 (rd_T61 l i).f3, .slice A4 (rd_T61 l i).f4.length c4] 61)) m G from HG.out.2.2.all _)
      have K3 := Aside0.mk (show w.grownBy (wr.alloc (.cells #[.int .i64 (rd_T61 l i).f0, .int .i64 (rd_T61 l i).f1, .int .i64 (rd_T61 l i).f2, .int .i64 (rd_T61 l i).f3, .slice A4 (rd_T61 l i).f4.length c4] 61)) (some m) ∧ (wr.alloc (.cells #[.int .i64 (rd_T61 l i).f0, .int .i64 (rd_T61 l i).f1, .int .i64 (rd_T61 l i).f2, .int .i64 (rd_T61 l i).f3, .slice A4 (rd_T61 l i).f4.length c4] 61)).heap[w.heap.size]? = some (.cells #[.string t, .int .i64 p] 68 (0, 0)) ∧ (wr.alloc (.cells #[.int .i64 (rd_T61 l i).f0, .int .i64 (rd_T61 l i).f1, .int .i64 (rd_T61 l i).f2, .int .i64 (rd_T61 l i).f3, .slice A4 (rd_T61 l i).f4.length c4] 61)).heap[wr.heap.size]? = some (.cells #[.int .i64 (rd_T61 l i).f0, .int .i64 (rd_T61 l i).f1, .int .i64 (rd_T61 l i).f2, .int .i64 (rd_T61 l i).f3, .slice A4 (rd_T61 l i).f4.length c4] 61 (0, 0)) from ⟨grown_below HH.out.1 (bel1 wr _), blk_alloc HH.out.2 _, heap_alloc_new wr _⟩)
      have HK := Aside0.mk (And.intro HG.out.1 HG.out.2.1)
      have HQ := Aside0.mk (show w.heap.size < wr.heap.size from blk_lt HH.out.2)
      clear x0 x1 x2 x3 x4 HG HH
      generalize (wr.alloc (.cells #[.int .i64 (rd_T61 l i).f0, .int .i64 (rd_T61 l i).f1, .int .i64 (rd_T61 l i).f2, .int .i64 (rd_T61 l i).f3, .slice A4 (rd_T61 l i).f4.length c4] 61)) = wb at K2 K3 ⊢
      obtain ⟨gb, hgb⟩ : ∃ gb, gb = wr.heap.size := ⟨_, rfl⟩
      rw [← hgb] at K3 HQ ⊢
      clear hgb
      have y0 := (blk_cell K3.out.2.1 0).trans rfl
      have y1 := (blk_cell K3.out.2.1 1).trans rfl
      have z0 := (blk_cell K3.out.2.2 0).trans rfl
      have z2 := (blk_cell K3.out.2.2 2).trans rfl
      have z3 := (blk_cell K3.out.2.2 3).trans rfl
      go_upto_region 5 with fail
      (try simp only [Act.put, List.setIfInBounds_toArray, List.set_cons_zero, List.set_cons_succ])
      have L1 := Aside0.mk (show MapV Try.prog 80 (wb.alloc (.cells #[.string t, .int .i64 p, .int .i64 (rd_T61 l i).f2, .int .i64 (rd_T61 l i).f3] 80)) m G from K2.out.all _)
      have L2 := Aside0.mk (show w.grownBy (wb.alloc (.cells #[.string t, .int .i64 p, .int .i64 (rd_T61 l i).f2, .int .i64 (rd_T61 l i).f3] 80)) (some m) ∧ (wb.alloc (.cells #[.string t, .int .i64 p, .int .i64 (rd_T61 l i).f2, .int .i64 (rd_T61 l i).f3] 80)).heap[w.heap.size]? = some (.cells #[.string t, .int .i64 p] 68 (0, 0)) ∧ (wb.alloc (.cells #[.string t, .int .i64 p, .int .i64 (rd_T61 l i).f2, .int .i64 (rd_T61 l i).f3] 80)).heap[gb]? = some (.cells #[.int .i64 (rd_T61 l i).f0, .int .i64 (rd_T61 l i).f1, .int .i64 (rd_T61 l i).f2, .int .i64 (rd_T61 l i).f3, .slice A4 (rd_T61 l i).f4.length c4] 61 (0, 0)) ∧ (wb.alloc (.cells #[.string t, .int .i64 p, .int .i64 (rd_T61 l i).f2, .int .i64 (rd_T61 l i).f3] 80)).heap[wb.heap.size]? = some (.cells #[.string t, .int .i64 p, .int .i64 (rd_T61 l i).f2, .int .i64 (rd_T61 l i).f3] 80 (0, 0)) from ⟨grown_below K3.out.1 (bel1 wb _), blk_alloc K3.out.2.1 _, blk_alloc K3.out.2.2 _, heap_alloc_new wb _⟩)
      clear y0 y1 z0 z2 z3 K2 K3
      generalize (wb.alloc (.cells #[.string t, .int .i64 p, .int .i64 (rd_T61 l i).f2, .int .i64 (rd_T61 l i).f3] 80)) = wk at L1 L2 ⊢
      obtain ⟨gk, hgk⟩ : ∃ gk, gk = wb.heap.size := ⟨_, rfl⟩
      rw [← hgk] at L2 ⊢
      clear hgk
      have y0 := (blk_cell L2.out.2.1 0).trans rfl
      have y1 := (blk_cell L2.out.2.1 1).trans rfl
      have z0 := (blk_cell L2.out.2.2.1 0).trans rfl
      have z2 := (blk_cell L2.out.2.2.1 2).trans rfl
      have k0 := (blk_cell L2.out.2.2.2 0).trans rfl
      have k1 := (blk_cell L2.out.2.2.2 1).trans rfl
      have k2 := (blk_cell L2.out.2.2.2 2).trans rfl
      have k3 := (blk_cell L2.out.2.2.2 3).trans rfl
      obtain ⟨lk, hlk⟩ : ∃ q_, keyOf Try.prog 80 (sentV t p (rd_T61 l i).f2 (rd_T61 l i).f3) = some q_ := keyS t p (rd_T61 l i).f2 (rd_T61 l i).f3 HT.out HP.out HWB.out.1 HWB.out.2
      have HLK := Aside0.mk hlk
      clear hlk
      have HLU := Aside0.mk (mapO_look (P := Try.prog) (w := wk) lawS Try.underlying57 (z := .int .i64 0) (by kernel_rfl) (o := some m) (F := G) L1.out HLK.out)
      have HU := Aside0.mk (show ShS (upd G (sentV t p (rd_T61 l i).f2 (rd_T61 l i).f3) (.int .i64 (rd_T61 l i).f0)) from ShS.upd HK.out.2 t p (rd_T61 l i).f2 (rd_T61 l i).f3 (rd_T61 l i).f0 HT.out HP.out HWB.out.1 HWB.out.2)
      have e1 : IntKind.i64.wrap (i + 1) = i + 1 := (i64_w _).trans (by have := HI.out; have := HL.out; unfold wrap64; omega)
      cases hG : G (sentV t p (rd_T61 l i).f2 (rd_T61 l i).f3) with
      | none =>
        have HLV := Aside0.mk (show (Instr.lookup 57 (.map (some m)) (.agg #[.string t, .int .i64 p, .int .i64 (rd_T61 l i).f2, .int .i64 (rd_T61 l i).f3]) true).run Try.prog wk = .ok (.tuple #[.int .i64 0, .bool false]) wk from by have h_ := HLU.out; rw [hG] at h_; exact h_)
        have HG0 := Aside0.mk hG
        clear HLU hG
        have HX := Aside0.mk (show agnB t p (l.drop (i + 1).toNat) (upd G (sentV t p (rd_T61 l i).f2 (rd_T61 l i).f3) (.int .i64 (rd_T61 l i).f0)) = agnB t p l F from by rw [← HK.out.1, HD.out]; exact (agnB_ok (t := t) (p := p) (b := (rd_T61 l i)) (fun h => h.1 HG0.out)).symm)
        go_wp2_with (first | (at_lookup; refine wpl_mlook rfl _ _ _ _ rfl rfl rfl HLV.out ?_) | (at_mapUpdate; refine wpl_put rfl _ _ _ _ rfl lawS Try.underlying57 rfl rfl rfl L1.out HLK.out ?_; intro w3 hm3 hg3 hs3; go_frame))
        have N2 := Aside0.mk (show w.grownBy w3 (some m) ∧ w3.heap[w.heap.size]? = some (.cells #[.string t, .int .i64 p] 68 (0, 0)) from ⟨grown_trans L2.out.1 hg3, (hg3.block _ (blk_lt L2.out.2.1) (fun e => by have := Option.some.inj e; have := HML.out; omega)).trans L2.out.2.1⟩)
        go_roundg (l.length + 1 - (i + 1).toNat)
        case measure => have := HI.out; have := HI2.out; omega
        case rel => exact ⟨i + 1, _, by first | rfl | rw [e1], ⟨by have := HI.out; have := HI2.out; omega, by have := HI.out; omega, by have := HI2.out; omega⟩, ⟨HX.out, HU.out, hm3⟩, N2⟩
      | some v =>
        obtain ⟨_, v0, rfl⟩ := HK.out.2 _ _ hG
        have HLV := Aside0.mk (show (Instr.lookup 57 (.map (some m)) (.agg #[.string t, .int .i64 p, .int .i64 (rd_T61 l i).f2, .int .i64 (rd_T61 l i).f3]) true).run Try.prog wk = .ok (.tuple #[.int .i64 v0, .bool true]) wk from by have h_ := HLU.out; rw [hG] at h_; exact h_)
        have HG0 := Aside0.mk hG
        clear HLU hG
        by_cases hv : v0 = (rd_T61 l i).f0
        case pos =>
          have f1 : (v0 != (rd_T61 l i).f0) = false := by simp [hv]
          have HV := Aside0.mk hv
          clear hv
          have HX := Aside0.mk (show agnB t p (l.drop (i + 1).toNat) (upd G (sentV t p (rd_T61 l i).f2 (rd_T61 l i).f3) (.int .i64 (rd_T61 l i).f0)) = agnB t p l F from by rw [← HK.out.1, HD.out]; exact (agnB_ok (t := t) (p := p) (b := (rd_T61 l i)) (fun h => h.2.1 (by rw [HG0.out, HV.out]))).symm)
          go_wp2_with (first | (at_lookup; refine wpl_mlook rfl _ _ _ _ rfl rfl rfl HLV.out ?_) | (at_mapUpdate; refine wpl_put rfl _ _ _ _ rfl lawS Try.underlying57 rfl rfl rfl L1.out HLK.out ?_; intro w3 hm3 hg3 hs3; go_frame))
          have N2 := Aside0.mk (show w.grownBy w3 (some m) ∧ w3.heap[w.heap.size]? = some (.cells #[.string t, .int .i64 p] 68 (0, 0)) from ⟨grown_trans L2.out.1 hg3, (hg3.block _ (blk_lt L2.out.2.1) (fun e => by have := Option.some.inj e; have := HML.out; omega)).trans L2.out.2.1⟩)
          go_roundg (l.length + 1 - (i + 1).toNat)
          case measure => have := HI.out; have := HI2.out; omega
          case rel => exact ⟨i + 1, _, by first | rfl | rw [e1], ⟨by have := HI.out; have := HI2.out; omega, by have := HI.out; omega, by have := HI2.out; omega⟩, ⟨HX.out, HU.out, hm3⟩, N2⟩
        case neg =>
          have f1 : (v0 != (rd_T61 l i).f0) = true := by simp [hv]
          by_cases hq : 0 < (rd_T61 l i).f2
          case pos =>
            have f2 : decide (0 < (rd_T61 l i).f2) = true := decide_eq_true hq
            have HX := Aside0.mk (show agnB t p l F = none from by rw [← HK.out.1, HD.out]; exact agnB_no (t := t) (p := p) (b := (rd_T61 l i)) ⟨fun h => (by have := HG0.out.symm.trans h; cases this), fun h => (by have := HG0.out.symm.trans h; cases this; exact hv rfl), hq⟩)
            have p5 := eq_true hq
            clear hq hv
            go_wp2_with (first | (at_lookup; refine wpl_mlook rfl _ _ _ _ rfl rfl rfl HLV.out ?_))
            go_ret
            exact ⟨L2.out.1, .inl ⟨HX.out, rfl⟩⟩
          case neg =>
            have f2 : decide (0 < (rd_T61 l i).f2) = false := decide_eq_false hq
            have HQ2 := Aside0.mk hq
            clear hq hv
            have HX := Aside0.mk (show agnB t p (l.drop (i + 1).toNat) (upd G (sentV t p (rd_T61 l i).f2 (rd_T61 l i).f3) (.int .i64 (rd_T61 l i).f0)) = agnB t p l F from by rw [← HK.out.1, HD.out]; exact (agnB_ok (t := t) (p := p) (b := (rd_T61 l i)) (fun h => HQ2.out h.2.2)).symm)
            go_wp2_with (first | (at_lookup; refine wpl_mlook rfl _ _ _ _ rfl rfl rfl HLV.out ?_) | (at_mapUpdate; refine wpl_put rfl _ _ _ _ rfl lawS Try.underlying57 rfl rfl rfl L1.out HLK.out ?_; intro w3 hm3 hg3 hs3; go_frame))
            have N2 := Aside0.mk (show w.grownBy w3 (some m) ∧ w3.heap[w.heap.size]? = some (.cells #[.string t, .int .i64 p] 68 (0, 0)) from ⟨grown_trans L2.out.1 hg3, (hg3.block _ (blk_lt L2.out.2.1) (fun e => by have := Option.some.inj e; have := HML.out; omega)).trans L2.out.2.1⟩)
            go_roundg (l.length + 1 - (i + 1).toNat)
            case measure => have := HI.out; have := HI2.out; omega
            case rel => exact ⟨i + 1, _, by first | rfl | rw [e1], ⟨by have := HI.out; have := HI2.out; omega, by have := HI.out; omega, by have := HI2.out; omega⟩, ⟨HX.out, HU.out, hm3⟩, N2⟩

end Go.Proofs.Ytdlkofmcioalfaa.PCk
