import Derived.Test.YtdlkofmcioalfaaQPCkx5
import Derived.Outline
import Derived.StillTailTactics
import Derived.RegionTactic
import Derived.BigRegion
import Derived.Lib.BufferWrite
namespace Go.Proofs.Ytdlkofmcioalfaa.PCk
open Go.RowKit Go.Proofs.YtdlkofmcioalfaaW.PrintWords Go.Proofs.YtdlkofmcioalfaaW.PrintLast Go.Proofs.YtdlkofmcioalfaaW.PrintMore
attribute [local go_sem] max2_int min2_int max_two min_two max_three min_three max_four min_four
set_option linter.unusedVariables false
set_option linter.unusedSimpArgs false

/-! ### check.changed -/
theorem info_place : (Try.prog.info? 77).map (·.size) = some 4 := by kernel_rfl
theorem chg_old {w0 w W : World} {m : Nat} (hb : Below w0.heap.size w0 w) (hm : w0.heap.size ≤ m) (hg : w.grownBy W (some m)) : Below w0.heap.size w0 W :=
  ⟨hg.os.trans hb.os, hg.tape.trans hb.tape, hg.output.trans hb.output, Nat.le_trans hb.size hg.size, fun k hk => (hg.block k (Nat.lt_of_lt_of_le hk hb.size) (fun e => by have := Option.some.inj e; omega)).trans (hb.block k hk)⟩
theorem below_row {B g : Nat} {w0 w : World} (hb : Below B w0 w) (hg : B ≤ g) (cs : Array Value) : Below B w0 (w.setRow g cs) := ⟨hb.os, hb.tape, hb.output, by simpa using hb.size, fun k hk => (setRow_other w g k cs (by omega)).trans (hb.block k hk)⟩
set_option maxHeartbeats 4000000 in
set_option maxRecDepth 100000 in
theorem check_changed.calls (m : Nat) (F : Value → Option Value) (t : ByteArray) (p : Int) (A : Option Addr) (c : Nat) (l : List SB) (w0 w : World) (hF : MapV Try.prog 77 w m F) (hS : ShR F) (hr : Kd.C k61 w0 A l.length l) (hb : Below w0.heap.size w0 w) (hm : w0.heap.size ≤ m)
    (ht : t.size ≤ maxLen) (hp : (Lit.int .i64 p).wf = true) (hl : l.length ≤ 140737488355328) (hw : ∀ b ∈ l, (Lit.int .i64 b.f0).wf = true ∧ b.f4.length ≤ 140737488355328 ∧ ∀ r ∈ b.f4, (Lit.int .i64 r.f5).wf = true) :
    Calls Try.prog 28 #[.map (some m), .agg #[.string t, .int .i64 p], .slice A l.length c] w fun e w' => w.grownBy w' (some m) ∧ ((chgB t p l F = none ∧ e = .returned (.bool true)) ∨ ∃ F', chgB t p l F = some F' ∧ ShR F' ∧ e = .returned (.bool false) ∧ MapV Try.prog 77 w' m F') := by
  have HR := Aside0.mk hr
  have HB := Aside0.mk hb
  have HM := Aside0.mk hm
  have HML := Aside0.mk hF.lt
  have HT := Aside0.mk ht
  have HP := Aside0.mk hp
  have HL := Aside0.mk hl
  have HW := Aside0.mk hw
  have H1 := Aside0.mk (show chgB t p (l.drop (0 : Int).toNat) F = chgB t p l F ∧ ShR F ∧ MapV Try.prog 77 (w.alloc (.cells #[.string t, .int .i64 p] 68)) m F from ⟨rfl, hS, hF.all _⟩)
  have H2 := Aside0.mk (show w.grownBy (w.alloc (.cells #[.string t, .int .i64 p] 68)) (some m) ∧ (w.alloc (.cells #[.string t, .int .i64 p] 68)).heap[w.heap.size]? = some (.cells #[.string t, .int .i64 p] 68 (0, 0)) from ⟨below_grown (bel1 w _) m, heap_alloc_new w _⟩)
  clear hr hb hm hF hS ht hp hl hw
  go_enter Try.func28, Try.ntmps28
  go_wp2_with fail
  generalize w.alloc (.cells #[.string t, .int .i64 p] 68) = wa at H1 H2 ⊢
  go_loopg [16] (l.length + 1) (fun kq v16 wr => ∃ (i : Int) (G : Value → Option Value), v16 = .int .i64 i ∧ Aside0 (kq + i.toNat = l.length + 1 ∧ 0 ≤ i ∧ i ≤ (l.length : Int)) ∧ Aside0 (chgB t p (l.drop i.toNat) G = chgB t p l F ∧ ShR G ∧ MapV Try.prog 77 wr m G) ∧ Aside0 (w.grownBy wr (some m) ∧ wr.heap[w.heap.size]? = some (.cells #[.string t, .int .i64 p] 68 (0, 0))))
  case atStart => exact ⟨0, F, rfl, ⟨by simp, by omega, by omega⟩, H1, H2⟩
  case round =>
    obtain ⟨i, G, rfl, HI, HG, HH⟩ := hrel
    clear H1 H2
    by_cases hi : i < (l.length : Int)
    case neg =>
      have d1 : decide (i < (l.length : Int)) = false := decide_eq_false hi
      have he : i = (l.length : Int) := by have := HI.out; omega
      have HE := Aside0.mk (show chgB t p l F = some G from by have h_ := HG.out.1; rw [he, Int.toNat_natCast, List.drop_length] at h_; exact h_.symm)
      clear he hi
      go_wp2_with fail
      go_ret
      exact ⟨HH.out.1, .inr ⟨G, HE.out, HG.out.2.1, rfl, HG.out.2.2⟩⟩
    case pos =>
      have d1 : decide (i < (l.length : Int)) = true := decide_eq_true hi
      have h0 := HI.out.2.1
      obtain ⟨ad, A4, c4, ea, x0, x1, x2, x3, x4, l4, g4⟩ := at_T61 HR.out i h0 hi
      have hbw := chg_old HB.out HM.out HH.out.1
      replace x0 := pw_cell_below hbw x0
      replace x1 := pw_cell_below hbw x1
      replace x2 := pw_cell_below hbw x2
      replace x3 := pw_cell_below hbw x3
      replace x4 := pw_cell_below hbw x4
      have HWB := Aside0.mk (HW.out (rd_T61 l i) (get_mem z61 h0 hi))
      have HD := Aside0.mk (drop_get z61 h0 hi)
      have HC4 := Aside0.mk g4
      have p1 := eq_true h0
      have p2 := eq_true hi
      have HI2 := Aside0.mk hi
      clear g4 l4 hbw h0 hi
      cases ea
      go_wp2_with fail
      have K1 := Aside0.mk (show chgR t p (rd_T61 l i).f0 ((rd_T61 l i).f4.drop (0 : Int).toNat) G = chgR t p (rd_T61 l i).f0 (rd_T61 l i).f4 G from rfl)
      have K2 := Aside0.mk (show (chgR t p (rd_T61 l i).f0 ((rd_T61 l i).f4.drop (0 : Int).toNat) G).bind (chgB t p (l.drop (i + 1).toNat)) = chgB t p l F ∧ ShR G ∧ MapV Try.prog 77 (wr.alloc (.cells #[.int .i64 (rd_T61 l i).f0, .int .i64 (rd_T61 l i).f1, .int .i64 (rd_T61 l i).f2, .int .i64 (rd_T61 l i).f3, .slice A4 (rd_T61 l i).f4.length c4] 61)) m G from ⟨by rw [← HG.out.1, HD.out]; rfl, HG.out.2.1, HG.out.2.2.all _⟩)
      have K3 := Aside0.mk (show w.grownBy (wr.alloc (.cells #[.int .i64 (rd_T61 l i).f0, .int .i64 (rd_T61 l i).f1, .int .i64 (rd_T61 l i).f2, .int .i64 (rd_T61 l i).f3, .slice A4 (rd_T61 l i).f4.length c4] 61)) (some m) ∧ (wr.alloc (.cells #[.int .i64 (rd_T61 l i).f0, .int .i64 (rd_T61 l i).f1, .int .i64 (rd_T61 l i).f2, .int .i64 (rd_T61 l i).f3, .slice A4 (rd_T61 l i).f4.length c4] 61)).heap[w.heap.size]? = some (.cells #[.string t, .int .i64 p] 68 (0, 0)) ∧ (wr.alloc (.cells #[.int .i64 (rd_T61 l i).f0, .int .i64 (rd_T61 l i).f1, .int .i64 (rd_T61 l i).f2, .int .i64 (rd_T61 l i).f3, .slice A4 (rd_T61 l i).f4.length c4] 61)).heap[wr.heap.size]? = some (.cells #[.int .i64 (rd_T61 l i).f0, .int .i64 (rd_T61 l i).f1, .int .i64 (rd_T61 l i).f2, .int .i64 (rd_T61 l i).f3, .slice A4 (rd_T61 l i).f4.length c4] 61 (0, 0)) from ⟨grown_below HH.out.1 (bel1 wr _), blk_alloc HH.out.2 _, heap_alloc_new wr _⟩)
      have HQ := Aside0.mk (show w.heap.size < wr.heap.size from blk_lt HH.out.2)
      clear K1 x0 x1 x2 x3 x4 HG HH
      generalize (wr.alloc (.cells #[.int .i64 (rd_T61 l i).f0, .int .i64 (rd_T61 l i).f1, .int .i64 (rd_T61 l i).f2, .int .i64 (rd_T61 l i).f3, .slice A4 (rd_T61 l i).f4.length c4] 61)) = wb at K2 K3 ⊢
      obtain ⟨gb, hgb⟩ : ∃ gb, gb = wr.heap.size := ⟨_, rfl⟩
      rw [← hgb] at K3 HQ ⊢
      clear hgb
      go_loopg [23] ((rd_T61 l i).f4.length + 1) (fun kr v23 ws => ∃ (j : Int) (G2 : Value → Option Value), v23 = .int .i64 j ∧ Aside0 (kr + j.toNat = (rd_T61 l i).f4.length + 1 ∧ 0 ≤ j ∧ j ≤ ((rd_T61 l i).f4.length : Int)) ∧ Aside0 ((chgR t p (rd_T61 l i).f0 ((rd_T61 l i).f4.drop j.toNat) G2).bind (chgB t p (l.drop (i + 1).toNat)) = chgB t p l F ∧ ShR G2 ∧ MapV Try.prog 77 ws m G2) ∧ Aside0 (w.grownBy ws (some m) ∧ ws.heap[w.heap.size]? = some (.cells #[.string t, .int .i64 p] 68 (0, 0)) ∧ ws.heap[gb]? = some (.cells #[.int .i64 (rd_T61 l i).f0, .int .i64 (rd_T61 l i).f1, .int .i64 (rd_T61 l i).f2, .int .i64 (rd_T61 l i).f3, .slice A4 (rd_T61 l i).f4.length c4] 61 (0, 0))))
      case atStart => exact ⟨0, G, rfl, ⟨by simp, by omega, by omega⟩, K2, K3⟩
      case round =>
        obtain ⟨j, G2, rfl, HJ, HG, HH⟩ := hrel
        clear K2 K3
        by_cases hj : j < ((rd_T61 l i).f4.length : Int)
        case neg =>
          have d2 : decide (j < ((rd_T61 l i).f4.length : Int)) = false := decide_eq_false hj
          have he : j = ((rd_T61 l i).f4.length : Int) := by have := HJ.out; omega
          have HE := Aside0.mk (show chgB t p (l.drop (i + 1).toNat) G2 = chgB t p l F from by have h_ := HG.out.1; rw [he, Int.toNat_natCast, List.drop_length] at h_; exact h_)
          have e1 : IntKind.i64.wrap (i + 1) = i + 1 := (i64_w _).trans (by have := HI.out; have := HL.out; unfold wrap64; omega)
          clear he hj
          go_wp2_with fail
          go_roundg (l.length + 1 - (i + 1).toNat)
          case measure => have := HI.out; have := HI2.out; omega
          case rel => exact ⟨i + 1, G2, by first | rfl | rw [e1], ⟨by have := HI.out; have := HI2.out; omega, by have := HI.out; omega, by have := HI2.out; omega⟩, ⟨HE.out, HG.out.2.1, HG.out.2.2⟩, ⟨HH.out.1, HH.out.2.1⟩⟩
        case pos =>
          have d2 : decide (j < ((rd_T61 l i).f4.length : Int)) = true := decide_eq_true hj
          have h0 := HJ.out.2.1
          obtain ⟨ad2, ea2, y0, y1, y2, y3, y4, y5⟩ := at_T48 HC4.out j h0 hj
          have hbw := chg_old HB.out HM.out HH.out.1
          replace y0 := pw_cell_below hbw y0
          replace y1 := pw_cell_below hbw y1
          replace y2 := pw_cell_below hbw y2
          replace y3 := pw_cell_below hbw y3
          replace y4 := pw_cell_below hbw y4
          replace y5 := pw_cell_below hbw y5
          have HWR := Aside0.mk (HWB.out.2.2 (rd_T48 (rd_T61 l i).f4 j) (get_mem z48 h0 hj))
          have HD2 := Aside0.mk (drop_get z48 h0 hj)
          have p3 := eq_true h0
          have p4 := eq_true hj
          have HJ2 := Aside0.mk hj
          clear hbw h0 hj
          cases ea2
          go_upto_region 7 with fail
          have K2 := Aside0.mk (show MapV Try.prog 77 (wr.alloc (.cells #[.bool (rd_T48 (rd_T61 l i).f4 j).f0, .string (rd_T48 (rd_T61 l i).f4 j).f1, .bool (rd_T48 (rd_T61 l i).f4 j).f2, .string (rd_T48 (rd_T61 l i).f4 j).f3, .int .i64 (rd_T48 (rd_T61 l i).f4 j).f4, .int .i64 (rd_T48 (rd_T61 l i).f4 j).f5] 48)) m G2 from HG.out.2.2.all _)
          have K3 := Aside0.mk (show w.grownBy (wr.alloc (.cells #[.bool (rd_T48 (rd_T61 l i).f4 j).f0, .string (rd_T48 (rd_T61 l i).f4 j).f1, .bool (rd_T48 (rd_T61 l i).f4 j).f2, .string (rd_T48 (rd_T61 l i).f4 j).f3, .int .i64 (rd_T48 (rd_T61 l i).f4 j).f4, .int .i64 (rd_T48 (rd_T61 l i).f4 j).f5] 48)) (some m) ∧ (wr.alloc (.cells #[.bool (rd_T48 (rd_T61 l i).f4 j).f0, .string (rd_T48 (rd_T61 l i).f4 j).f1, .bool (rd_T48 (rd_T61 l i).f4 j).f2, .string (rd_T48 (rd_T61 l i).f4 j).f3, .int .i64 (rd_T48 (rd_T61 l i).f4 j).f4, .int .i64 (rd_T48 (rd_T61 l i).f4 j).f5] 48)).heap[w.heap.size]? = some (.cells #[.string t, .int .i64 p] 68 (0, 0)) ∧ (wr.alloc (.cells #[.bool (rd_T48 (rd_T61 l i).f4 j).f0, .string (rd_T48 (rd_T61 l i).f4 j).f1, .bool (rd_T48 (rd_T61 l i).f4 j).f2, .string (rd_T48 (rd_T61 l i).f4 j).f3, .int .i64 (rd_T48 (rd_T61 l i).f4 j).f4, .int .i64 (rd_T48 (rd_T61 l i).f4 j).f5] 48)).heap[gb]? = some (.cells #[.int .i64 (rd_T61 l i).f0, .int .i64 (rd_T61 l i).f1, .int .i64 (rd_T61 l i).f2, .int .i64 (rd_T61 l i).f3, .slice (some ad2) (rd_T61 l i).f4.length c4] 61 (0, 0)) ∧ (wr.alloc (.cells #[.bool (rd_T48 (rd_T61 l i).f4 j).f0, .string (rd_T48 (rd_T61 l i).f4 j).f1, .bool (rd_T48 (rd_T61 l i).f4 j).f2, .string (rd_T48 (rd_T61 l i).f4 j).f3, .int .i64 (rd_T48 (rd_T61 l i).f4 j).f4, .int .i64 (rd_T48 (rd_T61 l i).f4 j).f5] 48)).heap[wr.heap.size]? = some (.cells #[.bool (rd_T48 (rd_T61 l i).f4 j).f0, .string (rd_T48 (rd_T61 l i).f4 j).f1, .bool (rd_T48 (rd_T61 l i).f4 j).f2, .string (rd_T48 (rd_T61 l i).f4 j).f3, .int .i64 (rd_T48 (rd_T61 l i).f4 j).f4, .int .i64 (rd_T48 (rd_T61 l i).f4 j).f5] 48 (0, 0)) from ⟨grown_below HH.out.1 (bel1 wr _), blk_alloc HH.out.2.1 _, blk_alloc HH.out.2.2 _, heap_alloc_new wr _⟩)
          have HK := Aside0.mk (And.intro HG.out.1 HG.out.2.1)
          (try simp only [Act.put, List.setIfInBounds_toArray, List.set_cons_zero, List.set_cons_succ])
          clear y0 y1 y2 y3 y4 y5 HG HH
          generalize (wr.alloc (.cells #[.bool (rd_T48 (rd_T61 l i).f4 j).f0, .string (rd_T48 (rd_T61 l i).f4 j).f1, .bool (rd_T48 (rd_T61 l i).f4 j).f2, .string (rd_T48 (rd_T61 l i).f4 j).f3, .int .i64 (rd_T48 (rd_T61 l i).f4 j).f4, .int .i64 (rd_T48 (rd_T61 l i).f4 j).f5] 48)) = wq at K2 K3 ⊢
          obtain ⟨gr, hgr⟩ : ∃ gr, gr = wr.heap.size := ⟨_, rfl⟩
          rw [← hgr] at K3 ⊢
          clear hgr
          have HSUM := Aside0.mk (show check_sum.f (rd_T61 l i).f0 (rd_T48 (rd_T61 l i).f4 j).f5 = some (((rd_T61 l i).f0 + (rd_T48 (rd_T61 l i).f4 j).f5) / 18446744073709551616, ((rd_T61 l i).f0 + (rd_T48 (rd_T61 l i).f4 j).f5) % 18446744073709551616) from if_pos ⟨HWB.out.1, HWR.out⟩)
          have K4 := Aside0.mk (show MapV Try.prog 77 wq.drew m G2 from MapV.move K2.out rfl)
          have K5 := Aside0.mk (show w.grownBy wq.drew (some m) ∧ wq.drew.heap[w.heap.size]? = some (.cells #[.string t, .int .i64 p] 68 (0, 0)) ∧ wq.drew.heap[gb]? = some (.cells #[.int .i64 (rd_T61 l i).f0, .int .i64 (rd_T61 l i).f1, .int .i64 (rd_T61 l i).f2, .int .i64 (rd_T61 l i).f3, .slice (some ad2) (rd_T61 l i).f4.length c4] 61 (0, 0)) ∧ wq.drew.heap[gr]? = some (.cells #[.bool (rd_T48 (rd_T61 l i).f4 j).f0, .string (rd_T48 (rd_T61 l i).f4 j).f1, .bool (rd_T48 (rd_T61 l i).f4 j).f2, .string (rd_T48 (rd_T61 l i).f4 j).f3, .int .i64 (rd_T48 (rd_T61 l i).f4 j).f4, .int .i64 (rd_T48 (rd_T61 l i).f4 j).f5] 48 (0, 0)) from ⟨grown_below K3.out.1 (below_drew1 (Below.refl _ _)), K3.out.2⟩)
          refine start_ (n := 9) (S := fun w' => Below wq.drew.heap.size wq.drew w') (ds := []) #[false, false, false, false, false, false, false, false, false] (by kernel_rfl) rfl rfl (Below.refl _ _) (fun hHeld => ?_)
          clear K2 K3
          generalize wq.drew = wd at K4 K5 hHeld ⊢
          refine pure_ (i := 1) (N := (some 28)) (v := ?_) (a' := ?_) #[false, true, false, false, false, false, false, false, false] rfl rfl (by kernel_rfl) (fun _ _ _ h => h) (Or.inl ⟨by rfl, ?_⟩) ?_ ?_
          rotate_left
          · intro w'
            go_simp
            with_reducible rfl
          rotate_left
          · simp only [Act.put, List.setIfInBounds_toArray, List.set_cons_zero, List.set_cons_succ, i64_w, i32_w]
            rfl
          refine pure_ (i := 3) (N := (some 30)) (v := ?_) (a' := ?_) #[false, true, false, true, false, false, false, false, false] rfl rfl (by kernel_rfl) (fun _ _ _ h => h) (Or.inl ⟨by rfl, ?_⟩) ?_ ?_
          rotate_left
          · intro w'
            go_simp
            with_reducible rfl
          rotate_left
          · simp only [Act.put, List.setIfInBounds_toArray, List.set_cons_zero, List.set_cons_succ, i64_w, i32_w]
            rfl
          refine take_ (i := 0) (N := (some 27)) (v := ?_) (a' := ?_) #[true, true, false, true, false, false, false, false, false] rfl rfl (by kernel_rfl) (fun _ _ _ h => h) (Or.inl ⟨by rfl, ?_⟩) hHeld ?_ ?_
          rotate_left
          · rintro w' s0
            have c0_ := pw_cell_below s0 (show wd.cell? ⟨w.heap.size, 0, none⟩ = some (.string t) from (blk_cell K5.out.2.1 0).trans rfl)
            have c1_ := pw_cell_below s0 (show wd.cell? ⟨w.heap.size, 1, none⟩ = some (.int .i64 p) from (blk_cell K5.out.2.1 1).trans rfl)
            go_simp
            with_reducible rfl
          rotate_left
          · simp only [Act.put, List.setIfInBounds_toArray, List.set_cons_zero, List.set_cons_succ, i64_w, i32_w]
            rfl
          refine take_ (i := 2) (N := (some 29)) (v := ?_) (a' := ?_) #[true, true, true, true, false, false, false, false, false] rfl rfl (by kernel_rfl) (fun _ _ _ h => h) (Or.inl ⟨by rfl, ?_⟩) hHeld ?_ ?_
          rotate_left
          · rintro w' s0
            have c0_ := pw_cell_below s0 (show wd.cell? ⟨gb, 0, none⟩ = some (.int .i64 (rd_T61 l i).f0) from (blk_cell K5.out.2.2.1 0).trans rfl)
            go_simp
            with_reducible rfl
          rotate_left
          · simp only [Act.put, List.setIfInBounds_toArray, List.set_cons_zero, List.set_cons_succ, i64_w, i32_w]
            rfl
          refine take_ (i := 4) (N := (some 31)) (v := ?_) (a' := ?_) #[true, true, true, true, true, false, false, false, false] rfl rfl (by kernel_rfl) (fun _ _ _ h => h) (Or.inl ⟨by rfl, ?_⟩) hHeld ?_ ?_
          rotate_left
          · rintro w' s0
            have c0_ := pw_cell_below s0 (show wd.cell? ⟨gr, 5, none⟩ = some (.int .i64 (rd_T48 (rd_T61 l i).f4 j).f5) from (blk_cell K5.out.2.2.2 5).trans rfl)
            go_simp
            with_reducible rfl
          rotate_left
          · simp only [Act.put, List.setIfInBounds_toArray, List.set_cons_zero, List.set_cons_succ, i64_w, i32_w]
            rfl
          refine join_ (σ := Nat) 1 #[true, true, true, true, true, true, true, true, false] (fun s_ => [(32, (.agg #[.int .i64 (((rd_T61 l i).f0 + (rd_T48 (rd_T61 l i).f4 j).f5) / 18446744073709551616), .int .u64 (((rd_T61 l i).f0 + (rd_T48 (rd_T61 l i).f4 j).f5) % 18446744073709551616)])), (33, .agg #[.string t, .int .i64 p, .int .i64 (((rd_T61 l i).f0 + (rd_T48 (rd_T61 l i).f4 j).f5) / 18446744073709551616), .int .u64 (((rd_T61 l i).f0 + (rd_T48 (rd_T61 l i).f4 j).f5) % 18446744073709551616)]), (11, .pointer (some ⟨s_, 0, none⟩))]) (fun s_ w' => (Below wd.heap.size wd w') ∧ wd.heap.size ≤ s_ ∧ w'.heap[s_]? = some (.cells #[.string ⟨#[]⟩, .int .i64 0, .int .i64 0, .int .u64 0] 77 (0, 0))) ?_ ?_
          rotate_left
          · intro hCont
            refine two_ (i := 5) (j := 7) (Ni := (some 32)) (Nj := (some 11)) #[true, true, true, true, true, true, false, false, false] #[true, true, true, true, true, false, false, true, false] rfl rfl rfl rfl (by kernel_rfl) (by decide) (by decide) (fun K hK => ?_) (fun K hK => ?_)
            · refine goes_ Try.func44 (by kernel_rfl) rfl #[.int .i64 (rd_T61 l i).f0, .int .i64 (rd_T48 (rd_T61 l i).f4 j).f5] (by rfl) rfl rfl (by (try simp only [List.map_toArray, List.map_cons, List.map_nil]); first | done | rfl) ?_
              refine (check_sum.calls _ _ _ _ _ HSUM.out).mono ?_
              rintro e z1 ⟨rfl, hb_⟩
              refine ⟨_, rfl, ?_⟩
              have hs_ := below_step hHeld hb_
              refine hK.out _ _ hs_ (fun hHeld => ?_)
              clear hK K
              refine norm_ (a' := ?_) ?_ ?_
              rotate_left
              · show Act.put _ (some 32) _ = _
                simp only [Act.put, List.setIfInBounds_toArray, List.set_cons_zero, List.set_cons_succ, i64_w, i32_w]
                rfl
              refine pure_ (i := 6) (N := (some 33)) (v := ?_) (a' := ?_) #[true, true, true, true, true, true, true, false, false] rfl rfl (by kernel_rfl) (fun _ _ _ h => h) (Or.inl ⟨by rfl, ?_⟩) ?_ ?_
              rotate_left
              · intro w'
                go_simp
                with_reducible rfl
              rotate_left
              · simp only [Act.put, List.setIfInBounds_toArray, List.set_cons_zero, List.set_cons_succ, i64_w, i32_w]
                rfl
              refine one_ (i := 7) (N := (some 11)) #[true, true, true, true, true, true, true, true, false] rfl rfl (by kernel_rfl) (by decide) (fun K hK => ?_)
              refine value_ (w1 := z1.alloc (.cells #[.string ⟨#[]⟩, .int .i64 0, .int .i64 0, .int .u64 0] 77)) (v := .pointer (some ⟨z1.heap.size, 0, none⟩)) (by rfl) rfl ?_ ?_
              · go_simp
                try rfl
              refine hK.out _ _ (below_alloc hs_ _) (fun hHeld => ?_)
              clear hK K
              refine norm_ (a' := ?_) ?_ ?_
              rotate_left
              · show Act.put _ (some 11) _ = _
                simp only [Act.put, List.setIfInBounds_toArray, List.set_cons_zero, List.set_cons_succ, i64_w, i32_w]
                rfl
              exact norm_ (by simp only [putAll, Act.put, List.setIfInBounds_toArray, List.set_cons_zero, List.set_cons_succ]) (hCont z1.heap.size _ ⟨below_alloc hs_ _, hs_.size, heap_alloc_new z1 _⟩)
            · refine value_ (w1 := wd.alloc (.cells #[.string ⟨#[]⟩, .int .i64 0, .int .i64 0, .int .u64 0] 77)) (v := .pointer (some ⟨wd.heap.size, 0, none⟩)) (by rfl) rfl ?_ ?_
              · go_simp
                try rfl
              refine hK.out _ _ (below_alloc hHeld _) (fun hHeld => ?_)
              clear hK K
              refine norm_ (a' := ?_) ?_ ?_
              rotate_left
              · show Act.put _ (some 11) _ = _
                simp only [Act.put, List.setIfInBounds_toArray, List.set_cons_zero, List.set_cons_succ, i64_w, i32_w]
                rfl
              refine one_ (i := 5) (N := (some 32)) #[true, true, true, true, true, true, false, true, false] rfl rfl (by kernel_rfl) (by decide) (fun K hK => ?_)
              refine goes_ Try.func44 (by kernel_rfl) rfl #[.int .i64 (rd_T61 l i).f0, .int .i64 (rd_T48 (rd_T61 l i).f4 j).f5] (by rfl) rfl rfl (by (try simp only [List.map_toArray, List.map_cons, List.map_nil]); first | done | rfl) ?_
              refine (check_sum.calls _ _ _ _ _ HSUM.out).mono ?_
              rintro e z1 ⟨rfl, hb_⟩
              refine ⟨_, rfl, ?_⟩
              have hs_ := below_step (below_alloc (Below.refl wd.heap.size wd) (.cells #[.string ⟨#[]⟩, .int .i64 0, .int .i64 0, .int .u64 0] 77)) hb_
              refine hK.out _ _ hs_ (fun hHeld => ?_)
              clear hK K
              refine norm_ (a' := ?_) ?_ ?_
              rotate_left
              · show Act.put _ (some 32) _ = _
                simp only [Act.put, List.setIfInBounds_toArray, List.set_cons_zero, List.set_cons_succ, i64_w, i32_w]
                rfl
              refine pure_ (i := 6) (N := (some 33)) (v := ?_) (a' := ?_) #[true, true, true, true, true, true, true, true, false] rfl rfl (by kernel_rfl) (fun _ _ _ h => h) (Or.inl ⟨by rfl, ?_⟩) ?_ ?_
              rotate_left
              · intro w'
                go_simp
                with_reducible rfl
              rotate_left
              · simp only [Act.put, List.setIfInBounds_toArray, List.set_cons_zero, List.set_cons_succ, i64_w, i32_w]
                rfl
              exact norm_ (by simp only [putAll, Act.put, List.setIfInBounds_toArray, List.set_cons_zero, List.set_cons_succ]) (hCont wd.heap.size _ ⟨hs_, Nat.le_refl _, blk_below (heap_alloc_new wd _) hb_⟩)
          rintro gk z ⟨hb7, hle7, hk7⟩
          refine norm_ (a' := ?_) ?_ ?_
          rotate_left
          · simp only [putAll, Act.put, List.setIfInBounds_toArray, List.set_cons_zero, List.set_cons_succ]
            rfl
          refine one_ (i := 8) (N := none) #[true, true, true, true, true, true, true, true, true] rfl rfl (by kernel_rfl) (by decide) (fun K hK => ?_)
          refine store_step (by rfl) rfl 77 (.tmp 11) (.tmp 33) rfl gk #[.string t, .int .i64 p, .int .i64 (((rd_T61 l i).f0 + (rd_T48 (rd_T61 l i).f4 j).f5) / 18446744073709551616), .int .u64 (((rd_T61 l i).f0 + (rd_T48 (rd_T61 l i).f4 j).f5) % 18446744073709551616)] rfl rfl 77 #[.string ⟨#[]⟩, .int .i64 0, .int .i64 0, .int .u64 0] hk7 info_place rfl (by rw [← Array.all_toList]; rfl) ?_
          refine hK.out _ _ (below_row hb7 hle7 _) (fun hHeld => ?_)
          clear hK K
          refine done_ (by kernel_rfl) ?_
          clear hHeld
          have K6 := Aside0.mk (show MapV Try.prog 77 (z.setRow gk #[.string t, .int .i64 p, .int .i64 (((rd_T61 l i).f0 + (rd_T48 (rd_T61 l i).f4 j).f5) / 18446744073709551616), .int .u64 (((rd_T61 l i).f0 + (rd_T48 (rd_T61 l i).f4 j).f5) % 18446744073709551616)]) m G2 ∧ Below wd.heap.size wd (z.setRow gk #[.string t, .int .i64 p, .int .i64 (((rd_T61 l i).f0 + (rd_T48 (rd_T61 l i).f4 j).f5) / 18446744073709551616), .int .u64 (((rd_T61 l i).f0 + (rd_T48 (rd_T61 l i).f4 j).f5) % 18446744073709551616)]) from ⟨MapV.move K4.out ((below_row hb7 hle7 _).block m K4.out.lt), below_row hb7 hle7 _⟩)
          have K7 := Aside0.mk (show w.grownBy (z.setRow gk #[.string t, .int .i64 p, .int .i64 (((rd_T61 l i).f0 + (rd_T48 (rd_T61 l i).f4 j).f5) / 18446744073709551616), .int .u64 (((rd_T61 l i).f0 + (rd_T48 (rd_T61 l i).f4 j).f5) % 18446744073709551616)]) (some m) ∧ (z.setRow gk #[.string t, .int .i64 p, .int .i64 (((rd_T61 l i).f0 + (rd_T48 (rd_T61 l i).f4 j).f5) / 18446744073709551616), .int .u64 (((rd_T61 l i).f0 + (rd_T48 (rd_T61 l i).f4 j).f5) % 18446744073709551616)]).heap[w.heap.size]? = some (.cells #[.string t, .int .i64 p] 68 (0, 0)) ∧ (z.setRow gk #[.string t, .int .i64 p, .int .i64 (((rd_T61 l i).f0 + (rd_T48 (rd_T61 l i).f4 j).f5) / 18446744073709551616), .int .u64 (((rd_T61 l i).f0 + (rd_T48 (rd_T61 l i).f4 j).f5) % 18446744073709551616)]).heap[gb]? = some (.cells #[.int .i64 (rd_T61 l i).f0, .int .i64 (rd_T61 l i).f1, .int .i64 (rd_T61 l i).f2, .int .i64 (rd_T61 l i).f3, .slice (some ad2) (rd_T61 l i).f4.length c4] 61 (0, 0)) ∧ (z.setRow gk #[.string t, .int .i64 p, .int .i64 (((rd_T61 l i).f0 + (rd_T48 (rd_T61 l i).f4 j).f5) / 18446744073709551616), .int .u64 (((rd_T61 l i).f0 + (rd_T48 (rd_T61 l i).f4 j).f5) % 18446744073709551616)]).heap[gr]? = some (.cells #[.bool (rd_T48 (rd_T61 l i).f4 j).f0, .string (rd_T48 (rd_T61 l i).f4 j).f1, .bool (rd_T48 (rd_T61 l i).f4 j).f2, .string (rd_T48 (rd_T61 l i).f4 j).f3, .int .i64 (rd_T48 (rd_T61 l i).f4 j).f4, .int .i64 (rd_T48 (rd_T61 l i).f4 j).f5] 48 (0, 0)) ∧ (z.setRow gk #[.string t, .int .i64 p, .int .i64 (((rd_T61 l i).f0 + (rd_T48 (rd_T61 l i).f4 j).f5) / 18446744073709551616), .int .u64 (((rd_T61 l i).f0 + (rd_T48 (rd_T61 l i).f4 j).f5) % 18446744073709551616)]).heap[gk]? = some (.cells #[.string t, .int .i64 p, .int .i64 (((rd_T61 l i).f0 + (rd_T48 (rd_T61 l i).f4 j).f5) / 18446744073709551616), .int .u64 (((rd_T61 l i).f0 + (rd_T48 (rd_T61 l i).f4 j).f5) % 18446744073709551616)] 77 (0, 0)) from ⟨grown_below K5.out.1 K6.out.2, blk_below K5.out.2.1 K6.out.2, blk_below K5.out.2.2.1 K6.out.2, blk_below K5.out.2.2.2 K6.out.2, setRow_heap _ _ _ _ _ _ hk7⟩)
          clear K4 K5 hb7 hle7 hk7
          generalize (z.setRow gk #[.string t, .int .i64 p, .int .i64 (((rd_T61 l i).f0 + (rd_T48 (rd_T61 l i).f4 j).f5) / 18446744073709551616), .int .u64 (((rd_T61 l i).f0 + (rd_T48 (rd_T61 l i).f4 j).f5) % 18446744073709551616)]) = wk at K6 K7 ⊢
          obtain ⟨lk, hlk⟩ := place_key t p (rd_T61 l i).f0 (rd_T48 (rd_T61 l i).f4 j).f5 HT.out HP.out HWB.out.1 HWR.out
          have HLK := Aside0.mk hlk
          clear hlk
          have HLU := Aside0.mk (mapO_look (P := Try.prog) (w := wk) lawR Try.underlying56 (z := (.agg #[.bool false, .string ⟨#[]⟩, .bool false, .string ⟨#[]⟩, .int .i64 0, .int .i64 0])) (by kernel_rfl) (o := some m) (F := G2) K6.out.1 HLK.out)
          have HU := Aside0.mk (shR_upd HK.out.2 t p (rd_T61 l i).f0 (rd_T48 (rd_T61 l i).f4 j).f5 (rd_T48 (rd_T61 l i).f4 j) HT.out HP.out HWB.out.1 HWR.out)
          have k0 := (blk_cell K7.out.2.2.2.2 0).trans rfl
          have k1 := (blk_cell K7.out.2.2.2.2 1).trans rfl
          have k2 := (blk_cell K7.out.2.2.2.2 2).trans rfl
          have k3 := (blk_cell K7.out.2.2.2.2 3).trans rfl
          cases hG : G2 (placeV t p ((rd_T61 l i).f0 + (rd_T48 (rd_T61 l i).f4 j).f5)) with
          | none =>
            have HX := Aside0.mk (show (chgR t p (rd_T61 l i).f0 ((rd_T61 l i).f4.drop (j + 1).toNat) (upd G2 (placeV t p ((rd_T61 l i).f0 + (rd_T48 (rd_T61 l i).f4 j).f5)) (recV (rd_T48 (rd_T61 l i).f4 j)))).bind (chgB t p (l.drop (i + 1).toNat)) = chgB t p l F from by rw [← HK.out.1, HD2.out]; exact congrArg (fun q => Option.bind q (chgB t p (l.drop (i + 1).toNat))) (chgR_ok (t := t) (p := p) (base := (rd_T61 l i).f0) (r := (rd_T48 (rd_T61 l i).f4 j)) (Or.inl hG)).symm)
            have HLV := Aside0.mk (show (Instr.lookup 56 (.map (some m)) (.agg #[.string t, .int .i64 p, .int .i64 (((rd_T61 l i).f0 + (rd_T48 (rd_T61 l i).f4 j).f5) / 18446744073709551616), .int .u64 (((rd_T61 l i).f0 + (rd_T48 (rd_T61 l i).f4 j).f5) % 18446744073709551616)]) true).run Try.prog wk = .ok (.tuple #[(.agg #[.bool false, .string ⟨#[]⟩, .bool false, .string ⟨#[]⟩, .int .i64 0, .int .i64 0]), .bool false]) wk from by have h_ := HLU.out; rw [hG] at h_; exact h_)
            clear hG HLU
            go_upto_region 9 with (first | (at_lookup; refine wpl_mlook rfl _ _ _ _ rfl rfl rfl HLV.out ?_))
            (try simp only [Act.put, List.setIfInBounds_toArray, List.set_cons_zero, List.set_cons_succ])
            have L1 := Aside0.mk (show MapV Try.prog 77 (wk.alloc (.cells #[.bool false, .string ⟨#[]⟩, .bool false, .string ⟨#[]⟩, .int .i64 0, .int .i64 0] 48)) m G2 from K6.out.1.all _)
            have L2 := Aside0.mk (show w.grownBy (wk.alloc (.cells #[.bool false, .string ⟨#[]⟩, .bool false, .string ⟨#[]⟩, .int .i64 0, .int .i64 0] 48)) (some m) ∧ (wk.alloc (.cells #[.bool false, .string ⟨#[]⟩, .bool false, .string ⟨#[]⟩, .int .i64 0, .int .i64 0] 48)).heap[w.heap.size]? = some (.cells #[.string t, .int .i64 p] 68 (0, 0)) ∧ (wk.alloc (.cells #[.bool false, .string ⟨#[]⟩, .bool false, .string ⟨#[]⟩, .int .i64 0, .int .i64 0] 48)).heap[gb]? = some (.cells #[.int .i64 (rd_T61 l i).f0, .int .i64 (rd_T61 l i).f1, .int .i64 (rd_T61 l i).f2, .int .i64 (rd_T61 l i).f3, .slice (some ad2) (rd_T61 l i).f4.length c4] 61 (0, 0)) ∧ (wk.alloc (.cells #[.bool false, .string ⟨#[]⟩, .bool false, .string ⟨#[]⟩, .int .i64 0, .int .i64 0] 48)).heap[gr]? = some (.cells #[.bool (rd_T48 (rd_T61 l i).f4 j).f0, .string (rd_T48 (rd_T61 l i).f4 j).f1, .bool (rd_T48 (rd_T61 l i).f4 j).f2, .string (rd_T48 (rd_T61 l i).f4 j).f3, .int .i64 (rd_T48 (rd_T61 l i).f4 j).f4, .int .i64 (rd_T48 (rd_T61 l i).f4 j).f5] 48 (0, 0)) ∧ (wk.alloc (.cells #[.bool false, .string ⟨#[]⟩, .bool false, .string ⟨#[]⟩, .int .i64 0, .int .i64 0] 48)).heap[gk]? = some (.cells #[.string t, .int .i64 p, .int .i64 (((rd_T61 l i).f0 + (rd_T48 (rd_T61 l i).f4 j).f5) / 18446744073709551616), .int .u64 (((rd_T61 l i).f0 + (rd_T48 (rd_T61 l i).f4 j).f5) % 18446744073709551616)] 77 (0, 0)) from ⟨grown_below K7.out.1 (bel1 wk _), blk_alloc K7.out.2.1 _, blk_alloc K7.out.2.2.1 _, blk_alloc K7.out.2.2.2.1 _, blk_alloc K7.out.2.2.2.2 _⟩)
            have L0 := Aside0.mk (show (wk.alloc (.cells #[.bool false, .string ⟨#[]⟩, .bool false, .string ⟨#[]⟩, .int .i64 0, .int .i64 0] 48)).heap[wk.heap.size]? = some (.cells #[.bool false, .string ⟨#[]⟩, .bool false, .string ⟨#[]⟩, .int .i64 0, .int .i64 0] 48 (0, 0)) from heap_alloc_new wk _)
            clear k0 k1 k2 k3 K6 K7
            generalize (wk.alloc (.cells #[.bool false, .string ⟨#[]⟩, .bool false, .string ⟨#[]⟩, .int .i64 0, .int .i64 0] 48)) = wx at L0 L1 L2 ⊢
            obtain ⟨go, hgo⟩ : ∃ go, go = wk.heap.size := ⟨_, rfl⟩
            rw [← hgo] at L0 ⊢
            clear hgo
            refine start_ (n := 7) (S := fun w' => True) (ds := []) #[false, false, false, false, false, false, false] (by kernel_rfl) rfl rfl trivial (fun hHeld => ?_)
            have M1 := Aside0.mk (show MapV Try.prog 77 wx.drew m G2 from MapV.move L1.out rfl)
            have M2 := Aside0.mk (show w.grownBy wx.drew (some m) ∧ wx.drew.heap[w.heap.size]? = some (.cells #[.string t, .int .i64 p] 68 (0, 0)) ∧ wx.drew.heap[gb]? = some (.cells #[.int .i64 (rd_T61 l i).f0, .int .i64 (rd_T61 l i).f1, .int .i64 (rd_T61 l i).f2, .int .i64 (rd_T61 l i).f3, .slice (some ad2) (rd_T61 l i).f4.length c4] 61 (0, 0)) ∧ wx.drew.heap[gr]? = some (.cells #[.bool (rd_T48 (rd_T61 l i).f4 j).f0, .string (rd_T48 (rd_T61 l i).f4 j).f1, .bool (rd_T48 (rd_T61 l i).f4 j).f2, .string (rd_T48 (rd_T61 l i).f4 j).f3, .int .i64 (rd_T48 (rd_T61 l i).f4 j).f4, .int .i64 (rd_T48 (rd_T61 l i).f4 j).f5] 48 (0, 0)) ∧ wx.drew.heap[gk]? = some (.cells #[.string t, .int .i64 p, .int .i64 (((rd_T61 l i).f0 + (rd_T48 (rd_T61 l i).f4 j).f5) / 18446744073709551616), .int .u64 (((rd_T61 l i).f0 + (rd_T48 (rd_T61 l i).f4 j).f5) % 18446744073709551616)] 77 (0, 0)) from ⟨grown_below L2.out.1 (below_drew1 (Below.refl _ _)), L2.out.2⟩)
            clear L0 L1 L2
            have L1 := M1
            have L2 := M2
            clear M1 M2
            generalize wx.drew = wv at L1 L2 ⊢
            refine pure_ (i := 0) (N := (some 40)) (v := ?_) (a' := ?_) #[true, false, false, false, false, false, false] rfl rfl (by kernel_rfl) (fun _ _ _ h => h) (Or.inl ⟨by rfl, ?_⟩) ?_ ?_
            rotate_left
            · intro w'
              go_simp
              with_reducible rfl
            rotate_left
            · simp only [Act.put, List.setIfInBounds_toArray, List.set_cons_zero, List.set_cons_succ, i64_w, i32_w]
              rfl
            refine pure_ (i := 1) (N := (some 41)) (v := ?_) (a' := ?_) #[true, true, false, false, false, false, false] rfl rfl (by kernel_rfl) (fun _ _ _ h => h) (Or.inl ⟨by rfl, ?_⟩) ?_ ?_
            rotate_left
            · intro w'
              go_simp
              with_reducible rfl
            rotate_left
            · simp only [Act.put, List.setIfInBounds_toArray, List.set_cons_zero, List.set_cons_succ, i64_w, i32_w]
              rfl
            refine pure_ (i := 2) (N := (some 42)) (v := undef) (a' := ?_) #[true, true, true, false, false, false, false] rfl rfl (by kernel_rfl) (fun _ _ _ h => h) (Or.inr ⟨by rfl, rfl⟩) ?_ ?_
            rotate_left
            · simp only [Act.put, List.setIfInBounds_toArray, List.set_cons_zero, List.set_cons_succ, i64_w, i32_w]
              rfl
            refine pure_ (i := 3) (N := (some 43)) (v := undef) (a' := ?_) #[true, true, true, true, false, false, false] rfl rfl (by kernel_rfl) (fun _ _ _ h => h) (Or.inr ⟨by rfl, rfl⟩) ?_ ?_
            rotate_left
            · simp only [Act.put, List.setIfInBounds_toArray, List.set_cons_zero, List.set_cons_succ, i64_w, i32_w]
              rfl
            refine pure_ (i := 4) (N := (some 44)) (v := undef) (a' := ?_) #[true, true, true, true, true, false, false] rfl rfl (by kernel_rfl) (fun _ _ _ h => h) (Or.inr ⟨by rfl, rfl⟩) ?_ ?_
            rotate_left
            · simp only [Act.put, List.setIfInBounds_toArray, List.set_cons_zero, List.set_cons_succ, i64_w, i32_w]
              rfl
            refine pure_ (i := 5) (N := (some 45)) (v := undef) (a' := ?_) #[true, true, true, true, true, true, false] rfl rfl (by kernel_rfl) (fun _ _ _ h => h) (Or.inr ⟨by rfl, rfl⟩) ?_ ?_
            rotate_left
            · simp only [Act.put, List.setIfInBounds_toArray, List.set_cons_zero, List.set_cons_succ, i64_w, i32_w]
              rfl
            refine pure_ (i := 6) (N := (some 46)) (v := ?_) (a' := ?_) #[true, true, true, true, true, true, true] rfl rfl (by kernel_rfl) (fun _ _ _ h => h) (Or.inl ⟨by rfl, ?_⟩) ?_ ?_
            rotate_left
            · intro w'
              go_simp
              with_reducible rfl
            rotate_left
            · simp only [Act.put, List.setIfInBounds_toArray, List.set_cons_zero, List.set_cons_succ, i64_w, i32_w]
              rfl
            refine done_ (by kernel_rfl) ?_
            clear hHeld
            go_upto_region 11 with fail
            (try simp only [Act.put, List.setIfInBounds_toArray, List.set_cons_zero, List.set_cons_succ])
            have L3 := Aside0.mk (show MapV Try.prog 77 wv.drew m G2 from MapV.move L1.out rfl)
            have L4 := Aside0.mk (show w.grownBy wv.drew (some m) ∧ wv.drew.heap[w.heap.size]? = some (.cells #[.string t, .int .i64 p] 68 (0, 0)) ∧ wv.drew.heap[gb]? = some (.cells #[.int .i64 (rd_T61 l i).f0, .int .i64 (rd_T61 l i).f1, .int .i64 (rd_T61 l i).f2, .int .i64 (rd_T61 l i).f3, .slice (some ad2) (rd_T61 l i).f4.length c4] 61 (0, 0)) ∧ wv.drew.heap[gr]? = some (.cells #[.bool (rd_T48 (rd_T61 l i).f4 j).f0, .string (rd_T48 (rd_T61 l i).f4 j).f1, .bool (rd_T48 (rd_T61 l i).f4 j).f2, .string (rd_T48 (rd_T61 l i).f4 j).f3, .int .i64 (rd_T48 (rd_T61 l i).f4 j).f4, .int .i64 (rd_T48 (rd_T61 l i).f4 j).f5] 48 (0, 0)) ∧ wv.drew.heap[gk]? = some (.cells #[.string t, .int .i64 p, .int .i64 (((rd_T61 l i).f0 + (rd_T48 (rd_T61 l i).f4 j).f5) / 18446744073709551616), .int .u64 (((rd_T61 l i).f0 + (rd_T48 (rd_T61 l i).f4 j).f5) % 18446744073709551616)] 77 (0, 0)) from ⟨grown_below L2.out.1 (below_drew1 (Below.refl _ _)), L2.out.2⟩)
            refine start_ (n := 5) (S := fun w' => Below wv.drew.heap.size wv.drew w') (ds := [4]) #[false, false, false, false, false] (by kernel_rfl) rfl rfl (Below.refl _ _) (fun hHeld => ?_)
            clear L1 L2
            generalize wv.drew = wy at L3 L4 hHeld ⊢
            refine pure_ (i := 0) (N := (some 47)) (v := ?_) (a' := ?_) #[true, false, false, false, false] rfl rfl (by kernel_rfl) (fun _ _ _ h => h) (Or.inl ⟨by rfl, ?_⟩) ?_ ?_
            rotate_left
            · intro w'
              go_simp
              with_reducible rfl
            rotate_left
            · simp only [Act.put, List.setIfInBounds_toArray, List.set_cons_zero, List.set_cons_succ, i64_w, i32_w]
              rfl
            refine take_ (i := 1) (N := (some 48)) (v := ?_) (a' := ?_) #[true, true, false, false, false] rfl rfl (by kernel_rfl) (fun _ _ _ h => h) (Or.inl ⟨by rfl, ?_⟩) hHeld ?_ ?_
            rotate_left
            · rintro w' s0
              have c0_ := pw_cell_below s0 (show wy.cell? ⟨gk, 0, none⟩ = some (.string t) from (blk_cell L4.out.2.2.2.2 0).trans rfl)
              have c1_ := pw_cell_below s0 (show wy.cell? ⟨gk, 1, none⟩ = some (.int .i64 p) from (blk_cell L4.out.2.2.2.2 1).trans rfl)
              have c2_ := pw_cell_below s0 (show wy.cell? ⟨gk, 2, none⟩ = some (.int .i64 (((rd_T61 l i).f0 + (rd_T48 (rd_T61 l i).f4 j).f5) / 18446744073709551616)) from (blk_cell L4.out.2.2.2.2 2).trans rfl)
              have c3_ := pw_cell_below s0 (show wy.cell? ⟨gk, 3, none⟩ = some (.int .u64 (((rd_T61 l i).f0 + (rd_T48 (rd_T61 l i).f4 j).f5) % 18446744073709551616)) from (blk_cell L4.out.2.2.2.2 3).trans rfl)
              go_simp
              with_reducible rfl
            rotate_left
            · simp only [Act.put, List.setIfInBounds_toArray, List.set_cons_zero, List.set_cons_succ, i64_w, i32_w]
              rfl
            refine take_ (i := 2) (N := (some 49)) (v := ?_) (a' := ?_) #[true, true, true, false, false] rfl rfl (by kernel_rfl) (fun _ _ _ h => h) (Or.inl ⟨by rfl, ?_⟩) hHeld ?_ ?_
            rotate_left
            · rintro w' s0
              have c0_ := pw_cell_below s0 (show wy.cell? ⟨gr, 0, none⟩ = some (.bool (rd_T48 (rd_T61 l i).f4 j).f0) from (blk_cell L4.out.2.2.2.1 0).trans rfl)
              have c1_ := pw_cell_below s0 (show wy.cell? ⟨gr, 1, none⟩ = some (.string (rd_T48 (rd_T61 l i).f4 j).f1) from (blk_cell L4.out.2.2.2.1 1).trans rfl)
              have c2_ := pw_cell_below s0 (show wy.cell? ⟨gr, 2, none⟩ = some (.bool (rd_T48 (rd_T61 l i).f4 j).f2) from (blk_cell L4.out.2.2.2.1 2).trans rfl)
              have c3_ := pw_cell_below s0 (show wy.cell? ⟨gr, 3, none⟩ = some (.string (rd_T48 (rd_T61 l i).f4 j).f3) from (blk_cell L4.out.2.2.2.1 3).trans rfl)
              have c4_ := pw_cell_below s0 (show wy.cell? ⟨gr, 4, none⟩ = some (.int .i64 (rd_T48 (rd_T61 l i).f4 j).f4) from (blk_cell L4.out.2.2.2.1 4).trans rfl)
              have c5_ := pw_cell_below s0 (show wy.cell? ⟨gr, 5, none⟩ = some (.int .i64 (rd_T48 (rd_T61 l i).f4 j).f5) from (blk_cell L4.out.2.2.2.1 5).trans rfl)
              go_simp
              with_reducible rfl
            rotate_left
            · simp only [Act.put, List.setIfInBounds_toArray, List.set_cons_zero, List.set_cons_succ, i64_w, i32_w]
              rfl
            refine one_ (i := 3) (N := (some 50)) #[true, true, true, true, false] rfl rfl (by kernel_rfl) (by decide) (fun K hK => ?_)
            refine goes_ Try.func45 (by kernel_rfl) rfl #[.agg #[.bool (rd_T48 (rd_T61 l i).f4 j).f0, .string (rd_T48 (rd_T61 l i).f4 j).f1, .bool (rd_T48 (rd_T61 l i).f4 j).f2, .string (rd_T48 (rd_T61 l i).f4 j).f3, .int .i64 (rd_T48 (rd_T61 l i).f4 j).f4, .int .i64 (rd_T48 (rd_T61 l i).f4 j).f5]] (by rfl) rfl rfl (by (try simp only [List.map_toArray, List.map_cons, List.map_nil]); first | done | rfl) ?_
            refine (check_like.calls _ _ _ _ _ _ _ _ _ _ _ _ _ (show check_like.f (rd_T48 (rd_T61 l i).f4 j).f0 (rd_T48 (rd_T61 l i).f4 j).f1 (rd_T48 (rd_T61 l i).f4 j).f2 (rd_T48 (rd_T61 l i).f4 j).f3 (rd_T48 (rd_T61 l i).f4 j).f4 (rd_T48 (rd_T61 l i).f4 j).f5 = some ((rd_T48 (rd_T61 l i).f4 j).f0, (rd_T48 (rd_T61 l i).f4 j).f1, (rd_T48 (rd_T61 l i).f4 j).f2, (rd_T48 (rd_T61 l i).f4 j).f3, (rd_T48 (rd_T61 l i).f4 j).f4, 0) from rfl)).mono ?_
            rintro e z2 ⟨rfl, hb_⟩
            refine ⟨_, rfl, ?_⟩
            have hs_ := below_step hHeld hb_
            refine hK.out _ _ hs_ (fun hHeld => ?_)
            clear hK K
            refine norm_ (a' := ?_) ?_ ?_
            rotate_left
            · show Act.put _ (some 50) _ = _
              simp only [Act.put, List.setIfInBounds_toArray, List.set_cons_zero, List.set_cons_succ, i64_w, i32_w]
              rfl
            refine last_ (i := 4) (N := none) #[true, true, true, true, true] rfl rfl (by kernel_rfl) (by decide) (fun K hK => ?_)
            obtain ⟨w9, hrun9, hm9, hg9, hz9⟩ := mapV_put lawR Try.underlying56 (MapV.move L3.out (hs_.block m L3.out.lt)) (v := recV (rd_T48 (rd_T61 l i).f4 j)) HLK.out
            refine skip_ (w1 := w9) (by rfl) rfl ?_ ?_
            · have hrun9_ : (Instr.mapUpdate 56 (.map (some m)) (.agg #[.string t, .int .i64 p, .int .i64 (((rd_T61 l i).f0 + (rd_T48 (rd_T61 l i).f4 j).f5) / 18446744073709551616), .int .u64 (((rd_T61 l i).f0 + (rd_T48 (rd_T61 l i).f4 j).f5) % 18446744073709551616)]) (.agg #[.bool (rd_T48 (rd_T61 l i).f4 j).f0, .string (rd_T48 (rd_T61 l i).f4 j).f1, .bool (rd_T48 (rd_T61 l i).f4 j).f2, .string (rd_T48 (rd_T61 l i).f4 j).f3, .int .i64 (rd_T48 (rd_T61 l i).f4 j).f4, .int .i64 0])).run Try.prog z2 = .ok () w9 := hrun9
              simp [execOp, Act.eval, hrun9_, Result.andThen]
            refine hK.out _ _ ?_
            clear hK K
            refine done_ (by kernel_rfl) ?_
            have N1 := Aside0.mk (And.intro hm9 (grown_trans (grown_below L4.out.1 hs_) hg9))
            have N2 := Aside0.mk (show w9.heap[w.heap.size]? = some (.cells #[.string t, .int .i64 p] 68 (0, 0)) ∧ w9.heap[gb]? = some (.cells #[.int .i64 (rd_T61 l i).f0, .int .i64 (rd_T61 l i).f1, .int .i64 (rd_T61 l i).f2, .int .i64 (rd_T61 l i).f3, .slice (some ad2) (rd_T61 l i).f4.length c4] 61 (0, 0)) from ⟨(hg9.block _ (blk_lt (blk_below L4.out.2.1 hs_)) (fun e => by have := Option.some.inj e; have := HML.out; omega)).trans (blk_below L4.out.2.1 hs_), (hg9.block _ (blk_lt (blk_below L4.out.2.2.1 hs_)) (fun e => by have := Option.some.inj e; have := HML.out; have := HQ.out; omega)).trans (blk_below L4.out.2.2.1 hs_)⟩)
            clear hm9 hg9 hz9 hrun9 hs_ hb_ L3 L4
            have e1 : IntKind.i64.wrap (j + 1) = j + 1 := (i64_w _).trans (by have := HJ.out; have := HWB.out.2.1; unfold wrap64; omega)
            go_wp2_with fail
            go_roundg ((rd_T61 l i).f4.length + 1 - (j + 1).toNat)
            case measure => have := HJ.out; have := HJ2.out; omega
            case rel => exact ⟨j + 1, _, by first | rfl | rw [e1], ⟨by have := HJ.out; have := HJ2.out; omega, by have := HJ.out; omega, by have := HJ2.out; omega⟩, ⟨HX.out, HU.out, N1.out.1⟩, ⟨N1.out.2, N2.out.1, N2.out.2⟩⟩
          | some v =>
            obtain ⟨_, v0, v1, v2, v3, v4, v5, rfl⟩ := HK.out.2 _ _ hG
            have HLV := Aside0.mk (show (Instr.lookup 56 (.map (some m)) (.agg #[.string t, .int .i64 p, .int .i64 (((rd_T61 l i).f0 + (rd_T48 (rd_T61 l i).f4 j).f5) / 18446744073709551616), .int .u64 (((rd_T61 l i).f0 + (rd_T48 (rd_T61 l i).f4 j).f5) % 18446744073709551616)]) true).run Try.prog wk = .ok (.tuple #[.agg #[.bool v0, .string v1, .bool v2, .string v3, .int .i64 v4, .int .i64 v5], .bool true]) wk from by have h_ := HLU.out; rw [hG] at h_; exact h_)
            have HG2 := Aside0.mk hG
            clear hG HLU
            go_upto_region 9 with (first | (at_lookup; refine wpl_mlook rfl _ _ _ _ rfl rfl rfl HLV.out ?_))
            (try simp only [Act.put, List.setIfInBounds_toArray, List.set_cons_zero, List.set_cons_succ])
            have L1 := Aside0.mk (show MapV Try.prog 77 (wk.alloc (.cells #[.bool v0, .string v1, .bool v2, .string v3, .int .i64 v4, .int .i64 v5] 48)) m G2 from K6.out.1.all _)
            have L2 := Aside0.mk (show w.grownBy (wk.alloc (.cells #[.bool v0, .string v1, .bool v2, .string v3, .int .i64 v4, .int .i64 v5] 48)) (some m) ∧ (wk.alloc (.cells #[.bool v0, .string v1, .bool v2, .string v3, .int .i64 v4, .int .i64 v5] 48)).heap[w.heap.size]? = some (.cells #[.string t, .int .i64 p] 68 (0, 0)) ∧ (wk.alloc (.cells #[.bool v0, .string v1, .bool v2, .string v3, .int .i64 v4, .int .i64 v5] 48)).heap[gb]? = some (.cells #[.int .i64 (rd_T61 l i).f0, .int .i64 (rd_T61 l i).f1, .int .i64 (rd_T61 l i).f2, .int .i64 (rd_T61 l i).f3, .slice (some ad2) (rd_T61 l i).f4.length c4] 61 (0, 0)) ∧ (wk.alloc (.cells #[.bool v0, .string v1, .bool v2, .string v3, .int .i64 v4, .int .i64 v5] 48)).heap[gr]? = some (.cells #[.bool (rd_T48 (rd_T61 l i).f4 j).f0, .string (rd_T48 (rd_T61 l i).f4 j).f1, .bool (rd_T48 (rd_T61 l i).f4 j).f2, .string (rd_T48 (rd_T61 l i).f4 j).f3, .int .i64 (rd_T48 (rd_T61 l i).f4 j).f4, .int .i64 (rd_T48 (rd_T61 l i).f4 j).f5] 48 (0, 0)) ∧ (wk.alloc (.cells #[.bool v0, .string v1, .bool v2, .string v3, .int .i64 v4, .int .i64 v5] 48)).heap[gk]? = some (.cells #[.string t, .int .i64 p, .int .i64 (((rd_T61 l i).f0 + (rd_T48 (rd_T61 l i).f4 j).f5) / 18446744073709551616), .int .u64 (((rd_T61 l i).f0 + (rd_T48 (rd_T61 l i).f4 j).f5) % 18446744073709551616)] 77 (0, 0)) from ⟨grown_below K7.out.1 (bel1 wk _), blk_alloc K7.out.2.1 _, blk_alloc K7.out.2.2.1 _, blk_alloc K7.out.2.2.2.1 _, blk_alloc K7.out.2.2.2.2 _⟩)
            have L0 := Aside0.mk (show (wk.alloc (.cells #[.bool v0, .string v1, .bool v2, .string v3, .int .i64 v4, .int .i64 v5] 48)).heap[wk.heap.size]? = some (.cells #[.bool v0, .string v1, .bool v2, .string v3, .int .i64 v4, .int .i64 v5] 48 (0, 0)) from heap_alloc_new wk _)
            clear k0 k1 k2 k3 K6 K7
            generalize (wk.alloc (.cells #[.bool v0, .string v1, .bool v2, .string v3, .int .i64 v4, .int .i64 v5] 48)) = wx at L0 L1 L2 ⊢
            obtain ⟨go, hgo⟩ : ∃ go, go = wk.heap.size := ⟨_, rfl⟩
            rw [← hgo] at L0 ⊢
            clear hgo
            by_cases hv : Value.agg #[.bool v0, .string v1, .bool v2, .string v3, .int .i64 v4, .int .i64 v5] = recV (rd_T48 (rd_T61 l i).f4 j)
            case pos =>
              have HE := Aside0.mk (show ∀ w' : World, (Op.equal 48 (.agg #[.bool v0, .string v1, .bool v2, .string v3, .int .i64 v4, .int .i64 v5]) (.agg #[.bool (rd_T48 (rd_T61 l i).f4 j).f0, .string (rd_T48 (rd_T61 l i).f4 j).f1, .bool (rd_T48 (rd_T61 l i).f4 j).f2, .string (rd_T48 (rd_T61 l i).f4 j).f3, .int .i64 (rd_T48 (rd_T61 l i).f4 j).f4, .int .i64 0])).run Try.prog w' = .ok true w' from fun w' => rec_same (show  Value.agg #[.bool v0, .string v1, .bool v2, .string v3, .int .i64 v4, .int .i64 v5] = Value.agg #[.bool (rd_T48 (rd_T61 l i).f4 j).f0, .string (rd_T48 (rd_T61 l i).f4 j).f1, .bool (rd_T48 (rd_T61 l i).f4 j).f2, .string (rd_T48 (rd_T61 l i).f4 j).f3, .int .i64 (rd_T48 (rd_T61 l i).f4 j).f4, .int .i64 0] from hv) w')
              have HX := Aside0.mk (show (chgR t p (rd_T61 l i).f0 ((rd_T61 l i).f4.drop (j + 1).toNat) (upd G2 (placeV t p ((rd_T61 l i).f0 + (rd_T48 (rd_T61 l i).f4 j).f5)) (recV (rd_T48 (rd_T61 l i).f4 j)))).bind (chgB t p (l.drop (i + 1).toNat)) = chgB t p l F from by rw [← HK.out.1, HD2.out]; exact congrArg (fun q => Option.bind q (chgB t p (l.drop (i + 1).toNat))) (chgR_ok (t := t) (p := p) (base := (rd_T61 l i).f0) (r := (rd_T48 (rd_T61 l i).f4 j)) (Or.inr (HG2.out.trans (congrArg some hv)))).symm)
              refine start_ (n := 7) (S := fun w' => Below wx.drew.heap.size wx.drew w') (ds := []) #[false, false, false, false, false, false, false] (by kernel_rfl) rfl rfl (Below.refl _ _) (fun hHeld => ?_)
              have M1 := Aside0.mk (show MapV Try.prog 77 wx.drew m G2 from MapV.move L1.out rfl)
              have M2 := Aside0.mk (show w.grownBy wx.drew (some m) ∧ wx.drew.heap[w.heap.size]? = some (.cells #[.string t, .int .i64 p] 68 (0, 0)) ∧ wx.drew.heap[gb]? = some (.cells #[.int .i64 (rd_T61 l i).f0, .int .i64 (rd_T61 l i).f1, .int .i64 (rd_T61 l i).f2, .int .i64 (rd_T61 l i).f3, .slice (some ad2) (rd_T61 l i).f4.length c4] 61 (0, 0)) ∧ wx.drew.heap[gr]? = some (.cells #[.bool (rd_T48 (rd_T61 l i).f4 j).f0, .string (rd_T48 (rd_T61 l i).f4 j).f1, .bool (rd_T48 (rd_T61 l i).f4 j).f2, .string (rd_T48 (rd_T61 l i).f4 j).f3, .int .i64 (rd_T48 (rd_T61 l i).f4 j).f4, .int .i64 (rd_T48 (rd_T61 l i).f4 j).f5] 48 (0, 0)) ∧ wx.drew.heap[gk]? = some (.cells #[.string t, .int .i64 p, .int .i64 (((rd_T61 l i).f0 + (rd_T48 (rd_T61 l i).f4 j).f5) / 18446744073709551616), .int .u64 (((rd_T61 l i).f0 + (rd_T48 (rd_T61 l i).f4 j).f5) % 18446744073709551616)] 77 (0, 0)) from ⟨grown_below L2.out.1 (below_drew1 (Below.refl _ _)), L2.out.2⟩)
              have M0 := Aside0.mk (show wx.drew.heap[go]? = some (.cells #[.bool v0, .string v1, .bool v2, .string v3, .int .i64 v4, .int .i64 v5] 48 (0, 0)) from L0.out)
              clear L0 L1 L2 HG2 hv
              have L0 := M0
              have L1 := M1
              have L2 := M2
              clear M0 M1 M2
              generalize wx.drew = wv at L0 L1 L2 hHeld ⊢
              refine pure_ (i := 0) (N := (some 40)) (v := ?_) (a' := ?_) #[true, false, false, false, false, false, false] rfl rfl (by kernel_rfl) (fun _ _ _ h => h) (Or.inl ⟨by rfl, ?_⟩) ?_ ?_
              rotate_left
              · intro w'
                go_simp
                with_reducible rfl
              rotate_left
              · simp only [Act.put, List.setIfInBounds_toArray, List.set_cons_zero, List.set_cons_succ, i64_w, i32_w]
                rfl
              refine pure_ (i := 1) (N := (some 41)) (v := ?_) (a' := ?_) #[true, true, false, false, false, false, false] rfl rfl (by kernel_rfl) (fun _ _ _ h => h) (Or.inl ⟨by rfl, ?_⟩) ?_ ?_
              rotate_left
              · intro w'
                go_simp
                with_reducible rfl
              rotate_left
              · simp only [Act.put, List.setIfInBounds_toArray, List.set_cons_zero, List.set_cons_succ, i64_w, i32_w]
                rfl
              refine take_ (i := 2) (N := (some 42)) (v := ?_) (a' := ?_) #[true, true, true, false, false, false, false] rfl rfl (by kernel_rfl) (fun _ _ _ h => h) (Or.inl ⟨by rfl, ?_⟩) hHeld ?_ ?_
              rotate_left
              · rintro w' s0
                have c0_ := pw_cell_below s0 (show wv.cell? ⟨go, 0, none⟩ = some (.bool v0) from (blk_cell L0.out 0).trans rfl)
                have c1_ := pw_cell_below s0 (show wv.cell? ⟨go, 1, none⟩ = some (.string v1) from (blk_cell L0.out 1).trans rfl)
                have c2_ := pw_cell_below s0 (show wv.cell? ⟨go, 2, none⟩ = some (.bool v2) from (blk_cell L0.out 2).trans rfl)
                have c3_ := pw_cell_below s0 (show wv.cell? ⟨go, 3, none⟩ = some (.string v3) from (blk_cell L0.out 3).trans rfl)
                have c4_ := pw_cell_below s0 (show wv.cell? ⟨go, 4, none⟩ = some (.int .i64 v4) from (blk_cell L0.out 4).trans rfl)
                have c5_ := pw_cell_below s0 (show wv.cell? ⟨go, 5, none⟩ = some (.int .i64 v5) from (blk_cell L0.out 5).trans rfl)
                go_simp
                with_reducible rfl
              rotate_left
              · simp only [Act.put, List.setIfInBounds_toArray, List.set_cons_zero, List.set_cons_succ, i64_w, i32_w]
                rfl
              refine take_ (i := 3) (N := (some 43)) (v := ?_) (a' := ?_) #[true, true, true, true, false, false, false] rfl rfl (by kernel_rfl) (fun _ _ _ h => h) (Or.inl ⟨by rfl, ?_⟩) hHeld ?_ ?_
              rotate_left
              · rintro w' s0
                have c0_ := pw_cell_below s0 (show wv.cell? ⟨gr, 0, none⟩ = some (.bool (rd_T48 (rd_T61 l i).f4 j).f0) from (blk_cell L2.out.2.2.2.1 0).trans rfl)
                have c1_ := pw_cell_below s0 (show wv.cell? ⟨gr, 1, none⟩ = some (.string (rd_T48 (rd_T61 l i).f4 j).f1) from (blk_cell L2.out.2.2.2.1 1).trans rfl)
                have c2_ := pw_cell_below s0 (show wv.cell? ⟨gr, 2, none⟩ = some (.bool (rd_T48 (rd_T61 l i).f4 j).f2) from (blk_cell L2.out.2.2.2.1 2).trans rfl)
                have c3_ := pw_cell_below s0 (show wv.cell? ⟨gr, 3, none⟩ = some (.string (rd_T48 (rd_T61 l i).f4 j).f3) from (blk_cell L2.out.2.2.2.1 3).trans rfl)
                have c4_ := pw_cell_below s0 (show wv.cell? ⟨gr, 4, none⟩ = some (.int .i64 (rd_T48 (rd_T61 l i).f4 j).f4) from (blk_cell L2.out.2.2.2.1 4).trans rfl)
                have c5_ := pw_cell_below s0 (show wv.cell? ⟨gr, 5, none⟩ = some (.int .i64 (rd_T48 (rd_T61 l i).f4 j).f5) from (blk_cell L2.out.2.2.2.1 5).trans rfl)
                go_simp
                with_reducible rfl
              rotate_left
              · simp only [Act.put, List.setIfInBounds_toArray, List.set_cons_zero, List.set_cons_succ, i64_w, i32_w]
                rfl
              refine one_ (i := 4) (N := (some 44)) #[true, true, true, true, true, false, false] rfl rfl (by kernel_rfl) (by decide) (fun K hK => ?_)
              refine goes_ Try.func45 (by kernel_rfl) rfl #[.agg #[.bool (rd_T48 (rd_T61 l i).f4 j).f0, .string (rd_T48 (rd_T61 l i).f4 j).f1, .bool (rd_T48 (rd_T61 l i).f4 j).f2, .string (rd_T48 (rd_T61 l i).f4 j).f3, .int .i64 (rd_T48 (rd_T61 l i).f4 j).f4, .int .i64 (rd_T48 (rd_T61 l i).f4 j).f5]] (by rfl) rfl rfl (by (try simp only [List.map_toArray, List.map_cons, List.map_nil]); first | done | rfl) ?_
              refine (check_like.calls _ _ _ _ _ _ _ _ _ _ _ _ _ (show check_like.f (rd_T48 (rd_T61 l i).f4 j).f0 (rd_T48 (rd_T61 l i).f4 j).f1 (rd_T48 (rd_T61 l i).f4 j).f2 (rd_T48 (rd_T61 l i).f4 j).f3 (rd_T48 (rd_T61 l i).f4 j).f4 (rd_T48 (rd_T61 l i).f4 j).f5 = some ((rd_T48 (rd_T61 l i).f4 j).f0, (rd_T48 (rd_T61 l i).f4 j).f1, (rd_T48 (rd_T61 l i).f4 j).f2, (rd_T48 (rd_T61 l i).f4 j).f3, (rd_T48 (rd_T61 l i).f4 j).f4, 0) from rfl)).mono ?_
              rintro e z2 ⟨rfl, hb_⟩
              refine ⟨_, rfl, ?_⟩
              have hs_ := below_step hHeld hb_
              refine hK.out _ _ hs_ (fun hHeld => ?_)
              clear hK K
              refine norm_ (a' := ?_) ?_ ?_
              rotate_left
              · show Act.put _ (some 44) _ = _
                simp only [Act.put, List.setIfInBounds_toArray, List.set_cons_zero, List.set_cons_succ, i64_w, i32_w]
                rfl
              refine pure_ (i := 5) (N := (some 45)) (v := ?_) (a' := ?_) #[true, true, true, true, true, true, false] rfl rfl (by kernel_rfl) (fun _ _ _ h => h) (Or.inl ⟨by rfl, ?_⟩) ?_ ?_
              rotate_left
              · intro w'
                refine bin_ne 48 48 (.tmp 42) (.tmp 44) ?_ ?_ ?_ ?_ (HE.out w')
                · rfl
                · rfl
                · rfl
                · kernel_rfl
              rotate_left
              · simp only [Act.put, List.setIfInBounds_toArray, List.set_cons_zero, List.set_cons_succ, i64_w, i32_w]
                rfl
              refine pure_ (i := 6) (N := (some 46)) (v := ?_) (a' := ?_) #[true, true, true, true, true, true, true] rfl rfl (by kernel_rfl) (fun _ _ _ h => h) (Or.inl ⟨by rfl, ?_⟩) ?_ ?_
              rotate_left
              · intro w'
                go_simp
                with_reducible rfl
              rotate_left
              · simp only [Act.put, List.setIfInBounds_toArray, List.set_cons_zero, List.set_cons_succ, i64_w, i32_w]
                rfl
              refine done_ (by kernel_rfl) ?_
              clear hHeld
              have M1 := Aside0.mk (show MapV Try.prog 77 z2 m G2 from MapV.move L1.out (hs_.block m L1.out.lt))
              have M2 := Aside0.mk (show w.grownBy z2 (some m) ∧ z2.heap[w.heap.size]? = some (.cells #[.string t, .int .i64 p] 68 (0, 0)) ∧ z2.heap[gb]? = some (.cells #[.int .i64 (rd_T61 l i).f0, .int .i64 (rd_T61 l i).f1, .int .i64 (rd_T61 l i).f2, .int .i64 (rd_T61 l i).f3, .slice (some ad2) (rd_T61 l i).f4.length c4] 61 (0, 0)) ∧ z2.heap[gr]? = some (.cells #[.bool (rd_T48 (rd_T61 l i).f4 j).f0, .string (rd_T48 (rd_T61 l i).f4 j).f1, .bool (rd_T48 (rd_T61 l i).f4 j).f2, .string (rd_T48 (rd_T61 l i).f4 j).f3, .int .i64 (rd_T48 (rd_T61 l i).f4 j).f4, .int .i64 (rd_T48 (rd_T61 l i).f4 j).f5] 48 (0, 0)) ∧ z2.heap[gk]? = some (.cells #[.string t, .int .i64 p, .int .i64 (((rd_T61 l i).f0 + (rd_T48 (rd_T61 l i).f4 j).f5) / 18446744073709551616), .int .u64 (((rd_T61 l i).f0 + (rd_T48 (rd_T61 l i).f4 j).f5) % 18446744073709551616)] 77 (0, 0)) from ⟨grown_below L2.out.1 hs_, blk_below L2.out.2.1 hs_, blk_below L2.out.2.2.1 hs_, blk_below L2.out.2.2.2.1 hs_, blk_below L2.out.2.2.2.2 hs_⟩)
              clear L0 L1 L2 hs_ hb_ HE
              have L1 := M1
              have L2 := M2
              clear M1 M2
              go_upto_region 11 with fail
              (try simp only [Act.put, List.setIfInBounds_toArray, List.set_cons_zero, List.set_cons_succ])
              have L3 := Aside0.mk (show MapV Try.prog 77 z2.drew m G2 from MapV.move L1.out rfl)
              have L4 := Aside0.mk (show w.grownBy z2.drew (some m) ∧ z2.drew.heap[w.heap.size]? = some (.cells #[.string t, .int .i64 p] 68 (0, 0)) ∧ z2.drew.heap[gb]? = some (.cells #[.int .i64 (rd_T61 l i).f0, .int .i64 (rd_T61 l i).f1, .int .i64 (rd_T61 l i).f2, .int .i64 (rd_T61 l i).f3, .slice (some ad2) (rd_T61 l i).f4.length c4] 61 (0, 0)) ∧ z2.drew.heap[gr]? = some (.cells #[.bool (rd_T48 (rd_T61 l i).f4 j).f0, .string (rd_T48 (rd_T61 l i).f4 j).f1, .bool (rd_T48 (rd_T61 l i).f4 j).f2, .string (rd_T48 (rd_T61 l i).f4 j).f3, .int .i64 (rd_T48 (rd_T61 l i).f4 j).f4, .int .i64 (rd_T48 (rd_T61 l i).f4 j).f5] 48 (0, 0)) ∧ z2.drew.heap[gk]? = some (.cells #[.string t, .int .i64 p, .int .i64 (((rd_T61 l i).f0 + (rd_T48 (rd_T61 l i).f4 j).f5) / 18446744073709551616), .int .u64 (((rd_T61 l i).f0 + (rd_T48 (rd_T61 l i).f4 j).f5) % 18446744073709551616)] 77 (0, 0)) from ⟨grown_below L2.out.1 (below_drew1 (Below.refl _ _)), L2.out.2⟩)
              refine start_ (n := 5) (S := fun w' => Below z2.drew.heap.size z2.drew w') (ds := [4]) #[false, false, false, false, false] (by kernel_rfl) rfl rfl (Below.refl _ _) (fun hHeld => ?_)
              clear L1 L2
              generalize z2.drew = wy at L3 L4 hHeld ⊢
              refine pure_ (i := 0) (N := (some 47)) (v := ?_) (a' := ?_) #[true, false, false, false, false] rfl rfl (by kernel_rfl) (fun _ _ _ h => h) (Or.inl ⟨by rfl, ?_⟩) ?_ ?_
              rotate_left
              · intro w'
                go_simp
                with_reducible rfl
              rotate_left
              · simp only [Act.put, List.setIfInBounds_toArray, List.set_cons_zero, List.set_cons_succ, i64_w, i32_w]
                rfl
              refine take_ (i := 1) (N := (some 48)) (v := ?_) (a' := ?_) #[true, true, false, false, false] rfl rfl (by kernel_rfl) (fun _ _ _ h => h) (Or.inl ⟨by rfl, ?_⟩) hHeld ?_ ?_
              rotate_left
              · rintro w' s0
                have c0_ := pw_cell_below s0 (show wy.cell? ⟨gk, 0, none⟩ = some (.string t) from (blk_cell L4.out.2.2.2.2 0).trans rfl)
                have c1_ := pw_cell_below s0 (show wy.cell? ⟨gk, 1, none⟩ = some (.int .i64 p) from (blk_cell L4.out.2.2.2.2 1).trans rfl)
                have c2_ := pw_cell_below s0 (show wy.cell? ⟨gk, 2, none⟩ = some (.int .i64 (((rd_T61 l i).f0 + (rd_T48 (rd_T61 l i).f4 j).f5) / 18446744073709551616)) from (blk_cell L4.out.2.2.2.2 2).trans rfl)
                have c3_ := pw_cell_below s0 (show wy.cell? ⟨gk, 3, none⟩ = some (.int .u64 (((rd_T61 l i).f0 + (rd_T48 (rd_T61 l i).f4 j).f5) % 18446744073709551616)) from (blk_cell L4.out.2.2.2.2 3).trans rfl)
                go_simp
                with_reducible rfl
              rotate_left
              · simp only [Act.put, List.setIfInBounds_toArray, List.set_cons_zero, List.set_cons_succ, i64_w, i32_w]
                rfl
              refine take_ (i := 2) (N := (some 49)) (v := ?_) (a' := ?_) #[true, true, true, false, false] rfl rfl (by kernel_rfl) (fun _ _ _ h => h) (Or.inl ⟨by rfl, ?_⟩) hHeld ?_ ?_
              rotate_left
              · rintro w' s0
                have c0_ := pw_cell_below s0 (show wy.cell? ⟨gr, 0, none⟩ = some (.bool (rd_T48 (rd_T61 l i).f4 j).f0) from (blk_cell L4.out.2.2.2.1 0).trans rfl)
                have c1_ := pw_cell_below s0 (show wy.cell? ⟨gr, 1, none⟩ = some (.string (rd_T48 (rd_T61 l i).f4 j).f1) from (blk_cell L4.out.2.2.2.1 1).trans rfl)
                have c2_ := pw_cell_below s0 (show wy.cell? ⟨gr, 2, none⟩ = some (.bool (rd_T48 (rd_T61 l i).f4 j).f2) from (blk_cell L4.out.2.2.2.1 2).trans rfl)
                have c3_ := pw_cell_below s0 (show wy.cell? ⟨gr, 3, none⟩ = some (.string (rd_T48 (rd_T61 l i).f4 j).f3) from (blk_cell L4.out.2.2.2.1 3).trans rfl)
                have c4_ := pw_cell_below s0 (show wy.cell? ⟨gr, 4, none⟩ = some (.int .i64 (rd_T48 (rd_T61 l i).f4 j).f4) from (blk_cell L4.out.2.2.2.1 4).trans rfl)
                have c5_ := pw_cell_below s0 (show wy.cell? ⟨gr, 5, none⟩ = some (.int .i64 (rd_T48 (rd_T61 l i).f4 j).f5) from (blk_cell L4.out.2.2.2.1 5).trans rfl)
                go_simp
                with_reducible rfl
              rotate_left
              · simp only [Act.put, List.setIfInBounds_toArray, List.set_cons_zero, List.set_cons_succ, i64_w, i32_w]
                rfl
              refine one_ (i := 3) (N := (some 50)) #[true, true, true, true, false] rfl rfl (by kernel_rfl) (by decide) (fun K hK => ?_)
              refine goes_ Try.func45 (by kernel_rfl) rfl #[.agg #[.bool (rd_T48 (rd_T61 l i).f4 j).f0, .string (rd_T48 (rd_T61 l i).f4 j).f1, .bool (rd_T48 (rd_T61 l i).f4 j).f2, .string (rd_T48 (rd_T61 l i).f4 j).f3, .int .i64 (rd_T48 (rd_T61 l i).f4 j).f4, .int .i64 (rd_T48 (rd_T61 l i).f4 j).f5]] (by rfl) rfl rfl (by (try simp only [List.map_toArray, List.map_cons, List.map_nil]); first | done | rfl) ?_
              refine (check_like.calls _ _ _ _ _ _ _ _ _ _ _ _ _ (show check_like.f (rd_T48 (rd_T61 l i).f4 j).f0 (rd_T48 (rd_T61 l i).f4 j).f1 (rd_T48 (rd_T61 l i).f4 j).f2 (rd_T48 (rd_T61 l i).f4 j).f3 (rd_T48 (rd_T61 l i).f4 j).f4 (rd_T48 (rd_T61 l i).f4 j).f5 = some ((rd_T48 (rd_T61 l i).f4 j).f0, (rd_T48 (rd_T61 l i).f4 j).f1, (rd_T48 (rd_T61 l i).f4 j).f2, (rd_T48 (rd_T61 l i).f4 j).f3, (rd_T48 (rd_T61 l i).f4 j).f4, 0) from rfl)).mono ?_
              rintro e z3 ⟨rfl, hb_⟩
              refine ⟨_, rfl, ?_⟩
              have hs_ := below_step hHeld hb_
              refine hK.out _ _ hs_ (fun hHeld => ?_)
              clear hK K
              refine norm_ (a' := ?_) ?_ ?_
              rotate_left
              · show Act.put _ (some 50) _ = _
                simp only [Act.put, List.setIfInBounds_toArray, List.set_cons_zero, List.set_cons_succ, i64_w, i32_w]
                rfl
              refine last_ (i := 4) (N := none) #[true, true, true, true, true] rfl rfl (by kernel_rfl) (by decide) (fun K hK => ?_)
              obtain ⟨w9, hrun9, hm9, hg9, hz9⟩ := mapV_put lawR Try.underlying56 (MapV.move L3.out (hs_.block m L3.out.lt)) (v := recV (rd_T48 (rd_T61 l i).f4 j)) HLK.out
              refine skip_ (w1 := w9) (by rfl) rfl ?_ ?_
              · have hrun9_ : (Instr.mapUpdate 56 (.map (some m)) (.agg #[.string t, .int .i64 p, .int .i64 (((rd_T61 l i).f0 + (rd_T48 (rd_T61 l i).f4 j).f5) / 18446744073709551616), .int .u64 (((rd_T61 l i).f0 + (rd_T48 (rd_T61 l i).f4 j).f5) % 18446744073709551616)]) (.agg #[.bool (rd_T48 (rd_T61 l i).f4 j).f0, .string (rd_T48 (rd_T61 l i).f4 j).f1, .bool (rd_T48 (rd_T61 l i).f4 j).f2, .string (rd_T48 (rd_T61 l i).f4 j).f3, .int .i64 (rd_T48 (rd_T61 l i).f4 j).f4, .int .i64 0])).run Try.prog z3 = .ok () w9 := hrun9
                simp [execOp, Act.eval, hrun9_, Result.andThen]
              refine hK.out _ _ ?_
              clear hK K
              refine done_ (by kernel_rfl) ?_
              have N1 := Aside0.mk (And.intro hm9 (grown_trans (grown_below L4.out.1 hs_) hg9))
              have N2 := Aside0.mk (show w9.heap[w.heap.size]? = some (.cells #[.string t, .int .i64 p] 68 (0, 0)) ∧ w9.heap[gb]? = some (.cells #[.int .i64 (rd_T61 l i).f0, .int .i64 (rd_T61 l i).f1, .int .i64 (rd_T61 l i).f2, .int .i64 (rd_T61 l i).f3, .slice (some ad2) (rd_T61 l i).f4.length c4] 61 (0, 0)) from ⟨(hg9.block _ (blk_lt (blk_below L4.out.2.1 hs_)) (fun e => by have := Option.some.inj e; have := HML.out; omega)).trans (blk_below L4.out.2.1 hs_), (hg9.block _ (blk_lt (blk_below L4.out.2.2.1 hs_)) (fun e => by have := Option.some.inj e; have := HML.out; have := HQ.out; omega)).trans (blk_below L4.out.2.2.1 hs_)⟩)
              clear hm9 hg9 hz9 hrun9 hs_ hb_ L3 L4
              have e1 : IntKind.i64.wrap (j + 1) = j + 1 := (i64_w _).trans (by have := HJ.out; have := HWB.out.2.1; unfold wrap64; omega)
              go_wp2_with fail
              go_roundg ((rd_T61 l i).f4.length + 1 - (j + 1).toNat)
              case measure => have := HJ.out; have := HJ2.out; omega
              case rel => exact ⟨j + 1, _, by first | rfl | rw [e1], ⟨by have := HJ.out; have := HJ2.out; omega, by have := HJ.out; omega, by have := HJ2.out; omega⟩, ⟨HX.out, HU.out, N1.out.1⟩, ⟨N1.out.2, N2.out.1, N2.out.2⟩⟩
            case neg =>
              have HE := Aside0.mk (show ∀ w' : World, (Op.equal 48 (.agg #[.bool v0, .string v1, .bool v2, .string v3, .int .i64 v4, .int .i64 v5]) (.agg #[.bool (rd_T48 (rd_T61 l i).f4 j).f0, .string (rd_T48 (rd_T61 l i).f4 j).f1, .bool (rd_T48 (rd_T61 l i).f4 j).f2, .string (rd_T48 (rd_T61 l i).f4 j).f3, .int .i64 (rd_T48 (rd_T61 l i).f4 j).f4, .int .i64 0])).run Try.prog w' = .ok false w' from fun w' => rec_diff (show ¬ Value.agg #[.bool v0, .string v1, .bool v2, .string v3, .int .i64 v4, .int .i64 v5] = Value.agg #[.bool (rd_T48 (rd_T61 l i).f4 j).f0, .string (rd_T48 (rd_T61 l i).f4 j).f1, .bool (rd_T48 (rd_T61 l i).f4 j).f2, .string (rd_T48 (rd_T61 l i).f4 j).f3, .int .i64 (rd_T48 (rd_T61 l i).f4 j).f4, .int .i64 0] from hv) w')
              have HX := Aside0.mk (show chgB t p l F = none from by rw [← HK.out.1, HD2.out]; exact congrArg (fun q => Option.bind q (chgB t p (l.drop (i + 1).toNat))) (chgR_no (t := t) (p := p) (base := (rd_T61 l i).f0) (r := (rd_T48 (rd_T61 l i).f4 j)) (fun h => h.elim (fun h1 => by have h2 := HG2.out.symm.trans h1; cases h2) (fun h1 => hv (Option.some.inj (HG2.out.symm.trans h1))))))
              refine start_ (n := 7) (S := fun w' => Below wx.drew.heap.size wx.drew w') (ds := []) #[false, false, false, false, false, false, false] (by kernel_rfl) rfl rfl (Below.refl _ _) (fun hHeld => ?_)
              have M1 := Aside0.mk (show MapV Try.prog 77 wx.drew m G2 from MapV.move L1.out rfl)
              have M2 := Aside0.mk (show w.grownBy wx.drew (some m) ∧ wx.drew.heap[w.heap.size]? = some (.cells #[.string t, .int .i64 p] 68 (0, 0)) ∧ wx.drew.heap[gb]? = some (.cells #[.int .i64 (rd_T61 l i).f0, .int .i64 (rd_T61 l i).f1, .int .i64 (rd_T61 l i).f2, .int .i64 (rd_T61 l i).f3, .slice (some ad2) (rd_T61 l i).f4.length c4] 61 (0, 0)) ∧ wx.drew.heap[gr]? = some (.cells #[.bool (rd_T48 (rd_T61 l i).f4 j).f0, .string (rd_T48 (rd_T61 l i).f4 j).f1, .bool (rd_T48 (rd_T61 l i).f4 j).f2, .string (rd_T48 (rd_T61 l i).f4 j).f3, .int .i64 (rd_T48 (rd_T61 l i).f4 j).f4, .int .i64 (rd_T48 (rd_T61 l i).f4 j).f5] 48 (0, 0)) ∧ wx.drew.heap[gk]? = some (.cells #[.string t, .int .i64 p, .int .i64 (((rd_T61 l i).f0 + (rd_T48 (rd_T61 l i).f4 j).f5) / 18446744073709551616), .int .u64 (((rd_T61 l i).f0 + (rd_T48 (rd_T61 l i).f4 j).f5) % 18446744073709551616)] 77 (0, 0)) from ⟨grown_below L2.out.1 (below_drew1 (Below.refl _ _)), L2.out.2⟩)
              have M0 := Aside0.mk (show wx.drew.heap[go]? = some (.cells #[.bool v0, .string v1, .bool v2, .string v3, .int .i64 v4, .int .i64 v5] 48 (0, 0)) from L0.out)
              clear L0 L1 L2 HG2 hv
              have L0 := M0
              have L1 := M1
              have L2 := M2
              clear M0 M1 M2
              generalize wx.drew = wv at L0 L1 L2 hHeld ⊢
              refine pure_ (i := 0) (N := (some 40)) (v := ?_) (a' := ?_) #[true, false, false, false, false, false, false] rfl rfl (by kernel_rfl) (fun _ _ _ h => h) (Or.inl ⟨by rfl, ?_⟩) ?_ ?_
              rotate_left
              · intro w'
                go_simp
                with_reducible rfl
              rotate_left
              · simp only [Act.put, List.setIfInBounds_toArray, List.set_cons_zero, List.set_cons_succ, i64_w, i32_w]
                rfl
              refine pure_ (i := 1) (N := (some 41)) (v := ?_) (a' := ?_) #[true, true, false, false, false, false, false] rfl rfl (by kernel_rfl) (fun _ _ _ h => h) (Or.inl ⟨by rfl, ?_⟩) ?_ ?_
              rotate_left
              · intro w'
                go_simp
                with_reducible rfl
              rotate_left
              · simp only [Act.put, List.setIfInBounds_toArray, List.set_cons_zero, List.set_cons_succ, i64_w, i32_w]
                rfl
              refine take_ (i := 2) (N := (some 42)) (v := ?_) (a' := ?_) #[true, true, true, false, false, false, false] rfl rfl (by kernel_rfl) (fun _ _ _ h => h) (Or.inl ⟨by rfl, ?_⟩) hHeld ?_ ?_
              rotate_left
              · rintro w' s0
                have c0_ := pw_cell_below s0 (show wv.cell? ⟨go, 0, none⟩ = some (.bool v0) from (blk_cell L0.out 0).trans rfl)
                have c1_ := pw_cell_below s0 (show wv.cell? ⟨go, 1, none⟩ = some (.string v1) from (blk_cell L0.out 1).trans rfl)
                have c2_ := pw_cell_below s0 (show wv.cell? ⟨go, 2, none⟩ = some (.bool v2) from (blk_cell L0.out 2).trans rfl)
                have c3_ := pw_cell_below s0 (show wv.cell? ⟨go, 3, none⟩ = some (.string v3) from (blk_cell L0.out 3).trans rfl)
                have c4_ := pw_cell_below s0 (show wv.cell? ⟨go, 4, none⟩ = some (.int .i64 v4) from (blk_cell L0.out 4).trans rfl)
                have c5_ := pw_cell_below s0 (show wv.cell? ⟨go, 5, none⟩ = some (.int .i64 v5) from (blk_cell L0.out 5).trans rfl)
                go_simp
                with_reducible rfl
              rotate_left
              · simp only [Act.put, List.setIfInBounds_toArray, List.set_cons_zero, List.set_cons_succ, i64_w, i32_w]
                rfl
              refine take_ (i := 3) (N := (some 43)) (v := ?_) (a' := ?_) #[true, true, true, true, false, false, false] rfl rfl (by kernel_rfl) (fun _ _ _ h => h) (Or.inl ⟨by rfl, ?_⟩) hHeld ?_ ?_
              rotate_left
              · rintro w' s0
                have c0_ := pw_cell_below s0 (show wv.cell? ⟨gr, 0, none⟩ = some (.bool (rd_T48 (rd_T61 l i).f4 j).f0) from (blk_cell L2.out.2.2.2.1 0).trans rfl)
                have c1_ := pw_cell_below s0 (show wv.cell? ⟨gr, 1, none⟩ = some (.string (rd_T48 (rd_T61 l i).f4 j).f1) from (blk_cell L2.out.2.2.2.1 1).trans rfl)
                have c2_ := pw_cell_below s0 (show wv.cell? ⟨gr, 2, none⟩ = some (.bool (rd_T48 (rd_T61 l i).f4 j).f2) from (blk_cell L2.out.2.2.2.1 2).trans rfl)
                have c3_ := pw_cell_below s0 (show wv.cell? ⟨gr, 3, none⟩ = some (.string (rd_T48 (rd_T61 l i).f4 j).f3) from (blk_cell L2.out.2.2.2.1 3).trans rfl)
                have c4_ := pw_cell_below s0 (show wv.cell? ⟨gr, 4, none⟩ = some (.int .i64 (rd_T48 (rd_T61 l i).f4 j).f4) from (blk_cell L2.out.2.2.2.1 4).trans rfl)
                have c5_ := pw_cell_below s0 (show wv.cell? ⟨gr, 5, none⟩ = some (.int .i64 (rd_T48 (rd_T61 l i).f4 j).f5) from (blk_cell L2.out.2.2.2.1 5).trans rfl)
                go_simp
                with_reducible rfl
              rotate_left
              · simp only [Act.put, List.setIfInBounds_toArray, List.set_cons_zero, List.set_cons_succ, i64_w, i32_w]
                rfl
              refine one_ (i := 4) (N := (some 44)) #[true, true, true, true, true, false, false] rfl rfl (by kernel_rfl) (by decide) (fun K hK => ?_)
              refine goes_ Try.func45 (by kernel_rfl) rfl #[.agg #[.bool (rd_T48 (rd_T61 l i).f4 j).f0, .string (rd_T48 (rd_T61 l i).f4 j).f1, .bool (rd_T48 (rd_T61 l i).f4 j).f2, .string (rd_T48 (rd_T61 l i).f4 j).f3, .int .i64 (rd_T48 (rd_T61 l i).f4 j).f4, .int .i64 (rd_T48 (rd_T61 l i).f4 j).f5]] (by rfl) rfl rfl (by (try simp only [List.map_toArray, List.map_cons, List.map_nil]); first | done | rfl) ?_
              refine (check_like.calls _ _ _ _ _ _ _ _ _ _ _ _ _ (show check_like.f (rd_T48 (rd_T61 l i).f4 j).f0 (rd_T48 (rd_T61 l i).f4 j).f1 (rd_T48 (rd_T61 l i).f4 j).f2 (rd_T48 (rd_T61 l i).f4 j).f3 (rd_T48 (rd_T61 l i).f4 j).f4 (rd_T48 (rd_T61 l i).f4 j).f5 = some ((rd_T48 (rd_T61 l i).f4 j).f0, (rd_T48 (rd_T61 l i).f4 j).f1, (rd_T48 (rd_T61 l i).f4 j).f2, (rd_T48 (rd_T61 l i).f4 j).f3, (rd_T48 (rd_T61 l i).f4 j).f4, 0) from rfl)).mono ?_
              rintro e z2 ⟨rfl, hb_⟩
              refine ⟨_, rfl, ?_⟩
              have hs_ := below_step hHeld hb_
              refine hK.out _ _ hs_ (fun hHeld => ?_)
              clear hK K
              refine norm_ (a' := ?_) ?_ ?_
              rotate_left
              · show Act.put _ (some 44) _ = _
                simp only [Act.put, List.setIfInBounds_toArray, List.set_cons_zero, List.set_cons_succ, i64_w, i32_w]
                rfl
              refine pure_ (i := 5) (N := (some 45)) (v := ?_) (a' := ?_) #[true, true, true, true, true, true, false] rfl rfl (by kernel_rfl) (fun _ _ _ h => h) (Or.inl ⟨by rfl, ?_⟩) ?_ ?_
              rotate_left
              · intro w'
                refine bin_ne 48 48 (.tmp 42) (.tmp 44) ?_ ?_ ?_ ?_ (HE.out w')
                · rfl
                · rfl
                · rfl
                · kernel_rfl
              rotate_left
              · simp only [Act.put, List.setIfInBounds_toArray, List.set_cons_zero, List.set_cons_succ, i64_w, i32_w]
                rfl
              refine pure_ (i := 6) (N := (some 46)) (v := ?_) (a' := ?_) #[true, true, true, true, true, true, true] rfl rfl (by kernel_rfl) (fun _ _ _ h => h) (Or.inl ⟨by rfl, ?_⟩) ?_ ?_
              rotate_left
              · intro w'
                go_simp
                with_reducible rfl
              rotate_left
              · simp only [Act.put, List.setIfInBounds_toArray, List.set_cons_zero, List.set_cons_succ, i64_w, i32_w]
                rfl
              refine done_ (by kernel_rfl) ?_
              clear hHeld
              have M2 := Aside0.mk (grown_below L2.out.1 hs_)
              clear L0 L1 L2 hs_ hb_ HE
              go_wp2_with fail
              go_ret
              exact ⟨M2.out, .inl ⟨HX.out, rfl⟩⟩

end Go.Proofs.Ytdlkofmcioalfaa.PCk

namespace Go.Proofs.Ytdlkofmcioalfaa.PCk
open Go.RowKit Go.Proofs.YtdlkofmcioalfaaW.PrintWords Go.Proofs.YtdlkofmcioalfaaW.PrintLast Go.Proofs.YtdlkofmcioalfaaW.PrintMore
attribute [local go_sem] max2_int min2_int max_two min_two max_three min_three max_four min_four
set_option linter.unusedVariables false
set_option linter.unusedSimpArgs false

/-! ### check.again -/
theorem agnB_no {t : ByteArray} {p : Int} {b : SB} {l : List SB} {F : Value → Option Value} (h : F (sentV t p b.f2 b.f3) ≠ none ∧ F (sentV t p b.f2 b.f3) ≠ some (.int .i64 b.f0) ∧ 0 < b.f2) : agnB t p (b :: l) F = none := if_pos h
theorem agnB_ok {t : ByteArray} {p : Int} {b : SB} {l : List SB} {F : Value → Option Value} (h : ¬ (F (sentV t p b.f2 b.f3) ≠ none ∧ F (sentV t p b.f2 b.f3) ≠ some (.int .i64 b.f0) ∧ 0 < b.f2)) : agnB t p (b :: l) F = agnB t p l (upd F (sentV t p b.f2 b.f3) (.int .i64 b.f0)) := if_neg h
set_option maxHeartbeats 4000000 in
set_option maxRecDepth 100000 in
theorem check_again.calls (m : Nat) (F : Value → Option Value) (t : ByteArray) (p : Int) (A : Option Addr) (c : Nat) (l : List SB) (w0 w : World) (hF : MapV Try.prog 80 w m F) (hS : ShS F) (hr : Kd.C k61 w0 A l.length l) (hb : Below w0.heap.size w0 w) (hm : w0.heap.size ≤ m)
    (ht : t.size ≤ maxLen) (hp : (Lit.int .i64 p).wf = true) (hl : l.length ≤ 140737488355328) (hw : ∀ b ∈ l, (Lit.int .i64 b.f2).wf = true ∧ (Lit.int .i64 b.f3).wf = true) :
    Calls Try.prog 29 #[.map (some m), .agg #[.string t, .int .i64 p], .slice A l.length c] w fun e w' => w.grownBy w' (some m) ∧ ((agnB t p l F = none ∧ e = .returned (.bool true)) ∨ ∃ F', agnB t p l F = some F' ∧ ShS F' ∧ e = .returned (.bool false) ∧ MapV Try.prog 80 w' m F') := by
  have HR := Aside0.mk hr
  have HB := Aside0.mk hb
  have HM := Aside0.mk hm
  have HML := Aside0.mk hF.lt
  have HT := Aside0.mk ht
  have HP := Aside0.mk hp
  have HL := Aside0.mk hl
  have HW := Aside0.mk hw
  have H1 := Aside0.mk (show agnB t p (l.drop (0 : Int).toNat) F = agnB t p l F ∧ ShS F ∧ MapV Try.prog 80 (w.alloc (.cells #[.string t, .int .i64 p] 68)) m F from ⟨rfl, hS, hF.all _⟩)
  have H2 := Aside0.mk (show w.grownBy (w.alloc (.cells #[.string t, .int .i64 p] 68)) (some m) ∧ (w.alloc (.cells #[.string t, .int .i64 p] 68)).heap[w.heap.size]? = some (.cells #[.string t, .int .i64 p] 68 (0, 0)) from ⟨below_grown (bel1 w _) m, heap_alloc_new w _⟩)
  clear hr hb hm hF hS ht hp hl hw
  go_enter Try.func29, Try.ntmps29
  go_wp2_with fail
  generalize w.alloc (.cells #[.string t, .int .i64 p] 68) = wa at H1 H2 ⊢
  go_loopg [14] (l.length + 1) (fun kq v14 wr => ∃ (i : Int) (G : Value → Option Value), v14 = .int .i64 i ∧ Aside0 (kq + i.toNat = l.length + 1 ∧ 0 ≤ i ∧ i ≤ (l.length : Int)) ∧ Aside0 (agnB t p (l.drop i.toNat) G = agnB t p l F ∧ ShS G ∧ MapV Try.prog 80 wr m G) ∧ Aside0 (w.grownBy wr (some m) ∧ wr.heap[w.heap.size]? = some (.cells #[.string t, .int .i64 p] 68 (0, 0))))
  case atStart => exact ⟨0, F, rfl, ⟨by simp, by omega, by omega⟩, H1, H2⟩
  case round =>
    obtain ⟨i, G, rfl, HI, HG, HH⟩ := hrel
    clear H1 H2
    by_cases hi : i < (l.length : Int)
    case neg =>
      have d1 : decide (i < (l.length : Int)) = false := decide_eq_false hi
      have he : i = (l.length : Int) := by have := HI.out; omega
      have HE := Aside0.mk (show agnB t p l F = some G from by have h_ := HG.out.1; rw [he, Int.toNat_natCast, List.drop_length] at h_; exact h_.symm)
      clear he hi
      go_wp2_with fail
      go_ret
      exact ⟨HH.out.1, .inr ⟨G, HE.out, HG.out.2.1, rfl, HG.out.2.2⟩⟩
    case pos =>
      have d1 : decide (i < (l.length : Int)) = true := decide_eq_true hi
      have h0 := HI.out.2.1
      obtain ⟨ad, A4, c4, ea, x0, x1, x2, x3, x4, l4, g4⟩ := at_T61 HR.out i h0 hi
      have hbw := chg_old HB.out HM.out HH.out.1
      replace x0 := pw_cell_below hbw x0
      replace x1 := pw_cell_below hbw x1
      replace x2 := pw_cell_below hbw x2
      replace x3 := pw_cell_below hbw x3
      replace x4 := pw_cell_below hbw x4
      have HWB := Aside0.mk (HW.out (rd_T61 l i) (get_mem z61 h0 hi))
      have HD := Aside0.mk (drop_get z61 h0 hi)
      have p1 := eq_true h0
      have p2 := eq_true hi
      have HI2 := Aside0.mk hi
      clear g4 l4 hbw h0 hi
      cases ea
      go_upto_region 4 with fail
      (try simp only [Act.put, List.setIfInBounds_toArray, List.set_cons_zero, List.set_cons_succ])
      have K2 := Aside0.mk (show MapV Try.prog 80 (wr.alloc (.cells #[.int .i64 (rd_T61 l i).f0, .int .i64 (rd_T61 l i).f1, .int .i64 (rd_T61 l i).f2, .int .i64 (rd_T61 l i).f3, .slice A4 (rd_T61 l i).f4.length c4] 61)) m G from HG.out.2.2.all _)
      have K3 := Aside0.mk (show w.grownBy (wr.alloc (.cells #[.int .i64 (rd_T61 l i).f0, .int .i64 (rd_T61 l i).f1, .int .i64 (rd_T61 l i).f2, .int .i64 (rd_T61 l i).f3, .slice A4 (rd_T61 l i).f4.length c4] 61)) (some m) ∧ (wr.alloc (.cells #[.int .i64 (rd_T61 l i).f0, .int .i64 (rd_T61 l i).f1, .int .i64 (rd_T61 l i).f2, .int .i64 (rd_T61 l i).f3, .slice A4 (rd_T61 l i).f4.length c4] 61)).heap[w.heap.size]? = some (.cells #[.string t, .int .i64 p] 68 (0, 0)) ∧ (wr.alloc (.cells #[.int .i64 (rd_T61 l i).f0, .int .i64 (rd_T61 l i).f1, .int .i64 (rd_T61 l i).f2, .int .i64 (rd_T61 l i).f3, .slice A4 (rd_T61 l i).f4.length c4] 61)).heap[wr.heap.size]? = some (.cells #[.int .i64 (rd_T61 l i).f0, .int .i64 (rd_T61 l i).f1, .int .i64 (rd_T61 l i).f2, .int .i64 (rd_T61 l i).f3, .slice A4 (rd_T61 l i).f4.length c4] 61 (0, 0)) from ⟨grown_below HH.out.1 (bel1 wr _), blk_alloc HH.out.2 _, heap_alloc_new wr _⟩)
      have HK := Aside0.mk (And.intro HG.out.1 HG.out.2.1)
      have HQ := Aside0.mk (show w.heap.size < wr.heap.size from blk_lt HH.out.2)
      clear x0 x1 x2 x3 x4 HG HH
      generalize (wr.alloc (.cells #[.int .i64 (rd_T61 l i).f0, .int .i64 (rd_T61 l i).f1, .int .i64 (rd_T61 l i).f2, .int .i64 (rd_T61 l i).f3, .slice A4 (rd_T61 l i).f4.length c4] 61)) = wb at K2 K3 ⊢
      obtain ⟨gb, hgb⟩ : ∃ gb, gb = wr.heap.size := ⟨_, rfl⟩
      rw [← hgb] at K3 HQ ⊢
      clear hgb
      have y0 := (blk_cell K3.out.2.1 0).trans rfl
      have y1 := (blk_cell K3.out.2.1 1).trans rfl
      have z0 := (blk_cell K3.out.2.2 0).trans rfl
      have z2 := (blk_cell K3.out.2.2 2).trans rfl
      have z3 := (blk_cell K3.out.2.2 3).trans rfl
      go_upto_region 5 with fail
      (try simp only [Act.put, List.setIfInBounds_toArray, List.set_cons_zero, List.set_cons_succ])
      have L1 := Aside0.mk (show MapV Try.prog 80 (wb.alloc (.cells #[.string t, .int .i64 p, .int .i64 (rd_T61 l i).f2, .int .i64 (rd_T61 l i).f3] 80)) m G from K2.out.all _)
      have L2 := Aside0.mk (show w.grownBy (wb.alloc (.cells #[.string t, .int .i64 p, .int .i64 (rd_T61 l i).f2, .int .i64 (rd_T61 l i).f3] 80)) (some m) ∧ (wb.alloc (.cells #[.string t, .int .i64 p, .int .i64 (rd_T61 l i).f2, .int .i64 (rd_T61 l i).f3] 80)).heap[w.heap.size]? = some (.cells #[.string t, .int .i64 p] 68 (0, 0)) ∧ (wb.alloc (.cells #[.string t, .int .i64 p, .int .i64 (rd_T61 l i).f2, .int .i64 (rd_T61 l i).f3] 80)).heap[gb]? = some (.cells #[.int .i64 (rd_T61 l i).f0, .int .i64 (rd_T61 l i).f1, .int .i64 (rd_T61 l i).f2, .int .i64 (rd_T61 l i).f3, .slice A4 (rd_T61 l i).f4.length c4] 61 (0, 0)) ∧ (wb.alloc (.cells #[.string t, .int .i64 p, .int .i64 (rd_T61 l i).f2, .int .i64 (rd_T61 l i).f3] 80)).heap[wb.heap.size]? = some (.cells #[.string t, .int .i64 p, .int .i64 (rd_T61 l i).f2, .int .i64 (rd_T61 l i).f3] 80 (0, 0)) from ⟨grown_below K3.out.1 (bel1 wb _), blk_alloc K3.out.2.1 _, blk_alloc K3.out.2.2 _, heap_alloc_new wb _⟩)
      clear y0 y1 z0 z2 z3 K2 K3
      generalize (wb.alloc (.cells #[.string t, .int .i64 p, .int .i64 (rd_T61 l i).f2, .int .i64 (rd_T61 l i).f3] 80)) = wk at L1 L2 ⊢
      obtain ⟨gk, hgk⟩ : ∃ gk, gk = wb.heap.size := ⟨_, rfl⟩
      rw [← hgk] at L2 ⊢
      clear hgk
      have y0 := (blk_cell L2.out.2.1 0).trans rfl
      have y1 := (blk_cell L2.out.2.1 1).trans rfl
      have z0 := (blk_cell L2.out.2.2.1 0).trans rfl
      have z2 := (blk_cell L2.out.2.2.1 2).trans rfl
      have k0 := (blk_cell L2.out.2.2.2 0).trans rfl
      have k1 := (blk_cell L2.out.2.2.2 1).trans rfl
      have k2 := (blk_cell L2.out.2.2.2 2).trans rfl
      have k3 := (blk_cell L2.out.2.2.2 3).trans rfl
      obtain ⟨lk, hlk⟩ : ∃ q_, keyOf Try.prog 80 (sentV t p (rd_T61 l i).f2 (rd_T61 l i).f3) = some q_ := keyS t p (rd_T61 l i).f2 (rd_T61 l i).f3 HT.out HP.out HWB.out.1 HWB.out.2
      have HLK := Aside0.mk hlk
      clear hlk
      have HLU := Aside0.mk (mapO_look (P := Try.prog) (w := wk) lawS Try.underlying57 (z := .int .i64 0) (by kernel_rfl) (o := some m) (F := G) L1.out HLK.out)
      have HU := Aside0.mk (show ShS (upd G (sentV t p (rd_T61 l i).f2 (rd_T61 l i).f3) (.int .i64 (rd_T61 l i).f0)) from ShS.upd HK.out.2 t p (rd_T61 l i).f2 (rd_T61 l i).f3 (rd_T61 l i).f0 HT.out HP.out HWB.out.1 HWB.out.2)
      have e1 : IntKind.i64.wrap (i + 1) = i + 1 := (i64_w _).trans (by have := HI.out; have := HL.out; unfold wrap64; omega)
      cases hG : G (sentV t p (rd_T61 l i).f2 (rd_T61 l i).f3) with
      | none =>
        have HLV := Aside0.mk (show (Instr.lookup 57 (.map (some m)) (.agg #[.string t, .int .i64 p, .int .i64 (rd_T61 l i).f2, .int .i64 (rd_T61 l i).f3]) true).run Try.prog wk = .ok (.tuple #[.int .i64 0, .bool false]) wk from by have h_ := HLU.out; rw [hG] at h_; exact h_)
        have HG0 := Aside0.mk hG
        clear HLU hG
        have HX := Aside0.mk (show agnB t p (l.drop (i + 1).toNat) (upd G (sentV t p (rd_T61 l i).f2 (rd_T61 l i).f3) (.int .i64 (rd_T61 l i).f0)) = agnB t p l F from by rw [← HK.out.1, HD.out]; exact (agnB_ok (t := t) (p := p) (b := (rd_T61 l i)) (fun h => h.1 HG0.out)).symm)
        go_wp2_with (first | (at_lookup; refine wpl_mlook rfl _ _ _ _ rfl rfl rfl HLV.out ?_) | (at_mapUpdate; refine wpl_put rfl _ _ _ _ rfl lawS Try.underlying57 rfl rfl rfl L1.out HLK.out ?_; intro w3 hm3 hg3 hs3; go_frame))
        have N2 := Aside0.mk (show w.grownBy w3 (some m) ∧ w3.heap[w.heap.size]? = some (.cells #[.string t, .int .i64 p] 68 (0, 0)) from ⟨grown_trans L2.out.1 hg3, (hg3.block _ (blk_lt L2.out.2.1) (fun e => by have := Option.some.inj e; have := HML.out; omega)).trans L2.out.2.1⟩)
        go_roundg (l.length + 1 - (i + 1).toNat)
        case measure => have := HI.out; have := HI2.out; omega
        case rel => exact ⟨i + 1, _, by first | rfl | rw [e1], ⟨by have := HI.out; have := HI2.out; omega, by have := HI.out; omega, by have := HI2.out; omega⟩, ⟨HX.out, HU.out, hm3⟩, N2⟩
      | some v =>
        obtain ⟨_, v0, rfl⟩ := HK.out.2 _ _ hG
        have HLV := Aside0.mk (show (Instr.lookup 57 (.map (some m)) (.agg #[.string t, .int .i64 p, .int .i64 (rd_T61 l i).f2, .int .i64 (rd_T61 l i).f3]) true).run Try.prog wk = .ok (.tuple #[.int .i64 v0, .bool true]) wk from by have h_ := HLU.out; rw [hG] at h_; exact h_)
        have HG0 := Aside0.mk hG
        clear HLU hG
        by_cases hv : v0 = (rd_T61 l i).f0
        case pos =>
          have f1 : (v0 != (rd_T61 l i).f0) = false := by simp [hv]
          have HV := Aside0.mk hv
          clear hv
          have HX := Aside0.mk (show agnB t p (l.drop (i + 1).toNat) (upd G (sentV t p (rd_T61 l i).f2 (rd_T61 l i).f3) (.int .i64 (rd_T61 l i).f0)) = agnB t p l F from by rw [← HK.out.1, HD.out]; exact (agnB_ok (t := t) (p := p) (b := (rd_T61 l i)) (fun h => h.2.1 (by rw [HG0.out, HV.out]))).symm)
          go_wp2_with (first | (at_lookup; refine wpl_mlook rfl _ _ _ _ rfl rfl rfl HLV.out ?_) | (at_mapUpdate; refine wpl_put rfl _ _ _ _ rfl lawS Try.underlying57 rfl rfl rfl L1.out HLK.out ?_; intro w3 hm3 hg3 hs3; go_frame))
          have N2 := Aside0.mk (show w.grownBy w3 (some m) ∧ w3.heap[w.heap.size]? = some (.cells #[.string t, .int .i64 p] 68 (0, 0)) from ⟨grown_trans L2.out.1 hg3, (hg3.block _ (blk_lt L2.out.2.1) (fun e => by have := Option.some.inj e; have := HML.out; omega)).trans L2.out.2.1⟩)
          go_roundg (l.length + 1 - (i + 1).toNat)
          case measure => have := HI.out; have := HI2.out; omega
          case rel => exact ⟨i + 1, _, by first | rfl | rw [e1], ⟨by have := HI.out; have := HI2.out; omega, by have := HI.out; omega, by have := HI2.out; omega⟩, ⟨HX.out, HU.out, hm3⟩, N2⟩
        case neg =>
          have f1 : (v0 != (rd_T61 l i).f0) = true := by simp [hv]
          by_cases hq : 0 < (rd_T61 l i).f2
          case pos =>
            have f2 : decide (0 < (rd_T61 l i).f2) = true := decide_eq_true hq
            have HX := Aside0.mk (show agnB t p l F = none from by rw [← HK.out.1, HD.out]; exact agnB_no (t := t) (p := p) (b := (rd_T61 l i)) ⟨fun h => (by have := HG0.out.symm.trans h; cases this), fun h => (by have := HG0.out.symm.trans h; cases this; exact hv rfl), hq⟩)
            have p5 := eq_true hq
            clear hq hv
            go_wp2_with (first | (at_lookup; refine wpl_mlook rfl _ _ _ _ rfl rfl rfl HLV.out ?_))
            go_ret
            exact ⟨L2.out.1, .inl ⟨HX.out, rfl⟩⟩
          case neg =>
            have f2 : decide (0 < (rd_T61 l i).f2) = false := decide_eq_false hq
            have HQ2 := Aside0.mk hq
            clear hq hv
            have HX := Aside0.mk (show agnB t p (l.drop (i + 1).toNat) (upd G (sentV t p (rd_T61 l i).f2 (rd_T61 l i).f3) (.int .i64 (rd_T61 l i).f0)) = agnB t p l F from by rw [← HK.out.1, HD.out]; exact (agnB_ok (t := t) (p := p) (b := (rd_T61 l i)) (fun h => HQ2.out h.2.2)).symm)
            go_wp2_with (first | (at_lookup; refine wpl_mlook rfl _ _ _ _ rfl rfl rfl HLV.out ?_) | (at_mapUpdate; refine wpl_put rfl _ _ _ _ rfl lawS Try.underlying57 rfl rfl rfl L1.out HLK.out ?_; intro w3 hm3 hg3 hs3; go_frame))
            have N2 := Aside0.mk (show w.grownBy w3 (some m) ∧ w3.heap[w.heap.size]? = some (.cells #[.string t, .int .i64 p] 68 (0, 0)) from ⟨grown_trans L2.out.1 hg3, (hg3.block _ (blk_lt L2.out.2.1) (fun e => by have := Option.some.inj e; have := HML.out; omega)).trans L2.out.2.1⟩)
            go_roundg (l.length + 1 - (i + 1).toNat)
            case measure => have := HI.out; have := HI2.out; omega
            case rel => exact ⟨i + 1, _, by first | rfl | rw [e1], ⟨by have := HI.out; have := HI2.out; omega, by have := HI.out; omega, by have := HI2.out; omega⟩, ⟨HX.out, HU.out, hm3⟩, N2⟩

end Go.Proofs.Ytdlkofmcioalfaa.PCk

namespace Go.Proofs.Ytdlkofmcioalfaa.PCk
open Go.RowKit Go.Proofs.YtdlkofmcioalfaaW.PrintWords Go.Proofs.YtdlkofmcioalfaaW.PrintLast Go.Proofs.YtdlkofmcioalfaaW.PrintMore
attribute [local go_sem] max2_int min2_int max_two min_two max_three min_three max_four min_four
set_option linter.unusedVariables false
set_option linter.unusedSimpArgs false

/-! ### check.misplaced, plain -/
theorem above_f {a b v : Int} (ha : (Lit.int .i64 a).wf = true) (hb : (Lit.int .i64 b).wf = true) (hv : (Lit.int .i64 v).wf = true) : check_above.f a b v = some (decide (v < a + b)) := if_pos ⟨ha, hb, hv⟩
theorem mis_j1 (k : Nat) (x0 x1 x2 : Int) (x3 : List SB) (x9 : Int) (x11 : List SB) (x12 x13 : Int) (x18 : Bool) (y0 y1 y2 y3 : Int) (y4 : List SR) (h0 : (Lit.int .i64 y0).wf = true) (h1 : (Lit.int .i64 y1).wf = true) (hx0 : (Lit.int .i64 x0).wf = true) (hx1 : (Lit.int .i64 x1).wf = true) :
    check_misplaced.j1 (k + 1) x0 x1 x2 x3 x9 x11 x12 x13 x18 y0 y1 y2 y3 y4 = check_misplaced.j2 k x0 x1 x2 x3 x9 x11 x12 x13 (x18 || decide (x1 < y0 + y1) || !decide (x0 < y0 + y1)) y0 y1 y2 y3 y4 := by
  rw [check_misplaced.j1]
  cases x18 with
  | true => simp
  | false =>
    rw [if_neg (by decide), above_f h0 h1 hx1, Option.bind_some]
    by_cases hc : x1 < y0 + y1
    · rw [decide_eq_true hc, if_pos rfl]; simp
    · rw [decide_eq_false hc, if_neg (by decide), above_f h0 h1 hx0, Option.bind_some]; simp
theorem misL_cons (st nx fr : Int) (q : Option SB) (b : SB) (l : List SB) : misL st nx fr q (b :: l) = (misB st nx fr b || (match q with | none => false | some q => misP q b) || misL st nx fr (some b) l) := by cases q <;> rfl
theorem mis_l0 (st nx fr : Int) (l : List SB) (h1 : (Lit.int .i64 st).wf = true) (h2 : (Lit.int .i64 nx).wf = true) (h3 : (Lit.int .i64 fr).wf = true) (hl : l.length ≤ 140737488355328) (hw : ∀ b ∈ l, (Lit.int .i64 b.f0).wf = true ∧ (Lit.int .i64 b.f1).wf = true) :
    ∀ n i : Nat, i + n = l.length → check_misplaced.l0 (3 * n + 1) st nx fr l l (l.length : Int) (i : Int) = some (misL st nx fr (if i = 0 then none else some (rd_T61 l ((i : Int) - 1))) (l.drop i))
  | 0, i, hi => by
    rw [check_misplaced.l0, if_neg (by omega), List.drop_of_length_le (by omega)]
    rfl
  | n + 1, i, hi => by
    have ih := mis_l0 st nx fr l h1 h2 h3 hl hw n (i + 1) (by omega)
    have hd := drop_get (l := l) (i := (i : Int)) z61 (by omega) (by omega)
    have hm := hw _ (get_mem (l := l) (i := (i : Int)) z61 (by omega) (by omega))
    rw [show ((i : Int)).toNat = i from by omega, show ((i : Int) + 1).toNat = i + 1 from by omega] at hd
    rw [show ((i : Int)).toNat = i from by omega] at hm
    have hrd : rd_T61 l (i : Int) = l.getD i z61 := rfl
    rw [show 3 * (n + 1) + 1 = (3 * n + 3) + 1 from by omega, check_misplaced.l0, if_pos (by omega), if_pos (by omega), if_pos (by omega), hd, misL_cons, hrd]
    generalize l.getD i z61 = b at hm hd ⊢
    obtain ⟨hb0, hb1⟩ := hm
    have e1 : (if b.f0 < fr then ((check_above.f b.f0 b.f1 fr).bind fun t => check_misplaced.j1 (3 * n + 3) st nx fr l i l (l.length : Int) i (!t) b.f0 b.f1 b.f2 b.f3 b.f4) else check_misplaced.j1 (3 * n + 3) st nx fr l i l (l.length : Int) i false b.f0 b.f1 b.f2 b.f3 b.f4) =
        check_misplaced.j1 (3 * n + 3) st nx fr l i l (l.length : Int) i (decide (b.f0 < fr) && !decide (fr < b.f0 + b.f1)) b.f0 b.f1 b.f2 b.f3 b.f4 := by
      by_cases hc : b.f0 < fr
      · rw [if_pos hc, above_f hb0 hb1 h3, Option.bind_some, decide_eq_true hc]; simp
      · rw [if_neg hc, decide_eq_false hc]; simp
    refine e1.trans ?_
    rw [mis_j1 _ _ _ _ _ _ _ _ _ _ _ _ _ _ _ hb0 hb1 h1 h2, show 3 * n + 2 = (3 * n + 1) + 1 from by omega, check_misplaced.j2]
    have hB : (decide (b.f0 < fr) && !decide (fr < b.f0 + b.f1) || decide (nx < b.f0 + b.f1) || !decide (st < b.f0 + b.f1)) = misB st nx fr b := rfl
    rw [hB]
    have ew : wrap64 ((i : Int) + 1) = ((i + 1 : Nat) : Int) := by unfold wrap64; omega
    have ih2 : check_misplaced.l0 (3 * n + 1) st nx fr l l (l.length : Int) (wrap64 ((i : Int) + 1)) = some (misL st nx fr (some b) (l.drop (i + 1))) := by
      rw [ew, ih, if_neg (by omega)]
      congr 2
      rw [show (((i + 1 : Nat) : Int) - 1) = (i : Int) from by omega, hrd]
      have := congrArg List.head? hd
      have h0 : l.drop i = l.getD i z61 :: l.drop (i + 1) := by
        have hd2 := drop_get (l := l) (i := (i : Int)) z61 (by omega) (by omega)
        rw [show ((i : Int)).toNat = i from by omega, show ((i : Int) + 1).toNat = i + 1 from by omega] at hd2
        exact hd2
      rw [h0] at hd
      injection hd with hd1 _
      rw [hd1]
    by_cases hm : misB st nx fr b = true
    · rw [if_pos hm, hm]; simp
    · rw [if_neg hm, Bool.not_eq_true _ |>.mp hm]
      by_cases h0 : i = 0
      · subst h0
        rw [if_neg (by decide), ih2]
        simp
      · have ew2 : wrap64 ((i : Int) - 1) = (i : Int) - 1 := by unfold wrap64; omega
        have hq := hw _ (get_mem (l := l) (i := (i : Int) - 1) z61 (by omega) (by omega))
        have hqr : rd_T61 l ((i : Int) - 1) = l.getD ((i : Int) - 1).toNat z61 := rfl
        rw [if_pos (by omega), ew2, if_pos (by omega), if_pos (by omega), if_neg h0, hqr]
        generalize l.getD ((i : Int) - 1).toNat z61 = q at hq ⊢
        obtain ⟨hq0, hq1⟩ := hq
        by_cases hc : b.f0 ≤ q.f0
        · rw [if_pos hc]; simp [misP, hc]
        · rw [if_neg hc, above_f hq0 hq1 hb0, Option.bind_some]
          by_cases hc2 : b.f0 < q.f0 + q.f1
          · rw [decide_eq_true hc2, if_pos rfl]; simp [misP, hc2]
          · rw [decide_eq_false hc2, if_neg (by decide), ih2]; simp [misP, hc, hc2]
theorem mis_f (st nx fr : Int) (l : List SB) (h1 : (Lit.int .i64 st).wf = true) (h2 : (Lit.int .i64 nx).wf = true) (h3 : (Lit.int .i64 fr).wf = true) (hl : l.length ≤ 140737488355328) (hw : ∀ b ∈ l, (Lit.int .i64 b.f0).wf = true ∧ (Lit.int .i64 b.f1).wf = true) :
    check_misplaced.f (3 * l.length + 1) st nx fr l = some (misL st nx fr none l) := by
  have h := mis_l0 st nx fr l h1 h2 h3 hl hw l.length 0 (by omega)
  exact h

end Go.Proofs.Ytdlkofmcioalfaa.PCk
