-- written by a program of this session (wip/tools/pr.py, over the kit's printer): not by hand
import Derived.Test.YtgmeellapjimgaaQPBmx1
import Derived.Test.YtgmeellapjimgaaQPBmx11
import Derived.Test.YtgmeellapjimgaaQPBmx13
import Derived.Test.YtgmeellapjimgaaQPBmx4
import Derived.Test.YtgmeellapjimgaaQPBmx8
import Derived.Laws.BitsAllLaws
import Derived.RowKit
import Derived.Test.YtgmeellapjimgaaQWSized
namespace Go.Proofs.Ytgmeellapjimgaa.PBm
open Go.RowKit Go.Proofs.YtgmeellapjimgaaW.PrintWords Go.Proofs.YtgmeellapjimgaaW.PrintLast Go.Proofs.YtgmeellapjimgaaW.PrintMore
attribute [local go_sem] max2_int min2_int max_two min_two max_three min_three max_four min_four   -- for this text's walks alone
set_option linter.unusedVariables false
set_option linter.unusedSimpArgs false

/-! ### bollardref12_huge -/
def bollardref12_hugeG.no (l : List Int) (n p q : Int) : Prop := 9223372036854775808 ≤ p ∨ 9223372036854775808 ≤ q ∨ (p ≤ 4611686018427387904 ∧ q ≤ 4611686018427387904) ∨ n < 36 ∨ (l.length : Int) - 12 < n ∨ 6000 < n
instance (l : List Int) (n p q : Int) : Decidable (bollardref12_hugeG.no l n p q) := by unfold bollardref12_hugeG.no; infer_instance
def bollardref12_hugeG.bad : Option (Int × Int × Int × Int × List S45 × Int × Int) := some (0, 0, 0, 0, [], 0, 10)
def bollardref12_hugeG.f (S_ : Nat → List Int → Int → Option (Int × Int × Int × Int × List S45 × Int × Int)) (k : Nat) (l : List Int) (a1 n p q : Int) : Option (Int × Int × Int × Int × List S45 × Int × Int) :=
  if 12 ≤ (l.length : Int) ∧ 0 ≤ n ∧ 0 ≤ p ∧ 0 ≤ q then (if bollardref12_hugeG.no l n p q then bollardref12_hugeG.bad else (S_ k l n).bind fun x => if x.2.2.2.2.2.2 = 0 then (bollardref12_EncodeBatch.f k x.1 x.2.1 (wrap64 p) (wrap64 q) x.2.2.2.2.1).bind fun t => if t.2 = 0 then (if 0 ≤ x.2.2.2.2.2.1 ∧ x.2.2.2.2.2.1 ≤ (l.length : Int) then (if (strOfNums t.1).toList = (strOfNums (l.take x.2.2.2.2.2.1.toNat)).toList then some (x.1, x.2.1, wrap64 p, wrap64 q, x.2.2.2.2.1, x.2.2.2.2.2.1, 0) else bollardref12_hugeG.bad) else none) else bollardref12_hugeG.bad else bollardref12_hugeG.bad) else none
theorem bollardref12_hugeG.mono (S_ : Nat → List Int → Int → Option (Int × Int × Int × Int × List S45 × Int × Int)) (SM_ : ∀ a0 a1 k, LeO (S_ k a0 a1) (S_ (k + 1) a0 a1)) : ∀ a0 a1 a2 a3 a4 k, LeO (bollardref12_hugeG.f S_ k a0 a1 a2 a3 a4) (bollardref12_hugeG.f S_ (k + 1) a0 a1 a2 a3 a4) := by
  intro l a1 n p q k
  unfold bollardref12_hugeG.f
  repeat' first | (with_reducible exact LeO.refl _) | (with_reducible exact SM_ _ _ _) | (with_reducible exact bollardref12_EncodeBatch.mono _ _ _ _ _ _) | (with_reducible refine LeO.ite ?_ ?_) | (with_reducible refine LeO.bind ?_ (fun _ => ?_))
set_option maxHeartbeats 4000000 in
set_option maxRecDepth 100000 in
theorem bollardref12_hugeG.calls (k : Nat) (A : Option Addr) (c : Nat) (l : List Int) (a1 n p q : Int) (w : World) (hr : Kd.C (Kd.int .u8) w A l.length l) (hc : l.length ≤ c) (S_ : Nat → List Int → Int → Option (Int × Int × Int × Int × List S45 × Int × Int)) (SC_ : Aside0 (∀ (k : Nat) (A : Option Addr) (c : Nat) (l : List Int) (a1 : Int) (r1 r2 r3 r4 : Int) (r5 : List S45) (r6 r7 : Int) (w : World) (hr0 : Kd.C (Kd.int .u8) w A l.length l) (hc0 : l.length ≤ c) (h : S_ k l a1 = some (r1, r2, r3, r4, r5, r6, r7)), Calls Try.prog 54 #[.slice A l.length c, .int .i64 a1] w fun e w' => ∃ v4_ : Value, e = .returned (.tuple #[.agg #[.int .i64 r1, .int .i64 r2, .int .i64 r3, .int .i64 r4, v4_], .int .i64 r6, .int .i64 r7]) ∧ Kd.R k45 45 w' w.heap.size (fun _ => True) v4_ r5 ∧ Below w.heap.size w w')) (r1 r2 r3 r4 : Int) (r5 : List S45) (r6 r7 : Int) (h : bollardref12_hugeG.f S_ k l a1 n p q = some (r1, r2, r3, r4, r5, r6, r7)) :
    Calls Try.prog 39 #[.slice A l.length c, .int .u64 a1, .int .u64 n, .int .u64 p, .int .u64 q] w fun e w' => ∃ v4_ : Value, e = .returned (.tuple #[.agg #[.int .i64 r1, .int .i64 r2, .int .i64 r3, .int .i64 r4, v4_], .int .i64 r6, .int .i64 r7]) ∧ Kd.R k45 45 w' w.heap.size (fun _ => True) v4_ r5 ∧ Below w.heap.size w w' := by
  unfold bollardref12_hugeG.f at h
  by_cases e0 : 12 ≤ (l.length : Int) ∧ 0 ≤ n ∧ 0 ≤ p ∧ 0 ≤ q
  case neg => rw [if_neg e0] at h; cases h
  rw [if_pos e0] at h
  obtain ⟨l12, n0, p0, q0⟩ := e0
  have hlm : (l.length : Int) ≤ 9223372036854775807 := by have := hr.2.1; omega
  have hu : IntKind.u64.wrap ((l.length : Int) - 12) = (l.length : Int) - 12 := by rw [IntKind.wrap_u64]; omega
  obtain ⟨bb, hbb⟩ : ∃ bb, bb = decide (bollardref12_hugeG.no l n p q) := ⟨_, rfl⟩
  have HBB := Aside0.mk hbb
  have HH := Aside0.mk h
  have HR := Aside0.mk hr
  have HC := Aside0.mk hc
  clear hr hc h hbb
  go_enter Try.func39, Try.ntmps39
  go_upto_region 2 with (fail)
  (try simp only [Act.put, List.setIfInBounds_toArray, List.set_cons_zero, List.set_cons_succ])
  have Z2 := Aside0.mk (db_new w)
  generalize (w.alloc (.cells #[.int .i64 0, .int .i64 0, .int .i64 0, .int .i64 0, .slice none 0 0] 24)).alloc (.cells #[.int .i64 0, .int .i64 0, .int .i64 0, .int .i64 0, .slice none 0 0] 24) = W0 at Z2 ⊢
  go_cut [48] (fun v48 wc => v48 = .bool bb ∧ wc = W0)
  case first =>
    by_cases dp : 9223372036854775808 ≤ p
    · have fp : decide (9223372036854775808 ≤ p) = true := decide_eq_true dp
      have HD := Aside0.mk dp
      clear dp
      go_wp2
      go_meet
      case rel => exact ⟨congrArg Value.bool (by rw [HBB.out]; exact (decide_eq_true (by have h_ := HD.out; unfold bollardref12_hugeG.no; omega)).symm), rfl⟩
    · have fp : decide (9223372036854775808 ≤ p) = false := decide_eq_false dp
      by_cases dq : 9223372036854775808 ≤ q
      · have fq : decide (9223372036854775808 ≤ q) = true := decide_eq_true dq
        have HD := Aside0.mk (And.intro dp dq)
        clear dp dq
        go_wp2
        go_meet
        case rel => exact ⟨congrArg Value.bool (by rw [HBB.out]; exact (decide_eq_true (by have h_ := HD.out; unfold bollardref12_hugeG.no; omega)).symm), rfl⟩
      · have fq : decide (9223372036854775808 ≤ q) = false := decide_eq_false dq
        by_cases dx : p ≤ 4611686018427387904
        · have fx : decide (p ≤ 4611686018427387904) = true := decide_eq_true dx
          by_cases dy : q ≤ 4611686018427387904
          · have fy : decide (q ≤ 4611686018427387904) = true := decide_eq_true dy
            have HD := Aside0.mk (And.intro dp (And.intro dq (And.intro dx dy)))
            clear dp dq dx dy
            go_wp2
            go_meet
            case rel => exact ⟨congrArg Value.bool (by rw [HBB.out]; exact (decide_eq_true (by have h_ := HD.out; unfold bollardref12_hugeG.no; omega)).symm), rfl⟩
          · have fy : decide (q ≤ 4611686018427387904) = false := decide_eq_false dy
            by_cases dn : n < 36
            · have fn : decide (n < 36) = true := decide_eq_true dn
              have HD := Aside0.mk (And.intro dp (And.intro dq (And.intro dx (And.intro dy dn))))
              clear dp dq dx dy dn
              go_wp2
              go_meet
              case rel => exact ⟨congrArg Value.bool (by rw [HBB.out]; exact (decide_eq_true (by have h_ := HD.out; unfold bollardref12_hugeG.no; omega)).symm), rfl⟩
            · have fn : decide (n < 36) = false := decide_eq_false dn
              by_cases dm : (l.length : Int) - 12 < n
              · have fm : decide ((l.length : Int) - 12 < n) = true := decide_eq_true dm
                have HD := Aside0.mk (And.intro dp (And.intro dq (And.intro dx (And.intro dy (And.intro dn dm)))))
                clear dp dq dx dy dn dm
                go_wp2
                go_meet
                case rel => exact ⟨congrArg Value.bool (by rw [HBB.out]; exact (decide_eq_true (by have h_ := HD.out; unfold bollardref12_hugeG.no; omega)).symm), rfl⟩
              · have fm : decide ((l.length : Int) - 12 < n) = false := decide_eq_false dm
                by_cases dk : 6000 < n
                · have fk : decide (6000 < n) = true := decide_eq_true dk
                  have HD := Aside0.mk (And.intro dp (And.intro dq (And.intro dx (And.intro dy (And.intro dn (And.intro dm dk))))))
                  clear dp dq dx dy dn dm dk
                  go_wp2
                  go_meet
                  case rel => exact ⟨congrArg Value.bool (by rw [HBB.out]; exact (decide_eq_true (by have h_ := HD.out; unfold bollardref12_hugeG.no; omega)).symm), rfl⟩
                · have fk : decide (6000 < n) = false := decide_eq_false dk
                  have HD := Aside0.mk (And.intro dp (And.intro dq (And.intro dx (And.intro dy (And.intro dn (And.intro dm dk))))))
                  clear dp dq dx dy dn dm dk
                  go_wp2
                  go_meet
                  case rel => exact ⟨congrArg Value.bool (by rw [HBB.out]; exact (decide_eq_false (by have h_ := HD.out; unfold bollardref12_hugeG.no; omega)).symm), rfl⟩
        · have fx : decide (p ≤ 4611686018427387904) = false := decide_eq_false dx
          by_cases dn : n < 36
          · have fn : decide (n < 36) = true := decide_eq_true dn
            have HD := Aside0.mk (And.intro dp (And.intro dq (And.intro dx dn)))
            clear dp dq dx dn
            go_wp2
            go_meet
            case rel => exact ⟨congrArg Value.bool (by rw [HBB.out]; exact (decide_eq_true (by have h_ := HD.out; unfold bollardref12_hugeG.no; omega)).symm), rfl⟩
          · have fn : decide (n < 36) = false := decide_eq_false dn
            by_cases dm : (l.length : Int) - 12 < n
            · have fm : decide ((l.length : Int) - 12 < n) = true := decide_eq_true dm
              have HD := Aside0.mk (And.intro dp (And.intro dq (And.intro dx (And.intro dn dm))))
              clear dp dq dx dn dm
              go_wp2
              go_meet
              case rel => exact ⟨congrArg Value.bool (by rw [HBB.out]; exact (decide_eq_true (by have h_ := HD.out; unfold bollardref12_hugeG.no; omega)).symm), rfl⟩
            · have fm : decide ((l.length : Int) - 12 < n) = false := decide_eq_false dm
              by_cases dk : 6000 < n
              · have fk : decide (6000 < n) = true := decide_eq_true dk
                have HD := Aside0.mk (And.intro dp (And.intro dq (And.intro dx (And.intro dn (And.intro dm dk)))))
                clear dp dq dx dn dm dk
                go_wp2
                go_meet
                case rel => exact ⟨congrArg Value.bool (by rw [HBB.out]; exact (decide_eq_true (by have h_ := HD.out; unfold bollardref12_hugeG.no; omega)).symm), rfl⟩
              · have fk : decide (6000 < n) = false := decide_eq_false dk
                have HD := Aside0.mk (And.intro dp (And.intro dq (And.intro dx (And.intro dn (And.intro dm dk)))))
                clear dp dq dx dn dm dk
                go_wp2
                go_meet
                case rel => exact ⟨congrArg Value.bool (by rw [HBB.out]; exact (decide_eq_false (by have h_ := HD.out; unfold bollardref12_hugeG.no; omega)).symm), rfl⟩
  case rest =>
    obtain ⟨rfl, rfl⟩ := hcut
    cases bb with
    | true =>
      have H := HH.out
      rw [if_pos (of_decide_eq_true HBB.out.symm)] at H
      unfold bollardref12_hugeG.bad at H
      simp only [Option.some.injEq, Prod.mk.injEq] at H
      obtain ⟨rfl, rfl, rfl, rfl, rfl, rfl, rfl⟩ := H
      clear HH
      obtain ⟨n0_, n1_, n2_, n3_, n4_⟩ := db_cells (Z2.out.2.2.2)
      obtain ⟨o0_, o1_, o2_, o3_, o4_⟩ := db_cells (Z2.out.2.2.1)
      obtain ⟨z0_, z1_, z2_, z3_, z4_⟩ := db_free (Z2.out.2.2.1)
      go_wp2_with fail
      have Z_ := db_set (Z2.out.1) (Z2.out.2.2.1) (.int .i64 0) (.int .i64 0) (.int .i64 0) (.int .i64 0) (.slice none 0 0) (Kd.R_nil k45 45 _ _ _)
      refine bodyPost_ret (results_ctt rfl _ _ w.heap.size 24 #[.int .i64 0, .int .i64 0, .int .i64 0, .int .i64 0, .slice none 0 0] (0, 0) _ rfl Z_.1 Try.underlying24 rfl (by kernel_rfl)) rfl ?_
      exact ⟨_, rfl, Kd.R_nil _ _ _ _ _, Z_.2.2⟩
    | false =>
      have H := HH.out
      rw [if_neg (of_decide_eq_false HBB.out.symm)] at H
      have hb0 : 36 ≤ n ∧ n ≤ 6000 := by have h_ := of_decide_eq_false HBB.out.symm; unfold bollardref12_hugeG.no at h_; omega
      obtain ⟨n36, n60⟩ := hb0
      obtain ⟨⟨t1, t2, t3, t4, t5, t6, t7⟩, HS_, H⟩ := Option.bind_eq_some_iff.mp H
      dsimp only at H
      have HS := Aside0.mk HS_
      have HH := Aside0.mk H
      clear HS_ H HBB
      go_wp2_with fail
      refine (SC_.out k A c l n t1 t2 t3 t4 t5 t6 t7 _ (Kd.C_below HR.out Z2.out.1) HC.out HS.out).mono ?_
      rintro e y1 ⟨v, rfl, ho, hb⟩
      have D1 := Aside0.mk (And.intro (below_step Z2.out.1 hb) (And.intro (blk_below Z2.out.2.2.1 hb) (And.intro (blk_below Z2.out.2.2.2 hb) (Kd.R_lower ho Z2.out.1.size))))
      obtain ⟨Av, cv, ev⟩ := Kd.R_slice ho
      subst ev
      clear ho hb Z2
      by_cases e8 : t7 = 0
      · have H := HH.out
        rw [if_pos e8] at H
        have b8 : (t7 != 0) = false := bne_eq_false_iff_eq.mpr e8
        obtain ⟨⟨en, ee⟩, HE_, H⟩ := Option.bind_eq_some_iff.mp H
        dsimp only at H
        have HE := Aside0.mk HE_
        have HH := Aside0.mk H
        clear HE_ H e8
        go_wp2_with fail
        obtain ⟨W1, hW1⟩ : ∃ W1, W1 = y1.alloc (.cells #[.int .i64 t1, .int .i64 t2, .int .i64 (wrap64 p), .int .i64 (wrap64 q), .slice Av t5.length cv] 24) := ⟨_, rfl⟩
        have D2a := Aside0.mk (And.intro (show Below w.heap.size w W1 from hW1 ▸ below_alloc D1.out.1 _) (And.intro (show W1.heap[w.heap.size]? = some (.cells #[.int .i64 0, .int .i64 0, .int .i64 0, .int .i64 0, .slice none 0 0] 24 (0, 0)) from hW1 ▸ blk_alloc D1.out.2.1 _) (And.intro (show W1.heap[w.heap.size + 1]? = some (.cells #[.int .i64 0, .int .i64 0, .int .i64 0, .int .i64 0, .slice none 0 0] 24 (0, 0)) from hW1 ▸ blk_alloc D1.out.2.2.1 _) (And.intro (show W1.heap[y1.heap.size]? = some (.cells #[.int .i64 t1, .int .i64 t2, .int .i64 (wrap64 p), .int .i64 (wrap64 q), .slice Av t5.length cv] 24 (0, 0)) from hW1 ▸ heap_alloc_new y1 _) (show Kd.R k45 45 W1 w.heap.size (fun _ => True) (.slice Av t5.length cv) t5 from hW1 ▸ Kd.R_alloc D1.out.2.2.2 _)))))
        obtain ⟨gx, hgx⟩ : ∃ gx, gx = y1.heap.size := ⟨_, rfl⟩
        rw [← hW1]
        rw [← hgx] at D2a ⊢
        clear hW1 hgx D1
        refine (bollardref12_EncodeBatch.calls k t1 t2 (wrap64 p) (wrap64 q) Av cv t5 en ee _ (Kd.R_reads' D2a.out.2.2.2.2).2.2 (Kd.R_reads' D2a.out.2.2.2.2).2.1 HE.out).mono ?_
        rintro e y6 ⟨v0, rfl, ho, hb⟩
        have D2 := Aside0.mk (And.intro (below_step D2a.out.1 hb) (And.intro (blk_below D2a.out.2.1 hb) (And.intro (blk_below D2a.out.2.2.1 hb) (And.intro (blk_below D2a.out.2.2.2.1 hb) (Kd.R_below D2a.out.2.2.2.2 hb)))))
        have HO := Aside0.mk (Kd.R_lower ho D2a.out.1.size)
        obtain ⟨Ae, ce, ev⟩ := Kd.R_slice ho
        subst ev
        clear ho hb D2a
        by_cases e8 : ee = 0
        · have H := HH.out
          rw [if_pos e8] at H
          have b9 : (ee != 0) = false := bne_eq_false_iff_eq.mpr e8
          by_cases e9 : 0 ≤ t6 ∧ t6 ≤ (l.length : Int)
          case neg => rw [if_neg e9] at H; cases H
          rw [if_pos e9] at H
          obtain ⟨i0, hi0, _, hsz0, _⟩ := info_parts info5
          obtain ⟨hcut, hA, hC⟩ := print_take_of (P := Try.prog) (Value.int .u8) 0 27 5 .i64 Try.underlying27 hi0 hsz0 A c l t6 e9.1 e9.2 HC.out
          obtain ⟨tl, htl⟩ : ∃ tl, tl = l.take t6.toNat := ⟨_, rfl⟩
          rw [← htl] at hcut hA hC H
          have HR2 := Aside0.mk (Kd.C_of_reads (h1 := fun _ => rfl) (hA _ (Kd.reads_of_C HR.out)))
          have HC2 := Aside0.mk hC
          have b12 := e9.1
          have b13 := e9.2
          clear hi0 hsz0 hA hC htl e8 e9 HH
          by_cases ec : (strOfNums en).toList = (strOfNums tl).toList
          · rw [if_pos ec] at H
            have b10 : ((strOfNums en).toList != (strOfNums tl).toList) = false := bne_eq_false_iff_eq.mpr ec
            have b11 : ((strOfNums en).toList == (strOfNums tl).toList) = true := beq_iff_eq.mpr ec
            simp only [Option.some.injEq, Prod.mk.injEq] at H
            obtain ⟨rfl, rfl, rfl, rfl, rfl, rfl, rfl⟩ := H
            clear ec
            go_wp2_with fail
            refine start_ (n := 11) (S := fun w' => Kd.C (Kd.int .u8) w' Ae en.length en ∧ Kd.C (Kd.int .u8) w' A tl.length tl) (ds := []) #[false, false, false, false, false, false, false, false, false, false, false] (by kernel_rfl) rfl rfl ⟨(Kd.R_reads' (Kd.R_drew HO.out)).2.2, Kd.C_below HR2.out (below_drew1 D2.out.1)⟩ (fun hHeld => ?_)
            have D3 := Aside0.mk (And.intro (below_drew1 D2.out.1) (And.intro (blk_drew D2.out.2.1) (And.intro (blk_drew D2.out.2.2.1) (And.intro (blk_drew D2.out.2.2.2.1) (Kd.R_drew D2.out.2.2.2.2)))))
            generalize y6.drew = y7 at D3 hHeld ⊢
            refine pure_ (i := 0) (N := (some 72)) (v := ?_) (a' := ?_) #[true, false, false, false, false, false, false, false, false, false, false] rfl rfl (by kernel_rfl) (fun _ _ _ h => h) (Or.inl ⟨by rfl, ?_⟩) ?_ ?_
            rotate_left
            · intro w'
              go_simp
              with_reducible rfl
            rotate_left
            · simp only [Act.put, List.setIfInBounds_toArray, List.set_cons_zero, List.set_cons_succ, i64_w, i32_w]
              rfl
            refine pure_ (i := 1) (N := (some 73)) (v := ?_) (a' := ?_) #[true, true, false, false, false, false, false, false, false, false, false] rfl rfl (by kernel_rfl) (fun _ _ _ h => h) (Or.inl ⟨by rfl, ?_⟩) ?_ ?_
            rotate_left
            · intro w'
              go_simp
              with_reducible rfl
            rotate_left
            · simp only [Act.put, List.setIfInBounds_toArray, List.set_cons_zero, List.set_cons_succ, i64_w, i32_w]
              rfl
            refine pure_ (i := 2) (N := (some 74)) (v := ?_) (a' := ?_) #[true, true, true, false, false, false, false, false, false, false, false] rfl rfl (by kernel_rfl) (fun _ _ _ h => h) (Or.inl ⟨by rfl, ?_⟩) ?_ ?_
            rotate_left
            · intro w'
              go_simp
              with_reducible rfl
            rotate_left
            · simp only [Act.put, List.setIfInBounds_toArray, List.set_cons_zero, List.set_cons_succ, i64_w, i32_w]
              rfl
            refine pure_ (i := 3) (N := (some 75)) (v := ?_) (a' := ?_) #[true, true, true, true, false, false, false, false, false, false, false] rfl rfl (by kernel_rfl) (fun _ _ _ h => h) (Or.inl ⟨by rfl, ?_⟩) ?_ ?_
            rotate_left
            · intro w'
              go_simp
              with_reducible rfl
            rotate_left
            · simp only [Act.put, List.setIfInBounds_toArray, List.set_cons_zero, List.set_cons_succ, i64_w, i32_w]
              rfl
            refine take_ (i := 4) (N := (some 76)) (v := ?_) (a' := ?_) #[true, true, true, true, true, false, false, false, false, false, false] rfl rfl (by kernel_rfl) (fun _ _ _ h => h) (Or.inl ⟨by rfl, ?_⟩) hHeld ?_ ?_
            rotate_left
            · rintro w' ⟨sA, sB⟩
              have hcv := Kd.C_string (P := Try.prog) (A := Ae) (c := ce) Try.underlying27 Try.underlying5 Try.underlying9 sA
              go_simp
              with_reducible rfl
            rotate_left
            · simp only [Act.put, List.setIfInBounds_toArray, List.set_cons_zero, List.set_cons_succ, i64_w, i32_w]
              rfl
            refine pure_ (i := 5) (N := (some 77)) (v := ?_) (a' := ?_) #[true, true, true, true, true, true, false, false, false, false, false] rfl rfl (by kernel_rfl) (fun _ _ _ h => h) (Or.inl ⟨by rfl, ?_⟩) ?_ ?_
            rotate_left
            · intro w'
              go_simp
              with_reducible rfl
            rotate_left
            · simp only [Act.put, List.setIfInBounds_toArray, List.set_cons_zero, List.set_cons_succ, i64_w, i32_w]
              rfl
            refine pure_ (i := 6) (N := (some 78)) (v := ?_) (a' := ?_) #[true, true, true, true, true, true, true, false, false, false, false] rfl rfl (by kernel_rfl) (fun _ _ _ h => h) (Or.inl ⟨by rfl, ?_⟩) ?_ ?_
            rotate_left
            · intro w'
              go_simp
              with_reducible rfl
            rotate_left
            · simp only [Act.put, List.setIfInBounds_toArray, List.set_cons_zero, List.set_cons_succ, i64_w, i32_w]
              rfl
            refine pure_ (i := 7) (N := (some 79)) (v := ?_) (a' := ?_) #[true, true, true, true, true, true, true, true, false, false, false] rfl rfl (by kernel_rfl) (fun _ _ _ h => h) (Or.inl ⟨by rfl, ?_⟩) ?_ ?_
            rotate_left
            · intro w'
              go_simp
              with_reducible rfl
            rotate_left
            · simp only [Act.put, List.setIfInBounds_toArray, List.set_cons_zero, List.set_cons_succ, i64_w, i32_w]
              rfl
            refine take_ (i := 8) (N := (some 80)) (v := ?_) (a' := ?_) #[true, true, true, true, true, true, true, true, true, false, false] rfl rfl (by kernel_rfl) (fun _ _ _ h => h) (Or.inl ⟨by rfl, ?_⟩) hHeld ?_ ?_
            rotate_left
            · rintro w' ⟨sA, sB⟩
              have hcv := Kd.C_string (P := Try.prog) (A := A) (c := c) Try.underlying27 Try.underlying5 Try.underlying9 sB
              go_simp
              with_reducible rfl
            rotate_left
            · simp only [Act.put, List.setIfInBounds_toArray, List.set_cons_zero, List.set_cons_succ, i64_w, i32_w]
              rfl
            refine pure_ (i := 9) (N := (some 81)) (v := ?_) (a' := ?_) #[true, true, true, true, true, true, true, true, true, true, false] rfl rfl (by kernel_rfl) (fun _ _ _ h => h) (Or.inl ⟨by rfl, ?_⟩) ?_ ?_
            rotate_left
            · intro w'
              go_simp
              with_reducible rfl
            rotate_left
            · simp only [Act.put, List.setIfInBounds_toArray, List.set_cons_zero, List.set_cons_succ, i64_w, i32_w]
              rfl
            refine pure_ (i := 10) (N := (some 82)) (v := ?_) (a' := ?_) #[true, true, true, true, true, true, true, true, true, true, true] rfl rfl (by kernel_rfl) (fun _ _ _ h => h) (Or.inl ⟨by rfl, ?_⟩) ?_ ?_
            rotate_left
            · intro w'
              go_simp
              with_reducible rfl
            rotate_left
            · simp only [Act.put, List.setIfInBounds_toArray, List.set_cons_zero, List.set_cons_succ, i64_w, i32_w]
              rfl
            refine done_ (by kernel_rfl) ?_
            clear hHeld
            obtain ⟨n0_, n1_, n2_, n3_, n4_⟩ := db_cells D3.out.2.2.2.1
            obtain ⟨o0_, o1_, o2_, o3_, o4_⟩ := db_cells D3.out.2.1
            obtain ⟨z0_, z1_, z2_, z3_, z4_⟩ := db_free D3.out.2.1
            go_wp2_with fail
            have Z_ := db_set D3.out.1 D3.out.2.1 (.int .i64 t1) (.int .i64 t2) (.int .i64 (wrap64 p)) (.int .i64 (wrap64 q)) (.slice Av t5.length cv) D3.out.2.2.2.2
            refine bodyPost_ret (results_ctt rfl _ _ w.heap.size 24 #[.int .i64 t1, .int .i64 t2, .int .i64 (wrap64 p), .int .i64 (wrap64 q), .slice Av t5.length cv] (0, 0) _ rfl Z_.1 Try.underlying24 rfl (by kernel_rfl)) rfl ?_
            exact ⟨_, rfl, Z_.2.1, Z_.2.2⟩
          · rw [if_neg ec] at H
            have b10 : ((strOfNums en).toList != (strOfNums tl).toList) = true := bne_iff_ne.mpr ec
            have b11 : ((strOfNums en).toList == (strOfNums tl).toList) = false := beq_eq_false_iff_ne.mpr ec
            clear ec
            unfold bollardref12_hugeG.bad at H
            simp only [Option.some.injEq, Prod.mk.injEq] at H
            obtain ⟨rfl, rfl, rfl, rfl, rfl, rfl, rfl⟩ := H
            go_wp2_with fail
            refine start_ (n := 11) (S := fun w' => Kd.C (Kd.int .u8) w' Ae en.length en ∧ Kd.C (Kd.int .u8) w' A tl.length tl) (ds := []) #[false, false, false, false, false, false, false, false, false, false, false] (by kernel_rfl) rfl rfl ⟨(Kd.R_reads' (Kd.R_drew HO.out)).2.2, Kd.C_below HR2.out (below_drew1 D2.out.1)⟩ (fun hHeld => ?_)
            have D3 := Aside0.mk (And.intro (below_drew1 D2.out.1) (And.intro (blk_drew D2.out.2.1) (And.intro (blk_drew D2.out.2.2.1) (And.intro (blk_drew D2.out.2.2.2.1) (Kd.R_drew D2.out.2.2.2.2)))))
            generalize y6.drew = y7 at D3 hHeld ⊢
            refine pure_ (i := 0) (N := (some 72)) (v := ?_) (a' := ?_) #[true, false, false, false, false, false, false, false, false, false, false] rfl rfl (by kernel_rfl) (fun _ _ _ h => h) (Or.inl ⟨by rfl, ?_⟩) ?_ ?_
            rotate_left
            · intro w'
              go_simp
              with_reducible rfl
            rotate_left
            · simp only [Act.put, List.setIfInBounds_toArray, List.set_cons_zero, List.set_cons_succ, i64_w, i32_w]
              rfl
            refine pure_ (i := 1) (N := (some 73)) (v := ?_) (a' := ?_) #[true, true, false, false, false, false, false, false, false, false, false] rfl rfl (by kernel_rfl) (fun _ _ _ h => h) (Or.inl ⟨by rfl, ?_⟩) ?_ ?_
            rotate_left
            · intro w'
              go_simp
              with_reducible rfl
            rotate_left
            · simp only [Act.put, List.setIfInBounds_toArray, List.set_cons_zero, List.set_cons_succ, i64_w, i32_w]
              rfl
            refine pure_ (i := 2) (N := (some 74)) (v := ?_) (a' := ?_) #[true, true, true, false, false, false, false, false, false, false, false] rfl rfl (by kernel_rfl) (fun _ _ _ h => h) (Or.inl ⟨by rfl, ?_⟩) ?_ ?_
            rotate_left
            · intro w'
              go_simp
              with_reducible rfl
            rotate_left
            · simp only [Act.put, List.setIfInBounds_toArray, List.set_cons_zero, List.set_cons_succ, i64_w, i32_w]
              rfl
            refine pure_ (i := 3) (N := (some 75)) (v := ?_) (a' := ?_) #[true, true, true, true, false, false, false, false, false, false, false] rfl rfl (by kernel_rfl) (fun _ _ _ h => h) (Or.inl ⟨by rfl, ?_⟩) ?_ ?_
            rotate_left
            · intro w'
              go_simp
              with_reducible rfl
            rotate_left
            · simp only [Act.put, List.setIfInBounds_toArray, List.set_cons_zero, List.set_cons_succ, i64_w, i32_w]
              rfl
            refine take_ (i := 4) (N := (some 76)) (v := ?_) (a' := ?_) #[true, true, true, true, true, false, false, false, false, false, false] rfl rfl (by kernel_rfl) (fun _ _ _ h => h) (Or.inl ⟨by rfl, ?_⟩) hHeld ?_ ?_
            rotate_left
            · rintro w' ⟨sA, sB⟩
              have hcv := Kd.C_string (P := Try.prog) (A := Ae) (c := ce) Try.underlying27 Try.underlying5 Try.underlying9 sA
              go_simp
              with_reducible rfl
            rotate_left
            · simp only [Act.put, List.setIfInBounds_toArray, List.set_cons_zero, List.set_cons_succ, i64_w, i32_w]
              rfl
            refine pure_ (i := 5) (N := (some 77)) (v := ?_) (a' := ?_) #[true, true, true, true, true, true, false, false, false, false, false] rfl rfl (by kernel_rfl) (fun _ _ _ h => h) (Or.inl ⟨by rfl, ?_⟩) ?_ ?_
            rotate_left
            · intro w'
              go_simp
              with_reducible rfl
            rotate_left
            · simp only [Act.put, List.setIfInBounds_toArray, List.set_cons_zero, List.set_cons_succ, i64_w, i32_w]
              rfl
            refine pure_ (i := 6) (N := (some 78)) (v := ?_) (a' := ?_) #[true, true, true, true, true, true, true, false, false, false, false] rfl rfl (by kernel_rfl) (fun _ _ _ h => h) (Or.inl ⟨by rfl, ?_⟩) ?_ ?_
            rotate_left
            · intro w'
              go_simp
              with_reducible rfl
            rotate_left
            · simp only [Act.put, List.setIfInBounds_toArray, List.set_cons_zero, List.set_cons_succ, i64_w, i32_w]
              rfl
            refine pure_ (i := 7) (N := (some 79)) (v := ?_) (a' := ?_) #[true, true, true, true, true, true, true, true, false, false, false] rfl rfl (by kernel_rfl) (fun _ _ _ h => h) (Or.inl ⟨by rfl, ?_⟩) ?_ ?_
            rotate_left
            · intro w'
              go_simp
              with_reducible rfl
            rotate_left
            · simp only [Act.put, List.setIfInBounds_toArray, List.set_cons_zero, List.set_cons_succ, i64_w, i32_w]
              rfl
            refine take_ (i := 8) (N := (some 80)) (v := ?_) (a' := ?_) #[true, true, true, true, true, true, true, true, true, false, false] rfl rfl (by kernel_rfl) (fun _ _ _ h => h) (Or.inl ⟨by rfl, ?_⟩) hHeld ?_ ?_
            rotate_left
            · rintro w' ⟨sA, sB⟩
              have hcv := Kd.C_string (P := Try.prog) (A := A) (c := c) Try.underlying27 Try.underlying5 Try.underlying9 sB
              go_simp
              with_reducible rfl
            rotate_left
            · simp only [Act.put, List.setIfInBounds_toArray, List.set_cons_zero, List.set_cons_succ, i64_w, i32_w]
              rfl
            refine pure_ (i := 9) (N := (some 81)) (v := ?_) (a' := ?_) #[true, true, true, true, true, true, true, true, true, true, false] rfl rfl (by kernel_rfl) (fun _ _ _ h => h) (Or.inl ⟨by rfl, ?_⟩) ?_ ?_
            rotate_left
            · intro w'
              go_simp
              with_reducible rfl
            rotate_left
            · simp only [Act.put, List.setIfInBounds_toArray, List.set_cons_zero, List.set_cons_succ, i64_w, i32_w]
              rfl
            refine pure_ (i := 10) (N := (some 82)) (v := ?_) (a' := ?_) #[true, true, true, true, true, true, true, true, true, true, true] rfl rfl (by kernel_rfl) (fun _ _ _ h => h) (Or.inl ⟨by rfl, ?_⟩) ?_ ?_
            rotate_left
            · intro w'
              go_simp
              with_reducible rfl
            rotate_left
            · simp only [Act.put, List.setIfInBounds_toArray, List.set_cons_zero, List.set_cons_succ, i64_w, i32_w]
              rfl
            refine done_ (by kernel_rfl) ?_
            clear hHeld
            obtain ⟨n0_, n1_, n2_, n3_, n4_⟩ := db_cells (D3.out.2.2.1)
            obtain ⟨o0_, o1_, o2_, o3_, o4_⟩ := db_cells (D3.out.2.1)
            obtain ⟨z0_, z1_, z2_, z3_, z4_⟩ := db_free (D3.out.2.1)
            go_wp2_with fail
            have Z_ := db_set (D3.out.1) (D3.out.2.1) (.int .i64 0) (.int .i64 0) (.int .i64 0) (.int .i64 0) (.slice none 0 0) (Kd.R_nil k45 45 _ _ _)
            refine bodyPost_ret (results_ctt rfl _ _ w.heap.size 24 #[.int .i64 0, .int .i64 0, .int .i64 0, .int .i64 0, .slice none 0 0] (0, 0) _ rfl Z_.1 Try.underlying24 rfl (by kernel_rfl)) rfl ?_
            exact ⟨_, rfl, Kd.R_nil _ _ _ _ _, Z_.2.2⟩
        · have H := HH.out
          rw [if_neg e8] at H
          have b9 : (ee != 0) = true := bne_iff_ne.mpr e8
          unfold bollardref12_hugeG.bad at H
          simp only [Option.some.injEq, Prod.mk.injEq] at H
          obtain ⟨rfl, rfl, rfl, rfl, rfl, rfl, rfl⟩ := H
          clear HH
          have HR2 := Aside0.mk (show Kd.C (Kd.int .u8) w A l.length l from HR.out)
          go_wp2_with fail
          refine start_ (n := 11) (S := fun w' => Kd.C (Kd.int .u8) w' Ae en.length en ∧ Kd.C (Kd.int .u8) w' A l.length l) (ds := []) #[false, false, false, false, false, false, false, false, false, false, false] (by kernel_rfl) rfl rfl ⟨(Kd.R_reads' (Kd.R_drew HO.out)).2.2, Kd.C_below HR2.out (below_drew1 D2.out.1)⟩ (fun hHeld => ?_)
          have D3 := Aside0.mk (And.intro (below_drew1 D2.out.1) (And.intro (blk_drew D2.out.2.1) (And.intro (blk_drew D2.out.2.2.1) (And.intro (blk_drew D2.out.2.2.2.1) (Kd.R_drew D2.out.2.2.2.2)))))
          generalize y6.drew = y7 at D3 hHeld ⊢
          refine pure_ (i := 0) (N := (some 72)) (v := ?_) (a' := ?_) #[true, false, false, false, false, false, false, false, false, false, false] rfl rfl (by kernel_rfl) (fun _ _ _ h => h) (Or.inl ⟨by rfl, ?_⟩) ?_ ?_
          rotate_left
          · intro w'
            go_simp
            with_reducible rfl
          rotate_left
          · simp only [Act.put, List.setIfInBounds_toArray, List.set_cons_zero, List.set_cons_succ, i64_w, i32_w]
            rfl
          refine pure_ (i := 1) (N := (some 73)) (v := ?_) (a' := ?_) #[true, true, false, false, false, false, false, false, false, false, false] rfl rfl (by kernel_rfl) (fun _ _ _ h => h) (Or.inl ⟨by rfl, ?_⟩) ?_ ?_
          rotate_left
          · intro w'
            go_simp
            with_reducible rfl
          rotate_left
          · simp only [Act.put, List.setIfInBounds_toArray, List.set_cons_zero, List.set_cons_succ, i64_w, i32_w]
            rfl
          refine pure_ (i := 2) (N := (some 74)) (v := ?_) (a' := ?_) #[true, true, true, false, false, false, false, false, false, false, false] rfl rfl (by kernel_rfl) (fun _ _ _ h => h) (Or.inl ⟨by rfl, ?_⟩) ?_ ?_
          rotate_left
          · intro w'
            go_simp
            with_reducible rfl
          rotate_left
          · simp only [Act.put, List.setIfInBounds_toArray, List.set_cons_zero, List.set_cons_succ, i64_w, i32_w]
            rfl
          refine pure_ (i := 3) (N := (some 75)) (v := undef) (a' := ?_) #[true, true, true, true, false, false, false, false, false, false, false] rfl rfl (by kernel_rfl) (fun _ _ _ h => h) (Or.inr ⟨by rfl, rfl⟩) ?_ ?_
          rotate_left
          · simp only [Act.put, List.setIfInBounds_toArray, List.set_cons_zero, List.set_cons_succ, i64_w, i32_w]
            rfl
          refine pure_ (i := 4) (N := (some 76)) (v := undef) (a' := ?_) #[true, true, true, true, true, false, false, false, false, false, false] rfl rfl (by kernel_rfl) (fun _ _ _ h => h) (Or.inr ⟨by rfl, rfl⟩) ?_ ?_
          rotate_left
          · simp only [Act.put, List.setIfInBounds_toArray, List.set_cons_zero, List.set_cons_succ, i64_w, i32_w]
            rfl
          refine pure_ (i := 5) (N := (some 77)) (v := undef) (a' := ?_) #[true, true, true, true, true, true, false, false, false, false, false] rfl rfl (by kernel_rfl) (fun _ _ _ h => h) (Or.inr ⟨by rfl, rfl⟩) ?_ ?_
          rotate_left
          · simp only [Act.put, List.setIfInBounds_toArray, List.set_cons_zero, List.set_cons_succ, i64_w, i32_w]
            rfl
          refine pure_ (i := 6) (N := (some 78)) (v := undef) (a' := ?_) #[true, true, true, true, true, true, true, false, false, false, false] rfl rfl (by kernel_rfl) (fun _ _ _ h => h) (Or.inr ⟨by rfl, rfl⟩) ?_ ?_
          rotate_left
          · simp only [Act.put, List.setIfInBounds_toArray, List.set_cons_zero, List.set_cons_succ, i64_w, i32_w]
            rfl
          refine pure_ (i := 7) (N := (some 79)) (v := undef) (a' := ?_) #[true, true, true, true, true, true, true, true, false, false, false] rfl rfl (by kernel_rfl) (fun _ _ _ h => h) (Or.inr ⟨by rfl, rfl⟩) ?_ ?_
          rotate_left
          · simp only [Act.put, List.setIfInBounds_toArray, List.set_cons_zero, List.set_cons_succ, i64_w, i32_w]
            rfl
          refine pure_ (i := 8) (N := (some 80)) (v := undef) (a' := ?_) #[true, true, true, true, true, true, true, true, true, false, false] rfl rfl (by kernel_rfl) (fun _ _ _ h => h) (Or.inr ⟨by rfl, rfl⟩) ?_ ?_
          rotate_left
          · simp only [Act.put, List.setIfInBounds_toArray, List.set_cons_zero, List.set_cons_succ, i64_w, i32_w]
            rfl
          refine pure_ (i := 9) (N := (some 81)) (v := undef) (a' := ?_) #[true, true, true, true, true, true, true, true, true, true, false] rfl rfl (by kernel_rfl) (fun _ _ _ h => h) (Or.inr ⟨by rfl, rfl⟩) ?_ ?_
          rotate_left
          · simp only [Act.put, List.setIfInBounds_toArray, List.set_cons_zero, List.set_cons_succ, i64_w, i32_w]
            rfl
          refine pure_ (i := 10) (N := (some 82)) (v := ?_) (a' := ?_) #[true, true, true, true, true, true, true, true, true, true, true] rfl rfl (by kernel_rfl) (fun _ _ _ h => h) (Or.inl ⟨by rfl, ?_⟩) ?_ ?_
          rotate_left
          · intro w'
            go_simp
            with_reducible rfl
          rotate_left
          · simp only [Act.put, List.setIfInBounds_toArray, List.set_cons_zero, List.set_cons_succ, i64_w, i32_w]
            rfl
          refine done_ (by kernel_rfl) ?_
          clear hHeld
          obtain ⟨n0_, n1_, n2_, n3_, n4_⟩ := db_cells (D3.out.2.2.1)
          obtain ⟨o0_, o1_, o2_, o3_, o4_⟩ := db_cells (D3.out.2.1)
          obtain ⟨z0_, z1_, z2_, z3_, z4_⟩ := db_free (D3.out.2.1)
          go_wp2_with fail
          have Z_ := db_set (D3.out.1) (D3.out.2.1) (.int .i64 0) (.int .i64 0) (.int .i64 0) (.int .i64 0) (.slice none 0 0) (Kd.R_nil k45 45 _ _ _)
          refine bodyPost_ret (results_ctt rfl _ _ w.heap.size 24 #[.int .i64 0, .int .i64 0, .int .i64 0, .int .i64 0, .slice none 0 0] (0, 0) _ rfl Z_.1 Try.underlying24 rfl (by kernel_rfl)) rfl ?_
          exact ⟨_, rfl, Kd.R_nil _ _ _ _ _, Z_.2.2⟩
      · have H := HH.out
        rw [if_neg e8] at H
        have b8 : (t7 != 0) = true := bne_iff_ne.mpr e8
        unfold bollardref12_hugeG.bad at H
        simp only [Option.some.injEq, Prod.mk.injEq] at H
        obtain ⟨rfl, rfl, rfl, rfl, rfl, rfl, rfl⟩ := H
        clear HH
        have D2 := Aside0.mk (And.intro (below_alloc D1.out.1 (.cells #[.int .i64 t1, .int .i64 t2, .int .i64 t3, .int .i64 t4, .slice Av t5.length cv] 24)) (And.intro (blk_alloc D1.out.2.1 (.cells #[.int .i64 t1, .int .i64 t2, .int .i64 t3, .int .i64 t4, .slice Av t5.length cv] 24)) (blk_alloc D1.out.2.2.1 (.cells #[.int .i64 t1, .int .i64 t2, .int .i64 t3, .int .i64 t4, .slice Av t5.length cv] 24))))
        obtain ⟨n0_, n1_, n2_, n3_, n4_⟩ := db_cells (D2.out.2.2)
        obtain ⟨o0_, o1_, o2_, o3_, o4_⟩ := db_cells (D2.out.2.1)
        obtain ⟨z0_, z1_, z2_, z3_, z4_⟩ := db_free (D2.out.2.1)
        go_wp2_with fail
        have Z_ := db_set (D2.out.1) (D2.out.2.1) (.int .i64 0) (.int .i64 0) (.int .i64 0) (.int .i64 0) (.slice none 0 0) (Kd.R_nil k45 45 _ _ _)
        refine bodyPost_ret (results_ctt rfl _ _ w.heap.size 24 #[.int .i64 0, .int .i64 0, .int .i64 0, .int .i64 0, .slice none 0 0] (0, 0) _ rfl Z_.1 Try.underlying24 rfl (by kernel_rfl)) rfl ?_
        exact ⟨_, rfl, Kd.R_nil _ _ _ _ _, Z_.2.2⟩
/-! ### smaller, not yet -/
def bollardref12_smaller0.f (k : Nat) (l0 : List Int) (a1 : Int) : Option (Int × Int × Int × Int × List S45 × Int × Int) := none
theorem bollardref12_smaller0.mono : ∀ a0 a1 k, LeO (bollardref12_smaller0.f k a0 a1) (bollardref12_smaller0.f (k + 1) a0 a1) := fun _ _ _ => LeO.refl _
theorem bollardref12_smaller0.calls (k : Nat) (A0 : Option Addr) (c0 : Nat) (l0 : List Int) (a1 : Int) (r1 r2 r3 r4 : Int) (r5 : List S45) (r6 r7 : Int) (w : World) (hr0 : Kd.C (Kd.int .u8) w A0 l0.length l0) (hc0 : l0.length ≤ c0) (h : bollardref12_smaller0.f k l0 a1 = some (r1, r2, r3, r4, r5, r6, r7)) :
    Calls Try.prog 54 #[.slice A0 l0.length c0, .int .i64 a1] w fun e w' => ∃ v4_ : Value, e = .returned (.tuple #[.agg #[.int .i64 r1, .int .i64 r2, .int .i64 r3, .int .i64 r4, v4_], .int .i64 r6, .int .i64 r7]) ∧ Kd.R k45 45 w' w.heap.size (fun _ => True) v4_ r5 ∧ Below w.heap.size w w' := by
  exact nomatch (show (none : Option _) = some _ from h)
def bollardref12_huge0.f (k : Nat) (l : List Int) (a1 n p q : Int) : Option (Int × Int × Int × Int × List S45 × Int × Int) := bollardref12_hugeG.f bollardref12_smaller0.f k l a1 n p q
theorem bollardref12_huge0.mono : ∀ a0 a1 a2 a3 a4 k, LeO (bollardref12_huge0.f k a0 a1 a2 a3 a4) (bollardref12_huge0.f (k + 1) a0 a1 a2 a3 a4) := bollardref12_hugeG.mono bollardref12_smaller0.f bollardref12_smaller0.mono
theorem bollardref12_huge0.calls (k : Nat) (A0 : Option Addr) (c0 : Nat) (l0 : List Int) (a1 a2 a3 a4 : Int) (r1 r2 r3 r4 : Int) (r5 : List S45) (r6 r7 : Int) (w : World) (hr0 : Kd.C (Kd.int .u8) w A0 l0.length l0) (hc0 : l0.length ≤ c0) (h : bollardref12_huge0.f k l0 a1 a2 a3 a4 = some (r1, r2, r3, r4, r5, r6, r7)) :
    Calls Try.prog 39 #[.slice A0 l0.length c0, .int .u64 a1, .int .u64 a2, .int .u64 a3, .int .u64 a4] w fun e w' => ∃ v4_ : Value, e = .returned (.tuple #[.agg #[.int .i64 r1, .int .i64 r2, .int .i64 r3, .int .i64 r4, v4_], .int .i64 r6, .int .i64 r7]) ∧ Kd.R k45 45 w' w.heap.size (fun _ => True) v4_ r5 ∧ Below w.heap.size w w' :=
  bollardref12_hugeG.calls k A0 c0 l0 a1 a2 a3 a4 w hr0 hc0 bollardref12_smaller0.f (Aside0.mk bollardref12_smaller0.calls) r1 r2 r3 r4 r5 r6 r7 h
def bollardref12_DecodeBatch0.f (k : Nat) (l : List Int) : Option (Int × Int × Int × Int × List S45 × Int × Int) := bollardref12_DecodeG.f bollardref12_huge0.f k l
theorem bollardref12_DecodeBatch0.mono : ∀ a0 k, LeO (bollardref12_DecodeBatch0.f k a0) (bollardref12_DecodeBatch0.f (k + 1) a0) := bollardref12_DecodeG.mono bollardref12_huge0.f bollardref12_huge0.mono
theorem bollardref12_DecodeBatch0.calls (k : Nat) (A0 : Option Addr) (c0 : Nat) (l0 : List Int) (r1 r2 r3 r4 : Int) (r5 : List S45) (r6 r7 : Int) (w : World) (hr0 : Kd.C (Kd.int .u8) w A0 l0.length l0) (hc0 : l0.length ≤ c0) (h : bollardref12_DecodeBatch0.f k l0 = some (r1, r2, r3, r4, r5, r6, r7)) :
    Calls Try.prog 23 #[.slice A0 l0.length c0] w fun e w' => ∃ v4_ : Value, e = .returned (.tuple #[.agg #[.int .i64 r1, .int .i64 r2, .int .i64 r3, .int .i64 r4, v4_], .int .i64 r6, .int .i64 r7]) ∧ Kd.R k45 45 w' w.heap.size (fun _ => True) v4_ r5 ∧ Below w.heap.size w w' :=
  bollardref12_DecodeG.calls bollardref12_huge0.f (Aside0.mk bollardref12_huge0.calls) k A0 c0 l0 r1 r2 r3 r4 r5 r6 r7 w hr0 hc0 h
/-! ### bollardref12_smaller -/
/-- So many noughts laid from 16 on. -/
def zset (l : List Int) : Nat → List Int
  | 0 => l
  | n + 1 => (zset l n).set (16 + n) 0
theorem zset_len (l : List Int) : ∀ n, (zset l n).length = l.length
  | 0 => rfl
  | n + 1 => by rw [zset, List.length_set, zset_len l n]
def bollardref12_smaller.f (k : Nat) (l : List Int) (a1 : Int) : Option (Int × Int × Int × Int × List S45 × Int × Int) :=
  if 20 ≤ a1 ∧ a1 ≤ 1000000 ∧ 12 + a1 ≤ (l.length : Int) then (bollardref1_Sum.f k ((zset (l.take (12 + a1).toNat) 16).drop 16)).bind fun c => if 0 ≤ c ∧ c < 4294967296 then (bollardref1_Put.f k (zset (l.take (12 + a1).toNat) 16) 12 4 true c).bind fun t => bollardref12_DecodeBatch0.f k t.1 else none else none
theorem bollardref12_smaller.mono : ∀ a0 a1 k, LeO (bollardref12_smaller.f k a0 a1) (bollardref12_smaller.f (k + 1) a0 a1) := by
  intro l a1 k
  unfold bollardref12_smaller.f
  repeat' first | (with_reducible exact LeO.refl _) | (with_reducible exact bollardref1_Sum.mono _ _) | (with_reducible exact bollardref1_Put.mono _ _ _ _ _ _) | (with_reducible exact bollardref12_DecodeBatch0.mono _ _) | (with_reducible refine LeO.ite ?_ ?_) | (with_reducible refine LeO.bind ?_ (fun _ => ?_))
set_option maxHeartbeats 4000000 in
set_option maxRecDepth 100000 in
theorem bollardref12_smaller.calls (k : Nat) (A0 : Option Addr) (c0 : Nat) (l0 : List Int) (a1 : Int) (r1 r2 r3 r4 : Int) (r5 : List S45) (r6 r7 : Int) (w : World) (hr0 : Kd.C (Kd.int .u8) w A0 l0.length l0) (hc0 : l0.length ≤ c0) (h : bollardref12_smaller.f k l0 a1 = some (r1, r2, r3, r4, r5, r6, r7)) :
    Calls Try.prog 54 #[.slice A0 l0.length c0, .int .i64 a1] w fun e w' => ∃ v4_ : Value, e = .returned (.tuple #[.agg #[.int .i64 r1, .int .i64 r2, .int .i64 r3, .int .i64 r4, v4_], .int .i64 r6, .int .i64 r7]) ∧ Kd.R k45 45 w' w.heap.size (fun _ => True) v4_ r5 ∧ Below w.heap.size w w' := by
  unfold bollardref12_smaller.f at h
  by_cases e0 : 20 ≤ a1 ∧ a1 ≤ 1000000 ∧ 12 + a1 ≤ (l0.length : Int)
  case neg => rw [if_neg e0] at h; cases h
  rw [if_pos e0] at h
  obtain ⟨b0, b1, b2⟩ := e0
  obtain ⟨i0, hi0, _, hsz0, _⟩ := info_parts info5
  obtain ⟨hcut, hA, hC⟩ := print_take_of (P := Try.prog) (Value.int .u8) 0 27 5 .i64 Try.underlying27 hi0 hsz0 A0 c0 l0 (12 + a1) (by omega) b2 hc0
  obtain ⟨tl, htl⟩ : ∃ tl, tl = l0.take (12 + a1).toNat := ⟨_, rfl⟩
  have HTL := Aside0.mk (show 32 ≤ tl.length ∧ tl.length ≤ 1000012 from by rw [htl, List.length_take]; omega)
  rw [← htl] at hcut hA hC h
  have HR := Aside0.mk (Kd.C_of_reads (h1 := fun _ => rfl) (hA _ (Kd.reads_of_C hr0)))
  have HC := Aside0.mk hC
  have HH := Aside0.mk h
  clear hi0 hsz0 hA hC htl h hr0 hc0
  go_enter Try.func54, Try.ntmps54
  go_wp2_with (first | ((with_reducible refine gate_dst (N := 13) rfl ?_); refine Kd.R_lit (Kd.int .u8) _ 5 ?hg (N := 13) ?hd (xs := ([] : List Int)) (inner := []) (ok := fun _ => True) (okp := fun _ => True) ?hr ?hp (fun _ hk => hk) trivial (Below.refl _ _) (Nat.le_refl _) (by simp) ?_; (case hd => rfl); (case hg => rfl); (case hr => first | (go_simp; done) | (go_simp; rfl)); (case hp => exact (Reps.none _ _)); intro v1 w1 ho hb hg_ hnew_; have Z1 := Aside0.mk (And.intro (below_step (below_alloc (Below.refl _ _) (.cells #[.int .i64 0, .int .i64 0, .int .i64 0, .int .i64 0, .slice none 0 0] 24)) hb) (blk_below (heap_alloc_new w (.cells #[.int .i64 0, .int .i64 0, .int .i64 0, .int .i64 0, .slice none 0 0] 24)) hb)); have HO1 := Aside0.mk (Kd.R_lower ho (below_size (below_alloc (Below.refl w.heap.size w) (.cells #[.int .i64 0, .int .i64 0, .int .i64 0, .int .i64 0, .slice none 0 0] 24)))); clear ho hb hg_ hnew_) | (at_builtin; refine Kd.R_append_rows (Kd.int .u8) (w0 := w) w.heap.size rfl (.tmp 13) (.tmp 16) 27 5 (.int .u8 0) 1 rfl Try.underlying27 info5 rfl (by decide) (by decide) v1 [] tl A0 tl.length c0 (fun _ => True) (fun _ => False) rfl (by first | rfl | (simp; done)) HO1.out (Kd.C_below HR.out Z1.out.1) (fun _ _ h => h) (fun _ h => h.elim) (fun _ _ => trivial) Z1.out.1 Z1.out.1.size ?aL ?_; (case aL => have := HTL.out; simp only [List.length_nil]; omega); intro v2 w2 ho hb hg hat; rw [List.nil_append] at ho; have Z2 := Aside0.mk (And.intro hb (blk_grown Z1.out.2 hg (Kd.R_ne HO1.out Z1.out.2 (by decide)))); have HO2 := Aside0.mk ho; clear ho hb hg hat HO1 Z1))
  obtain ⟨g, cp, eo, gb, gl, cl, HG⟩ := Kd.R_form HO2.out (by have := HTL.out; omega)
  subst eo
  have GB := Aside0.mk gb
  clear gb gl cl HG
  go_loopw [9] (fun v9 w' => ∃ (i : Int), v9 = .int .i64 i ∧ Aside0 (16 ≤ i ∧ i ≤ 32) ∧ Aside0 (Kd.R (Kd.int .u8) 5 w' w.heap.size (fun _ => True) (.slice (some ⟨g, 0, none⟩) tl.length cp) (zset tl (i - 16).toNat)) ∧ Aside0 (Below w.heap.size w w' ∧ w'.heap[w.heap.size]? = some (.cells #[.int .i64 0, .int .i64 0, .int .i64 0, .int .i64 0, .slice none 0 0] 24 (0, 0)))) (fun v9 _ => (32 - intOf v9).toNat)
  case atStart => exact ⟨16, rfl, ⟨by omega⟩, HO2, Z2⟩
  case round =>
    clear HO2 Z2
    obtain ⟨i, rfl, HN, HO, HZ⟩ := hrel
    have i0 := HN.out.1
    have i1 := HN.out.2
    by_cases e1 : i < 32
    · obtain ⟨hx, hf⟩ := Kd.R_celln 0 HO.out i (by omega) (by have := HTL.out; omega)
      have HP := Aside0.mk (Kd.R_putg HO.out i 0)
      have d1 : decide (i < 32) = true := decide_eq_true e1
      have d2 := eq_true (show 0 ≤ i by omega)
      have d3 := eq_true (show i < (tl.length : Int) by have := HTL.out; omega)
      go_wp2_with fail
      go_roundw
      case rel =>
        refine ⟨i + 1, by go_num, ⟨by omega⟩, ⟨?_⟩, ⟨below_set HZ.out.1 GB.out, ?_⟩⟩
        · have h_ := HP.out.1
          rw [show (i + 1 - 16).toNat = (i - 16).toNat + 1 by omega, zset, show 16 + (i - 16).toNat = i.toNat by omega]
          exact h_
        · exact blk_far HZ.out.2 (by have h_ := Kd.R_ne HO.out HZ.out.2 (by decide); simpa [Value.ownBlock] using h_) _
      case measure => simp [intOf]; omega
    · obtain rfl : i = 32 := by omega
      have d1 : decide ((32 : Int) < 32) = false := decide_eq_false e1
      have HO16 := Aside0.mk (show Kd.R (Kd.int .u8) 5 wr w.heap.size (fun _ => True) (.slice (some ⟨g, 0, none⟩) tl.length cp) (zset tl 16) from HO.out)
      obtain ⟨zl, hzl⟩ : ∃ zl, zl = zset tl 16 := ⟨_, rfl⟩
      have hl : zl.length = tl.length := by rw [hzl, zset_len]
      have H := HH.out
      rw [← hzl] at HO16 H
      obtain ⟨c, hc_, H⟩ := Option.bind_eq_some_iff.mp H
      by_cases e2 : 0 ≤ c ∧ c < 4294967296
      case neg => rw [if_neg e2] at H; cases H
      rw [if_pos e2] at H
      obtain ⟨⟨q, qb⟩, hq_, H⟩ := Option.bind_eq_some_iff.mp H
      dsimp only at H
      have HS := Aside0.mk hc_
      have HQ := Aside0.mk hq_
      have HD := Aside0.mk H
      have c0_ := e2.1
      have c1_ := e2.2
      have HLL := Aside0.mk hl
      have RC := Aside0.mk (Kd.R_reads' HO16.out)
      obtain ⟨iX, hiX, _, hszX, _⟩ := info_parts info5
      obtain ⟨A2, hcut2, hA2, hC2⟩ := print_drop_of (P := Try.prog) (Value.int .u8) 0 27 5 .i64 Try.underlying27 hiX hszX (some ⟨g, 0, none⟩) cp zl 16 (by omega) (by have := HTL.out; rw [hl]; omega) (by rw [hl]; exact RC.out.2.1)
      obtain ⟨dl, hdl⟩ : ∃ dl, dl = zl.drop 16 := ⟨_, rfl⟩
      rw [show ((16 : Int)).toNat = 16 from rfl, ← hdl] at hcut2 hA2 hC2
      rw [hl] at hcut2
      have HDL := Aside0.mk hdl
      have RA := Aside0.mk (Kd.C_of_reads (h1 := fun _ => rfl) (hA2 _ (Kd.reads_of_C RC.out.2.2)))
      have RB := Aside0.mk hC2
      have HCP := Aside0.mk (show zl.length ≤ cp by rw [hl]; exact RC.out.2.1)
      have d3 : (16 ≤ (tl.length : Int)) = True := eq_true (by have := HTL.out; omega)
      clear hzl hl hc_ hq_ H e1 e2 hiX hszX hA2 hC2 hdl HO HH HR HC hcut
      go_wp2_with fail
      refine (bollardref1_Sum.calls k A2 (cp - 16) dl c _ RA.out RB.out (by rw [HDL.out]; exact HS.out)).mono ?_
      rintro e w' ⟨rfl, ⟨n1, rfl⟩⟩
      go_wp2_with fail
      have hq := bollardref1_Put.calls k (some ⟨g, 0, none⟩) cp zl 12 4 true c q qb (wr.drewN n1) (Kd.C_below RC.out.2.2 (pw_below_drewN (Below.refl _ _) _)) HCP.out HQ.out
      rw [HLL.out] at hq
      refine hq.mono ?_
      clear hq
      rintro e y2 ⟨v3, rfl, ho, hb⟩
      have Z2 := Aside0.mk (And.intro (below_step (pw_below_drewN HZ.out.1 n1) hb) (blk_below (blk_drewN HZ.out.2 n1) hb))
      obtain ⟨Aq, cq, eq_⟩ := Kd.R_slice ho
      subst eq_
      have RQ := Aside0.mk (Kd.R_reads' ho).2
      clear ho hb hcut2
      go_wp2_with fail
      refine (bollardref12_DecodeBatch0.calls k Aq cq q r1 r2 r3 r4 r5 r6 r7 _ RQ.out.2 RQ.out.1 HD.out).mono ?_
      rintro e y3 ⟨v4, rfl, ho, hb⟩
      have Z3 := Aside0.mk (And.intro (below_step Z2.out.1 hb) (blk_below Z2.out.2 hb))
      have HO3 := Aside0.mk (Kd.R_lower ho Z2.out.1.size)
      obtain ⟨Av, cv, ev⟩ := Kd.R_slice ho
      subst ev
      clear ho hb
      obtain ⟨o0_, o1_, o2_, o3_, o4_⟩ := db_cells Z3.out.2
      obtain ⟨z0_, z1_, z2_, z3_, z4_⟩ := db_free Z3.out.2
      go_wp2_with fail
      have Z_ := db_set Z3.out.1 Z3.out.2 (.int .i64 r1) (.int .i64 r2) (.int .i64 r3) (.int .i64 r4) (.slice Av r5.length cv) HO3.out
      refine bodyPost_ret (results_ctt rfl _ _ w.heap.size 24 #[.int .i64 r1, .int .i64 r2, .int .i64 r3, .int .i64 r4, .slice Av r5.length cv] (0, 0) _ rfl Z_.1 Try.underlying24 rfl (by kernel_rfl)) rfl ?_
      exact ⟨_, rfl, Z_.2.1, Z_.2.2⟩
def bollardref12_huge.f (k : Nat) (l : List Int) (a1 n p q : Int) : Option (Int × Int × Int × Int × List S45 × Int × Int) := bollardref12_hugeG.f bollardref12_smaller.f k l a1 n p q
theorem bollardref12_huge.mono : ∀ a0 a1 a2 a3 a4 k, LeO (bollardref12_huge.f k a0 a1 a2 a3 a4) (bollardref12_huge.f (k + 1) a0 a1 a2 a3 a4) := bollardref12_hugeG.mono bollardref12_smaller.f bollardref12_smaller.mono
theorem bollardref12_huge.calls (k : Nat) (A0 : Option Addr) (c0 : Nat) (l0 : List Int) (a1 a2 a3 a4 : Int) (r1 r2 r3 r4 : Int) (r5 : List S45) (r6 r7 : Int) (w : World) (hr0 : Kd.C (Kd.int .u8) w A0 l0.length l0) (hc0 : l0.length ≤ c0) (h : bollardref12_huge.f k l0 a1 a2 a3 a4 = some (r1, r2, r3, r4, r5, r6, r7)) :
    Calls Try.prog 39 #[.slice A0 l0.length c0, .int .u64 a1, .int .u64 a2, .int .u64 a3, .int .u64 a4] w fun e w' => ∃ v4_ : Value, e = .returned (.tuple #[.agg #[.int .i64 r1, .int .i64 r2, .int .i64 r3, .int .i64 r4, v4_], .int .i64 r6, .int .i64 r7]) ∧ Kd.R k45 45 w' w.heap.size (fun _ => True) v4_ r5 ∧ Below w.heap.size w w' :=
  bollardref12_hugeG.calls k A0 c0 l0 a1 a2 a3 a4 w hr0 hc0 bollardref12_smaller.f (Aside0.mk bollardref12_smaller.calls) r1 r2 r3 r4 r5 r6 r7 h
def bollardref12_DecodeBatch.f (k : Nat) (l : List Int) : Option (Int × Int × Int × Int × List S45 × Int × Int) := bollardref12_DecodeG.f bollardref12_huge.f k l
theorem bollardref12_DecodeBatch.mono : ∀ a0 k, LeO (bollardref12_DecodeBatch.f k a0) (bollardref12_DecodeBatch.f (k + 1) a0) := bollardref12_DecodeG.mono bollardref12_huge.f bollardref12_huge.mono
theorem bollardref12_DecodeBatch.calls (k : Nat) (A0 : Option Addr) (c0 : Nat) (l0 : List Int) (r1 r2 r3 r4 : Int) (r5 : List S45) (r6 r7 : Int) (w : World) (hr0 : Kd.C (Kd.int .u8) w A0 l0.length l0) (hc0 : l0.length ≤ c0) (h : bollardref12_DecodeBatch.f k l0 = some (r1, r2, r3, r4, r5, r6, r7)) :
    Calls Try.prog 23 #[.slice A0 l0.length c0] w fun e w' => ∃ v4_ : Value, e = .returned (.tuple #[.agg #[.int .i64 r1, .int .i64 r2, .int .i64 r3, .int .i64 r4, v4_], .int .i64 r6, .int .i64 r7]) ∧ Kd.R k45 45 w' w.heap.size (fun _ => True) v4_ r5 ∧ Below w.heap.size w w' :=
  bollardref12_DecodeG.calls bollardref12_huge.f (Aside0.mk bollardref12_huge.calls) k A0 c0 l0 r1 r2 r3 r4 r5 r6 r7 w hr0 hc0 h

/-! ### bollardref12_Move: function 26 -/
def bollardref12_Move.j0 : Nat → List Int → Int → Bool → Option (List Int × Int)
  | 0, _, _, _ => none
  | k + 1, x0, x1, x24 => if x24 = true then (some (([] : List Int), 10)) else (if x1 < 0 then (some (([] : List Int), 1)) else (if x1 > 1125899906842624 then (some (([] : List Int), 1)) else ((bollardref1_Put.f k x0 0 8 true (IntKind.u64.wrap (x1))).bind fun bt306 => (some (bt306.1, 0)))))
def bollardref12_Move.f (k : Nat) (l0 : List Int) (a1 : Int) : Option (List Int × Int) := (bollardref12_DecodeBatch.f k l0).bind fun bt296 => (if bt296.2.2.2.2.2.2 = 0 then (bollardref12_Move.j0 k l0 a1 (bt296.2.2.2.2.2.1 != (l0.length : Int))) else (bollardref12_Move.j0 k l0 a1 true))
set_option maxRecDepth 100000 in
theorem bollardref12_Move.mono_l : ∀ k, (∀ y0 y1 y2, LeO (bollardref12_Move.j0 k y0 y1 y2) (bollardref12_Move.j0 (k + 1) y0 y1 y2))
  | 0 => fun _ _ _ r h => by first | exact nomatch (show (none : Option _) = some r from h) | (rw [bollardref12_Move.j0] at h; cases h; done) | (simp [bollardref12_Move.j0] at h; done)
  | k + 1 => by
    have ih0 := bollardref12_Move.mono_l k
    · intro y0 y1 y2
      unfold bollardref12_Move.j0
      repeat' first
      | (with_reducible exact ih0 _ _ _)
      | (with_reducible exact bollardref12_DecodeBatch.mono _ _)
      | (with_reducible exact bollardref1_Put.mono _ _ _ _ _ _)
      | (with_reducible exact LeO.refl _)
      | (with_reducible exact LeO.none _)
      | (with_reducible refine LeO.ite ?_ ?_)
      | (with_reducible refine LeO.bind ?_ (fun _ => ?_))
      | exact ih0 _ _ _
      | exact bollardref12_DecodeBatch.mono _ _
      | exact bollardref1_Put.mono _ _ _ _ _ _
      | exact LeO.none _
      | refine LeO.ite ?_ ?_
      | refine LeO.bind ?_ (fun _ => ?_)
theorem bollardref12_Move.mono : ∀ a0 a1 k, LeO (bollardref12_Move.f k a0 a1) (bollardref12_Move.f (k + 1) a0 a1) := by
  intro a0 a1 k
  have ih0 := bollardref12_Move.mono_l k
  unfold bollardref12_Move.f
  repeat' first
      | (with_reducible exact ih0 _ _ _)
      | (with_reducible exact bollardref12_DecodeBatch.mono _ _)
      | (with_reducible exact bollardref1_Put.mono _ _ _ _ _ _)
      | (with_reducible exact LeO.refl _)
      | (with_reducible exact LeO.none _)
      | (with_reducible refine LeO.ite ?_ ?_)
      | (with_reducible refine LeO.bind ?_ (fun _ => ?_))
      | exact ih0 _ _ _
      | exact bollardref12_DecodeBatch.mono _ _
      | exact bollardref1_Put.mono _ _ _ _ _ _
      | exact LeO.none _
      | refine LeO.ite ?_ ?_
      | refine LeO.bind ?_ (fun _ => ?_)
set_option maxHeartbeats 8000000 in
set_option maxRecDepth 100000 in
theorem bollardref12_Move.calls (k : Nat) (A0 : Option Addr) (c0 : Nat) (l0 : List Int) (a1 : Int) (r1 : List Int) (r2 : Int) (w : World) (hr0 : Kd.C (Kd.int .u8) w A0 l0.length l0) (hc0 : l0.length ≤ c0) (h : bollardref12_Move.f k l0 a1 = some (r1, r2)) :
    Calls Try.prog 26 #[.slice A0 l0.length c0, .int .i64 a1] w fun e w' => ∃ v0_ : Value, e = .returned (.tuple #[v0_, .int .i64 r2]) ∧ Kd.R (Kd.int .u8) 5 w' w.heap.size (fun _ => True) v0_ r1 ∧ Below w.heap.size w w' := by
  have hu24 := Try.underlying24
  have HR0 := Aside0.mk hr0
  have HC0 := Aside0.mk hc0
  clear hr0 hc0
  have HB := Aside0.mk (Below.refl w.heap.size w)
  have H : ((bollardref12_DecodeBatch.f k l0).bind fun bt296 => (if bt296.2.2.2.2.2.2 = 0 then (bollardref12_Move.j0 k l0 a1 (bt296.2.2.2.2.2.1 != (l0.length : Int))) else (bollardref12_Move.j0 k l0 a1 true))) = some (r1, r2) := h
  clear h
  replace H := Option.bind_eq_some_iff.mp H
  obtain ⟨⟨t296, t297, t298, t299, t300, t303, t304⟩, A30, H⟩ := H
  replace H : (if t304 = 0 then (bollardref12_Move.j0 k l0 a1 (t303 != (l0.length : Int))) else (bollardref12_Move.j0 k l0 a1 true)) = some (r1, r2) := H
  have A3 := Aside0.mk A30
  clear A30
  have HC4 := Aside0.mk H
  clear H
  go_enter Try.func26, Try.ntmps26
  go_upto_region 2 with (first | ((with_reducible refine gate_callee (f := 23) rfl ?_); refine goesL_ (some 13) rfl rfl Try.func23 (by kernel_rfl) rfl #[.slice A0 l0.length c0] rfl (by (try simp only [List.map_toArray, List.map_cons, List.map_nil]); first | done | rfl | (simp only [List.length_drop, List.length_take]; rfl)) ?_; (with_reducible refine (bollardref12_DecodeBatch.calls k _ _ l0 t296 t297 t298 t299 t300 t303 t304 _ ?side1 ?side2 A3.out).mono ?_); (case side1 => repeat (first | exact HR0.out | (with_reducible refine Kd.C_alloc ?_ _) | (with_reducible refine Kd.C_drewN ?_ _) | (with_reducible refine Kd.C_drew ?_))); (case side2 => exact HC0.out); rintro e w5 ⟨v301, rfl, ho0, hb⟩; refine ⟨_, rfl, ?_⟩; have n0_ := Aside0.mk (Kd.R_lower ho0 (below_size (by repeat (first | (with_reducible first | exact HB.out | apply below_alloc | apply pw_below_drewN | apply below_drew1) | exact HB.out)))); have n1_ := Aside0.mk (below_step (by repeat (first | (with_reducible first | exact HB.out | apply below_alloc | apply pw_below_drewN | apply below_drew1) | exact HB.out)) hb); clear HB; have HO302 := n0_; have HB := n1_; clear n0_ n1_; (try clear hb); (try clear hb2); (try clear hk); (try clear hi); (try clear ho0)) | ((with_reducible refine gate_dst (N := 6) rfl ?_); (try (refine gate_guard (by rfl) ?_; dsimp only)); refine box_event ?hg (N := 6) ?hd (cs := #[.int .i64 0, .int .i64 0, .int .i64 0, .int .i64 0, .slice none 0 0]) (t := 24) ?hr ?_; (case hd => rfl); (case hg => rfl); (case hr => first | (go_simp; done) | (go_simp; rfl)); intro gb305 hg w6 hbox hb; have n0_ := Aside0.mk (Kd.R_below (by (with_reducible repeat (first | apply Kd.R_alloc | apply Kd.R_drewN | apply Kd.R_drew)); exact HO302.out) hb); have n1_ := Aside0.mk (below_step (by repeat (first | (with_reducible first | exact HB.out | apply below_alloc | apply pw_below_drewN | apply below_drew1) | exact HB.out)) hb); have n2_ := Aside0.mk (hbox); have n3_ := Aside0.mk ((by rw [hg]; exact (below_size (by repeat (first | (with_reducible first | exact HB.out | apply below_alloc | apply pw_below_drewN | apply below_drew1) | exact HB.out))) : w.heap.size ≤ gb305)); have n4_ := Aside0.mk ((by rw [hg]; exact (below_size (by repeat (first | (with_reducible first | exact HB.out | apply below_alloc | apply pw_below_drewN | apply below_drew1) | exact HB.out))) : w.heap.size ≤ gb305)); clear HO302; clear HB; have HO302 := n0_; have HB := n1_; have BK305 := n2_; have GW305 := n3_; have GE305 := n4_; clear n0_ n1_ n2_ n3_ n4_; clear hb hbox hg; have hcz7_0 : w6.cell? ⟨gb305, 0, none⟩ = some (.int .i64 0) := (blk_cell BK305.out 0).trans rfl; have hcz7_1 : w6.cell? ⟨gb305, 1, none⟩ = some (.int .i64 0) := (blk_cell BK305.out 1).trans rfl; have hcz7_2 : w6.cell? ⟨gb305, 2, none⟩ = some (.int .i64 0) := (blk_cell BK305.out 2).trans rfl; have hcz7_3 : w6.cell? ⟨gb305, 3, none⟩ = some (.int .i64 0) := (blk_cell BK305.out 3).trans rfl; have hcz7_4 : w6.cell? ⟨gb305, 4, none⟩ = some (.slice none 0 0) := (blk_cell BK305.out 4).trans rfl; have hfz7_0 := blk_frozen BK305.out 0; have hfz7_1 := blk_frozen BK305.out 1; have hfz7_2 := blk_frozen BK305.out 2; have hfz7_3 := blk_frozen BK305.out 3; have hfz7_4 := blk_frozen BK305.out 4; obtain ⟨Ao8, co8, eo8⟩ := Kd.R_slice HO302.out; subst eo8))
  (try simp only [Act.put, List.setIfInBounds_toArray, List.set_cons_zero, List.set_cons_succ])
  go_cut [24] (fun v24 wc => ∃ (kq : Nat) (x24_3 : Bool), v24 = .bool x24_3 ∧ Aside0 (bollardref12_Move.j0 kq l0 a1 x24_3 = some (r1, r2)) ∧ Aside0 (kq ≤ k) ∧ Aside0 (Kd.R k45 45 wc w.heap.size (fun _ => True) (.slice Ao8 t300.length co8) t300) ∧ Aside0 (wc.heap[gb305]? = some (.cells #[.int .i64 t296, .int .i64 t297, .int .i64 t298, .int .i64 t299, (.slice Ao8 t300.length co8)] 24 (0, 0))) ∧ Aside0 (Below w.heap.size w wc))
  case first =>
    have H := HC4.out
    clear HC4
    by_cases c9 : t304 = 0
    · rw [if_pos c9] at H
      have c9b0 : (t304 == 0) = true := beq_iff_eq.mpr c9
      have c9b1 : (t304 != 0) = false := bne_eq_false_iff_eq.mpr c9
      clear c9
      (first | rw [c9b0] | (simp only [i64_w, i32_w]; rw [c9b0]) | skip)
      have H' := Aside0.mk H
      clear H
      go_wp2
      go_meet
      case rel => exact ⟨_, ((t303 != (l0.length : Int))), (by first | rfl | (simp; done) | (simp [*]; done) | exact congrArg Value.bool (ne_empty _) | exact congrArg Value.bool (eq_empty _)), H', ⟨by first | omega | exact Nat.le_refl _⟩, ⟨by (with_reducible repeat (first | apply Kd.R_alloc | apply Kd.R_drewN | apply Kd.R_drew)); exact Kd.R_mono (Kd.R_far (p := ⟨gb305, 4, none⟩) (Kd.R_far (p := ⟨gb305, 3, none⟩) (Kd.R_far (p := ⟨gb305, 2, none⟩) (Kd.R_far (p := ⟨gb305, 1, none⟩) (Kd.R_far (p := ⟨gb305, 0, none⟩) (Kd.R_types HO302.out BK305.out (by decide)) (fun _ hk => hk.2) (.int .i64 t296)) (fun _ hk => hk.2) (.int .i64 t297)) (fun _ hk => hk.2) (.int .i64 t298)) (fun _ hk => hk.2) (.int .i64 t299)) (fun _ hk => hk.2) (.slice Ao8 t300.length co8)) (fun _ hk => trivial)⟩, ⟨by (with_reducible repeat (first | refine blk_drewN ?_ _ | refine blk_drew ?_ | refine blk_alloc ?_ _)); refine blk_put (cs := #[.int .i64 t296, .int .i64 t297, .int .i64 t298, .int .i64 t299, .slice none 0 0]) ?_ 4 _ (by first | rfl | (simp only [*, List.setIfInBounds_toArray, List.set_cons_zero, List.set_cons_succ]; done) | (simp [*]; done)); (with_reducible repeat (first | refine blk_drewN ?_ _ | refine blk_drew ?_ | refine blk_alloc ?_ _)); refine blk_put (cs := #[.int .i64 t296, .int .i64 t297, .int .i64 t298, .int .i64 0, .slice none 0 0]) ?_ 3 _ (by first | rfl | (simp only [*, List.setIfInBounds_toArray, List.set_cons_zero, List.set_cons_succ]; done) | (simp [*]; done)); (with_reducible repeat (first | refine blk_drewN ?_ _ | refine blk_drew ?_ | refine blk_alloc ?_ _)); refine blk_put (cs := #[.int .i64 t296, .int .i64 t297, .int .i64 0, .int .i64 0, .slice none 0 0]) ?_ 2 _ (by first | rfl | (simp only [*, List.setIfInBounds_toArray, List.set_cons_zero, List.set_cons_succ]; done) | (simp [*]; done)); (with_reducible repeat (first | refine blk_drewN ?_ _ | refine blk_drew ?_ | refine blk_alloc ?_ _)); refine blk_put (cs := #[.int .i64 t296, .int .i64 0, .int .i64 0, .int .i64 0, .slice none 0 0]) ?_ 1 _ (by first | rfl | (simp only [*, List.setIfInBounds_toArray, List.set_cons_zero, List.set_cons_succ]; done) | (simp [*]; done)); (with_reducible repeat (first | refine blk_drewN ?_ _ | refine blk_drew ?_ | refine blk_alloc ?_ _)); refine blk_put (cs := #[.int .i64 0, .int .i64 0, .int .i64 0, .int .i64 0, .slice none 0 0]) ?_ 0 _ (by first | rfl | (simp only [*, List.setIfInBounds_toArray, List.set_cons_zero, List.set_cons_succ]; done) | (simp [*]; done)); (with_reducible repeat (first | refine blk_drewN ?_ _ | refine blk_drew ?_ | refine blk_alloc ?_ _)); exact BK305.out⟩, ⟨by repeat (first | (with_reducible first | exact HB.out | apply below_alloc | apply pw_below_drewN | apply below_drew1 | refine below_set ?_ GE305.out) | exact HB.out)⟩⟩
    · rw [if_neg c9] at H
      have c9b0 : (t304 == 0) = false := beq_eq_false_iff_ne.mpr c9
      have c9b1 : (t304 != 0) = true := bne_iff_ne.mpr c9
      (first | rw [c9b0] | (simp only [i64_w, i32_w]; rw [c9b0]) | skip)
      have H' := Aside0.mk H
      clear H
      go_wp2
      go_meet
      case rel => exact ⟨_, (true), (by first | rfl | (simp; done) | (simp [*]; done) | exact congrArg Value.bool (ne_empty _) | exact congrArg Value.bool (eq_empty _)), H', ⟨by first | omega | exact Nat.le_refl _⟩, ⟨by (with_reducible repeat (first | apply Kd.R_alloc | apply Kd.R_drewN | apply Kd.R_drew)); exact Kd.R_mono (Kd.R_far (p := ⟨gb305, 4, none⟩) (Kd.R_far (p := ⟨gb305, 3, none⟩) (Kd.R_far (p := ⟨gb305, 2, none⟩) (Kd.R_far (p := ⟨gb305, 1, none⟩) (Kd.R_far (p := ⟨gb305, 0, none⟩) (Kd.R_types HO302.out BK305.out (by decide)) (fun _ hk => hk.2) (.int .i64 t296)) (fun _ hk => hk.2) (.int .i64 t297)) (fun _ hk => hk.2) (.int .i64 t298)) (fun _ hk => hk.2) (.int .i64 t299)) (fun _ hk => hk.2) (.slice Ao8 t300.length co8)) (fun _ hk => trivial)⟩, ⟨by (with_reducible repeat (first | refine blk_drewN ?_ _ | refine blk_drew ?_ | refine blk_alloc ?_ _)); refine blk_put (cs := #[.int .i64 t296, .int .i64 t297, .int .i64 t298, .int .i64 t299, .slice none 0 0]) ?_ 4 _ (by first | rfl | (simp only [*, List.setIfInBounds_toArray, List.set_cons_zero, List.set_cons_succ]; done) | (simp [*]; done)); (with_reducible repeat (first | refine blk_drewN ?_ _ | refine blk_drew ?_ | refine blk_alloc ?_ _)); refine blk_put (cs := #[.int .i64 t296, .int .i64 t297, .int .i64 t298, .int .i64 0, .slice none 0 0]) ?_ 3 _ (by first | rfl | (simp only [*, List.setIfInBounds_toArray, List.set_cons_zero, List.set_cons_succ]; done) | (simp [*]; done)); (with_reducible repeat (first | refine blk_drewN ?_ _ | refine blk_drew ?_ | refine blk_alloc ?_ _)); refine blk_put (cs := #[.int .i64 t296, .int .i64 t297, .int .i64 0, .int .i64 0, .slice none 0 0]) ?_ 2 _ (by first | rfl | (simp only [*, List.setIfInBounds_toArray, List.set_cons_zero, List.set_cons_succ]; done) | (simp [*]; done)); (with_reducible repeat (first | refine blk_drewN ?_ _ | refine blk_drew ?_ | refine blk_alloc ?_ _)); refine blk_put (cs := #[.int .i64 t296, .int .i64 0, .int .i64 0, .int .i64 0, .slice none 0 0]) ?_ 1 _ (by first | rfl | (simp only [*, List.setIfInBounds_toArray, List.set_cons_zero, List.set_cons_succ]; done) | (simp [*]; done)); (with_reducible repeat (first | refine blk_drewN ?_ _ | refine blk_drew ?_ | refine blk_alloc ?_ _)); refine blk_put (cs := #[.int .i64 0, .int .i64 0, .int .i64 0, .int .i64 0, .slice none 0 0]) ?_ 0 _ (by first | rfl | (simp only [*, List.setIfInBounds_toArray, List.set_cons_zero, List.set_cons_succ]; done) | (simp [*]; done)); (with_reducible repeat (first | refine blk_drewN ?_ _ | refine blk_drew ?_ | refine blk_alloc ?_ _)); exact BK305.out⟩, ⟨by repeat (first | (with_reducible first | exact HB.out | apply below_alloc | apply pw_below_drewN | apply below_drew1 | refine below_set ?_ GE305.out) | exact HB.out)⟩⟩
  case rest =>
    clear HC4
    try clear c2
    try clear p2
    try clear c9
    try clear c9b0
    try clear c9b1
    try clear hcz7_0
    try clear hcz7_1
    try clear hcz7_2
    try clear hcz7_3
    try clear hcz7_4
    try clear hfz7_0
    try clear hfz7_1
    try clear hfz7_2
    try clear hfz7_3
    try clear hfz7_4
    obtain ⟨kq, x24_3, rfl, HA, HJ3, HO_306004, BK305, HB⟩ := hcut
    cases kq with
    | zero => exact absurd HA.out (by first | (intro h_; exact nomatch (show (none : Option _) = some r from h_)) | simp [bollardref12_Move.j0])
    | succ kj3 =>
      have H := HA.out
      clear HA
      simp only [bollardref12_Move.j0] at H
      by_cases c10 : x24_3 = true
      · subst c10
        have H1 : (some (([] : List Int), 10)) = some (r1, r2) := by rw [if_pos rfl] at H; exact H
        clear H
        have H := H1
        clear H1
        simp only [Option.some.injEq, Prod.mk.injEq] at H
        obtain ⟨rfl, rfl⟩ := H
        go_wp2
        go_ret2
        exact ⟨_, by first | rfl | (simp [errW_none, errW_some] <;> rfl) | (simp [*, errW_none, errW_some] <;> rfl), by first | exact Kd.R_nil _ _ _ _ _ | exact Kd.N_nil _ _ _ _ _ | exact Kd.V_nil _ _ _ _ _ | exact Kd.Q_nil _ _ _ _ _ | exact Kd.S_nil _ _ _ _ _, by repeat (first | (with_reducible first | exact HB.out | apply below_alloc | apply pw_below_drewN | apply below_drew1 | refine below_set ?_ GE305.out) | exact HB.out)⟩
      · replace c10 := Bool.eq_false_iff.mpr c10
        subst c10
        have H1 : (if a1 < 0 then (some (([] : List Int), 1)) else (if a1 > 1125899906842624 then (some (([] : List Int), 1)) else ((bollardref1_Put.f kj3 l0 0 8 true (IntKind.u64.wrap (a1))).bind fun bt306 => (some (bt306.1, 0))))) = some (r1, r2) := by rw [if_neg (show ¬ (false = true) by decide)] at H; exact H
        clear H
        have H := H1
        clear H1
        by_cases c11 : a1 < 0
        · rw [if_pos c11] at H
          have c11b0 : decide (a1 < 0) = true := decide_eq_true c11
          clear c11
          simp only [Option.some.injEq, Prod.mk.injEq] at H
          obtain ⟨rfl, rfl⟩ := H
          go_wp2
          go_ret2
          exact ⟨_, by first | rfl | (simp [errW_none, errW_some] <;> rfl) | (simp [*, errW_none, errW_some] <;> rfl), by first | exact Kd.R_nil _ _ _ _ _ | exact Kd.N_nil _ _ _ _ _ | exact Kd.V_nil _ _ _ _ _ | exact Kd.Q_nil _ _ _ _ _ | exact Kd.S_nil _ _ _ _ _, by repeat (first | (with_reducible first | exact HB.out | apply below_alloc | apply pw_below_drewN | apply below_drew1 | refine below_set ?_ GE305.out) | exact HB.out)⟩
        · rw [if_neg c11] at H
          have c11b0 : decide (a1 < 0) = false := decide_eq_false c11
          clear c11
          by_cases c12 : a1 > 1125899906842624
          · rw [if_pos c12] at H
            have c12b0 : decide (1125899906842624 < a1) = true := decide_eq_true c12
            clear c12
            simp only [Option.some.injEq, Prod.mk.injEq] at H
            obtain ⟨rfl, rfl⟩ := H
            go_wp2
            go_ret2
            exact ⟨_, by first | rfl | (simp [errW_none, errW_some] <;> rfl) | (simp [*, errW_none, errW_some] <;> rfl), by first | exact Kd.R_nil _ _ _ _ _ | exact Kd.N_nil _ _ _ _ _ | exact Kd.V_nil _ _ _ _ _ | exact Kd.Q_nil _ _ _ _ _ | exact Kd.S_nil _ _ _ _ _, by repeat (first | (with_reducible first | exact HB.out | apply below_alloc | apply pw_below_drewN | apply below_drew1 | refine below_set ?_ GE305.out) | exact HB.out)⟩
          · rw [if_neg c12] at H
            have c12b0 : decide (1125899906842624 < a1) = false := decide_eq_false c12
            clear c12
            replace H := Option.bind_eq_some_iff.mp H
            obtain ⟨⟨t306, t307⟩, A130, H⟩ := H
            replace H : (some (t306, 0)) = some (r1, r2) := H
            have A13 := Aside0.mk A130
            clear A130
            simp only [Option.some.injEq, Prod.mk.injEq] at H
            obtain ⟨rfl, rfl⟩ := H
            go_wp2_with (first | ((with_reducible refine gate_callee (f := 42) rfl ?_); refine goesL_ (some 35) rfl rfl Try.func42 (by kernel_rfl) rfl #[.slice A0 l0.length c0, .int .i64 0, .int .i64 8, .bool true, .int .u64 (IntKind.u64.wrap (a1))] rfl (by (try simp only [List.map_toArray, List.map_cons, List.map_nil]); first | done | rfl | (simp only [List.length_drop, List.length_take]; rfl)) ?_; (with_reducible refine (bollardref1_Put.calls kj3 _ _ l0 0 8 true (IntKind.u64.wrap (a1)) t306 t307 _ ?side1 ?side2 A13.out).mono ?_); (case side1 => repeat (first | exact (Kd.C_below HR0.out HB.out) | (with_reducible refine Kd.C_alloc ?_ _) | (with_reducible refine Kd.C_drewN ?_ _) | (with_reducible refine Kd.C_drew ?_))); (case side2 => exact HC0.out); rintro e w14 ⟨v308, rfl, ho0, hb⟩; refine ⟨_, rfl, ?_⟩; have n0_ := Aside0.mk (Kd.R_below (by (with_reducible repeat (first | apply Kd.R_alloc | apply Kd.R_drewN | apply Kd.R_drew)); exact HO_306004.out) hb); have n1_ := Aside0.mk (Kd.R_lower ho0 (below_size (by repeat (first | (with_reducible first | exact HB.out | apply below_alloc | apply pw_below_drewN | apply below_drew1 | refine below_set ?_ GE305.out) | exact HB.out)))); have n2_ := Aside0.mk (blk_below (g := gb305) (o := .cells #[.int .i64 t296, .int .i64 t297, .int .i64 t298, .int .i64 t299, .slice Ao8 t300.length co8] 24 (0, 0)) (by (with_reducible repeat (first | refine blk_drewN ?_ _ | refine blk_drew ?_ | refine blk_alloc ?_ _)); exact BK305.out) hb); have n3_ := Aside0.mk (below_step (by repeat (first | (with_reducible first | exact HB.out | apply below_alloc | apply pw_below_drewN | apply below_drew1 | refine below_set ?_ GE305.out) | exact HB.out)) hb); clear HO_306004; clear BK305; clear HB; have HO_306004 := n0_; have HO309 := n1_; have BK305 := n2_; have HB := n3_; clear n0_ n1_ n2_ n3_; (try clear hb); (try clear hb2); (try clear hk); (try clear hi); (try clear ho0)))
            go_ret2
            exact ⟨_, by first | rfl | (simp [errW_none, errW_some] <;> rfl) | (simp [*, errW_none, errW_some] <;> rfl), by (with_reducible repeat (first | apply Kd.R_alloc | apply Kd.R_drewN | apply Kd.R_drew)); exact HO309.out, by repeat (first | (with_reducible first | exact HB.out | apply below_alloc | apply pw_below_drewN | apply below_drew1 | refine below_set ?_ GE305.out) | exact HB.out)⟩

end Go.Proofs.Ytgmeellapjimgaa.PBm

-- written by a program of this session (wip/tools/pr.py, over the kit's printer): not by hand
namespace Go.Proofs.Ytgmeellapjimgaa.PBm
open Go.RowKit Go.Proofs.YtgmeellapjimgaaW.PrintWords Go.Proofs.YtgmeellapjimgaaW.PrintLast Go.Proofs.YtgmeellapjimgaaW.PrintMore
attribute [local go_sem] max2_int min2_int max_two min_two max_three min_three max_four min_four   -- for this text's walks alone
set_option linter.unusedVariables false
set_option linter.unusedSimpArgs false

/-! ### bollardlaw13_BatchMoves: function 9 -/
def bollardlaw13_BatchMoves.f (k : Nat) (l0 : List Int) (a1 : Int) : Option (Bool) := if (l0.length : Int) > 8000 then ((bollardlaw13_awake.f k).bind fun t310 => (some t310)) else (if ([] : List Int).length + l0.length < 140737488355328 then ((some (([] : List Int) ++ l0 : List Int)).bind fun y311 => ((batch_Move.f k y311 a1).bind fun bt314 => ((bollardref12_Move.f k l0 a1).bind fun bt318 => ((bollardalike_Bytes.f k bt314.1 bt318.1).bind fun t322 => (if t322 = true then (if bt314.2 = bt318.2 then ((bollardalike_Bytes.f k y311 l0).bind fun t323 => (if t323 = true then ((bollardlaw13_awake.f k).bind fun t324 => (some t324)) else (some false))) else (some false)) else (some false)))))) else (none))
theorem bollardlaw13_BatchMoves.mono : ∀ a0 a1 k, LeO (bollardlaw13_BatchMoves.f k a0 a1) (bollardlaw13_BatchMoves.f (k + 1) a0 a1) := by
  intro a0 a1 k
  unfold bollardlaw13_BatchMoves.f
  repeat' first
      | (with_reducible exact batch_Move.mono _ _ _)
      | (with_reducible exact bollardalike_Bytes.mono _ _ _)
      | (with_reducible exact bollardlaw13_awake.mono _)
      | (with_reducible exact bollardref12_Move.mono _ _ _)
      | (with_reducible exact LeO.refl _)
      | (with_reducible exact LeO.none _)
      | (with_reducible refine LeO.ite ?_ ?_)
      | (with_reducible refine LeO.bind ?_ (fun _ => ?_))
      | exact batch_Move.mono _ _ _
      | exact bollardalike_Bytes.mono _ _ _
      | exact bollardlaw13_awake.mono _
      | exact bollardref12_Move.mono _ _ _
      | exact LeO.none _
      | refine LeO.ite ?_ ?_
      | refine LeO.bind ?_ (fun _ => ?_)
set_option maxHeartbeats 8000000 in
set_option maxRecDepth 100000 in
theorem bollardlaw13_BatchMoves.calls (k : Nat) (A0 : Option Addr) (c0 : Nat) (l0 : List Int) (a1 : Int) (r : Bool) (w : World) (hr0 : Kd.C (Kd.int .u8) w A0 l0.length l0) (hc0 : l0.length ≤ c0) (h : bollardlaw13_BatchMoves.f k l0 a1 = some r) :
    Calls Try.prog 9 #[.slice A0 l0.length c0, .int .i64 a1] w fun e w' => e = .returned (.bool r) ∧ Below w.heap.size w w' := by
  have HR0 := Aside0.mk hr0
  have HC0 := Aside0.mk hc0
  clear hr0 hc0
  have HB := Aside0.mk (Below.refl w.heap.size w)
  have H : (if (l0.length : Int) > 8000 then ((bollardlaw13_awake.f k).bind fun t310 => (some t310)) else (if ([] : List Int).length + l0.length < 140737488355328 then ((some (([] : List Int) ++ l0 : List Int)).bind fun y311 => ((batch_Move.f k y311 a1).bind fun bt314 => ((bollardref12_Move.f k l0 a1).bind fun bt318 => ((bollardalike_Bytes.f k bt314.1 bt318.1).bind fun t322 => (if t322 = true then (if bt314.2 = bt318.2 then ((bollardalike_Bytes.f k y311 l0).bind fun t323 => (if t323 = true then ((bollardlaw13_awake.f k).bind fun t324 => (some t324)) else (some false))) else (some false)) else (some false)))))) else (none))) = some r := h
  clear h
  by_cases c3 : (l0.length : Int) > 8000
  · rw [if_pos c3] at H
    have c3b0 : decide (8000 < (l0.length : Int)) = true := decide_eq_true c3
    have c3b1 : decide (8000 < l0.length) = true := decide_eq_true (by omega)
    clear c3
    replace H := Option.bind_eq_some_iff.mp H
    obtain ⟨t310, A40, H⟩ := H
    replace H : (some t310) = some r := H
    have A4 := Aside0.mk A40
    clear A40
    obtain rfl := Option.some.inj H
    go_enter Try.func9, Try.ntmps9
    go_wp2_with (first | ((with_reducible refine gate_callee (f := 12) rfl ?_); refine goesL_ (some 13) rfl rfl Try.func12 (by kernel_rfl) rfl #[] rfl (by (try simp only [List.map_toArray, List.map_cons, List.map_nil]); first | done | rfl | (simp only [List.length_drop, List.length_take]; rfl)) ?_; (with_reducible refine (bollardlaw13_awake.calls k  t310 _ A4.out).mono ?_); rintro e w5 ⟨rfl, hb⟩; refine ⟨_, rfl, ?_⟩; have n0_ := Aside0.mk (below_step (by repeat (first | (with_reducible first | exact HB.out | apply below_alloc | apply pw_below_drewN | apply below_drew1) | exact HB.out)) hb); clear HB; have HB := n0_; clear n0_; (try clear hb); (try clear hb2); (try clear hk); (try clear hi)))
    go_ret
    exact ⟨by first | rfl | (simp [errW_none, errW_some] <;> rfl) | (simp [*, errW_none, errW_some] <;> rfl), by repeat (first | (with_reducible first | exact HB.out | apply below_alloc | apply pw_below_drewN | apply below_drew1) | exact HB.out)⟩
  · rw [if_neg c3] at H
    have c3b0 : decide (8000 < (l0.length : Int)) = false := decide_eq_false c3
    have c3b1 : decide (8000 < l0.length) = false := decide_eq_false (by omega)
    clear c3
    by_cases c6 : ([] : List Int).length + l0.length < 140737488355328
    · rw [if_pos c6] at H
      have LMc6 := Aside0.mk c6
      clear c6
      obtain ⟨y311, hy311⟩ : ∃ y_ : List Int, y_ = (([] : List Int) ++ l0) := ⟨_, rfl⟩
      replace H : ((batch_Move.f k y311 a1).bind fun bt314 => ((bollardref12_Move.f k l0 a1).bind fun bt318 => ((bollardalike_Bytes.f k bt314.1 bt318.1).bind fun t322 => (if t322 = true then (if bt314.2 = bt318.2 then ((bollardalike_Bytes.f k y311 l0).bind fun t323 => (if t323 = true then ((bollardlaw13_awake.f k).bind fun t324 => (some t324)) else (some false))) else (some false)) else (some false))))) = some r := by first | (rw [hy311]; with_reducible exact H) | (have H2_ := (Option.bind_some _ _).symm.trans H; rw [hy311]; with_reducible exact H2_) | (have H2_ := (Option.bind_some _ _).symm.trans H; with_reducible exact H2_) | with_reducible exact H | (rw [hy311]; exact H) | exact H
      have Ny311 := Aside0.mk hy311
      clear hy311
      replace H := Option.bind_eq_some_iff.mp H
      obtain ⟨⟨t314, t315⟩, A70, H⟩ := H
      replace H : ((bollardref12_Move.f k l0 a1).bind fun bt318 => ((bollardalike_Bytes.f k t314 bt318.1).bind fun t322 => (if t322 = true then (if t315 = bt318.2 then ((bollardalike_Bytes.f k y311 l0).bind fun t323 => (if t323 = true then ((bollardlaw13_awake.f k).bind fun t324 => (some t324)) else (some false))) else (some false)) else (some false)))) = some r := H
      have A7 := Aside0.mk A70
      clear A70
      replace H := Option.bind_eq_some_iff.mp H
      obtain ⟨⟨t318, t319⟩, A80, H⟩ := H
      replace H : ((bollardalike_Bytes.f k t314 t318).bind fun t322 => (if t322 = true then (if t315 = t319 then ((bollardalike_Bytes.f k y311 l0).bind fun t323 => (if t323 = true then ((bollardlaw13_awake.f k).bind fun t324 => (some t324)) else (some false))) else (some false)) else (some false))) = some r := H
      have A8 := Aside0.mk A80
      clear A80
      replace H := Option.bind_eq_some_iff.mp H
      obtain ⟨t322, A90, H⟩ := H
      replace H : (if t322 = true then (if t315 = t319 then ((bollardalike_Bytes.f k y311 l0).bind fun t323 => (if t323 = true then ((bollardlaw13_awake.f k).bind fun t324 => (some t324)) else (some false))) else (some false)) else (some false)) = some r := H
      have A9 := Aside0.mk A90
      clear A90
      by_cases c10 : t322 = true
      · subst c10
        have H1 : (if t315 = t319 then ((bollardalike_Bytes.f k y311 l0).bind fun t323 => (if t323 = true then ((bollardlaw13_awake.f k).bind fun t324 => (some t324)) else (some false))) else (some false)) = some r := by rw [if_pos rfl] at H; exact H
        clear H
        have H := H1
        clear H1
        by_cases c11 : t315 = t319
        · rw [if_pos c11] at H
          have c11b0 : (t315 == t319) = true := beq_iff_eq.mpr c11
          have c11b1 : (t315 != t319) = false := bne_eq_false_iff_eq.mpr c11
          clear c11
          replace H := Option.bind_eq_some_iff.mp H
          obtain ⟨t323, A120, H⟩ := H
          replace H : (if t323 = true then ((bollardlaw13_awake.f k).bind fun t324 => (some t324)) else (some false)) = some r := H
          have A12 := Aside0.mk A120
          clear A120
          by_cases c13 : t323 = true
          · subst c13
            have H1 : ((bollardlaw13_awake.f k).bind fun t324 => (some t324)) = some r := by rw [if_pos rfl] at H; exact H
            clear H
            have H := H1
            clear H1
            replace H := Option.bind_eq_some_iff.mp H
            obtain ⟨t324, A140, H⟩ := H
            replace H : (some t324) = some r := H
            have A14 := Aside0.mk A140
            clear A140
            obtain rfl := Option.some.inj H
            go_enter Try.func9, Try.ntmps9
            go_wp2_with (first | ((with_reducible refine gate_builtin (b := .append) (xs := #[.tmp 14, .tmp 15]) rfl ?_); at_builtin; refine Kd.R_append_rows (Kd.int .u8) (w0 := w) w.heap.size rfl (.tmp 14) (.tmp 15) 27 5 (.int .u8 0) 1 rfl Try.underlying27 info5 rfl (by decide) (by omega) (.slice none 0 0) ([] : List Int) l0 _ _ _ (fun _ => True) (fun _ => False) rfl rfl ?aO ?aR (fun _ _ h => h) (fun _ h => h.elim) ?aF ?aB ?aS ?aL ?_; (case aR => repeat (first | exact HR0.out | (with_reducible refine Kd.C_alloc ?_ _) | (with_reducible refine Kd.C_drewN ?_ _) | (with_reducible refine Kd.C_drew ?_))); (case aB => exact (by repeat (first | (with_reducible first | exact HB.out | apply below_alloc | apply pw_below_drewN | apply below_drew1) | exact HB.out))); (case aF => exact (fun _ _ => trivial)); (case aO => exact ((Kd.R_nil _ _ _ _ (fun _ => True)))); (case aS => exact (below_size (by repeat (first | (with_reducible first | exact HB.out | apply below_alloc | apply pw_below_drewN | apply below_drew1) | exact HB.out)))); (case aL => have := LMc6.out; omega); intro v312 w15 ho hb hg hat; rw [← Ny311.out] at ho; have n0_ := Aside0.mk (hb); have n1_ := Aside0.mk (ho); clear HB; have HB := n0_; have HO313 := n1_; clear n0_ n1_; clear ho hb hg hat; obtain ⟨Ao16, co16, eo16⟩ := Kd.R_slice HO313.out; subst eo16) | ((with_reducible refine gate_callee (f := 25) rfl ?_); refine goesL_ (some 20) rfl rfl Try.func25 (by kernel_rfl) rfl #[.slice Ao16 y311.length co16, .int .i64 a1] rfl (by (try simp only [List.map_toArray, List.map_cons, List.map_nil]); first | done | rfl | (simp only [List.length_drop, List.length_take]; rfl)) ?_; (with_reducible refine (batch_Move.calls k _ _ y311 a1 t314 t315 _ ?side1 ?side2 A7.out).mono ?_); (case side1 => repeat (first | exact (Kd.R_reads' HO313.out).2.2 | (with_reducible refine Kd.C_alloc ?_ _) | (with_reducible refine Kd.C_drewN ?_ _) | (with_reducible refine Kd.C_drew ?_))); (case side2 => exact (Kd.R_reads' HO313.out).2.1); rintro e w17 ⟨v316, rfl, ho0, hb⟩; refine ⟨_, rfl, ?_⟩; have n0_ := Aside0.mk (Kd.R_elder' (by (with_reducible repeat (first | apply Kd.R_alloc | apply Kd.R_drewN | apply Kd.R_drew)); exact HO313.out) (Kd.R_base ho0) hb); have n1_ := Aside0.mk (Kd.R_lower (Kd.R_new' ho0 (Kd.R_lt (by (with_reducible repeat (first | apply Kd.R_alloc | apply Kd.R_drewN | apply Kd.R_drew)); exact HO313.out))) (below_size (by repeat (first | (with_reducible first | exact HB.out | apply below_alloc | apply pw_below_drewN | apply below_drew1) | exact HB.out)))); have n2_ := Aside0.mk (below_step (by repeat (first | (with_reducible first | exact HB.out | apply below_alloc | apply pw_below_drewN | apply below_drew1) | exact HB.out)) hb); clear HO313; clear HB; have HO313 := n0_; have HO317 := n1_; have HB := n2_; clear n0_ n1_ n2_; (try clear hb); (try clear hb2); (try clear hk); (try clear hi); (try clear ho0)) | ((with_reducible refine gate_callee (f := 26) rfl ?_); refine goesL_ (some 26) rfl rfl Try.func26 (by kernel_rfl) rfl #[.slice A0 l0.length c0, .int .i64 a1] rfl (by (try simp only [List.map_toArray, List.map_cons, List.map_nil]); first | done | rfl | (simp only [List.length_drop, List.length_take]; rfl)) ?_; (with_reducible refine (bollardref12_Move.calls k _ _ l0 a1 t318 t319 _ ?side1 ?side2 A8.out).mono ?_); (case side1 => repeat (first | exact (Kd.C_below HR0.out HB.out) | (with_reducible refine Kd.C_alloc ?_ _) | (with_reducible refine Kd.C_drewN ?_ _) | (with_reducible refine Kd.C_drew ?_))); (case side2 => exact HC0.out); rintro e w18 ⟨v320, rfl, ho0, hb⟩; refine ⟨_, rfl, ?_⟩; have n0_ := Aside0.mk (Kd.R_elder' (by (with_reducible repeat (first | apply Kd.R_alloc | apply Kd.R_drewN | apply Kd.R_drew)); exact HO313.out) (Kd.R_base ho0) hb); have n1_ := Aside0.mk (Kd.R_elder' (by (with_reducible repeat (first | apply Kd.R_alloc | apply Kd.R_drewN | apply Kd.R_drew)); exact HO317.out) (Kd.R_base ho0) hb); have n2_ := Aside0.mk (Kd.R_lower (Kd.R_new' (Kd.R_new' ho0 (Kd.R_lt (by (with_reducible repeat (first | apply Kd.R_alloc | apply Kd.R_drewN | apply Kd.R_drew)); exact HO313.out))) (Kd.R_lt (by (with_reducible repeat (first | apply Kd.R_alloc | apply Kd.R_drewN | apply Kd.R_drew)); exact HO317.out))) (below_size (by repeat (first | (with_reducible first | exact HB.out | apply below_alloc | apply pw_below_drewN | apply below_drew1) | exact HB.out)))); have n3_ := Aside0.mk (below_step (by repeat (first | (with_reducible first | exact HB.out | apply below_alloc | apply pw_below_drewN | apply below_drew1) | exact HB.out)) hb); clear HO313; clear HO317; clear HB; have HO313 := n0_; have HO317 := n1_; have HO321 := n2_; have HB := n3_; clear n0_ n1_ n2_ n3_; (try clear hb); (try clear hb2); (try clear hk); (try clear hi); (try clear ho0); obtain ⟨Ao19, co19, eo19⟩ := Kd.R_slice HO317.out; subst eo19; obtain ⟨Ao20, co20, eo20⟩ := Kd.R_slice HO321.out; subst eo20) | ((with_reducible refine gate_callee (f := 15) rfl ?_); refine goesL_ (some 31) rfl rfl Try.func15 (by kernel_rfl) rfl #[.slice Ao19 t314.length co19, .slice Ao20 t318.length co20] rfl (by (try simp only [List.map_toArray, List.map_cons, List.map_nil]); first | done | rfl | (simp only [List.length_drop, List.length_take]; rfl)) ?_; (with_reducible refine (bollardalike_Bytes.calls k _ _ t314 _ _ t318 true _ ?side1 ?side2 ?side3 ?side4 A9.out).mono ?_); (case side1 => repeat (first | exact (Kd.R_reads' HO317.out).2.2 | (with_reducible refine Kd.C_alloc ?_ _) | (with_reducible refine Kd.C_drewN ?_ _) | (with_reducible refine Kd.C_drew ?_))); (case side2 => exact (Kd.R_reads' HO317.out).2.1); (case side3 => repeat (first | exact (Kd.R_reads' HO321.out).2.2 | (with_reducible refine Kd.C_alloc ?_ _) | (with_reducible refine Kd.C_drewN ?_ _) | (with_reducible refine Kd.C_drew ?_))); (case side4 => exact (Kd.R_reads' HO321.out).2.1); rintro e w' ⟨rfl, ⟨nd, rfl⟩⟩; refine ⟨_, rfl, ?_⟩) | (go_at_call 15; (with_reducible refine (bollardalike_Bytes.calls k _ _ y311 _ _ l0 true _ ?side1 ?side2 ?side3 ?side4 A12.out).mono ?_); (case side1 => repeat (first | exact (Kd.R_reads' HO313.out).2.2 | (with_reducible refine Kd.C_alloc ?_ _) | (with_reducible refine Kd.C_drewN ?_ _) | (with_reducible refine Kd.C_drew ?_))); (case side2 => exact (Kd.R_reads' HO313.out).2.1); (case side3 => repeat (first | exact (Kd.C_below HR0.out (by repeat (first | (with_reducible first | exact HB.out | apply below_alloc | apply pw_below_drewN | apply below_drew1) | exact HB.out))) | (with_reducible refine Kd.C_alloc ?_ _) | (with_reducible refine Kd.C_drewN ?_ _) | (with_reducible refine Kd.C_drew ?_))); (case side4 => exact HC0.out); rintro e w' ⟨rfl, ⟨nd, rfl⟩⟩) | (go_at_call 12; (with_reducible refine (bollardlaw13_awake.calls k  t324 _ A14.out).mono ?_); rintro e w21 ⟨rfl, hb⟩; have n0_ := Aside0.mk (Kd.R_below (by (with_reducible repeat (first | apply Kd.R_alloc | apply Kd.R_drewN | apply Kd.R_drew)); exact HO313.out) hb); have n1_ := Aside0.mk (Kd.R_below (by (with_reducible repeat (first | apply Kd.R_alloc | apply Kd.R_drewN | apply Kd.R_drew)); exact HO317.out) hb); have n2_ := Aside0.mk (Kd.R_below (by (with_reducible repeat (first | apply Kd.R_alloc | apply Kd.R_drewN | apply Kd.R_drew)); exact HO321.out) hb); have n3_ := Aside0.mk (below_step (by repeat (first | (with_reducible first | exact HB.out | apply below_alloc | apply pw_below_drewN | apply below_drew1) | exact HB.out)) hb); clear HO313; clear HO317; clear HO321; clear HB; have HO313 := n0_; have HO317 := n1_; have HO321 := n2_; have HB := n3_; clear n0_ n1_ n2_ n3_; (try clear hb); (try clear hb2); (try clear hk); (try clear hi)))
            go_ret
            exact ⟨by first | rfl | (simp [errW_none, errW_some] <;> rfl) | (simp [*, errW_none, errW_some] <;> rfl), by repeat (first | (with_reducible first | exact HB.out | apply below_alloc | apply pw_below_drewN | apply below_drew1) | exact HB.out)⟩
          · replace c13 := Bool.eq_false_iff.mpr c13
            subst c13
            have H1 : (some false) = some r := by rw [if_neg (show ¬ (false = true) by decide)] at H; exact H
            clear H
            have H := H1
            clear H1
            obtain rfl := Option.some.inj H
            go_enter Try.func9, Try.ntmps9
            go_wp2_with (first | ((with_reducible refine gate_builtin (b := .append) (xs := #[.tmp 14, .tmp 15]) rfl ?_); at_builtin; refine Kd.R_append_rows (Kd.int .u8) (w0 := w) w.heap.size rfl (.tmp 14) (.tmp 15) 27 5 (.int .u8 0) 1 rfl Try.underlying27 info5 rfl (by decide) (by omega) (.slice none 0 0) ([] : List Int) l0 _ _ _ (fun _ => True) (fun _ => False) rfl rfl ?aO ?aR (fun _ _ h => h) (fun _ h => h.elim) ?aF ?aB ?aS ?aL ?_; (case aR => repeat (first | exact HR0.out | (with_reducible refine Kd.C_alloc ?_ _) | (with_reducible refine Kd.C_drewN ?_ _) | (with_reducible refine Kd.C_drew ?_))); (case aB => exact (by repeat (first | (with_reducible first | exact HB.out | apply below_alloc | apply pw_below_drewN | apply below_drew1) | exact HB.out))); (case aF => exact (fun _ _ => trivial)); (case aO => exact ((Kd.R_nil _ _ _ _ (fun _ => True)))); (case aS => exact (below_size (by repeat (first | (with_reducible first | exact HB.out | apply below_alloc | apply pw_below_drewN | apply below_drew1) | exact HB.out)))); (case aL => have := LMc6.out; omega); intro v312 w22 ho hb hg hat; rw [← Ny311.out] at ho; have n0_ := Aside0.mk (hb); have n1_ := Aside0.mk (ho); clear HB; have HB := n0_; have HO313 := n1_; clear n0_ n1_; clear ho hb hg hat; obtain ⟨Ao23, co23, eo23⟩ := Kd.R_slice HO313.out; subst eo23) | ((with_reducible refine gate_callee (f := 25) rfl ?_); refine goesL_ (some 20) rfl rfl Try.func25 (by kernel_rfl) rfl #[.slice Ao23 y311.length co23, .int .i64 a1] rfl (by (try simp only [List.map_toArray, List.map_cons, List.map_nil]); first | done | rfl | (simp only [List.length_drop, List.length_take]; rfl)) ?_; (with_reducible refine (batch_Move.calls k _ _ y311 a1 t314 t315 _ ?side1 ?side2 A7.out).mono ?_); (case side1 => repeat (first | exact (Kd.R_reads' HO313.out).2.2 | (with_reducible refine Kd.C_alloc ?_ _) | (with_reducible refine Kd.C_drewN ?_ _) | (with_reducible refine Kd.C_drew ?_))); (case side2 => exact (Kd.R_reads' HO313.out).2.1); rintro e w24 ⟨v316, rfl, ho0, hb⟩; refine ⟨_, rfl, ?_⟩; have n0_ := Aside0.mk (Kd.R_elder' (by (with_reducible repeat (first | apply Kd.R_alloc | apply Kd.R_drewN | apply Kd.R_drew)); exact HO313.out) (Kd.R_base ho0) hb); have n1_ := Aside0.mk (Kd.R_lower (Kd.R_new' ho0 (Kd.R_lt (by (with_reducible repeat (first | apply Kd.R_alloc | apply Kd.R_drewN | apply Kd.R_drew)); exact HO313.out))) (below_size (by repeat (first | (with_reducible first | exact HB.out | apply below_alloc | apply pw_below_drewN | apply below_drew1) | exact HB.out)))); have n2_ := Aside0.mk (below_step (by repeat (first | (with_reducible first | exact HB.out | apply below_alloc | apply pw_below_drewN | apply below_drew1) | exact HB.out)) hb); clear HO313; clear HB; have HO313 := n0_; have HO317 := n1_; have HB := n2_; clear n0_ n1_ n2_; (try clear hb); (try clear hb2); (try clear hk); (try clear hi); (try clear ho0)) | ((with_reducible refine gate_callee (f := 26) rfl ?_); refine goesL_ (some 26) rfl rfl Try.func26 (by kernel_rfl) rfl #[.slice A0 l0.length c0, .int .i64 a1] rfl (by (try simp only [List.map_toArray, List.map_cons, List.map_nil]); first | done | rfl | (simp only [List.length_drop, List.length_take]; rfl)) ?_; (with_reducible refine (bollardref12_Move.calls k _ _ l0 a1 t318 t319 _ ?side1 ?side2 A8.out).mono ?_); (case side1 => repeat (first | exact (Kd.C_below HR0.out HB.out) | (with_reducible refine Kd.C_alloc ?_ _) | (with_reducible refine Kd.C_drewN ?_ _) | (with_reducible refine Kd.C_drew ?_))); (case side2 => exact HC0.out); rintro e w25 ⟨v320, rfl, ho0, hb⟩; refine ⟨_, rfl, ?_⟩; have n0_ := Aside0.mk (Kd.R_elder' (by (with_reducible repeat (first | apply Kd.R_alloc | apply Kd.R_drewN | apply Kd.R_drew)); exact HO313.out) (Kd.R_base ho0) hb); have n1_ := Aside0.mk (Kd.R_elder' (by (with_reducible repeat (first | apply Kd.R_alloc | apply Kd.R_drewN | apply Kd.R_drew)); exact HO317.out) (Kd.R_base ho0) hb); have n2_ := Aside0.mk (Kd.R_lower (Kd.R_new' (Kd.R_new' ho0 (Kd.R_lt (by (with_reducible repeat (first | apply Kd.R_alloc | apply Kd.R_drewN | apply Kd.R_drew)); exact HO313.out))) (Kd.R_lt (by (with_reducible repeat (first | apply Kd.R_alloc | apply Kd.R_drewN | apply Kd.R_drew)); exact HO317.out))) (below_size (by repeat (first | (with_reducible first | exact HB.out | apply below_alloc | apply pw_below_drewN | apply below_drew1) | exact HB.out)))); have n3_ := Aside0.mk (below_step (by repeat (first | (with_reducible first | exact HB.out | apply below_alloc | apply pw_below_drewN | apply below_drew1) | exact HB.out)) hb); clear HO313; clear HO317; clear HB; have HO313 := n0_; have HO317 := n1_; have HO321 := n2_; have HB := n3_; clear n0_ n1_ n2_ n3_; (try clear hb); (try clear hb2); (try clear hk); (try clear hi); (try clear ho0); obtain ⟨Ao26, co26, eo26⟩ := Kd.R_slice HO317.out; subst eo26; obtain ⟨Ao27, co27, eo27⟩ := Kd.R_slice HO321.out; subst eo27) | ((with_reducible refine gate_callee (f := 15) rfl ?_); refine goesL_ (some 31) rfl rfl Try.func15 (by kernel_rfl) rfl #[.slice Ao26 t314.length co26, .slice Ao27 t318.length co27] rfl (by (try simp only [List.map_toArray, List.map_cons, List.map_nil]); first | done | rfl | (simp only [List.length_drop, List.length_take]; rfl)) ?_; (with_reducible refine (bollardalike_Bytes.calls k _ _ t314 _ _ t318 true _ ?side1 ?side2 ?side3 ?side4 A9.out).mono ?_); (case side1 => repeat (first | exact (Kd.R_reads' HO317.out).2.2 | (with_reducible refine Kd.C_alloc ?_ _) | (with_reducible refine Kd.C_drewN ?_ _) | (with_reducible refine Kd.C_drew ?_))); (case side2 => exact (Kd.R_reads' HO317.out).2.1); (case side3 => repeat (first | exact (Kd.R_reads' HO321.out).2.2 | (with_reducible refine Kd.C_alloc ?_ _) | (with_reducible refine Kd.C_drewN ?_ _) | (with_reducible refine Kd.C_drew ?_))); (case side4 => exact (Kd.R_reads' HO321.out).2.1); rintro e w' ⟨rfl, ⟨nd, rfl⟩⟩; refine ⟨_, rfl, ?_⟩) | (go_at_call 15; (with_reducible refine (bollardalike_Bytes.calls k _ _ y311 _ _ l0 false _ ?side1 ?side2 ?side3 ?side4 A12.out).mono ?_); (case side1 => repeat (first | exact (Kd.R_reads' HO313.out).2.2 | (with_reducible refine Kd.C_alloc ?_ _) | (with_reducible refine Kd.C_drewN ?_ _) | (with_reducible refine Kd.C_drew ?_))); (case side2 => exact (Kd.R_reads' HO313.out).2.1); (case side3 => repeat (first | exact (Kd.C_below HR0.out (by repeat (first | (with_reducible first | exact HB.out | apply below_alloc | apply pw_below_drewN | apply below_drew1) | exact HB.out))) | (with_reducible refine Kd.C_alloc ?_ _) | (with_reducible refine Kd.C_drewN ?_ _) | (with_reducible refine Kd.C_drew ?_))); (case side4 => exact HC0.out); rintro e w' ⟨rfl, ⟨nd, rfl⟩⟩))
            go_ret
            exact ⟨by first | rfl | (simp [errW_none, errW_some] <;> rfl) | (simp [*, errW_none, errW_some] <;> rfl), by repeat (first | (with_reducible first | exact HB.out | apply below_alloc | apply pw_below_drewN | apply below_drew1) | exact HB.out)⟩
        · rw [if_neg c11] at H
          have c11b0 : (t315 == t319) = false := beq_eq_false_iff_ne.mpr c11
          have c11b1 : (t315 != t319) = true := bne_iff_ne.mpr c11
          obtain rfl := Option.some.inj H
          go_enter Try.func9, Try.ntmps9
          go_wp2_with (first | ((with_reducible refine gate_builtin (b := .append) (xs := #[.tmp 14, .tmp 15]) rfl ?_); at_builtin; refine Kd.R_append_rows (Kd.int .u8) (w0 := w) w.heap.size rfl (.tmp 14) (.tmp 15) 27 5 (.int .u8 0) 1 rfl Try.underlying27 info5 rfl (by decide) (by omega) (.slice none 0 0) ([] : List Int) l0 _ _ _ (fun _ => True) (fun _ => False) rfl rfl ?aO ?aR (fun _ _ h => h) (fun _ h => h.elim) ?aF ?aB ?aS ?aL ?_; (case aR => repeat (first | exact HR0.out | (with_reducible refine Kd.C_alloc ?_ _) | (with_reducible refine Kd.C_drewN ?_ _) | (with_reducible refine Kd.C_drew ?_))); (case aB => exact (by repeat (first | (with_reducible first | exact HB.out | apply below_alloc | apply pw_below_drewN | apply below_drew1) | exact HB.out))); (case aF => exact (fun _ _ => trivial)); (case aO => exact ((Kd.R_nil _ _ _ _ (fun _ => True)))); (case aS => exact (below_size (by repeat (first | (with_reducible first | exact HB.out | apply below_alloc | apply pw_below_drewN | apply below_drew1) | exact HB.out)))); (case aL => have := LMc6.out; omega); intro v312 w28 ho hb hg hat; rw [← Ny311.out] at ho; have n0_ := Aside0.mk (hb); have n1_ := Aside0.mk (ho); clear HB; have HB := n0_; have HO313 := n1_; clear n0_ n1_; clear ho hb hg hat; obtain ⟨Ao29, co29, eo29⟩ := Kd.R_slice HO313.out; subst eo29) | ((with_reducible refine gate_callee (f := 25) rfl ?_); refine goesL_ (some 20) rfl rfl Try.func25 (by kernel_rfl) rfl #[.slice Ao29 y311.length co29, .int .i64 a1] rfl (by (try simp only [List.map_toArray, List.map_cons, List.map_nil]); first | done | rfl | (simp only [List.length_drop, List.length_take]; rfl)) ?_; (with_reducible refine (batch_Move.calls k _ _ y311 a1 t314 t315 _ ?side1 ?side2 A7.out).mono ?_); (case side1 => repeat (first | exact (Kd.R_reads' HO313.out).2.2 | (with_reducible refine Kd.C_alloc ?_ _) | (with_reducible refine Kd.C_drewN ?_ _) | (with_reducible refine Kd.C_drew ?_))); (case side2 => exact (Kd.R_reads' HO313.out).2.1); rintro e w30 ⟨v316, rfl, ho0, hb⟩; refine ⟨_, rfl, ?_⟩; have n0_ := Aside0.mk (Kd.R_elder' (by (with_reducible repeat (first | apply Kd.R_alloc | apply Kd.R_drewN | apply Kd.R_drew)); exact HO313.out) (Kd.R_base ho0) hb); have n1_ := Aside0.mk (Kd.R_lower (Kd.R_new' ho0 (Kd.R_lt (by (with_reducible repeat (first | apply Kd.R_alloc | apply Kd.R_drewN | apply Kd.R_drew)); exact HO313.out))) (below_size (by repeat (first | (with_reducible first | exact HB.out | apply below_alloc | apply pw_below_drewN | apply below_drew1) | exact HB.out)))); have n2_ := Aside0.mk (below_step (by repeat (first | (with_reducible first | exact HB.out | apply below_alloc | apply pw_below_drewN | apply below_drew1) | exact HB.out)) hb); clear HO313; clear HB; have HO313 := n0_; have HO317 := n1_; have HB := n2_; clear n0_ n1_ n2_; (try clear hb); (try clear hb2); (try clear hk); (try clear hi); (try clear ho0)) | ((with_reducible refine gate_callee (f := 26) rfl ?_); refine goesL_ (some 26) rfl rfl Try.func26 (by kernel_rfl) rfl #[.slice A0 l0.length c0, .int .i64 a1] rfl (by (try simp only [List.map_toArray, List.map_cons, List.map_nil]); first | done | rfl | (simp only [List.length_drop, List.length_take]; rfl)) ?_; (with_reducible refine (bollardref12_Move.calls k _ _ l0 a1 t318 t319 _ ?side1 ?side2 A8.out).mono ?_); (case side1 => repeat (first | exact (Kd.C_below HR0.out HB.out) | (with_reducible refine Kd.C_alloc ?_ _) | (with_reducible refine Kd.C_drewN ?_ _) | (with_reducible refine Kd.C_drew ?_))); (case side2 => exact HC0.out); rintro e w31 ⟨v320, rfl, ho0, hb⟩; refine ⟨_, rfl, ?_⟩; have n0_ := Aside0.mk (Kd.R_elder' (by (with_reducible repeat (first | apply Kd.R_alloc | apply Kd.R_drewN | apply Kd.R_drew)); exact HO313.out) (Kd.R_base ho0) hb); have n1_ := Aside0.mk (Kd.R_elder' (by (with_reducible repeat (first | apply Kd.R_alloc | apply Kd.R_drewN | apply Kd.R_drew)); exact HO317.out) (Kd.R_base ho0) hb); have n2_ := Aside0.mk (Kd.R_lower (Kd.R_new' (Kd.R_new' ho0 (Kd.R_lt (by (with_reducible repeat (first | apply Kd.R_alloc | apply Kd.R_drewN | apply Kd.R_drew)); exact HO313.out))) (Kd.R_lt (by (with_reducible repeat (first | apply Kd.R_alloc | apply Kd.R_drewN | apply Kd.R_drew)); exact HO317.out))) (below_size (by repeat (first | (with_reducible first | exact HB.out | apply below_alloc | apply pw_below_drewN | apply below_drew1) | exact HB.out)))); have n3_ := Aside0.mk (below_step (by repeat (first | (with_reducible first | exact HB.out | apply below_alloc | apply pw_below_drewN | apply below_drew1) | exact HB.out)) hb); clear HO313; clear HO317; clear HB; have HO313 := n0_; have HO317 := n1_; have HO321 := n2_; have HB := n3_; clear n0_ n1_ n2_ n3_; (try clear hb); (try clear hb2); (try clear hk); (try clear hi); (try clear ho0); obtain ⟨Ao32, co32, eo32⟩ := Kd.R_slice HO317.out; subst eo32; obtain ⟨Ao33, co33, eo33⟩ := Kd.R_slice HO321.out; subst eo33) | ((with_reducible refine gate_callee (f := 15) rfl ?_); refine goesL_ (some 31) rfl rfl Try.func15 (by kernel_rfl) rfl #[.slice Ao32 t314.length co32, .slice Ao33 t318.length co33] rfl (by (try simp only [List.map_toArray, List.map_cons, List.map_nil]); first | done | rfl | (simp only [List.length_drop, List.length_take]; rfl)) ?_; (with_reducible refine (bollardalike_Bytes.calls k _ _ t314 _ _ t318 true _ ?side1 ?side2 ?side3 ?side4 A9.out).mono ?_); (case side1 => repeat (first | exact (Kd.R_reads' HO317.out).2.2 | (with_reducible refine Kd.C_alloc ?_ _) | (with_reducible refine Kd.C_drewN ?_ _) | (with_reducible refine Kd.C_drew ?_))); (case side2 => exact (Kd.R_reads' HO317.out).2.1); (case side3 => repeat (first | exact (Kd.R_reads' HO321.out).2.2 | (with_reducible refine Kd.C_alloc ?_ _) | (with_reducible refine Kd.C_drewN ?_ _) | (with_reducible refine Kd.C_drew ?_))); (case side4 => exact (Kd.R_reads' HO321.out).2.1); rintro e w' ⟨rfl, ⟨nd, rfl⟩⟩; refine ⟨_, rfl, ?_⟩))
          go_ret
          exact ⟨by first | rfl | (simp [errW_none, errW_some] <;> rfl) | (simp [*, errW_none, errW_some] <;> rfl), by repeat (first | (with_reducible first | exact HB.out | apply below_alloc | apply pw_below_drewN | apply below_drew1) | exact HB.out)⟩
      · replace c10 := Bool.eq_false_iff.mpr c10
        subst c10
        have H1 : (some false) = some r := by rw [if_neg (show ¬ (false = true) by decide)] at H; exact H
        clear H
        have H := H1
        clear H1
        obtain rfl := Option.some.inj H
        go_enter Try.func9, Try.ntmps9
        go_wp2_with (first | ((with_reducible refine gate_builtin (b := .append) (xs := #[.tmp 14, .tmp 15]) rfl ?_); at_builtin; refine Kd.R_append_rows (Kd.int .u8) (w0 := w) w.heap.size rfl (.tmp 14) (.tmp 15) 27 5 (.int .u8 0) 1 rfl Try.underlying27 info5 rfl (by decide) (by omega) (.slice none 0 0) ([] : List Int) l0 _ _ _ (fun _ => True) (fun _ => False) rfl rfl ?aO ?aR (fun _ _ h => h) (fun _ h => h.elim) ?aF ?aB ?aS ?aL ?_; (case aR => repeat (first | exact HR0.out | (with_reducible refine Kd.C_alloc ?_ _) | (with_reducible refine Kd.C_drewN ?_ _) | (with_reducible refine Kd.C_drew ?_))); (case aB => exact (by repeat (first | (with_reducible first | exact HB.out | apply below_alloc | apply pw_below_drewN | apply below_drew1) | exact HB.out))); (case aF => exact (fun _ _ => trivial)); (case aO => exact ((Kd.R_nil _ _ _ _ (fun _ => True)))); (case aS => exact (below_size (by repeat (first | (with_reducible first | exact HB.out | apply below_alloc | apply pw_below_drewN | apply below_drew1) | exact HB.out)))); (case aL => have := LMc6.out; omega); intro v312 w34 ho hb hg hat; rw [← Ny311.out] at ho; have n0_ := Aside0.mk (hb); have n1_ := Aside0.mk (ho); clear HB; have HB := n0_; have HO313 := n1_; clear n0_ n1_; clear ho hb hg hat; obtain ⟨Ao35, co35, eo35⟩ := Kd.R_slice HO313.out; subst eo35) | ((with_reducible refine gate_callee (f := 25) rfl ?_); refine goesL_ (some 20) rfl rfl Try.func25 (by kernel_rfl) rfl #[.slice Ao35 y311.length co35, .int .i64 a1] rfl (by (try simp only [List.map_toArray, List.map_cons, List.map_nil]); first | done | rfl | (simp only [List.length_drop, List.length_take]; rfl)) ?_; (with_reducible refine (batch_Move.calls k _ _ y311 a1 t314 t315 _ ?side1 ?side2 A7.out).mono ?_); (case side1 => repeat (first | exact (Kd.R_reads' HO313.out).2.2 | (with_reducible refine Kd.C_alloc ?_ _) | (with_reducible refine Kd.C_drewN ?_ _) | (with_reducible refine Kd.C_drew ?_))); (case side2 => exact (Kd.R_reads' HO313.out).2.1); rintro e w36 ⟨v316, rfl, ho0, hb⟩; refine ⟨_, rfl, ?_⟩; have n0_ := Aside0.mk (Kd.R_elder' (by (with_reducible repeat (first | apply Kd.R_alloc | apply Kd.R_drewN | apply Kd.R_drew)); exact HO313.out) (Kd.R_base ho0) hb); have n1_ := Aside0.mk (Kd.R_lower (Kd.R_new' ho0 (Kd.R_lt (by (with_reducible repeat (first | apply Kd.R_alloc | apply Kd.R_drewN | apply Kd.R_drew)); exact HO313.out))) (below_size (by repeat (first | (with_reducible first | exact HB.out | apply below_alloc | apply pw_below_drewN | apply below_drew1) | exact HB.out)))); have n2_ := Aside0.mk (below_step (by repeat (first | (with_reducible first | exact HB.out | apply below_alloc | apply pw_below_drewN | apply below_drew1) | exact HB.out)) hb); clear HO313; clear HB; have HO313 := n0_; have HO317 := n1_; have HB := n2_; clear n0_ n1_ n2_; (try clear hb); (try clear hb2); (try clear hk); (try clear hi); (try clear ho0)) | ((with_reducible refine gate_callee (f := 26) rfl ?_); refine goesL_ (some 26) rfl rfl Try.func26 (by kernel_rfl) rfl #[.slice A0 l0.length c0, .int .i64 a1] rfl (by (try simp only [List.map_toArray, List.map_cons, List.map_nil]); first | done | rfl | (simp only [List.length_drop, List.length_take]; rfl)) ?_; (with_reducible refine (bollardref12_Move.calls k _ _ l0 a1 t318 t319 _ ?side1 ?side2 A8.out).mono ?_); (case side1 => repeat (first | exact (Kd.C_below HR0.out HB.out) | (with_reducible refine Kd.C_alloc ?_ _) | (with_reducible refine Kd.C_drewN ?_ _) | (with_reducible refine Kd.C_drew ?_))); (case side2 => exact HC0.out); rintro e w37 ⟨v320, rfl, ho0, hb⟩; refine ⟨_, rfl, ?_⟩; have n0_ := Aside0.mk (Kd.R_elder' (by (with_reducible repeat (first | apply Kd.R_alloc | apply Kd.R_drewN | apply Kd.R_drew)); exact HO313.out) (Kd.R_base ho0) hb); have n1_ := Aside0.mk (Kd.R_elder' (by (with_reducible repeat (first | apply Kd.R_alloc | apply Kd.R_drewN | apply Kd.R_drew)); exact HO317.out) (Kd.R_base ho0) hb); have n2_ := Aside0.mk (Kd.R_lower (Kd.R_new' (Kd.R_new' ho0 (Kd.R_lt (by (with_reducible repeat (first | apply Kd.R_alloc | apply Kd.R_drewN | apply Kd.R_drew)); exact HO313.out))) (Kd.R_lt (by (with_reducible repeat (first | apply Kd.R_alloc | apply Kd.R_drewN | apply Kd.R_drew)); exact HO317.out))) (below_size (by repeat (first | (with_reducible first | exact HB.out | apply below_alloc | apply pw_below_drewN | apply below_drew1) | exact HB.out)))); have n3_ := Aside0.mk (below_step (by repeat (first | (with_reducible first | exact HB.out | apply below_alloc | apply pw_below_drewN | apply below_drew1) | exact HB.out)) hb); clear HO313; clear HO317; clear HB; have HO313 := n0_; have HO317 := n1_; have HO321 := n2_; have HB := n3_; clear n0_ n1_ n2_ n3_; (try clear hb); (try clear hb2); (try clear hk); (try clear hi); (try clear ho0); obtain ⟨Ao38, co38, eo38⟩ := Kd.R_slice HO317.out; subst eo38; obtain ⟨Ao39, co39, eo39⟩ := Kd.R_slice HO321.out; subst eo39) | ((with_reducible refine gate_callee (f := 15) rfl ?_); refine goesL_ (some 31) rfl rfl Try.func15 (by kernel_rfl) rfl #[.slice Ao38 t314.length co38, .slice Ao39 t318.length co39] rfl (by (try simp only [List.map_toArray, List.map_cons, List.map_nil]); first | done | rfl | (simp only [List.length_drop, List.length_take]; rfl)) ?_; (with_reducible refine (bollardalike_Bytes.calls k _ _ t314 _ _ t318 false _ ?side1 ?side2 ?side3 ?side4 A9.out).mono ?_); (case side1 => repeat (first | exact (Kd.R_reads' HO317.out).2.2 | (with_reducible refine Kd.C_alloc ?_ _) | (with_reducible refine Kd.C_drewN ?_ _) | (with_reducible refine Kd.C_drew ?_))); (case side2 => exact (Kd.R_reads' HO317.out).2.1); (case side3 => repeat (first | exact (Kd.R_reads' HO321.out).2.2 | (with_reducible refine Kd.C_alloc ?_ _) | (with_reducible refine Kd.C_drewN ?_ _) | (with_reducible refine Kd.C_drew ?_))); (case side4 => exact (Kd.R_reads' HO321.out).2.1); rintro e w' ⟨rfl, ⟨nd, rfl⟩⟩; refine ⟨_, rfl, ?_⟩))
        go_ret
        exact ⟨by first | rfl | (simp [errW_none, errW_some] <;> rfl) | (simp [*, errW_none, errW_some] <;> rfl), by repeat (first | (with_reducible first | exact HB.out | apply below_alloc | apply pw_below_drewN | apply below_drew1) | exact HB.out)⟩
    · rw [if_neg c6] at H
      exact absurd H (by simp)

/-- THE ONE PURE STATEMENT of bollardlaw13_BatchMoves: yours. -/
def bollardlaw13_BatchMoves.Pure : Prop := ∀ (l0 : List Int) (a1 : Int), l0.length ≤ maxLen → l0.length * 1 ≤ 140737488351232 → (∀ x ∈ l0, (Lit.int .u8 x).wf = true) → (Lit.int .i64 a1).wf = true → ∃ k, bollardlaw13_BatchMoves.f k l0 a1 = some true
theorem bollardlaw13_BatchMoves.walk (P : bollardlaw13_BatchMoves.Pure) (a0 : Option Addr) (len0 cap0 : Nat) (z0 : List Int) (a1 : Int) (w : World) (w0 : (a0 = none ∧ len0 = 0 ∧ cap0 = 0 ∧ z0 = []) ∨ ∃ x, a0 = some x ∧ len0 ≤ cap0 ∧ cap0 ≤ maxLen ∧ z0.length = cap0 ∧ (∀ i, i < z0.length → w.cell? (x.add i) = some (.int .u8 (z0.getD i 0))) ∧ ∀ n ∈ z0, (Lit.int .u8 n).wf = true) (y0 : len0 * 1 ≤ 140737488351232) (w1 : (Lit.int .i64 a1).wf = true) :
    Calls Try.prog 9 #[.slice a0 len0 cap0, .int .i64 a1] w fun e w' => e = .returned (.bool true) ∧ Below w.heap.size w w' := by
  obtain ⟨l0, rfl, hr0, hm0, hw0, hc0⟩ := ReadsInt.ofRowC w0
  obtain ⟨k, h⟩ := P l0 a1 hm0 y0 hw0 w1
  refine (bollardlaw13_BatchMoves.calls k _ _ l0 a1 true w (Kd.C_of_reads (d := (0 : Int)) (h1 := fun _ => rfl) hr0) hc0 h).mono ?_
  rintro e w' ⟨rfl, hd⟩
  exact ⟨rfl, hd⟩

end Go.Proofs.Ytgmeellapjimgaa.PBm

/- Plain facts on whole numbers as Go tells them: digits laid over one another, shifts, groups of seven, bytes of a number. No program in sight. -/
namespace Go.Proofs.Ytgmeellapjimgaa.Bp
open Go Go.RowKit Go.Proofs.YtgmeellapjimgaaW.PrintWords Go.Proofs.YtgmeellapjimgaaW.PrintLast Go.Proofs.YtgmeellapjimgaaW.PrintMore
set_option linter.unusedVariables false
set_option linter.unusedSimpArgs false

/-! one byte -/
set_option maxRecDepth 20000 in
theorem nat_or128 : ∀ n, n < 256 → n ||| 128 = n % 128 + 128 := by decide
set_option maxRecDepth 20000 in
theorem nat_and127 : ∀ n, n < 256 → n &&& 127 = n % 128 := by decide
theorem or128 (x : Int) : Go.bits .or .u8 (x % 256) 128 = x % 128 + 128 := by
  rw [u8_or _ _ (by omega) (by omega) (by omega) (by omega)]
  have := nat_or128 (x % 256).toNat (by omega)
  rw [show ((128 : Int)).toNat = 128 from rfl, this]
  omega
theorem and127 {x : Int} (h : 0 ≤ x ∧ x < 256) : Go.bits .and .u8 x 127 = x % 128 := by
  rw [u8_and _ _ (by omega) (by omega) (by omega) (by omega)]
  have := nat_and127 x.toNat (by omega)
  rw [show ((127 : Int)).toNat = 127 from rfl, this]
  omega
theorem u8_and1 {x : Int} (h : 0 ≤ x ∧ x < 256) : Go.bits .and .u8 x 1 = x % 2 := by
  rw [u8_and _ _ (by omega) (by omega) (by omega) (by omega)]
  rw [show ((1 : Int)).toNat = 1 from rfl, Nat.and_one_is_mod]
  omega

/-! words of 64 digits -/
theorem u64_and127 {x : Int} (h : 0 ≤ x ∧ x < 18446744073709551616) : Go.bits .and .u64 x 127 = x % 128 := by
  rw [u64_and _ _ (by omega) (by omega) (by omega) (by omega)]
  have := Nat.and_two_pow_sub_one_eq_mod x.toNat 7
  rw [show ((127 : Int)).toNat = 2 ^ 7 - 1 from rfl, this]
  omega
theorem u64_and1 {x : Int} (h : 0 ≤ x ∧ x < 18446744073709551616) : Go.bits .and .u64 x 1 = x % 2 := by
  rw [u64_and _ _ (by omega) (by omega) (by omega) (by omega)]
  rw [show ((1 : Int)).toNat = 1 from rfl, Nat.and_one_is_mod]
  omega
theorem u64_or128 {x : Int} (h : 0 ≤ x ∧ x < 128) : Go.bits .or .u64 x 128 = x + 128 := by
  rw [u64_or _ _ (by omega) (by omega) (by omega) (by omega)]
  have := nat_or128 x.toNat (by omega)
  rw [show ((128 : Int)).toNat = 128 from rfl, this]
  omega
/-- Digits above those of a smaller number. -/
theorem u64_or_add {v x : Int} (i : Nat) (h0 : 0 ≤ v) (h1 : v < 2 ^ i) (h2 : 0 ≤ x) (h3 : v + x * 2 ^ i < 18446744073709551616) : Go.bits .or .u64 v (x * 2 ^ i) = v + x * 2 ^ i := by
  obtain ⟨a, rfl⟩ := Int.eq_ofNat_of_zero_le h0
  obtain ⟨b, rfl⟩ := Int.eq_ofNat_of_zero_le h2
  have e : ((b : Int) * 2 ^ i) = ((2 ^ i * b : Nat) : Int) := by push_cast; rw [Int.mul_comm]
  rw [e] at h3 ⊢
  have ha : a < 2 ^ i := by exact_mod_cast h1
  rw [u64_or_nat _ _ (by omega) (by omega), Nat.or_comm, ← Nat.two_pow_add_eq_or_of_lt ha b]
  push_cast
  omega
theorem i64_and7 {x : Int} (h : 0 ≤ x) (h2 : x ≤ 9223372036854775807) : Go.bits .and .i64 x 7 = x % 8 := by
  obtain ⟨a, rfl⟩ := Int.eq_ofNat_of_zero_le h
  have e7 : (7 : Int) = ((7 : Nat) : Int) := rfl
  show IntKind.i64.wrap ((BitVec.ofInt 64 (a : Int) &&& BitVec.ofInt 64 (7 : Int)).toNat : Int) = _
  rw [e7, BitVec.ofInt_natCast, BitVec.ofInt_natCast, BitVec.toNat_and, BitVec.toNat_ofNat, BitVec.toNat_ofNat, Nat.mod_eq_of_lt (by omega), Nat.mod_eq_of_lt (by omega)]
  have := Nat.and_two_pow_sub_one_eq_mod a 3
  rw [show (7 : Nat) = 2 ^ 3 - 1 from rfl, this]
  have h8 : a % 2 ^ 3 < 8 := Nat.mod_lt _ (by omega)
  rw [i64_w]
  unfold wrap64
  omega

theorem w64 {x : Int} (h : -9223372036854775808 ≤ x) (h2 : x ≤ 9223372036854775807) : wrap64 x = x := by unfold wrap64; omega
theorem u64_id {x : Int} (h : 0 ≤ x) (h2 : x < 18446744073709551616) : IntKind.u64.wrap x = x := by rw [IntKind.wrap_u64]; omega
theorem up64 (i : Nat) (h : i ≤ 4000000000000000000) : wrap64 ((i : Int) + 1) = ((i + 1 : Nat) : Int) := by unfold wrap64; omega
theorem wf8 {x : Int} (h : (Lit.int .u8 x).wf = true) : 0 ≤ x ∧ x < 256 := by
  simp only [Lit.wf, IntKind.min, IntKind.max, IntKind.signed, IntKind.bits] at h
  simp at h
  omega
theorem wf64 {x : Int} (h : (Lit.int .u64 x).wf = true) : 0 ≤ x ∧ x < 18446744073709551616 := by
  simp only [Lit.wf, IntKind.min, IntKind.max, IntKind.signed, IntKind.bits] at h
  simp at h
  omega
theorem wfi {x : Int} (h : (Lit.int .i64 x).wf = true) : -9223372036854775808 ≤ x ∧ x ≤ 9223372036854775807 := by
  simp only [Lit.wf, IntKind.min, IntKind.max, IntKind.signed, IntKind.bits] at h
  simp at h
  omega
def Bytes (l : List Int) : Prop := ∀ x ∈ l, 0 ≤ x ∧ x < 256
theorem bytes_of {l : List Int} (h : ∀ x ∈ l, (Lit.int .u8 x).wf = true) : Bytes l := fun x hx => wf8 (h x hx)
theorem rd_at {l : List Int} {i : Nat} (h : i < l.length) : rd l (i : Int) = l[i] := by
  unfold rd
  rw [Int.toNat_natCast, List.getD_eq_getElem?_getD, List.getElem?_eq_getElem h]
  rfl
theorem rd_byte {l : List Int} (h : Bytes l) (i : Int) : 0 ≤ rd l i ∧ rd l i < 256 := by
  unfold rd
  rw [List.getD_eq_getElem?_getD]
  cases e : l[i.toNat]? with
  | none => simp
  | some x => exact h x (List.mem_of_getElem? e)
theorem drop_cons {l : List Int} {i : Nat} (h : i < l.length) : l.drop i = rd l (i : Int) :: l.drop (i + 1) := by
  rw [rd_at h, List.drop_eq_getElem_cons h]

/-! groups of seven digits -/
def vr (v : Nat) : List Int := if h : v < 128 then [(v : Int)] else ((v % 128 + 128 : Nat) : Int) :: vr (v / 128)
termination_by v
decreasing_by omega
theorem vr_small {v : Nat} (h : v < 128) : vr v = [(v : Int)] := by rw [vr, dif_pos h]
theorem vr_big {v : Nat} (h : ¬ v < 128) : vr v = ((v % 128 + 128 : Nat) : Int) :: vr (v / 128) := by rw [vr, dif_neg h]

/-- What a group adds. -/
def put7 (v x : Int) (i : Nat) : Int := Go.bits .or .u64 v (shl .u64 (IntKind.u64.wrap (Go.bits .and .u8 x 127)) (wrap64 (7 * (i : Int))))
/-- Bytes read as groups: from the i-th on, v read so far. -/
def unv : List Int → Nat → Int → Int × Int
  | [], _, _ => (0, 0)
  | x :: xs, i, v => if i = 10 ∨ (i = 9 ∧ x > 1) ∨ (0 < i ∧ x = 0) then (0, 0) else if x < 128 then (put7 v x i, (i : Int) + 1) else unv xs (i + 1) (put7 v x i)

theorem put7_add {v x : Int} {i : Nat} (hi : i ≤ 9) (hx : 0 ≤ x ∧ x < 256) (h9 : i = 9 → x % 128 ≤ 1) (h0 : 0 ≤ v) (h1 : v < 128 ^ i) : put7 v x i = v + (x % 128) * 128 ^ i := by
  unfold put7
  rw [and127 hx, u64_id (by omega) (by omega), w64 (by omega) (by omega)]
  unfold shl
  have hb : min (7 * (i : Int)).toNat IntKind.u64.bits = 7 * i := by
    simp only [IntKind.bits]; omega
  rw [hb]
  have hp : (128 : Int) ^ i = 2 ^ (7 * i) := by rw [Int.pow_mul]; rfl
  rw [hp] at h1 ⊢
  have hlt : v + x % 128 * 2 ^ (7 * i) < 18446744073709551616 := by
    have hc : i = 0 ∨ i = 1 ∨ i = 2 ∨ i = 3 ∨ i = 4 ∨ i = 5 ∨ i = 6 ∨ i = 7 ∨ i = 8 ∨ i = 9 := by omega
    rcases hc with h | h | h | h | h | h | h | h | h | h <;> subst h <;> simp at h1 ⊢ <;> omega
  have hnn : (0 : Int) ≤ x % 128 * 2 ^ (7 * i) := Int.mul_nonneg (by omega) (Int.pow_nonneg (by decide))
  rw [u64_id hnn (by omega)]
  exact u64_or_add (7 * i) h0 h1 (by omega) hlt

end Go.Proofs.Ytgmeellapjimgaa.Bp

/- Numbers of some bytes: plain facts. A number's bytes, greatest first (beL) or as they are laid into a row (lay); what bytes come to (be). -/
namespace Go.Proofs.Ytgmeellapjimgaa.Bp
open Go Go.RowKit Go.Proofs.YtgmeellapjimgaaW.PrintWords Go.Proofs.YtgmeellapjimgaaW.PrintLast Go.Proofs.YtgmeellapjimgaaW.PrintMore
set_option linter.unusedVariables false
set_option linter.unusedSimpArgs false

theorem u64_shl_or {v b : Int} (h0 : 0 ≤ v) (hb : 0 ≤ b ∧ b < 256) (h : v * 256 + b < 18446744073709551616) : Go.bits .or .u64 (v * 256) b = v * 256 + b := by
  obtain ⟨a, rfl⟩ := Int.eq_ofNat_of_zero_le h0
  obtain ⟨c, rfl⟩ := Int.eq_ofNat_of_zero_le hb.1
  have e : ((a : Int) * 256) = ((2 ^ 8 * a : Nat) : Int) := by omega
  rw [e] at h ⊢
  rw [u64_or_nat _ _ (by omega) (by omega), ← Nat.two_pow_add_eq_or_of_lt (show c < 2 ^ 8 from by omega) a]
  omega

/-- The j-th byte of a number, the least one first. -/
def dg (v j : Nat) : Int := ((v / 256 ^ j % 256 : Nat) : Int)
theorem dg_byte (v j : Nat) : 0 ≤ dg v j ∧ dg v j < 256 := by unfold dg; omega
theorem dg_shr (v j : Nat) (hj : j ≤ 7) : (shr .u64 (v : Int) (8 * (j : Int))) % 256 = dg v j := by
  unfold shr dg
  simp only [IntKind.bits]
  rw [show min (8 * (j : Int)).toNat 64 = 8 * j from by omega]
  have hp : (2 : Int) ^ (8 * j) = ((256 ^ j : Nat) : Int) := by rw [Int.pow_mul, Int.natCast_pow]; rfl
  rw [hp, Int.natCast_emod, Int.natCast_ediv]
  rfl

/-- What bytes come to, the greatest first. -/
def be (l : List Int) : Int := l.foldl (fun v b => v * 256 + b) 0
theorem be_from (l : List Int) : ∀ v : Int, l.foldl (fun v b => v * 256 + b) v = v * 256 ^ l.length + be l := by
  induction l with
  | nil => intro v; simp [be]
  | cons b l ih =>
    intro v
    unfold be
    rw [List.foldl_cons, List.foldl_cons, ih, ih (0 * 256 + b), List.length_cons, Int.pow_succ, Int.add_mul, Int.mul_assoc, Int.mul_comm 256, Int.zero_mul, Int.zero_add, Int.add_assoc]
theorem be_nil : be [] = 0 := rfl
theorem be_append (l m : List Int) : be (l ++ m) = be l * 256 ^ m.length + be m := by
  unfold be
  rw [List.foldl_append]
  exact be_from m _
theorem be_snoc (l : List Int) (b : Int) : be (l ++ [b]) = be l * 256 + b := by unfold be; rw [List.foldl_append]; rfl
theorem be_cons (b : Int) (l : List Int) : be (b :: l) = b * 256 ^ l.length + be l := by
  have := be_append [b] l
  simpa [be] using this
theorem be_range (l : List Int) (h : Bytes l) : 0 ≤ be l ∧ be l < 256 ^ l.length := by
  induction l with
  | nil => exact ⟨by rw [be_nil]; omega, by rw [be_nil]; simp⟩
  | cons b l ih =>
    have h1 := ih (fun x hx => h x (by simp [hx]))
    have h2 := h b (by simp)
    have hp : (0 : Int) < 256 ^ l.length := Int.pow_pos (by decide)
    rw [be_cons, List.length_cons, Int.pow_succ, Int.mul_comm _ 256]
    have l1 : 0 * 256 ^ l.length ≤ b * 256 ^ l.length := Int.mul_le_mul_of_nonneg_right (by omega) (by omega)
    have l2 : b * 256 ^ l.length ≤ 255 * 256 ^ l.length := Int.mul_le_mul_of_nonneg_right (by omega) (by omega)
    constructor <;> omega
theorem pow256_le {a b : Nat} (h : a ≤ b) : (256 : Int) ^ a ≤ 256 ^ b := by
  obtain ⟨c, rfl⟩ := Nat.exists_eq_add_of_le h
  rw [Int.pow_add]
  have h1 : (0 : Int) < 256 ^ a := Int.pow_pos (by decide)
  have h2 : (0 : Int) < 256 ^ c := Int.pow_pos (by decide)
  have : (256 : Int) ^ a * 1 ≤ 256 ^ a * 256 ^ c := Int.mul_le_mul_of_nonneg_left (by omega) (by omega)
  omega

/-- A number's bytes, the greatest first. -/
def beL (v : Nat) : Nat → List Int
  | 0 => []
  | n + 1 => dg v n :: beL v n
theorem beL_length (v n : Nat) : (beL v n).length = n := by
  induction n with
  | zero => rfl
  | succ n ih => rw [beL, List.length_cons, ih]
theorem beL_bytes (v n : Nat) : Bytes (beL v n) := by
  induction n with
  | zero => intro x hx; simp [beL] at hx
  | succ n ih =>
    intro x hx
    rcases List.mem_cons.1 hx with rfl | hx
    · exact dg_byte v n
    · exact ih x hx
theorem beL_get (v n p : Nat) (h : p < n) : (beL v n)[p]? = some (dg v (n - 1 - p)) := by
  induction n generalizing p with
  | zero => omega
  | succ n ih =>
    rw [beL]
    cases p with
    | zero => simp
    | succ p => rw [List.getElem?_cons_succ, ih p (by omega), show n - 1 - p = n + 1 - 1 - (p + 1) from by omega]
theorem be_beL (v n : Nat) : be (beL v n) = ((v % 256 ^ n : Nat) : Int) := by
  induction n with
  | zero => simp [beL, be_nil, Nat.mod_one]
  | succ n ih =>
    rw [beL, show dg v n :: beL v n = [dg v n] ++ beL v n from rfl, be_append, ih, beL_length, Nat.pow_succ, Nat.mod_mul]
    unfold dg
    have : be [((v / 256 ^ n % 256 : Nat) : Int)] = ((v / 256 ^ n % 256 : Nat) : Int) := by simp [be]
    rw [this, Int.natCast_add, Int.natCast_mul, Int.natCast_pow, Int.mul_comm, Int.add_comm]
    rfl

/-- A row with n bytes of it, from place a on, laid anew. -/
def lay (l : List Int) (a n : Nat) (d : Nat → Int) : List Int := l.take a ++ ((List.range n).map d ++ l.drop (a + n))
theorem lay_length (l : List Int) (a n : Nat) (d : Nat → Int) (h : a + n ≤ l.length) : (lay l a n d).length = l.length := by
  unfold lay
  simp
  omega
theorem lay_get (l : List Int) (a n : Nat) (d : Nat → Int) (h : a + n ≤ l.length) (p : Nat) : (lay l a n d)[p]? = if a ≤ p ∧ p < a + n then some (d (p - a)) else l[p]? := by
  unfold lay
  by_cases h1 : p < a
  · rw [List.getElem?_append_left (by simp; omega), if_neg (by omega), List.getElem?_take_of_lt h1]
  · rw [List.getElem?_append_right (by simp; omega), List.length_take, Nat.min_eq_left (by omega)]
    by_cases h2 : p < a + n
    · rw [List.getElem?_append_left (by simp; omega), if_pos (by omega), List.getElem?_map, List.getElem?_range (by omega)]
      rfl
    · rw [List.getElem?_append_right (by simp; omega), if_neg (by omega), List.getElem?_drop, List.length_map, List.length_range]
      congr 1
      omega
theorem lay_eq {l m : List Int} {a n : Nat} {d : Nat → Int} (h : a + n ≤ l.length) (hm : ∀ p, m[p]? = if a ≤ p ∧ p < a + n then some (d (p - a)) else l[p]?) : m = lay l a n d := by
  apply List.ext_getElem?
  intro p
  rw [hm p, lay_get l a n d h p]
theorem lay_bytes (l : List Int) (a n : Nat) (d : Nat → Int) (hl : Bytes l) (hd : ∀ p, 0 ≤ d p ∧ d p < 256) : Bytes (lay l a n d) := by
  intro x hx
  unfold lay at hx
  rcases List.mem_append.1 hx with hx | hx
  · exact hl x (List.mem_of_mem_take hx)
  · rcases List.mem_append.1 hx with hx | hx
    · obtain ⟨p, _, rfl⟩ := List.mem_map.1 hx
      exact hd p
    · exact hl x (List.mem_of_mem_drop hx)
/-- What is read there. -/
theorem lay_seg (l : List Int) (a n : Nat) (d : Nat → Int) (h : a + n ≤ l.length) : ((lay l a n d).drop a).take n = (List.range n).map d := by
  unfold lay
  rw [List.drop_append_of_le_length (by simp; omega), List.drop_eq_nil_of_le (by simp; omega), List.nil_append, List.take_append_of_le_length (by simp), List.take_of_length_le (by simp)]
/-- Which byte of a number stands at which place. -/
def wh (n : Nat) (big : Bool) (p : Nat) : Nat := if big = true then n - 1 - p else p
theorem range_big (v n : Nat) : (List.range n).map (fun p => dg v (wh n true p)) = beL v n := by
  apply List.ext_getElem?
  intro p
  by_cases h : p < n
  · rw [beL_get v n p h]
    simp [h, wh]
  · rw [List.getElem?_eq_none (by simp; omega), List.getElem?_eq_none (by rw [beL_length]; omega)]
theorem range_little (v n : Nat) : (List.range n).map (fun p => dg v (wh n false p)) = (beL v n).reverse := by
  apply List.ext_getElem?
  intro p
  by_cases h : p < n
  · rw [List.getElem?_reverse (by rw [beL_length]; omega), beL_length, beL_get v n _ (by omega)]
    simp [h, wh]
    congr 1
    omega
  · rw [List.getElem?_eq_none (by simp; omega), List.getElem?_eq_none (by rw [List.length_reverse, beL_length]; omega)]
/-- A number that is read: of so many bytes from place a on, the greatest first or last. -/
def get (l : List Int) (a n : Nat) (big : Bool) : Int := be (if big = true then (l.drop a).take n else ((l.drop a).take n).reverse)
theorem seg_bytes {l : List Int} (h : Bytes l) (a n : Nat) : Bytes ((l.drop a).take n) := fun x hx => h x (List.mem_of_mem_drop (List.mem_of_mem_take hx))
theorem rev_bytes {l : List Int} (h : Bytes l) : Bytes l.reverse := fun x hx => h x (List.mem_reverse.1 hx)
theorem get_range {l : List Int} (h : Bytes l) (a n : Nat) (big : Bool) : 0 ≤ get l a n big ∧ get l a n big < 256 ^ n := by
  unfold get
  have hb := seg_bytes h a n
  have hl : ((l.drop a).take n).length ≤ n := by simp; omega
  have := pow256_le hl
  split
  · have := be_range _ hb
    omega
  · have := be_range _ (rev_bytes hb)
    rw [List.length_reverse] at this
    omega
theorem get_lay (l : List Int) (a n v : Nat) (big : Bool) (h : a + n ≤ l.length) : get (lay l a n (fun p => dg v (wh n big p))) a n big = ((v % 256 ^ n : Nat) : Int) := by
  unfold get
  rw [lay_seg l a n _ h]
  cases big with
  | true => rw [if_pos rfl, range_big, be_beL]
  | false => rw [if_neg (by simp), range_little, List.reverse_reverse, be_beL]

end Go.Proofs.Ytgmeellapjimgaa.Bp
