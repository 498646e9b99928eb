-- written by a program of this session (wip/tools/pr.py, over the kit's printer): not by hand
import Derived.Test.YtgmeellapjimgaaQPBdx2
import Derived.Test.YtgmeellapjimgaaQPBdx5
import Derived.Test.YtgmeellapjimgaaQPBdx9
import Derived.Test.YtgmeellapjimgaaQPBdx12
import Derived.Test.YtgmeellapjimgaaQPBdx14
import Derived.Laws.BitsAllLaws
import Derived.RowKit
import Derived.Test.YtgmeellapjimgaaQWMore
import Derived.Laws.Entries
import Derived.Test.YtgmeellapjimgaaQPBdx4
import Derived.Test.YtgmeellapjimgaaQPBdx3
namespace Go.Proofs.Ytgmeellapjimgaa.PBd
open Go.RowKit Go.Proofs.YtgmeellapjimgaaW.PrintWords Go.Proofs.YtgmeellapjimgaaW.PrintLast Go.Proofs.YtgmeellapjimgaaW.PrintMore
attribute [local go_sem] max2_int min2_int max_two min_two max_three min_three max_four min_four   -- for this text's walks alone
set_option linter.unusedVariables false
set_option linter.unusedSimpArgs false

/-! ### bollardref12_huge -/
def bollardref12_hugeG.no (l : List Int) (n p q : Int) : Prop := 9223372036854775808 ≤ p ∨ 9223372036854775808 ≤ q ∨ (p ≤ 4611686018427387904 ∧ q ≤ 4611686018427387904) ∨ n < 36 ∨ (l.length : Int) - 12 < n ∨ 6000 < n
instance (l : List Int) (n p q : Int) : Decidable (bollardref12_hugeG.no l n p q) := by unfold bollardref12_hugeG.no; infer_instance
def bollardref12_hugeG.bad : Option (Int × Int × Int × Int × List S45 × Int × Int) := some (0, 0, 0, 0, [], 0, 10)
def bollardref12_hugeG.f (S_ : Nat → List Int → Int → Option (Int × Int × Int × Int × List S45 × Int × Int)) (k : Nat) (l : List Int) (a1 n p q : Int) : Option (Int × Int × Int × Int × List S45 × Int × Int) :=
  if 12 ≤ (l.length : Int) ∧ 0 ≤ n ∧ 0 ≤ p ∧ 0 ≤ q then (if bollardref12_hugeG.no l n p q then bollardref12_hugeG.bad else (S_ k l n).bind fun x => if x.2.2.2.2.2.2 = 0 then (bollardref12_EncodeBatch.f k x.1 x.2.1 (wrap64 p) (wrap64 q) x.2.2.2.2.1).bind fun t => if t.2 = 0 then (if 0 ≤ x.2.2.2.2.2.1 ∧ x.2.2.2.2.2.1 ≤ (l.length : Int) then (if (strOfNums t.1).toList = (strOfNums (l.take x.2.2.2.2.2.1.toNat)).toList then some (x.1, x.2.1, wrap64 p, wrap64 q, x.2.2.2.2.1, x.2.2.2.2.2.1, 0) else bollardref12_hugeG.bad) else none) else bollardref12_hugeG.bad else bollardref12_hugeG.bad) else none
theorem bollardref12_hugeG.mono (S_ : Nat → List Int → Int → Option (Int × Int × Int × Int × List S45 × Int × Int)) (SM_ : ∀ a0 a1 k, LeO (S_ k a0 a1) (S_ (k + 1) a0 a1)) : ∀ a0 a1 a2 a3 a4 k, LeO (bollardref12_hugeG.f S_ k a0 a1 a2 a3 a4) (bollardref12_hugeG.f S_ (k + 1) a0 a1 a2 a3 a4) := by
  intro l a1 n p q k
  unfold bollardref12_hugeG.f
  repeat' first | (with_reducible exact LeO.refl _) | (with_reducible exact SM_ _ _ _) | (with_reducible exact bollardref12_EncodeBatch.mono _ _ _ _ _ _) | (with_reducible refine LeO.ite ?_ ?_) | (with_reducible refine LeO.bind ?_ (fun _ => ?_))
set_option maxHeartbeats 4000000 in
set_option maxRecDepth 100000 in
theorem bollardref12_hugeG.calls (k : Nat) (A : Option Addr) (c : Nat) (l : List Int) (a1 n p q : Int) (w : World) (hr : Kd.C (Kd.int .u8) w A l.length l) (hc : l.length ≤ c) (S_ : Nat → List Int → Int → Option (Int × Int × Int × Int × List S45 × Int × Int)) (SC_ : Aside0 (∀ (k : Nat) (A : Option Addr) (c : Nat) (l : List Int) (a1 : Int) (r1 r2 r3 r4 : Int) (r5 : List S45) (r6 r7 : Int) (w : World) (hr0 : Kd.C (Kd.int .u8) w A l.length l) (hc0 : l.length ≤ c) (h : S_ k l a1 = some (r1, r2, r3, r4, r5, r6, r7)), Calls Try.prog 54 #[.slice A l.length c, .int .i64 a1] w fun e w' => ∃ v4_ : Value, e = .returned (.tuple #[.agg #[.int .i64 r1, .int .i64 r2, .int .i64 r3, .int .i64 r4, v4_], .int .i64 r6, .int .i64 r7]) ∧ Kd.R k45 45 w' w.heap.size (fun _ => True) v4_ r5 ∧ Below w.heap.size w w')) (r1 r2 r3 r4 : Int) (r5 : List S45) (r6 r7 : Int) (h : bollardref12_hugeG.f S_ k l a1 n p q = some (r1, r2, r3, r4, r5, r6, r7)) :
    Calls Try.prog 39 #[.slice A l.length c, .int .u64 a1, .int .u64 n, .int .u64 p, .int .u64 q] w fun e w' => ∃ v4_ : Value, e = .returned (.tuple #[.agg #[.int .i64 r1, .int .i64 r2, .int .i64 r3, .int .i64 r4, v4_], .int .i64 r6, .int .i64 r7]) ∧ Kd.R k45 45 w' w.heap.size (fun _ => True) v4_ r5 ∧ Below w.heap.size w w' := by
  unfold bollardref12_hugeG.f at h
  by_cases e0 : 12 ≤ (l.length : Int) ∧ 0 ≤ n ∧ 0 ≤ p ∧ 0 ≤ q
  case neg => rw [if_neg e0] at h; cases h
  rw [if_pos e0] at h
  obtain ⟨l12, n0, p0, q0⟩ := e0
  have hlm : (l.length : Int) ≤ 9223372036854775807 := by have := hr.2.1; omega
  have hu : IntKind.u64.wrap ((l.length : Int) - 12) = (l.length : Int) - 12 := by rw [IntKind.wrap_u64]; omega
  obtain ⟨bb, hbb⟩ : ∃ bb, bb = decide (bollardref12_hugeG.no l n p q) := ⟨_, rfl⟩
  have HBB := Aside0.mk hbb
  have HH := Aside0.mk h
  have HR := Aside0.mk hr
  have HC := Aside0.mk hc
  clear hr hc h hbb
  go_enter Try.func39, Try.ntmps39
  go_upto_region 2 with (fail)
  (try simp only [Act.put, List.setIfInBounds_toArray, List.set_cons_zero, List.set_cons_succ])
  have Z2 := Aside0.mk (db_new w)
  generalize (w.alloc (.cells #[.int .i64 0, .int .i64 0, .int .i64 0, .int .i64 0, .slice none 0 0] 24)).alloc (.cells #[.int .i64 0, .int .i64 0, .int .i64 0, .int .i64 0, .slice none 0 0] 24) = W0 at Z2 ⊢
  go_cut [48] (fun v48 wc => v48 = .bool bb ∧ wc = W0)
  case first =>
    by_cases dp : 9223372036854775808 ≤ p
    · have fp : decide (9223372036854775808 ≤ p) = true := decide_eq_true dp
      have HD := Aside0.mk dp
      clear dp
      go_wp2
      go_meet
      case rel => exact ⟨congrArg Value.bool (by rw [HBB.out]; exact (decide_eq_true (by have h_ := HD.out; unfold bollardref12_hugeG.no; omega)).symm), rfl⟩
    · have fp : decide (9223372036854775808 ≤ p) = false := decide_eq_false dp
      by_cases dq : 9223372036854775808 ≤ q
      · have fq : decide (9223372036854775808 ≤ q) = true := decide_eq_true dq
        have HD := Aside0.mk (And.intro dp dq)
        clear dp dq
        go_wp2
        go_meet
        case rel => exact ⟨congrArg Value.bool (by rw [HBB.out]; exact (decide_eq_true (by have h_ := HD.out; unfold bollardref12_hugeG.no; omega)).symm), rfl⟩
      · have fq : decide (9223372036854775808 ≤ q) = false := decide_eq_false dq
        by_cases dx : p ≤ 4611686018427387904
        · have fx : decide (p ≤ 4611686018427387904) = true := decide_eq_true dx
          by_cases dy : q ≤ 4611686018427387904
          · have fy : decide (q ≤ 4611686018427387904) = true := decide_eq_true dy
            have HD := Aside0.mk (And.intro dp (And.intro dq (And.intro dx dy)))
            clear dp dq dx dy
            go_wp2
            go_meet
            case rel => exact ⟨congrArg Value.bool (by rw [HBB.out]; exact (decide_eq_true (by have h_ := HD.out; unfold bollardref12_hugeG.no; omega)).symm), rfl⟩
          · have fy : decide (q ≤ 4611686018427387904) = false := decide_eq_false dy
            by_cases dn : n < 36
            · have fn : decide (n < 36) = true := decide_eq_true dn
              have HD := Aside0.mk (And.intro dp (And.intro dq (And.intro dx (And.intro dy dn))))
              clear dp dq dx dy dn
              go_wp2
              go_meet
              case rel => exact ⟨congrArg Value.bool (by rw [HBB.out]; exact (decide_eq_true (by have h_ := HD.out; unfold bollardref12_hugeG.no; omega)).symm), rfl⟩
            · have fn : decide (n < 36) = false := decide_eq_false dn
              by_cases dm : (l.length : Int) - 12 < n
              · have fm : decide ((l.length : Int) - 12 < n) = true := decide_eq_true dm
                have HD := Aside0.mk (And.intro dp (And.intro dq (And.intro dx (And.intro dy (And.intro dn dm)))))
                clear dp dq dx dy dn dm
                go_wp2
                go_meet
                case rel => exact ⟨congrArg Value.bool (by rw [HBB.out]; exact (decide_eq_true (by have h_ := HD.out; unfold bollardref12_hugeG.no; omega)).symm), rfl⟩
              · have fm : decide ((l.length : Int) - 12 < n) = false := decide_eq_false dm
                by_cases dk : 6000 < n
                · have fk : decide (6000 < n) = true := decide_eq_true dk
                  have HD := Aside0.mk (And.intro dp (And.intro dq (And.intro dx (And.intro dy (And.intro dn (And.intro dm dk))))))
                  clear dp dq dx dy dn dm dk
                  go_wp2
                  go_meet
                  case rel => exact ⟨congrArg Value.bool (by rw [HBB.out]; exact (decide_eq_true (by have h_ := HD.out; unfold bollardref12_hugeG.no; omega)).symm), rfl⟩
                · have fk : decide (6000 < n) = false := decide_eq_false dk
                  have HD := Aside0.mk (And.intro dp (And.intro dq (And.intro dx (And.intro dy (And.intro dn (And.intro dm dk))))))
                  clear dp dq dx dy dn dm dk
                  go_wp2
                  go_meet
                  case rel => exact ⟨congrArg Value.bool (by rw [HBB.out]; exact (decide_eq_false (by have h_ := HD.out; unfold bollardref12_hugeG.no; omega)).symm), rfl⟩
        · have fx : decide (p ≤ 4611686018427387904) = false := decide_eq_false dx
          by_cases dn : n < 36
          · have fn : decide (n < 36) = true := decide_eq_true dn
            have HD := Aside0.mk (And.intro dp (And.intro dq (And.intro dx dn)))
            clear dp dq dx dn
            go_wp2
            go_meet
            case rel => exact ⟨congrArg Value.bool (by rw [HBB.out]; exact (decide_eq_true (by have h_ := HD.out; unfold bollardref12_hugeG.no; omega)).symm), rfl⟩
          · have fn : decide (n < 36) = false := decide_eq_false dn
            by_cases dm : (l.length : Int) - 12 < n
            · have fm : decide ((l.length : Int) - 12 < n) = true := decide_eq_true dm
              have HD := Aside0.mk (And.intro dp (And.intro dq (And.intro dx (And.intro dn dm))))
              clear dp dq dx dn dm
              go_wp2
              go_meet
              case rel => exact ⟨congrArg Value.bool (by rw [HBB.out]; exact (decide_eq_true (by have h_ := HD.out; unfold bollardref12_hugeG.no; omega)).symm), rfl⟩
            · have fm : decide ((l.length : Int) - 12 < n) = false := decide_eq_false dm
              by_cases dk : 6000 < n
              · have fk : decide (6000 < n) = true := decide_eq_true dk
                have HD := Aside0.mk (And.intro dp (And.intro dq (And.intro dx (And.intro dn (And.intro dm dk)))))
                clear dp dq dx dn dm dk
                go_wp2
                go_meet
                case rel => exact ⟨congrArg Value.bool (by rw [HBB.out]; exact (decide_eq_true (by have h_ := HD.out; unfold bollardref12_hugeG.no; omega)).symm), rfl⟩
              · have fk : decide (6000 < n) = false := decide_eq_false dk
                have HD := Aside0.mk (And.intro dp (And.intro dq (And.intro dx (And.intro dn (And.intro dm dk)))))
                clear dp dq dx dn dm dk
                go_wp2
                go_meet
                case rel => exact ⟨congrArg Value.bool (by rw [HBB.out]; exact (decide_eq_false (by have h_ := HD.out; unfold bollardref12_hugeG.no; omega)).symm), rfl⟩
  case rest =>
    obtain ⟨rfl, rfl⟩ := hcut
    cases bb with
    | true =>
      have H := HH.out
      rw [if_pos (of_decide_eq_true HBB.out.symm)] at H
      unfold bollardref12_hugeG.bad at H
      simp only [Option.some.injEq, Prod.mk.injEq] at H
      obtain ⟨rfl, rfl, rfl, rfl, rfl, rfl, rfl⟩ := H
      clear HH
      obtain ⟨n0_, n1_, n2_, n3_, n4_⟩ := db_cells (Z2.out.2.2.2)
      obtain ⟨o0_, o1_, o2_, o3_, o4_⟩ := db_cells (Z2.out.2.2.1)
      obtain ⟨z0_, z1_, z2_, z3_, z4_⟩ := db_free (Z2.out.2.2.1)
      go_wp2_with fail
      have Z_ := db_set (Z2.out.1) (Z2.out.2.2.1) (.int .i64 0) (.int .i64 0) (.int .i64 0) (.int .i64 0) (.slice none 0 0) (Kd.R_nil k45 45 _ _ _)
      refine bodyPost_ret (results_ctt rfl _ _ w.heap.size 24 #[.int .i64 0, .int .i64 0, .int .i64 0, .int .i64 0, .slice none 0 0] (0, 0) _ rfl Z_.1 Try.underlying24 rfl (by kernel_rfl)) rfl ?_
      exact ⟨_, rfl, Kd.R_nil _ _ _ _ _, Z_.2.2⟩
    | false =>
      have H := HH.out
      rw [if_neg (of_decide_eq_false HBB.out.symm)] at H
      have hb0 : 36 ≤ n ∧ n ≤ 6000 := by have h_ := of_decide_eq_false HBB.out.symm; unfold bollardref12_hugeG.no at h_; omega
      obtain ⟨n36, n60⟩ := hb0
      obtain ⟨⟨t1, t2, t3, t4, t5, t6, t7⟩, HS_, H⟩ := Option.bind_eq_some_iff.mp H
      dsimp only at H
      have HS := Aside0.mk HS_
      have HH := Aside0.mk H
      clear HS_ H HBB
      go_wp2_with fail
      refine (SC_.out k A c l n t1 t2 t3 t4 t5 t6 t7 _ (Kd.C_below HR.out Z2.out.1) HC.out HS.out).mono ?_
      rintro e y1 ⟨v, rfl, ho, hb⟩
      have D1 := Aside0.mk (And.intro (below_step Z2.out.1 hb) (And.intro (blk_below Z2.out.2.2.1 hb) (And.intro (blk_below Z2.out.2.2.2 hb) (Kd.R_lower ho Z2.out.1.size))))
      obtain ⟨Av, cv, ev⟩ := Kd.R_slice ho
      subst ev
      clear ho hb Z2
      by_cases e8 : t7 = 0
      · have H := HH.out
        rw [if_pos e8] at H
        have b8 : (t7 != 0) = false := bne_eq_false_iff_eq.mpr e8
        obtain ⟨⟨en, ee⟩, HE_, H⟩ := Option.bind_eq_some_iff.mp H
        dsimp only at H
        have HE := Aside0.mk HE_
        have HH := Aside0.mk H
        clear HE_ H e8
        go_wp2_with fail
        obtain ⟨W1, hW1⟩ : ∃ W1, W1 = y1.alloc (.cells #[.int .i64 t1, .int .i64 t2, .int .i64 (wrap64 p), .int .i64 (wrap64 q), .slice Av t5.length cv] 24) := ⟨_, rfl⟩
        have D2a := Aside0.mk (And.intro (show Below w.heap.size w W1 from hW1 ▸ below_alloc D1.out.1 _) (And.intro (show W1.heap[w.heap.size]? = some (.cells #[.int .i64 0, .int .i64 0, .int .i64 0, .int .i64 0, .slice none 0 0] 24 (0, 0)) from hW1 ▸ blk_alloc D1.out.2.1 _) (And.intro (show W1.heap[w.heap.size + 1]? = some (.cells #[.int .i64 0, .int .i64 0, .int .i64 0, .int .i64 0, .slice none 0 0] 24 (0, 0)) from hW1 ▸ blk_alloc D1.out.2.2.1 _) (And.intro (show W1.heap[y1.heap.size]? = some (.cells #[.int .i64 t1, .int .i64 t2, .int .i64 (wrap64 p), .int .i64 (wrap64 q), .slice Av t5.length cv] 24 (0, 0)) from hW1 ▸ heap_alloc_new y1 _) (show Kd.R k45 45 W1 w.heap.size (fun _ => True) (.slice Av t5.length cv) t5 from hW1 ▸ Kd.R_alloc D1.out.2.2.2 _)))))
        obtain ⟨gx, hgx⟩ : ∃ gx, gx = y1.heap.size := ⟨_, rfl⟩
        rw [← hW1]
        rw [← hgx] at D2a ⊢
        clear hW1 hgx D1
        refine (bollardref12_EncodeBatch.calls k t1 t2 (wrap64 p) (wrap64 q) Av cv t5 en ee _ (Kd.R_reads' D2a.out.2.2.2.2).2.2 (Kd.R_reads' D2a.out.2.2.2.2).2.1 HE.out).mono ?_
        rintro e y6 ⟨v0, rfl, ho, hb⟩
        have D2 := Aside0.mk (And.intro (below_step D2a.out.1 hb) (And.intro (blk_below D2a.out.2.1 hb) (And.intro (blk_below D2a.out.2.2.1 hb) (And.intro (blk_below D2a.out.2.2.2.1 hb) (Kd.R_below D2a.out.2.2.2.2 hb)))))
        have HO := Aside0.mk (Kd.R_lower ho D2a.out.1.size)
        obtain ⟨Ae, ce, ev⟩ := Kd.R_slice ho
        subst ev
        clear ho hb D2a
        by_cases e8 : ee = 0
        · have H := HH.out
          rw [if_pos e8] at H
          have b9 : (ee != 0) = false := bne_eq_false_iff_eq.mpr e8
          by_cases e9 : 0 ≤ t6 ∧ t6 ≤ (l.length : Int)
          case neg => rw [if_neg e9] at H; cases H
          rw [if_pos e9] at H
          obtain ⟨i0, hi0, _, hsz0, _⟩ := info_parts info5
          obtain ⟨hcut, hA, hC⟩ := print_take_of (P := Try.prog) (Value.int .u8) 0 27 5 .i64 Try.underlying27 hi0 hsz0 A c l t6 e9.1 e9.2 HC.out
          obtain ⟨tl, htl⟩ : ∃ tl, tl = l.take t6.toNat := ⟨_, rfl⟩
          rw [← htl] at hcut hA hC H
          have HR2 := Aside0.mk (Kd.C_of_reads (h1 := fun _ => rfl) (hA _ (Kd.reads_of_C HR.out)))
          have HC2 := Aside0.mk hC
          have b12 := e9.1
          have b13 := e9.2
          clear hi0 hsz0 hA hC htl e8 e9 HH
          by_cases ec : (strOfNums en).toList = (strOfNums tl).toList
          · rw [if_pos ec] at H
            have b10 : ((strOfNums en).toList != (strOfNums tl).toList) = false := bne_eq_false_iff_eq.mpr ec
            have b11 : ((strOfNums en).toList == (strOfNums tl).toList) = true := beq_iff_eq.mpr ec
            simp only [Option.some.injEq, Prod.mk.injEq] at H
            obtain ⟨rfl, rfl, rfl, rfl, rfl, rfl, rfl⟩ := H
            clear ec
            go_wp2_with fail
            refine start_ (n := 11) (S := fun w' => Kd.C (Kd.int .u8) w' Ae en.length en ∧ Kd.C (Kd.int .u8) w' A tl.length tl) (ds := []) #[false, false, false, false, false, false, false, false, false, false, false] (by kernel_rfl) rfl rfl ⟨(Kd.R_reads' (Kd.R_drew HO.out)).2.2, Kd.C_below HR2.out (below_drew1 D2.out.1)⟩ (fun hHeld => ?_)
            have D3 := Aside0.mk (And.intro (below_drew1 D2.out.1) (And.intro (blk_drew D2.out.2.1) (And.intro (blk_drew D2.out.2.2.1) (And.intro (blk_drew D2.out.2.2.2.1) (Kd.R_drew D2.out.2.2.2.2)))))
            generalize y6.drew = y7 at D3 hHeld ⊢
            refine pure_ (i := 0) (N := (some 72)) (v := ?_) (a' := ?_) #[true, false, false, false, false, false, false, false, false, false, false] rfl rfl (by kernel_rfl) (fun _ _ _ h => h) (Or.inl ⟨by rfl, ?_⟩) ?_ ?_
            rotate_left
            · intro w'
              go_simp
              with_reducible rfl
            rotate_left
            · simp only [Act.put, List.setIfInBounds_toArray, List.set_cons_zero, List.set_cons_succ, i64_w, i32_w]
              rfl
            refine pure_ (i := 1) (N := (some 73)) (v := ?_) (a' := ?_) #[true, true, false, false, false, false, false, false, false, false, false] rfl rfl (by kernel_rfl) (fun _ _ _ h => h) (Or.inl ⟨by rfl, ?_⟩) ?_ ?_
            rotate_left
            · intro w'
              go_simp
              with_reducible rfl
            rotate_left
            · simp only [Act.put, List.setIfInBounds_toArray, List.set_cons_zero, List.set_cons_succ, i64_w, i32_w]
              rfl
            refine pure_ (i := 2) (N := (some 74)) (v := ?_) (a' := ?_) #[true, true, true, false, false, false, false, false, false, false, false] rfl rfl (by kernel_rfl) (fun _ _ _ h => h) (Or.inl ⟨by rfl, ?_⟩) ?_ ?_
            rotate_left
            · intro w'
              go_simp
              with_reducible rfl
            rotate_left
            · simp only [Act.put, List.setIfInBounds_toArray, List.set_cons_zero, List.set_cons_succ, i64_w, i32_w]
              rfl
            refine pure_ (i := 3) (N := (some 75)) (v := ?_) (a' := ?_) #[true, true, true, true, false, false, false, false, false, false, false] rfl rfl (by kernel_rfl) (fun _ _ _ h => h) (Or.inl ⟨by rfl, ?_⟩) ?_ ?_
            rotate_left
            · intro w'
              go_simp
              with_reducible rfl
            rotate_left
            · simp only [Act.put, List.setIfInBounds_toArray, List.set_cons_zero, List.set_cons_succ, i64_w, i32_w]
              rfl
            refine take_ (i := 4) (N := (some 76)) (v := ?_) (a' := ?_) #[true, true, true, true, true, false, false, false, false, false, false] rfl rfl (by kernel_rfl) (fun _ _ _ h => h) (Or.inl ⟨by rfl, ?_⟩) hHeld ?_ ?_
            rotate_left
            · rintro w' ⟨sA, sB⟩
              have hcv := Kd.C_string (P := Try.prog) (A := Ae) (c := ce) Try.underlying27 Try.underlying5 Try.underlying9 sA
              go_simp
              with_reducible rfl
            rotate_left
            · simp only [Act.put, List.setIfInBounds_toArray, List.set_cons_zero, List.set_cons_succ, i64_w, i32_w]
              rfl
            refine pure_ (i := 5) (N := (some 77)) (v := ?_) (a' := ?_) #[true, true, true, true, true, true, false, false, false, false, false] rfl rfl (by kernel_rfl) (fun _ _ _ h => h) (Or.inl ⟨by rfl, ?_⟩) ?_ ?_
            rotate_left
            · intro w'
              go_simp
              with_reducible rfl
            rotate_left
            · simp only [Act.put, List.setIfInBounds_toArray, List.set_cons_zero, List.set_cons_succ, i64_w, i32_w]
              rfl
            refine pure_ (i := 6) (N := (some 78)) (v := ?_) (a' := ?_) #[true, true, true, true, true, true, true, false, false, false, false] rfl rfl (by kernel_rfl) (fun _ _ _ h => h) (Or.inl ⟨by rfl, ?_⟩) ?_ ?_
            rotate_left
            · intro w'
              go_simp
              with_reducible rfl
            rotate_left
            · simp only [Act.put, List.setIfInBounds_toArray, List.set_cons_zero, List.set_cons_succ, i64_w, i32_w]
              rfl
            refine pure_ (i := 7) (N := (some 79)) (v := ?_) (a' := ?_) #[true, true, true, true, true, true, true, true, false, false, false] rfl rfl (by kernel_rfl) (fun _ _ _ h => h) (Or.inl ⟨by rfl, ?_⟩) ?_ ?_
            rotate_left
            · intro w'
              go_simp
              with_reducible rfl
            rotate_left
            · simp only [Act.put, List.setIfInBounds_toArray, List.set_cons_zero, List.set_cons_succ, i64_w, i32_w]
              rfl
            refine take_ (i := 8) (N := (some 80)) (v := ?_) (a' := ?_) #[true, true, true, true, true, true, true, true, true, false, false] rfl rfl (by kernel_rfl) (fun _ _ _ h => h) (Or.inl ⟨by rfl, ?_⟩) hHeld ?_ ?_
            rotate_left
            · rintro w' ⟨sA, sB⟩
              have hcv := Kd.C_string (P := Try.prog) (A := A) (c := c) Try.underlying27 Try.underlying5 Try.underlying9 sB
              go_simp
              with_reducible rfl
            rotate_left
            · simp only [Act.put, List.setIfInBounds_toArray, List.set_cons_zero, List.set_cons_succ, i64_w, i32_w]
              rfl
            refine pure_ (i := 9) (N := (some 81)) (v := ?_) (a' := ?_) #[true, true, true, true, true, true, true, true, true, true, false] rfl rfl (by kernel_rfl) (fun _ _ _ h => h) (Or.inl ⟨by rfl, ?_⟩) ?_ ?_
            rotate_left
            · intro w'
              go_simp
              with_reducible rfl
            rotate_left
            · simp only [Act.put, List.setIfInBounds_toArray, List.set_cons_zero, List.set_cons_succ, i64_w, i32_w]
              rfl
            refine pure_ (i := 10) (N := (some 82)) (v := ?_) (a' := ?_) #[true, true, true, true, true, true, true, true, true, true, true] rfl rfl (by kernel_rfl) (fun _ _ _ h => h) (Or.inl ⟨by rfl, ?_⟩) ?_ ?_
            rotate_left
            · intro w'
              go_simp
              with_reducible rfl
            rotate_left
            · simp only [Act.put, List.setIfInBounds_toArray, List.set_cons_zero, List.set_cons_succ, i64_w, i32_w]
              rfl
            refine done_ (by kernel_rfl) ?_
            clear hHeld
            obtain ⟨n0_, n1_, n2_, n3_, n4_⟩ := db_cells D3.out.2.2.2.1
            obtain ⟨o0_, o1_, o2_, o3_, o4_⟩ := db_cells D3.out.2.1
            obtain ⟨z0_, z1_, z2_, z3_, z4_⟩ := db_free D3.out.2.1
            go_wp2_with fail
            have Z_ := db_set D3.out.1 D3.out.2.1 (.int .i64 t1) (.int .i64 t2) (.int .i64 (wrap64 p)) (.int .i64 (wrap64 q)) (.slice Av t5.length cv) D3.out.2.2.2.2
            refine bodyPost_ret (results_ctt rfl _ _ w.heap.size 24 #[.int .i64 t1, .int .i64 t2, .int .i64 (wrap64 p), .int .i64 (wrap64 q), .slice Av t5.length cv] (0, 0) _ rfl Z_.1 Try.underlying24 rfl (by kernel_rfl)) rfl ?_
            exact ⟨_, rfl, Z_.2.1, Z_.2.2⟩
          · rw [if_neg ec] at H
            have b10 : ((strOfNums en).toList != (strOfNums tl).toList) = true := bne_iff_ne.mpr ec
            have b11 : ((strOfNums en).toList == (strOfNums tl).toList) = false := beq_eq_false_iff_ne.mpr ec
            clear ec
            unfold bollardref12_hugeG.bad at H
            simp only [Option.some.injEq, Prod.mk.injEq] at H
            obtain ⟨rfl, rfl, rfl, rfl, rfl, rfl, rfl⟩ := H
            go_wp2_with fail
            refine start_ (n := 11) (S := fun w' => Kd.C (Kd.int .u8) w' Ae en.length en ∧ Kd.C (Kd.int .u8) w' A tl.length tl) (ds := []) #[false, false, false, false, false, false, false, false, false, false, false] (by kernel_rfl) rfl rfl ⟨(Kd.R_reads' (Kd.R_drew HO.out)).2.2, Kd.C_below HR2.out (below_drew1 D2.out.1)⟩ (fun hHeld => ?_)
            have D3 := Aside0.mk (And.intro (below_drew1 D2.out.1) (And.intro (blk_drew D2.out.2.1) (And.intro (blk_drew D2.out.2.2.1) (And.intro (blk_drew D2.out.2.2.2.1) (Kd.R_drew D2.out.2.2.2.2)))))
            generalize y6.drew = y7 at D3 hHeld ⊢
            refine pure_ (i := 0) (N := (some 72)) (v := ?_) (a' := ?_) #[true, false, false, false, false, false, false, false, false, false, false] rfl rfl (by kernel_rfl) (fun _ _ _ h => h) (Or.inl ⟨by rfl, ?_⟩) ?_ ?_
            rotate_left
            · intro w'
              go_simp
              with_reducible rfl
            rotate_left
            · simp only [Act.put, List.setIfInBounds_toArray, List.set_cons_zero, List.set_cons_succ, i64_w, i32_w]
              rfl
            refine pure_ (i := 1) (N := (some 73)) (v := ?_) (a' := ?_) #[true, true, false, false, false, false, false, false, false, false, false] rfl rfl (by kernel_rfl) (fun _ _ _ h => h) (Or.inl ⟨by rfl, ?_⟩) ?_ ?_
            rotate_left
            · intro w'
              go_simp
              with_reducible rfl
            rotate_left
            · simp only [Act.put, List.setIfInBounds_toArray, List.set_cons_zero, List.set_cons_succ, i64_w, i32_w]
              rfl
            refine pure_ (i := 2) (N := (some 74)) (v := ?_) (a' := ?_) #[true, true, true, false, false, false, false, false, false, false, false] rfl rfl (by kernel_rfl) (fun _ _ _ h => h) (Or.inl ⟨by rfl, ?_⟩) ?_ ?_
            rotate_left
            · intro w'
              go_simp
              with_reducible rfl
            rotate_left
            · simp only [Act.put, List.setIfInBounds_toArray, List.set_cons_zero, List.set_cons_succ, i64_w, i32_w]
              rfl
            refine pure_ (i := 3) (N := (some 75)) (v := ?_) (a' := ?_) #[true, true, true, true, false, false, false, false, false, false, false] rfl rfl (by kernel_rfl) (fun _ _ _ h => h) (Or.inl ⟨by rfl, ?_⟩) ?_ ?_
            rotate_left
            · intro w'
              go_simp
              with_reducible rfl
            rotate_left
            · simp only [Act.put, List.setIfInBounds_toArray, List.set_cons_zero, List.set_cons_succ, i64_w, i32_w]
              rfl
            refine take_ (i := 4) (N := (some 76)) (v := ?_) (a' := ?_) #[true, true, true, true, true, false, false, false, false, false, false] rfl rfl (by kernel_rfl) (fun _ _ _ h => h) (Or.inl ⟨by rfl, ?_⟩) hHeld ?_ ?_
            rotate_left
            · rintro w' ⟨sA, sB⟩
              have hcv := Kd.C_string (P := Try.prog) (A := Ae) (c := ce) Try.underlying27 Try.underlying5 Try.underlying9 sA
              go_simp
              with_reducible rfl
            rotate_left
            · simp only [Act.put, List.setIfInBounds_toArray, List.set_cons_zero, List.set_cons_succ, i64_w, i32_w]
              rfl
            refine pure_ (i := 5) (N := (some 77)) (v := ?_) (a' := ?_) #[true, true, true, true, true, true, false, false, false, false, false] rfl rfl (by kernel_rfl) (fun _ _ _ h => h) (Or.inl ⟨by rfl, ?_⟩) ?_ ?_
            rotate_left
            · intro w'
              go_simp
              with_reducible rfl
            rotate_left
            · simp only [Act.put, List.setIfInBounds_toArray, List.set_cons_zero, List.set_cons_succ, i64_w, i32_w]
              rfl
            refine pure_ (i := 6) (N := (some 78)) (v := ?_) (a' := ?_) #[true, true, true, true, true, true, true, false, false, false, false] rfl rfl (by kernel_rfl) (fun _ _ _ h => h) (Or.inl ⟨by rfl, ?_⟩) ?_ ?_
            rotate_left
            · intro w'
              go_simp
              with_reducible rfl
            rotate_left
            · simp only [Act.put, List.setIfInBounds_toArray, List.set_cons_zero, List.set_cons_succ, i64_w, i32_w]
              rfl
            refine pure_ (i := 7) (N := (some 79)) (v := ?_) (a' := ?_) #[true, true, true, true, true, true, true, true, false, false, false] rfl rfl (by kernel_rfl) (fun _ _ _ h => h) (Or.inl ⟨by rfl, ?_⟩) ?_ ?_
            rotate_left
            · intro w'
              go_simp
              with_reducible rfl
            rotate_left
            · simp only [Act.put, List.setIfInBounds_toArray, List.set_cons_zero, List.set_cons_succ, i64_w, i32_w]
              rfl
            refine take_ (i := 8) (N := (some 80)) (v := ?_) (a' := ?_) #[true, true, true, true, true, true, true, true, true, false, false] rfl rfl (by kernel_rfl) (fun _ _ _ h => h) (Or.inl ⟨by rfl, ?_⟩) hHeld ?_ ?_
            rotate_left
            · rintro w' ⟨sA, sB⟩
              have hcv := Kd.C_string (P := Try.prog) (A := A) (c := c) Try.underlying27 Try.underlying5 Try.underlying9 sB
              go_simp
              with_reducible rfl
            rotate_left
            · simp only [Act.put, List.setIfInBounds_toArray, List.set_cons_zero, List.set_cons_succ, i64_w, i32_w]
              rfl
            refine pure_ (i := 9) (N := (some 81)) (v := ?_) (a' := ?_) #[true, true, true, true, true, true, true, true, true, true, false] rfl rfl (by kernel_rfl) (fun _ _ _ h => h) (Or.inl ⟨by rfl, ?_⟩) ?_ ?_
            rotate_left
            · intro w'
              go_simp
              with_reducible rfl
            rotate_left
            · simp only [Act.put, List.setIfInBounds_toArray, List.set_cons_zero, List.set_cons_succ, i64_w, i32_w]
              rfl
            refine pure_ (i := 10) (N := (some 82)) (v := ?_) (a' := ?_) #[true, true, true, true, true, true, true, true, true, true, true] rfl rfl (by kernel_rfl) (fun _ _ _ h => h) (Or.inl ⟨by rfl, ?_⟩) ?_ ?_
            rotate_left
            · intro w'
              go_simp
              with_reducible rfl
            rotate_left
            · simp only [Act.put, List.setIfInBounds_toArray, List.set_cons_zero, List.set_cons_succ, i64_w, i32_w]
              rfl
            refine done_ (by kernel_rfl) ?_
            clear hHeld
            obtain ⟨n0_, n1_, n2_, n3_, n4_⟩ := db_cells (D3.out.2.2.1)
            obtain ⟨o0_, o1_, o2_, o3_, o4_⟩ := db_cells (D3.out.2.1)
            obtain ⟨z0_, z1_, z2_, z3_, z4_⟩ := db_free (D3.out.2.1)
            go_wp2_with fail
            have Z_ := db_set (D3.out.1) (D3.out.2.1) (.int .i64 0) (.int .i64 0) (.int .i64 0) (.int .i64 0) (.slice none 0 0) (Kd.R_nil k45 45 _ _ _)
            refine bodyPost_ret (results_ctt rfl _ _ w.heap.size 24 #[.int .i64 0, .int .i64 0, .int .i64 0, .int .i64 0, .slice none 0 0] (0, 0) _ rfl Z_.1 Try.underlying24 rfl (by kernel_rfl)) rfl ?_
            exact ⟨_, rfl, Kd.R_nil _ _ _ _ _, Z_.2.2⟩
        · have H := HH.out
          rw [if_neg e8] at H
          have b9 : (ee != 0) = true := bne_iff_ne.mpr e8
          unfold bollardref12_hugeG.bad at H
          simp only [Option.some.injEq, Prod.mk.injEq] at H
          obtain ⟨rfl, rfl, rfl, rfl, rfl, rfl, rfl⟩ := H
          clear HH
          have HR2 := Aside0.mk (show Kd.C (Kd.int .u8) w A l.length l from HR.out)
          go_wp2_with fail
          refine start_ (n := 11) (S := fun w' => Kd.C (Kd.int .u8) w' Ae en.length en ∧ Kd.C (Kd.int .u8) w' A l.length l) (ds := []) #[false, false, false, false, false, false, false, false, false, false, false] (by kernel_rfl) rfl rfl ⟨(Kd.R_reads' (Kd.R_drew HO.out)).2.2, Kd.C_below HR2.out (below_drew1 D2.out.1)⟩ (fun hHeld => ?_)
          have D3 := Aside0.mk (And.intro (below_drew1 D2.out.1) (And.intro (blk_drew D2.out.2.1) (And.intro (blk_drew D2.out.2.2.1) (And.intro (blk_drew D2.out.2.2.2.1) (Kd.R_drew D2.out.2.2.2.2)))))
          generalize y6.drew = y7 at D3 hHeld ⊢
          refine pure_ (i := 0) (N := (some 72)) (v := ?_) (a' := ?_) #[true, false, false, false, false, false, false, false, false, false, false] rfl rfl (by kernel_rfl) (fun _ _ _ h => h) (Or.inl ⟨by rfl, ?_⟩) ?_ ?_
          rotate_left
          · intro w'
            go_simp
            with_reducible rfl
          rotate_left
          · simp only [Act.put, List.setIfInBounds_toArray, List.set_cons_zero, List.set_cons_succ, i64_w, i32_w]
            rfl
          refine pure_ (i := 1) (N := (some 73)) (v := ?_) (a' := ?_) #[true, true, false, false, false, false, false, false, false, false, false] rfl rfl (by kernel_rfl) (fun _ _ _ h => h) (Or.inl ⟨by rfl, ?_⟩) ?_ ?_
          rotate_left
          · intro w'
            go_simp
            with_reducible rfl
          rotate_left
          · simp only [Act.put, List.setIfInBounds_toArray, List.set_cons_zero, List.set_cons_succ, i64_w, i32_w]
            rfl
          refine pure_ (i := 2) (N := (some 74)) (v := ?_) (a' := ?_) #[true, true, true, false, false, false, false, false, false, false, false] rfl rfl (by kernel_rfl) (fun _ _ _ h => h) (Or.inl ⟨by rfl, ?_⟩) ?_ ?_
          rotate_left
          · intro w'
            go_simp
            with_reducible rfl
          rotate_left
          · simp only [Act.put, List.setIfInBounds_toArray, List.set_cons_zero, List.set_cons_succ, i64_w, i32_w]
            rfl
          refine pure_ (i := 3) (N := (some 75)) (v := undef) (a' := ?_) #[true, true, true, true, false, false, false, false, false, false, false] rfl rfl (by kernel_rfl) (fun _ _ _ h => h) (Or.inr ⟨by rfl, rfl⟩) ?_ ?_
          rotate_left
          · simp only [Act.put, List.setIfInBounds_toArray, List.set_cons_zero, List.set_cons_succ, i64_w, i32_w]
            rfl
          refine pure_ (i := 4) (N := (some 76)) (v := undef) (a' := ?_) #[true, true, true, true, true, false, false, false, false, false, false] rfl rfl (by kernel_rfl) (fun _ _ _ h => h) (Or.inr ⟨by rfl, rfl⟩) ?_ ?_
          rotate_left
          · simp only [Act.put, List.setIfInBounds_toArray, List.set_cons_zero, List.set_cons_succ, i64_w, i32_w]
            rfl
          refine pure_ (i := 5) (N := (some 77)) (v := undef) (a' := ?_) #[true, true, true, true, true, true, false, false, false, false, false] rfl rfl (by kernel_rfl) (fun _ _ _ h => h) (Or.inr ⟨by rfl, rfl⟩) ?_ ?_
          rotate_left
          · simp only [Act.put, List.setIfInBounds_toArray, List.set_cons_zero, List.set_cons_succ, i64_w, i32_w]
            rfl
          refine pure_ (i := 6) (N := (some 78)) (v := undef) (a' := ?_) #[true, true, true, true, true, true, true, false, false, false, false] rfl rfl (by kernel_rfl) (fun _ _ _ h => h) (Or.inr ⟨by rfl, rfl⟩) ?_ ?_
          rotate_left
          · simp only [Act.put, List.setIfInBounds_toArray, List.set_cons_zero, List.set_cons_succ, i64_w, i32_w]
            rfl
          refine pure_ (i := 7) (N := (some 79)) (v := undef) (a' := ?_) #[true, true, true, true, true, true, true, true, false, false, false] rfl rfl (by kernel_rfl) (fun _ _ _ h => h) (Or.inr ⟨by rfl, rfl⟩) ?_ ?_
          rotate_left
          · simp only [Act.put, List.setIfInBounds_toArray, List.set_cons_zero, List.set_cons_succ, i64_w, i32_w]
            rfl
          refine pure_ (i := 8) (N := (some 80)) (v := undef) (a' := ?_) #[true, true, true, true, true, true, true, true, true, false, false] rfl rfl (by kernel_rfl) (fun _ _ _ h => h) (Or.inr ⟨by rfl, rfl⟩) ?_ ?_
          rotate_left
          · simp only [Act.put, List.setIfInBounds_toArray, List.set_cons_zero, List.set_cons_succ, i64_w, i32_w]
            rfl
          refine pure_ (i := 9) (N := (some 81)) (v := undef) (a' := ?_) #[true, true, true, true, true, true, true, true, true, true, false] rfl rfl (by kernel_rfl) (fun _ _ _ h => h) (Or.inr ⟨by rfl, rfl⟩) ?_ ?_
          rotate_left
          · simp only [Act.put, List.setIfInBounds_toArray, List.set_cons_zero, List.set_cons_succ, i64_w, i32_w]
            rfl
          refine pure_ (i := 10) (N := (some 82)) (v := ?_) (a' := ?_) #[true, true, true, true, true, true, true, true, true, true, true] rfl rfl (by kernel_rfl) (fun _ _ _ h => h) (Or.inl ⟨by rfl, ?_⟩) ?_ ?_
          rotate_left
          · intro w'
            go_simp
            with_reducible rfl
          rotate_left
          · simp only [Act.put, List.setIfInBounds_toArray, List.set_cons_zero, List.set_cons_succ, i64_w, i32_w]
            rfl
          refine done_ (by kernel_rfl) ?_
          clear hHeld
          obtain ⟨n0_, n1_, n2_, n3_, n4_⟩ := db_cells (D3.out.2.2.1)
          obtain ⟨o0_, o1_, o2_, o3_, o4_⟩ := db_cells (D3.out.2.1)
          obtain ⟨z0_, z1_, z2_, z3_, z4_⟩ := db_free (D3.out.2.1)
          go_wp2_with fail
          have Z_ := db_set (D3.out.1) (D3.out.2.1) (.int .i64 0) (.int .i64 0) (.int .i64 0) (.int .i64 0) (.slice none 0 0) (Kd.R_nil k45 45 _ _ _)
          refine bodyPost_ret (results_ctt rfl _ _ w.heap.size 24 #[.int .i64 0, .int .i64 0, .int .i64 0, .int .i64 0, .slice none 0 0] (0, 0) _ rfl Z_.1 Try.underlying24 rfl (by kernel_rfl)) rfl ?_
          exact ⟨_, rfl, Kd.R_nil _ _ _ _ _, Z_.2.2⟩
      · have H := HH.out
        rw [if_neg e8] at H
        have b8 : (t7 != 0) = true := bne_iff_ne.mpr e8
        unfold bollardref12_hugeG.bad at H
        simp only [Option.some.injEq, Prod.mk.injEq] at H
        obtain ⟨rfl, rfl, rfl, rfl, rfl, rfl, rfl⟩ := H
        clear HH
        have D2 := Aside0.mk (And.intro (below_alloc D1.out.1 (.cells #[.int .i64 t1, .int .i64 t2, .int .i64 t3, .int .i64 t4, .slice Av t5.length cv] 24)) (And.intro (blk_alloc D1.out.2.1 (.cells #[.int .i64 t1, .int .i64 t2, .int .i64 t3, .int .i64 t4, .slice Av t5.length cv] 24)) (blk_alloc D1.out.2.2.1 (.cells #[.int .i64 t1, .int .i64 t2, .int .i64 t3, .int .i64 t4, .slice Av t5.length cv] 24))))
        obtain ⟨n0_, n1_, n2_, n3_, n4_⟩ := db_cells (D2.out.2.2)
        obtain ⟨o0_, o1_, o2_, o3_, o4_⟩ := db_cells (D2.out.2.1)
        obtain ⟨z0_, z1_, z2_, z3_, z4_⟩ := db_free (D2.out.2.1)
        go_wp2_with fail
        have Z_ := db_set (D2.out.1) (D2.out.2.1) (.int .i64 0) (.int .i64 0) (.int .i64 0) (.int .i64 0) (.slice none 0 0) (Kd.R_nil k45 45 _ _ _)
        refine bodyPost_ret (results_ctt rfl _ _ w.heap.size 24 #[.int .i64 0, .int .i64 0, .int .i64 0, .int .i64 0, .slice none 0 0] (0, 0) _ rfl Z_.1 Try.underlying24 rfl (by kernel_rfl)) rfl ?_
        exact ⟨_, rfl, Kd.R_nil _ _ _ _ _, Z_.2.2⟩
/-! ### smaller, not yet -/
def bollardref12_smaller0.f (k : Nat) (l0 : List Int) (a1 : Int) : Option (Int × Int × Int × Int × List S45 × Int × Int) := none
theorem bollardref12_smaller0.mono : ∀ a0 a1 k, LeO (bollardref12_smaller0.f k a0 a1) (bollardref12_smaller0.f (k + 1) a0 a1) := fun _ _ _ => LeO.refl _
theorem bollardref12_smaller0.calls (k : Nat) (A0 : Option Addr) (c0 : Nat) (l0 : List Int) (a1 : Int) (r1 r2 r3 r4 : Int) (r5 : List S45) (r6 r7 : Int) (w : World) (hr0 : Kd.C (Kd.int .u8) w A0 l0.length l0) (hc0 : l0.length ≤ c0) (h : bollardref12_smaller0.f k l0 a1 = some (r1, r2, r3, r4, r5, r6, r7)) :
    Calls Try.prog 54 #[.slice A0 l0.length c0, .int .i64 a1] w fun e w' => ∃ v4_ : Value, e = .returned (.tuple #[.agg #[.int .i64 r1, .int .i64 r2, .int .i64 r3, .int .i64 r4, v4_], .int .i64 r6, .int .i64 r7]) ∧ Kd.R k45 45 w' w.heap.size (fun _ => True) v4_ r5 ∧ Below w.heap.size w w' := by
  exact nomatch (show (none : Option _) = some _ from h)
def bollardref12_huge0.f (k : Nat) (l : List Int) (a1 n p q : Int) : Option (Int × Int × Int × Int × List S45 × Int × Int) := bollardref12_hugeG.f bollardref12_smaller0.f k l a1 n p q
theorem bollardref12_huge0.mono : ∀ a0 a1 a2 a3 a4 k, LeO (bollardref12_huge0.f k a0 a1 a2 a3 a4) (bollardref12_huge0.f (k + 1) a0 a1 a2 a3 a4) := bollardref12_hugeG.mono bollardref12_smaller0.f bollardref12_smaller0.mono
theorem bollardref12_huge0.calls (k : Nat) (A0 : Option Addr) (c0 : Nat) (l0 : List Int) (a1 a2 a3 a4 : Int) (r1 r2 r3 r4 : Int) (r5 : List S45) (r6 r7 : Int) (w : World) (hr0 : Kd.C (Kd.int .u8) w A0 l0.length l0) (hc0 : l0.length ≤ c0) (h : bollardref12_huge0.f k l0 a1 a2 a3 a4 = some (r1, r2, r3, r4, r5, r6, r7)) :
    Calls Try.prog 39 #[.slice A0 l0.length c0, .int .u64 a1, .int .u64 a2, .int .u64 a3, .int .u64 a4] w fun e w' => ∃ v4_ : Value, e = .returned (.tuple #[.agg #[.int .i64 r1, .int .i64 r2, .int .i64 r3, .int .i64 r4, v4_], .int .i64 r6, .int .i64 r7]) ∧ Kd.R k45 45 w' w.heap.size (fun _ => True) v4_ r5 ∧ Below w.heap.size w w' :=
  bollardref12_hugeG.calls k A0 c0 l0 a1 a2 a3 a4 w hr0 hc0 bollardref12_smaller0.f (Aside0.mk bollardref12_smaller0.calls) r1 r2 r3 r4 r5 r6 r7 h
def bollardref12_DecodeBatch0.f (k : Nat) (l : List Int) : Option (Int × Int × Int × Int × List S45 × Int × Int) := bollardref12_DecodeG.f bollardref12_huge0.f k l
theorem bollardref12_DecodeBatch0.mono : ∀ a0 k, LeO (bollardref12_DecodeBatch0.f k a0) (bollardref12_DecodeBatch0.f (k + 1) a0) := bollardref12_DecodeG.mono bollardref12_huge0.f bollardref12_huge0.mono
theorem bollardref12_DecodeBatch0.calls (k : Nat) (A0 : Option Addr) (c0 : Nat) (l0 : List Int) (r1 r2 r3 r4 : Int) (r5 : List S45) (r6 r7 : Int) (w : World) (hr0 : Kd.C (Kd.int .u8) w A0 l0.length l0) (hc0 : l0.length ≤ c0) (h : bollardref12_DecodeBatch0.f k l0 = some (r1, r2, r3, r4, r5, r6, r7)) :
    Calls Try.prog 23 #[.slice A0 l0.length c0] w fun e w' => ∃ v4_ : Value, e = .returned (.tuple #[.agg #[.int .i64 r1, .int .i64 r2, .int .i64 r3, .int .i64 r4, v4_], .int .i64 r6, .int .i64 r7]) ∧ Kd.R k45 45 w' w.heap.size (fun _ => True) v4_ r5 ∧ Below w.heap.size w w' :=
  bollardref12_DecodeG.calls bollardref12_huge0.f (Aside0.mk bollardref12_huge0.calls) k A0 c0 l0 r1 r2 r3 r4 r5 r6 r7 w hr0 hc0 h
/-! ### bollardref12_smaller -/
/-- So many noughts laid from 16 on. -/
def zset (l : List Int) : Nat → List Int
  | 0 => l
  | n + 1 => (zset l n).set (16 + n) 0
theorem zset_len (l : List Int) : ∀ n, (zset l n).length = l.length
  | 0 => rfl
  | n + 1 => by rw [zset, List.length_set, zset_len l n]
def bollardref12_smaller.f (k : Nat) (l : List Int) (a1 : Int) : Option (Int × Int × Int × Int × List S45 × Int × Int) :=
  if 20 ≤ a1 ∧ a1 ≤ 1000000 ∧ 12 + a1 ≤ (l.length : Int) then (bollardref1_Sum.f k ((zset (l.take (12 + a1).toNat) 16).drop 16)).bind fun c => if 0 ≤ c ∧ c < 4294967296 then (bollardref1_Put.f k (zset (l.take (12 + a1).toNat) 16) 12 4 true c).bind fun t => bollardref12_DecodeBatch0.f k t.1 else none else none
theorem bollardref12_smaller.mono : ∀ a0 a1 k, LeO (bollardref12_smaller.f k a0 a1) (bollardref12_smaller.f (k + 1) a0 a1) := by
  intro l a1 k
  unfold bollardref12_smaller.f
  repeat' first | (with_reducible exact LeO.refl _) | (with_reducible exact bollardref1_Sum.mono _ _) | (with_reducible exact bollardref1_Put.mono _ _ _ _ _ _) | (with_reducible exact bollardref12_DecodeBatch0.mono _ _) | (with_reducible refine LeO.ite ?_ ?_) | (with_reducible refine LeO.bind ?_ (fun _ => ?_))
set_option maxHeartbeats 4000000 in
set_option maxRecDepth 100000 in
theorem bollardref12_smaller.calls (k : Nat) (A0 : Option Addr) (c0 : Nat) (l0 : List Int) (a1 : Int) (r1 r2 r3 r4 : Int) (r5 : List S45) (r6 r7 : Int) (w : World) (hr0 : Kd.C (Kd.int .u8) w A0 l0.length l0) (hc0 : l0.length ≤ c0) (h : bollardref12_smaller.f k l0 a1 = some (r1, r2, r3, r4, r5, r6, r7)) :
    Calls Try.prog 54 #[.slice A0 l0.length c0, .int .i64 a1] w fun e w' => ∃ v4_ : Value, e = .returned (.tuple #[.agg #[.int .i64 r1, .int .i64 r2, .int .i64 r3, .int .i64 r4, v4_], .int .i64 r6, .int .i64 r7]) ∧ Kd.R k45 45 w' w.heap.size (fun _ => True) v4_ r5 ∧ Below w.heap.size w w' := by
  unfold bollardref12_smaller.f at h
  by_cases e0 : 20 ≤ a1 ∧ a1 ≤ 1000000 ∧ 12 + a1 ≤ (l0.length : Int)
  case neg => rw [if_neg e0] at h; cases h
  rw [if_pos e0] at h
  obtain ⟨b0, b1, b2⟩ := e0
  obtain ⟨i0, hi0, _, hsz0, _⟩ := info_parts info5
  obtain ⟨hcut, hA, hC⟩ := print_take_of (P := Try.prog) (Value.int .u8) 0 27 5 .i64 Try.underlying27 hi0 hsz0 A0 c0 l0 (12 + a1) (by omega) b2 hc0
  obtain ⟨tl, htl⟩ : ∃ tl, tl = l0.take (12 + a1).toNat := ⟨_, rfl⟩
  have HTL := Aside0.mk (show 32 ≤ tl.length ∧ tl.length ≤ 1000012 from by rw [htl, List.length_take]; omega)
  rw [← htl] at hcut hA hC h
  have HR := Aside0.mk (Kd.C_of_reads (h1 := fun _ => rfl) (hA _ (Kd.reads_of_C hr0)))
  have HC := Aside0.mk hC
  have HH := Aside0.mk h
  clear hi0 hsz0 hA hC htl h hr0 hc0
  go_enter Try.func54, Try.ntmps54
  go_wp2_with (first | ((with_reducible refine gate_dst (N := 13) rfl ?_); refine Kd.R_lit (Kd.int .u8) _ 5 ?hg (N := 13) ?hd (xs := ([] : List Int)) (inner := []) (ok := fun _ => True) (okp := fun _ => True) ?hr ?hp (fun _ hk => hk) trivial (Below.refl _ _) (Nat.le_refl _) (by simp) ?_; (case hd => rfl); (case hg => rfl); (case hr => first | (go_simp; done) | (go_simp; rfl)); (case hp => exact (Reps.none _ _)); intro v1 w1 ho hb hg_ hnew_; have Z1 := Aside0.mk (And.intro (below_step (below_alloc (Below.refl _ _) (.cells #[.int .i64 0, .int .i64 0, .int .i64 0, .int .i64 0, .slice none 0 0] 24)) hb) (blk_below (heap_alloc_new w (.cells #[.int .i64 0, .int .i64 0, .int .i64 0, .int .i64 0, .slice none 0 0] 24)) hb)); have HO1 := Aside0.mk (Kd.R_lower ho (below_size (below_alloc (Below.refl w.heap.size w) (.cells #[.int .i64 0, .int .i64 0, .int .i64 0, .int .i64 0, .slice none 0 0] 24)))); clear ho hb hg_ hnew_) | (at_builtin; refine Kd.R_append_rows (Kd.int .u8) (w0 := w) w.heap.size rfl (.tmp 13) (.tmp 16) 27 5 (.int .u8 0) 1 rfl Try.underlying27 info5 rfl (by decide) (by decide) v1 [] tl A0 tl.length c0 (fun _ => True) (fun _ => False) rfl (by first | rfl | (simp; done)) HO1.out (Kd.C_below HR.out Z1.out.1) (fun _ _ h => h) (fun _ h => h.elim) (fun _ _ => trivial) Z1.out.1 Z1.out.1.size ?aL ?_; (case aL => have := HTL.out; simp only [List.length_nil]; omega); intro v2 w2 ho hb hg hat; rw [List.nil_append] at ho; have Z2 := Aside0.mk (And.intro hb (blk_grown Z1.out.2 hg (Kd.R_ne HO1.out Z1.out.2 (by decide)))); have HO2 := Aside0.mk ho; clear ho hb hg hat HO1 Z1))
  obtain ⟨g, cp, eo, gb, gl, cl, HG⟩ := Kd.R_form HO2.out (by have := HTL.out; omega)
  subst eo
  have GB := Aside0.mk gb
  clear gb gl cl HG
  go_loopw [9] (fun v9 w' => ∃ (i : Int), v9 = .int .i64 i ∧ Aside0 (16 ≤ i ∧ i ≤ 32) ∧ Aside0 (Kd.R (Kd.int .u8) 5 w' w.heap.size (fun _ => True) (.slice (some ⟨g, 0, none⟩) tl.length cp) (zset tl (i - 16).toNat)) ∧ Aside0 (Below w.heap.size w w' ∧ w'.heap[w.heap.size]? = some (.cells #[.int .i64 0, .int .i64 0, .int .i64 0, .int .i64 0, .slice none 0 0] 24 (0, 0)))) (fun v9 _ => (32 - intOf v9).toNat)
  case atStart => exact ⟨16, rfl, ⟨by omega⟩, HO2, Z2⟩
  case round =>
    clear HO2 Z2
    obtain ⟨i, rfl, HN, HO, HZ⟩ := hrel
    have i0 := HN.out.1
    have i1 := HN.out.2
    by_cases e1 : i < 32
    · obtain ⟨hx, hf⟩ := Kd.R_celln 0 HO.out i (by omega) (by have := HTL.out; omega)
      have HP := Aside0.mk (Kd.R_putg HO.out i 0)
      have d1 : decide (i < 32) = true := decide_eq_true e1
      have d2 := eq_true (show 0 ≤ i by omega)
      have d3 := eq_true (show i < (tl.length : Int) by have := HTL.out; omega)
      go_wp2_with fail
      go_roundw
      case rel =>
        refine ⟨i + 1, by go_num, ⟨by omega⟩, ⟨?_⟩, ⟨below_set HZ.out.1 GB.out, ?_⟩⟩
        · have h_ := HP.out.1
          rw [show (i + 1 - 16).toNat = (i - 16).toNat + 1 by omega, zset, show 16 + (i - 16).toNat = i.toNat by omega]
          exact h_
        · exact blk_far HZ.out.2 (by have h_ := Kd.R_ne HO.out HZ.out.2 (by decide); simpa [Value.ownBlock] using h_) _
      case measure => simp [intOf]; omega
    · obtain rfl : i = 32 := by omega
      have d1 : decide ((32 : Int) < 32) = false := decide_eq_false e1
      have HO16 := Aside0.mk (show Kd.R (Kd.int .u8) 5 wr w.heap.size (fun _ => True) (.slice (some ⟨g, 0, none⟩) tl.length cp) (zset tl 16) from HO.out)
      obtain ⟨zl, hzl⟩ : ∃ zl, zl = zset tl 16 := ⟨_, rfl⟩
      have hl : zl.length = tl.length := by rw [hzl, zset_len]
      have H := HH.out
      rw [← hzl] at HO16 H
      obtain ⟨c, hc_, H⟩ := Option.bind_eq_some_iff.mp H
      by_cases e2 : 0 ≤ c ∧ c < 4294967296
      case neg => rw [if_neg e2] at H; cases H
      rw [if_pos e2] at H
      obtain ⟨⟨q, qb⟩, hq_, H⟩ := Option.bind_eq_some_iff.mp H
      dsimp only at H
      have HS := Aside0.mk hc_
      have HQ := Aside0.mk hq_
      have HD := Aside0.mk H
      have c0_ := e2.1
      have c1_ := e2.2
      have HLL := Aside0.mk hl
      have RC := Aside0.mk (Kd.R_reads' HO16.out)
      obtain ⟨iX, hiX, _, hszX, _⟩ := info_parts info5
      obtain ⟨A2, hcut2, hA2, hC2⟩ := print_drop_of (P := Try.prog) (Value.int .u8) 0 27 5 .i64 Try.underlying27 hiX hszX (some ⟨g, 0, none⟩) cp zl 16 (by omega) (by have := HTL.out; rw [hl]; omega) (by rw [hl]; exact RC.out.2.1)
      obtain ⟨dl, hdl⟩ : ∃ dl, dl = zl.drop 16 := ⟨_, rfl⟩
      rw [show ((16 : Int)).toNat = 16 from rfl, ← hdl] at hcut2 hA2 hC2
      rw [hl] at hcut2
      have HDL := Aside0.mk hdl
      have RA := Aside0.mk (Kd.C_of_reads (h1 := fun _ => rfl) (hA2 _ (Kd.reads_of_C RC.out.2.2)))
      have RB := Aside0.mk hC2
      have HCP := Aside0.mk (show zl.length ≤ cp by rw [hl]; exact RC.out.2.1)
      have d3 : (16 ≤ (tl.length : Int)) = True := eq_true (by have := HTL.out; omega)
      clear hzl hl hc_ hq_ H e1 e2 hiX hszX hA2 hC2 hdl HO HH HR HC hcut
      go_wp2_with fail
      refine (bollardref1_Sum.calls k A2 (cp - 16) dl c _ RA.out RB.out (by rw [HDL.out]; exact HS.out)).mono ?_
      rintro e w' ⟨rfl, ⟨n1, rfl⟩⟩
      go_wp2_with fail
      have hq := bollardref1_Put.calls k (some ⟨g, 0, none⟩) cp zl 12 4 true c q qb (wr.drewN n1) (Kd.C_below RC.out.2.2 (pw_below_drewN (Below.refl _ _) _)) HCP.out HQ.out
      rw [HLL.out] at hq
      refine hq.mono ?_
      clear hq
      rintro e y2 ⟨v3, rfl, ho, hb⟩
      have Z2 := Aside0.mk (And.intro (below_step (pw_below_drewN HZ.out.1 n1) hb) (blk_below (blk_drewN HZ.out.2 n1) hb))
      obtain ⟨Aq, cq, eq_⟩ := Kd.R_slice ho
      subst eq_
      have RQ := Aside0.mk (Kd.R_reads' ho).2
      clear ho hb hcut2
      go_wp2_with fail
      refine (bollardref12_DecodeBatch0.calls k Aq cq q r1 r2 r3 r4 r5 r6 r7 _ RQ.out.2 RQ.out.1 HD.out).mono ?_
      rintro e y3 ⟨v4, rfl, ho, hb⟩
      have Z3 := Aside0.mk (And.intro (below_step Z2.out.1 hb) (blk_below Z2.out.2 hb))
      have HO3 := Aside0.mk (Kd.R_lower ho Z2.out.1.size)
      obtain ⟨Av, cv, ev⟩ := Kd.R_slice ho
      subst ev
      clear ho hb
      obtain ⟨o0_, o1_, o2_, o3_, o4_⟩ := db_cells Z3.out.2
      obtain ⟨z0_, z1_, z2_, z3_, z4_⟩ := db_free Z3.out.2
      go_wp2_with fail
      have Z_ := db_set Z3.out.1 Z3.out.2 (.int .i64 r1) (.int .i64 r2) (.int .i64 r3) (.int .i64 r4) (.slice Av r5.length cv) HO3.out
      refine bodyPost_ret (results_ctt rfl _ _ w.heap.size 24 #[.int .i64 r1, .int .i64 r2, .int .i64 r3, .int .i64 r4, .slice Av r5.length cv] (0, 0) _ rfl Z_.1 Try.underlying24 rfl (by kernel_rfl)) rfl ?_
      exact ⟨_, rfl, Z_.2.1, Z_.2.2⟩
def bollardref12_huge.f (k : Nat) (l : List Int) (a1 n p q : Int) : Option (Int × Int × Int × Int × List S45 × Int × Int) := bollardref12_hugeG.f bollardref12_smaller.f k l a1 n p q
theorem bollardref12_huge.mono : ∀ a0 a1 a2 a3 a4 k, LeO (bollardref12_huge.f k a0 a1 a2 a3 a4) (bollardref12_huge.f (k + 1) a0 a1 a2 a3 a4) := bollardref12_hugeG.mono bollardref12_smaller.f bollardref12_smaller.mono
theorem bollardref12_huge.calls (k : Nat) (A0 : Option Addr) (c0 : Nat) (l0 : List Int) (a1 a2 a3 a4 : Int) (r1 r2 r3 r4 : Int) (r5 : List S45) (r6 r7 : Int) (w : World) (hr0 : Kd.C (Kd.int .u8) w A0 l0.length l0) (hc0 : l0.length ≤ c0) (h : bollardref12_huge.f k l0 a1 a2 a3 a4 = some (r1, r2, r3, r4, r5, r6, r7)) :
    Calls Try.prog 39 #[.slice A0 l0.length c0, .int .u64 a1, .int .u64 a2, .int .u64 a3, .int .u64 a4] w fun e w' => ∃ v4_ : Value, e = .returned (.tuple #[.agg #[.int .i64 r1, .int .i64 r2, .int .i64 r3, .int .i64 r4, v4_], .int .i64 r6, .int .i64 r7]) ∧ Kd.R k45 45 w' w.heap.size (fun _ => True) v4_ r5 ∧ Below w.heap.size w w' :=
  bollardref12_hugeG.calls k A0 c0 l0 a1 a2 a3 a4 w hr0 hc0 bollardref12_smaller.f (Aside0.mk bollardref12_smaller.calls) r1 r2 r3 r4 r5 r6 r7 h
def bollardref12_DecodeBatch.f (k : Nat) (l : List Int) : Option (Int × Int × Int × Int × List S45 × Int × Int) := bollardref12_DecodeG.f bollardref12_huge.f k l
theorem bollardref12_DecodeBatch.mono : ∀ a0 k, LeO (bollardref12_DecodeBatch.f k a0) (bollardref12_DecodeBatch.f (k + 1) a0) := bollardref12_DecodeG.mono bollardref12_huge.f bollardref12_huge.mono
theorem bollardref12_DecodeBatch.calls (k : Nat) (A0 : Option Addr) (c0 : Nat) (l0 : List Int) (r1 r2 r3 r4 : Int) (r5 : List S45) (r6 r7 : Int) (w : World) (hr0 : Kd.C (Kd.int .u8) w A0 l0.length l0) (hc0 : l0.length ≤ c0) (h : bollardref12_DecodeBatch.f k l0 = some (r1, r2, r3, r4, r5, r6, r7)) :
    Calls Try.prog 23 #[.slice A0 l0.length c0] w fun e w' => ∃ v4_ : Value, e = .returned (.tuple #[.agg #[.int .i64 r1, .int .i64 r2, .int .i64 r3, .int .i64 r4, v4_], .int .i64 r6, .int .i64 r7]) ∧ Kd.R k45 45 w' w.heap.size (fun _ => True) v4_ r5 ∧ Below w.heap.size w w' :=
  bollardref12_DecodeG.calls bollardref12_huge.f (Aside0.mk bollardref12_huge.calls) k A0 c0 l0 r1 r2 r3 r4 r5 r6 r7 w hr0 hc0 h

/-! ### bollardlaw13_BatchDecodes -/
/-- What the law comes to, where it comes to true. -/
def bollardlaw13_BatchDecodes.f (k : Nat) (l : List Int) : Option Bool := if 8000 < (l.length : Int) then bollardlaw13_awake.f k else (batch_Decode.f k l).bind fun b => (bollardref12_DecodeBatch.f k l).bind fun c => (bollardlaw13_same.f k b.1 b.2.1 b.2.2.1 b.2.2.2.1 b.2.2.2.2.1 c.1 c.2.1 c.2.2.1 c.2.2.2.1 c.2.2.2.2.1).bind fun s => if s = true ∧ b.2.2.2.2.2.1 = c.2.2.2.2.2.1 ∧ b.2.2.2.2.2.2 = c.2.2.2.2.2.2 then bollardlaw13_awake.f k else none
set_option maxHeartbeats 4000000 in
set_option maxRecDepth 100000 in
theorem bollardlaw13_BatchDecodes.calls (k : Nat) (A : Option Addr) (c : Nat) (l : List Int) (r : Bool) (w : World) (hr : Kd.C (Kd.int .u8) w A l.length l) (hc : l.length ≤ c) (h : bollardlaw13_BatchDecodes.f k l = some r) :
    Calls Try.prog 6 #[.slice A l.length c] w fun e w' => e = .returned (.bool r) ∧ Below w.heap.size w w' := by
  unfold bollardlaw13_BatchDecodes.f at h
  have HR := Aside0.mk hr
  have HC := Aside0.mk hc
  clear hr hc
  by_cases c1 : 8000 < (l.length : Int)
  · rw [if_pos c1] at h
    have f1 : decide (8000 < (l.length : Int)) = true := decide_eq_true c1
    have HA := Aside0.mk h
    clear h
    go_enter Try.func6, Try.ntmps6
    go_wp2_with fail
    refine (bollardlaw13_awake.calls k r _ HA.out).mono ?_
    rintro e w1 ⟨rfl, hb⟩
    have HB := Aside0.mk hb
    clear hb
    go_wp2
    go_ret
    exact ⟨rfl, HB.out⟩
  · rw [if_neg c1] at h
    have f1 : decide (8000 < (l.length : Int)) = false := decide_eq_false c1
    obtain ⟨⟨b1, b2, b3, b4, b5, b6, b7⟩, h1, ha⟩ := Option.bind_eq_some_iff.mp h
    obtain ⟨⟨d1, d2, d3, d4, d5, d6, d7⟩, h2, hb⟩ := Option.bind_eq_some_iff.mp ha
    obtain ⟨s, h3, h4⟩ := Option.bind_eq_some_iff.mp hb
    clear h ha hb
    have h := h4
    clear h4
    dsimp only at h h3
    by_cases c2 : s = true ∧ b6 = d6 ∧ b7 = d7
    case neg => rw [if_neg c2] at h; cases h
    rw [if_pos c2] at h
    obtain ⟨rfl, rfl, rfl⟩ := c2
    have H1 := Aside0.mk h1
    have H2 := Aside0.mk h2
    have H3 := Aside0.mk h3
    have HA := Aside0.mk h
    clear h h1 h2 h3
    go_enter Try.func6, Try.ntmps6
    go_wp2_with fail
    refine (batch_Decode.calls k A c l b1 b2 b3 b4 b5 b6 b7 _ HR.out HC.out H1.out).mono ?_
    rintro e w1 ⟨v1, rfl, ho, hb⟩
    obtain ⟨A1, x1, e1⟩ := Kd.R_slice ho
    subst e1
    have S1 := Aside0.mk (And.intro (below_alloc hb (.cells #[.int .i64 b1, .int .i64 b2, .int .i64 b3, .int .i64 b4, .slice A1 b5.length x1] 24)) (And.intro (heap_alloc_new w1 (.cells #[.int .i64 b1, .int .i64 b2, .int .i64 b3, .int .i64 b4, .slice A1 b5.length x1] 24)) (Kd.R_reads' (Kd.R_alloc ho (.cells #[.int .i64 b1, .int .i64 b2, .int .i64 b3, .int .i64 b4, .slice A1 b5.length x1] 24))).2))
    clear ho hb
    go_wp2_with fail
    generalize w1.alloc (.cells #[.int .i64 b1, .int .i64 b2, .int .i64 b3, .int .i64 b4, .slice A1 b5.length x1] 24) = W1 at S1 ⊢
    refine (bollardref12_DecodeBatch.calls k A c l d1 d2 d3 d4 d5 b6 b7 _ (Kd.C_below HR.out S1.out.1) HC.out H2.out).mono ?_
    rintro e w2 ⟨v2, rfl, ho, hb⟩
    obtain ⟨A2, x2, e2⟩ := Kd.R_slice ho
    subst e2
    have S2 := Aside0.mk (And.intro (below_alloc (below_step S1.out.1 hb) (.cells #[.int .i64 d1, .int .i64 d2, .int .i64 d3, .int .i64 d4, .slice A2 d5.length x2] 24)) (And.intro (blk_alloc (blk_below S1.out.2.1 hb) (.cells #[.int .i64 d1, .int .i64 d2, .int .i64 d3, .int .i64 d4, .slice A2 d5.length x2] 24)) (And.intro (Kd.C_below (Kd.C_below S1.out.2.2.2 hb) (below_alloc (Below.refl _ _) (.cells #[.int .i64 d1, .int .i64 d2, .int .i64 d3, .int .i64 d4, .slice A2 d5.length x2] 24))) (And.intro (heap_alloc_new w2 (.cells #[.int .i64 d1, .int .i64 d2, .int .i64 d3, .int .i64 d4, .slice A2 d5.length x2] 24)) (And.intro (Kd.R_reads' (Kd.R_alloc ho (.cells #[.int .i64 d1, .int .i64 d2, .int .i64 d3, .int .i64 d4, .slice A2 d5.length x2] 24))).2 S1.out.2.2.1)))))
    clear ho hb S1
    obtain ⟨y0, y1, y2, y3, y4⟩ := db_cells S2.out.2.1
    obtain ⟨z0, z1, z2, z3, z4⟩ := db_cells S2.out.2.2.2.1
    go_wp2_with fail
    refine (bollardlaw13_same.calls k b1 b2 b3 b4 A1 x1 b5 d1 d2 d3 d4 A2 x2 d5 true _ S2.out.2.2.1 S2.out.2.2.2.2.2 S2.out.2.2.2.2.1.2 S2.out.2.2.2.2.1.1 H3.out).mono ?_
    rintro e w3 ⟨rfl, hb⟩
    have HB := Aside0.mk (below_step S2.out.1 hb)
    have q1 : (b6 == b6) = true := beq_self_eq_true _
    have q2 : (b7 == b7) = true := beq_self_eq_true _
    clear hb S2 y0 y1 y2 y3 y4 z0 z1 z2 z3 z4
    go_wp2_with fail
    refine (bollardlaw13_awake.calls k r _ HA.out).mono ?_
    rintro e w4 ⟨rfl, hb⟩
    have HB2 := Aside0.mk (below_step HB.out hb)
    clear hb
    go_wp2
    go_ret
    exact ⟨rfl, HB2.out⟩

/-- THE ONE PURE STATEMENT of bollardlaw13_BatchDecodes: mine. -/
def bollardlaw13_BatchDecodes.Pure : Prop := ∀ (l0 : List Int), (l0.length * 1 ≤ 140737488351232 ∧ ∀ y0 ∈ l0, (Lit.int .u8 y0).wf = true) → ∃ k, bollardlaw13_BatchDecodes.f k l0 = some true

/-! ### bollardalike_Bytes: function 15 -/
def bollardalike_Bytes.l0 : Nat → List Int → List Int → Int → Option (Bool)
  | 0, _, _, _ => none
  | k + 1, x0, x1, x5 => if x5 < (x0.length : Int) then (if 0 ≤ x5 then (if x5 < (x1.length : Int) then (if (rd x0 x5) = (rd x1 x5) then (bollardalike_Bytes.l0 k x0 x1 (wrap64 (x5 + 1))) else (some false)) else (none)) else (none)) else (some true)
def bollardalike_Bytes.f (k : Nat) (l0 : List Int) (l1 : List Int) : Option (Bool) := if (l0.length : Int) = (l1.length : Int) then (bollardalike_Bytes.l0 k l0 l1 0) else (some false)
set_option maxRecDepth 100000 in
theorem bollardalike_Bytes.mono_l : ∀ k, (∀ y0 y1 y2, LeO (bollardalike_Bytes.l0 k y0 y1 y2) (bollardalike_Bytes.l0 (k + 1) y0 y1 y2))
  | 0 => fun _ _ _ r h => by first | exact nomatch (show (none : Option _) = some r from h) | (rw [bollardalike_Bytes.l0] at h; cases h; done) | (simp [bollardalike_Bytes.l0] at h; done)
  | k + 1 => by
    have ih0 := bollardalike_Bytes.mono_l k
    · intro y0 y1 y2
      unfold bollardalike_Bytes.l0
      repeat' first
      | (with_reducible exact ih0 _ _ _)
      | (with_reducible exact LeO.refl _)
      | (with_reducible exact LeO.none _)
      | (with_reducible refine LeO.ite ?_ ?_)
      | (with_reducible refine LeO.bind ?_ (fun _ => ?_))
      | exact ih0 _ _ _
      | exact LeO.none _
      | refine LeO.ite ?_ ?_
      | refine LeO.bind ?_ (fun _ => ?_)
theorem bollardalike_Bytes.mono : ∀ a0 a1 k, LeO (bollardalike_Bytes.f k a0 a1) (bollardalike_Bytes.f (k + 1) a0 a1) := by
  intro a0 a1 k
  have ih0 := bollardalike_Bytes.mono_l k
  unfold bollardalike_Bytes.f
  repeat' first
      | (with_reducible exact ih0 _ _ _)
      | (with_reducible exact LeO.refl _)
      | (with_reducible exact LeO.none _)
      | (with_reducible refine LeO.ite ?_ ?_)
      | (with_reducible refine LeO.bind ?_ (fun _ => ?_))
      | exact ih0 _ _ _
      | exact LeO.none _
      | refine LeO.ite ?_ ?_
      | refine LeO.bind ?_ (fun _ => ?_)
set_option maxHeartbeats 8000000 in
set_option maxRecDepth 100000 in
theorem bollardalike_Bytes.calls (k : Nat) (A0 : Option Addr) (c0 : Nat) (l0 : List Int) (A1 : Option Addr) (c1 : Nat) (l1 : List Int) (r : Bool) (w : World) (hr0 : Kd.C (Kd.int .u8) w A0 l0.length l0) (hc0 : l0.length ≤ c0) (hr1 : Kd.C (Kd.int .u8) w A1 l1.length l1) (hc1 : l1.length ≤ c1) (h : bollardalike_Bytes.f k l0 l1 = some r) :
    Calls Try.prog 15 #[.slice A0 l0.length c0, .slice A1 l1.length c1] w fun e w' => e = .returned (.bool r) ∧ Drawn0 w w' := by
  have HR0 := Aside0.mk hr0
  have HC0 := Aside0.mk hc0
  clear hr0 hc0
  have HR1 := Aside0.mk hr1
  have HC1 := Aside0.mk hc1
  clear hr1 hc1
  have H : (if (l0.length : Int) = (l1.length : Int) then (bollardalike_Bytes.l0 k l0 l1 0) else (some false)) = some r := h
  clear h
  by_cases c3 : (l0.length : Int) = (l1.length : Int)
  · rw [if_pos c3] at H
    have c3b0 : ((l0.length : Int) == (l1.length : Int)) = true := beq_iff_eq.mpr c3
    have c3b1 : ((l0.length : Int) != (l1.length : Int)) = false := bne_eq_false_iff_eq.mpr c3
    have c3b2 : (l0.length == l1.length) = true := by first | simpa using c3 | (simp at c3 ⊢; omega)
    clear c3
    have H' := Aside0.mk H
    clear H
    go_enter Try.func15, Try.ntmps15
    go_wp2
    repeat (go_quiet (fail); try go_wp2)
    go_loopg [5] k (fun kq v5 w' => ∃ (x5_1 : Int), v5 = .int .i64 x5_1 ∧ Aside0 (bollardalike_Bytes.l0 kq l0 l1 x5_1 = some r) ∧ Aside0 (kq ≤ k) ∧ Drawn0 w w')
    case atStart => exact ⟨(0), (by first | rfl | (simp; done) | (simp [*]; done) | exact congrArg Value.bool (ne_empty _) | exact congrArg Value.bool (eq_empty _)), H', ⟨Nat.le_refl _⟩, by repeat (first | exact Drawn0.refl _ | apply Drawn0.step)⟩
    case round =>
      clear H'
      try clear c1
      try clear p2
      try clear c3
      try clear c3b0
      try clear c3b1
      try clear c3b2
      obtain ⟨x5_1, rfl, HA, HK1, ⟨m1, rfl⟩⟩ := hrel
      cases gk with
      | zero => exact absurd HA.out (by first | (intro h_; exact nomatch (show (none : Option _) = some r from h_)) | simp [bollardalike_Bytes.l0])
      | succ k1 =>
        have H := HA.out
        clear HA
        simp only [bollardalike_Bytes.l0] at H
        by_cases c4 : x5_1 < (l0.length : Int)
        · rw [if_pos c4] at H
          have c4b0 : decide (x5_1 < (l0.length : Int)) = true := decide_eq_true c4
          clear c4
          by_cases c5 : 0 ≤ x5_1
          · rw [if_pos c5] at H
            have c5b0 : decide (0 ≤ x5_1) = true := decide_eq_true c5
            clear c5
            by_cases c6 : x5_1 < (l1.length : Int)
            · rw [if_pos c6] at H
              have c6b0 : decide (x5_1 < (l1.length : Int)) = true := decide_eq_true c6
              clear c6
              by_cases c7 : (rd l0 x5_1) = (rd l1 x5_1)
              · rw [if_pos c7] at H
                have c7b0 : ((rd l0 x5_1) == (rd l1 x5_1)) = true := beq_iff_eq.mpr c7
                have c7b1 : ((rd l0 x5_1) != (rd l1 x5_1)) = false := bne_eq_false_iff_eq.mpr c7
                clear c7
                have H' := Aside0.mk H
                clear H
                have p294 : 0 ≤ (x5_1 : Int) := of_decide_eq_true (by first | (with_reducible assumption) | assumption)
                have q294 : x5_1 < (l0.length : Int) := of_decide_eq_true (by first | (with_reducible assumption) | assumption)
                obtain ⟨ad294, e294, hx294_0⟩ := Kd.at_int HR0.out x5_1 p294 q294
                cases e294
                replace p294 := eq_true p294
                replace q294 := eq_true q294
                have p295 : 0 ≤ (x5_1 : Int) := of_decide_eq_true (by first | (with_reducible assumption) | assumption)
                have q295 : x5_1 < (l1.length : Int) := of_decide_eq_true (by first | (with_reducible assumption) | assumption)
                obtain ⟨ad295, e295, hx295_0⟩ := Kd.at_int HR1.out x5_1 p295 q295
                cases e295
                replace p295 := eq_true p295
                replace q295 := eq_true q295
                go_wp2
                repeat (go_quiet (fail); try go_wp2)
                go_roundg k1
                case measure => have := HK1.out; omega
                case rel => exact ⟨(wrap64 (x5_1 + 1)), (by first | rfl | (simp; done) | (simp [*]; done) | exact congrArg Value.bool (ne_empty _) | exact congrArg Value.bool (eq_empty _)), H', ⟨by have := HK1.out; omega⟩, by repeat (first | exact Drawn0.refl _ | apply Drawn0.step)⟩
              · rw [if_neg c7] at H
                have c7b0 : ((rd l0 x5_1) == (rd l1 x5_1)) = false := beq_eq_false_iff_ne.mpr c7
                have c7b1 : ((rd l0 x5_1) != (rd l1 x5_1)) = true := bne_iff_ne.mpr c7
                obtain rfl := Option.some.inj H
                have p294 : 0 ≤ (x5_1 : Int) := of_decide_eq_true (by first | (with_reducible assumption) | assumption)
                have q294 : x5_1 < (l0.length : Int) := of_decide_eq_true (by first | (with_reducible assumption) | assumption)
                obtain ⟨ad294, e294, hx294_0⟩ := Kd.at_int HR0.out x5_1 p294 q294
                cases e294
                replace p294 := eq_true p294
                replace q294 := eq_true q294
                have p295 : 0 ≤ (x5_1 : Int) := of_decide_eq_true (by first | (with_reducible assumption) | assumption)
                have q295 : x5_1 < (l1.length : Int) := of_decide_eq_true (by first | (with_reducible assumption) | assumption)
                obtain ⟨ad295, e295, hx295_0⟩ := Kd.at_int HR1.out x5_1 p295 q295
                cases e295
                replace p295 := eq_true p295
                replace q295 := eq_true q295
                go_wp2
                repeat (go_quiet (fail); try go_wp2)
                go_ret
                exact ⟨by first | rfl | (simp; done) | (simp [*]; done) | exact congrArg Value.bool (ne_empty _) | exact congrArg Value.bool (eq_empty _), by repeat (first | exact Drawn0.refl _ | apply Drawn0.step)⟩
            · rw [if_neg c6] at H
              exact absurd H (by simp)
          · rw [if_neg c5] at H
            exact absurd H (by simp)
        · rw [if_neg c4] at H
          have c4b0 : decide (x5_1 < (l0.length : Int)) = false := decide_eq_false c4
          clear c4
          obtain rfl := Option.some.inj H
          go_wp2
          repeat (go_quiet (fail); try go_wp2)
          go_ret
          exact ⟨by first | rfl | (simp; done) | (simp [*]; done) | exact congrArg Value.bool (ne_empty _) | exact congrArg Value.bool (eq_empty _), by repeat (first | exact Drawn0.refl _ | apply Drawn0.step)⟩
  · rw [if_neg c3] at H
    have c3b0 : ((l0.length : Int) == (l1.length : Int)) = false := beq_eq_false_iff_ne.mpr c3
    have c3b1 : ((l0.length : Int) != (l1.length : Int)) = true := bne_iff_ne.mpr c3
    have c3b2 : (l0.length == l1.length) = false := by first | simpa using c3 | (simp at c3 ⊢; omega)
    obtain rfl := Option.some.inj H
    go_enter Try.func15, Try.ntmps15
    go_wp2
    repeat (go_quiet (fail); try go_wp2)
    go_ret
    exact ⟨by first | rfl | (simp; done) | (simp [*]; done) | exact congrArg Value.bool (ne_empty _) | exact congrArg Value.bool (eq_empty _), by repeat (first | exact Drawn0.refl _ | apply Drawn0.step)⟩

end Go.Proofs.Ytgmeellapjimgaa.PBd

/- Plain facts on whole numbers as Go tells them: digits laid over one another, shifts, groups of seven, bytes of a number. No program in sight. -/
namespace Go.Proofs.Ytgmeellapjimgaa.Bp
open Go Go.RowKit Go.Proofs.YtgmeellapjimgaaW.PrintWords Go.Proofs.YtgmeellapjimgaaW.PrintLast Go.Proofs.YtgmeellapjimgaaW.PrintMore
set_option linter.unusedVariables false
set_option linter.unusedSimpArgs false

/-! one byte -/
set_option maxRecDepth 20000 in
theorem nat_or128 : ∀ n, n < 256 → n ||| 128 = n % 128 + 128 := by decide
set_option maxRecDepth 20000 in
theorem nat_and127 : ∀ n, n < 256 → n &&& 127 = n % 128 := by decide
theorem or128 (x : Int) : Go.bits .or .u8 (x % 256) 128 = x % 128 + 128 := by
  rw [u8_or _ _ (by omega) (by omega) (by omega) (by omega)]
  have := nat_or128 (x % 256).toNat (by omega)
  rw [show ((128 : Int)).toNat = 128 from rfl, this]
  omega
theorem and127 {x : Int} (h : 0 ≤ x ∧ x < 256) : Go.bits .and .u8 x 127 = x % 128 := by
  rw [u8_and _ _ (by omega) (by omega) (by omega) (by omega)]
  have := nat_and127 x.toNat (by omega)
  rw [show ((127 : Int)).toNat = 127 from rfl, this]
  omega
theorem u8_and1 {x : Int} (h : 0 ≤ x ∧ x < 256) : Go.bits .and .u8 x 1 = x % 2 := by
  rw [u8_and _ _ (by omega) (by omega) (by omega) (by omega)]
  rw [show ((1 : Int)).toNat = 1 from rfl, Nat.and_one_is_mod]
  omega

/-! words of 64 digits -/
theorem u64_and127 {x : Int} (h : 0 ≤ x ∧ x < 18446744073709551616) : Go.bits .and .u64 x 127 = x % 128 := by
  rw [u64_and _ _ (by omega) (by omega) (by omega) (by omega)]
  have := Nat.and_two_pow_sub_one_eq_mod x.toNat 7
  rw [show ((127 : Int)).toNat = 2 ^ 7 - 1 from rfl, this]
  omega
theorem u64_and1 {x : Int} (h : 0 ≤ x ∧ x < 18446744073709551616) : Go.bits .and .u64 x 1 = x % 2 := by
  rw [u64_and _ _ (by omega) (by omega) (by omega) (by omega)]
  rw [show ((1 : Int)).toNat = 1 from rfl, Nat.and_one_is_mod]
  omega
theorem u64_or128 {x : Int} (h : 0 ≤ x ∧ x < 128) : Go.bits .or .u64 x 128 = x + 128 := by
  rw [u64_or _ _ (by omega) (by omega) (by omega) (by omega)]
  have := nat_or128 x.toNat (by omega)
  rw [show ((128 : Int)).toNat = 128 from rfl, this]
  omega
/-- Digits above those of a smaller number. -/
theorem u64_or_add {v x : Int} (i : Nat) (h0 : 0 ≤ v) (h1 : v < 2 ^ i) (h2 : 0 ≤ x) (h3 : v + x * 2 ^ i < 18446744073709551616) : Go.bits .or .u64 v (x * 2 ^ i) = v + x * 2 ^ i := by
  obtain ⟨a, rfl⟩ := Int.eq_ofNat_of_zero_le h0
  obtain ⟨b, rfl⟩ := Int.eq_ofNat_of_zero_le h2
  have e : ((b : Int) * 2 ^ i) = ((2 ^ i * b : Nat) : Int) := by push_cast; rw [Int.mul_comm]
  rw [e] at h3 ⊢
  have ha : a < 2 ^ i := by exact_mod_cast h1
  rw [u64_or_nat _ _ (by omega) (by omega), Nat.or_comm, ← Nat.two_pow_add_eq_or_of_lt ha b]
  push_cast
  omega
theorem i64_and7 {x : Int} (h : 0 ≤ x) (h2 : x ≤ 9223372036854775807) : Go.bits .and .i64 x 7 = x % 8 := by
  obtain ⟨a, rfl⟩ := Int.eq_ofNat_of_zero_le h
  have e7 : (7 : Int) = ((7 : Nat) : Int) := rfl
  show IntKind.i64.wrap ((BitVec.ofInt 64 (a : Int) &&& BitVec.ofInt 64 (7 : Int)).toNat : Int) = _
  rw [e7, BitVec.ofInt_natCast, BitVec.ofInt_natCast, BitVec.toNat_and, BitVec.toNat_ofNat, BitVec.toNat_ofNat, Nat.mod_eq_of_lt (by omega), Nat.mod_eq_of_lt (by omega)]
  have := Nat.and_two_pow_sub_one_eq_mod a 3
  rw [show (7 : Nat) = 2 ^ 3 - 1 from rfl, this]
  have h8 : a % 2 ^ 3 < 8 := Nat.mod_lt _ (by omega)
  rw [i64_w]
  unfold wrap64
  omega

theorem w64 {x : Int} (h : -9223372036854775808 ≤ x) (h2 : x ≤ 9223372036854775807) : wrap64 x = x := by unfold wrap64; omega
theorem u64_id {x : Int} (h : 0 ≤ x) (h2 : x < 18446744073709551616) : IntKind.u64.wrap x = x := by rw [IntKind.wrap_u64]; omega
theorem up64 (i : Nat) (h : i ≤ 4000000000000000000) : wrap64 ((i : Int) + 1) = ((i + 1 : Nat) : Int) := by unfold wrap64; omega
theorem wf8 {x : Int} (h : (Lit.int .u8 x).wf = true) : 0 ≤ x ∧ x < 256 := by
  simp only [Lit.wf, IntKind.min, IntKind.max, IntKind.signed, IntKind.bits] at h
  simp at h
  omega
theorem wf64 {x : Int} (h : (Lit.int .u64 x).wf = true) : 0 ≤ x ∧ x < 18446744073709551616 := by
  simp only [Lit.wf, IntKind.min, IntKind.max, IntKind.signed, IntKind.bits] at h
  simp at h
  omega
theorem wfi {x : Int} (h : (Lit.int .i64 x).wf = true) : -9223372036854775808 ≤ x ∧ x ≤ 9223372036854775807 := by
  simp only [Lit.wf, IntKind.min, IntKind.max, IntKind.signed, IntKind.bits] at h
  simp at h
  omega
def Bytes (l : List Int) : Prop := ∀ x ∈ l, 0 ≤ x ∧ x < 256
theorem bytes_of {l : List Int} (h : ∀ x ∈ l, (Lit.int .u8 x).wf = true) : Bytes l := fun x hx => wf8 (h x hx)
theorem rd_at {l : List Int} {i : Nat} (h : i < l.length) : rd l (i : Int) = l[i] := by
  unfold rd
  rw [Int.toNat_natCast, List.getD_eq_getElem?_getD, List.getElem?_eq_getElem h]
  rfl
theorem rd_byte {l : List Int} (h : Bytes l) (i : Int) : 0 ≤ rd l i ∧ rd l i < 256 := by
  unfold rd
  rw [List.getD_eq_getElem?_getD]
  cases e : l[i.toNat]? with
  | none => simp
  | some x => exact h x (List.mem_of_getElem? e)
theorem drop_cons {l : List Int} {i : Nat} (h : i < l.length) : l.drop i = rd l (i : Int) :: l.drop (i + 1) := by
  rw [rd_at h, List.drop_eq_getElem_cons h]

/-! groups of seven digits -/
def vr (v : Nat) : List Int := if h : v < 128 then [(v : Int)] else ((v % 128 + 128 : Nat) : Int) :: vr (v / 128)
termination_by v
decreasing_by omega
theorem vr_small {v : Nat} (h : v < 128) : vr v = [(v : Int)] := by rw [vr, dif_pos h]
theorem vr_big {v : Nat} (h : ¬ v < 128) : vr v = ((v % 128 + 128 : Nat) : Int) :: vr (v / 128) := by rw [vr, dif_neg h]

/-- What a group adds. -/
def put7 (v x : Int) (i : Nat) : Int := Go.bits .or .u64 v (shl .u64 (IntKind.u64.wrap (Go.bits .and .u8 x 127)) (wrap64 (7 * (i : Int))))
/-- Bytes read as groups: from the i-th on, v read so far. -/
def unv : List Int → Nat → Int → Int × Int
  | [], _, _ => (0, 0)
  | x :: xs, i, v => if i = 10 ∨ (i = 9 ∧ x > 1) ∨ (0 < i ∧ x = 0) then (0, 0) else if x < 128 then (put7 v x i, (i : Int) + 1) else unv xs (i + 1) (put7 v x i)

theorem put7_add {v x : Int} {i : Nat} (hi : i ≤ 9) (hx : 0 ≤ x ∧ x < 256) (h9 : i = 9 → x % 128 ≤ 1) (h0 : 0 ≤ v) (h1 : v < 128 ^ i) : put7 v x i = v + (x % 128) * 128 ^ i := by
  unfold put7
  rw [and127 hx, u64_id (by omega) (by omega), w64 (by omega) (by omega)]
  unfold shl
  have hb : min (7 * (i : Int)).toNat IntKind.u64.bits = 7 * i := by
    simp only [IntKind.bits]; omega
  rw [hb]
  have hp : (128 : Int) ^ i = 2 ^ (7 * i) := by rw [Int.pow_mul]; rfl
  rw [hp] at h1 ⊢
  have hlt : v + x % 128 * 2 ^ (7 * i) < 18446744073709551616 := by
    have hc : i = 0 ∨ i = 1 ∨ i = 2 ∨ i = 3 ∨ i = 4 ∨ i = 5 ∨ i = 6 ∨ i = 7 ∨ i = 8 ∨ i = 9 := by omega
    rcases hc with h | h | h | h | h | h | h | h | h | h <;> subst h <;> simp at h1 ⊢ <;> omega
  have hnn : (0 : Int) ≤ x % 128 * 2 ^ (7 * i) := Int.mul_nonneg (by omega) (Int.pow_nonneg (by decide))
  rw [u64_id hnn (by omega)]
  exact u64_or_add (7 * i) h0 h1 (by omega) hlt

end Go.Proofs.Ytgmeellapjimgaa.Bp

/- Numbers of some bytes: plain facts. A number's bytes, greatest first (beL) or as they are laid into a row (lay); what bytes come to (be). -/
namespace Go.Proofs.Ytgmeellapjimgaa.Bp
open Go Go.RowKit Go.Proofs.YtgmeellapjimgaaW.PrintWords Go.Proofs.YtgmeellapjimgaaW.PrintLast Go.Proofs.YtgmeellapjimgaaW.PrintMore
set_option linter.unusedVariables false
set_option linter.unusedSimpArgs false

theorem u64_shl_or {v b : Int} (h0 : 0 ≤ v) (hb : 0 ≤ b ∧ b < 256) (h : v * 256 + b < 18446744073709551616) : Go.bits .or .u64 (v * 256) b = v * 256 + b := by
  obtain ⟨a, rfl⟩ := Int.eq_ofNat_of_zero_le h0
  obtain ⟨c, rfl⟩ := Int.eq_ofNat_of_zero_le hb.1
  have e : ((a : Int) * 256) = ((2 ^ 8 * a : Nat) : Int) := by omega
  rw [e] at h ⊢
  rw [u64_or_nat _ _ (by omega) (by omega), ← Nat.two_pow_add_eq_or_of_lt (show c < 2 ^ 8 from by omega) a]
  omega

/-- The j-th byte of a number, the least one first. -/
def dg (v j : Nat) : Int := ((v / 256 ^ j % 256 : Nat) : Int)
theorem dg_byte (v j : Nat) : 0 ≤ dg v j ∧ dg v j < 256 := by unfold dg; omega
theorem dg_shr (v j : Nat) (hj : j ≤ 7) : (shr .u64 (v : Int) (8 * (j : Int))) % 256 = dg v j := by
  unfold shr dg
  simp only [IntKind.bits]
  rw [show min (8 * (j : Int)).toNat 64 = 8 * j from by omega]
  have hp : (2 : Int) ^ (8 * j) = ((256 ^ j : Nat) : Int) := by rw [Int.pow_mul, Int.natCast_pow]; rfl
  rw [hp, Int.natCast_emod, Int.natCast_ediv]
  rfl

/-- What bytes come to, the greatest first. -/
def be (l : List Int) : Int := l.foldl (fun v b => v * 256 + b) 0
theorem be_from (l : List Int) : ∀ v : Int, l.foldl (fun v b => v * 256 + b) v = v * 256 ^ l.length + be l := by
  induction l with
  | nil => intro v; simp [be]
  | cons b l ih =>
    intro v
    unfold be
    rw [List.foldl_cons, List.foldl_cons, ih, ih (0 * 256 + b), List.length_cons, Int.pow_succ, Int.add_mul, Int.mul_assoc, Int.mul_comm 256, Int.zero_mul, Int.zero_add, Int.add_assoc]
theorem be_nil : be [] = 0 := rfl
theorem be_append (l m : List Int) : be (l ++ m) = be l * 256 ^ m.length + be m := by
  unfold be
  rw [List.foldl_append]
  exact be_from m _
theorem be_snoc (l : List Int) (b : Int) : be (l ++ [b]) = be l * 256 + b := by unfold be; rw [List.foldl_append]; rfl
theorem be_cons (b : Int) (l : List Int) : be (b :: l) = b * 256 ^ l.length + be l := by
  have := be_append [b] l
  simpa [be] using this
theorem be_range (l : List Int) (h : Bytes l) : 0 ≤ be l ∧ be l < 256 ^ l.length := by
  induction l with
  | nil => exact ⟨by rw [be_nil]; omega, by rw [be_nil]; simp⟩
  | cons b l ih =>
    have h1 := ih (fun x hx => h x (by simp [hx]))
    have h2 := h b (by simp)
    have hp : (0 : Int) < 256 ^ l.length := Int.pow_pos (by decide)
    rw [be_cons, List.length_cons, Int.pow_succ, Int.mul_comm _ 256]
    have l1 : 0 * 256 ^ l.length ≤ b * 256 ^ l.length := Int.mul_le_mul_of_nonneg_right (by omega) (by omega)
    have l2 : b * 256 ^ l.length ≤ 255 * 256 ^ l.length := Int.mul_le_mul_of_nonneg_right (by omega) (by omega)
    constructor <;> omega
theorem pow256_le {a b : Nat} (h : a ≤ b) : (256 : Int) ^ a ≤ 256 ^ b := by
  obtain ⟨c, rfl⟩ := Nat.exists_eq_add_of_le h
  rw [Int.pow_add]
  have h1 : (0 : Int) < 256 ^ a := Int.pow_pos (by decide)
  have h2 : (0 : Int) < 256 ^ c := Int.pow_pos (by decide)
  have : (256 : Int) ^ a * 1 ≤ 256 ^ a * 256 ^ c := Int.mul_le_mul_of_nonneg_left (by omega) (by omega)
  omega

/-- A number's bytes, the greatest first. -/
def beL (v : Nat) : Nat → List Int
  | 0 => []
  | n + 1 => dg v n :: beL v n
theorem beL_length (v n : Nat) : (beL v n).length = n := by
  induction n with
  | zero => rfl
  | succ n ih => rw [beL, List.length_cons, ih]
theorem beL_bytes (v n : Nat) : Bytes (beL v n) := by
  induction n with
  | zero => intro x hx; simp [beL] at hx
  | succ n ih =>
    intro x hx
    rcases List.mem_cons.1 hx with rfl | hx
    · exact dg_byte v n
    · exact ih x hx
theorem beL_get (v n p : Nat) (h : p < n) : (beL v n)[p]? = some (dg v (n - 1 - p)) := by
  induction n generalizing p with
  | zero => omega
  | succ n ih =>
    rw [beL]
    cases p with
    | zero => simp
    | succ p => rw [List.getElem?_cons_succ, ih p (by omega), show n - 1 - p = n + 1 - 1 - (p + 1) from by omega]
theorem be_beL (v n : Nat) : be (beL v n) = ((v % 256 ^ n : Nat) : Int) := by
  induction n with
  | zero => simp [beL, be_nil, Nat.mod_one]
  | succ n ih =>
    rw [beL, show dg v n :: beL v n = [dg v n] ++ beL v n from rfl, be_append, ih, beL_length, Nat.pow_succ, Nat.mod_mul]
    unfold dg
    have : be [((v / 256 ^ n % 256 : Nat) : Int)] = ((v / 256 ^ n % 256 : Nat) : Int) := by simp [be]
    rw [this, Int.natCast_add, Int.natCast_mul, Int.natCast_pow, Int.mul_comm, Int.add_comm]
    rfl

/-- A row with n bytes of it, from place a on, laid anew. -/
def lay (l : List Int) (a n : Nat) (d : Nat → Int) : List Int := l.take a ++ ((List.range n).map d ++ l.drop (a + n))
theorem lay_length (l : List Int) (a n : Nat) (d : Nat → Int) (h : a + n ≤ l.length) : (lay l a n d).length = l.length := by
  unfold lay
  simp
  omega
theorem lay_get (l : List Int) (a n : Nat) (d : Nat → Int) (h : a + n ≤ l.length) (p : Nat) : (lay l a n d)[p]? = if a ≤ p ∧ p < a + n then some (d (p - a)) else l[p]? := by
  unfold lay
  by_cases h1 : p < a
  · rw [List.getElem?_append_left (by simp; omega), if_neg (by omega), List.getElem?_take_of_lt h1]
  · rw [List.getElem?_append_right (by simp; omega), List.length_take, Nat.min_eq_left (by omega)]
    by_cases h2 : p < a + n
    · rw [List.getElem?_append_left (by simp; omega), if_pos (by omega), List.getElem?_map, List.getElem?_range (by omega)]
      rfl
    · rw [List.getElem?_append_right (by simp; omega), if_neg (by omega), List.getElem?_drop, List.length_map, List.length_range]
      congr 1
      omega
theorem lay_eq {l m : List Int} {a n : Nat} {d : Nat → Int} (h : a + n ≤ l.length) (hm : ∀ p, m[p]? = if a ≤ p ∧ p < a + n then some (d (p - a)) else l[p]?) : m = lay l a n d := by
  apply List.ext_getElem?
  intro p
  rw [hm p, lay_get l a n d h p]
theorem lay_bytes (l : List Int) (a n : Nat) (d : Nat → Int) (hl : Bytes l) (hd : ∀ p, 0 ≤ d p ∧ d p < 256) : Bytes (lay l a n d) := by
  intro x hx
  unfold lay at hx
  rcases List.mem_append.1 hx with hx | hx
  · exact hl x (List.mem_of_mem_take hx)
  · rcases List.mem_append.1 hx with hx | hx
    · obtain ⟨p, _, rfl⟩ := List.mem_map.1 hx
      exact hd p
    · exact hl x (List.mem_of_mem_drop hx)
/-- What is read there. -/
theorem lay_seg (l : List Int) (a n : Nat) (d : Nat → Int) (h : a + n ≤ l.length) : ((lay l a n d).drop a).take n = (List.range n).map d := by
  unfold lay
  rw [List.drop_append_of_le_length (by simp; omega), List.drop_eq_nil_of_le (by simp; omega), List.nil_append, List.take_append_of_le_length (by simp), List.take_of_length_le (by simp)]
/-- Which byte of a number stands at which place. -/
def wh (n : Nat) (big : Bool) (p : Nat) : Nat := if big = true then n - 1 - p else p
theorem range_big (v n : Nat) : (List.range n).map (fun p => dg v (wh n true p)) = beL v n := by
  apply List.ext_getElem?
  intro p
  by_cases h : p < n
  · rw [beL_get v n p h]
    simp [h, wh]
  · rw [List.getElem?_eq_none (by simp; omega), List.getElem?_eq_none (by rw [beL_length]; omega)]
theorem range_little (v n : Nat) : (List.range n).map (fun p => dg v (wh n false p)) = (beL v n).reverse := by
  apply List.ext_getElem?
  intro p
  by_cases h : p < n
  · rw [List.getElem?_reverse (by rw [beL_length]; omega), beL_length, beL_get v n _ (by omega)]
    simp [h, wh]
    congr 1
    omega
  · rw [List.getElem?_eq_none (by simp; omega), List.getElem?_eq_none (by rw [List.length_reverse, beL_length]; omega)]
/-- A number that is read: of so many bytes from place a on, the greatest first or last. -/
def get (l : List Int) (a n : Nat) (big : Bool) : Int := be (if big = true then (l.drop a).take n else ((l.drop a).take n).reverse)
theorem seg_bytes {l : List Int} (h : Bytes l) (a n : Nat) : Bytes ((l.drop a).take n) := fun x hx => h x (List.mem_of_mem_drop (List.mem_of_mem_take hx))
theorem rev_bytes {l : List Int} (h : Bytes l) : Bytes l.reverse := fun x hx => h x (List.mem_reverse.1 hx)
theorem get_range {l : List Int} (h : Bytes l) (a n : Nat) (big : Bool) : 0 ≤ get l a n big ∧ get l a n big < 256 ^ n := by
  unfold get
  have hb := seg_bytes h a n
  have hl : ((l.drop a).take n).length ≤ n := by simp; omega
  have := pow256_le hl
  split
  · have := be_range _ hb
    omega
  · have := be_range _ (rev_bytes hb)
    rw [List.length_reverse] at this
    omega
theorem get_lay (l : List Int) (a n v : Nat) (big : Bool) (h : a + n ≤ l.length) : get (lay l a n (fun p => dg v (wh n big p))) a n big = ((v % 256 ^ n : Nat) : Int) := by
  unfold get
  rw [lay_seg l a n _ h]
  cases big with
  | true => rw [if_pos rfl, range_big, be_beL]
  | false => rw [if_neg (by simp), range_little, List.reverse_reverse, be_beL]

end Go.Proofs.Ytgmeellapjimgaa.Bp

/- What the program's Get and Put come to, as printed. -/
namespace Go.Proofs.Ytgmeellapjimgaa.Bp
open Go Go.RowKit Go.Proofs.Ytgmeellapjimgaa.PBd Go.Proofs.YtgmeellapjimgaaW.PrintWords Go.Proofs.YtgmeellapjimgaaW.PrintLast Go.Proofs.YtgmeellapjimgaaW.PrintMore
set_option linter.unusedVariables false
set_option linter.unusedSimpArgs false

theorem may_f (l : List Int) (a n : Int) (hl : l.length ≤ 4000000000000000000) : bits_may.f l a n = some (decide (1 ≤ n ∧ n ≤ 8 ∧ 0 ≤ a ∧ a ≤ (l.length : Int) - n)) := by
  unfold bits_may.f
  by_cases c1 : n ≥ 1
  · rw [if_pos c1]
    by_cases c2 : n ≤ 8
    · rw [if_pos c2]
      by_cases c3 : a ≥ 0
      · rw [if_pos c3, w64 (by omega) (by omega)]
        congr 1
        rw [Bool.eq_iff_iff]
        simp
        omega
      · rw [if_neg c3]
        simp
        omega
    · rw [if_neg c2]
      simp
      omega
  · rw [if_neg c1]
    simp
    omega

theorem take_step {l : List Int} {i : Nat} {x : Int} (h : l[i]? = some x) : l.take (i + 1) = l.take i ++ [x] := by
  rw [List.take_add_one, h]
  rfl

theorem clone_f (l : List Int) (hl : l.length ≤ 140737488351232) : slices_Clone_byte_byte.f l = some l := by
  unfold slices_Clone_byte_byte.f
  simp only [Option.bind_some, List.nil_append, List.length_nil, Nat.zero_add]
  rw [if_pos (by omega)]

theorem put_l0 (l : List Int) (hl : l.length ≤ 140737488351232) (a n v : Nat) (big : Bool) (h : a + n ≤ l.length) (h8 : n ≤ 8) (m : Nat) : ∀ (k i : Nat) (c : List Int), i + m = n → m + 1 ≤ k →
    (∀ p, c[p]? = if (if big = true then a + n ≤ p + i else a ≤ p) ∧ (if big = true then p < a + n else p < a + i) then some (dg v (wh n big (p - a))) else l[p]?) → c.length = l.length →
    bits_Put.l0 k (a : Int) (n : Int) big (v : Int) c (n : Int) (i : Int) = some (lay l a n (fun p => dg v (wh n big p)), true) := by
  induction m with
  | zero =>
    intro k i c hi hk hc hcl
    obtain ⟨K, rfl⟩ : ∃ K, k = K + 1 := ⟨k - 1, by omega⟩
    simp only [bits_Put.l0]
    rw [if_neg (by omega)]
    congr 2
    refine lay_eq h (fun p => ?_)
    rw [hc p]
    have e : ((if big = true then a + n ≤ p + i else a ≤ p) ∧ (if big = true then p < a + n else p < a + i)) ↔ (a ≤ p ∧ p < a + n) := by
      cases big with
      | true => simp only [if_true]; omega
      | false => simp only [Bool.false_eq_true, if_false]; omega
    simp only [e]
  | succ m ih =>
    intro k i c hi hk hc hcl
    obtain ⟨K, rfl⟩ : ∃ K, k = K + 1 := ⟨k - 1, by omega⟩
    simp only [bits_Put.l0]
    rw [if_pos (by omega), w64 (x := 8 * (i : Int)) (by omega) (by omega), dg_shr v i (by omega), up64 i (by omega)]
    have go : ∀ q : Nat, q = a + (if big = true then n - 1 - i else i) → ∀ p, (c.set q (dg v i))[p]? = if (if big = true then a + n ≤ p + (i + 1) else a ≤ p) ∧ (if big = true then p < a + n else p < a + (i + 1)) then some (dg v (wh n big (p - a))) else l[p]? := by
      intro q hq p
      rw [List.getElem?_set]
      by_cases e : q = p
      · subst e
        rw [if_pos rfl, if_pos (by rw [hcl]; cases big <;> simp at hq <;> omega)]
        cases big with
        | true =>
          simp only [if_true] at hq ⊢
          rw [if_pos (by omega)]
          unfold wh
          rw [if_pos rfl, show n - 1 - (q - a) = i from by omega]
        | false =>
          simp only [Bool.false_eq_true, if_false] at hq ⊢
          rw [if_pos (by omega)]
          unfold wh
          rw [if_neg (by simp), show q - a = i from by omega]
      · rw [if_neg e, hc p]
        cases big with
        | true =>
          simp only [if_true] at hq ⊢
          by_cases d : a + n ≤ p + i ∧ p < a + n
          · rw [if_pos d, if_pos (by omega)]
          · rw [if_neg d, if_neg (by omega)]
        | false =>
          simp only [Bool.false_eq_true, if_false] at hq ⊢
          by_cases d : a ≤ p ∧ p < a + i
          · rw [if_pos d, if_pos (by omega)]
          · rw [if_neg d, if_neg (by omega)]
    cases big with
    | true =>
      rw [if_pos (by trivial), if_pos (by omega), w64 (x := (n : Int) - 1) (by omega) (by omega), w64 (x := (n : Int) - 1 - (i : Int)) (by omega) (by omega), w64 (by omega) (by omega), if_pos (by omega), if_pos (by omega)]
      refine ih K (i + 1) _ (by omega) (by omega) (go _ ?_) (by rw [List.length_set]; exact hcl)
      rw [if_pos rfl]; omega
    | false =>
      rw [if_neg (by simp), if_pos (by omega), w64 (by omega) (by omega), if_pos (by omega), if_pos (by omega)]
      refine ih K (i + 1) _ (by omega) (by omega) (go _ ?_) (by rw [List.length_set]; exact hcl)
      rw [if_neg (by simp)]; omega

theorem put_f (l : List Int) (hl : l.length ≤ 140737488351232) (a n v : Nat) (big : Bool) (h1 : 1 ≤ n) (h8 : n ≤ 8) (h : a + n ≤ l.length) (k : Nat) (hk : 9 ≤ k) : bits_Put.f k l (a : Int) (n : Int) big (v : Int) = some (lay l a n (fun p => dg v (wh n big p)), true) := by
  unfold bits_Put.f
  rw [may_f l _ _ (by omega), decide_eq_true (by omega), clone_f l hl]
  simp only [Option.bind_some]
  rw [if_pos (by trivial)]
  refine put_l0 l hl a n v big h h8 n k 0 l (by omega) (by omega) (fun p => ?_) rfl
  rw [if_neg]
  cases big with
  | true => simp only [if_true]; omega
  | false => simp only [Bool.false_eq_true, if_false]; omega
theorem put_none (l : List Int) (hl : l.length ≤ 4000000000000000000) (a n v : Int) (big : Bool) (h : ¬ (1 ≤ n ∧ n ≤ 8 ∧ 0 ≤ a ∧ a ≤ (l.length : Int) - n)) (k : Nat) : bits_Put.f k l a n big v = some ([], false) := by
  unfold bits_Put.f
  rw [may_f l _ _ hl, decide_eq_false h]
  rfl

end Go.Proofs.Ytgmeellapjimgaa.Bp

/- Plain facts on CRC-32C over words of 32 digits, with no program in sight: the step is linear and loses nothing. Used by the statements on crc, layout and batch. -/
namespace Go.Proofs.Ytgmeellapjimgaa.Crc
open Go
set_option linter.unusedVariables false
set_option linter.unusedSimpArgs false

def P32 : BitVec 32 := 0x82f63b78#32
def bitStep (c : BitVec 32) : BitVec 32 := (c >>> 1) ^^^ (if c.getLsbD 0 then P32 else 0#32)
def steps : Nat → BitVec 32 → BitVec 32
  | 0, c => c
  | n + 1, c => steps n (bitStep c)
def byteStep (c x : BitVec 32) : BitVec 32 := steps 8 (c ^^^ x)
def run (c : BitVec 32) (l : List (BitVec 32)) : BitVec 32 := l.foldl byteStep c

theorem xor_swap (a b p q : BitVec 32) : (a ^^^ b) ^^^ (p ^^^ q) = (a ^^^ p) ^^^ (b ^^^ q) := by
  rw [BitVec.xor_assoc, BitVec.xor_assoc, ← BitVec.xor_assoc b p q, BitVec.xor_comm b p, BitVec.xor_assoc]

theorem bitStep_xor (a b : BitVec 32) : bitStep (a ^^^ b) = bitStep a ^^^ bitStep b := by
  unfold bitStep
  rw [xor_swap, BitVec.getLsbD_xor, BitVec.ushiftRight_xor_distrib]
  cases a.getLsbD 0 <;> cases b.getLsbD 0 <;> simp

theorem steps_xor (n : Nat) : ∀ a b : BitVec 32, steps n (a ^^^ b) = steps n a ^^^ steps n b := by
  induction n with
  | zero => intro a b; rfl
  | succ n ih => intro a b; simp only [steps, bitStep_xor, ih]

theorem byteStep_xor (a b x y : BitVec 32) : byteStep (a ^^^ b) (x ^^^ y) = byteStep a x ^^^ byteStep b y := by
  unfold byteStep
  rw [xor_swap, steps_xor]

theorem run_append (c : BitVec 32) (l m : List (BitVec 32)) : run c (l ++ m) = run (run c l) m := by simp [run]
theorem run_cons (c x : BitVec 32) (l : List (BitVec 32)) : run c (x :: l) = run (byteStep c x) l := rfl
theorem run_nil (c : BitVec 32) : run c [] = c := rfl

theorem run_xor : ∀ (l m : List (BitVec 32)) (a b : BitVec 32), l.length = m.length → run (a ^^^ b) (List.zipWith (· ^^^ ·) l m) = run a l ^^^ run b m := by
  intro l
  induction l with
  | nil => intro m a b h; cases m with
    | nil => rfl
    | cons y m => simp at h
  | cons x l ih => intro m a b h; cases m with
    | nil => simp at h
    | cons y m =>
      rw [List.zipWith_cons_cons, run_cons, run_cons, run_cons, byteStep_xor]
      exact ih m _ _ (by simpa using h)

theorem bitStep_zero : bitStep 0#32 = 0#32 := by decide
theorem steps_zero (n : Nat) : steps n 0#32 = 0#32 := by
  induction n with
  | zero => rfl
  | succ n ih => rw [steps, bitStep_zero, ih]

theorem bitStep_inj {c : BitVec 32} (h : bitStep c = 0#32) : c = 0#32 := by
  unfold bitStep at h
  have hb : c.getLsbD 0 = false := by
    cases hc : c.getLsbD 0 with
    | false => rfl
    | true =>
      rw [hc, if_pos rfl] at h
      have h31 := congrArg (fun v => BitVec.getLsbD v 31) h
      simp only [BitVec.getLsbD_xor, BitVec.getLsbD_ushiftRight] at h31
      rw [BitVec.getLsbD_of_ge c (1 + 31) (by omega)] at h31
      revert h31
      decide
  rw [hb] at h
  simp only [Bool.false_eq_true, if_false, BitVec.xor_zero] at h
  apply BitVec.eq_of_getLsbD_eq
  intro i hi
  cases i with
  | zero => rw [hb]; rfl
  | succ i =>
    have := congrArg (fun v => BitVec.getLsbD v i) h
    simp only [BitVec.getLsbD_ushiftRight, BitVec.getLsbD_zero] at this
    rw [BitVec.getLsbD_zero, Nat.add_comm]
    exact this

theorem steps_inj (n : Nat) : ∀ {c : BitVec 32}, steps n c = 0#32 → c = 0#32 := by
  induction n with
  | zero => intro c h; exact h
  | succ n ih => intro c h; exact bitStep_inj (ih h)

/-- Noughts behind: nothing is lost. -/
theorem run_zeros_inj (n : Nat) : ∀ {c : BitVec 32}, run c (List.replicate n 0#32) = 0#32 → c = 0#32 := by
  induction n with
  | zero => intro c h; exact h
  | succ n ih =>
    intro c h
    rw [List.replicate_succ, run_cons] at h
    have h2 := steps_inj 8 (ih h)
    simpa using h2

theorem run_zeros_zero (n : Nat) : run 0#32 (List.replicate n 0#32) = 0#32 := by
  induction n with
  | zero => rfl
  | succ n ih =>
    rw [List.replicate_succ, run_cons]
    have : byteStep 0#32 0#32 = 0#32 := by unfold byteStep; rw [BitVec.xor_zero, steps_zero]
    rw [this, ih]

theorem steps_shift (n : Nat) : ∀ y : BitVec 32, (∀ j, 32 - n ≤ j → y.getLsbD j = false) → n ≤ 32 → steps n (y <<< n) = y := by
  induction n with
  | zero => intro y _ _; simp [steps]
  | succ n ih =>
    intro y hy hn
    have hb : bitStep (y <<< (n + 1)) = y <<< n := by
      unfold bitStep
      have h0 : (y <<< (n + 1)).getLsbD 0 = false := by simp [BitVec.getLsbD_shiftLeft]
      rw [h0]
      simp only [Bool.false_eq_true, if_false, BitVec.xor_zero]
      apply BitVec.eq_of_getLsbD_eq
      intro i hi
      simp only [BitVec.getLsbD_ushiftRight, BitVec.getLsbD_shiftLeft]
      by_cases h31 : i = 31
      · subst h31
        have := hy (31 - n) (by omega)
        rw [this]
        simp
      · have e1 : 1 + i - (n + 1) = i - n := by omega
        have e2 : decide (1 + i < 32) = true := by simp; omega
        have e3 : decide (i < 32) = true := by simp; omega
        have e4 : decide (1 + i < n + 1) = decide (i < n) := by
          rw [Bool.eq_iff_iff]; simp; omega
        rw [e1, e2, e3, e4]
    rw [steps, hb]
    exact ih y (fun j hj => hy j (by omega)) (by omega)

/-- Up to four bytes as one word, the first one lowest. -/
def word : List (BitVec 32) → BitVec 32
  | [] => 0#32
  | d :: ds => d ^^^ (word ds <<< 8)

def isByte (d : BitVec 32) : Prop := ∀ j, 8 ≤ j → d.getLsbD j = false

theorem word_high : ∀ (l : List (BitVec 32)), (∀ d ∈ l, isByte d) → ∀ j, 8 * l.length ≤ j → (word l).getLsbD j = false := by
  intro l
  induction l with
  | nil => intro _ j _; simp [word]
  | cons d ds ih =>
    intro h j hj
    rw [List.length_cons] at hj
    simp only [word, BitVec.getLsbD_xor, BitVec.getLsbD_shiftLeft]
    rw [h d (by simp) j (by omega), ih (fun x hx => h x (by simp [hx])) (j - 8) (by omega)]
    simp

theorem run_word : ∀ (l : List (BitVec 32)) (c : BitVec 32), (∀ d ∈ l, isByte d) → l.length ≤ 4 → run c l = steps (8 * l.length) (c ^^^ word l) := by
  intro l
  induction l with
  | nil => intro c _ _; simp [run, steps, word]
  | cons d ds ih =>
    intro c h hl
    rw [List.length_cons] at hl
    rw [run_cons, ih _ (fun x hx => h x (by simp [hx])) (by omega)]
    have e : byteStep c d ^^^ word ds = steps 8 (c ^^^ word (d :: ds)) := by
      have hs : steps 8 (word ds <<< 8) = word ds := steps_shift 8 (word ds) (fun j hj => word_high ds (fun x hx => h x (by simp [hx])) j (by omega)) (by omega)
      simp only [word]
      rw [← BitVec.xor_assoc, steps_xor, hs]
      rfl
    rw [e, List.length_cons]
    have add : ∀ n m x, steps (n + m) x = steps n (steps m x) := by
      intro n m
      induction m with
      | zero => intro x; rfl
      | succ m ihm => intro x; rw [← Nat.add_assoc, steps, ihm]; rfl
    rw [Nat.mul_add, Nat.mul_one, add]

theorem word_zero : ∀ (l : List (BitVec 32)), (∀ d ∈ l, isByte d) → l.length ≤ 4 → word l = 0#32 → ∀ d ∈ l, d = 0#32 := by
  intro l
  induction l with
  | nil => intro _ _ _ d hd; simp at hd
  | cons d ds ih =>
    intro h hl hz x hx
    rw [List.length_cons] at hl
    simp only [word] at hz
    have hd : d = 0#32 := by
      apply BitVec.eq_of_getLsbD_eq
      intro i hi
      rw [BitVec.getLsbD_zero]
      by_cases h8 : 8 ≤ i
      · exact h d (by simp) i h8
      · have := congrArg (fun v => BitVec.getLsbD v i) hz
        simp only [BitVec.getLsbD_xor, BitVec.getLsbD_shiftLeft, BitVec.getLsbD_zero] at this
        have e : decide (i < 8) = true := by simp; omega
        rw [e] at this
        simpa using this
    have hw : word ds = 0#32 := by
      apply BitVec.eq_of_getLsbD_eq
      intro i hi
      rw [BitVec.getLsbD_zero]
      by_cases h24 : 24 ≤ i
      · exact word_high ds (fun x hx => h x (by simp [hx])) i (by omega)
      · have := congrArg (fun v => BitVec.getLsbD v (i + 8)) hz
        simp only [BitVec.getLsbD_xor, BitVec.getLsbD_shiftLeft, BitVec.getLsbD_zero] at this
        rw [hd] at this
        have e : decide (i + 8 < 32) = true := by simp; omega
        have e2 : decide (i + 8 < 8) = false := by simp
        rw [e, e2] at this
        simpa using this
    rcases List.mem_cons.1 hx with rfl | hx
    · exact hd
    · exact ih (fun x hx => h x (by simp [hx])) (by omega) hw x hx

/-- Four neighbouring bytes at most, of which one is changed, change the register. -/
theorem run_change {l : List (BitVec 32)} {n : Nat} (h : ∀ d ∈ l, isByte d) (hl : l.length ≤ 4) (hz : run 0#32 (l ++ List.replicate n 0#32) = 0#32) : ∀ d ∈ l, d = 0#32 := by
  rw [run_append, run_word l _ h hl] at hz
  have h2 := steps_inj _ (run_zeros_inj n hz)
  simp only [BitVec.zero_xor] at h2
  exact word_zero l h hl h2

/-! numbers -/
theorem ofInt_toNat (c : BitVec 32) : BitVec.ofInt 32 (c.toNat : Int) = c := by
  rw [BitVec.ofInt_natCast, BitVec.ofNat_toNat, BitVec.setWidth_eq]
theorem toNat_lt (c : BitVec 32) : (c.toNat : Int) < 4294967296 := by have := c.isLt; omega
theorem wrap_u32 (n : Nat) (h : n < 4294967296) : IntKind.u32.wrap (n : Int) = n := by
  simp only [IntKind.wrap, IntKind.bits, IntKind.signed]
  simp
  omega
theorem xor32 (a b : BitVec 32) : Go.bits .xor .u32 (a.toNat : Int) (b.toNat : Int) = ((a ^^^ b).toNat : Int) := by
  unfold Go.bits
  simp only [IntKind.bits]
  rw [ofInt_toNat, ofInt_toNat]
  exact wrap_u32 _ (a ^^^ b).isLt
theorem and32 (a b : BitVec 32) : Go.bits .and .u32 (a.toNat : Int) (b.toNat : Int) = ((a &&& b).toNat : Int) := by
  unfold Go.bits
  simp only [IntKind.bits]
  rw [ofInt_toNat, ofInt_toNat]
  exact wrap_u32 _ (a &&& b).isLt
theorem emod32 (x : Int) : x % 4294967296 = ((BitVec.ofInt 32 x).toNat : Int) := by
  rw [BitVec.toNat_ofInt]
  simp
  omega
theorem half32 (c : BitVec 32) : (c.toNat : Int) / (2 : Int) = ((c >>> 1).toNat : Int) := by
  rw [BitVec.toNat_ushiftRight, Nat.shiftRight_eq_div_pow]
  simp
theorem and_one (c : BitVec 32) : Go.bits .and .u32 (c.toNat : Int) 1 = if c.getLsbD 0 then 1 else 0 := by
  have e : (1 : Int) = ((1#32 : BitVec 32).toNat : Int) := by decide
  conv => lhs; rw [e]
  rw [and32, BitVec.toNat_and]
  have : (1#32 : BitVec 32).toNat = 1 := by decide
  rw [this, Nat.and_one_is_mod, BitVec.getLsbD, Nat.testBit_zero]
  rcases Nat.mod_two_eq_zero_or_one c.toNat with h | h <;> simp [h]
theorem step_code (c : BitVec 32) : Go.bits .xor .u32 ((c.toNat : Int) / 2) (Go.bits .and .u32 2197175160 ((-(Go.bits .and .u32 (c.toNat : Int) 1)) % 4294967296)) = ((bitStep c).toNat : Int) := by
  have e : ∀ b : BitVec 32, Go.bits .and .u32 2197175160 (b.toNat : Int) = ((P32 &&& b).toNat : Int) := fun b => and32 P32 b
  rw [and_one, half32]
  unfold bitStep
  cases c.getLsbD 0 with
  | true =>
    have h1 : (-(if true = true then (1 : Int) else 0)) % 4294967296 = ((BitVec.allOnes 32).toNat : Int) := by decide
    rw [h1, e, xor32, BitVec.and_allOnes]
    simp
  | false =>
    have h1 : (-(if false = true then (1 : Int) else 0)) % 4294967296 = ((0#32).toNat : Int) := by decide
    rw [h1, e, xor32, BitVec.and_zero]
    simp
theorem ref_code1 (c : BitVec 32) (h : c.getLsbD 0 = true) : Go.bits .xor .u32 ((c.toNat : Int) / 2) 2197175160 = ((bitStep c).toNat : Int) := by
  have e : ∀ b : BitVec 32, Go.bits .xor .u32 (b.toNat : Int) 2197175160 = ((b ^^^ P32).toNat : Int) := fun b => xor32 b P32
  rw [half32, e]
  unfold bitStep
  rw [h, if_pos rfl]
theorem ref_code0 (c : BitVec 32) (h : c.getLsbD 0 = false) : (c.toNat : Int) / 2 = ((bitStep c).toNat : Int) := by
  rw [half32]
  unfold bitStep
  rw [h]
  simp
theorem not_code (c : BitVec 32) : Go.bits .xor .u32 4294967295 (c.toNat : Int) = ((~~~c).toNat : Int) := by
  have e : (4294967295 : Int) = ((BitVec.allOnes 32).toNat : Int) := by decide
  rw [e, xor32, BitVec.allOnes_xor]

/-- Bytes as words. -/
def vals (l : List Int) : List (BitVec 32) := l.map (BitVec.ofInt 32)
theorem vals_append (l m : List Int) : vals (l ++ m) = vals l ++ vals m := by simp [vals]
theorem vals_length (l : List Int) : (vals l).length = l.length := by simp [vals]
/-- What the program's and the document's More come to. -/
def more (c : BitVec 32) (l : List Int) : BitVec 32 := ~~~(run (~~~c) (vals l))
theorem more_append (c : BitVec 32) (l m : List Int) : more (more c l) m = more c (l ++ m) := by
  unfold more
  rw [BitVec.not_not, vals_append, run_append]
theorem more_nil (c : BitVec 32) : more c [] = c := by
  unfold more
  simp [vals, run_nil]
def crc (l : List Int) : Int := ((more 0#32 l).toNat : Int)

end Go.Proofs.Ytgmeellapjimgaa.Crc

/- What the program's and the document's sums come to, as printed: the sum of CrcPlain, for any bytes. -/
namespace Go.Proofs.Ytgmeellapjimgaa.Crc
open Go Go.RowKit Go.Proofs.Ytgmeellapjimgaa.PBd Go.Proofs.YtgmeellapjimgaaW.PrintWords Go.Proofs.YtgmeellapjimgaaW.PrintLast Go.Proofs.YtgmeellapjimgaaW.PrintMore
set_option linter.unusedVariables false
set_option linter.unusedSimpArgs false

theorem up64 (i : Nat) (h : i ≤ 4000000000000000000) : wrap64 ((i : Int) + 1) = ((i + 1 : Nat) : Int) := by unfold wrap64; omega

theorem more_l1 (x9 : List Int) (x10 x11 : Int) (n : Nat) : ∀ (k : Nat) (c : BitVec 32), n ≤ 8 →
    crc_More.l1 (k + n + 1) (c.toNat : Int) x9 x10 x11 (8 - (n : Int)) = crc_More.l0 k ((steps n c).toNat : Int) x9 x10 (wrap64 (x11 + 1)) := by
  induction n with
  | zero =>
    intro k c _
    simp only [Nat.add_zero, crc_More.l1]
    rw [if_neg (by omega)]
    rfl
  | succ n ih =>
    intro k c hn
    obtain ⟨m, hm⟩ : ∃ m, m = k + n + 1 := ⟨_, rfl⟩
    rw [show k + (n + 1) + 1 = m + 1 from by omega]
    simp only [crc_More.l1]
    rw [if_pos (by omega), step_code]
    have e : wrap64 (8 - ((n + 1 : Nat) : Int) + 1) = 8 - (n : Int) := by unfold wrap64; omega
    rw [e, hm, ih k _ (by omega)]
    rfl

theorem vals_drop (l : List Int) (i : Nat) (h : i < l.length) : vals (l.drop i) = BitVec.ofInt 32 (rd l (i : Int)) :: vals (l.drop (i + 1)) := by
  rw [List.drop_eq_getElem_cons h]
  unfold vals rd
  rw [List.map_cons, Int.toNat_natCast, List.getD_eq_getElem?_getD, List.getElem?_eq_getElem h]
  rfl

theorem more_l0 (l : List Int) (hl : l.length ≤ 4000000000000000000) (n : Nat) : ∀ (k i : Nat) (c : BitVec 32), i + n = l.length →
    crc_More.l0 (k + 10 * n + 1) (c.toNat : Int) l (l.length : Int) (i : Int) = some ((~~~(run c (vals (l.drop i)))).toNat : Int) := by
  induction n with
  | zero =>
    intro k i c h
    simp only [Nat.mul_zero, Nat.add_zero, crc_More.l0]
    rw [if_neg (by omega), List.drop_eq_nil_of_le (by omega)]
    rw [not_code]
    rfl
  | succ n ih =>
    intro k i c h
    obtain ⟨m, hm⟩ : ∃ m, m = k + 10 * n + 1 + 8 + 1 := ⟨_, rfl⟩
    rw [show k + 10 * (n + 1) + 1 = m + 1 from by omega]
    simp only [crc_More.l0]
    rw [if_pos (by omega), if_pos (by omega), if_pos (by omega), emod32, xor32, hm]
    have := more_l1 l (l.length : Int) (i : Int) 8 (k + 10 * n + 1) (c ^^^ BitVec.ofInt 32 (rd l (i : Int))) (by omega)
    rw [show (8 : Int) - ((8 : Nat) : Int) = 0 from by decide] at this
    rw [this, up64 i (by omega), ih k (i + 1) _ (by omega), vals_drop l i (by omega)]
    rfl

theorem more_f (c : BitVec 32) (l : List Int) (hl : l.length ≤ 4000000000000000000) (k : Nat) (hk : 10 * l.length + 1 ≤ k) : crc_More.f k (c.toNat : Int) l = some ((more c l).toNat : Int) := by
  obtain ⟨d, rfl⟩ : ∃ d, k = d + 10 * l.length + 1 := ⟨k - (10 * l.length + 1), by omega⟩
  unfold crc_More.f
  rw [not_code]
  exact more_l0 l hl l.length d 0 (~~~c) (by omega)

theorem sum_f (l : List Int) (hl : l.length ≤ 4000000000000000000) (k : Nat) (hk : 10 * l.length + 1 ≤ k) : crc_Sum.f k l = some (crc l) := by
  unfold crc_Sum.f
  have := more_f 0#32 l hl k hk
  rw [show (((0#32 : BitVec 32).toNat : Nat) : Int) = 0 from by decide] at this
  rw [this]
  rfl

theorem rstep_l0 (n : Nat) : ∀ (k : Nat) (c : BitVec 32), n ≤ 8 → bollardref1_step.l0 (k + n + 1) (c.toNat : Int) (8 - (n : Int)) = some ((steps n c).toNat : Int) := by
  induction n with
  | zero =>
    intro k c _
    simp only [Nat.add_zero, bollardref1_step.l0]
    rw [if_neg (by omega)]
    rfl
  | succ n ih =>
    intro k c hn
    obtain ⟨m, hm⟩ : ∃ m, m = k + n + 1 := ⟨_, rfl⟩
    rw [show k + (n + 1) + 1 = m + 1 from by omega]
    simp only [bollardref1_step.l0]
    have e : wrap64 (8 - ((n + 1 : Nat) : Int) + 1) = 8 - (n : Int) := by unfold wrap64; omega
    rw [if_pos (by omega), and_one, e]
    cases hb : c.getLsbD 0 with
    | true =>
      rw [if_pos (by simp), ref_code1 c hb, hm, ih k _ (by omega)]
      rfl
    | false =>
      rw [if_neg (by simp), ref_code0 c hb, hm, ih k _ (by omega)]
      rfl

theorem rstep_f (c : BitVec 32) (x : Int) (k : Nat) (hk : 9 ≤ k) : bollardref1_step.f k (c.toNat : Int) x = some ((byteStep c (BitVec.ofInt 32 x)).toNat : Int) := by
  obtain ⟨d, rfl⟩ : ∃ d, k = d + 8 + 1 := ⟨k - 9, by omega⟩
  unfold bollardref1_step.f
  rw [emod32, xor32]
  have := rstep_l0 8 d (c ^^^ BitVec.ofInt 32 x) (by omega)
  rw [show (8 : Int) - ((8 : Nat) : Int) = 0 from by decide] at this
  exact this

theorem rmore_l0 (l : List Int) (hl : l.length ≤ 4000000000000000000) (n : Nat) : ∀ (k i : Nat) (c : BitVec 32), i + n = l.length →
    bollardref1_More.l0 (k + n + 10) (c.toNat : Int) l (i : Int) = some ((~~~(run c (vals (l.drop i)))).toNat : Int) := by
  induction n with
  | zero =>
    intro k i c h
    simp only [Nat.add_zero, bollardref1_More.l0]
    rw [if_neg (by omega), List.drop_eq_nil_of_le (by omega)]
    rw [not_code]
    rfl
  | succ n ih =>
    intro k i c h
    obtain ⟨m, hm⟩ : ∃ m, m = k + n + 10 := ⟨_, rfl⟩
    rw [show k + (n + 1) + 10 = m + 1 from by omega]
    simp only [bollardref1_More.l0]
    rw [if_pos (by omega), if_pos (by omega), rstep_f c _ m (by omega)]
    simp only [Option.bind_some]
    rw [up64 i (by omega), hm, ih k (i + 1) _ (by omega), vals_drop l i (by omega)]
    rfl

theorem rmore_f (c : BitVec 32) (l : List Int) (hl : l.length ≤ 4000000000000000000) (k : Nat) (hk : l.length + 10 ≤ k) : bollardref1_More.f k (c.toNat : Int) l = some ((more c l).toNat : Int) := by
  obtain ⟨d, rfl⟩ : ∃ d, k = d + l.length + 10 := ⟨k - (l.length + 10), by omega⟩
  unfold bollardref1_More.f
  rw [not_code]
  exact rmore_l0 l hl l.length d 0 (~~~c) (by omega)

theorem rsum_f (l : List Int) (hl : l.length ≤ 4000000000000000000) (k : Nat) (hk : l.length + 10 ≤ k) : bollardref1_Sum.f k l = some (crc l) := by
  unfold bollardref1_Sum.f
  have := rmore_f 0#32 l hl k hk
  rw [show (((0#32 : BitVec 32).toNat : Nat) : Int) = 0 from by decide] at this
  rw [this]
  rfl

end Go.Proofs.Ytgmeellapjimgaa.Crc

/- The program's groups of seven digits, as printed, and what holds of them. -/
namespace Go.Proofs.Ytgmeellapjimgaa.Bp
open Go Go.RowKit Go.Proofs.Ytgmeellapjimgaa.PBd Go.Proofs.YtgmeellapjimgaaW.PrintWords Go.Proofs.YtgmeellapjimgaaW.PrintLast Go.Proofs.YtgmeellapjimgaaW.PrintMore
set_option linter.unusedVariables false
set_option linter.unusedSimpArgs false

theorem varint_l0 (n : Nat) : ∀ (k v : Nat) (acc : List Int), v < 128 ^ (n + 1) → n + 1 ≤ k → acc.length + n + 1 < 140737488355328 → bits_Varint.l0 k (v : Int) acc = some (acc ++ vr v) := by
  induction n with
  | zero =>
    intro k v acc hv hk ha
    obtain ⟨K, rfl⟩ : ∃ K, k = K + 1 := ⟨k - 1, by omega⟩
    simp only [bits_Varint.l0]
    rw [if_neg (by omega), if_pos (by omega), vr_small (by omega), show ((v : Int)) % 256 = (v : Int) from by omega]
  | succ n ih =>
    intro k v acc hv hk ha
    obtain ⟨K, rfl⟩ : ∃ K, k = K + 1 := ⟨k - 1, by omega⟩
    simp only [bits_Varint.l0]
    by_cases c : v < 128
    · rw [if_neg (by omega), if_pos (by omega), vr_small c, show ((v : Int)) % 256 = (v : Int) from by omega]
    · rw [if_pos (by omega), if_pos (by omega), or128, show (v : Int) / 128 = ((v / 128 : Nat) : Int) from by omega, ih K (v / 128) _ ?_ (by omega) (by simp; omega), vr_big c]
      · rw [List.append_assoc, show ((v : Int)) % 128 + 128 = ((v % 128 + 128 : Nat) : Int) from by omega]
        rfl
      · rw [Nat.pow_succ] at hv
        omega

theorem varint_f (v : Nat) (hv : v < 18446744073709551616) (k : Nat) (hk : 10 ≤ k) : bits_Varint.f k (v : Int) = some (vr v) := by
  unfold bits_Varint.f
  rw [varint_l0 9 k v [] (by omega) (by omega) (by simp), List.nil_append]

theorem vr_ne (v : Nat) : vr v ≠ [] := by
  by_cases h : v < 128
  · rw [vr_small h]; simp
  · rw [vr_big h]; simp

theorem vr_len (n : Nat) : ∀ v : Nat, v < 128 ^ (n + 1) → (vr v).length ≤ n + 1 := by
  induction n with
  | zero => intro v hv; rw [vr_small (by omega)]; simp
  | succ n ih =>
    intro v hv
    by_cases h : v < 128
    · rw [vr_small h]; simp
    · rw [vr_big h, List.length_cons]
      have := ih (v / 128) (by rw [Nat.pow_succ] at hv; omega)
      omega

theorem vr_bytes : ∀ v : Nat, Bytes (vr v) := by
  intro v
  induction v using Nat.strongRecOn with
  | _ v ih =>
    by_cases h : v < 128
    · rw [vr_small h]
      intro x hx
      simp at hx
      omega
    · rw [vr_big h]
      intro x hx
      rcases List.mem_cons.1 hx with rfl | hx
      · omega
      · exact ih (v / 128) (by omega) x hx


end Go.Proofs.Ytgmeellapjimgaa.Bp

/- Numbers of either sign as numbers without one, as printed. -/
namespace Go.Proofs.Ytgmeellapjimgaa.Bp
open Go Go.RowKit Go.Proofs.Ytgmeellapjimgaa.PBd Go.Proofs.YtgmeellapjimgaaW.PrintWords Go.Proofs.YtgmeellapjimgaaW.PrintLast Go.Proofs.YtgmeellapjimgaaW.PrintMore
set_option linter.unusedVariables false
set_option linter.unusedSimpArgs false

theorem xor_ones {x : Int} (h : 0 ≤ x ∧ x < 18446744073709551616) : Go.bits .xor .u64 x 18446744073709551615 = 18446744073709551615 - x := by
  obtain ⟨a, rfl⟩ := Int.eq_ofNat_of_zero_le h.1
  have e : (18446744073709551615 : Int) = ((18446744073709551615 : Nat) : Int) := rfl
  rw [e, u64_xor_nat a 18446744073709551615 (by omega) (by omega)]
  have q : (BitVec.ofNat 64 a ^^^ BitVec.allOnes 64).toNat = (~~~(BitVec.ofNat 64 a)).toNat := by rw [BitVec.xor_allOnes]
  rw [BitVec.toNat_xor, BitVec.toNat_not, BitVec.toNat_ofNat, BitVec.toNat_allOnes, Nat.mod_eq_of_lt (by omega)] at q
  rw [show (18446744073709551615 : Nat) = 2 ^ 64 - 1 from rfl, q]
  omega
theorem xor_nought {x : Int} (h : 0 ≤ x ∧ x < 18446744073709551616) : Go.bits .xor .u64 x 0 = x := by
  obtain ⟨a, rfl⟩ := Int.eq_ofNat_of_zero_le h.1
  have e : (0 : Int) = ((0 : Nat) : Int) := rfl
  rw [e, u64_xor_nat a 0 (by omega) (by omega), Nat.xor_zero]

def zig (n : Int) : Int := if 0 ≤ n then 2 * n else -2 * n - 1
theorem zig_range {n : Int} (h : -9223372036854775808 ≤ n ∧ n ≤ 9223372036854775807) : 0 ≤ zig n ∧ zig n < 18446744073709551616 := by unfold zig; split <;> omega
theorem zig_f {n : Int} (h : -9223372036854775808 ≤ n ∧ n ≤ 9223372036854775807) : bits_Zig.f n = some (zig n) := by
  unfold bits_Zig.f zig
  simp only [IntKind.wrap_u64]
  by_cases c : 0 ≤ n
  · rw [if_pos c, show n / 9223372036854775808 = 0 from by omega, show n % 18446744073709551616 * 2 % 18446744073709551616 = 2 * n from by omega, show (0 : Int) % 18446744073709551616 = 0 from rfl, xor_nought (by omega)]
  · rw [if_neg c, show n / 9223372036854775808 = -1 from by omega, show n % 18446744073709551616 * 2 % 18446744073709551616 = 2 * n + 18446744073709551616 from by omega, show (-1 : Int) % 18446744073709551616 = 18446744073709551615 from rfl, xor_ones (by omega)]
    congr 1
    omega


end Go.Proofs.Ytgmeellapjimgaa.Bp

/- What the program's Check and Encode of a record come to, as printed. -/
namespace Go.Proofs.Ytgmeellapjimgaa.Bp
open Go Go.RowKit Go.Proofs.Ytgmeellapjimgaa.PBd Go.Proofs.YtgmeellapjimgaaW.PrintWords Go.Proofs.YtgmeellapjimgaaW.PrintLast Go.Proofs.YtgmeellapjimgaaW.PrintMore
set_option linter.unusedVariables false
set_option linter.unusedSimpArgs false

/-- May a record be? 0: it may. -/
def odd (hk : Bool) (key : ByteArray) (hv : Bool) (val : ByteArray) (t o : Int) : Prop := (hk = false ∧ key.toList ≠ []) ∨ (hv = false ∧ val.toList ≠ []) ∨ t < 0 ∨ t > 1125899906842624 ∨ o < 0 ∨ o ≥ 100
instance (hk : Bool) (key : ByteArray) (hv : Bool) (val : ByteArray) (t o : Int) : Decidable (odd hk key hv val t o) := by unfold odd; infer_instance
def chk (hk : Bool) (key : ByteArray) (hv : Bool) (val : ByteArray) (t o : Int) : Int := if odd hk key hv val t o then 1 else if key.size > 2000 ∨ val.size > 2000 then 2 else 0

theorem check_f (k : Nat) (hk : Bool) (key : ByteArray) (hv : Bool) (val : ByteArray) (t o : Int) (h : 3 ≤ k) : record_Check.f k hk key hv val t o = some (chk hk key hv val t o) := by
  unfold record_Check.f chk rchk
  congr 1
  by_cases c : odd hk key hv val t o
  · rw [if_pos c, if_pos (by unfold odd at c; simp only [Bool.or_eq_true, Bool.and_eq_true, Bool.not_eq_true', List.isEmpty_eq_false_iff, decide_eq_true_eq]; exact c)]
  · rw [if_neg c, if_neg (by unfold odd at c; simp only [Bool.or_eq_true, Bool.and_eq_true, Bool.not_eq_true', List.isEmpty_eq_false_iff, decide_eq_true_eq]; exact c)]
    by_cases d : key.size > 2000 ∨ val.size > 2000
    · rw [if_pos d, if_pos (by omega)]
    · rw [if_neg d, if_neg (by omega)]

/-- A text with its length ahead. -/
def txt (s : ByteArray) : List Int := vr s.size ++ bytesOf s
theorem bytesOf_len (s : ByteArray) : (bytesOf s).length = s.size := by unfold bytesOf; simp
theorem text_f (s : ByteArray) (hs : s.size ≤ 140737488351232) (k : Nat) (hk : 10 ≤ k) : record_text.f k s = some (txt s) := by
  unfold record_text.f
  have hv := vr_len 9 s.size (by omega)
  rw [u64_id (by omega) (by omega), varint_f s.size (by omega) k hk, Option.bind_some, if_pos (by omega)]
  rfl
/-- Pieces, one behind the other. -/
theorem rd_L1_at {l : List (List Int)} {i : Nat} (h : i < l.length) : rd_L1 l (i : Int) = l[i] := by
  unfold rd_L1
  rw [Int.toNat_natCast, List.getD_eq_getElem?_getD, List.getElem?_eq_getElem h]
  rfl
theorem join_l0 (l : List (List Int)) (hl : l.length ≤ 1000) (n : Nat) : ∀ (k i : Nat) (acc : List Int), i + n = l.length → n + 1 ≤ k → acc.length + (l.drop i).flatten.length < 140737488355328 →
    record_join.l0 k acc l (l.length : Int) (i : Int) = some (acc ++ (l.drop i).flatten) := by
  induction n with
  | zero =>
    intro k i acc hi hk ha
    obtain ⟨K, rfl⟩ : ∃ K, k = K + 1 := ⟨k - 1, by omega⟩
    simp only [record_join.l0]
    rw [if_neg (by omega), List.drop_eq_nil_of_le (by omega)]
    simp
  | succ n ih =>
    intro k i acc hi hk ha
    obtain ⟨K, rfl⟩ : ∃ K, k = K + 1 := ⟨k - 1, by omega⟩
    simp only [record_join.l0]
    have hd : l.drop i = l[i] :: l.drop (i + 1) := List.drop_eq_getElem_cons (by omega)
    rw [hd, List.flatten_cons, List.length_append] at ha
    rw [if_pos (by omega), if_pos (by omega), if_pos (by omega), rd_L1_at (by omega), if_pos (by omega), up64 i (by omega), ih K (i + 1) _ (by omega) (by omega) (by rw [List.length_append]; omega), hd, List.flatten_cons, List.append_assoc]
theorem join_f (l : List (List Int)) (hl : l.length ≤ 1000) (k : Nat) (hk : l.length + 1 ≤ k) (ha : l.flatten.length < 140737488355328) : record_join.f k l = some l.flatten := by
  unfold record_join.f
  have := join_l0 l hl l.length k 0 [] (by omega) hk (by simpa using ha)
  simpa using this

def flags (hk hv : Bool) : Int := (if hk = true then 1 else 0) + (if hv = true then 2 else 0)
/-- A record's bytes. -/
def enc (hk : Bool) (key : ByteArray) (hv : Bool) (val : ByteArray) (t o first : Int) : List Int :=
  flags hk hv :: (vr o.toNat ++ (vr (zig (t - first)).toNat ++ ((if hk = true then txt key else []) ++ (if hv = true then txt val else []))))
theorem or01 : Go.bits .or .u8 0 1 = 1 := by decide
theorem or02 : Go.bits .or .u8 0 2 = 2 := by decide
theorem or12 : Go.bits .or .u8 1 2 = 3 := by decide

theorem txt_len (b : Bool) (s : ByteArray) (hs : s.size ≤ 140737488351232) : (if b = true then txt s else []).length ≤ 20 + s.size := by
  have := vr_len 9 s.size (by omega)
  split
  · unfold txt
    rw [List.length_append, bytesOf_len]; omega
  · simp
theorem enc_len (hk : Bool) (key : ByteArray) (hv : Bool) (val : ByteArray) (t o first : Int) (ho : o < 1000) (ht : -9223372036854775808 ≤ t - first ∧ t - first ≤ 9223372036854775807) (h1 : key.size ≤ 140737488351232) (h2 : val.size ≤ 140737488351232) :
    (enc hk key hv val t o first).length ≤ 80 + key.size + val.size := by
  have v1 := vr_len 9 o.toNat (by omega)
  have hz := zig_range ht
  have v2 := vr_len 9 (zig (t - first)).toNat (by omega)
  have a := txt_len hk key h1
  have b := txt_len hv val h2
  unfold enc
  simp only [List.length_cons, List.length_append]
  omega

theorem encode_j3 (l : List (List Int)) (hk : Bool) (key : ByteArray) (hv : Bool) (val : ByteArray) (t o : Int) (k : Nat) (h : 20 ≤ k) (hl : l.length ≤ 10) (hf : l.flatten.length ≤ 1000000) (hs : val.size ≤ 1000000) :
    record_Encode.j3 k l hk key hv val t o = some (l.flatten ++ (if hv = true then txt val else []), 0) := by
  obtain ⟨K, rfl⟩ : ∃ K, k = K + 1 := ⟨k - 1, by omega⟩
  simp only [record_Encode.j3]
  have b := txt_len true val (by omega)
  rw [if_pos rfl] at b
  by_cases c : hv = true
  · rw [if_pos c, if_pos c, text_f val (by omega) K (by omega), Option.bind_some, if_pos (by omega), join_f _ (by simp; omega) K (by simp; omega) (by simp only [List.flatten_append, List.length_append, List.flatten_cons, List.flatten_nil, List.append_nil]; omega), Option.bind_some]
    simp
  · rw [if_neg c, if_neg c, join_f _ (by omega) K (by omega) (by omega), Option.bind_some, List.append_nil]

theorem encode_j2 (x first : Int) (hk : Bool) (key : ByteArray) (hv : Bool) (val : ByteArray) (t o : Int) (k : Nat) (h : 30 ≤ k) (ho : 0 ≤ o ∧ o < 1000) (ht : -9223372036854775808 ≤ t - first ∧ t - first ≤ 9223372036854775807) (h1 : key.size ≤ 100000) (h2 : val.size ≤ 100000) :
    record_Encode.j2 k first x hk key hv val t o = some (x :: (vr o.toNat ++ (vr (zig (t - first)).toNat ++ ((if hk = true then txt key else []) ++ (if hv = true then txt val else [])))), 0) := by
  obtain ⟨K, rfl⟩ : ∃ K, k = K + 1 := ⟨k - 1, by omega⟩
  simp only [record_Encode.j2]
  have hz := zig_range ht
  have v1 := vr_len 9 o.toNat (by omega)
  have v2 := vr_len 9 (zig (t - first)).toNat (by omega)
  have a := txt_len true key (by omega)
  rw [if_pos rfl] at a
  have e1 : bits_Varint.f K (IntKind.u64.wrap o) = some (vr o.toNat) := by
    rw [u64_id (by omega) (by omega)]
    have := varint_f o.toNat (by omega) K (by omega)
    rw [Int.toNat_of_nonneg ho.1] at this
    exact this
  have e2 : bits_Varint.f K (zig (t - first)) = some (vr (zig (t - first)).toNat) := by
    have := varint_f (zig (t - first)).toNat (by omega) K (by omega)
    rw [Int.toNat_of_nonneg hz.1] at this
    exact this
  rw [e1, Option.bind_some, w64 (x := t - first) ht.1 ht.2, zig_f ht, Option.bind_some, e2, Option.bind_some, Option.bind_some]
  by_cases c : hk = true
  · rw [if_pos c, if_pos c, text_f key (by omega) K (by omega), Option.bind_some, if_pos (by simp), encode_j3 _ hk key hv val t o K (by omega) (by simp) (by simp; omega) (by omega)]
    simp
  · rw [if_neg c, if_neg c, encode_j3 _ hk key hv val t o K (by omega) (by simp) (by simp; omega) (by omega)]
    simp

theorem encode_f (hk : Bool) (key : ByteArray) (hv : Bool) (val : ByteArray) (t o first : Int) (k : Nat) (h : 40 ≤ k) (h0 : chk hk key hv val t o = 0) (hf : 0 ≤ first ∧ first ≤ 1125899906842624) :
    record_Encode.f k hk key hv val t o first = some (enc hk key hv val t o first, 0) := by
  obtain ⟨K, rfl⟩ : ∃ K, k = K + 1 + 1 := ⟨k - 2, by omega⟩
  have hc : ¬ odd hk key hv val t o ∧ ¬ (key.size > 2000 ∨ val.size > 2000) := by
    unfold chk at h0
    by_cases q : odd hk key hv val t o
    · rw [if_pos q] at h0; omega
    · rw [if_neg q] at h0
      refine ⟨q, fun r => ?_⟩
      rw [if_pos r] at h0; omega
  obtain ⟨ho, hs⟩ := hc
  unfold odd at ho
  have hh : 0 ≤ t ∧ t ≤ 1125899906842624 ∧ 0 ≤ o ∧ o < 100 := by omega
  unfold record_Encode.f
  rw [check_f _ hk key hv val t o (by omega), h0, Option.bind_some, if_pos rfl, if_neg (by omega), decide_eq_false (by omega)]
  simp only [record_Encode.j0]
  rw [if_neg (by simp)]
  have j := fun x => encode_j2 x first hk key hv val t o K (by omega) (by omega) (by omega) (by omega) (by omega)
  have g : ∀ x, record_Encode.j1 (K + 1) first x hk key hv val t o = some ((if hv = true then Go.bits .or .u8 x 2 else x) :: (vr o.toNat ++ (vr (zig (t - first)).toNat ++ ((if hk = true then txt key else []) ++ (if hv = true then txt val else [])))), 0) := by
    intro x
    simp only [record_Encode.j1]
    by_cases c : hv = true
    · rw [if_pos c, j]
      simp only [c, if_true]
    · rw [if_neg c, j]
      simp [c]
  rw [g, g, or01]
  unfold enc flags
  cases hk <;> cases hv <;> simp [or02, or12]

theorem encode_odd (hk : Bool) (key : ByteArray) (hv : Bool) (val : ByteArray) (t o first : Int) (k : Nat) (h : 40 ≤ k) (h0 : chk hk key hv val t o ≠ 0) :
    record_Encode.f k hk key hv val t o first = some ([], chk hk key hv val t o) := by
  unfold record_Encode.f
  rw [check_f _ hk key hv val t o (by omega), Option.bind_some, if_neg h0]
theorem encode_first (hk : Bool) (key : ByteArray) (hv : Bool) (val : ByteArray) (t o first : Int) (k : Nat) (h : 40 ≤ k) (h0 : chk hk key hv val t o = 0) (hf : ¬ (0 ≤ first ∧ first ≤ 1125899906842624)) :
    record_Encode.f k hk key hv val t o first = some ([], 1) := by
  obtain ⟨K, rfl⟩ : ∃ K, k = K + 1 := ⟨k - 1, by omega⟩
  unfold record_Encode.f
  rw [check_f _ hk key hv val t o (by omega), h0, Option.bind_some, if_pos rfl]
  have e : record_Encode.j0 (K + 1) first true hk key hv val t o = some ([], 1) := by
    simp only [record_Encode.j0]
    rw [if_pos (by trivial)]
  by_cases c : first < 0
  · rw [if_pos c]; exact e
  · rw [if_neg c, decide_eq_true (by omega)]; exact e

end Go.Proofs.Ytgmeellapjimgaa.Bp

/- What the program's Encode of a record comes to, whatever the record. -/
namespace Go.Proofs.Ytgmeellapjimgaa.Bp
open Go Go.RowKit Go.Proofs.Ytgmeellapjimgaa.PBd Go.Proofs.YtgmeellapjimgaaW.PrintWords Go.Proofs.YtgmeellapjimgaaW.PrintLast Go.Proofs.YtgmeellapjimgaaW.PrintMore
set_option linter.unusedVariables false
set_option linter.unusedSimpArgs false

/-- What a record comes to, as bytes and an error. -/
def encR (hk : Bool) (key : ByteArray) (hv : Bool) (val : ByteArray) (t o first : Int) : List Int × Int :=
  if chk hk key hv val t o = 0 then (if 0 ≤ first ∧ first ≤ 1125899906842624 then (enc hk key hv val t o first, 0) else ([], 1)) else ([], chk hk key hv val t o)

theorem chk_ok {hk : Bool} {key : ByteArray} {hv : Bool} {val : ByteArray} {t o : Int} (h0 : chk hk key hv val t o = 0) :
    (hk = false → key.toList = []) ∧ (hv = false → val.toList = []) ∧ 0 ≤ t ∧ t ≤ 1125899906842624 ∧ 0 ≤ o ∧ o < 100 ∧ key.size ≤ 2000 ∧ val.size ≤ 2000 := by
  unfold chk at h0
  by_cases q : odd hk key hv val t o
  · rw [if_pos q] at h0; omega
  · rw [if_neg q] at h0
    have hs : ¬ (key.size > 2000 ∨ val.size > 2000) := fun r => by rw [if_pos r] at h0; omega
    unfold odd at q
    refine ⟨fun a => ?_, fun a => ?_, by omega, by omega, by omega, by omega, by omega, by omega⟩
    · exact Classical.byContradiction fun b => q (Or.inl ⟨a, b⟩)
    · exact Classical.byContradiction fun b => q (Or.inr (Or.inl ⟨a, b⟩))

theorem encode_R (hk : Bool) (key : ByteArray) (hv : Bool) (val : ByteArray) (t o first : Int) (k : Nat) (h : 40 ≤ k) : record_Encode.f k hk key hv val t o first = some (encR hk key hv val t o first) := by
  unfold encR
  by_cases c : chk hk key hv val t o = 0
  · rw [if_pos c]
    by_cases d : 0 ≤ first ∧ first ≤ 1125899906842624
    · rw [if_pos d, encode_f hk key hv val t o first k h c d]
    · rw [if_neg d, encode_first hk key hv val t o first k h c d]
  · rw [if_neg c, encode_odd hk key hv val t o first k h c]

end Go.Proofs.Ytgmeellapjimgaa.Bp

/- The document's groups of seven digits, as printed, are the same. -/
namespace Go.Proofs.Ytgmeellapjimgaa.Bp
open Go Go.RowKit Go.Proofs.Ytgmeellapjimgaa.PBd Go.Proofs.YtgmeellapjimgaaW.PrintWords Go.Proofs.YtgmeellapjimgaaW.PrintLast Go.Proofs.YtgmeellapjimgaaW.PrintMore
set_option linter.unusedVariables false
set_option linter.unusedSimpArgs false

theorem rvarint_l0 (n : Nat) : ∀ (k v : Nat) (acc : List Int), v < 18446744073709551616 → v < 128 ^ (n + 1) → n + 1 ≤ k → acc.length + n + 1 < 140737488355328 → bollardref1_Varint.l0 k (v : Int) acc = some (acc ++ vr v) := by
  induction n with
  | zero =>
    intro k v acc h64 hv hk ha
    obtain ⟨K, rfl⟩ : ∃ K, k = K + 1 := ⟨k - 1, by omega⟩
    simp only [bollardref1_Varint.l0]
    rw [if_neg (by omega), if_pos (by omega), vr_small (by omega), show ((v : Int)) % 256 = (v : Int) from by omega]
  | succ n ih =>
    intro k v acc h64 hv hk ha
    obtain ⟨K, rfl⟩ : ∃ K, k = K + 1 := ⟨k - 1, by omega⟩
    simp only [bollardref1_Varint.l0]
    by_cases c : v < 128
    · rw [if_neg (by omega), if_pos (by omega), vr_small c, show ((v : Int)) % 256 = (v : Int) from by omega]
    · rw [if_pos (by omega), if_pos (by omega), u64_and127 (by omega), u64_or128 (by omega), show (v : Int) / 128 = ((v / 128 : Nat) : Int) from by omega, ih K (v / 128) _ (by omega) ?_ (by omega) (by simp; omega), vr_big c]
      · rw [List.append_assoc, show (((v : Int)) % 128 + 128) % 256 = ((v % 128 + 128 : Nat) : Int) from by omega]
        rfl
      · rw [Nat.pow_succ] at hv
        omega

theorem rvarint_f (v : Nat) (hv : v < 18446744073709551616) (k : Nat) (hk : 10 ≤ k) : bollardref1_Varint.f k (v : Int) = some (vr v) := by
  unfold bollardref1_Varint.f
  rw [rvarint_l0 9 k v [] hv (by omega) (by omega) (by simp), List.nil_append]


end Go.Proofs.Ytgmeellapjimgaa.Bp
