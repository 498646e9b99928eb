import Derived.Test.YtncfofnikmfjbaaQCfCut
import Derived.Test.YtncfofnikmfjbaaQCfLwB
import Derived.Deep.CutBlock
import Derived.Outline
import Derived.StillTailTactics
import Derived.RegionTactic
import Derived.BigRegion
import Derived.Lib.BufferWrite
import Derived.Test.YtncfofnikmfjbaaQPCix2
import Derived.ChangeArms
import Derived.Deep.Slices
import Derived.DataReads
import Derived.SizedLaws
import Derived.WideShapes
import Derived.Test.YtncfofnikmfjbaaQWMore
namespace Go.Proofs.Ytncfofnikmfjbaa.PCi
open Go.RowKit Go.Proofs.YtncfofnikmfjbaaW.PrintWords Go.Proofs.YtncfofnikmfjbaaW.PrintLast Go.Proofs.YtncfofnikmfjbaaW.PrintMore
attribute [local go_sem] max2_int min2_int max_two min_two max_three min_three max_four min_four
set_option linter.unusedVariables false
set_option linter.unusedSimpArgs false

theorem in_f2 (a0_0 : Int) (a0_1 : Int) (a0_2 : ByteArray) (a0_3 : Int) (a0_4 : Int) (a0_5 : Int) (a0_6 : Int) (a0_7 : Int) (a0_8 : Bool) (a0_9 : Int) (a0_10 : Int) (a0_11 : Int) (A0_12 : Option Addr) (c0_12 : Nat) (l0_12 : List S98) (a0_13 : Int) (a0_14 : Int) (a0_15 : Int) (a0_16 : ByteArray) (h : RqArg (⟨a0_0, a0_1, a0_2, a0_3, a0_4, a0_5, a0_6, a0_7, a0_8, a0_9, a0_10, a0_11, (.slice A0_12 l0_12.length c0_12), a0_13, a0_14, a0_15, a0_16, 0, 0, 0, 0, 0, 0, .slice none 0 0, .slice none 0 0, .slice none 0 0⟩ : Msg) l0_12) : ∃ k r, bollardlaw20_in.f k a0_0 a0_1 a0_2 a0_3 a0_4 a0_5 a0_6 a0_7 a0_8 a0_9 a0_10 a0_11 l0_12 a0_13 a0_14 a0_15 a0_16 = some r ∧ (r = true → rqN (⟨a0_0, a0_1, a0_2, a0_3, a0_4, a0_5, a0_6, a0_7, a0_8, a0_9, a0_10, a0_11, (.slice A0_12 l0_12.length c0_12), a0_13, a0_14, a0_15, a0_16, 0, 0, 0, 0, 0, 0, .slice none 0 0, .slice none 0 0, .slice none 0 0⟩ : Msg) l0_12 ≤ 49999999) := by
  obtain ⟨k, r, h1, h2⟩ := small_f l0_12 (by have := h.len; omega) h.recs
  cases r with
  | false => exact ⟨k, false, by unfold bollardlaw20_in.f; rw [h1]; rfl, fun e => by cases e⟩
  | true =>
    refine ⟨k, decide (wrap64 ((a0_2.size : Int) + (a0_16.size : Int)) ≤ 140000), by unfold bollardlaw20_in.f; rw [h1]; rfl, fun e => ?_⟩
    have e1 := of_decide_eq_true e
    have e2 := h2 rfl
    have e3 : a0_2.size ≤ 140737488351232 := h.topic
    have e4 : a0_16.size ≤ 140737488351232 := h.group
    unfold wrap64 at e1
    unfold rqN
    dsimp only
    omega
set_option maxHeartbeats 4000000 in
set_option maxRecDepth 100000 in
theorem bollardlaw20_CodecFields.calls (k : Nat) (a0_0 : Int) (a0_1 : Int) (a0_2 : ByteArray) (a0_3 : Int) (a0_4 : Int) (a0_5 : Int) (a0_6 : Int) (a0_7 : Int) (a0_8 : Bool) (a0_9 : Int) (a0_10 : Int) (a0_11 : Int) (A0_12 : Option Addr) (c0_12 : Nat) (l0_12 : List S98) (a0_13 : Int) (a0_14 : Int) (a0_15 : Int) (a0_16 : ByteArray) (r : Bool) (w : World) (hr0_12 : Kd.C k98 w A0_12 l0_12.length l0_12) (hc0_12 : l0_12.length ≤ c0_12) (h : bollardlaw20_CodecFields.f k a0_0 a0_1 a0_2 a0_3 a0_4 a0_5 a0_6 a0_7 a0_8 a0_9 a0_10 a0_11 l0_12 a0_13 a0_14 a0_15 a0_16 = some r) :
    Calls Try.prog 4 #[.agg #[.int .i64 a0_0, .int .i64 a0_1, .string a0_2, .int .i64 a0_3, .int .i64 a0_4, .int .i64 a0_5, .int .i64 a0_6, .int .i64 a0_7, .bool a0_8, .int .i64 a0_9, .int .i64 a0_10, .int .i64 a0_11, .slice A0_12 l0_12.length c0_12, .int .i64 a0_13, .int .i64 a0_14, .int .i64 a0_15, .string a0_16]] w fun e w' => e = .returned (.bool r) ∧ Below w.heap.size w w' := by
  unfold bollardlaw20_CodecFields.f at h
  split at h
  case isFalse => cases h
  rename_i hcond
  obtain rfl := Option.some.inj h
  clear h
  obtain ⟨g0, g1, g2, g3, g4, g5, g6, g7, g8, g9, g10, g11, g12, g13, g14, g15⟩ := hcond
  have HT := Aside0.mk (show ∀ x ∈ l0_12, -9223372036854775808 ≤ x.f4 ∧ x.f4 ≤ 9223372036854775807 from fun x hx => wf_rng (g11.2 x hx).2.2.2.2.1)
  have hA := rq_arg a0_0 a0_1 a0_2 a0_3 a0_4 a0_5 a0_6 a0_7 a0_8 a0_9 a0_10 a0_11 A0_12 c0_12 l0_12 a0_13 a0_14 a0_15 a0_16 g0 g1 g2 g3 g4 g5 g6 g7 g8 g9 g10 g11 g12 g13 g14 g15
  clear g0 g1 g2 g3 g4 g5 g6 g7 g8 g9 g10 g11 g12 g13 g14 g15
  obtain ⟨k1, r1, hin, hin2⟩ := in_f2 a0_0 a0_1 a0_2 a0_3 a0_4 a0_5 a0_6 a0_7 a0_8 a0_9 a0_10 a0_11 A0_12 c0_12 l0_12 a0_13 a0_14 a0_15 a0_16 hA
  have HA := Aside0.mk hA
  have HIN := Aside0.mk hin
  have HIN2 := Aside0.mk hin2
  have HR := Aside0.mk hr0_12
  have HC := Aside0.mk hc0_12
  clear hA hin hin2 hr0_12 hc0_12
  go_enter Try.func4, Try.ntmps4
  go_upto_region 1 with (fail)
  (try simp only [Act.put, List.setIfInBounds_toArray, List.set_cons_zero, List.set_cons_succ])
  have P0 := Aside0.mk (And.intro (heap_alloc_new w (.cells #[.int .i64 a0_0, .int .i64 a0_1, .string a0_2, .int .i64 a0_3, .int .i64 a0_4, .int .i64 a0_5, .int .i64 a0_6, .int .i64 a0_7, .bool a0_8, .int .i64 a0_9, .int .i64 a0_10, .int .i64 a0_11, .slice A0_12 l0_12.length c0_12, .int .i64 a0_13, .int .i64 a0_14, .int .i64 a0_15, .string a0_16] 26)) (below_alloc (Below.refl w.heap.size w) (.cells #[.int .i64 a0_0, .int .i64 a0_1, .string a0_2, .int .i64 a0_3, .int .i64 a0_4, .int .i64 a0_5, .int .i64 a0_6, .int .i64 a0_7, .bool a0_8, .int .i64 a0_9, .int .i64 a0_10, .int .i64 a0_11, .slice A0_12 l0_12.length c0_12, .int .i64 a0_13, .int .i64 a0_14, .int .i64 a0_15, .string a0_16] 26)))
  generalize w.alloc (.cells #[.int .i64 a0_0, .int .i64 a0_1, .string a0_2, .int .i64 a0_3, .int .i64 a0_4, .int .i64 a0_5, .int .i64 a0_6, .int .i64 a0_7, .bool a0_8, .int .i64 a0_9, .int .i64 a0_10, .int .i64 a0_11, .slice A0_12 l0_12.length c0_12, .int .i64 a0_13, .int .i64 a0_14, .int .i64 a0_15, .string a0_16] 26) = w0 at P0 ⊢
  go_wp2_with (refine wpl_loadG (by rfl) 26 (.tmp 1) rfl _ rfl P0.out.1 Try.underlying26 rfl info17 ?_)
  refine (bollardlaw20_in.calls k1 a0_0 a0_1 a0_2 a0_3 a0_4 a0_5 a0_6 a0_7 a0_8 a0_9 a0_10 a0_11 A0_12 c0_12 l0_12 a0_13 a0_14 a0_15 a0_16 r1 w0 (Kd.C_below HR.out P0.out.2) HC.out HIN.out).mono ?_
  rintro e w1 ⟨rfl, hb⟩
  have P1 := Aside0.mk (And.intro (blk_below P0.out.1 hb) (below_step P0.out.2 hb))
  clear hb P0
  cases r1 with
  | false =>
    go_wp2_with fail
    refine (bollardlaw20_awake.calls eqOk _).mono ?_
    rintro e w2 ⟨rfl, hb⟩
    have BW := Aside0.mk (below_step P1.out.2 hb)
    clear hb
    go_wp2_with fail
    go_ret
    exact ⟨rfl, BW.out⟩
  | true =>
    go_wp2_with (refine wpl_loadG (by rfl) 26 (.tmp 1) rfl _ rfl P1.out.1 Try.underlying26 rfl info17 ?_)
    refine (codec_Request.calls (⟨a0_0, a0_1, a0_2, a0_3, a0_4, a0_5, a0_6, a0_7, a0_8, a0_9, a0_10, a0_11, (.slice A0_12 l0_12.length c0_12), a0_13, a0_14, a0_15, a0_16, 0, 0, 0, 0, 0, 0, .slice none 0 0, .slice none 0 0, .slice none 0 0⟩ : Msg) A0_12 c0_12 l0_12 w1 eqOk HA.out.wf HA.out.z HA.out.kind rfl (Kd.C_below HR.out P1.out.2) HC.out (Nat.le_trans (HIN2.out (by first | rfl | trivial)) (by decide)) (rqWr_bytes _ _).1).mono ?_
    rintro e w2 ⟨⟨v, b, n, rfl, hv, ho⟩, hb⟩
    have hoo := ok_out ho
    have B2 := Aside0.mk (And.intro (blk_below P1.out.1 hb) (below_step P1.out.2 hb))
    obtain ⟨Av, cv, ev⟩ := Kd.R_slice hv
    subst ev
    clear hv hb P1
    rcases hoo with ⟨rfl, _⟩ | ⟨rfl, rfl⟩
    case inr =>
      clear ho
      go_wp2_with fail
      refine (bollardlaw20_awake.calls eqOk _).mono ?_
      rintro e w3 ⟨rfl, hb⟩
      have BW := Aside0.mk (below_step B2.out.2 hb)
      clear hb
      go_wp2_with fail
      go_ret
      exact ⟨rfl, BW.out⟩
    case inl =>
      have HN := Aside0.mk (HIN2.out (by first | rfl | trivial))
      have HC6 := Aside0.mk (cnt_six (⟨a0_0, a0_1, a0_2, a0_3, a0_4, a0_5, a0_6, a0_7, a0_8, a0_9, a0_10, a0_11, (.slice A0_12 l0_12.length c0_12), a0_13, a0_14, a0_15, a0_16, 0, 0, 0, 0, 0, 0, .slice none 0 0, .slice none 0 0, .slice none 0 0⟩ : Msg) l0_12 HA.out.wf HA.out.z HA.out.group HT.out HN.out b ho)
      clear ho
      go_wp2_with fail
      go_loopg [5, 6] 7 (fun kq v5 v6 w' => ∃ (i : Int), v5 = .int .i64 (cnt (⟨a0_0, a0_1, a0_2, a0_3, a0_4, a0_5, a0_6, a0_7, a0_8, a0_9, a0_10, a0_11, (.slice A0_12 l0_12.length c0_12), a0_13, a0_14, a0_15, a0_16, 0, 0, 0, 0, 0, 0, .slice none 0 0, .slice none 0 0, .slice none 0 0⟩ : Msg) l0_12 i.toNat) ∧ v6 = .int .i64 i ∧ Aside0 (kq + i.toNat = 7 ∧ 0 ≤ i ∧ i ≤ 6) ∧ Aside0 (w'.heap[w.heap.size]? = some (.cells #[.int .i64 a0_0, .int .i64 a0_1, .string a0_2, .int .i64 a0_3, .int .i64 a0_4, .int .i64 a0_5, .int .i64 a0_6, .int .i64 a0_7, .bool a0_8, .int .i64 a0_9, .int .i64 a0_10, .int .i64 a0_11, .slice A0_12 l0_12.length c0_12, .int .i64 a0_13, .int .i64 a0_14, .int .i64 a0_15, .string a0_16] 26 (0, 0)) ∧ Below w.heap.size w w'))
      case atStart => exact ⟨0, rfl, rfl, ⟨by simp, by omega, by omega⟩, B2⟩
      case round =>
        obtain ⟨i, rfl, rfl, HI, HP⟩ := hrel
        clear B2
        by_cases hi : i < 6
        case neg =>
          have h6 : i = 6 := by have := HI.out; omega
          subst h6
          have d2 : decide ((3 : Int) ≤ cnt (⟨a0_0, a0_1, a0_2, a0_3, a0_4, a0_5, a0_6, a0_7, a0_8, a0_9, a0_10, a0_11, (.slice A0_12 l0_12.length c0_12), a0_13, a0_14, a0_15, a0_16, 0, 0, 0, 0, 0, 0, .slice none 0 0, .slice none 0 0, .slice none 0 0⟩ : Msg) l0_12 6) = true := decide_eq_true HC6.out
          go_wp2_with fail
          refine (bollardlaw20_awake.calls eqOk _).mono ?_
          rintro e w3 ⟨rfl, hb⟩
          have BW := Aside0.mk (below_step HP.out.2 hb)
          clear hb
          go_wp2_with fail
          go_ret
          exact ⟨rfl, BW.out⟩
        case pos =>
          have d1 : decide (i < 6) = true := decide_eq_true hi
          have HI2 := Aside0.mk hi
          clear hi
          go_upto_block 2 with (first | (refine wpl_loadG (by rfl) 26 (.tmp 1) rfl _ rfl HP.out.1 Try.underlying26 rfl info17 ?_) | (refine wpList_store_row rfl 26 (.tmp 7) (.tmp 28) rfl wr.heap.size #[.int .i64 a0_0, .int .i64 a0_1, .string a0_2, .int .i64 a0_3, .int .i64 a0_4, .int .i64 a0_5, .int .i64 a0_6, .int .i64 a0_7, .bool a0_8, .int .i64 a0_9, .int .i64 a0_10, .int .i64 a0_11, .slice A0_12 l0_12.length c0_12, .int .i64 a0_13, .int .i64 a0_14, .int .i64 a0_15, .string a0_16] rfl rfl 26 #[.int .i64 0, .int .i64 0, .string ⟨#[]⟩, .int .i64 0, .int .i64 0, .int .i64 0, .int .i64 0, .int .i64 0, .bool false, .int .i64 0, .int .i64 0, .int .i64 0, .slice none 0 0, .int .i64 0, .int .i64 0, .int .i64 0, .string ⟨#[]⟩] (heap_alloc_new wr _) info17 rfl (req_all (⟨a0_0, a0_1, a0_2, a0_3, a0_4, a0_5, a0_6, a0_7, a0_8, a0_9, a0_10, a0_11, (.slice A0_12 l0_12.length c0_12), a0_13, a0_14, a0_15, a0_16, 0, 0, 0, 0, 0, 0, .slice none 0 0, .slice none 0 0, .slice none 0 0⟩ : Msg) rfl) ?_))
          (try simp only [Act.put, List.setIfInBounds_toArray, List.set_cons_zero, List.set_cons_succ])
          have hb_ := below_row (below_alloc (Below.refl wr.heap.size wr) (.cells #[.int .i64 0, .int .i64 0, .string ⟨#[]⟩, .int .i64 0, .int .i64 0, .int .i64 0, .int .i64 0, .int .i64 0, .bool false, .int .i64 0, .int .i64 0, .int .i64 0, .slice none 0 0, .int .i64 0, .int .i64 0, .int .i64 0, .string ⟨#[]⟩] 26)) (Nat.le_refl _) #[.int .i64 a0_0, .int .i64 a0_1, .string a0_2, .int .i64 a0_3, .int .i64 a0_4, .int .i64 a0_5, .int .i64 a0_6, .int .i64 a0_7, .bool a0_8, .int .i64 a0_9, .int .i64 a0_10, .int .i64 a0_11, .slice A0_12 l0_12.length c0_12, .int .i64 a0_13, .int .i64 a0_14, .int .i64 a0_15, .string a0_16]
          have C1 := Aside0.mk (show ((wr.alloc (.cells #[.int .i64 0, .int .i64 0, .string ⟨#[]⟩, .int .i64 0, .int .i64 0, .int .i64 0, .int .i64 0, .int .i64 0, .bool false, .int .i64 0, .int .i64 0, .int .i64 0, .slice none 0 0, .int .i64 0, .int .i64 0, .int .i64 0, .string ⟨#[]⟩] 26)).setRow wr.heap.size #[.int .i64 a0_0, .int .i64 a0_1, .string a0_2, .int .i64 a0_3, .int .i64 a0_4, .int .i64 a0_5, .int .i64 a0_6, .int .i64 a0_7, .bool a0_8, .int .i64 a0_9, .int .i64 a0_10, .int .i64 a0_11, .slice A0_12 l0_12.length c0_12, .int .i64 a0_13, .int .i64 a0_14, .int .i64 a0_15, .string a0_16]).heap[wr.heap.size]? = some (.cells #[.int .i64 a0_0, .int .i64 a0_1, .string a0_2, .int .i64 a0_3, .int .i64 a0_4, .int .i64 a0_5, .int .i64 a0_6, .int .i64 a0_7, .bool a0_8, .int .i64 a0_9, .int .i64 a0_10, .int .i64 a0_11, .slice A0_12 l0_12.length c0_12, .int .i64 a0_13, .int .i64 a0_14, .int .i64 a0_15, .string a0_16] 26 (0, 0)) ∧ ((wr.alloc (.cells #[.int .i64 0, .int .i64 0, .string ⟨#[]⟩, .int .i64 0, .int .i64 0, .int .i64 0, .int .i64 0, .int .i64 0, .bool false, .int .i64 0, .int .i64 0, .int .i64 0, .slice none 0 0, .int .i64 0, .int .i64 0, .int .i64 0, .string ⟨#[]⟩] 26)).setRow wr.heap.size #[.int .i64 a0_0, .int .i64 a0_1, .string a0_2, .int .i64 a0_3, .int .i64 a0_4, .int .i64 a0_5, .int .i64 a0_6, .int .i64 a0_7, .bool a0_8, .int .i64 a0_9, .int .i64 a0_10, .int .i64 a0_11, .slice A0_12 l0_12.length c0_12, .int .i64 a0_13, .int .i64 a0_14, .int .i64 a0_15, .string a0_16]).heap[w.heap.size]? = some (.cells #[.int .i64 a0_0, .int .i64 a0_1, .string a0_2, .int .i64 a0_3, .int .i64 a0_4, .int .i64 a0_5, .int .i64 a0_6, .int .i64 a0_7, .bool a0_8, .int .i64 a0_9, .int .i64 a0_10, .int .i64 a0_11, .slice A0_12 l0_12.length c0_12, .int .i64 a0_13, .int .i64 a0_14, .int .i64 a0_15, .string a0_16] 26 (0, 0)) ∧ Below w.heap.size w ((wr.alloc (.cells #[.int .i64 0, .int .i64 0, .string ⟨#[]⟩, .int .i64 0, .int .i64 0, .int .i64 0, .int .i64 0, .int .i64 0, .bool false, .int .i64 0, .int .i64 0, .int .i64 0, .slice none 0 0, .int .i64 0, .int .i64 0, .int .i64 0, .string ⟨#[]⟩] 26)).setRow wr.heap.size #[.int .i64 a0_0, .int .i64 a0_1, .string a0_2, .int .i64 a0_3, .int .i64 a0_4, .int .i64 a0_5, .int .i64 a0_6, .int .i64 a0_7, .bool a0_8, .int .i64 a0_9, .int .i64 a0_10, .int .i64 a0_11, .slice A0_12 l0_12.length c0_12, .int .i64 a0_13, .int .i64 a0_14, .int .i64 a0_15, .string a0_16]) from ⟨setRow_heap _ _ _ _ _ _ (heap_alloc_new wr _), blk_below HP.out.1 hb_, below_step HP.out.2 hb_⟩)
          generalize (wr.alloc (.cells #[.int .i64 0, .int .i64 0, .string ⟨#[]⟩, .int .i64 0, .int .i64 0, .int .i64 0, .int .i64 0, .int .i64 0, .bool false, .int .i64 0, .int .i64 0, .int .i64 0, .slice none 0 0, .int .i64 0, .int .i64 0, .int .i64 0, .string ⟨#[]⟩] 26)).setRow wr.heap.size #[.int .i64 a0_0, .int .i64 a0_1, .string a0_2, .int .i64 a0_3, .int .i64 a0_4, .int .i64 a0_5, .int .i64 a0_6, .int .i64 a0_7, .bool a0_8, .int .i64 a0_9, .int .i64 a0_10, .int .i64 a0_11, .slice A0_12 l0_12.length c0_12, .int .i64 a0_13, .int .i64 a0_14, .int .i64 a0_15, .string a0_16] = w1 at C1 ⊢
          obtain ⟨q, hq⟩ : ∃ q, q = wr.heap.size := ⟨_, rfl⟩
          have HQ := Aside0.mk (show w.heap.size < q from by rw [hq]; exact blk_lt HP.out.1)
          rw [← hq] at C1 ⊢
          clear hq hb_ HP
          go_cut [5, 6] (fun v5 v6 wc => v5 = .int .i64 (cnt (⟨a0_0, a0_1, a0_2, a0_3, a0_4, a0_5, a0_6, a0_7, a0_8, a0_9, a0_10, a0_11, (.slice A0_12 l0_12.length c0_12), a0_13, a0_14, a0_15, a0_16, 0, 0, 0, 0, 0, 0, .slice none 0 0, .slice none 0 0, .slice none 0 0⟩ : Msg) l0_12 i.toNat) ∧ v6 = .int .i64 i ∧ Aside0 (wc.heap[q]? = some (.cells (Msg.req (vary (⟨a0_0, a0_1, a0_2, a0_3, a0_4, a0_5, a0_6, a0_7, a0_8, a0_9, a0_10, a0_11, (.slice A0_12 l0_12.length c0_12), a0_13, a0_14, a0_15, a0_16, 0, 0, 0, 0, 0, 0, .slice none 0 0, .slice none 0 0, .slice none 0 0⟩ : Msg) i.toNat)) 26 (0, 0)) ∧ wc.heap[w.heap.size]? = some (.cells #[.int .i64 a0_0, .int .i64 a0_1, .string a0_2, .int .i64 a0_3, .int .i64 a0_4, .int .i64 a0_5, .int .i64 a0_6, .int .i64 a0_7, .bool a0_8, .int .i64 a0_9, .int .i64 a0_10, .int .i64 a0_11, .slice A0_12 l0_12.length c0_12, .int .i64 a0_13, .int .i64 a0_14, .int .i64 a0_15, .string a0_16] 26 (0, 0)) ∧ Below w.heap.size w wc))
          case first =>
            obtain h_ | h_ | h_ | h_ | h_ | h_ : i = 0 ∨ i = 1 ∨ i = 2 ∨ i = 3 ∨ i = 4 ∨ i = 5 := by have := HI.out; have := HI2.out; omega
            · subst h_
              have hsz_ : ¬ 9223372036854775807 < a0_16.size + 1 := by have h3_ : a0_16.size ≤ 140737488351232 := HA.out.group; omega
              have q0 : w1.cell? ⟨q, 16, none⟩ = some (.string a0_16) := (blk_cell C1.out.1 16).trans rfl
              have z0 : w1.frozen? ⟨q, 16, none⟩ = false := blk_frozen C1.out.1 16
              have C2 := Aside0.mk (show (w1.setCell ⟨q, 16, none⟩ (.string (a0_16 ++ ⟨#[103]⟩))).heap[q]? = some (.cells (Msg.req (vary (⟨a0_0, a0_1, a0_2, a0_3, a0_4, a0_5, a0_6, a0_7, a0_8, a0_9, a0_10, a0_11, (.slice A0_12 l0_12.length c0_12), a0_13, a0_14, a0_15, a0_16, 0, 0, 0, 0, 0, 0, .slice none 0 0, .slice none 0 0, .slice none 0 0⟩ : Msg) 0)) 26 (0, 0)) ∧ (w1.setCell ⟨q, 16, none⟩ (.string (a0_16 ++ ⟨#[103]⟩))).heap[w.heap.size]? = some (.cells #[.int .i64 a0_0, .int .i64 a0_1, .string a0_2, .int .i64 a0_3, .int .i64 a0_4, .int .i64 a0_5, .int .i64 a0_6, .int .i64 a0_7, .bool a0_8, .int .i64 a0_9, .int .i64 a0_10, .int .i64 a0_11, .slice A0_12 l0_12.length c0_12, .int .i64 a0_13, .int .i64 a0_14, .int .i64 a0_15, .string a0_16] 26 (0, 0)) ∧ Below w.heap.size w (w1.setCell ⟨q, 16, none⟩ (.string (a0_16 ++ ⟨#[103]⟩))) from ⟨(blk_set C1.out.1 16 (.string (a0_16 ++ ⟨#[103]⟩))).trans rfl, (Below.heap_setCell _ ⟨q, 16, none⟩ _ _ (show w.heap.size ≠ q from by have := HQ.out; omega)).trans C1.out.2.1, C1.out.2.2.setCell (p := ⟨q, 16, none⟩) (show w.heap.size ≤ q from by have := HQ.out; omega) _⟩)
              go_wp2
              go_meet
              case rel => exact ⟨rfl, rfl, C2⟩
            · subst h_
              have q0 : w1.cell? ⟨q, 15, none⟩ = some (.int .i64 a0_15) := (blk_cell C1.out.1 15).trans rfl
              have z0 : w1.frozen? ⟨q, 15, none⟩ = false := blk_frozen C1.out.1 15
              have C2 := Aside0.mk (show (w1.setCell ⟨q, 15, none⟩ (.int .i64 (Go.bits .xor .i64 a0_15 8))).heap[q]? = some (.cells (Msg.req (vary (⟨a0_0, a0_1, a0_2, a0_3, a0_4, a0_5, a0_6, a0_7, a0_8, a0_9, a0_10, a0_11, (.slice A0_12 l0_12.length c0_12), a0_13, a0_14, a0_15, a0_16, 0, 0, 0, 0, 0, 0, .slice none 0 0, .slice none 0 0, .slice none 0 0⟩ : Msg) 1)) 26 (0, 0)) ∧ (w1.setCell ⟨q, 15, none⟩ (.int .i64 (Go.bits .xor .i64 a0_15 8))).heap[w.heap.size]? = some (.cells #[.int .i64 a0_0, .int .i64 a0_1, .string a0_2, .int .i64 a0_3, .int .i64 a0_4, .int .i64 a0_5, .int .i64 a0_6, .int .i64 a0_7, .bool a0_8, .int .i64 a0_9, .int .i64 a0_10, .int .i64 a0_11, .slice A0_12 l0_12.length c0_12, .int .i64 a0_13, .int .i64 a0_14, .int .i64 a0_15, .string a0_16] 26 (0, 0)) ∧ Below w.heap.size w (w1.setCell ⟨q, 15, none⟩ (.int .i64 (Go.bits .xor .i64 a0_15 8))) from ⟨(blk_set C1.out.1 15 (.int .i64 (Go.bits .xor .i64 a0_15 8))).trans rfl, (Below.heap_setCell _ ⟨q, 15, none⟩ _ _ (show w.heap.size ≠ q from by have := HQ.out; omega)).trans C1.out.2.1, C1.out.2.2.setCell (p := ⟨q, 15, none⟩) (show w.heap.size ≤ q from by have := HQ.out; omega) _⟩)
              go_wp2
              go_meet
              case rel => exact ⟨rfl, rfl, C2⟩
            · subst h_
              have q0 : w1.cell? ⟨q, 4, none⟩ = some (.int .i64 a0_4) := (blk_cell C1.out.1 4).trans rfl
              have z0 : w1.frozen? ⟨q, 4, none⟩ = false := blk_frozen C1.out.1 4
              have C2 := Aside0.mk (show (w1.setCell ⟨q, 4, none⟩ (.int .i64 (Go.bits .xor .i64 a0_4 8))).heap[q]? = some (.cells (Msg.req (vary (⟨a0_0, a0_1, a0_2, a0_3, a0_4, a0_5, a0_6, a0_7, a0_8, a0_9, a0_10, a0_11, (.slice A0_12 l0_12.length c0_12), a0_13, a0_14, a0_15, a0_16, 0, 0, 0, 0, 0, 0, .slice none 0 0, .slice none 0 0, .slice none 0 0⟩ : Msg) 2)) 26 (0, 0)) ∧ (w1.setCell ⟨q, 4, none⟩ (.int .i64 (Go.bits .xor .i64 a0_4 8))).heap[w.heap.size]? = some (.cells #[.int .i64 a0_0, .int .i64 a0_1, .string a0_2, .int .i64 a0_3, .int .i64 a0_4, .int .i64 a0_5, .int .i64 a0_6, .int .i64 a0_7, .bool a0_8, .int .i64 a0_9, .int .i64 a0_10, .int .i64 a0_11, .slice A0_12 l0_12.length c0_12, .int .i64 a0_13, .int .i64 a0_14, .int .i64 a0_15, .string a0_16] 26 (0, 0)) ∧ Below w.heap.size w (w1.setCell ⟨q, 4, none⟩ (.int .i64 (Go.bits .xor .i64 a0_4 8))) from ⟨(blk_set C1.out.1 4 (.int .i64 (Go.bits .xor .i64 a0_4 8))).trans rfl, (Below.heap_setCell _ ⟨q, 4, none⟩ _ _ (show w.heap.size ≠ q from by have := HQ.out; omega)).trans C1.out.2.1, C1.out.2.2.setCell (p := ⟨q, 4, none⟩) (show w.heap.size ≤ q from by have := HQ.out; omega) _⟩)
              go_wp2
              go_meet
              case rel => exact ⟨rfl, rfl, C2⟩
            · subst h_
              have q0 : w1.cell? ⟨q, 11, none⟩ = some (.int .i64 a0_11) := (blk_cell C1.out.1 11).trans rfl
              have z0 : w1.frozen? ⟨q, 11, none⟩ = false := blk_frozen C1.out.1 11
              have C2 := Aside0.mk (show (w1.setCell ⟨q, 11, none⟩ (.int .i64 (Go.bits .xor .i64 a0_11 8))).heap[q]? = some (.cells (Msg.req (vary (⟨a0_0, a0_1, a0_2, a0_3, a0_4, a0_5, a0_6, a0_7, a0_8, a0_9, a0_10, a0_11, (.slice A0_12 l0_12.length c0_12), a0_13, a0_14, a0_15, a0_16, 0, 0, 0, 0, 0, 0, .slice none 0 0, .slice none 0 0, .slice none 0 0⟩ : Msg) 3)) 26 (0, 0)) ∧ (w1.setCell ⟨q, 11, none⟩ (.int .i64 (Go.bits .xor .i64 a0_11 8))).heap[w.heap.size]? = some (.cells #[.int .i64 a0_0, .int .i64 a0_1, .string a0_2, .int .i64 a0_3, .int .i64 a0_4, .int .i64 a0_5, .int .i64 a0_6, .int .i64 a0_7, .bool a0_8, .int .i64 a0_9, .int .i64 a0_10, .int .i64 a0_11, .slice A0_12 l0_12.length c0_12, .int .i64 a0_13, .int .i64 a0_14, .int .i64 a0_15, .string a0_16] 26 (0, 0)) ∧ Below w.heap.size w (w1.setCell ⟨q, 11, none⟩ (.int .i64 (Go.bits .xor .i64 a0_11 8))) from ⟨(blk_set C1.out.1 11 (.int .i64 (Go.bits .xor .i64 a0_11 8))).trans rfl, (Below.heap_setCell _ ⟨q, 11, none⟩ _ _ (show w.heap.size ≠ q from by have := HQ.out; omega)).trans C1.out.2.1, C1.out.2.2.setCell (p := ⟨q, 11, none⟩) (show w.heap.size ≤ q from by have := HQ.out; omega) _⟩)
              go_wp2
              go_meet
              case rel => exact ⟨rfl, rfl, C2⟩
            · subst h_
              have q0 : w1.cell? ⟨q, 14, none⟩ = some (.int .i64 a0_14) := (blk_cell C1.out.1 14).trans rfl
              have z0 : w1.frozen? ⟨q, 14, none⟩ = false := blk_frozen C1.out.1 14
              have C2 := Aside0.mk (show (w1.setCell ⟨q, 14, none⟩ (.int .i64 (Go.bits .xor .i64 a0_14 8))).heap[q]? = some (.cells (Msg.req (vary (⟨a0_0, a0_1, a0_2, a0_3, a0_4, a0_5, a0_6, a0_7, a0_8, a0_9, a0_10, a0_11, (.slice A0_12 l0_12.length c0_12), a0_13, a0_14, a0_15, a0_16, 0, 0, 0, 0, 0, 0, .slice none 0 0, .slice none 0 0, .slice none 0 0⟩ : Msg) 4)) 26 (0, 0)) ∧ (w1.setCell ⟨q, 14, none⟩ (.int .i64 (Go.bits .xor .i64 a0_14 8))).heap[w.heap.size]? = some (.cells #[.int .i64 a0_0, .int .i64 a0_1, .string a0_2, .int .i64 a0_3, .int .i64 a0_4, .int .i64 a0_5, .int .i64 a0_6, .int .i64 a0_7, .bool a0_8, .int .i64 a0_9, .int .i64 a0_10, .int .i64 a0_11, .slice A0_12 l0_12.length c0_12, .int .i64 a0_13, .int .i64 a0_14, .int .i64 a0_15, .string a0_16] 26 (0, 0)) ∧ Below w.heap.size w (w1.setCell ⟨q, 14, none⟩ (.int .i64 (Go.bits .xor .i64 a0_14 8))) from ⟨(blk_set C1.out.1 14 (.int .i64 (Go.bits .xor .i64 a0_14 8))).trans rfl, (Below.heap_setCell _ ⟨q, 14, none⟩ _ _ (show w.heap.size ≠ q from by have := HQ.out; omega)).trans C1.out.2.1, C1.out.2.2.setCell (p := ⟨q, 14, none⟩) (show w.heap.size ≤ q from by have := HQ.out; omega) _⟩)
              go_wp2
              go_meet
              case rel => exact ⟨rfl, rfl, C2⟩
            · subst h_
              have q0 : w1.cell? ⟨q, 9, none⟩ = some (.int .i64 a0_9) := (blk_cell C1.out.1 9).trans rfl
              have z0 : w1.frozen? ⟨q, 9, none⟩ = false := blk_frozen C1.out.1 9
              have C2 := Aside0.mk (show (w1.setCell ⟨q, 9, none⟩ (.int .i64 (Go.bits .xor .i64 a0_9 8))).heap[q]? = some (.cells (Msg.req (vary (⟨a0_0, a0_1, a0_2, a0_3, a0_4, a0_5, a0_6, a0_7, a0_8, a0_9, a0_10, a0_11, (.slice A0_12 l0_12.length c0_12), a0_13, a0_14, a0_15, a0_16, 0, 0, 0, 0, 0, 0, .slice none 0 0, .slice none 0 0, .slice none 0 0⟩ : Msg) 5)) 26 (0, 0)) ∧ (w1.setCell ⟨q, 9, none⟩ (.int .i64 (Go.bits .xor .i64 a0_9 8))).heap[w.heap.size]? = some (.cells #[.int .i64 a0_0, .int .i64 a0_1, .string a0_2, .int .i64 a0_3, .int .i64 a0_4, .int .i64 a0_5, .int .i64 a0_6, .int .i64 a0_7, .bool a0_8, .int .i64 a0_9, .int .i64 a0_10, .int .i64 a0_11, .slice A0_12 l0_12.length c0_12, .int .i64 a0_13, .int .i64 a0_14, .int .i64 a0_15, .string a0_16] 26 (0, 0)) ∧ Below w.heap.size w (w1.setCell ⟨q, 9, none⟩ (.int .i64 (Go.bits .xor .i64 a0_9 8))) from ⟨(blk_set C1.out.1 9 (.int .i64 (Go.bits .xor .i64 a0_9 8))).trans rfl, (Below.heap_setCell _ ⟨q, 9, none⟩ _ _ (show w.heap.size ≠ q from by have := HQ.out; omega)).trans C1.out.2.1, C1.out.2.2.setCell (p := ⟨q, 9, none⟩) (show w.heap.size ≤ q from by have := HQ.out; omega) _⟩)
              go_wp2
              go_meet
              case rel => exact ⟨rfl, rfl, C2⟩
          obtain ⟨rfl, rfl, C3⟩ := hcut
          clear C1
          have hvk := vary_kind (⟨a0_0, a0_1, a0_2, a0_3, a0_4, a0_5, a0_6, a0_7, a0_8, a0_9, a0_10, a0_11, (.slice A0_12 l0_12.length c0_12), a0_13, a0_14, a0_15, a0_16, 0, 0, 0, 0, 0, 0, .slice none 0 0, .slice none 0 0, .slice none 0 0⟩ : Msg) i.toNat
          have hvw := vary_wf (⟨a0_0, a0_1, a0_2, a0_3, a0_4, a0_5, a0_6, a0_7, a0_8, a0_9, a0_10, a0_11, (.slice A0_12 l0_12.length c0_12), a0_13, a0_14, a0_15, a0_16, 0, 0, 0, 0, 0, 0, .slice none 0 0, .slice none 0 0, .slice none 0 0⟩ : Msg) i.toNat HA.out.wf HA.out.group
          have hvn := vary_n (⟨a0_0, a0_1, a0_2, a0_3, a0_4, a0_5, a0_6, a0_7, a0_8, a0_9, a0_10, a0_11, (.slice A0_12 l0_12.length c0_12), a0_13, a0_14, a0_15, a0_16, 0, 0, 0, 0, 0, 0, .slice none 0 0, .slice none 0 0, .slice none 0 0⟩ : Msg) i.toNat l0_12
          obtain ⟨x, hx⟩ : ∃ x, x = vary (⟨a0_0, a0_1, a0_2, a0_3, a0_4, a0_5, a0_6, a0_7, a0_8, a0_9, a0_10, a0_11, (.slice A0_12 l0_12.length c0_12), a0_13, a0_14, a0_15, a0_16, 0, 0, 0, 0, 0, 0, .slice none 0 0, .slice none 0 0, .slice none 0 0⟩ : Msg) i.toNat := ⟨_, rfl⟩
          rw [← hx] at hvk hvw hvn C3
          obtain ⟨hk_, _, _, hu_, hz_, _⟩ := hvk
          have HX := Aside0.mk hx
          have HW := Aside0.mk hvw
          have HZ := Aside0.mk (hz_ HA.out.z)
          have HXN := Aside0.mk (show rqN x l0_12 ≤ 50000000 from by have := HN.out; omega)
          have HU := Aside0.mk (show x.u1 = .slice A0_12 l0_12.length c0_12 from hu_)
          have HXK := Aside0.mk (show (Lit.int .i64 x.kind).wf = true from by rw [hk_]; exact HA.out.kind)
          clear hk_ hu_ hz_ hvw hvn hx
          go_wp2_with (refine wpl_loadG (by rfl) 26 (.tmp 7) rfl _ rfl C3.out.1 Try.underlying26 rfl info17 ?_)
          refine (codec_Request.calls x A0_12 c0_12 l0_12 wc eqOk HW.out HZ.out HXK.out HU.out (Kd.C_below HR.out C3.out.2.2) HC.out HXN.out (rqWr_bytes _ _).1).mono ?_
          rintro e w3 ⟨⟨v, b3, n, rfl, hv, ho⟩, hb⟩
          obtain ⟨Av3, cv3, ev⟩ := Kd.R_slice hv
          subst ev
          have HO := Aside0.mk ho
          have C4 := Aside0.mk (And.intro (blk_below C3.out.1 hb) (And.intro (blk_below C3.out.2.1 hb) (below_step C3.out.2.2 hb)))
          clear hv ho hb C3
          go_wp2_with (refine wpl_loadG (by rfl) 26 (.tmp 7) rfl _ rfl C4.out.1 Try.underlying26 rfl info17 ?_)
          have hrs := ref_same x A0_12 c0_12 l0_12 w3 HW.out HZ.out HA.out.len HT.out (Kd.C_below HR.out C4.out.2.2) HC.out HXN.out b3 n HO.out
          rw [← HU.out] at hrs
          refine hrs.mono ?_
          clear hrs
          rintro e w4 ⟨⟨v, rfl, hv⟩, hb⟩
          obtain ⟨Av4, cv4, ev⟩ := Kd.R_slice hv
          subst ev
          have C5 := Aside0.mk (And.intro (blk_below C4.out.2.1 hb) (below_step C4.out.2.2 hb))
          clear hv hb C4
          have HE := Aside0.mk (show cnt (⟨a0_0, a0_1, a0_2, a0_3, a0_4, a0_5, a0_6, a0_7, a0_8, a0_9, a0_10, a0_11, (.slice A0_12 l0_12.length c0_12), a0_13, a0_14, a0_15, a0_16, 0, 0, 0, 0, 0, 0, .slice none 0 0, .slice none 0 0, .slice none 0 0⟩ : Msg) l0_12 (i + 1).toNat = cnt (⟨a0_0, a0_1, a0_2, a0_3, a0_4, a0_5, a0_6, a0_7, a0_8, a0_9, a0_10, a0_11, (.slice A0_12 l0_12.length c0_12), a0_13, a0_14, a0_15, a0_16, 0, 0, 0, 0, 0, 0, .slice none 0 0, .slice none 0 0, .slice none 0 0⟩ : Msg) l0_12 i.toNat + one1 n from by rw [show (i + 1).toNat = i.toNat + 1 from by have := HI.out; omega, rqE_eq HO.out, HX.out]; rfl)
          have HCR := Aside0.mk (cnt_rng (⟨a0_0, a0_1, a0_2, a0_3, a0_4, a0_5, a0_6, a0_7, a0_8, a0_9, a0_10, a0_11, (.slice A0_12 l0_12.length c0_12), a0_13, a0_14, a0_15, a0_16, 0, 0, 0, 0, 0, 0, .slice none 0 0, .slice none 0 0, .slice none 0 0⟩ : Msg) l0_12 i.toNat)
          have e1 : IntKind.i64.wrap (i + 1) = i + 1 := (i64_w _).trans (by have := HI.out; unfold wrap64; omega)
          rcases ok_out HO.out with ⟨rfl, _⟩ | ⟨rfl, _⟩
          · clear HO
            go_wp2_with fail
            go_roundg (7 - (i + 1).toNat)
            case measure => have := HI.out; have := HI2.out; omega
            case rel => exact ⟨i + 1, by rw [HE.out]; first | (simp [one1]; done) | (rw [show one1 0 = 0 from rfl]; first | rfl | (rw [e2]) | simp [*]), by first | rfl | (rw [e1]), ⟨by have := HI.out; have := HI2.out; omega, by have := HI.out; omega, by have := HI2.out; omega⟩, C5⟩
          · clear HO
            have e2 : IntKind.i64.wrap (cnt (⟨a0_0, a0_1, a0_2, a0_3, a0_4, a0_5, a0_6, a0_7, a0_8, a0_9, a0_10, a0_11, (.slice A0_12 l0_12.length c0_12), a0_13, a0_14, a0_15, a0_16, 0, 0, 0, 0, 0, 0, .slice none 0 0, .slice none 0 0, .slice none 0 0⟩ : Msg) l0_12 i.toNat + 1) = cnt (⟨a0_0, a0_1, a0_2, a0_3, a0_4, a0_5, a0_6, a0_7, a0_8, a0_9, a0_10, a0_11, (.slice A0_12 l0_12.length c0_12), a0_13, a0_14, a0_15, a0_16, 0, 0, 0, 0, 0, 0, .slice none 0 0, .slice none 0 0, .slice none 0 0⟩ : Msg) l0_12 i.toNat + 1 := (i64_w _).trans (by have := HCR.out; have := HI.out; have := HI2.out; unfold wrap64; omega)
            go_wp2_with fail
            go_roundg (7 - (i + 1).toNat)
            case measure => have := HI.out; have := HI2.out; omega
            case rel => exact ⟨i + 1, by rw [HE.out]; first | (simp [one1]; done) | (rw [show one1 1 = 1 from rfl]; first | rfl | (rw [e2]) | simp [*]), by first | rfl | (rw [e1]), ⟨by have := HI.out; have := HI2.out; omega, by have := HI.out; omega, by have := HI2.out; omega⟩, C5⟩

end Go.Proofs.Ytncfofnikmfjbaa.PCi

/- CodecFields: what its law's f says; the walk stands in CfFdW. -/
namespace Go.Proofs.Ytncfofnikmfjbaa.Pure
open Go Go.RowKit Go.Proofs.Ytncfofnikmfjbaa.PCi
theorem CodecFields : bollardlaw20_CodecFields.Pure := by
  intro a0 a1 a2 a3 a4 a5 a6 a7 a8 a9 a10 a11 l a13 a14 a15 a16 h0 h1 h2 h3 h4 h5 h6 h7 h9 h10 h11 h12 h13 h14 h15 h16
  exact ⟨0, if_pos ⟨h0, h1, h2, h3, h4, h5, h6, h7, h9, h10, h11, h12, h13, h14, h15, h16⟩⟩
end Go.Proofs.Ytncfofnikmfjbaa.Pure

/- What reads as data of a type is of the type's kind: whole numbers, bools, strings, slices, structs, one inside the other. -/
namespace Go.Proofs.Ytncfofnikmfjbaa.Op
open Go Go.RowKit Go.ChangeShapes Go.WideShapes Go.Proofs.YtncfofnikmfjbaaW.PrintWords Go.Proofs.YtncfofnikmfjbaaW.PrintLast Go.Proofs.YtncfofnikmfjbaaW.PrintMore
set_option linter.unusedVariables false
set_option linter.unusedSimpArgs false

/-- What reads as data of type t, no heavier than the form lets, is of this kind; Q tells more of it. -/
def Opens {α : Type} (P : Program) (t : TypeId) (d : Kd α) (Q : α → Prop) : Prop :=
  P.cellsOf t = d.sz ∧ ∀ {H : Type} (enc : TypeId × Value → H) (w : World) (base : Nat) (spare : Nat → Bool) (held : Bool) (fuel : Nat) (cs : List Value) (x : DataW H × List MemPlace),
    DataW.trod enc P w base spare held fuel t cs = some x → (∀ n ∈ x.1.weights P t, n ≤ reachBytes) → ∃ a : α, d.K w a cs ∧ Q a

section
variable {P : Program} {t : TypeId}
theorem opens_int {k : IntKind} (ht : P.underlying t = some (.int k)) (hc : P.cellsOf t = 1) : Opens P t (Kd.int k) (fun a => (Lit.int k a).wf = true) := by
  refine ⟨hc, fun enc w base spare held fuel cs x h _ => ?_⟩
  obtain ⟨n, rfl, _, hw⟩ := DataW.trod_int ht h
  exact ⟨n, rfl, hw⟩
theorem opens_bool (ht : P.underlying t = some .bool) (hc : P.cellsOf t = 1) : Opens P t Kd.bool (fun _ => True) := by
  refine ⟨hc, fun enc w base spare held fuel cs x h _ => ?_⟩
  obtain ⟨b, rfl, _⟩ := DataW.trod_bool ht h
  exact ⟨b, rfl, trivial⟩
theorem opens_string (ht : P.underlying t = some .string) (hc : P.cellsOf t = 1) : Opens P t Kd.string (fun s => s.size ≤ 140737488351232) := by
  refine ⟨hc, fun enc w base spare held fuel cs x h hx => ?_⟩
  obtain ⟨s, rfl, rfl, _⟩ := DataW.trod_string ht h
  refine ⟨s, rfl, ?_⟩
  have := hx s.data.toList.length (by simp [DataW.weights])
  rw [Array.length_toList] at this
  exact this
theorem mem_weightsAll {H : Type} {P : Program} {e : TypeId} : ∀ {ds : List (DataW H)} {d : DataW H}, d ∈ ds → ∀ n ∈ d.weights P e, n ∈ DataW.weightsAll P e ds
  | d0 :: ds, d, h, n, hn => by
    simp only [DataW.weightsAll, List.mem_append]
    rcases List.mem_cons.1 h with rfl | h
    · exact .inl hn
    · exact .inr (mem_weightsAll h n hn)
theorem opens_slice {e : TypeId} {α : Type} {d : Kd α} {Q : α → Prop} {B : Nat} (ht : P.underlying t = some (.slice e)) (hc : P.cellsOf t = 1) (hB : P.bytesOf e = B) (hd : Opens P e d Q) :
    Opens P t (Kd.slice e d) (fun xs => xs.length * B ≤ 140737488351232 ∧ ∀ y ∈ xs, Q y) := by
  refine ⟨hc, fun enc w base spare held fuel cs x h hx => ?_⟩
  rcases Go.Deep.open_slice ht h with ⟨rfl, rfl⟩ | ⟨a, len, cap, m, n, D, Pl, rfl, hb, hl, hm, hmm, rfl, hi⟩
  · exact ⟨[], ⟨none, 0, rfl, Nat.le_refl _, ⟨rfl, by simp, fun h => by simp at h⟩⟩, by simp, by simp⟩
  · have hml : len ≤ m := by rw [hmm]; split <;> omega
    simp only [DataW.weights, ht] at hx
    have key : ∀ i, i < len → ∃ (y : α) (cs' : List Value), w.cells? base (a.add (i * P.cellsOf e)) (P.cellsOf e) = some cs' ∧ d.K w y cs' ∧ Q y := by
      intro i hil
      obtain ⟨cs', h1, h2⟩ := hi i (by omega)
      obtain ⟨y, hK, hQ⟩ := hd.2 enc w base spare held n cs' _ h2 (fun q hq => hx q (List.mem_cons_of_mem _ (List.mem_append_left _ (mem_weightsAll (List.mem_map.2 ⟨i, List.mem_range.2 hil, rfl⟩) q hq))))
      exact ⟨y, cs', h1, hK, hQ⟩
    have hne : ∀ i, i < len → Nonempty α := fun i hil => let ⟨y, _⟩ := key i hil; ⟨y⟩
    rcases Nat.eq_zero_or_pos len with h0 | h0
    · subst h0
      exact ⟨[], ⟨some a, cap, rfl, Nat.zero_le _, ⟨rfl, by simp, fun h => by simp at h⟩⟩, by simp, by simp⟩
    · have : Nonempty α := hne 0 h0
      let f : Nat → α := fun i => if hil : i < len then (key i hil).choose else Classical.choice this
      have hf : ∀ i, i < len → ∃ cs', w.cells? base (a.add (i * P.cellsOf e)) (P.cellsOf e) = some cs' ∧ d.K w (f i) cs' ∧ Q (f i) := by
        intro i hil
        have := (key i hil).choose_spec
        simp only [f, dif_pos hil]
        exact this
      have hlen : ((List.range len).map f).length = len := by simp
      refine ⟨(List.range len).map f, ⟨some a, cap, by rw [hlen], by rw [hlen]; exact hl, ⟨rfl, by rw [hlen]; simp only [maxLen] at hm; omega, fun _ => ⟨a, rfl, fun j p hj => ?_⟩⟩⟩, ?_, ?_⟩
      · have hjl : j < len := by
          have := (List.getElem?_eq_some_iff.1 hj).1
          rw [hlen] at this
          exact this
        have hp : f j = p := by
          rw [List.getElem?_map, List.getElem?_range hjl] at hj
          exact Option.some.inj hj
        obtain ⟨cs', h1, hK, _⟩ := hf j hjl
        obtain ⟨_, h2, h3⟩ := World.cells?_some h1
        refine ⟨cs', d.K_len hK, hp ▸ hK, fun i u hu => ?_⟩
        have hil : i < P.cellsOf e := by
          have := (List.getElem?_eq_some_iff.1 hu).1
          omega
        have := h3 i hil
        rw [Go.Deep.add_add, hd.1, hu] at this
        exact this
      · have := hx _ (List.mem_cons_self)
        rw [hB] at this
        simp only [List.length_map, List.length_range] at this
        rw [hlen]
        have h4 : len * B ≤ (len + (m - len)) * B := Nat.mul_le_mul_right _ (by omega)
        simp only [reachBytes] at this
        omega
      · intro y hy
        obtain ⟨i, hir, rfl⟩ := List.mem_map.1 hy
        obtain ⟨_, _, _, hQ⟩ := hf i (List.mem_range.1 hir)
        exact hQ
/-- A struct's fields, from a place on. -/
def OpensF {α : Type} (P : Program) (fl : List Field) (off : Nat) (d : Kd α) (Q : α → Prop) : Prop :=
  ∀ {H : Type} (enc : TypeId × Value → H) (w : World) (base : Nat) (spare : Nat → Bool) (held : Bool) (n : Nat) (cs : List Value) (ys : List (DataW H × List MemPlace)),
    ys.length = fl.length → (∀ (i : Nat) (f : Field), fl[i]? = some f → DataW.trod enc P w base spare held n f.type ((cs.drop f.offset).take (P.cellsOf f.type)) = ys[i]?) →
    (∀ q ∈ DataW.weightsEach P (fl.map (·.type)) (ys.map (·.1)), q ≤ reachBytes) → ∃ a : α, d.K w a ((cs.drop off).take d.sz) ∧ Q a
theorem opensF_one {f : Field} {off : Nat} {α : Type} {d : Kd α} {Q : α → Prop} (ho : f.offset = off) (h : Opens P f.type d Q) : OpensF P [f] off d Q := by
  intro H enc w base spare held n cs ys hl hf hx
  match ys, hl with
  | [y], _ =>
    have := hf 0 f rfl
    rw [ho, h.1] at this
    refine h.2 enc w base spare held n _ y this (fun q hq => hx q ?_)
    simp only [List.map_cons, List.map_nil, DataW.weightsEach, List.append_nil]
    exact hq
theorem opensF_cons {f : Field} {fl : List Field} {off : Nat} {α β : Type} {d : Kd α} {d' : Kd β} {Q : α → Prop} {Q' : β → Prop} (ho : f.offset = off) (h : Opens P f.type d Q) (h' : OpensF P fl (off + d.sz) d' Q') :
    OpensF P (f :: fl) off (Kd.pair d d') (fun x => Q x.1 ∧ Q' x.2) := by
  intro H enc w base spare held n cs ys hl hf hx
  match ys, hl with
  | y :: ys, hl =>
    have h0 := hf 0 f rfl
    rw [ho, h.1] at h0
    simp only [List.map_cons, DataW.weightsEach, List.mem_append] at hx
    obtain ⟨a, hK, hQ⟩ := h.2 enc w base spare held n _ y h0 (fun q hq => hx q (.inl hq))
    obtain ⟨b, hK', hQ'⟩ := h' enc w base spare held n cs ys (by simpa using hl) (fun i f hi => hf (i + 1) f (by simpa using hi)) (fun q hq => hx q (.inr hq))
    refine ⟨(a, b), ⟨_, _, ?_, hK, hK'⟩, hQ, hQ'⟩
    show (cs.drop off).take (d.sz + d'.sz) = _
    rw [List.take_add, List.drop_drop]
theorem opens_struct {fs : Array Field} {fl : List Field} {α β : Type} {d : Kd α} {Q : α → Prop} (f : β → α) (g : α → β) (hg : ∀ a, f (g a) = a) (ht : P.underlying t = some (.struct fs)) (hfl : fs.toList = fl) (hc : P.cellsOf t = d.sz) (h : OpensF P fl 0 d Q) :
    Opens P t (Kd.iso d f) (fun b => Q (f b)) := by
  refine ⟨hc, fun enc w base spare held fuel cs x hx hw => ?_⟩
  obtain ⟨xs, n, _, rfl, hl, hxl, hf⟩ := DataW.trod_struct ht hx
  simp only [DataW.weights, ht] at hw
  have hfl' : fl.length = fs.size := by rw [← hfl, Array.length_toList]
  obtain ⟨a, hK, hQ⟩ := h enc w base spare held n cs xs (by omega) (fun i fd hi => hf i fd (by rw [← hfl] at hi; simpa using hi)) (by rw [← hfl]; exact hw)
  refine ⟨g a, ?_, by show Q (f (g a)); rw [hg]; exact hQ⟩
  show d.K w (f (g a)) cs
  rw [hg]
  have : (cs.drop 0).take d.sz = cs := by rw [List.drop_zero, ← hc, ← hl, List.take_length]
  rw [this] at hK
  exact hK
theorem Opens.imp {α : Type} {d : Kd α} {Q Q' : α → Prop} (h : Opens P t d Q) (hq : ∀ a, Q a → Q' a) : Opens P t d Q' :=
  ⟨h.1, fun enc w base spare held fuel cs x hx hw => let ⟨a, hK, hQ⟩ := h.2 enc w base spare held fuel cs x hx hw; ⟨a, hK, hq a hQ⟩⟩
/-- At a law's own argument. -/
theorem Opens.arg {α : Type} {d : Kd α} {Q : α → Prop} (h : Opens P t d Q) {H : Type} {enc : TypeId × Value → H} {W : World} {spare : Nat → Bool} {held : Bool} {v : Value} {x : DataW H} {p : List MemPlace} {ts : List TypeId} {ds : List (DataW H)} {j : Nat}
    (hsz : (DataW.weightsEach P ts ds).all (· ≤ reachBytes) = true) (hj : ts[j]? = some t) (hx : ds[j]? = some x) (ht : DataW.Trod enc P W 0 spare held t v x p) : ∃ a : α, d.K W a v.cells.toList ∧ Q a := by
  obtain ⟨fuel, hf⟩ := ht
  refine h.2 enc W 0 spare held fuel _ _ hf (fun n hn => ?_)
  have := List.all_eq_true.1 hsz n (DataW.weights_mem_each hj hx n hn)
  simpa using this
end
end Go.Proofs.Ytncfofnikmfjbaa.Op
