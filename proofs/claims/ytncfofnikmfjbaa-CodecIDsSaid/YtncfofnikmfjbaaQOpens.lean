import Derived.Test.YtncfofnikmfjbaaQCfRP
import Derived.Test.YtncfofnikmfjbaaQCfRt
import Derived.Test.YtncfofnikmfjbaaQCfV5
import Derived.Outline
import Derived.StillTailTactics
import Derived.RegionTactic
import Derived.BigRegion
import Derived.Lib.BufferWrite
import Derived.Test.YtncfofnikmfjbaaQCfRqW
import Derived.Test.YtncfofnikmfjbaaQPCix2
import Derived.ChangeArms
import Derived.Deep.Slices
import Derived.DataReads
import Derived.SizedLaws
import Derived.WideShapes
import Derived.Test.YtncfofnikmfjbaaQWMore
namespace Go.Proofs.Ytncfofnikmfjbaa.PCi
open Go.RowKit Go.Proofs.YtncfofnikmfjbaaW.PrintWords Go.Proofs.YtncfofnikmfjbaaW.PrintLast Go.Proofs.YtncfofnikmfjbaaW.PrintMore
attribute [local go_sem] max2_int min2_int max_two min_two max_three min_three max_four min_four
set_option linter.unusedVariables false
set_option linter.unusedSimpArgs false

/-! ### codec.Response, nought but its head -/
set_option maxHeartbeats 4000000 in
theorem rs_wfield (g base h : Nat) (f k i c : Int) (xs : List Int) (w : World) (hF : Wr w g base xs false) (hg : base ≤ g) (hb : base ≤ w.heap.size) (hm : MsAt w h (rsM k i c)) (hx : xs.length ≤ 600000000) (hf : RFd f) :
    Calls Try.prog 29 #[.pointer (some ⟨g, 0, none⟩), .pointer (some ⟨h, 0, none⟩), .int .i64 1, .int .i64 f] w fun e w' => e = .returned (.tuple #[]) ∧ Wr w' g base (xs ++ zF f) false ∧ KeepW w w' g base := by
  have num : ∀ f, f = 11 ∨ f = 14 ∨ f = 15 → Calls Try.prog 29 #[.pointer (some ⟨g, 0, none⟩), .pointer (some ⟨h, 0, none⟩), .int .i64 1, .int .i64 f] w fun e w' => e = .returned (.tuple #[]) ∧ Wr w' g base (xs ++ nb 0 8) false ∧ KeepW w w' g base := by
    intro f hf
    refine (wf_num g base h 1 f xs false _ w hF hg hb hm (by omega) (by omega) (by omega) (by omega) (by omega) (by omega) (by omega) (by omega)).mono ?_
    rintro e w' ⟨rfl, g1, g2⟩
    refine ⟨rfl, ?_, g2⟩
    rcases hf with rfl | rfl | rfl <;> exact g1
  rcases hf with rfl | rfl | rfl | rfl | rfl | rfl
  · exact num 11 (by omega)
  · exact num 14 (by omega)
  · exact num 15 (by omega)
  · exact wf_names g base h 1 xs false _ w hF hg hb hm none 0 [] (xs ++ nb 0 2) false rfl (fun W _ => Kd.C_nil _ W) (by simp only [List.map_nil, List.sum_nil]; omega) rfl
  · exact wf_counts g base h 1 xs false _ w hF hg hb hm none 0 [] (xs ++ nb 0 2) false rfl (fun W _ => Kd.C_nil _ W) (by simp only [List.map_nil, List.sum_nil]; omega) rfl
  · exact wf_bats0 g base h 1 xs false _ w hF hg hb hm (by omega) rfl
theorem zF_bytes (f : Int) : Bp.Bytes (zF f) := by
  unfold zF
  split <;> exact nb_bytes _ _
theorem rsB_bytes (k i c : Int) (L : List Int) : Bp.Bytes (rsB k i c L) := by
  refine bytes_app (nb_bytes _ _) (bytes_app (nb_bytes _ _) (bytes_app (nb_bytes _ _) ?_))
  induction L with
  | nil => exact nil_bytes
  | cons f L ih => exact bytes_app (zF_bytes f) ih
theorem zF_len (f : Int) : (zF f).length ≤ 8 := by
  unfold zF
  split <;> rw [nb_len] <;> decide
theorem rsM_wf {k i c : Int} (hk : (Lit.int .i64 k).wf = true) (hi : (Lit.int .i64 i).wf = true) (v2 v3 : Value) : Msg.Wf { rsM k i c with u2 := v2, u3 := v3 } := by
  refine ⟨?_, show (⟨#[]⟩ : ByteArray).size ≤ maxLen from by decide, show (⟨#[]⟩ : ByteArray).size ≤ maxLen from by decide⟩
  intro x hx
  simp only [Msg.ints, rsM, msg0, List.mem_cons, List.not_mem_nil, or_false] at hx
  by_cases h1 : x = k
  · subst h1; exact hk
  by_cases h2 : x = i
  · subst h2; exact hi
  · have : x = 0 := by omega
    subst this
    decide
def RsOut (k i c : Int) (b : List Int) (n : Int) : Prop := (∃ L, told.f k c = some L ∧ 0 ≤ i ∧ i ≤ 4294967295 ∧ b = rsB k i c L ∧ n = 0) ∨ (b = [] ∧ n = 1 ∧ ¬ ∃ L, told.f k c = some L ∧ 0 ≤ i ∧ i ≤ 4294967295)
theorem all26r (k i c : Int) : (#[.int .i64 0, .int .i64 0, .string ⟨#[]⟩, .int .i64 0, .int .i64 0, .int .i64 0, .int .i64 0, .int .i64 0, .bool false, .int .i64 0, .int .i64 0, .int .i64 0, .slice none 0 0, .int .i64 0, .int .i64 0, .int .i64 0, .string ⟨#[]⟩, .int .i64 k, .int .i64 i, .int .i64 c, .int .i64 0, .int .i64 0, .int .i64 0, .slice none 0 0, .slice none 0 0, .slice none 0 0] : Array Value).all (·.oneCell') = true := by
  rw [← Array.all_toList]
  simp [Value.oneCell']
theorem rsm_cells (k i c : Int) : (rsM k i c).cells = #[.int .i64 0, .int .i64 0, .string ⟨#[]⟩, .int .i64 0, .int .i64 0, .int .i64 0, .int .i64 0, .int .i64 0, .bool false, .int .i64 0, .int .i64 0, .int .i64 0, .slice none 0 0, .int .i64 0, .int .i64 0, .int .i64 0, .string ⟨#[]⟩, .int .i64 k, .int .i64 i, .int .i64 c, .int .i64 0, .int .i64 0, .int .i64 0, .slice none 0 0, .slice none 0 0, .slice none 0 0] := rfl
theorem same_nought (k i c : Int) (A2 A3 : Option Addr) (c2 c3 : Nat) (w : World) (hk : (Lit.int .i64 k).wf = true) (hi : (Lit.int .i64 i).wf = true) (h2 : Kd.C Kd.string w A2 ([] : List ByteArray).length []) (h3 : Kd.C (Kd.int .i64) w A3 ([] : List Int).length []) :
    Calls Try.prog 30 #[.agg (rsM k i c).cells, .agg (Msg.cells { rsM k i c with u2 := .slice A2 ([] : List ByteArray).length c2, u3 := .slice A3 ([] : List Int).length c3 })] w fun e w' => e = .returned (.bool true) ∧ Below w.heap.size w w' := by
  obtain ⟨r, h4, h5⟩ := flat_eq (rsM k i c) { rsM k i c with u2 := .slice A2 ([] : List ByteArray).length c2, u3 := .slice A3 ([] : List Int).length c3 } (rsM_wf (v2 := .slice none 0 0) (v3 := .slice none 0 0) hk hi) (rsM_wf hk hi _ _)
  obtain rfl : r = true := h5.2 rfl
  exact same_v5 3 (rsM k i c) { rsM k i c with u2 := .slice A2 ([] : List ByteArray).length c2, u3 := .slice A3 ([] : List Int).length c3 } ⟨⟨_, _, _, rfl⟩, ⟨_, _, _, rfl⟩, ⟨_, _, _, rfl⟩, ⟨_, _, _, rfl⟩⟩ ⟨⟨_, _, _, rfl⟩, ⟨_, _, _, rfl⟩, ⟨_, _, _, rfl⟩, ⟨_, _, _, rfl⟩⟩ none 0 [] none 0 [] none 0 [] A2 c2 [] none 0 [] A3 c3 [] w rfl (Kd.C_nil _ _) (Nat.le_refl _) rfl (Kd.C_nil _ _) (Nat.le_refl _) rfl (Kd.C_nil _ _) (Nat.le_refl _) rfl h2 (Nat.zero_le _) rfl (Kd.C_nil _ _) (Nat.le_refl _) rfl h3 (Nat.zero_le _) none none 0 0 0 0 rfl rfl (beq_self_eq_true c) rfl rfl rfl h4
theorem rs_ok {k i c : Int} {ok : Bool} {L : List Int} (h4 : false = (!ok || (decide (i < 0) || decide (4294967295 < i)))) (h5 : (told.f k c).isSome = ok) (h6 : (told.f k c).getD [] = L) : told.f k c = some L ∧ 0 ≤ i ∧ i ≤ 4294967295 := by
  cases ht : told.f k c with
  | none => rw [ht] at h5; subst h5; simp at h4
  | some L' =>
    rw [ht] at h6 h5
    obtain rfl : L' = L := h6
    subst h5
    have h7 : decide (i < 0) = false := by revert h4; cases decide (i < 0) <;> simp
    have h8 : decide (4294967295 < i) = false := by revert h4; cases decide (4294967295 < i) <;> simp
    exact ⟨rfl, by have := of_decide_eq_false h7; omega, by have := of_decide_eq_false h8; omega⟩
set_option maxHeartbeats 4000000 in
set_option maxRecDepth 100000 in
theorem codec_Response.nought (k i c : Int) (hk : (Lit.int .i64 k).wf = true) (hi : (Lit.int .i64 i).wf = true) (w : World) :
    Calls Try.prog 24 #[.agg #[.int .i64 k, .int .i64 i, .int .i64 c, .int .i64 0, .int .i64 0, .int .i64 0, .slice none 0 0, .slice none 0 0, .slice none 0 0]] w fun e w' => (∃ v b n, e = .returned (.tuple #[v, .int .i64 n]) ∧ Kd.R (Kd.int .u8) 5 w' w.heap.size (fun _ => True) v b ∧ RsOut k i c b n) ∧ Below w.heap.size w w' := by
  have HK := Aside0.mk hk
  have HI0 := Aside0.mk hi
  clear hk hi
  go_enter Try.func24, Try.ntmps24
  go_upto_region 1 with (fail)
  (try simp only [Act.put, List.setIfInBounds_toArray, List.set_cons_zero, List.set_cons_succ])
  have P0 := Aside0.mk (And.intro (heap_alloc_new w (.cells #[.int .i64 k, .int .i64 i, .int .i64 c, .int .i64 0, .int .i64 0, .int .i64 0, .slice none 0 0, .slice none 0 0, .slice none 0 0] 46)) (below_alloc (Below.refl w.heap.size w) (.cells #[.int .i64 k, .int .i64 i, .int .i64 c, .int .i64 0, .int .i64 0, .int .i64 0, .slice none 0 0, .slice none 0 0, .slice none 0 0] 46)))
  generalize w.alloc (.cells #[.int .i64 k, .int .i64 i, .int .i64 c, .int .i64 0, .int .i64 0, .int .i64 0, .slice none 0 0, .slice none 0 0, .slice none 0 0] 46) = w0 at P0 ⊢
  go_wp2_with (refine wpl_loadG (by rfl) 46 (.tmp 1) rfl _ rfl P0.out.1 Try.underlying46 rfl infoRs ?_)
  refine (codec_told.calls k i c 0 0 0 none none none 0 0 0 0 0 0 w0).mono ?_
  rintro e w1 ⟨hp, hb⟩
  obtain ⟨ok, Al, L, rfl, hok, hL, hL7, _, hC⟩ := hp
  have HOK := Aside0.mk hok
  have HLL := Aside0.mk hL
  have HL7 := Aside0.mk hL7
  have P1 := Aside0.mk (And.intro (blk_below P0.out.1 hb) (below_step P0.out.2 hb))
  have HCL := Aside0.mk (show ∀ g W', w1.heap.size ≤ g → KeepW w1 W' g w.heap.size → Kd.C (Kd.int .i64) W' Al L.length L from fun g W' hg hW => hC g _ W' hg hW)
  have HX := Aside0.mk (show ∀ x ∈ L, RFd x from fun x hx => told_fields (k := k) (c := c) x (by rw [hL]; exact hx))
  clear hok hL hL7 hC hb P0
  obtain ⟨eb, heb⟩ : ∃ b, b = (!ok || (decide (i < 0) || decide (4294967295 < i))) := ⟨_, rfl⟩
  have HEB := Aside0.mk heb
  clear heb
  have q1 : w1.cell? ⟨w.heap.size, 1, none⟩ = some (.int .i64 i) := (blk_cell P1.out.1 1).trans rfl
  go_upto_region 2 with (fail)
  (try simp only [Act.put, List.setIfInBounds_toArray, List.set_cons_zero, List.set_cons_succ])
  go_cut [5, 28] (fun v5 v28 wc => v28 = .bool eb ∧ wc = w1)
  case first =>
    go_wp2
    all_goals
      go_meet
      case rel => exact ⟨congrArg Value.bool (by rw [HEB.out]; first | (simp [*]; done) | (simp [*, Bool.or_assoc]; done)), rfl⟩
  obtain ⟨rfl, rfl⟩ := hcut
  clear q1
  cases eb with
  | true =>
    go_wp2_with fail
    refine bodyPost_ret (v := .tuple #[.slice none 0 0, .int .i64 1]) (by simp [results, Try.results24, go_sem]) rfl ?_
    exact ⟨⟨_, [], 1, rfl, Kd.R_nil _ _ _ _ _, .inr ⟨rfl, rfl, fun ⟨L', h1, h2, h3⟩ => by have h4 := HEB.out; have h5 := HOK.out; rw [h1] at h5; subst h5; rw [decide_eq_false (by omega), decide_eq_false (by omega)] at h4; simp at h4⟩⟩, P1.out.2⟩
  | false =>
    have HLV := Aside0.mk (rs_ok (ok := ok) HEB.out HOK.out HLL.out)
    go_upto_region 5 with (fail)
    (try simp only [Act.put, List.setIfInBounds_toArray, List.set_cons_zero, List.set_cons_succ])
    obtain ⟨g, hg⟩ : ∃ g, g = wc.heap.size := ⟨_, rfl⟩
    have HG := Aside0.mk hg
    have P2 := Aside0.mk (writer_new P1.out.2)
    have B2 := Aside0.mk (blk_alloc P1.out.1 (.cells #[.slice none 0 0, .bool false] 64))
    have K2 := Aside0.mk (KeepW.of_below (g := wc.heap.size) (base := w.heap.size) (below_alloc (Below.refl wc.heap.size wc) (.cells #[.slice none 0 0, .bool false] 64)) P1.out.2.size)
    generalize wc.alloc (.cells #[.slice none 0 0, .bool false] 64) = w2 at P2 B2 K2 ⊢
    rw [← hg] at P2 K2 ⊢
    clear hg
    have HGE := Aside0.mk (show w.heap.size < g from by rw [HG.out]; exact blk_lt P1.out.1)
    have q0 : w2.cell? ⟨w.heap.size, 0, none⟩ = some (.int .i64 k) := (blk_cell B2.out 0).trans rfl
    go_wp2_with fail
    refine (wr_number g w.heap.size [] false k 1 w2 P2.out.1 (Nat.le_of_lt HGE.out) P2.out.2.size (by decide) (by decide) (by first | decide | (simp only [List.length_append, nb_len, List.length_nil]; decide))).mono ?_
    rintro e w3 ⟨rfl, h1, h2⟩
    have P3 := Aside0.mk (And.intro h1 (P2.out.2.trans h2.below))
    have B3 := Aside0.mk (h2.blk B2.out (by have := HGE.out; omega) (by decide))
    have K3 := Aside0.mk (K2.out.trans h2)
    clear h1 h2 P2 B2 K2 q0
    have q0 : w3.cell? ⟨w.heap.size, 1, none⟩ = some (.int .i64 i) := (blk_cell B3.out 1).trans rfl
    go_wp2_with fail
    refine (wr_number g w.heap.size ([] ++ nb k 1) false i 4 w3 P3.out.1 (Nat.le_of_lt HGE.out) P3.out.2.size (by decide) (by decide) (by first | decide | (simp only [List.length_append, nb_len, List.length_nil]; decide))).mono ?_
    rintro e w4 ⟨rfl, h1, h2⟩
    have P4 := Aside0.mk (And.intro h1 (P3.out.2.trans h2.below))
    have B4 := Aside0.mk (h2.blk B3.out (by have := HGE.out; omega) (by decide))
    have K4 := Aside0.mk (K3.out.trans h2)
    clear h1 h2 P3 B3 K3 q0
    have q0 : w4.cell? ⟨w.heap.size, 2, none⟩ = some (.int .i64 c) := (blk_cell B4.out 2).trans rfl
    go_wp2_with fail
    refine (wr_number g w.heap.size ([] ++ nb k 1 ++ nb i 4) false c 1 w4 P4.out.1 (Nat.le_of_lt HGE.out) P4.out.2.size (by decide) (by decide) (by first | decide | (simp only [List.length_append, nb_len, List.length_nil]; decide))).mono ?_
    rintro e w5 ⟨rfl, h1, h2⟩
    have P5 := Aside0.mk (And.intro h1 (P4.out.2.trans h2.below))
    have B5 := Aside0.mk (h2.blk B4.out (by have := HGE.out; omega) (by decide))
    have K5 := Aside0.mk (K4.out.trans h2)
    clear h1 h2 P4 B4 K4 q0
    go_wp2_with (first | (refine wpl_loadG (by rfl) 46 (.tmp 1) rfl _ rfl B5.out Try.underlying46 rfl infoRs ?_) | (refine wpList_store_row rfl 67 (.tmp 7) (.tmp 44) rfl w5.heap.size #[.int .i64 0, .int .i64 0, .string ⟨#[]⟩, .int .i64 0, .int .i64 0, .int .i64 0, .int .i64 0, .int .i64 0, .bool false, .int .i64 0, .int .i64 0, .int .i64 0, .slice none 0 0, .int .i64 0, .int .i64 0, .int .i64 0, .string ⟨#[]⟩, .int .i64 k, .int .i64 i, .int .i64 c, .int .i64 0, .int .i64 0, .int .i64 0, .slice none 0 0, .slice none 0 0, .slice none 0 0] rfl rfl 67 #[.int .i64 0, .int .i64 0, .string ⟨#[]⟩, .int .i64 0, .int .i64 0, .int .i64 0, .int .i64 0, .int .i64 0, .bool false, .int .i64 0, .int .i64 0, .int .i64 0, .slice none 0 0, .int .i64 0, .int .i64 0, .int .i64 0, .string ⟨#[]⟩, .int .i64 0, .int .i64 0, .int .i64 0, .int .i64 0, .int .i64 0, .int .i64 0, .slice none 0 0, .slice none 0 0, .slice none 0 0] (heap_alloc_new w5 _) info26 rfl (all26r k i c) ?_))
    have HH := Aside0.mk (show g < w5.heap.size from P5.out.1.lt)
    have S5 := Aside0.mk (show QqSt w ((w5.alloc (.cells #[.int .i64 0, .int .i64 0, .string ⟨#[]⟩, .int .i64 0, .int .i64 0, .int .i64 0, .int .i64 0, .int .i64 0, .bool false, .int .i64 0, .int .i64 0, .int .i64 0, .slice none 0 0, .int .i64 0, .int .i64 0, .int .i64 0, .string ⟨#[]⟩, .int .i64 0, .int .i64 0, .int .i64 0, .int .i64 0, .int .i64 0, .int .i64 0, .slice none 0 0, .slice none 0 0, .slice none 0 0] 67)).setRow w5.heap.size #[.int .i64 0, .int .i64 0, .string ⟨#[]⟩, .int .i64 0, .int .i64 0, .int .i64 0, .int .i64 0, .int .i64 0, .bool false, .int .i64 0, .int .i64 0, .int .i64 0, .slice none 0 0, .int .i64 0, .int .i64 0, .int .i64 0, .string ⟨#[]⟩, .int .i64 k, .int .i64 i, .int .i64 c, .int .i64 0, .int .i64 0, .int .i64 0, .slice none 0 0, .slice none 0 0, .slice none 0 0]) g w5.heap.size ([] ++ nb k 1 ++ nb i 4 ++ nb c 1, false) (rsM k i c) from have hb := below_row (below_alloc (Below.refl w5.heap.size w5) (.cells #[.int .i64 0, .int .i64 0, .string ⟨#[]⟩, .int .i64 0, .int .i64 0, .int .i64 0, .int .i64 0, .int .i64 0, .bool false, .int .i64 0, .int .i64 0, .int .i64 0, .slice none 0 0, .int .i64 0, .int .i64 0, .int .i64 0, .string ⟨#[]⟩, .int .i64 0, .int .i64 0, .int .i64 0, .int .i64 0, .int .i64 0, .int .i64 0, .slice none 0 0, .slice none 0 0, .slice none 0 0] 67)) (Nat.le_refl _) #[.int .i64 0, .int .i64 0, .string ⟨#[]⟩, .int .i64 0, .int .i64 0, .int .i64 0, .int .i64 0, .int .i64 0, .bool false, .int .i64 0, .int .i64 0, .int .i64 0, .slice none 0 0, .int .i64 0, .int .i64 0, .int .i64 0, .string ⟨#[]⟩, .int .i64 k, .int .i64 i, .int .i64 c, .int .i64 0, .int .i64 0, .int .i64 0, .slice none 0 0, .slice none 0 0, .slice none 0 0]; ⟨P5.out.1.below hb, by unfold MsAt; rw [rsm_cells]; exact setRow_heap _ _ _ _ _ _ (heap_alloc_new w5 _), below_step P5.out.2 hb⟩)
    have K6 := Aside0.mk (show KeepW wc ((w5.alloc (.cells #[.int .i64 0, .int .i64 0, .string ⟨#[]⟩, .int .i64 0, .int .i64 0, .int .i64 0, .int .i64 0, .int .i64 0, .bool false, .int .i64 0, .int .i64 0, .int .i64 0, .slice none 0 0, .int .i64 0, .int .i64 0, .int .i64 0, .string ⟨#[]⟩, .int .i64 0, .int .i64 0, .int .i64 0, .int .i64 0, .int .i64 0, .int .i64 0, .slice none 0 0, .slice none 0 0, .slice none 0 0] 67)).setRow w5.heap.size #[.int .i64 0, .int .i64 0, .string ⟨#[]⟩, .int .i64 0, .int .i64 0, .int .i64 0, .int .i64 0, .int .i64 0, .bool false, .int .i64 0, .int .i64 0, .int .i64 0, .slice none 0 0, .int .i64 0, .int .i64 0, .int .i64 0, .string ⟨#[]⟩, .int .i64 k, .int .i64 i, .int .i64 c, .int .i64 0, .int .i64 0, .int .i64 0, .slice none 0 0, .slice none 0 0, .slice none 0 0]) g w.heap.size from K5.out.trans (KeepW.of_below (below_row (below_alloc (Below.refl w5.heap.size w5) (.cells #[.int .i64 0, .int .i64 0, .string ⟨#[]⟩, .int .i64 0, .int .i64 0, .int .i64 0, .int .i64 0, .int .i64 0, .bool false, .int .i64 0, .int .i64 0, .int .i64 0, .slice none 0 0, .int .i64 0, .int .i64 0, .int .i64 0, .string ⟨#[]⟩, .int .i64 0, .int .i64 0, .int .i64 0, .int .i64 0, .int .i64 0, .int .i64 0, .slice none 0 0, .slice none 0 0, .slice none 0 0] 67)) (Nat.le_refl _) #[.int .i64 0, .int .i64 0, .string ⟨#[]⟩, .int .i64 0, .int .i64 0, .int .i64 0, .int .i64 0, .int .i64 0, .bool false, .int .i64 0, .int .i64 0, .int .i64 0, .slice none 0 0, .int .i64 0, .int .i64 0, .int .i64 0, .string ⟨#[]⟩, .int .i64 k, .int .i64 i, .int .i64 c, .int .i64 0, .int .i64 0, .int .i64 0, .slice none 0 0, .slice none 0 0, .slice none 0 0]) P5.out.2.size))
    generalize (w5.alloc (.cells #[.int .i64 0, .int .i64 0, .string ⟨#[]⟩, .int .i64 0, .int .i64 0, .int .i64 0, .int .i64 0, .int .i64 0, .bool false, .int .i64 0, .int .i64 0, .int .i64 0, .slice none 0 0, .int .i64 0, .int .i64 0, .int .i64 0, .string ⟨#[]⟩, .int .i64 0, .int .i64 0, .int .i64 0, .int .i64 0, .int .i64 0, .int .i64 0, .slice none 0 0, .slice none 0 0, .slice none 0 0] 67)).setRow w5.heap.size #[.int .i64 0, .int .i64 0, .string ⟨#[]⟩, .int .i64 0, .int .i64 0, .int .i64 0, .int .i64 0, .int .i64 0, .bool false, .int .i64 0, .int .i64 0, .int .i64 0, .slice none 0 0, .int .i64 0, .int .i64 0, .int .i64 0, .string ⟨#[]⟩, .int .i64 k, .int .i64 i, .int .i64 c, .int .i64 0, .int .i64 0, .int .i64 0, .slice none 0 0, .slice none 0 0, .slice none 0 0] = w6 at S5 K6 ⊢
    obtain ⟨h, hh⟩ : ∃ h, h = w5.heap.size := ⟨_, rfl⟩
    rw [← hh] at S5 HH ⊢
    have HGH := Aside0.mk (show h ≠ g from by have := HH.out; omega)
    clear P5 B5 K5 hh
    have HWC := Aside0.mk (show wc.heap.size ≤ g from by rw [HG.out]; exact Nat.le_refl _)
    go_loopg [47] (L.length + 1) (fun kq v47 w' => ∃ (j : Int) (xs : List Int), v47 = .int .i64 j ∧ Aside0 (kq + j.toNat = L.length + 1 ∧ 0 ≤ j ∧ j ≤ (L.length : Int)) ∧ Aside0 (xs ++ ((L.drop j.toNat).map zF).flatten = rsB k i c L) ∧ Aside0 (QqSt w w' g h (xs, false) (rsM k i c)) ∧ Aside0 (KeepW wc w' g w.heap.size) ∧ Aside0 (xs.length ≤ 6 + j.toNat * 8))
    case atStart => exact ⟨0, _, rfl, ⟨by simp, by omega, by omega⟩, ⟨by unfold rsB; simp⟩, S5, K6, ⟨by simp only [List.length_append, nb_len, List.length_nil]; omega⟩⟩
    case round =>
      obtain ⟨j, xs, rfl, HI, HA, HQ, HK6, HLn⟩ := hrel
      clear S5 K6
      by_cases hi : j < (L.length : Int)
      · have d1 : decide (j < (L.length : Int)) = true := decide_eq_true hi
        have h0 := HI.out.2.1
        obtain ⟨ad, ea, x0⟩ := Kd.at_int (HCL.out g wr HWC.out HK6.out) j h0 hi
        cases ea
        have p1 := eq_true h0
        have p2 := eq_true hi
        have HE2 := Aside0.mk (show (xs ++ zF (rd L j)) ++ ((L.drop (j + 1).toNat).map zF).flatten = rsB k i c L from by have h_ := HA.out; rw [drop_rd (0 : Int) h0 hi] at h_; rw [← h_, List.append_assoc]; rfl)
        have e1 : IntKind.i64.wrap (j + 1) = j + 1 := (i64_w _).trans (by have := HL7.out; unfold wrap64; omega)
        have HX2 := Aside0.mk (HX.out (rd L j) (List.mem_of_mem_drop (i := j.toNat) (by have h_ := drop_rd (0 : Int) h0 hi; rw [h_]; exact List.mem_cons_self)))
        have HI2 := Aside0.mk hi
        clear hi h0
        go_wp2_with fail
        refine (rs_wfield g w.heap.size h (rd L j) k i c xs wr HQ.out.wr (Nat.le_of_lt HGE.out) HQ.out.below.size HQ.out.ms (by have := HLn.out; have := HL7.out; have := HI2.out; have := HI.out; omega) HX2.out).mono ?_
        rintro e w9 ⟨rfl, h3, h4⟩
        have Q2 := Aside0.mk (HQ.out.step (s2 := (xs ++ zF (rd L j), false)) HGH.out h3 h4)
        have K2 := Aside0.mk (HK6.out.trans h4)
        have N2 := Aside0.mk (show (xs ++ zF (rd L j)).length ≤ 6 + (j + 1).toNat * 8 from by have := zF_len (rd L j); have := HLn.out; rw [List.length_append, show (j + 1).toNat = j.toNat + 1 from by have := HI.out; omega]; omega)
        clear h3 h4 HQ HK6 HLn x0
        go_wp2_with fail
        go_roundg (L.length + 1 - (j + 1).toNat)
        case measure => have := HI.out; have := HI2.out; omega
        case rel => exact ⟨j + 1, _, by first | rfl | (rw [e1]), ⟨by have := HI.out; have := HI2.out; omega, by have := HI.out; omega, by have := HI2.out; omega⟩, HE2, Q2, K2, N2⟩
      · have d1 : decide (j < (L.length : Int)) = false := decide_eq_false hi
        have hs := HA.out
        rw [List.drop_eq_nil_of_le (by have := HI.out; omega), List.map_nil, List.flatten_nil, List.append_nil] at hs
        subst hs
        clear hi HA HK6 HLn HX HCL HI
        obtain ⟨Aw, cw, hgw, hRw⟩ := HQ.out.wr
        dsimp only at hgw hRw
        have q0 : wr.cell? ⟨g, 0, none⟩ = some (.slice Aw (rsB k i c L).length cw) := (blk_cell hgw 0).trans rfl
        have q1 : wr.cell? ⟨g, 1, none⟩ = some (.bool false) := (blk_cell hgw 1).trans rfl
        have HRw := Aside0.mk hRw
        have HGw := Aside0.mk hgw
        clear hgw hRw
        go_wp2_with fail
        refine (codec_ParseResponse.nought k i c L HLV.out.1 ⟨HLV.out.2.1, by have := HLV.out.2.2; omega⟩ Aw cw _ rfl wr (Kd.R_reads' HRw.out).2.2 (Kd.R_reads' HRw.out).2.1 (rsB_bytes _ _ _ _)).mono ?_
        rintro e w7 ⟨⟨v2, v3, rfl, h2, h3⟩, hb⟩
        obtain ⟨A2, c2, e2⟩ := Kd.R_slice h2
        obtain ⟨A3, c3, e3⟩ := Kd.R_slice h3
        subst e2
        subst e3
        have H2 := Aside0.mk h2
        have H3 := Aside0.mk h3
        have Q6 := Aside0.mk (HQ.out.under hb)
        have G6 := Aside0.mk (blk_below HGw.out hb)
        have R6 := Aside0.mk (Kd.R_below HRw.out hb)
        clear h2 h3 hb HQ HGw HRw q0 q1
        go_upto_region 17 with (refine wpList_store_row rfl 46 (.tmp 10) (.tmp 65) rfl w7.heap.size #[.int .i64 k, .int .i64 i, .int .i64 c, .int .i64 0, .int .i64 0, .int .i64 0, .slice A2 ([] : List ByteArray).length c2, .slice A3 ([] : List Int).length c3, .slice none 0 0] rfl rfl 46 #[.int .i64 0, .int .i64 0, .int .i64 0, .int .i64 0, .int .i64 0, .int .i64 0, .slice none 0 0, .slice none 0 0, .slice none 0 0] (heap_alloc_new w7 _) infoRs rfl (res_all { rsM k i c with u2 := .slice A2 ([] : List ByteArray).length c2, u3 := .slice A3 ([] : List Int).length c3 } rfl rfl rfl) ?_)
        (try simp only [Act.put, List.setIfInBounds_toArray, List.set_cons_zero, List.set_cons_succ])
        have hb7 := below_row (below_alloc (Below.refl w7.heap.size w7) (.cells #[.int .i64 0, .int .i64 0, .int .i64 0, .int .i64 0, .int .i64 0, .int .i64 0, .slice none 0 0, .slice none 0 0, .slice none 0 0] 46)) (Nat.le_refl _) #[.int .i64 k, .int .i64 i, .int .i64 c, .int .i64 0, .int .i64 0, .int .i64 0, .slice A2 ([] : List ByteArray).length c2, .slice A3 ([] : List Int).length c3, .slice none 0 0]
        have Q7 := Aside0.mk (Q6.out.under hb7)
        have G7 := Aside0.mk (blk_below G6.out hb7)
        have R7 := Aside0.mk (Kd.R_below R6.out hb7)
        have V2 := Aside0.mk (Kd.R_below H2.out hb7)
        have V3 := Aside0.mk (Kd.R_below H3.out hb7)
        have T7 := Aside0.mk (setRow_heap _ _ _ #[.int .i64 k, .int .i64 i, .int .i64 c, .int .i64 0, .int .i64 0, .int .i64 0, .slice A2 ([] : List ByteArray).length c2, .slice A3 ([] : List Int).length c3, .slice none 0 0] _ _ (heap_alloc_new w7 (.cells #[.int .i64 0, .int .i64 0, .int .i64 0, .int .i64 0, .int .i64 0, .int .i64 0, .slice none 0 0, .slice none 0 0, .slice none 0 0] 46)))
        generalize (w7.alloc (.cells #[.int .i64 0, .int .i64 0, .int .i64 0, .int .i64 0, .int .i64 0, .int .i64 0, .slice none 0 0, .slice none 0 0, .slice none 0 0] 46)).setRow w7.heap.size #[.int .i64 k, .int .i64 i, .int .i64 c, .int .i64 0, .int .i64 0, .int .i64 0, .slice A2 ([] : List ByteArray).length c2, .slice A3 ([] : List Int).length c3, .slice none 0 0] = w8 at Q7 G7 R7 V2 V3 T7 ⊢
        clear hb7 Q6 G6 R6 H2 H3
        go_wp2_with (first | (refine wpl_loadG (by rfl) 67 (.tmp 7) rfl _ rfl Q7.out.ms Try.underlying67 rfl info26 ?_) | (refine wpl_loadG (by rfl) 46 (.tmp 10) rfl _ rfl T7.out Try.underlying46 rfl infoRs ?_))
        refine (same_nought k i c A2 A3 c2 c3 w8 HK.out HI0.out (Kd.R_reads' V2.out).2.2 (Kd.R_reads' V3.out).2.2).mono ?_
        rintro e w9 ⟨rfl, hb⟩
        have Q8 := Aside0.mk (Q7.out.under hb)
        have G8 := Aside0.mk (blk_below G7.out hb)
        have R8 := Aside0.mk (Kd.R_below R7.out hb)
        clear hb Q7 G7 R7 V2 V3 T7
        have q0 : w9.cell? ⟨g, 0, none⟩ = some (.slice Aw (rsB k i c L).length cw) := (blk_cell G8.out 0).trans rfl
        go_wp2_with fail
        refine bodyPost_ret (v := .tuple #[.slice Aw (rsB k i c L).length cw, .int .i64 0]) (by simp [results, Try.results24, go_sem]) rfl ?_
        exact ⟨⟨_, _, 0, rfl, R8.out, .inl ⟨L, HLV.out.1, HLV.out.2.1, HLV.out.2.2, rfl, rfl⟩⟩, Q8.out.below⟩

end Go.Proofs.Ytncfofnikmfjbaa.PCi

namespace Go.Proofs.Ytncfofnikmfjbaa.PCi
open Go.RowKit Go.Proofs.YtncfofnikmfjbaaW.PrintWords Go.Proofs.YtncfofnikmfjbaaW.PrintLast Go.Proofs.YtncfofnikmfjbaaW.PrintMore
attribute [local go_sem] max2_int min2_int max_two min_two max_three min_three max_four min_four
set_option linter.unusedVariables false
set_option linter.unusedSimpArgs false

/-! ### bollardlaw20.awake -/
def aw : Msg := ⟨2, 7, ⟨#[97]⟩, 0, 0, 0, 0, 0, false, 0, 0, 0, .slice none 0 0, 0, 0, 0, ⟨#[]⟩, 0, 0, 0, 0, 0, 0, .slice none 0 0, .slice none 0 0, .slice none 0 0⟩
def awB : List Int := [2, 0, 0, 0, 7, 0, 1, 97]
theorem aw_bad : rqBad1 aw = false := by kernel_rfl
theorem aw_wr : rqWr aw [] = (awB, false) := by kernel_rfl
theorem aw_e : (codec_ParseRequest.f awB).2.2 = 0 := by kernel_rfl
theorem aw_rs : (codec_ParseRequest.f awB).2.1 = [] := by kernel_rfl
theorem aw_lits : (codec_ParseRequest.f awB).1.lits = aw.lits := by kernel_rfl
theorem aw_none : (codec_ParseRequest.f [2]).2.2 = 13 := by kernel_rfl
theorem row_C8 {W : World} {q : Nat} {L : List Int} {T : TypeId} {fz : Nat × Nat} (hb : W.heap[q]? = some (.cells (L.map (Value.int .u8)).toArray T fz)) (hx : L.length ≤ 9223372036854775807) : Kd.C (Kd.int .u8) W (some ⟨q, 0, none⟩) L.length L := by
  refine Kd.C_of_reads (d := (0 : Int)) (h1 := fun _ => rfl) ⟨rfl, hx, fun _ => ⟨_, rfl, fun j hj => ?_⟩⟩
  have ha : (⟨q, 0, none⟩ : Addr).add j = ⟨q, j, none⟩ := by unfold Addr.add; split <;> simp_all
  rw [ha]
  unfold World.cell?
  simp only [hb]
  simp [List.getElem?_eq_getElem hj, List.getD_eq_getElem?_getD]
theorem aw_out {b : List Int} {n : Int} (h : RqOut aw [] b n) : b = awB ∧ n = 0 := by
  unfold RqOut at h
  rw [aw_wr] at h
  rcases h with ⟨h1, h2, _⟩ | ⟨_, _, h3⟩
  · exact ⟨h1, h2⟩
  · exact absurd ⟨aw_bad, rfl, aw_e, aw_lits.symm, aw_rs.symm⟩ h3
theorem aw_wf : aw.Wf := ⟨by intro x hx; simp only [Msg.ints, aw, List.mem_cons, List.not_mem_nil, or_false] at hx; exact wf64 (by omega), by decide, by decide⟩
theorem aw_bytes : Bp.Bytes (rqWr aw []).1 := by rw [aw_wr]; intro x hx; simp only [awB, List.mem_cons, List.not_mem_nil, or_false] at hx; omega
set_option maxHeartbeats 4000000 in
set_option maxRecDepth 100000 in
theorem bollardlaw20_awake.calls (hE : EqOk) (w : World) : Calls Try.prog 12 #[] w fun e w' => e = .returned (.bool true) ∧ Below w.heap.size w w' := by
  have HE := Aside0.mk hE
  clear hE
  go_enter Try.func12, Try.ntmps12
  go_wp2_with fail
  refine (codec_Request.calls aw none 0 [] w HE.out aw_wf ⟨rfl, rfl, rfl, rfl, rfl, rfl, rfl, rfl, rfl⟩ (wf64 (by decide)) rfl (Kd.C_nil _ _) (Nat.le_refl _) (by decide) aw_bytes).mono ?_
  rintro e w1 ⟨⟨v, b, n, rfl, hv, ho⟩, hb⟩
  obtain ⟨rfl, rfl⟩ := aw_out ho
  obtain ⟨Av, cv, ev⟩ := Kd.R_slice hv
  subst ev
  have HV := Aside0.mk hv
  have HB := Aside0.mk hb
  clear hv ho hb
  go_wp2_with fail
  have B2 := Aside0.mk (below_step HB.out (below_alloc (Below.refl w1.heap.size w1) (.cells #[.int .u8 2] 5)))
  have V2 := Aside0.mk (Kd.R_below HV.out (below_alloc (Below.refl w1.heap.size w1) (.cells #[.int .u8 2] 5)))
  have C2 := Aside0.mk (row_C8 (L := [2]) (heap_alloc_new w1 (.cells #[.int .u8 2] 5)) (by decide))
  generalize w1.alloc (.cells #[.int .u8 2] 5) = w2 at B2 V2 C2 ⊢
  clear HB HV
  refine (codec_ParseRequest.calls _ 1 [2] w2 C2.out (Nat.le_refl _) (by intro x hx; simp only [List.mem_cons, List.not_mem_nil, or_false] at hx; omega)).mono ?_
  rintro e w3 ⟨⟨v, rfl, hv⟩, hb⟩
  rw [aw_none]
  obtain ⟨p, hp⟩ : ∃ p, p = (codec_ParseRequest.f [2]).1 := ⟨_, rfl⟩
  rw [← hp]
  obtain ⟨Ap, cp, ep⟩ := Kd.R_slice hv
  subst ep
  obtain ⟨np, hnp⟩ : ∃ k, k = (codec_ParseRequest.f [2]).2.1.length := ⟨_, rfl⟩
  rw [← hnp]
  have B3 := Aside0.mk (below_step B2.out hb)
  have V3 := Aside0.mk (Kd.R_below V2.out hb)
  clear hv hb hp hnp C2 B2 V2
  go_upto_region 3 with (refine wpList_store_row rfl 26 (.tmp 3) (.tmp 13) rfl w3.heap.size (Msg.req { p with u1 := .slice Ap np cp }) rfl rfl 26 #[.int .i64 0, .int .i64 0, .string ⟨#[]⟩, .int .i64 0, .int .i64 0, .int .i64 0, .int .i64 0, .int .i64 0, .bool false, .int .i64 0, .int .i64 0, .int .i64 0, .slice none 0 0, .int .i64 0, .int .i64 0, .int .i64 0, .string ⟨#[]⟩] (heap_alloc_new w3 _) info17 rfl (req_all _ rfl) ?_)
  (try simp only [Act.put, List.setIfInBounds_toArray, List.set_cons_zero, List.set_cons_succ])
  have hb4 := below_row (below_alloc (Below.refl w3.heap.size w3) (.cells #[.int .i64 0, .int .i64 0, .string ⟨#[]⟩, .int .i64 0, .int .i64 0, .int .i64 0, .int .i64 0, .int .i64 0, .bool false, .int .i64 0, .int .i64 0, .int .i64 0, .slice none 0 0, .int .i64 0, .int .i64 0, .int .i64 0, .string ⟨#[]⟩] 26)) (Nat.le_refl _) (Msg.req { p with u1 := .slice Ap np cp })
  have B4 := Aside0.mk (below_step B3.out hb4)
  have V4 := Aside0.mk (Kd.R_below V3.out hb4)
  generalize (w3.alloc (.cells #[.int .i64 0, .int .i64 0, .string ⟨#[]⟩, .int .i64 0, .int .i64 0, .int .i64 0, .int .i64 0, .int .i64 0, .bool false, .int .i64 0, .int .i64 0, .int .i64 0, .slice none 0 0, .int .i64 0, .int .i64 0, .int .i64 0, .string ⟨#[]⟩] 26)).setRow w3.heap.size (Msg.req { p with u1 := .slice Ap np cp }) = w4 at B4 V4 ⊢
  clear hb4 B3 V3
  go_wp2_with fail
  have hb5 := below_alloc (Below.refl w4.heap.size w4) (.cells #[.int .u8 2, .int .u8 0, .int .u8 0, .int .u8 0, .int .u8 7, .int .u8 0, .int .u8 1, .int .u8 97] 5)
  have C5 := Aside0.mk (row_C8 (L := awB) (heap_alloc_new w4 (.cells #[.int .u8 2, .int .u8 0, .int .u8 0, .int .u8 0, .int .u8 7, .int .u8 0, .int .u8 1, .int .u8 97] 5)) (by decide))
  refine (bollardalike_Bytes.calls 20 Av cv awB _ 8 awB true _ (Kd.C_below (Kd.R_reads' V4.out).2.2 hb5) (Kd.R_reads' V4.out).2.1 C5.out (by decide) (by kernel_rfl)).mono ?_
  rintro e w6 ⟨rfl, hb6⟩
  have B6 := Aside0.mk (below_step (below_step B4.out hb5) (Drawn0.below hb6))
  clear hb5 hb6 C5 B4 V4
  go_wp2_with fail
  go_ret
  exact ⟨rfl, B6.out⟩

end Go.Proofs.Ytncfofnikmfjbaa.PCi

namespace Go.Proofs.Ytncfofnikmfjbaa.PCi
open Go.RowKit Go.Proofs.YtncfofnikmfjbaaW.PrintWords Go.Proofs.YtncfofnikmfjbaaW.PrintLast Go.Proofs.YtncfofnikmfjbaaW.PrintMore
attribute [local go_sem] max2_int min2_int max_two min_two max_three min_three max_four min_four
set_option linter.unusedVariables false
set_option linter.unusedSimpArgs false

/-! ### CodecIDs -/
def idM (id : Int) : Msg := { msg0 with kind := 3, id := id }
theorem idM_wf {i : Int} (hi : (Lit.int .i64 i).wf = true) : (idM i).Wf := by
  refine ⟨?_, show (⟨#[]⟩ : ByteArray).size ≤ maxLen from by decide, show (⟨#[]⟩ : ByteArray).size ≤ maxLen from by decide⟩
  intro x hx
  simp only [Msg.ints, idM, msg0, List.mem_cons, List.not_mem_nil, or_false] at hx
  by_cases h2 : x = i
  · subst h2; exact hi
  by_cases h3 : x = 3
  · subst h3; decide
  · have : x = 0 := by omega
    subst this
    decide
theorem fld3 : codec_fields.f 0 3 = some [] := by kernel_rfl
theorem idM_wr (i : Int) : rqWr (idM i) [] = (nb 3 1 ++ nb i 4, false) := by
  unfold rqWr
  rw [show (idM i).kind = 3 from rfl, fld3]
  rfl
theorem idM_bad (i : Int) : rqBad1 (idM i) = (decide (i < 0) || decide (4294967295 < i)) := by
  unfold rqBad1
  rw [show (idM i).kind = 3 from rfl, fld3]
  rfl
theorem id_rq {i n : Int} {b : List Int} (h : RqOut (idM i) [] b n) (hw : (Lit.int .i64 i).wf = true) : (0 ≤ i ∧ i ≤ 4294967295 → b.length = 5 ∧ n = 0) ∧ (¬ (0 ≤ i ∧ i ≤ 4294967295) → n = 1) := by
  have e1 := idM_wr i
  have e2 := idM_bad i
  constructor
  · intro hi
    have hp := parse_rt (idM i) [] [] (idM_wf hw) (by simp) fld3 (show 0 ≤ (3 : Int) ∧ (3 : Int) < 256 from by decide) hi (by rw [e1])
    rcases h with ⟨rfl, rfl, _⟩ | ⟨_, _, h3⟩
    · rw [e1]; exact ⟨by rw [List.length_append, nb_len, nb_len], rfl⟩
    · exfalso
      apply h3
      exact ⟨by rw [e2, decide_eq_false (by omega), decide_eq_false (by omega)]; rfl, by rw [e1], by rw [hp], by rw [hp]; exact ⟨rfl, rfl⟩⟩
  · intro hi
    rcases h with ⟨_, _, h3, _⟩ | ⟨_, h, _⟩
    · exfalso
      rw [e2, Bool.or_eq_false_iff] at h3
      have h4 := of_decide_eq_false h3.1
      have h5 := of_decide_eq_false h3.2
      omega
    · exact h
theorem told_is (k c : Int) : (∃ L, told.f k c = some L) ↔ (0 ≤ k ∧ k ≤ 8 ∧ 0 ≤ c ∧ c ≤ 255 ∧ (0 < c ∨ 0 < k)) := by
  unfold told.f
  by_cases h : k < 0 ∨ 8 < k ∨ c < 0 ∨ 255 < c ∨ (k = 0 ∧ c = 0)
  · rw [if_pos h]
    exact ⟨fun ⟨L, e⟩ => (by cases e), fun hh => by omega⟩
  rw [if_neg h]
  by_cases h2 : c = 0
  · rw [if_neg (fun hh => hh h2)]
    refine ⟨fun _ => by omega, fun _ => ?_⟩
    rcases (show k = 1 ∨ k = 2 ∨ k = 3 ∨ k = 4 ∨ k = 5 ∨ k = 6 ∨ k = 7 ∨ k = 8 from by omega) with rfl | rfl | rfl | rfl | rfl | rfl | rfl | rfl
    all_goals exact ⟨_, rfl⟩
  · rw [if_pos h2]
    exact ⟨fun _ => by omega, fun _ => ⟨_, rfl⟩⟩
def okB (i : Int) : Bool := decide (0 ≤ i) && decide (i ≤ 4294967295)
def isB (i k c : Int) : Bool := okB i && decide (0 ≤ k) && decide (k ≤ 8) && decide (0 ≤ c) && decide (c ≤ 255) && (decide (0 < c) || decide (0 < k))
theorem ids_plain {i k c n n' : Int} {b b' : List Int} (hw : (Lit.int .i64 i).wf = true) (h : RqOut (idM i) [] b n) (h' : RsOut k i c b' n') :
    (okB i = false ∧ isB i k c = false ∧ n = 1 ∧ n' = 1 ∧ b' = []) ∨ (okB i = true ∧ isB i k c = false ∧ n = 0 ∧ b.length = 5 ∧ n' = 1 ∧ b' = []) ∨ (okB i = true ∧ isB i k c = true ∧ n = 0 ∧ b.length = 5 ∧ n' = 0 ∧ ∃ L, told.f k c = some L ∧ (0 ≤ i ∧ i < 4294967296) ∧ b' = rsB k i c L) := by
  obtain ⟨h1, h2⟩ := id_rq h hw
  have ht := told_is k c
  by_cases hi : 0 ≤ i ∧ i ≤ 4294967295
  · have e1 : okB i = true := by unfold okB; rw [decide_eq_true hi.1, decide_eq_true hi.2]; rfl
    obtain ⟨h3, h4⟩ := h1 hi
    right
    rcases h' with ⟨L, g1, g2, g3, g4, g5⟩ | ⟨g1, g2, g3⟩
    · right
      obtain ⟨t1, t2, t3, t4, t5⟩ := ht.1 ⟨L, g1⟩
      refine ⟨e1, ?_, h4, h3, g5, L, g1, ⟨g2, by omega⟩, g4⟩
      unfold isB
      rw [e1, decide_eq_true t1, decide_eq_true t2, decide_eq_true t3, decide_eq_true t4]
      rcases t5 with t5 | t5 <;> simp [t5]
    · left
      refine ⟨e1, ?_, h4, h3, g2, g1⟩
      have hn : ¬ (0 ≤ k ∧ k ≤ 8 ∧ 0 ≤ c ∧ c ≤ 255 ∧ (0 < c ∨ 0 < k)) := fun hh => g3 (let ⟨L, e⟩ := ht.2 hh; ⟨L, e, hi⟩)
      refine Bool.eq_false_iff.2 fun hh => hn ?_
      unfold isB at hh
      simp only [Bool.and_eq_true, Bool.or_eq_true, decide_eq_true_eq] at hh
      exact ⟨hh.1.1.1.1.2, hh.1.1.1.2, hh.1.1.2, hh.1.2, hh.2⟩
  · left
    have e1 : okB i = false := Bool.eq_false_iff.2 fun hh => hi (by unfold okB at hh; simpa using hh)
    refine ⟨e1, by unfold isB; rw [e1]; rfl, h2 hi, ?_⟩
    rcases h' with ⟨L, g1, g2, g3, _⟩ | ⟨g1, g2, g3⟩
    · exact absurd ⟨g2, g3⟩ hi
    · exact ⟨g2, g1⟩
set_option maxHeartbeats 8000000 in
set_option maxRecDepth 100000 in
theorem bollardlaw20_CodecIDs.calls (k : Nat) (a0 a1 a2 : Int) (r : Bool) (w : World) (h : bollardlaw20_CodecIDs.f k a0 a1 a2 = some r) :
    Calls Try.prog 10 #[.int .i64 a0, .int .i64 a1, .int .i64 a2] w fun e w' => e = .returned (.bool r) ∧ Below w.heap.size w w' := by
  unfold bollardlaw20_CodecIDs.f at h
  split at h
  case isFalse => cases h
  rename_i hcond
  obtain rfl := Option.some.inj h
  clear h
  obtain ⟨hw0, hw1, hw2⟩ := hcond
  have HW := Aside0.mk (And.intro hw0 (And.intro hw1 hw2))
  clear hw0 hw1 hw2
  go_enter Try.func10, Try.ntmps10
  go_wp2_with fail
  refine (codec_Request.calls (idM a0) none 0 [] _ eqOk (idM_wf HW.out.1) ⟨rfl, rfl, rfl, rfl, rfl, rfl, rfl, rfl, rfl⟩ (show (Lit.int .i64 3).wf = true from by decide) rfl (Kd.C_nil _ _) (Nat.le_refl _) (show (⟨#[]⟩ : ByteArray).size + ((⟨#[]⟩ : ByteArray).size + (([] : List S98).map recN).sum) ≤ 50000000 from by decide) (rqWr_bytes _ _).1).mono ?_
  rintro e w1 ⟨⟨v, b, n, rfl, hR, hO⟩, hb⟩
  obtain ⟨Aa, ca, ea⟩ := Kd.R_slice hR
  subst ea
  have HO := Aside0.mk hO
  have B1 := Aside0.mk (show Below w.heap.size w w1 from by first | exact hb | exact hb.below)
  clear hO hb hR
  go_wp2_with fail
  refine (codec_Response.nought a1 a0 a2 HW.out.2.1 HW.out.1 _).mono ?_
  rintro e w2 ⟨⟨v, b', n', rfl, hR, hO⟩, hb⟩
  obtain ⟨Ab, cb, ea⟩ := Kd.R_slice hR
  subst ea
  have HO2 := Aside0.mk hO
  have HR2 := Aside0.mk (Kd.R_reads' hR).2
  have B2 := Aside0.mk (below_step B1.out hb)
  clear hO hb hR B1
  have HP := Aside0.mk (ids_plain HW.out.1 HO.out HO2.out)
  clear HO HO2
  go_upto_region 3 with (fail)
  (try simp only [Act.put, List.setIfInBounds_toArray, List.set_cons_zero, List.set_cons_succ])
  go_cut [11] (fun v11 wc => v11 = .bool (okB a0) ∧ wc = w2)
  case first =>
    go_wp2
    all_goals
      go_meet
      case rel => exact ⟨congrArg Value.bool (by unfold okB; first | (simp [*]; done) | (simp [*]; omega) | (simp; omega)), rfl⟩
  obtain ⟨rfl, rfl⟩ := hcut
  go_upto_region 4 with (fail)
  (try simp only [Act.put, List.setIfInBounds_toArray, List.set_cons_zero, List.set_cons_succ])
  obtain ⟨ob, hob⟩ : ∃ ob, ob = okB a0 := ⟨_, rfl⟩
  rw [← hob]
  have HOB := Aside0.mk hob
  clear hob
  go_cut [11, 12] (fun v11 v12 wd => v11 = .bool (okB a0) ∧ v12 = .bool (isB a0 a1 a2) ∧ wd = wc)
  case first =>
    go_wp2
    all_goals
      go_meet
      case rel => exact ⟨congrArg Value.bool (by first | exact HOB.out | (rw [← HOB.out]; simp [*])), congrArg Value.bool (by unfold isB; rw [← HOB.out]; first | (simp [*]; done) | (simp [*]; omega) | (simp; omega)), rfl⟩
  obtain ⟨rfl, rfl, rfl⟩ := hcut
  rcases HP.out with ⟨h1, h2, rfl, rfl, rfl⟩ | ⟨h1, h2, rfl, h5, rfl, rfl⟩ | ⟨h1, h2, rfl, h5, rfl, L, h6, h7, h8⟩
  · rw [h1, h2]
    skip
    skip
    clear h1 h2
    go_wp2_with fail
    refine (bollardlaw20_awake.calls eqOk _).mono ?_
    rintro e w5 ⟨rfl, hb⟩
    have B5 := Aside0.mk (below_step B2.out hb)
    clear hb
    go_wp2_with fail
    go_ret
    exact ⟨rfl, B5.out⟩
  · rw [h1, h2]
    have H5 := Aside0.mk h5
    have e5 : ((b.length : Int) != 5) = false := by rw [H5.out]; decide
    clear h1 h2 h5
    go_wp2_with fail
    refine (bollardlaw20_awake.calls eqOk _).mono ?_
    rintro e w5 ⟨rfl, hb⟩
    have B5 := Aside0.mk (below_step B2.out hb)
    clear hb
    go_wp2_with fail
    go_ret
    exact ⟨rfl, B5.out⟩
  · rw [h1, h2]
    have H5 := Aside0.mk h5
    have e5 : ((b.length : Int) != 5) = false := by rw [H5.out]; decide
    have H6 := Aside0.mk (And.intro h6 (And.intro h7 h8))
    clear h1 h2 h5 h6 h7 h8
    go_wp2_with fail
    refine (codec_ParseResponse.nought a1 a0 a2 L H6.out.1 H6.out.2.1 Ab cb b' H6.out.2.2 _ HR2.out.2 HR2.out.1 (by rw [H6.out.2.2]; exact rsB_bytes _ _ _ _)).mono ?_
    rintro e w7 ⟨⟨v2, v3, rfl, h2, h3⟩, hb⟩
    obtain ⟨A2, c2, e2⟩ := Kd.R_slice h2
    obtain ⟨A3, c3, e3⟩ := Kd.R_slice h3
    subst e2
    subst e3
    have B7 := Aside0.mk (below_step B2.out hb)
    clear h2 h3 hb
    go_upto_region 10 with (refine wpList_store_row rfl 46 (.tmp 13) (.tmp 89) rfl w7.heap.size #[.int .i64 a1, .int .i64 a0, .int .i64 a2, .int .i64 0, .int .i64 0, .int .i64 0, .slice A2 ([] : List ByteArray).length c2, .slice A3 ([] : List Int).length c3, .slice none 0 0] rfl rfl 46 #[.int .i64 0, .int .i64 0, .int .i64 0, .int .i64 0, .int .i64 0, .int .i64 0, .slice none 0 0, .slice none 0 0, .slice none 0 0] (heap_alloc_new w7 _) infoRs rfl (res_all { rsM a1 a0 a2 with u2 := .slice A2 ([] : List ByteArray).length c2, u3 := .slice A3 ([] : List Int).length c3 } rfl rfl rfl) ?_)
    (try simp only [Act.put, List.setIfInBounds_toArray, List.set_cons_zero, List.set_cons_succ])
    have hb7 := below_row (below_alloc (Below.refl w7.heap.size w7) (.cells #[.int .i64 0, .int .i64 0, .int .i64 0, .int .i64 0, .int .i64 0, .int .i64 0, .slice none 0 0, .slice none 0 0, .slice none 0 0] 46)) (Nat.le_refl _) #[.int .i64 a1, .int .i64 a0, .int .i64 a2, .int .i64 0, .int .i64 0, .int .i64 0, .slice A2 ([] : List ByteArray).length c2, .slice A3 ([] : List Int).length c3, .slice none 0 0]
    have B8 := Aside0.mk (below_step B7.out hb7)
    have T7 := Aside0.mk (setRow_heap _ _ _ #[.int .i64 a1, .int .i64 a0, .int .i64 a2, .int .i64 0, .int .i64 0, .int .i64 0, .slice A2 ([] : List ByteArray).length c2, .slice A3 ([] : List Int).length c3, .slice none 0 0] _ _ (heap_alloc_new w7 (.cells #[.int .i64 0, .int .i64 0, .int .i64 0, .int .i64 0, .int .i64 0, .int .i64 0, .slice none 0 0, .slice none 0 0, .slice none 0 0] 46)))
    generalize (w7.alloc (.cells #[.int .i64 0, .int .i64 0, .int .i64 0, .int .i64 0, .int .i64 0, .int .i64 0, .slice none 0 0, .slice none 0 0, .slice none 0 0] 46)).setRow w7.heap.size #[.int .i64 a1, .int .i64 a0, .int .i64 a2, .int .i64 0, .int .i64 0, .int .i64 0, .slice A2 ([] : List ByteArray).length c2, .slice A3 ([] : List Int).length c3, .slice none 0 0] = w8 at B8 T7 ⊢
    clear hb7
    have q0 : w8.cell? ⟨w7.heap.size, 0, none⟩ = some (.int .i64 a1) := (blk_cell T7.out 0).trans rfl
    have q1 : w8.cell? ⟨w7.heap.size, 1, none⟩ = some (.int .i64 a0) := (blk_cell T7.out 1).trans rfl
    have q2 : w8.cell? ⟨w7.heap.size, 2, none⟩ = some (.int .i64 a2) := (blk_cell T7.out 2).trans rfl
    have f0 : (a0 == a0) = true := beq_self_eq_true a0
    have f1 : (a1 == a1) = true := beq_self_eq_true a1
    have f2 : (a2 == a2) = true := beq_self_eq_true a2
    go_wp2_with fail
    refine (bollardlaw20_awake.calls eqOk _).mono ?_
    rintro e w5 ⟨rfl, hb⟩
    have B5 := Aside0.mk (below_step B8.out hb)
    clear hb
    go_wp2_with fail
    go_ret
    exact ⟨rfl, B5.out⟩

end Go.Proofs.Ytncfofnikmfjbaa.PCi

/- CodecIDs: what its law's f says; the walk stands in CfID. -/
namespace Go.Proofs.Ytncfofnikmfjbaa.Pure
open Go Go.RowKit Go.Proofs.Ytncfofnikmfjbaa.PCi
theorem CodecIDs : bollardlaw20_CodecIDs.Pure := by
  intro a0 a1 a2 h0 h1 h2
  exact ⟨0, if_pos ⟨h0, h1, h2⟩⟩
end Go.Proofs.Ytncfofnikmfjbaa.Pure

/- What reads as data of a type is of the type's kind: whole numbers, bools, strings, slices, structs, one inside the other. -/
namespace Go.Proofs.Ytncfofnikmfjbaa.Op
open Go Go.RowKit Go.ChangeShapes Go.WideShapes Go.Proofs.YtncfofnikmfjbaaW.PrintWords Go.Proofs.YtncfofnikmfjbaaW.PrintLast Go.Proofs.YtncfofnikmfjbaaW.PrintMore
set_option linter.unusedVariables false
set_option linter.unusedSimpArgs false

section
variable {P : Program} {t : TypeId}
end
end Go.Proofs.Ytncfofnikmfjbaa.Op
