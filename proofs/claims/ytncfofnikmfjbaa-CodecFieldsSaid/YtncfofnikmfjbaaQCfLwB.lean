import Derived.Test.YtncfofnikmfjbaaQCfRt
import Derived.Outline
import Derived.StillTailTactics
import Derived.RegionTactic
import Derived.BigRegion
import Derived.Lib.BufferWrite
import Derived.Test.YtncfofnikmfjbaaQCf4
import Derived.Test.YtncfofnikmfjbaaQCfCut
import Derived.Test.YtncfofnikmfjbaaQPCix2
namespace Go.Proofs.Ytncfofnikmfjbaa.PCi
open Go.RowKit Go.Proofs.YtncfofnikmfjbaaW.PrintWords Go.Proofs.YtncfofnikmfjbaaW.PrintLast Go.Proofs.YtncfofnikmfjbaaW.PrintMore
attribute [local go_sem] max2_int min2_int max_two min_two max_three min_three max_four min_four
set_option linter.unusedVariables false
set_option linter.unusedSimpArgs false

structure QqSt (w W : World) (g h : Nat) (s : List Int × Bool) (m : Msg) : Prop where
  wr : Wr W g w.heap.size s.1 s.2
  ms : MsAt W h m
  below : Below w.heap.size w W
theorem QqSt.step {w W W2 : World} {g h : Nat} {s s2 : List Int × Bool} {m : Msg} (q : QqSt w W g h s m) (hgh : h ≠ g) (hw : Wr W2 g w.heap.size s2.1 s2.2) (hk : KeepW W W2 g w.heap.size) : QqSt w W2 g h s2 m := ⟨hw, q.ms.keep hk hgh, q.below.trans hk.below⟩
theorem QqSt.under {w W W2 : World} {g h : Nat} {s : List Int × Bool} {m : Msg} (q : QqSt w W g h s m) (hb : Below W.heap.size W W2) : QqSt w W2 g h s m := ⟨q.wr.below hb, blk_below q.ms hb, below_step q.below hb⟩
theorem rqm_cells {m : Msg} (z : m.Z) : m.cells = #[.int .i64 m.kind, .int .i64 m.id, .string m.topic, .int .i64 m.part, .int .i64 m.parts, .int .i64 m.seg, .int .i64 m.byt, .int .i64 m.age, .bool m.comp, .int .i64 m.delay, .int .i64 m.prod, .int .i64 m.seq, m.u1, .int .i64 m.off, .int .i64 m.max, .int .i64 m.time, .string m.group, .int .i64 0, .int .i64 0, .int .i64 0, .int .i64 0, .int .i64 0, .int .i64 0, .slice none 0 0, .slice none 0 0, .slice none 0 0] := by unfold Msg.cells; rw [z.z1, z.z2, z.z3, z.z4, z.z5, z.z6, z.z7, z.z8, z.z9]
theorem writer_new {w W : World} (hb : Below w.heap.size w W) : Wr (W.alloc (.cells #[.slice none 0 0, .bool false] 64)) W.heap.size w.heap.size [] false ∧ Below w.heap.size w (W.alloc (.cells #[.slice none 0 0, .bool false] 64)) := ⟨⟨none, 0, heap_alloc_new W _, Kd.R_nil _ _ _ _ _⟩, hb.alloc hb.size _⟩
theorem all26m (m : Msg) {A : Option Addr} {n c : Nat} (h : m.u1 = .slice A n c) : (#[.int .i64 m.kind, .int .i64 m.id, .string m.topic, .int .i64 m.part, .int .i64 m.parts, .int .i64 m.seg, .int .i64 m.byt, .int .i64 m.age, .bool m.comp, .int .i64 m.delay, .int .i64 m.prod, .int .i64 m.seq, m.u1, .int .i64 m.off, .int .i64 m.max, .int .i64 m.time, .string m.group, .int .i64 0, .int .i64 0, .int .i64 0, .int .i64 0, .int .i64 0, .int .i64 0, .slice none 0 0, .slice none 0 0, .slice none 0 0] : Array Value).all (·.oneCell') = true := by
  rw [← Array.all_toList]
  simp [h, Value.oneCell']
set_option maxHeartbeats 4000000 in
set_option maxRecDepth 100000 in
theorem codec_Request.calls (m : Msg) (A : Option Addr) (c : Nat) (rs : List S98) (w : World) (hE : EqOk) (hwf : m.Wf) (hz : m.Z) (hid : (Lit.int .i64 m.kind).wf = true) (hu : m.u1 = .slice A rs.length c) (hr : Kd.C k98 w A rs.length rs) (hc : rs.length ≤ c) (hn : rqN m rs ≤ 50000000) (hby : Bp.Bytes (rqWr m rs).1) :
    Calls Try.prog 13 #[.agg #[.int .i64 m.kind, .int .i64 m.id, .string m.topic, .int .i64 m.part, .int .i64 m.parts, .int .i64 m.seg, .int .i64 m.byt, .int .i64 m.age, .bool m.comp, .int .i64 m.delay, .int .i64 m.prod, .int .i64 m.seq, m.u1, .int .i64 m.off, .int .i64 m.max, .int .i64 m.time, .string m.group]] w fun e w' => (∃ v b n, e = .returned (.tuple #[v, .int .i64 n]) ∧ Kd.R (Kd.int .u8) 5 w' w.heap.size (fun _ => True) v b ∧ RqOut m rs b n) ∧ Below w.heap.size w w' := by
  have HE := Aside0.mk hE
  have HWF := Aside0.mk hwf
  have HZ := Aside0.mk hz
  have HID := Aside0.mk hid
  have HU := Aside0.mk hu
  have HR := Aside0.mk hr
  have HC := Aside0.mk hc
  have HN := Aside0.mk hn
  have HBY := Aside0.mk hby
  clear hE hwf hz hid hu hr hc hn hby
  go_enter Try.func13, Try.ntmps13
  go_upto_region 1 with (fail)
  (try simp only [Act.put, List.setIfInBounds_toArray, List.set_cons_zero, List.set_cons_succ])
  have P0 := Aside0.mk (And.intro (heap_alloc_new w (.cells #[.int .i64 m.kind, .int .i64 m.id, .string m.topic, .int .i64 m.part, .int .i64 m.parts, .int .i64 m.seg, .int .i64 m.byt, .int .i64 m.age, .bool m.comp, .int .i64 m.delay, .int .i64 m.prod, .int .i64 m.seq, m.u1, .int .i64 m.off, .int .i64 m.max, .int .i64 m.time, .string m.group] 26)) (below_alloc (Below.refl w.heap.size w) (.cells #[.int .i64 m.kind, .int .i64 m.id, .string m.topic, .int .i64 m.part, .int .i64 m.parts, .int .i64 m.seg, .int .i64 m.byt, .int .i64 m.age, .bool m.comp, .int .i64 m.delay, .int .i64 m.prod, .int .i64 m.seq, m.u1, .int .i64 m.off, .int .i64 m.max, .int .i64 m.time, .string m.group] 26)))
  generalize w.alloc (.cells #[.int .i64 m.kind, .int .i64 m.id, .string m.topic, .int .i64 m.part, .int .i64 m.parts, .int .i64 m.seg, .int .i64 m.byt, .int .i64 m.age, .bool m.comp, .int .i64 m.delay, .int .i64 m.prod, .int .i64 m.seq, m.u1, .int .i64 m.off, .int .i64 m.max, .int .i64 m.time, .string m.group] 26) = w0 at P0 ⊢
  have q0 : w0.cell? ⟨w.heap.size, 0, none⟩ = some (.int .i64 m.kind) := (blk_cell P0.out.1 0).trans rfl
  go_wp2_with fail
  refine (codec_fields.calls 0 m.kind w0 (by decide) HID.out).mono ?_
  rintro e w1 ⟨hp, hb⟩
  obtain ⟨ok, Al, L, rfl, hok, hL, hL7, hC⟩ := fds_out2 hp
  have HOK := Aside0.mk hok
  have HLL := Aside0.mk hL
  have HL7 := Aside0.mk hL7
  have P1 := Aside0.mk (And.intro (blk_below P0.out.1 hb) (below_step P0.out.2 hb))
  have HCL := Aside0.mk (show ∀ g W', w1.heap.size ≤ g → KeepW w1 W' g w.heap.size → Kd.C (Kd.int .i64) W' Al L.length L from fun g W' hg hW => hC g _ W' hg hW)
  have HX := Aside0.mk (show ∀ x ∈ L, x ≠ 17 ∧ x ≠ 18 ∧ x ≠ 19 from fun x hx => by cases hq : codec_fields.f 0 m.kind with | none => rw [hq] at hL; subst hL; cases hx | some L' => rw [hq] at hL; subst hL; exact fields_req hq x hx)
  clear hp hok hL hL7 hC hb q0 P0
  obtain ⟨eb, heb⟩ : ∃ b, b = rqBad1 m := ⟨_, rfl⟩
  have HEB := Aside0.mk (show eb = (!ok || (decide (m.id < 0) || decide (4294967295 < m.id))) from by rw [heb]; unfold rqBad1; rw [HOK.out])
  have HEB0 := Aside0.mk heb
  clear heb
  have q1 : w1.cell? ⟨w.heap.size, 1, none⟩ = some (.int .i64 m.id) := (blk_cell P1.out.1 1).trans rfl
  go_upto_region 2 with (fail)
  (try simp only [Act.put, List.setIfInBounds_toArray, List.set_cons_zero, List.set_cons_succ])
  go_cut [5, 29] (fun v5 v29 wc => v29 = .bool eb ∧ wc = w1)
  case first =>
    go_wp2
    all_goals
      go_meet
      case rel => exact ⟨congrArg Value.bool (by rw [HEB.out]; first | (simp [*]; done) | (simp [*, Bool.or_assoc]; done)), rfl⟩
  obtain ⟨rfl, rfl⟩ := hcut
  clear q1
  cases eb with
  | true =>
    go_wp2_with fail
    refine bodyPost_ret (v := .tuple #[.slice none 0 0, .int .i64 1]) (by simp [results, Try.results13, go_sem]) rfl ?_
    exact ⟨⟨_, [], 1, rfl, Kd.R_nil _ _ _ _ _, .inr ⟨rfl, rfl, fun h_ => by have h1 := HEB0.out; rw [h_.1] at h1; cases h1⟩⟩, P1.out.2⟩
  | false =>
    go_upto_region 5 with (fail)
    (try simp only [Act.put, List.setIfInBounds_toArray, List.set_cons_zero, List.set_cons_succ])
    obtain ⟨g, hg⟩ : ∃ g, g = wc.heap.size := ⟨_, rfl⟩
    have HG := Aside0.mk hg
    have P2 := Aside0.mk (writer_new P1.out.2)
    have B2 := Aside0.mk (blk_alloc P1.out.1 (.cells #[.slice none 0 0, .bool false] 64))
    have K2 := Aside0.mk (KeepW.of_below (g := wc.heap.size) (base := w.heap.size) (below_alloc (Below.refl wc.heap.size wc) (.cells #[.slice none 0 0, .bool false] 64)) P1.out.2.size)
    generalize wc.alloc (.cells #[.slice none 0 0, .bool false] 64) = w2 at P2 B2 K2 ⊢
    rw [← hg] at P2 K2 ⊢
    clear hg
    have HGE := Aside0.mk (show w.heap.size < g from by rw [HG.out]; exact blk_lt P1.out.1)
    have q0 : w2.cell? ⟨w.heap.size, 0, none⟩ = some (.int .i64 m.kind) := (blk_cell B2.out 0).trans rfl
    go_wp2_with fail
    refine (wr_number g w.heap.size [] false m.kind 1 w2 P2.out.1 (Nat.le_of_lt HGE.out) P2.out.2.size (by decide) (by decide) (by decide)).mono ?_
    rintro e w3 ⟨rfl, h1, h2⟩
    have P3 := Aside0.mk (And.intro h1 (P2.out.2.trans h2.below))
    have B3 := Aside0.mk (h2.blk B2.out (by have := HGE.out; omega) (by decide))
    have K3 := Aside0.mk (K2.out.trans h2)
    clear h1 h2 P2 B2 K2 q0
    have q1 : w3.cell? ⟨w.heap.size, 1, none⟩ = some (.int .i64 m.id) := (blk_cell B3.out 1).trans rfl
    go_wp2_with fail
    refine (wr_number g w.heap.size ([] ++ nb m.kind 1) false m.id 4 w3 P3.out.1 (Nat.le_of_lt HGE.out) P3.out.2.size (by decide) (by decide) (by rw [List.length_append, nb_len]; decide)).mono ?_
    rintro e w4 ⟨rfl, h1, h2⟩
    rw [List.nil_append] at h1
    have P4 := Aside0.mk (And.intro h1 (P3.out.2.trans h2.below))
    have B4 := Aside0.mk (h2.blk B3.out (by have := HGE.out; omega) (by decide))
    have K4 := Aside0.mk (K3.out.trans h2)
    clear h1 h2 P3 B3 K3 q1
    go_wp2_with (first | (refine wpl_loadG (by rfl) 26 (.tmp 1) rfl _ rfl B4.out Try.underlying26 rfl info17 ?_) | (refine wpList_store_row rfl 67 (.tmp 7) (.tmp 41) rfl w4.heap.size #[.int .i64 m.kind, .int .i64 m.id, .string m.topic, .int .i64 m.part, .int .i64 m.parts, .int .i64 m.seg, .int .i64 m.byt, .int .i64 m.age, .bool m.comp, .int .i64 m.delay, .int .i64 m.prod, .int .i64 m.seq, m.u1, .int .i64 m.off, .int .i64 m.max, .int .i64 m.time, .string m.group, .int .i64 0, .int .i64 0, .int .i64 0, .int .i64 0, .int .i64 0, .int .i64 0, .slice none 0 0, .slice none 0 0, .slice none 0 0] rfl rfl 67 #[.int .i64 0, .int .i64 0, .string ⟨#[]⟩, .int .i64 0, .int .i64 0, .int .i64 0, .int .i64 0, .int .i64 0, .bool false, .int .i64 0, .int .i64 0, .int .i64 0, .slice none 0 0, .int .i64 0, .int .i64 0, .int .i64 0, .string ⟨#[]⟩, .int .i64 0, .int .i64 0, .int .i64 0, .int .i64 0, .int .i64 0, .int .i64 0, .slice none 0 0, .slice none 0 0, .slice none 0 0] (heap_alloc_new w4 _) info26 rfl (all26m m HU.out) ?_))
    have HH := Aside0.mk (show g < w4.heap.size from P4.out.1.lt)
    have S5 := Aside0.mk (show QqSt w ((w4.alloc (.cells #[.int .i64 0, .int .i64 0, .string ⟨#[]⟩, .int .i64 0, .int .i64 0, .int .i64 0, .int .i64 0, .int .i64 0, .bool false, .int .i64 0, .int .i64 0, .int .i64 0, .slice none 0 0, .int .i64 0, .int .i64 0, .int .i64 0, .string ⟨#[]⟩, .int .i64 0, .int .i64 0, .int .i64 0, .int .i64 0, .int .i64 0, .int .i64 0, .slice none 0 0, .slice none 0 0, .slice none 0 0] 67)).setRow w4.heap.size #[.int .i64 m.kind, .int .i64 m.id, .string m.topic, .int .i64 m.part, .int .i64 m.parts, .int .i64 m.seg, .int .i64 m.byt, .int .i64 m.age, .bool m.comp, .int .i64 m.delay, .int .i64 m.prod, .int .i64 m.seq, m.u1, .int .i64 m.off, .int .i64 m.max, .int .i64 m.time, .string m.group, .int .i64 0, .int .i64 0, .int .i64 0, .int .i64 0, .int .i64 0, .int .i64 0, .slice none 0 0, .slice none 0 0, .slice none 0 0]) g w4.heap.size (nb m.kind 1 ++ nb m.id 4, false) m from have hb := below_row (below_alloc (Below.refl w4.heap.size w4) (.cells #[.int .i64 0, .int .i64 0, .string ⟨#[]⟩, .int .i64 0, .int .i64 0, .int .i64 0, .int .i64 0, .int .i64 0, .bool false, .int .i64 0, .int .i64 0, .int .i64 0, .slice none 0 0, .int .i64 0, .int .i64 0, .int .i64 0, .string ⟨#[]⟩, .int .i64 0, .int .i64 0, .int .i64 0, .int .i64 0, .int .i64 0, .int .i64 0, .slice none 0 0, .slice none 0 0, .slice none 0 0] 67)) (Nat.le_refl _) #[.int .i64 m.kind, .int .i64 m.id, .string m.topic, .int .i64 m.part, .int .i64 m.parts, .int .i64 m.seg, .int .i64 m.byt, .int .i64 m.age, .bool m.comp, .int .i64 m.delay, .int .i64 m.prod, .int .i64 m.seq, m.u1, .int .i64 m.off, .int .i64 m.max, .int .i64 m.time, .string m.group, .int .i64 0, .int .i64 0, .int .i64 0, .int .i64 0, .int .i64 0, .int .i64 0, .slice none 0 0, .slice none 0 0, .slice none 0 0]; ⟨P4.out.1.below hb, by unfold MsAt; rw [rqm_cells HZ.out]; exact setRow_heap _ _ _ _ _ _ (heap_alloc_new w4 _), below_step P4.out.2 hb⟩)
    have K5 := Aside0.mk (show KeepW wc ((w4.alloc (.cells #[.int .i64 0, .int .i64 0, .string ⟨#[]⟩, .int .i64 0, .int .i64 0, .int .i64 0, .int .i64 0, .int .i64 0, .bool false, .int .i64 0, .int .i64 0, .int .i64 0, .slice none 0 0, .int .i64 0, .int .i64 0, .int .i64 0, .string ⟨#[]⟩, .int .i64 0, .int .i64 0, .int .i64 0, .int .i64 0, .int .i64 0, .int .i64 0, .slice none 0 0, .slice none 0 0, .slice none 0 0] 67)).setRow w4.heap.size #[.int .i64 m.kind, .int .i64 m.id, .string m.topic, .int .i64 m.part, .int .i64 m.parts, .int .i64 m.seg, .int .i64 m.byt, .int .i64 m.age, .bool m.comp, .int .i64 m.delay, .int .i64 m.prod, .int .i64 m.seq, m.u1, .int .i64 m.off, .int .i64 m.max, .int .i64 m.time, .string m.group, .int .i64 0, .int .i64 0, .int .i64 0, .int .i64 0, .int .i64 0, .int .i64 0, .slice none 0 0, .slice none 0 0, .slice none 0 0]) g w.heap.size from K4.out.trans (KeepW.of_below (below_row (below_alloc (Below.refl w4.heap.size w4) (.cells #[.int .i64 0, .int .i64 0, .string ⟨#[]⟩, .int .i64 0, .int .i64 0, .int .i64 0, .int .i64 0, .int .i64 0, .bool false, .int .i64 0, .int .i64 0, .int .i64 0, .slice none 0 0, .int .i64 0, .int .i64 0, .int .i64 0, .string ⟨#[]⟩, .int .i64 0, .int .i64 0, .int .i64 0, .int .i64 0, .int .i64 0, .int .i64 0, .slice none 0 0, .slice none 0 0, .slice none 0 0] 67)) (Nat.le_refl _) #[.int .i64 m.kind, .int .i64 m.id, .string m.topic, .int .i64 m.part, .int .i64 m.parts, .int .i64 m.seg, .int .i64 m.byt, .int .i64 m.age, .bool m.comp, .int .i64 m.delay, .int .i64 m.prod, .int .i64 m.seq, m.u1, .int .i64 m.off, .int .i64 m.max, .int .i64 m.time, .string m.group, .int .i64 0, .int .i64 0, .int .i64 0, .int .i64 0, .int .i64 0, .int .i64 0, .slice none 0 0, .slice none 0 0, .slice none 0 0]) P4.out.2.size))
    generalize (w4.alloc (.cells #[.int .i64 0, .int .i64 0, .string ⟨#[]⟩, .int .i64 0, .int .i64 0, .int .i64 0, .int .i64 0, .int .i64 0, .bool false, .int .i64 0, .int .i64 0, .int .i64 0, .slice none 0 0, .int .i64 0, .int .i64 0, .int .i64 0, .string ⟨#[]⟩, .int .i64 0, .int .i64 0, .int .i64 0, .int .i64 0, .int .i64 0, .int .i64 0, .slice none 0 0, .slice none 0 0, .slice none 0 0] 67)).setRow w4.heap.size #[.int .i64 m.kind, .int .i64 m.id, .string m.topic, .int .i64 m.part, .int .i64 m.parts, .int .i64 m.seg, .int .i64 m.byt, .int .i64 m.age, .bool m.comp, .int .i64 m.delay, .int .i64 m.prod, .int .i64 m.seq, m.u1, .int .i64 m.off, .int .i64 m.max, .int .i64 m.time, .string m.group, .int .i64 0, .int .i64 0, .int .i64 0, .int .i64 0, .int .i64 0, .int .i64 0, .slice none 0 0, .slice none 0 0, .slice none 0 0] = w5 at S5 K5 ⊢
    obtain ⟨h, hh⟩ : ∃ h, h = w4.heap.size := ⟨_, rfl⟩
    rw [← hh] at S5 HH ⊢
    have HGH := Aside0.mk (show h ≠ g from by have := HH.out; omega)
    clear P4 B4 K4 hh
    obtain ⟨S_, hS_⟩ : ∃ s, s = rqWr m rs := ⟨_, rfl⟩
    have HS_ := Aside0.mk hS_
    have HS2 := Aside0.mk (show wFs m rs L (nb m.kind 1 ++ nb m.id 4, false) = S_ from by rw [hS_]; unfold rqWr; rw [HLL.out])
    clear hS_
    have HLR := Aside0.mk (show ∀ W, Below w.heap.size w W → Kd.C k98 W A rs.length rs from fun W hW => Kd.C_below HR.out hW)
    have HWC := Aside0.mk (show wc.heap.size ≤ g from by rw [HG.out]; exact Nat.le_refl _)
    go_loopg [44] (L.length + 1) (fun kq v44 w' => ∃ (i : Int) (s : List Int × Bool), v44 = .int .i64 i ∧ Aside0 (kq + i.toNat = L.length + 1 ∧ 0 ≤ i ∧ i ≤ (L.length : Int)) ∧ Aside0 (wFs m rs (L.drop i.toNat) s = S_) ∧ Aside0 (QqSt w w' g h s m) ∧ Aside0 (KeepW wc w' g w.heap.size) ∧ Aside0 (s.1.length ≤ 5 + i.toNat * 50000008))
    case atStart => exact ⟨0, _, rfl, ⟨by simp, by omega, by omega⟩, HS2, S5, K5, ⟨by rw [List.length_append, nb_len, nb_len]; simp⟩⟩
    case round =>
      obtain ⟨i, s, rfl, HI, HA, HQ, HK, HLn⟩ := hrel
      clear S5 K5 HS2
      by_cases hi : i < (L.length : Int)
      · have d1 : decide (i < (L.length : Int)) = true := decide_eq_true hi
        have h0 := HI.out.2.1
        obtain ⟨ad, ea, x0⟩ := Kd.at_int (HCL.out g wr HWC.out HK.out) i h0 hi
        cases ea
        have p1 := eq_true h0
        have p2 := eq_true hi
        have HE2 := Aside0.mk (show wFs m rs (rd L i :: L.drop (i + 1).toNat) s = S_ from by have h_ := drop_rd (0 : Int) h0 hi; rw [← HA.out, h_]; rfl)
        have e1 : IntKind.i64.wrap (i + 1) = i + 1 := (i64_w _).trans (by have := HL7.out; unfold wrap64; omega)
        have hx := HX.out (rd L i) (List.mem_of_mem_drop (i := i.toNat) (by have h_ := drop_rd (0 : Int) h0 hi; rw [h_]; exact List.mem_cons_self))
        have HX2 := Aside0.mk hx
        have HI2 := Aside0.mk hi
        clear hx hi h0
        go_wp2_with fail
        refine (rq_wfield g w.heap.size h (rd L i) s m A c rs wr HQ.out.wr (Nat.le_of_lt HGE.out) HQ.out.below.size HQ.out.ms HU.out (fun W hW => HLR.out W (HQ.out.below.trans hW)) (by have := HLn.out; have := HN.out; have := HI.out; have := HI2.out; have := HL7.out; have : i.toNat ≤ 6 := (by omega); have : i.toNat * 50000008 ≤ 6 * 50000008 := Nat.mul_le_mul_right _ this; omega) HX2.out.1 HX2.out.2.1 HX2.out.2.2).mono ?_
        rintro e w9 ⟨rfl, h3, h4⟩
        have Q2 := Aside0.mk (HQ.out.step HGH.out h3 h4)
        have K2 := Aside0.mk (HK.out.trans h4)
        have N2 := Aside0.mk (show (wF m rs (rd L i) s).1.length ≤ 5 + (i + 1).toNat * 50000008 from by have := wF_len m rs (rd L i) s; have := HLn.out; have := HN.out; rw [show (i + 1).toNat = i.toNat + 1 from by have := HI.out; omega]; omega)
        clear h3 h4 HQ HK HLn x0
        go_wp2_with fail
        go_roundg (L.length + 1 - (i + 1).toNat)
        case measure => have := HI.out; have := HI2.out; omega
        case rel => exact ⟨i + 1, wF m rs (rd L i) s, by first | rfl | (rw [e1]), ⟨by have := HI.out; have := HI2.out; omega, by have := HI.out; omega, by have := HI2.out; omega⟩, ⟨HE2.out⟩, Q2, K2, N2⟩
      · have d1 : decide (i < (L.length : Int)) = false := decide_eq_false hi
        have hs := HA.out
        rw [List.drop_eq_nil_of_le (by have := HI.out; omega)] at hs
        change s = S_ at hs
        subst hs
        have HSL := Aside0.mk (show s.1.length ≤ 400000000 from by have := HLn.out; have := HI.out; have := HL7.out; have : i.toNat ≤ 7 := (by omega); have : i.toNat * 50000008 ≤ 7 * 50000008 := Nat.mul_le_mul_right _ this; omega)
        clear hi HA HK HLn HX HCL HI
        obtain ⟨b, sb⟩ := s
        dsimp only at HSL
        obtain ⟨Aw, cw, hgw, hRw⟩ := HQ.out.wr
        have q0 : wr.cell? ⟨g, 0, none⟩ = some (.slice Aw b.length cw) := (blk_cell hgw 0).trans rfl
        have q1 : wr.cell? ⟨g, 1, none⟩ = some (.bool sb) := (blk_cell hgw 1).trans rfl
        have HRw := Aside0.mk hRw
        have HGw := Aside0.mk hgw
        clear hgw hRw
        cases sb with
        | true =>
          go_wp2_with fail
          refine bodyPost_ret (v := .tuple #[.slice none 0 0, .int .i64 1]) (by simp [results, Try.results13, go_sem]) rfl ?_
          exact ⟨⟨_, [], 1, rfl, Kd.R_nil _ _ _ _ _, .inr ⟨rfl, rfl, fun h_ => by have h1 := HS_.out; rw [← h1] at h_; exact absurd h_.2.1 (by simp)⟩⟩, HQ.out.below⟩
        | false =>
          go_wp2_with fail
          have HBb := Aside0.mk (show Bp.Bytes b from by have h1 := HBY.out; rw [← HS_.out] at h1; exact h1)
          refine (codec_ParseRequest.calls Aw cw b wr (Kd.R_reads' HRw.out).2.2 (Kd.R_reads' HRw.out).2.1 HBb.out).mono ?_
          rintro e w6 ⟨⟨v, rfl, hv⟩, hb⟩
          obtain ⟨⟨n, rs', er⟩, hp⟩ : ∃ p, p = codec_ParseRequest.f b := ⟨_, rfl⟩
          have HP := Aside0.mk hp
          have hok := parse_ok b HBb.out (by have := HSL.out; omega)
          rw [← hp] at hok hv ⊢
          dsimp only at hok hv ⊢
          have HOK2 := Aside0.mk hok
          obtain ⟨Av, cv, ev⟩ := Kd.R_slice hv
          subst ev
          have HV := Aside0.mk hv
          have Q6 := Aside0.mk (HQ.out.under hb)
          have G6 := Aside0.mk (blk_below HGw.out hb)
          have R6 := Aside0.mk (Kd.R_below HRw.out hb)
          clear hp hok hv hb HQ HGw HRw q0 q1
          go_upto_region 16 with (refine wpList_store_row rfl 26 (.tmp 10) (.tmp 62) rfl w6.heap.size #[.int .i64 n.kind, .int .i64 n.id, .string n.topic, .int .i64 n.part, .int .i64 n.parts, .int .i64 n.seg, .int .i64 n.byt, .int .i64 n.age, .bool n.comp, .int .i64 n.delay, .int .i64 n.prod, .int .i64 n.seq, .slice Av rs'.length cv, .int .i64 n.off, .int .i64 n.max, .int .i64 n.time, .string n.group] rfl rfl 26 #[.int .i64 0, .int .i64 0, .string ⟨#[]⟩, .int .i64 0, .int .i64 0, .int .i64 0, .int .i64 0, .int .i64 0, .bool false, .int .i64 0, .int .i64 0, .int .i64 0, .slice none 0 0, .int .i64 0, .int .i64 0, .int .i64 0, .string ⟨#[]⟩] (heap_alloc_new w6 _) info17 rfl (req_all { n with u1 := .slice Av rs'.length cv } rfl) ?_)
          (try simp only [Act.put, List.setIfInBounds_toArray, List.set_cons_zero, List.set_cons_succ])
          have hb7 := below_row (below_alloc (Below.refl w6.heap.size w6) (.cells #[.int .i64 0, .int .i64 0, .string ⟨#[]⟩, .int .i64 0, .int .i64 0, .int .i64 0, .int .i64 0, .int .i64 0, .bool false, .int .i64 0, .int .i64 0, .int .i64 0, .slice none 0 0, .int .i64 0, .int .i64 0, .int .i64 0, .string ⟨#[]⟩] 26)) (Nat.le_refl _) #[.int .i64 n.kind, .int .i64 n.id, .string n.topic, .int .i64 n.part, .int .i64 n.parts, .int .i64 n.seg, .int .i64 n.byt, .int .i64 n.age, .bool n.comp, .int .i64 n.delay, .int .i64 n.prod, .int .i64 n.seq, .slice Av rs'.length cv, .int .i64 n.off, .int .i64 n.max, .int .i64 n.time, .string n.group]
          have Q7 := Aside0.mk (Q6.out.under hb7)
          have G7 := Aside0.mk (blk_below G6.out hb7)
          have R7 := Aside0.mk (Kd.R_below R6.out hb7)
          have V7 := Aside0.mk (Kd.R_below HV.out hb7)
          have T7 := Aside0.mk (setRow_heap _ _ _ #[.int .i64 n.kind, .int .i64 n.id, .string n.topic, .int .i64 n.part, .int .i64 n.parts, .int .i64 n.seg, .int .i64 n.byt, .int .i64 n.age, .bool n.comp, .int .i64 n.delay, .int .i64 n.prod, .int .i64 n.seq, .slice Av rs'.length cv, .int .i64 n.off, .int .i64 n.max, .int .i64 n.time, .string n.group] _ _ (heap_alloc_new w6 (.cells #[.int .i64 0, .int .i64 0, .string ⟨#[]⟩, .int .i64 0, .int .i64 0, .int .i64 0, .int .i64 0, .int .i64 0, .bool false, .int .i64 0, .int .i64 0, .int .i64 0, .slice none 0 0, .int .i64 0, .int .i64 0, .int .i64 0, .string ⟨#[]⟩] 26)))
          generalize (w6.alloc (.cells #[.int .i64 0, .int .i64 0, .string ⟨#[]⟩, .int .i64 0, .int .i64 0, .int .i64 0, .int .i64 0, .int .i64 0, .bool false, .int .i64 0, .int .i64 0, .int .i64 0, .slice none 0 0, .int .i64 0, .int .i64 0, .int .i64 0, .string ⟨#[]⟩] 26)).setRow w6.heap.size #[.int .i64 n.kind, .int .i64 n.id, .string n.topic, .int .i64 n.part, .int .i64 n.parts, .int .i64 n.seg, .int .i64 n.byt, .int .i64 n.age, .bool n.comp, .int .i64 n.delay, .int .i64 n.prod, .int .i64 n.seq, .slice Av rs'.length cv, .int .i64 n.off, .int .i64 n.max, .int .i64 n.time, .string n.group] = w7 at Q7 G7 R7 V7 T7 ⊢
          clear hb7 Q6 G6 R6 HV
          by_cases he : er = 0
          case neg =>
            have d2 : (er == 0) = false := beq_eq_false_iff_ne.2 he
            have d3 : (er != 0) = true := by simpa using he
            have HER := Aside0.mk he
            clear he
            go_wp2_with fail
            refine bodyPost_ret (v := .tuple #[.slice none 0 0, .int .i64 1]) (by simp [results, Try.results13, go_sem]) rfl ?_
            exact ⟨⟨_, [], 1, rfl, Kd.R_nil _ _ _ _ _, .inr ⟨rfl, rfl, fun h_ => by have h1 := HS_.out; rw [← h1, ← HP.out] at h_; exact HER.out h_.2.2.1⟩⟩, Q7.out.below⟩
          subst he
          go_wp2_with (first | (refine wpl_loadG (by rfl) 67 (.tmp 7) rfl _ rfl Q7.out.ms Try.underlying67 rfl info26 ?_) | (refine wpl_loadG (by rfl) 26 (.tmp 10) rfl _ rfl T7.out Try.underlying26 rfl info17 ?_))
          have hsm := same_rq m { n with u1 := .slice Av rs'.length cv } A Av c cv rs rs' w7 HE.out HWF.out ⟨HOK2.out.1.ints, HOK2.out.1.topic, HOK2.out.1.group⟩ HZ.out ⟨HOK2.out.2.z1, HOK2.out.2.z2, HOK2.out.2.z3, HOK2.out.2.z4, HOK2.out.2.z5, HOK2.out.2.z6, HOK2.out.2.z7, HOK2.out.2.z8, HOK2.out.2.z9⟩ HU.out rfl (HLR.out w7 Q7.out.below) HC.out (Kd.R_reads' V7.out).2.2 (Kd.R_reads' V7.out).2.1 HR.out.2.1
          rw [rqm_cells (m := { n with u1 := .slice Av rs'.length cv }) ⟨HOK2.out.2.z1, HOK2.out.2.z2, HOK2.out.2.z3, HOK2.out.2.z4, HOK2.out.2.z5, HOK2.out.2.z6, HOK2.out.2.z7, HOK2.out.2.z8, HOK2.out.2.z9⟩] at hsm
          refine hsm.mono ?_
          clear hsm
          rintro e w8 ⟨⟨r, rfl, hr⟩, hb⟩
          have HRR := Aside0.mk hr
          have Q8 := Aside0.mk (Q7.out.under hb)
          have G8 := Aside0.mk (blk_below G7.out hb)
          have R8 := Aside0.mk (Kd.R_below R7.out hb)
          clear hr hb Q7 G7 R7 V7 T7
          cases r with
          | false =>
            go_wp2_with fail
            refine bodyPost_ret (v := .tuple #[.slice none 0 0, .int .i64 1]) (by simp [results, Try.results13, go_sem]) rfl ?_
            exact ⟨⟨_, [], 1, rfl, Kd.R_nil _ _ _ _ _, .inr ⟨rfl, rfl, fun h_ => by have h1 := HS_.out; rw [← h1, ← HP.out] at h_; have h2 := HRR.out.2 h_.2.2.2; cases h2⟩⟩, Q8.out.below⟩
          | true =>
            have q0 : w8.cell? ⟨g, 0, none⟩ = some (.slice Aw b.length cw) := (blk_cell G8.out 0).trans rfl
            go_wp2_with fail
            refine bodyPost_ret (v := .tuple #[.slice Aw b.length cw, .int .i64 0]) (by simp [results, Try.results13, go_sem]) rfl ?_
            exact ⟨⟨_, b, 0, rfl, R8.out, .inl (by have h1 := HS_.out; rw [← h1, ← HP.out]; exact ⟨rfl, rfl, HEB0.out.symm, rfl, rfl, HRR.out.1 (by first | rfl | trivial)⟩)⟩, Q8.out.below⟩

end Go.Proofs.Ytncfofnikmfjbaa.PCi

namespace Go.Proofs.Ytncfofnikmfjbaa.PCi
open Go.RowKit Go.Proofs.YtncfofnikmfjbaaW.PrintWords Go.Proofs.YtncfofnikmfjbaaW.PrintLast Go.Proofs.YtncfofnikmfjbaaW.PrintMore
attribute [local go_sem] max2_int min2_int max_two min_two max_three min_three max_four min_four
set_option linter.unusedVariables false
set_option linter.unusedSimpArgs false

/-! ### bollardlaw20.awake -/
def aw : Msg := ⟨2, 7, ⟨#[97]⟩, 0, 0, 0, 0, 0, false, 0, 0, 0, .slice none 0 0, 0, 0, 0, ⟨#[]⟩, 0, 0, 0, 0, 0, 0, .slice none 0 0, .slice none 0 0, .slice none 0 0⟩
def awB : List Int := [2, 0, 0, 0, 7, 0, 1, 97]
theorem aw_bad : rqBad1 aw = false := by kernel_rfl
theorem aw_wr : rqWr aw [] = (awB, false) := by kernel_rfl
theorem aw_e : (codec_ParseRequest.f awB).2.2 = 0 := by kernel_rfl
theorem aw_rs : (codec_ParseRequest.f awB).2.1 = [] := by kernel_rfl
theorem aw_lits : (codec_ParseRequest.f awB).1.lits = aw.lits := by kernel_rfl
theorem aw_none : (codec_ParseRequest.f [2]).2.2 = 13 := by kernel_rfl
theorem row_C8 {W : World} {q : Nat} {L : List Int} {T : TypeId} {fz : Nat × Nat} (hb : W.heap[q]? = some (.cells (L.map (Value.int .u8)).toArray T fz)) (hx : L.length ≤ 9223372036854775807) : Kd.C (Kd.int .u8) W (some ⟨q, 0, none⟩) L.length L := by
  refine Kd.C_of_reads (d := (0 : Int)) (h1 := fun _ => rfl) ⟨rfl, hx, fun _ => ⟨_, rfl, fun j hj => ?_⟩⟩
  have ha : (⟨q, 0, none⟩ : Addr).add j = ⟨q, j, none⟩ := by unfold Addr.add; split <;> simp_all
  rw [ha]
  unfold World.cell?
  simp only [hb]
  simp [List.getElem?_eq_getElem hj, List.getD_eq_getElem?_getD]
theorem aw_out {b : List Int} {n : Int} (h : RqOut aw [] b n) : b = awB ∧ n = 0 := by
  unfold RqOut at h
  rw [aw_wr] at h
  rcases h with ⟨h1, h2, _⟩ | ⟨_, _, h3⟩
  · exact ⟨h1, h2⟩
  · exact absurd ⟨aw_bad, rfl, aw_e, aw_lits.symm, aw_rs.symm⟩ h3
theorem aw_wf : aw.Wf := ⟨by intro x hx; simp only [Msg.ints, aw, List.mem_cons, List.not_mem_nil, or_false] at hx; exact wf64 (by omega), by decide, by decide⟩
theorem aw_bytes : Bp.Bytes (rqWr aw []).1 := by rw [aw_wr]; intro x hx; simp only [awB, List.mem_cons, List.not_mem_nil, or_false] at hx; omega
set_option maxHeartbeats 4000000 in
set_option maxRecDepth 100000 in
theorem bollardlaw20_awake.calls (hE : EqOk) (w : World) : Calls Try.prog 12 #[] w fun e w' => e = .returned (.bool true) ∧ Below w.heap.size w w' := by
  have HE := Aside0.mk hE
  clear hE
  go_enter Try.func12, Try.ntmps12
  go_wp2_with fail
  refine (codec_Request.calls aw none 0 [] w HE.out aw_wf ⟨rfl, rfl, rfl, rfl, rfl, rfl, rfl, rfl, rfl⟩ (wf64 (by decide)) rfl (Kd.C_nil _ _) (Nat.le_refl _) (by decide) aw_bytes).mono ?_
  rintro e w1 ⟨⟨v, b, n, rfl, hv, ho⟩, hb⟩
  obtain ⟨rfl, rfl⟩ := aw_out ho
  obtain ⟨Av, cv, ev⟩ := Kd.R_slice hv
  subst ev
  have HV := Aside0.mk hv
  have HB := Aside0.mk hb
  clear hv ho hb
  go_wp2_with fail
  have B2 := Aside0.mk (below_step HB.out (below_alloc (Below.refl w1.heap.size w1) (.cells #[.int .u8 2] 5)))
  have V2 := Aside0.mk (Kd.R_below HV.out (below_alloc (Below.refl w1.heap.size w1) (.cells #[.int .u8 2] 5)))
  have C2 := Aside0.mk (row_C8 (L := [2]) (heap_alloc_new w1 (.cells #[.int .u8 2] 5)) (by decide))
  generalize w1.alloc (.cells #[.int .u8 2] 5) = w2 at B2 V2 C2 ⊢
  clear HB HV
  refine (codec_ParseRequest.calls _ 1 [2] w2 C2.out (Nat.le_refl _) (by intro x hx; simp only [List.mem_cons, List.not_mem_nil, or_false] at hx; omega)).mono ?_
  rintro e w3 ⟨⟨v, rfl, hv⟩, hb⟩
  rw [aw_none]
  obtain ⟨p, hp⟩ : ∃ p, p = (codec_ParseRequest.f [2]).1 := ⟨_, rfl⟩
  rw [← hp]
  obtain ⟨Ap, cp, ep⟩ := Kd.R_slice hv
  subst ep
  obtain ⟨np, hnp⟩ : ∃ k, k = (codec_ParseRequest.f [2]).2.1.length := ⟨_, rfl⟩
  rw [← hnp]
  have B3 := Aside0.mk (below_step B2.out hb)
  have V3 := Aside0.mk (Kd.R_below V2.out hb)
  clear hv hb hp hnp C2 B2 V2
  go_upto_region 3 with (refine wpList_store_row rfl 26 (.tmp 3) (.tmp 13) rfl w3.heap.size (Msg.req { p with u1 := .slice Ap np cp }) rfl rfl 26 #[.int .i64 0, .int .i64 0, .string ⟨#[]⟩, .int .i64 0, .int .i64 0, .int .i64 0, .int .i64 0, .int .i64 0, .bool false, .int .i64 0, .int .i64 0, .int .i64 0, .slice none 0 0, .int .i64 0, .int .i64 0, .int .i64 0, .string ⟨#[]⟩] (heap_alloc_new w3 _) info17 rfl (req_all _ rfl) ?_)
  (try simp only [Act.put, List.setIfInBounds_toArray, List.set_cons_zero, List.set_cons_succ])
  have hb4 := below_row (below_alloc (Below.refl w3.heap.size w3) (.cells #[.int .i64 0, .int .i64 0, .string ⟨#[]⟩, .int .i64 0, .int .i64 0, .int .i64 0, .int .i64 0, .int .i64 0, .bool false, .int .i64 0, .int .i64 0, .int .i64 0, .slice none 0 0, .int .i64 0, .int .i64 0, .int .i64 0, .string ⟨#[]⟩] 26)) (Nat.le_refl _) (Msg.req { p with u1 := .slice Ap np cp })
  have B4 := Aside0.mk (below_step B3.out hb4)
  have V4 := Aside0.mk (Kd.R_below V3.out hb4)
  generalize (w3.alloc (.cells #[.int .i64 0, .int .i64 0, .string ⟨#[]⟩, .int .i64 0, .int .i64 0, .int .i64 0, .int .i64 0, .int .i64 0, .bool false, .int .i64 0, .int .i64 0, .int .i64 0, .slice none 0 0, .int .i64 0, .int .i64 0, .int .i64 0, .string ⟨#[]⟩] 26)).setRow w3.heap.size (Msg.req { p with u1 := .slice Ap np cp }) = w4 at B4 V4 ⊢
  clear hb4 B3 V3
  go_wp2_with fail
  have hb5 := below_alloc (Below.refl w4.heap.size w4) (.cells #[.int .u8 2, .int .u8 0, .int .u8 0, .int .u8 0, .int .u8 7, .int .u8 0, .int .u8 1, .int .u8 97] 5)
  have C5 := Aside0.mk (row_C8 (L := awB) (heap_alloc_new w4 (.cells #[.int .u8 2, .int .u8 0, .int .u8 0, .int .u8 0, .int .u8 7, .int .u8 0, .int .u8 1, .int .u8 97] 5)) (by decide))
  refine (bollardalike_Bytes.calls 20 Av cv awB _ 8 awB true _ (Kd.C_below (Kd.R_reads' V4.out).2.2 hb5) (Kd.R_reads' V4.out).2.1 C5.out (by decide) (by kernel_rfl)).mono ?_
  rintro e w6 ⟨rfl, hb6⟩
  have B6 := Aside0.mk (below_step (below_step B4.out hb5) (Drawn0.below hb6))
  clear hb5 hb6 C5 B4 V4
  go_wp2_with fail
  go_ret
  exact ⟨rfl, B6.out⟩

end Go.Proofs.Ytncfofnikmfjbaa.PCi

namespace Go.Proofs.Ytncfofnikmfjbaa.PCi
open Go.RowKit Go.Proofs.YtncfofnikmfjbaaW.PrintWords Go.Proofs.YtncfofnikmfjbaaW.PrintLast Go.Proofs.YtncfofnikmfjbaaW.PrintMore
attribute [local go_sem] max2_int min2_int max_two min_two max_three min_three max_four min_four
set_option linter.unusedVariables false
set_option linter.unusedSimpArgs false

/-! ### codec's laws: what they share -/
/-- What is known of a request that a law is handed. -/
structure RqArg (m : Msg) (l : List S98) : Prop where
  wf : m.Wf
  z : m.Z
  kind : (Lit.int .i64 m.kind).wf = true
  len : l.length ≤ 2305843009213693951
  recs : ∀ y ∈ l, y.f1.size ≤ 140737488351232 ∧ y.f3.size ≤ 140737488351232
  topic : m.topic.size ≤ 140737488351232
  group : m.group.size ≤ 140737488351232
theorem rq_arg (a0_0 : Int) (a0_1 : Int) (a0_2 : ByteArray) (a0_3 : Int) (a0_4 : Int) (a0_5 : Int) (a0_6 : Int) (a0_7 : Int) (a0_8 : Bool) (a0_9 : Int) (a0_10 : Int) (a0_11 : Int) (A0_12 : Option Addr) (c0_12 : Nat) (l0_12 : List S98) (a0_13 : Int) (a0_14 : Int) (a0_15 : Int) (a0_16 : ByteArray) (h0 : (Lit.int .i64 a0_0).wf = true) (h1 : (Lit.int .i64 a0_1).wf = true) (h2 : a0_2.size ≤ 140737488351232) (h3 : (Lit.int .i64 a0_3).wf = true) (h4 : (Lit.int .i64 a0_4).wf = true) (h5 : (Lit.int .i64 a0_5).wf = true) (h6 : (Lit.int .i64 a0_6).wf = true) (h7 : (Lit.int .i64 a0_7).wf = true) (h9 : (Lit.int .i64 a0_9).wf = true) (h10 : (Lit.int .i64 a0_10).wf = true) (h11 : (Lit.int .i64 a0_11).wf = true) (h12 : l0_12.length * 64 ≤ 140737488351232 ∧ ∀ y0 ∈ l0_12, (True ∧ (y0.f1.size ≤ 140737488351232 ∧ (True ∧ (y0.f3.size ≤ 140737488351232 ∧ ((Lit.int .i64 y0.f4).wf = true ∧ (Lit.int .i64 y0.f5).wf = true)))))) (h13 : (Lit.int .i64 a0_13).wf = true) (h14 : (Lit.int .i64 a0_14).wf = true) (h15 : (Lit.int .i64 a0_15).wf = true) (h16 : a0_16.size ≤ 140737488351232) : RqArg (⟨a0_0, a0_1, a0_2, a0_3, a0_4, a0_5, a0_6, a0_7, a0_8, a0_9, a0_10, a0_11, (.slice A0_12 l0_12.length c0_12), a0_13, a0_14, a0_15, a0_16, 0, 0, 0, 0, 0, 0, .slice none 0 0, .slice none 0 0, .slice none 0 0⟩ : Msg) l0_12 where
  wf := ⟨fun x hx => by
    simp only [Msg.ints, List.mem_cons, List.not_mem_nil, or_false] at hx
    rcases hx with rfl | rfl | rfl | rfl | rfl | rfl | rfl | rfl | rfl | rfl | rfl | rfl | rfl | rfl | rfl | rfl | rfl | rfl
    all_goals first | assumption | decide, Nat.le_trans h2 (by decide), Nat.le_trans h16 (by decide)⟩
  z := ⟨rfl, rfl, rfl, rfl, rfl, rfl, rfl, rfl, rfl⟩
  kind := h0
  len := by have := h12.1; omega
  recs := fun y hy => ⟨(h12.2 y hy).2.1, (h12.2 y hy).2.2.2.1⟩
  topic := h2
  group := h16
theorem ok_out {m : Msg} {rs : List S98} {b : List Int} {n : Int} (h : RqOut m rs b n) : (n = 0 ∧ 5 ≤ b.length ∧ Bp.Bytes b ∧ (codec_ParseRequest.f b).2.2 = 0) ∨ (n = 1 ∧ b = []) := by
  rcases h with ⟨rfl, h2, _, _, h5, _⟩ | ⟨rfl, h2, _⟩
  · exact .inl ⟨h2, (rqWr_bytes m rs).2, (rqWr_bytes m rs).1, h5⟩
  · exact .inr ⟨h2, rfl⟩
end Go.Proofs.Ytncfofnikmfjbaa.PCi
