import Derived.Test.YtncfofnikmfjbaaQCf5
import Derived.Outline
import Derived.StillTailTactics
import Derived.RegionTactic
import Derived.BigRegion
import Derived.Lib.BufferWrite
import Derived.Test.YtncfofnikmfjbaaQPCix2
namespace Go.Proofs.Ytncfofnikmfjbaa.PCi
open Go.RowKit Go.Proofs.YtncfofnikmfjbaaW.PrintWords Go.Proofs.YtncfofnikmfjbaaW.PrintLast Go.Proofs.YtncfofnikmfjbaaW.PrintMore
attribute [local go_sem] max2_int min2_int max_two min_two max_three min_three max_four min_four
set_option linter.unusedVariables false
set_option linter.unusedSimpArgs false

set_option maxHeartbeats 4000000 in
set_option maxRecDepth 100000 in
theorem wr_many (g base : Nat) (xs : List Int) (bad : Bool) (n : Nat) (w : World) (hF : Wr w g base xs bad) (hg : base ≤ g) (hb : base ≤ w.heap.size) (hx : xs.length ≤ 1000000000) :
    Calls Try.prog 78 #[.pointer (some ⟨g, 0, none⟩), .int .i64 (n : Int)] w fun e w' => e = .returned (.tuple #[]) ∧ Wr w' g base (xs ++ nb n 2) (bad || decide (65535 < n)) ∧ KeepW w w' g base := by
  have HF := Aside0.mk hF
  have HGE := Aside0.mk hg
  have HB := Aside0.mk hb
  have HX := Aside0.mk hx
  obtain ⟨b2, hb2⟩ : ∃ b, b = (bad || decide (65535 < n)) := ⟨_, rfl⟩
  have HB2 := Aside0.mk hb2
  rw [← hb2]
  clear hF hg hb hx hb2
  obtain ⟨A, c, hg, hr⟩ := HF.out
  have HR := Aside0.mk hr
  have HG := Aside0.mk hg
  have q0 : w.cell? ⟨g, 0, none⟩ = some (.slice A xs.length c) := (blk_cell hg 0).trans rfl
  have q1 : w.cell? ⟨g, 1, none⟩ = some (.bool bad) := (blk_cell hg 1).trans rfl
  have z0 : w.frozen? ⟨g, 0, none⟩ = false := blk_frozen hg 0
  have z1 : w.frozen? ⟨g, 1, none⟩ = false := blk_frozen hg 1
  clear hg hr
  have HW := Aside0.mk (HF.out.bad b2)
  have HK := Aside0.mk ((KeepW.refl w g base).set HGE.out 1 (.bool b2))
  cases bad with
  | true =>
    have e2 : b2 = true := HB2.out.trans rfl
    subst e2
    go_enter Try.func78, Try.ntmps78
    go_wp2_with fail
    generalize w.setCell ⟨g, 1, none⟩ (.bool true) = w1 at HW HK ⊢
    refine (wr_number g base xs true (n : Int) 2 w1 HW.out HGE.out (Nat.le_trans HB.out HK.out.below.size) (by decide) (by decide) HX.out).mono ?_
    rintro e w2 ⟨rfl, h1, h2⟩
    have H1 := Aside0.mk h1
    have H2 := Aside0.mk (HK.out.trans h2)
    clear h1 h2
    go_wp2_with fail
    refine bodyPost_end (v := .tuple #[]) (by simp [results, Try.results78, go_sem]) rfl ?_
    exact ⟨rfl, H1.out, H2.out⟩
  | false =>
    have e2 : decide (65535 < (n : Int)) = b2 := by rw [HB2.out, Bool.false_or]; exact decide_eq_decide.2 (by omega)
    go_enter Try.func78, Try.ntmps78
    go_wp2_with fail
    generalize w.setCell ⟨g, 1, none⟩ (.bool b2) = w1 at HW HK ⊢
    refine (wr_number g base xs b2 (n : Int) 2 w1 HW.out HGE.out (Nat.le_trans HB.out HK.out.below.size) (by decide) (by decide) HX.out).mono ?_
    rintro e w2 ⟨rfl, h1, h2⟩
    have H1 := Aside0.mk h1
    have H2 := Aside0.mk (HK.out.trans h2)
    clear h1 h2
    go_wp2_with fail
    refine bodyPost_end (v := .tuple #[]) (by simp [results, Try.results78, go_sem]) rfl ?_
    exact ⟨rfl, H1.out, H2.out⟩
set_option maxHeartbeats 4000000 in
set_option maxRecDepth 100000 in
theorem wr_text (g base : Nat) (xs : List Int) (bad : Bool) (s : ByteArray) (w : World) (hF : Wr w g base xs bad) (hg : base ≤ g) (hb : base ≤ w.heap.size) (hx : xs.length + s.size ≤ 900000000) :
    Calls Try.prog 44 #[.pointer (some ⟨g, 0, none⟩), .string s] w fun e w' => e = .returned (.tuple #[]) ∧ Wr w' g base (xs ++ (nb (s.size : Nat) 2 ++ bytesOf s)) (bad || decide (65535 < s.size)) ∧ KeepW w w' g base := by
  have HF := Aside0.mk hF
  have HGE := Aside0.mk hg
  have HB := Aside0.mk hb
  have HX := Aside0.mk hx
  obtain ⟨b2, hb2⟩ : ∃ b, b = (bad || decide (65535 < s.size)) := ⟨_, rfl⟩
  have HB2 := Aside0.mk hb2
  rw [← hb2]
  clear hF hg hb hx hb2
  go_enter Try.func44, Try.ntmps44
  go_wp2_with fail
  refine (wr_many g base xs bad s.size w HF.out HGE.out HB.out (by have := HX.out; omega)).mono ?_
  rintro e y ⟨rfl, h1, h2⟩
  rw [← HB2.out] at h1
  obtain ⟨vs, hvs⟩ : ∃ vs, vs = xs ++ nb (s.size : Nat) 2 := ⟨_, rfl⟩
  have HVS := Aside0.mk hvs
  have HVL := Aside0.mk (show vs.length = xs.length + 2 from by rw [hvs, List.length_append, nb_len])
  rw [← hvs] at h1
  have HF1 := Aside0.mk h1
  have HK1 := Aside0.mk h2
  clear h1 h2 hvs
  obtain ⟨A1, c1, hg1, hr1⟩ := HF1.out
  have HR1 := Aside0.mk hr1
  have HG1 := Aside0.mk hg1
  have q0 : y.cell? ⟨g, 0, none⟩ = some (.slice A1 vs.length c1) := (blk_cell hg1 0).trans rfl
  have q1 : y.cell? ⟨g, 1, none⟩ = some (.bool b2) := (blk_cell hg1 1).trans rfl
  have z0 : y.frozen? ⟨g, 0, none⟩ = false := blk_frozen hg1 0
  have z1 : y.frozen? ⟨g, 1, none⟩ = false := blk_frozen hg1 1
  clear hg1 hr1
  obtain ⟨ws, hws⟩ : ∃ ws, ws = vs ++ bytesOf s := ⟨_, rfl⟩
  have HWS := Aside0.mk hws
  clear hws
  go_wp2_with ((with_reducible refine gate_builtin (b := .append) (xs := #[.tmp 12, .tmp 13]) rfl ?_); at_builtin; refine Kd.R_append_str (w0 := w) base rfl (.tmp 12) _ 29 9 5 rfl Try.underlying29 Try.underlying9 info_u8 (.slice A1 vs.length c1) vs s (fun _ => True) rfl rfl (fun _ _ => trivial) HR1.out HK1.out.below (Nat.le_trans HB.out HK1.out.below.size) ?aL ?_; (case aL => have := HX.out; have := HVL.out; omega); intro v2 w2 ho hb hg_ hat; rw [← HWS.out] at ho; obtain ⟨A2, c2, e2⟩ := Kd.R_slice ho; subst e2; have HO2 := Aside0.mk ho; have HK2 := Aside0.mk (HK1.out.grown HR1.out hg_ hb); have hG2 := hg_.block g (blk_lt HG1.out) (Kd.R_ne HR1.out HG1.out (by decide)); rw [HG1.out] at hG2; have HG2 := Aside0.mk hG2; have z0 : w2.frozen? ⟨g, 0, none⟩ = false := blk_frozen hG2 0; have q0 : w2.cell? ⟨g, 0, none⟩ = some (.slice A1 vs.length c1) := (blk_cell hG2 0).trans rfl; clear ho hb hg_ hat hG2)
  refine bodyPost_end (v := .tuple #[]) (by simp [results, Try.results44, go_sem]) rfl ?_
  refine ⟨rfl, ?_, HK2.out.set HGE.out 0 _⟩
  rw [← List.append_assoc, ← HVS.out, ← HWS.out]
  exact Wr.mk' (by simpa using blk_set HG2.out 0 (.slice A2 ws.length c2)) (Kd.R_set HO2.out HG2.out (by decide) 0 _)

end Go.Proofs.Ytncfofnikmfjbaa.PCi

namespace Go.Proofs.Ytncfofnikmfjbaa.PCi
open Go.RowKit Go.Proofs.YtncfofnikmfjbaaW.PrintWords Go.Proofs.YtncfofnikmfjbaaW.PrintLast Go.Proofs.YtncfofnikmfjbaaW.PrintMore
attribute [local go_sem] max2_int min2_int max_two min_two max_three min_three max_four min_four
set_option linter.unusedVariables false
set_option linter.unusedSimpArgs false

/-- A record's bytes. -/
def recW (hk : Bool) (key : ByteArray) (hv : Bool) (val : ByteArray) (t : Int) : List Int := nb ((if hk = true then 1 else 0) + (if hv = true then 2 else 0)) 1 ++ ((if hk = true then nb (key.size : Nat) 2 ++ bytesOf key else []) ++ ((if hv = true then nb (val.size : Nat) 2 ++ bytesOf val else []) ++ nb t 8))
def recO (hk : Bool) (key : ByteArray) (hv : Bool) (val : ByteArray) (o : Int) : Bool := (!hk && !key.toList.isEmpty) || ((!hv && !val.toList.isEmpty) || !(o == 0))
def recB (hk : Bool) (key : ByteArray) (hv : Bool) (val : ByteArray) (o : Int) : Bool := recO hk key hv val o || ((hk && decide (65535 < key.size)) || (hv && decide (65535 < val.size)))
def RwSt (w y : World) (g base : Nat) (xs : List Int) (bad : Bool) (hk : Bool) (key : ByteArray) (hv : Bool) (val : ByteArray) (t o : Int) : Prop := Wr y g base xs bad ∧ y.heap[w.heap.size]? = some (.cells #[.bool hk, .string key, .bool hv, .string val, .int .i64 t, .int .i64 o] 98 (0, 0)) ∧ KeepW w y g base
section
variable {w y y2 : World} {g base : Nat} {xs ys : List Int} {bad b2 : Bool} {hk : Bool} {key : ByteArray} {hv : Bool} {val : ByteArray} {t o : Int}
theorem RwSt.cells (h : RwSt w y g base xs bad hk key hv val t o) : y.cell? ⟨w.heap.size, 0, none⟩ = some (.bool hk) ∧ y.cell? ⟨w.heap.size, 1, none⟩ = some (.string key) ∧ y.cell? ⟨w.heap.size, 2, none⟩ = some (.bool hv) ∧ y.cell? ⟨w.heap.size, 3, none⟩ = some (.string val) ∧ y.cell? ⟨w.heap.size, 4, none⟩ = some (.int .i64 t) ∧ y.cell? ⟨w.heap.size, 5, none⟩ = some (.int .i64 o) :=
  ⟨(blk_cell h.2.1 0).trans rfl, (blk_cell h.2.1 1).trans rfl, (blk_cell h.2.1 2).trans rfl, (blk_cell h.2.1 3).trans rfl, (blk_cell h.2.1 4).trans rfl, (blk_cell h.2.1 5).trans rfl⟩
theorem RwSt.step (h : RwSt w y g base xs bad hk key hv val t o) (hg : g < w.heap.size) (hw : Wr y2 g base ys b2) (hk2 : KeepW y y2 g base) : RwSt w y2 g base ys b2 hk key hv val t o :=
  ⟨hw, hk2.blk h.2.1 (by omega) (by decide), h.2.2.trans hk2⟩
theorem RwSt.turn (h : RwSt w y g base xs bad hk key hv val t o) (hg : g < w.heap.size) (hb : base ≤ g) (b : Bool) : RwSt w (y.setCell ⟨g, 1, none⟩ (.bool b)) g base xs b hk key hv val t o :=
  h.step hg (h.1.bad b) ((KeepW.refl _ _ _).set hb 1 _)
theorem RwSt.turn2 (h : RwSt w y g base xs bad hk key hv val t o) (hg : g < w.heap.size) (hb : base ≤ g) (b : Bool) (e : b = b2) : RwSt w (y.setCell ⟨g, 1, none⟩ (.bool b)) g base xs b2 hk key hv val t o := e ▸ h.turn hg hb b
theorem Wr.lt (h : Wr w g base xs bad) : g < w.heap.size := by
  obtain ⟨A, c, h1, _⟩ := h
  exact blk_lt h1
end
theorem RwSt.new {w : World} {g base : Nat} {xs : List Int} {bad : Bool} (h : Wr w g base xs bad) (hb : base ≤ w.heap.size) (hk : Bool) (key : ByteArray) (hv : Bool) (val : ByteArray) (t o : Int) : RwSt w (w.alloc (.cells #[.bool hk, .string key, .bool hv, .string val, .int .i64 t, .int .i64 o] 98)) g base xs bad hk key hv val t o :=
  ⟨h.below (below_alloc (Below.refl _ _) _), heap_alloc_new w _, KeepW.of_below (below_alloc (Below.refl _ _) _) hb⟩
set_option maxHeartbeats 4000000 in
set_option maxRecDepth 100000 in
theorem wr_record0 (g base : Nat) (xs : List Int) (bad : Bool) (key val : ByteArray) (t o : Int) (w : World) (hF : Wr w g base xs bad) (hg : base ≤ g) (hb : base ≤ w.heap.size) (hx : xs.length + (key.size + val.size) ≤ 800000000) :
    Calls Try.prog 47 #[.pointer (some ⟨g, 0, none⟩), .agg #[.bool false, .string key, .bool false, .string val, .int .i64 t, .int .i64 o]] w fun e w' => e = .returned (.tuple #[]) ∧ Wr w' g base (xs ++ recW false key false val t) (bad || recB false key false val o) ∧ KeepW w w' g base := by
  have HF := Aside0.mk hF
  have HGE := Aside0.mk hg
  have HB := Aside0.mk hb
  have HX := Aside0.mk hx
  have HL := Aside0.mk hF.lt
  have S0 := Aside0.mk (RwSt.new hF hb false key false val t o)
  obtain ⟨b2, hb2⟩ : ∃ b, b = (bad || recO false key false val o) := ⟨_, rfl⟩
  have HB2 := Aside0.mk hb2
  clear hF hg hb hx hb2
  go_enter Try.func47, Try.ntmps47
  go_upto_region 6 with (fail)
  (try simp only [Act.put, List.setIfInBounds_toArray, List.set_cons_zero, List.set_cons_succ])
  generalize w.alloc (.cells #[.bool false, .string key, .bool false, .string val, .int .i64 t, .int .i64 o] 98) = y0 at S0 ⊢
  obtain ⟨n0_, n1_, n2_, n3_, n4_, n5_⟩ := S0.out.cells
  obtain ⟨A, c, hg_, _⟩ := S0.out.1
  have q1 : y0.cell? ⟨g, 1, none⟩ = some (.bool bad) := (blk_cell hg_ 1).trans rfl
  have z1 : y0.frozen? ⟨g, 1, none⟩ = false := blk_frozen hg_ 1
  clear hg_
  go_cut [4] (fun v4 wc => v4 = .int .i64 0 ∧ Aside0 (RwSt w wc g base xs b2 false key false val t o))
  case first =>
    go_wp2
    all_goals
      go_meet
      case rel => exact ⟨by rfl, ⟨S0.out.turn2 HL.out HGE.out _ (by rw [HB2.out]; unfold recO; first | rfl | (simp [*]; done) | (simp [*, Bool.or_assoc]; done) | (simp [*, bne]; done))⟩⟩
  clear S0 n0_ n1_ n2_ n3_ n4_ n5_ q1 z1
  obtain ⟨rfl, S1⟩ := hcut
  go_wp2_with fail
  refine (wr_number g base xs b2 0 1 _ S1.out.1 HGE.out (Nat.le_trans HB.out S1.out.2.2.below.size) (by decide) (by decide) (by have := HX.out; omega)).mono ?_
  rintro e w1 ⟨rfl, h1, h2⟩
  obtain ⟨x1, hx1⟩ : ∃ x, x = xs ++ nb 0 1 := ⟨_, rfl⟩
  have X1 := Aside0.mk hx1
  have L1 := Aside0.mk (show x1.length = xs.length + 1 from by rw [hx1]; rw [List.length_append, nb_len])
  rw [← hx1] at h1
  have S2 := Aside0.mk (S1.out.step HL.out h1 h2)
  clear h1 h2 hx1 S1
  obtain ⟨n0_, n1_, n2_, n3_, n4_, n5_⟩ := S2.out.cells
  go_wp2_with fail
  refine (wr_number g base x1 b2 t 8 _ S2.out.1 HGE.out (Nat.le_trans HB.out S2.out.2.2.below.size) (by decide) (by decide) (by have := L1.out; have := HX.out; omega)).mono ?_
  rintro e w2 ⟨rfl, h1, h2⟩
  obtain ⟨x2, hx2⟩ : ∃ x, x = x1 ++ nb t 8 := ⟨_, rfl⟩
  have X2 := Aside0.mk hx2
  have L2 := Aside0.mk (show x2.length = x1.length + 8 from by rw [hx2]; rw [List.length_append, nb_len])
  rw [← hx2] at h1
  have S3 := Aside0.mk (S2.out.step HL.out h1 h2)
  clear h1 h2 hx2 S2
  obtain ⟨n0_, n1_, n2_, n3_, n4_, n5_⟩ := S3.out.cells
  go_wp2_with fail
  refine bodyPost_end (v := .tuple #[]) (by simp [results, Try.results47, go_sem]) rfl ?_
  refine ⟨rfl, ?_, S3.out.2.2⟩
  have h_ := S3.out.1
  rw [X2.out, X1.out] at h_
  unfold recW recB
  rw [HB2.out] at h_
  simpa [Bool.or_assoc] using h_
set_option maxHeartbeats 4000000 in
set_option maxRecDepth 100000 in
theorem wr_record2 (g base : Nat) (xs : List Int) (bad : Bool) (key val : ByteArray) (t o : Int) (w : World) (hF : Wr w g base xs bad) (hg : base ≤ g) (hb : base ≤ w.heap.size) (hx : xs.length + (key.size + val.size) ≤ 800000000) :
    Calls Try.prog 47 #[.pointer (some ⟨g, 0, none⟩), .agg #[.bool false, .string key, .bool true, .string val, .int .i64 t, .int .i64 o]] w fun e w' => e = .returned (.tuple #[]) ∧ Wr w' g base (xs ++ recW false key true val t) (bad || recB false key true val o) ∧ KeepW w w' g base := by
  have HF := Aside0.mk hF
  have HGE := Aside0.mk hg
  have HB := Aside0.mk hb
  have HX := Aside0.mk hx
  have HL := Aside0.mk hF.lt
  have S0 := Aside0.mk (RwSt.new hF hb false key true val t o)
  obtain ⟨b2, hb2⟩ : ∃ b, b = (bad || recO false key true val o) := ⟨_, rfl⟩
  have HB2 := Aside0.mk hb2
  clear hF hg hb hx hb2
  go_enter Try.func47, Try.ntmps47
  go_upto_region 6 with (fail)
  (try simp only [Act.put, List.setIfInBounds_toArray, List.set_cons_zero, List.set_cons_succ])
  generalize w.alloc (.cells #[.bool false, .string key, .bool true, .string val, .int .i64 t, .int .i64 o] 98) = y0 at S0 ⊢
  obtain ⟨n0_, n1_, n2_, n3_, n4_, n5_⟩ := S0.out.cells
  obtain ⟨A, c, hg_, _⟩ := S0.out.1
  have q1 : y0.cell? ⟨g, 1, none⟩ = some (.bool bad) := (blk_cell hg_ 1).trans rfl
  have z1 : y0.frozen? ⟨g, 1, none⟩ = false := blk_frozen hg_ 1
  clear hg_
  go_cut [4] (fun v4 wc => v4 = .int .i64 2 ∧ Aside0 (RwSt w wc g base xs b2 false key true val t o))
  case first =>
    go_wp2
    all_goals
      go_meet
      case rel => exact ⟨by rfl, ⟨S0.out.turn2 HL.out HGE.out _ (by rw [HB2.out]; unfold recO; first | rfl | (simp [*]; done) | (simp [*, Bool.or_assoc]; done) | (simp [*, bne]; done))⟩⟩
  clear S0 n0_ n1_ n2_ n3_ n4_ n5_ q1 z1
  obtain ⟨rfl, S1⟩ := hcut
  go_wp2_with fail
  refine (wr_number g base xs b2 2 1 _ S1.out.1 HGE.out (Nat.le_trans HB.out S1.out.2.2.below.size) (by decide) (by decide) (by have := HX.out; omega)).mono ?_
  rintro e w1 ⟨rfl, h1, h2⟩
  obtain ⟨x1, hx1⟩ : ∃ x, x = xs ++ nb 2 1 := ⟨_, rfl⟩
  have X1 := Aside0.mk hx1
  have L1 := Aside0.mk (show x1.length = xs.length + 1 from by rw [hx1]; rw [List.length_append, nb_len])
  rw [← hx1] at h1
  have S2 := Aside0.mk (S1.out.step HL.out h1 h2)
  clear h1 h2 hx1 S1
  obtain ⟨n0_, n1_, n2_, n3_, n4_, n5_⟩ := S2.out.cells
  go_wp2_with fail
  refine (wr_text g base x1 b2 val _ S2.out.1 HGE.out (Nat.le_trans HB.out S2.out.2.2.below.size) (by have := L1.out; have := HX.out; omega)).mono ?_
  rintro e w2 ⟨rfl, h1, h2⟩
  obtain ⟨x2, hx2⟩ : ∃ x, x = x1 ++ (nb (val.size : Nat) 2 ++ bytesOf val) := ⟨_, rfl⟩
  have X2 := Aside0.mk hx2
  have L2 := Aside0.mk (show x2.length = x1.length + (2 + val.size) from by rw [hx2]; rw [List.length_append, List.length_append, nb_len, bytesOf_length])
  rw [← hx2] at h1
  obtain ⟨c2, hc2⟩ : ∃ b, b = (b2 || decide (65535 < val.size)) := ⟨_, rfl⟩
  have C2 := Aside0.mk hc2
  rw [← hc2] at h1
  clear hc2
  have S3 := Aside0.mk (S2.out.step HL.out h1 h2)
  clear h1 h2 hx2 S2
  obtain ⟨n0_, n1_, n2_, n3_, n4_, n5_⟩ := S3.out.cells
  go_wp2_with fail
  refine (wr_number g base x2 c2 t 8 _ S3.out.1 HGE.out (Nat.le_trans HB.out S3.out.2.2.below.size) (by decide) (by decide) (by have := L1.out; have := L2.out; have := HX.out; omega)).mono ?_
  rintro e w3 ⟨rfl, h1, h2⟩
  obtain ⟨x3, hx3⟩ : ∃ x, x = x2 ++ nb t 8 := ⟨_, rfl⟩
  have X3 := Aside0.mk hx3
  have L3 := Aside0.mk (show x3.length = x2.length + 8 from by rw [hx3]; rw [List.length_append, nb_len])
  rw [← hx3] at h1
  have S4 := Aside0.mk (S3.out.step HL.out h1 h2)
  clear h1 h2 hx3 S3
  obtain ⟨n0_, n1_, n2_, n3_, n4_, n5_⟩ := S4.out.cells
  go_wp2_with fail
  refine bodyPost_end (v := .tuple #[]) (by simp [results, Try.results47, go_sem]) rfl ?_
  refine ⟨rfl, ?_, S4.out.2.2⟩
  have h_ := S4.out.1
  rw [X3.out, X2.out, X1.out] at h_
  unfold recW recB
  rw [C2.out, HB2.out] at h_
  simpa [Bool.or_assoc] using h_
set_option maxHeartbeats 4000000 in
set_option maxRecDepth 100000 in
theorem wr_record1 (g base : Nat) (xs : List Int) (bad : Bool) (key val : ByteArray) (t o : Int) (w : World) (hF : Wr w g base xs bad) (hg : base ≤ g) (hb : base ≤ w.heap.size) (hx : xs.length + (key.size + val.size) ≤ 800000000) :
    Calls Try.prog 47 #[.pointer (some ⟨g, 0, none⟩), .agg #[.bool true, .string key, .bool false, .string val, .int .i64 t, .int .i64 o]] w fun e w' => e = .returned (.tuple #[]) ∧ Wr w' g base (xs ++ recW true key false val t) (bad || recB true key false val o) ∧ KeepW w w' g base := by
  have HF := Aside0.mk hF
  have HGE := Aside0.mk hg
  have HB := Aside0.mk hb
  have HX := Aside0.mk hx
  have HL := Aside0.mk hF.lt
  have S0 := Aside0.mk (RwSt.new hF hb true key false val t o)
  obtain ⟨b2, hb2⟩ : ∃ b, b = (bad || recO true key false val o) := ⟨_, rfl⟩
  have HB2 := Aside0.mk hb2
  clear hF hg hb hx hb2
  go_enter Try.func47, Try.ntmps47
  go_upto_region 6 with (fail)
  (try simp only [Act.put, List.setIfInBounds_toArray, List.set_cons_zero, List.set_cons_succ])
  generalize w.alloc (.cells #[.bool true, .string key, .bool false, .string val, .int .i64 t, .int .i64 o] 98) = y0 at S0 ⊢
  obtain ⟨n0_, n1_, n2_, n3_, n4_, n5_⟩ := S0.out.cells
  obtain ⟨A, c, hg_, _⟩ := S0.out.1
  have q1 : y0.cell? ⟨g, 1, none⟩ = some (.bool bad) := (blk_cell hg_ 1).trans rfl
  have z1 : y0.frozen? ⟨g, 1, none⟩ = false := blk_frozen hg_ 1
  clear hg_
  go_cut [4] (fun v4 wc => v4 = .int .i64 1 ∧ Aside0 (RwSt w wc g base xs b2 true key false val t o))
  case first =>
    go_wp2
    all_goals
      go_meet
      case rel => exact ⟨by rfl, ⟨S0.out.turn2 HL.out HGE.out _ (by rw [HB2.out]; unfold recO; first | rfl | (simp [*]; done) | (simp [*, Bool.or_assoc]; done) | (simp [*, bne]; done))⟩⟩
  clear S0 n0_ n1_ n2_ n3_ n4_ n5_ q1 z1
  obtain ⟨rfl, S1⟩ := hcut
  go_wp2_with fail
  refine (wr_number g base xs b2 1 1 _ S1.out.1 HGE.out (Nat.le_trans HB.out S1.out.2.2.below.size) (by decide) (by decide) (by have := HX.out; omega)).mono ?_
  rintro e w1 ⟨rfl, h1, h2⟩
  obtain ⟨x1, hx1⟩ : ∃ x, x = xs ++ nb 1 1 := ⟨_, rfl⟩
  have X1 := Aside0.mk hx1
  have L1 := Aside0.mk (show x1.length = xs.length + 1 from by rw [hx1]; rw [List.length_append, nb_len])
  rw [← hx1] at h1
  have S2 := Aside0.mk (S1.out.step HL.out h1 h2)
  clear h1 h2 hx1 S1
  obtain ⟨n0_, n1_, n2_, n3_, n4_, n5_⟩ := S2.out.cells
  go_wp2_with fail
  refine (wr_text g base x1 b2 key _ S2.out.1 HGE.out (Nat.le_trans HB.out S2.out.2.2.below.size) (by have := L1.out; have := HX.out; omega)).mono ?_
  rintro e w2 ⟨rfl, h1, h2⟩
  obtain ⟨x2, hx2⟩ : ∃ x, x = x1 ++ (nb (key.size : Nat) 2 ++ bytesOf key) := ⟨_, rfl⟩
  have X2 := Aside0.mk hx2
  have L2 := Aside0.mk (show x2.length = x1.length + (2 + key.size) from by rw [hx2]; rw [List.length_append, List.length_append, nb_len, bytesOf_length])
  rw [← hx2] at h1
  obtain ⟨c2, hc2⟩ : ∃ b, b = (b2 || decide (65535 < key.size)) := ⟨_, rfl⟩
  have C2 := Aside0.mk hc2
  rw [← hc2] at h1
  clear hc2
  have S3 := Aside0.mk (S2.out.step HL.out h1 h2)
  clear h1 h2 hx2 S2
  obtain ⟨n0_, n1_, n2_, n3_, n4_, n5_⟩ := S3.out.cells
  go_wp2_with fail
  refine (wr_number g base x2 c2 t 8 _ S3.out.1 HGE.out (Nat.le_trans HB.out S3.out.2.2.below.size) (by decide) (by decide) (by have := L1.out; have := L2.out; have := HX.out; omega)).mono ?_
  rintro e w3 ⟨rfl, h1, h2⟩
  obtain ⟨x3, hx3⟩ : ∃ x, x = x2 ++ nb t 8 := ⟨_, rfl⟩
  have X3 := Aside0.mk hx3
  have L3 := Aside0.mk (show x3.length = x2.length + 8 from by rw [hx3]; rw [List.length_append, nb_len])
  rw [← hx3] at h1
  have S4 := Aside0.mk (S3.out.step HL.out h1 h2)
  clear h1 h2 hx3 S3
  obtain ⟨n0_, n1_, n2_, n3_, n4_, n5_⟩ := S4.out.cells
  go_wp2_with fail
  refine bodyPost_end (v := .tuple #[]) (by simp [results, Try.results47, go_sem]) rfl ?_
  refine ⟨rfl, ?_, S4.out.2.2⟩
  have h_ := S4.out.1
  rw [X3.out, X2.out, X1.out] at h_
  unfold recW recB
  rw [C2.out, HB2.out] at h_
  simpa [Bool.or_assoc] using h_
set_option maxHeartbeats 4000000 in
set_option maxRecDepth 100000 in
theorem wr_record3 (g base : Nat) (xs : List Int) (bad : Bool) (key val : ByteArray) (t o : Int) (w : World) (hF : Wr w g base xs bad) (hg : base ≤ g) (hb : base ≤ w.heap.size) (hx : xs.length + (key.size + val.size) ≤ 800000000) :
    Calls Try.prog 47 #[.pointer (some ⟨g, 0, none⟩), .agg #[.bool true, .string key, .bool true, .string val, .int .i64 t, .int .i64 o]] w fun e w' => e = .returned (.tuple #[]) ∧ Wr w' g base (xs ++ recW true key true val t) (bad || recB true key true val o) ∧ KeepW w w' g base := by
  have HF := Aside0.mk hF
  have HGE := Aside0.mk hg
  have HB := Aside0.mk hb
  have HX := Aside0.mk hx
  have HL := Aside0.mk hF.lt
  have S0 := Aside0.mk (RwSt.new hF hb true key true val t o)
  obtain ⟨b2, hb2⟩ : ∃ b, b = (bad || recO true key true val o) := ⟨_, rfl⟩
  have HB2 := Aside0.mk hb2
  clear hF hg hb hx hb2
  go_enter Try.func47, Try.ntmps47
  go_upto_region 6 with (fail)
  (try simp only [Act.put, List.setIfInBounds_toArray, List.set_cons_zero, List.set_cons_succ])
  generalize w.alloc (.cells #[.bool true, .string key, .bool true, .string val, .int .i64 t, .int .i64 o] 98) = y0 at S0 ⊢
  obtain ⟨n0_, n1_, n2_, n3_, n4_, n5_⟩ := S0.out.cells
  obtain ⟨A, c, hg_, _⟩ := S0.out.1
  have q1 : y0.cell? ⟨g, 1, none⟩ = some (.bool bad) := (blk_cell hg_ 1).trans rfl
  have z1 : y0.frozen? ⟨g, 1, none⟩ = false := blk_frozen hg_ 1
  clear hg_
  go_cut [4] (fun v4 wc => v4 = .int .i64 3 ∧ Aside0 (RwSt w wc g base xs b2 true key true val t o))
  case first =>
    go_wp2
    all_goals
      go_meet
      case rel => exact ⟨by rfl, ⟨S0.out.turn2 HL.out HGE.out _ (by rw [HB2.out]; unfold recO; first | rfl | (simp [*]; done) | (simp [*, Bool.or_assoc]; done) | (simp [*, bne]; done))⟩⟩
  clear S0 n0_ n1_ n2_ n3_ n4_ n5_ q1 z1
  obtain ⟨rfl, S1⟩ := hcut
  go_wp2_with fail
  refine (wr_number g base xs b2 3 1 _ S1.out.1 HGE.out (Nat.le_trans HB.out S1.out.2.2.below.size) (by decide) (by decide) (by have := HX.out; omega)).mono ?_
  rintro e w1 ⟨rfl, h1, h2⟩
  obtain ⟨x1, hx1⟩ : ∃ x, x = xs ++ nb 3 1 := ⟨_, rfl⟩
  have X1 := Aside0.mk hx1
  have L1 := Aside0.mk (show x1.length = xs.length + 1 from by rw [hx1]; rw [List.length_append, nb_len])
  rw [← hx1] at h1
  have S2 := Aside0.mk (S1.out.step HL.out h1 h2)
  clear h1 h2 hx1 S1
  obtain ⟨n0_, n1_, n2_, n3_, n4_, n5_⟩ := S2.out.cells
  go_wp2_with fail
  refine (wr_text g base x1 b2 key _ S2.out.1 HGE.out (Nat.le_trans HB.out S2.out.2.2.below.size) (by have := L1.out; have := HX.out; omega)).mono ?_
  rintro e w2 ⟨rfl, h1, h2⟩
  obtain ⟨x2, hx2⟩ : ∃ x, x = x1 ++ (nb (key.size : Nat) 2 ++ bytesOf key) := ⟨_, rfl⟩
  have X2 := Aside0.mk hx2
  have L2 := Aside0.mk (show x2.length = x1.length + (2 + key.size) from by rw [hx2]; rw [List.length_append, List.length_append, nb_len, bytesOf_length])
  rw [← hx2] at h1
  obtain ⟨c2, hc2⟩ : ∃ b, b = (b2 || decide (65535 < key.size)) := ⟨_, rfl⟩
  have C2 := Aside0.mk hc2
  rw [← hc2] at h1
  clear hc2
  have S3 := Aside0.mk (S2.out.step HL.out h1 h2)
  clear h1 h2 hx2 S2
  obtain ⟨n0_, n1_, n2_, n3_, n4_, n5_⟩ := S3.out.cells
  go_wp2_with fail
  refine (wr_text g base x2 c2 val _ S3.out.1 HGE.out (Nat.le_trans HB.out S3.out.2.2.below.size) (by have := L1.out; have := L2.out; have := HX.out; omega)).mono ?_
  rintro e w3 ⟨rfl, h1, h2⟩
  obtain ⟨x3, hx3⟩ : ∃ x, x = x2 ++ (nb (val.size : Nat) 2 ++ bytesOf val) := ⟨_, rfl⟩
  have X3 := Aside0.mk hx3
  have L3 := Aside0.mk (show x3.length = x2.length + (2 + val.size) from by rw [hx3]; rw [List.length_append, List.length_append, nb_len, bytesOf_length])
  rw [← hx3] at h1
  obtain ⟨c3, hc3⟩ : ∃ b, b = (c2 || decide (65535 < val.size)) := ⟨_, rfl⟩
  have C3 := Aside0.mk hc3
  rw [← hc3] at h1
  clear hc3
  have S4 := Aside0.mk (S3.out.step HL.out h1 h2)
  clear h1 h2 hx3 S3
  obtain ⟨n0_, n1_, n2_, n3_, n4_, n5_⟩ := S4.out.cells
  go_wp2_with fail
  refine (wr_number g base x3 c3 t 8 _ S4.out.1 HGE.out (Nat.le_trans HB.out S4.out.2.2.below.size) (by decide) (by decide) (by have := L1.out; have := L2.out; have := L3.out; have := HX.out; omega)).mono ?_
  rintro e w4 ⟨rfl, h1, h2⟩
  obtain ⟨x4, hx4⟩ : ∃ x, x = x3 ++ nb t 8 := ⟨_, rfl⟩
  have X4 := Aside0.mk hx4
  have L4 := Aside0.mk (show x4.length = x3.length + 8 from by rw [hx4]; rw [List.length_append, nb_len])
  rw [← hx4] at h1
  have S5 := Aside0.mk (S4.out.step HL.out h1 h2)
  clear h1 h2 hx4 S4
  obtain ⟨n0_, n1_, n2_, n3_, n4_, n5_⟩ := S5.out.cells
  go_wp2_with fail
  refine bodyPost_end (v := .tuple #[]) (by simp [results, Try.results47, go_sem]) rfl ?_
  refine ⟨rfl, ?_, S5.out.2.2⟩
  have h_ := S5.out.1
  rw [X4.out, X3.out, X2.out, X1.out] at h_
  unfold recW recB
  rw [C3.out, C2.out, HB2.out] at h_
  simpa [Bool.or_assoc] using h_
theorem wr_record (g base : Nat) (xs : List Int) (bad : Bool) (hk : Bool) (key : ByteArray) (hv : Bool) (val : ByteArray) (t o : Int) (w : World) (hF : Wr w g base xs bad) (hg : base ≤ g) (hb : base ≤ w.heap.size) (hx : xs.length + (key.size + val.size) ≤ 800000000) :
    Calls Try.prog 47 #[.pointer (some ⟨g, 0, none⟩), .agg #[.bool hk, .string key, .bool hv, .string val, .int .i64 t, .int .i64 o]] w fun e w' => e = .returned (.tuple #[]) ∧ Wr w' g base (xs ++ recW hk key hv val t) (bad || recB hk key hv val o) ∧ KeepW w w' g base := by
  cases hk <;> cases hv
  · exact wr_record0 g base xs bad key val t o w hF hg hb hx
  · exact wr_record2 g base xs bad key val t o w hF hg hb hx
  · exact wr_record1 g base xs bad key val t o w hF hg hb hx
  · exact wr_record3 g base xs bad key val t o w hF hg hb hx

end Go.Proofs.Ytncfofnikmfjbaa.PCi

namespace Go.Proofs.Ytncfofnikmfjbaa.PCi
open Go.RowKit Go.Proofs.YtncfofnikmfjbaaW.PrintWords Go.Proofs.YtncfofnikmfjbaaW.PrintLast Go.Proofs.YtncfofnikmfjbaaW.PrintMore
attribute [local go_sem] max2_int min2_int max_two min_two max_three min_three max_four min_four
set_option linter.unusedVariables false
set_option linter.unusedSimpArgs false

/-- A list, one after another, until it is over. -/
def lw {α : Type} (one : α → List Int) (ob : α → Bool) : List α → List Int → Bool → List Int × Bool
  | [], xs, b => (xs, b)
  | x :: l, xs, b => if b = true then (xs, b) else lw one ob l (xs ++ one x) (b || ob x)
theorem lw_bad {α : Type} (one : α → List Int) (ob : α → Bool) (l : List α) (xs : List Int) : lw one ob l xs true = (xs, true) := by cases l <;> rfl
theorem drop_rd {α : Type} (z : α) {l : List α} {i : Int} (h0 : 0 ≤ i) (h : i < (l.length : Int)) : l.drop i.toNat = l.getD i.toNat z :: l.drop (i + 1).toNat := by
  have e : (i + 1).toNat = i.toNat + 1 := by omega
  have hl : i.toNat < l.length := by omega
  rw [List.drop_eq_getElem_cons hl, e]
  congr 1
  rw [List.getD_eq_getElem?_getD, List.getElem?_eq_getElem hl]
  rfl
theorem sum_mem {α : Type} (f : α → Nat) {l : List α} {i : Int} (z : α) (h0 : 0 ≤ i) (h : i < (l.length : Int)) : ((l.drop i.toNat).map f).sum = f (l.getD i.toNat z) + ((l.drop (i + 1).toNat).map f).sum := by rw [drop_rd z h0 h]; simp
def rec1 (x : S98) : List Int := recW x.f0 x.f1 x.f2 x.f3 x.f4
def rec2 (x : S98) : Bool := recB x.f0 x.f1 x.f2 x.f3 x.f5
def recN (x : S98) : Nat := 13 + (x.f1.size + x.f3.size)
theorem recW_len (x : S98) : (rec1 x).length ≤ recN x := by
  unfold rec1 recW recN
  cases x.f0 <;> cases x.f2 <;> simp [nb_len, bytesOf_length] <;> omega
set_option maxHeartbeats 4000000 in
set_option maxRecDepth 100000 in
theorem wr_listR (g base : Nat) (xs : List Int) (bad : Bool) (A : Option Addr) (c : Nat) (l : List S98) (ys : List Int) (b2 : Bool) (w : World) (hF : Wr w g base xs bad) (hg : base ≤ g) (hb : base ≤ w.heap.size) (hl : ∀ W, Below base w W → Kd.C k98 W A l.length l) (hx : xs.length + (l.map recN).sum ≤ 700000000) (hs : lw rec1 rec2 l (xs ++ nb (l.length : Nat) 2) (bad || decide (65535 < l.length)) = (ys, b2)) :
    Calls Try.prog 46 #[.pointer (some ⟨g, 0, none⟩), .slice A l.length c, .func (Fn.func 47) #[.pointer (some ⟨g, 0, none⟩)] #[]] w fun e w' => e = .returned (.tuple #[]) ∧ Wr w' g base ys b2 ∧ KeepW w w' g base := by
  have HF := Aside0.mk hF
  have HGE := Aside0.mk hg
  have HB := Aside0.mk hb
  have HX := Aside0.mk hx
  have HL := Aside0.mk hl
  have HS := Aside0.mk hs
  have LM := Aside0.mk (show (l.length : Int) ≤ 9223372036854775807 by have := (hl w (Below.refl _ _)).2.1; omega)
  clear hF hg hb hx hl hs
  go_enter Try.func46, Try.ntmps46
  go_wp2_with fail
  refine (wr_many g base xs bad l.length w HF.out HGE.out HB.out (by have := HX.out; omega)).mono ?_
  rintro e y ⟨rfl, h1, h2⟩
  have H1 := Aside0.mk h1
  have H2 := Aside0.mk h2
  clear h1 h2 HF
  go_wp2_with fail
  go_loopg [14] (l.length + 1) (fun kq v14 w' => ∃ (i : Int) (zs : List Int) (b : Bool), v14 = .int .i64 i ∧ Aside0 (kq + i.toNat = l.length + 1 ∧ 0 ≤ i ∧ i ≤ (l.length : Int)) ∧ Aside0 (lw rec1 rec2 (l.drop i.toNat) zs b = (ys, b2)) ∧ Aside0 (zs.length + ((l.drop i.toNat).map recN).sum ≤ 700000002) ∧ Aside0 (Wr w' g base zs b) ∧ Aside0 (KeepW w w' g base))
  case atStart => exact ⟨0, _, _, rfl, ⟨by simp, by omega, by omega⟩, HS, ⟨by rw [List.length_append, nb_len]; have := HX.out; simp only [Int.toNat_zero, List.drop_zero]; omega⟩, H1, H2⟩
  case round =>
    obtain ⟨i, zs, b, rfl, HI, HA, HN, HW, HK⟩ := hrel
    clear HS H1 H2 HX
    by_cases hi : i < (l.length : Int)
    · have d1 : decide (i < (l.length : Int)) = true := decide_eq_true hi
      have h0 := HI.out.2.1
      obtain ⟨ad, ea, x0, x1, x2, x3, x4, x5⟩ := at_T98 (HL.out wr HK.out.below) i h0 hi
      cases ea
      skip
      have p1 := eq_true h0
      have p2 := eq_true hi
      have HE := Aside0.mk (show lw rec1 rec2 (l.getD i.toNat z98 :: l.drop (i + 1).toNat) zs b = (ys, b2) from by rw [← drop_rd z98 h0 hi]; exact HA.out)
      have HM := Aside0.mk (sum_mem recN z98 h0 hi)
      have e1 : IntKind.i64.wrap (i + 1) = i + 1 := (i64_w _).trans (by have := LM.out; unfold wrap64; omega)
      have HI2 := Aside0.mk hi
      clear hi h0
      have K1 := Aside0.mk (KeepW.of_below (g := g) (below_alloc (Below.refl wr.heap.size wr) (.cells #[.bool (rd_T98 l i).f0, .string (rd_T98 l i).f1, .bool (rd_T98 l i).f2, .string (rd_T98 l i).f3, .int .i64 (rd_T98 l i).f4, .int .i64 (rd_T98 l i).f5] 98)) (Nat.le_trans HB.out HK.out.below.size))
      have W1 := Aside0.mk (HW.out.below (below_alloc (Below.refl wr.heap.size wr) (.cells #[.bool (rd_T98 l i).f0, .string (rd_T98 l i).f1, .bool (rd_T98 l i).f2, .string (rd_T98 l i).f3, .int .i64 (rd_T98 l i).f4, .int .i64 (rd_T98 l i).f5] 98)))
      obtain ⟨Aw, cw, hgw, hrw⟩ := W1.out
      have qw := (blk_cell hgw 1).trans rfl
      clear hgw hrw
      cases b with
      | true =>
        go_wp2_with fail
        refine bodyPost_ret (v := .tuple #[]) (by simp [results, Try.results46, go_sem]) rfl ?_
        have h_ := HA.out
        rw [lw_bad, Prod.mk.injEq] at h_
        obtain ⟨rfl, rfl⟩ := h_
        exact ⟨rfl, W1.out, HK.out.trans K1.out⟩
      | false =>
        go_wp2_with fail
        refine (wr_record g base zs false (rd_T98 l i).f0 (rd_T98 l i).f1 (rd_T98 l i).f2 (rd_T98 l i).f3 (rd_T98 l i).f4 (rd_T98 l i).f5 _ W1.out HGE.out (Nat.le_trans HB.out (HK.out.trans K1.out).below.size) (by have := HN.out; rw [HM.out] at this; unfold recN at this; unfold rd_T98; omega)).mono ?_
        rintro e w2 ⟨rfl, h1, h2⟩
        have W2 := Aside0.mk h1
        have K2 := Aside0.mk (HK.out.trans (K1.out.trans h2))
        clear h1 h2 HW HK
        go_wp2_with fail
        go_roundg (l.length + 1 - (i + 1).toNat)
        case measure => have := HI.out; have := HI2.out; omega
        case rel => exact ⟨i + 1, _, _, by first | rfl | (rw [e1]), ⟨by have := HI.out; have := HI2.out; omega, by have := HI.out; omega, by have := HI2.out; omega⟩, ⟨by have h_ := HE.out; rw [lw, if_neg (by simp)] at h_; exact h_⟩, ⟨by have := HN.out; rw [HM.out] at this; have := recW_len (l.getD i.toNat z98); rw [List.length_append]; change zs.length + (rec1 (l.getD i.toNat z98)).length + _ ≤ _; omega⟩, W2, K2⟩
    · have d1 : decide (i < (l.length : Int)) = false := decide_eq_false hi
      go_wp2_with fail
      refine bodyPost_end (v := .tuple #[]) (by simp [results, Try.results46, go_sem]) rfl ?_
      have h_ := HA.out
      rw [List.drop_eq_nil_of_le (by have := HI.out; omega)] at h_
      simp only [lw, Prod.mk.injEq] at h_
      obtain ⟨rfl, rfl⟩ := h_
      exact ⟨rfl, HW.out, HK.out⟩

end Go.Proofs.Ytncfofnikmfjbaa.PCi
