import Derived.Test.YtncfofnikmfjbaaQCf4
import Derived.Test.YtncfofnikmfjbaaQPCix6
import Derived.Outline
import Derived.StillTailTactics
import Derived.RegionTactic
import Derived.BigRegion
import Derived.Lib.BufferWrite
namespace Go.Proofs.Ytncfofnikmfjbaa.PCi
open Go.RowKit Go.Proofs.YtncfofnikmfjbaaW.PrintWords Go.Proofs.YtncfofnikmfjbaaW.PrintLast Go.Proofs.YtncfofnikmfjbaaW.PrintMore
attribute [local go_sem] max2_int min2_int max_two min_two max_three min_three max_four min_four
set_option linter.unusedVariables false
set_option linter.unusedSimpArgs false

/-! ### bollardref20.Pen -/
theorem bref_lay (v : Nat) (n : Nat) (hn : n ≤ 8) : ∀ (k : Nat) (x : List Int), x.length + n ≤ 2000000000 → n + 1 ≤ k → bollardref1_Lay.l0 k x (v : Int) ((n : Int) - 1) = some (x ++ Bp.beL v n) := by
  induction n with
  | zero =>
    intro k x hx hk
    obtain ⟨K, rfl⟩ : ∃ K, k = K + 1 := ⟨k - 1, by omega⟩
    simp only [bollardref1_Lay.l0]
    rw [if_neg (by omega)]
    simp [Bp.beL]
  | succ n ih =>
    intro k x hx hk
    obtain ⟨K, rfl⟩ : ∃ K, k = K + 1 := ⟨k - 1, by omega⟩
    simp only [bollardref1_Lay.l0]
    have e8 : wrap64 (8 * (((n + 1 : Nat) : Int) - 1)) = 8 * (n : Int) := by unfold wrap64; omega
    have e9 : wrap64 ((((n + 1 : Nat) : Int) - 1) - 1) = (n : Int) - 1 := by unfold wrap64; omega
    rw [if_pos (by omega), e8, if_pos (by omega), if_pos (by omega), e9, Bp.dg_shr v n (by omega), ih (by omega) K _ (by simp only [List.length_append, List.length_cons, List.length_nil]; omega) (by omega), List.append_assoc]
    rfl
theorem lay_nb (x : List Int) (m : Nat) (h1 : 1 ≤ m) (h8 : m ≤ 8) (v : Int) (hx : x.length ≤ 1000000000) : bollardref1_Lay.f 9 x (m : Int) (IntKind.u64.wrap v) = some (x ++ nb v m) := by
  have hv : IntKind.u64.wrap v = (((v % 18446744073709551616).toNat : Nat) : Int) := by rw [IntKind.wrap_u64]; omega
  unfold bollardref1_Lay.f
  rw [hv, show wrap64 ((m : Int) - 1) = (m : Int) - 1 from by unfold wrap64; omega]
  exact bref_lay _ m h8 9 x (by omega) (by omega)
/-- A pen at block g: its bytes, is it bad? -/
def Pn (W : World) (g base : Nat) (xs : List Int) (bad : Bool) : Prop := ∃ A c, W.heap[g]? = some (.cells #[.slice A xs.length c, .bool bad] 82 (0, 0)) ∧ Kd.R (Kd.int .u8) 5 W base (fun _ => True) (.slice A xs.length c) xs
theorem Pn.mk' {W : World} {g base : Nat} {v : Value} {xs : List Int} {bad : Bool} (h : W.heap[g]? = some (.cells #[v, .bool bad] 82 (0, 0))) (hr : Kd.R (Kd.int .u8) 5 W base (fun _ => True) v xs) : Pn W g base xs bad := by
  obtain ⟨A, c, rfl⟩ := Kd.R_slice hr
  exact ⟨A, c, h, hr⟩
theorem Pn.bad {W : World} {g base : Nat} {xs : List Int} {bad : Bool} (h : Pn W g base xs bad) (b : Bool) : Pn (W.setCell ⟨g, 1, none⟩ (.bool b)) g base xs b := by
  obtain ⟨A, c, h1, h2⟩ := h
  exact ⟨A, c, by simpa using blk_set h1 1 (.bool b), Kd.R_set h2 h1 (by decide) 1 _⟩
theorem Pn.below {W W1 : World} {g base : Nat} {xs : List Int} {bad : Bool} (h : Pn W g base xs bad) (hb : Below W.heap.size W W1) : Pn W1 g base xs bad := by
  obtain ⟨A, c, h1, h2⟩ := h
  exact ⟨A, c, blk_below h1 hb, Kd.R_below h2 hb⟩
theorem Pn.lt {w : World} {g base : Nat} {xs : List Int} {bad : Bool} (h : Pn w g base xs bad) : g < w.heap.size := by
  obtain ⟨A, c, h1, _⟩ := h
  exact blk_lt h1
theorem pn_lay (w0 : World) (g : Nat) (xs : List Int) (bad : Bool) (v : Int) (m : Nat) (w : World) (A : Option Addr) (c : Nat) (hB : Below w0.heap.size w0 w) (hF : w.heap[g]? = some (.cells #[.slice A xs.length c, .bool bad] 82 (0, 0))) (hr : Kd.R (Kd.int .u8) 5 w w0.heap.size (fun _ => True) (.slice A xs.length c) xs) (h1 : 1 ≤ m) (h8 : m ≤ 8) (hx : xs.length ≤ 1000000000) :
    Calls Try.prog 33 #[.slice A xs.length c, .int .i64 (m : Int), .int .u64 (IntKind.u64.wrap v)] w fun e w' => (∃ A2 c2, e = .returned (.slice A2 (xs ++ nb v m).length c2) ∧ Kd.R (Kd.int .u8) 5 w' w0.heap.size (fun _ => True) (.slice A2 (xs ++ nb v m).length c2) (xs ++ nb v m)) ∧ w'.heap[g]? = some (.cells #[.slice A xs.length c, .bool bad] 82 (0, 0)) ∧ KeepW w w' g w0.heap.size := by
  have hb := Kd.R_bound hr
  refine (bollardref1_Lay.calls 9 _ _ xs (m : Int) (IntKind.u64.wrap v) (xs ++ nb v m) w0 w hB hb (lay_nb xs m h1 h8 v hx)).mono ?_
  rintro e w' ⟨v0, rfl, ho, hb', hk⟩
  obtain ⟨A2, c2, rfl⟩ := Kd.R_slice ho
  have hst : ∀ i o, w.heap[i]? = some o → ¬ (w0.heap.size ≤ i ∧ IsU8 o) → w'.heap[i]? = some o := fun i o hi hn => by
    rw [hk.2 i (blk_lt hi) (fun hp => ?_)]
    · exact hi
    · obtain ⟨_, h2, _, q, hq, cells, hc⟩ := hp
      rw [hi] at hc
      have hq5 : q = 5 := by simpa [Kd.int, Kd.scalar] using hq
      subst hq5
      exact hn ⟨h2, cells, (0, 0), Option.some.inj hc⟩
  refine ⟨⟨A2, c2, rfl, Kd.R_mono ho (fun _ _ => trivial)⟩, hst _ _ hF (fun ⟨_, c_, f_, e_⟩ => absurd (by injection e_ : (82 : Nat) = 5) (by decide)), ?_, fun i o _ hi hn => hst i o hi hn⟩
  exact ⟨hb'.os.trans hB.os.symm, hb'.tape.trans hB.tape.symm, hb'.output.trans hB.output.symm, hk.1, fun k h_ => (hb'.block k h_).trans (hB.block k h_).symm⟩
set_option maxHeartbeats 4000000 in
set_option maxRecDepth 100000 in
theorem pn_short (w0 : World) (g : Nat) (xs : List Int) (bad : Bool) (n : Nat) (w : World) (hF : Pn w g w0.heap.size xs bad) (hg : w0.heap.size ≤ g) (hB : Below w0.heap.size w0 w) (hx : xs.length ≤ 1000000000) :
    Calls Try.prog 60 #[.pointer (some ⟨g, 0, none⟩), .int .i64 (n : Int)] w fun e w' => e = .returned (.tuple #[]) ∧ Pn w' g w0.heap.size (xs ++ nb n 2) (bad || decide (65535 < n)) ∧ KeepW w w' g w0.heap.size := by
  obtain ⟨A, c, hg_, hr⟩ := hF
  have HR := Aside0.mk hr
  have HG := Aside0.mk hg_
  have HGE := Aside0.mk hg
  have HB := Aside0.mk hB
  have HX := Aside0.mk hx
  clear hr hg_ hg hB hx
  have q0 : w.cell? ⟨g, 0, none⟩ = some (.slice A xs.length c) := (blk_cell HG.out 0).trans rfl
  have q1 : w.cell? ⟨g, 1, none⟩ = some (.bool bad) := (blk_cell HG.out 1).trans rfl
  have z0 : w.frozen? ⟨g, 0, none⟩ = false := blk_frozen HG.out 0
  have z1 : w.frozen? ⟨g, 1, none⟩ = false := blk_frozen HG.out 1
  by_cases hn : 65535 < n
  · have d1 : decide ((65535 : Int) < (n : Int)) = true := decide_eq_true (by omega)
    have HE := Aside0.mk (show true = (bad || decide (65535 < n)) from by simp [hn])
    clear hn
    have HW := Aside0.mk (show (w.setCell ⟨g, 1, none⟩ (.bool true)).heap[g]? = some (.cells #[.slice A xs.length c, .bool true] 82 (0, 0)) ∧ Kd.R (Kd.int .u8) 5 (w.setCell ⟨g, 1, none⟩ (.bool true)) w0.heap.size (fun _ => True) (.slice A xs.length c) xs from ⟨by simpa using blk_set HG.out 1 (.bool true), Kd.R_set HR.out HG.out (by decide) 1 _⟩)
    have HK := Aside0.mk ((KeepW.refl w g w0.heap.size).set HGE.out 1 (.bool true))
    go_enter Try.func60, Try.ntmps60
    go_wp2_with fail
    generalize w.setCell ⟨g, 1, none⟩ (.bool true) = w1 at HW HK ⊢
    refine (pn_lay w0 g xs true (n : Int) 2 w1 A c (HB.out.trans HK.out.below) HW.out.1 HW.out.2 (by decide) (by decide) HX.out).mono ?_
    rintro e w2 ⟨⟨A2, c2, rfl, hr⟩, hg2, hk⟩
    have HR3 := Aside0.mk hr
    have HG3 := Aside0.mk hg2
    have HK3 := Aside0.mk (HK.out.trans hk)
    clear q0 q1 z0 z1
    have z0 : w2.frozen? ⟨g, 0, none⟩ = false := blk_frozen hg2 0
    have q0 : w2.cell? ⟨g, 0, none⟩ = some (.slice A xs.length c) := (blk_cell hg2 0).trans rfl
    clear hr hg2 hk
    go_wp2_with fail
    refine bodyPost_end (v := .tuple #[]) (by simp [results, Try.results60, go_sem]) rfl ?_
    exact ⟨rfl, HE.out ▸ Pn.mk' (by simpa using blk_set HG3.out 0 (.slice A2 (xs ++ nb n 2).length c2)) (Kd.R_set HR3.out HG3.out (by decide) 0 _), HK3.out.set HGE.out 0 _⟩
  · have d1 : decide ((65535 : Int) < (n : Int)) = false := decide_eq_false (by omega)
    have HE := Aside0.mk (show bad = (bad || decide (65535 < n)) from by simp [hn])
    clear hn
    go_enter Try.func60, Try.ntmps60
    go_wp2_with fail
    refine (pn_lay w0 g xs bad (n : Int) 2 w A c HB.out HG.out HR.out (by decide) (by decide) HX.out).mono ?_
    rintro e w2 ⟨⟨A2, c2, rfl, hr⟩, hg2, hk⟩
    have HR3 := Aside0.mk hr
    have HG3 := Aside0.mk hg2
    have HK3 := Aside0.mk hk
    clear q0 q1 z0 z1
    have z0 : w2.frozen? ⟨g, 0, none⟩ = false := blk_frozen hg2 0
    have q0 : w2.cell? ⟨g, 0, none⟩ = some (.slice A xs.length c) := (blk_cell hg2 0).trans rfl
    clear hr hg2 hk
    go_wp2_with fail
    refine bodyPost_end (v := .tuple #[]) (by simp [results, Try.results60, go_sem]) rfl ?_
    exact ⟨rfl, HE.out ▸ Pn.mk' (by simpa using blk_set HG3.out 0 (.slice A2 (xs ++ nb n 2).length c2)) (Kd.R_set HR3.out HG3.out (by decide) 0 _), HK3.out.set HGE.out 0 _⟩
set_option maxHeartbeats 4000000 in
set_option maxRecDepth 100000 in
theorem pn_text (w0 : World) (g : Nat) (xs : List Int) (bad : Bool) (s : ByteArray) (w : World) (hF : Pn w g w0.heap.size xs bad) (hg : w0.heap.size ≤ g) (hB : Below w0.heap.size w0 w) (hx : xs.length + s.size ≤ 900000000) :
    Calls Try.prog 58 #[.pointer (some ⟨g, 0, none⟩), .string s] w fun e w' => e = .returned (.tuple #[]) ∧ Pn w' g w0.heap.size (xs ++ (nb (s.size : Nat) 2 ++ bytesOf s)) (bad || decide (65535 < s.size)) ∧ KeepW w w' g w0.heap.size := by
  have HF := Aside0.mk hF
  have HGE := Aside0.mk hg
  have HB := Aside0.mk hB
  have HX := Aside0.mk hx
  obtain ⟨b2, hb2⟩ : ∃ b, b = (bad || decide (65535 < s.size)) := ⟨_, rfl⟩
  have HB2 := Aside0.mk hb2
  rw [← hb2]
  clear hF hg hB hx hb2
  go_enter Try.func58, Try.ntmps58
  go_wp2_with fail
  refine (pn_short w0 g xs bad s.size w HF.out HGE.out HB.out (by have := HX.out; omega)).mono ?_
  rintro e y ⟨rfl, h1, h2⟩
  rw [← HB2.out] at h1
  obtain ⟨vs, hvs⟩ : ∃ vs, vs = xs ++ nb (s.size : Nat) 2 := ⟨_, rfl⟩
  have HVS := Aside0.mk hvs
  have HVL := Aside0.mk (show vs.length = xs.length + 2 from by rw [hvs, List.length_append, nb_len])
  rw [← hvs] at h1
  have HF1 := Aside0.mk h1
  have HK1 := Aside0.mk h2
  clear h1 h2 hvs
  obtain ⟨A1, c1, hg1, hr1⟩ := HF1.out
  have HR1 := Aside0.mk hr1
  have HG1 := Aside0.mk hg1
  have q0 : y.cell? ⟨g, 0, none⟩ = some (.slice A1 vs.length c1) := (blk_cell hg1 0).trans rfl
  have q1 : y.cell? ⟨g, 1, none⟩ = some (.bool b2) := (blk_cell hg1 1).trans rfl
  have z0 : y.frozen? ⟨g, 0, none⟩ = false := blk_frozen hg1 0
  have z1 : y.frozen? ⟨g, 1, none⟩ = false := blk_frozen hg1 1
  clear hg1 hr1
  obtain ⟨ws, hws⟩ : ∃ ws, ws = vs ++ bytesOf s := ⟨_, rfl⟩
  have HWS := Aside0.mk hws
  clear hws
  go_wp2_with ((with_reducible refine gate_builtin (b := .append) (xs := #[.tmp 12, .tmp 13]) rfl ?_); at_builtin; refine Kd.R_append_str (w0 := w) w0.heap.size rfl (.tmp 12) _ 29 9 5 rfl Try.underlying29 Try.underlying9 info_u8 (.slice A1 vs.length c1) vs s (fun _ => True) rfl rfl (fun _ _ => trivial) HR1.out HK1.out.below (Nat.le_trans HB.out.size HK1.out.below.size) ?aL ?_; (case aL => have := HX.out; have := HVL.out; omega); intro v2 w2 ho hb hg_ hat; rw [← HWS.out] at ho; obtain ⟨A2, c2, e2⟩ := Kd.R_slice ho; subst e2; have HO2 := Aside0.mk ho; have HK2 := Aside0.mk (HK1.out.grown HR1.out hg_ hb); have hG2 := hg_.block g (blk_lt HG1.out) (Kd.R_ne HR1.out HG1.out (by decide)); rw [HG1.out] at hG2; have HG2 := Aside0.mk hG2; have z0 : w2.frozen? ⟨g, 0, none⟩ = false := blk_frozen hG2 0; have q0 : w2.cell? ⟨g, 0, none⟩ = some (.slice A1 vs.length c1) := (blk_cell hG2 0).trans rfl; clear ho hb hg_ hat hG2)
  refine bodyPost_end (v := .tuple #[]) (by simp [results, Try.results58, go_sem]) rfl ?_
  refine ⟨rfl, ?_, HK2.out.set HGE.out 0 _⟩
  rw [← List.append_assoc, ← HVS.out, ← HWS.out]
  exact Pn.mk' (by simpa using blk_set HG2.out 0 (.slice A2 ws.length c2)) (Kd.R_set HO2.out HG2.out (by decide) 0 _)

end Go.Proofs.Ytncfofnikmfjbaa.PCi
