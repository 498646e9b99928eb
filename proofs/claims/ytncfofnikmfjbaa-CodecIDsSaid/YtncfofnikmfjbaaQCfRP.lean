import Derived.Test.YtncfofnikmfjbaaQCfRt
import Derived.Outline
import Derived.StillTailTactics
import Derived.RegionTactic
import Derived.BigRegion
import Derived.Lib.BufferWrite
namespace Go.Proofs.Ytncfofnikmfjbaa.PCi
open Go.RowKit Go.Proofs.YtncfofnikmfjbaaW.PrintWords Go.Proofs.YtncfofnikmfjbaaW.PrintLast Go.Proofs.YtncfofnikmfjbaaW.PrintMore
attribute [local go_sem] max2_int min2_int max_two min_two max_three min_three max_four min_four
set_option linter.unusedVariables false
set_option linter.unusedSimpArgs false

/-! ### codec.ParseResponse, nought but its head -/
def rsM (k i c : Int) : Msg := { msg0 with akind := k, aid := i, acode := c }
def Msg.res (m : Msg) : Array Value := #[.int .i64 m.akind, .int .i64 m.aid, .int .i64 m.acode, .int .i64 m.aoff, .int .i64 m.astart, .int .i64 m.anext, m.u2, m.u3, m.u4]
def RFd (f : Int) : Prop := f = 11 ∨ f = 14 ∨ f = 15 ∨ f = 17 ∨ f = 18 ∨ f = 19
def zF (f : Int) : List Int := if f = 17 ∨ f = 18 ∨ f = 19 then nb 0 2 else nb 0 8
def rsB (k i c : Int) (L : List Int) : List Int := nb k 1 ++ (nb i 4 ++ (nb c 1 ++ (L.map zF).flatten))
theorem told_fields {k c : Int} : ∀ x ∈ (told.f k c).getD [], RFd x := by
  intro x hx
  unfold told.f at hx
  split at hx
  · cases hx
  split at hx
  · cases hx
  cases h : codec_fields.f 1 k with
  | none => rw [h] at hx; cases hx
  | some L =>
    rw [h] at hx
    obtain ⟨e, h1, h2, _, rfl⟩ := fields_mem h
    exact (by decide : ∀ e ∈ wayT, e.1 = 1 → ∀ x ∈ e.2.2, (x = 11 ∨ x = 14 ∨ x = 15 ∨ x = 17 ∨ x = 18 ∨ x = 19)) e h1 h2 x hx
structure RsSt (u w W : World) (g h : Nat) (m : Msg) (l : List Int) : Prop where
  rd : Rd u W g l false
  ms : ∃ v2 v3, MsAt W h { m with u2 := v2, u3 := v3 } ∧ Kd.R Kd.string 9 W u.heap.size (fun x => x ≠ g ∧ x ≠ h) v2 [] ∧ Kd.R (Kd.int .i64) 3 W u.heap.size (fun x => x ≠ g ∧ x ≠ h) v3 []
  keep : KeepM w W g h u.heap.size
theorem RsSt.read {u w0 w w1 : World} {g h : Nat} {m : Msg} {l l1 : List Int} (hs : RsSt u w0 w g h m l) (hgh : g ≠ h) (h3 : Rd u w1 g l1 false) (h4 : KeepR w w1 g u.heap.size) : RsSt u w0 w1 g h m l1 := by
  obtain ⟨_, ⟨v2, v3, hm, h2, h3_⟩, hk⟩ := hs
  exact ⟨h3, ⟨v2, v3, h4.keep _ _ (Ne.symm hgh) hm, KeepM.R h2 (h4.M h), KeepM.R h3_ (h4.M h)⟩, hk.trans (h4.M h)⟩
theorem RsSt.set {u w0 w : World} {g h : Nat} {m m2 : Msg} {l : List Int} (hs : RsSt u w0 w g h m l) (hgh : g ≠ h) (hh : u.heap.size ≤ h) (j : Nat) (x : Value) (e : ∀ v2 v3, Array.setIfInBounds (Msg.cells { m with u2 := v2, u3 := v3 }) j x = Msg.cells { m2 with u2 := v2, u3 := v3 }) : RsSt u w0 (w.setCell ⟨h, j, none⟩ x) g h m2 l := by
  obtain ⟨hr, ⟨v2, v3, hm, h2, h3⟩, hk⟩ := hs
  exact ⟨hr.far hgh _ _, ⟨v2, v3, hm.set (e v2 v3), Kd.R_set h2 hm (by decide) j x, Kd.R_set h3 hm (by decide) j x⟩, hk.setH hh _ _⟩
theorem RsSt.again {u w0 w : World} {g h : Nat} {m : Msg} {l : List Int} (hs : RsSt u w0 w g h m l) : RsSt u w w g h m l := ⟨hs.1, hs.2, KeepM.refl _ _ _ _⟩
theorem RsSt.cell {u w0 w : World} {g h : Nat} {m : Msg} {l : List Int} (hs : RsSt u w0 w g h m l) (j : Nat) (hj : j ≠ 23) (hj2 : j ≠ 24) : w.cell? ⟨h, j, none⟩ = m.cells[j]? ∧ w.frozen? ⟨h, j, none⟩ = false := by
  obtain ⟨_, ⟨v2, v3, hm, _⟩, _⟩ := hs
  refine ⟨(hm.cell j).trans ?_, hm.free j⟩
  have : Msg.cells { m with u2 := v2, u3 := v3 } = (m.cells.setIfInBounds 23 v2).setIfInBounds 24 v3 := rfl
  rw [this, Array.getElem?_setIfInBounds_ne (Ne.symm hj2), Array.getElem?_setIfInBounds_ne (Ne.symm hj)]
theorem z_list {α : Type} (one : List Int → Bool → α × List Int × Bool) (l : List Int) : rdList one (nb 0 2 ++ l) false = ([], l, false) := by
  unfold rdList
  rw [rt_small2 0 (by decide) (by decide)]
  rfl
set_option maxHeartbeats 4000000 in
theorem rs_field (u : World) (g h : Nat) (f k i c : Int) (l : List Int) (w0 w : World) (hs : RsSt u w0 w g h (rsM k i c) (zF f ++ l)) (hg : u.heap.size ≤ g) (hh : u.heap.size ≤ h) (hgh : g ≠ h) (hu : Below u.heap.size u w0) (hf : RFd f) :
    Calls Try.prog 37 #[.pointer (some ⟨g, 0, none⟩), .pointer (some ⟨h, 0, none⟩), .int .i64 1, .int .i64 f] w fun e w' => e = .returned (.tuple #[]) ∧ RsSt u w0 w' g h (rsM k i c) l := by
  obtain ⟨hr, ⟨v2, v3, hm, h2, h3⟩, hk⟩ := hs
  have hu2 := hu.trans hk.below
  have num : ∀ f, f = 11 ∨ f = 14 ∨ f = 15 → Rd u w g (nb 0 8 ++ l) false → Calls Try.prog 37 #[.pointer (some ⟨g, 0, none⟩), .pointer (some ⟨h, 0, none⟩), .int .i64 1, .int .i64 f] w fun e w' => e = .returned (.tuple #[]) ∧ RsSt u w0 w' g h (rsM k i c) l := by
    intro f hf hr
    refine (rf_num u g h 1 f _ false l false _ w hr hg hh hgh hu2 hm (by omega) (by omega) (by omega) (by omega) (by omega) (by omega) (by omega) 0 (rt_int 0 (by decide) (by decide) l)).mono ?_
    rintro e w' ⟨rfl, g1, g2, g3⟩
    refine ⟨rfl, g1, ⟨v2, v3, ?_, KeepM.R h2 g3, KeepM.R h3 g3⟩, hk.trans g3⟩
    rcases hf with rfl | rfl | rfl <;> exact g2
  rcases hf with rfl | rfl | rfl | rfl | rfl | rfl
  · exact num 11 (by omega) hr
  · exact num 14 (by omega) hr
  · exact num 15 (by omega) hr
  · refine (rf_names u g h 1 _ false l false _ w hr hg hh hgh hu2 hm [] (z_list rdText l)).mono ?_
    rintro e w' ⟨rfl, g1, ⟨v, g2, g4⟩, g3⟩
    exact ⟨rfl, g1, ⟨v, v3, g2, Kd.R_lower g4 hu2.size, KeepM.R h3 g3⟩, hk.trans g3⟩
  · refine (rf_counts u g h 1 _ false l false _ w hr hg hh hgh hu2 hm [] (z_list rdInt l)).mono ?_
    rintro e w' ⟨rfl, g1, ⟨v, g2, g4⟩, g3⟩
    exact ⟨rfl, g1, ⟨v2, v, g2, KeepM.R h2 g3, Kd.R_lower g4 hu2.size⟩, hk.trans g3⟩
  · refine (rf_bats0 u g h 1 _ false l false _ w hr hg hh hgh hu2 hm (rt_small2 0 (by decide) (by decide) l)).mono ?_
    rintro e w' ⟨rfl, g1, g2, g3⟩
    exact ⟨rfl, g1, ⟨v2, v3, g2, KeepM.R h2 g3, KeepM.R h3 g3⟩, hk.trans g3⟩
theorem infoRs : (Try.prog.info? 46).map (·.size) = some 9 := by kernel_rfl
theorem res_all (m : Msg) {A2 A3 A4 : Option Addr} {n2 c2 n3 c3 n4 c4 : Nat} (h2 : m.u2 = .slice A2 n2 c2) (h3 : m.u3 = .slice A3 n3 c3) (h4 : m.u4 = .slice A4 n4 c4) : m.res.all (·.oneCell') = true := by
  rw [← Array.all_toList]
  simp [Msg.res, h2, h3, h4, Value.oneCell']
theorem ps_new (w : World) (A : Option Addr) (cc : Nat) (l : List Int) (hr : Kd.C (Kd.int .u8) w A l.length l) (hc : l.length ≤ cc) (hby : Bp.Bytes l) : Below w.heap.size w ((w.alloc (.cells #[.int .i64 0, .int .i64 0, .int .i64 0, .int .i64 0, .int .i64 0, .int .i64 0, .slice none 0 0, .slice none 0 0, .slice none 0 0] 46)).alloc (.cells #[.slice A l.length cc, .bool false] 88)) ∧ ((w.alloc (.cells #[.int .i64 0, .int .i64 0, .int .i64 0, .int .i64 0, .int .i64 0, .int .i64 0, .slice none 0 0, .slice none 0 0, .slice none 0 0] 46)).alloc (.cells #[.slice A l.length cc, .bool false] 88)).heap.size = w.heap.size + 2 ∧ ((w.alloc (.cells #[.int .i64 0, .int .i64 0, .int .i64 0, .int .i64 0, .int .i64 0, .int .i64 0, .slice none 0 0, .slice none 0 0, .slice none 0 0] 46)).alloc (.cells #[.slice A l.length cc, .bool false] 88)).heap[w.heap.size]? = some (.cells #[.int .i64 0, .int .i64 0, .int .i64 0, .int .i64 0, .int .i64 0, .int .i64 0, .slice none 0 0, .slice none 0 0, .slice none 0 0] 46 (0, 0)) ∧ Rd w ((w.alloc (.cells #[.int .i64 0, .int .i64 0, .int .i64 0, .int .i64 0, .int .i64 0, .int .i64 0, .slice none 0 0, .slice none 0 0, .slice none 0 0] 46)).alloc (.cells #[.slice A l.length cc, .bool false] 88)) (w.heap.size + 1) l false := by
  refine ⟨below_alloc (below_alloc (Below.refl _ _) _) _, by simp, blk_alloc (heap_alloc_new w _) _, A, cc, ?_, hc, hr, hby⟩
  have := heap_alloc_new (w.alloc (.cells #[.int .i64 0, .int .i64 0, .int .i64 0, .int .i64 0, .int .i64 0, .int .i64 0, .slice none 0 0, .slice none 0 0, .slice none 0 0] 46)) (.cells #[.slice A l.length cc, .bool false] 88)
  simpa using this
set_option maxHeartbeats 4000000 in
set_option maxRecDepth 100000 in
theorem codec_ParseResponse.nought (k i c : Int) (L : List Int) (hv : told.f k c = some L) (hi : 0 ≤ i ∧ i < 4294967296) (A : Option Addr) (cc : Nat) (l : List Int) (hl : l = rsB k i c L) (w : World) (hr : Kd.C (Kd.int .u8) w A l.length l) (hc : l.length ≤ cc) (hby : Bp.Bytes l) :
    Calls Try.prog 19 #[.slice A l.length cc] w fun e w' => (∃ v2 v3, e = .returned (.tuple #[.agg (Msg.res { rsM k i c with u2 := v2, u3 := v3 }), .int .i64 0]) ∧ Kd.R Kd.string 9 w' w.heap.size (fun _ => True) v2 [] ∧ Kd.R (Kd.int .i64) 3 w' w.heap.size (fun _ => True) v3 []) ∧ Below w.heap.size w w' := by
  have HV := Aside0.mk (show (0 ≤ k ∧ k ≤ 8) ∧ (0 ≤ c ∧ c ≤ 255) ∧ (0 ≤ i ∧ i < 4294967296) from by unfold told.f at hv; split at hv; cases hv; exact ⟨by omega, by omega, hi⟩)
  have HT := Aside0.mk hv
  have HL := Aside0.mk hl
  have HR := Aside0.mk hr
  have HC := Aside0.mk hc
  have HBY := Aside0.mk hby
  clear hv hi hl hr hc hby
  go_enter Try.func19, Try.ntmps19
  go_upto_region 2 with (fail)
  (try simp only [Act.put, List.setIfInBounds_toArray, List.set_cons_zero, List.set_cons_succ])
  have P0 := Aside0.mk (ps_new w A cc l HR.out HC.out HBY.out)
  generalize ((w.alloc (.cells #[.int .i64 0, .int .i64 0, .int .i64 0, .int .i64 0, .int .i64 0, .int .i64 0, .slice none 0 0, .slice none 0 0, .slice none 0 0] 46)).alloc (.cells #[.slice A l.length cc, .bool false] 88)) = W0 at P0 ⊢
  go_wp2_with (refine wpList_store_row rfl 67 (.tmp 5) (.tmp 13) rfl W0.heap.size #[.int .i64 0, .int .i64 0, .string ⟨#[]⟩, .int .i64 0, .int .i64 0, .int .i64 0, .int .i64 0, .int .i64 0, .bool false, .int .i64 0, .int .i64 0, .int .i64 0, .slice none 0 0, .int .i64 0, .int .i64 0, .int .i64 0, .string ⟨#[]⟩, .int .i64 0, .int .i64 0, .int .i64 0, .int .i64 0, .int .i64 0, .int .i64 0, .slice none 0 0, .slice none 0 0, .slice none 0 0] rfl rfl 67 #[.int .i64 0, .int .i64 0, .string ⟨#[]⟩, .int .i64 0, .int .i64 0, .int .i64 0, .int .i64 0, .int .i64 0, .bool false, .int .i64 0, .int .i64 0, .int .i64 0, .slice none 0 0, .int .i64 0, .int .i64 0, .int .i64 0, .string ⟨#[]⟩, .int .i64 0, .int .i64 0, .int .i64 0, .int .i64 0, .int .i64 0, .int .i64 0, .slice none 0 0, .slice none 0 0, .slice none 0 0] (heap_alloc_new W0 _) info26 rfl all26 ?_; rw [setRow_self _ _ _ _ _ (heap_alloc_new W0 _)])
  have S2 := Aside0.mk (show RsSt w (W0.alloc (.cells #[.int .i64 0, .int .i64 0, .string ⟨#[]⟩, .int .i64 0, .int .i64 0, .int .i64 0, .int .i64 0, .int .i64 0, .bool false, .int .i64 0, .int .i64 0, .int .i64 0, .slice none 0 0, .int .i64 0, .int .i64 0, .int .i64 0, .string ⟨#[]⟩, .int .i64 0, .int .i64 0, .int .i64 0, .int .i64 0, .int .i64 0, .int .i64 0, .slice none 0 0, .slice none 0 0, .slice none 0 0] 67)) (W0.alloc (.cells #[.int .i64 0, .int .i64 0, .string ⟨#[]⟩, .int .i64 0, .int .i64 0, .int .i64 0, .int .i64 0, .int .i64 0, .bool false, .int .i64 0, .int .i64 0, .int .i64 0, .slice none 0 0, .int .i64 0, .int .i64 0, .int .i64 0, .string ⟨#[]⟩, .int .i64 0, .int .i64 0, .int .i64 0, .int .i64 0, .int .i64 0, .int .i64 0, .slice none 0 0, .slice none 0 0, .slice none 0 0] 67)) (w.heap.size + 1) (w.heap.size + 2) msg0 (nb k 1 ++ (nb i 4 ++ (nb c 1 ++ (L.map zF).flatten))) from ⟨by have h_ := P0.out.2.2.2.below (below_alloc (Below.refl _ _) ((.cells #[.int .i64 0, .int .i64 0, .string ⟨#[]⟩, .int .i64 0, .int .i64 0, .int .i64 0, .int .i64 0, .int .i64 0, .bool false, .int .i64 0, .int .i64 0, .int .i64 0, .slice none 0 0, .int .i64 0, .int .i64 0, .int .i64 0, .string ⟨#[]⟩, .int .i64 0, .int .i64 0, .int .i64 0, .int .i64 0, .int .i64 0, .int .i64 0, .slice none 0 0, .slice none 0 0, .slice none 0 0] 67))); rw [HL.out] at h_; exact h_, ⟨.slice none 0 0, .slice none 0 0, by rw [← P0.out.2.1]; exact heap_alloc_new W0 _, Kd.R_nil _ _ _ _ _, Kd.R_nil _ _ _ _ _⟩, KeepM.refl _ _ _ _⟩)
  have HB2 := Aside0.mk (show Below w.heap.size w (W0.alloc (.cells #[.int .i64 0, .int .i64 0, .string ⟨#[]⟩, .int .i64 0, .int .i64 0, .int .i64 0, .int .i64 0, .int .i64 0, .bool false, .int .i64 0, .int .i64 0, .int .i64 0, .slice none 0 0, .int .i64 0, .int .i64 0, .int .i64 0, .string ⟨#[]⟩, .int .i64 0, .int .i64 0, .int .i64 0, .int .i64 0, .int .i64 0, .int .i64 0, .slice none 0 0, .slice none 0 0, .slice none 0 0] 67)) from P0.out.1.alloc P0.out.1.size _)
  have RT2 := Aside0.mk (show (W0.alloc (.cells #[.int .i64 0, .int .i64 0, .string ⟨#[]⟩, .int .i64 0, .int .i64 0, .int .i64 0, .int .i64 0, .int .i64 0, .bool false, .int .i64 0, .int .i64 0, .int .i64 0, .slice none 0 0, .int .i64 0, .int .i64 0, .int .i64 0, .string ⟨#[]⟩, .int .i64 0, .int .i64 0, .int .i64 0, .int .i64 0, .int .i64 0, .int .i64 0, .slice none 0 0, .slice none 0 0, .slice none 0 0] 67)).heap[w.heap.size]? = some (.cells #[.int .i64 0, .int .i64 0, .int .i64 0, .int .i64 0, .int .i64 0, .int .i64 0, .slice none 0 0, .slice none 0 0, .slice none 0 0] 46 (0, 0)) from blk_alloc P0.out.2.2.1 _)
  have HGE := Aside0.mk (show w.heap.size ≤ w.heap.size + 1 by omega)
  have HH := Aside0.mk (show w.heap.size ≤ w.heap.size + 2 by omega)
  have HGH := Aside0.mk (show w.heap.size + 1 ≠ w.heap.size + 2 by omega)
  rw [P0.out.2.1]
  generalize W0.alloc (.cells #[.int .i64 0, .int .i64 0, .string ⟨#[]⟩, .int .i64 0, .int .i64 0, .int .i64 0, .int .i64 0, .int .i64 0, .bool false, .int .i64 0, .int .i64 0, .int .i64 0, .slice none 0 0, .int .i64 0, .int .i64 0, .int .i64 0, .string ⟨#[]⟩, .int .i64 0, .int .i64 0, .int .i64 0, .int .i64 0, .int .i64 0, .int .i64 0, .slice none 0 0, .slice none 0 0, .slice none 0 0] 67) = W2 at S2 HB2 RT2 ⊢
  clear P0
  refine (rd_number w (w.heap.size + 1) _ false 1 k (nb i 4 ++ (nb c 1 ++ (L.map zF).flatten)) false W2 S2.out.rd HGE.out HB2.out (by decide) (by decide) (rt_small1 k (by have := HV.out; omega) (by have := HV.out; omega) _)).mono ?_
  rintro e w3 ⟨rfl, h3, h4⟩
  have S2_ := Aside0.mk (S2.out.read HGH.out h3 h4)
  clear h3 h4 S2
  obtain ⟨q0, z0⟩ := S2_.out.cell 17 (by decide) (by decide)
  change w3.cell? _ = some (.int .i64 0) at q0
  go_upto_region 4 with (fail)
  (try simp only [Act.put, List.setIfInBounds_toArray, List.set_cons_zero, List.set_cons_succ])
  have S4 := Aside0.mk (S2_.out.set (m2 := { msg0 with akind := k }) HGH.out HH.out 17 (.int .i64 k) (fun _ _ => rfl))
  generalize World.setCell w3 ⟨w.heap.size + 2, 17, none⟩ (.int .i64 k) = w4 at S4 ⊢
  clear S2_ q0 z0
  go_wp2_with fail
  refine (rd_number w (w.heap.size + 1) _ false 4 i (nb c 1 ++ (L.map zF).flatten) false w4 S4.out.rd HGE.out (HB2.out.trans S4.out.keep.below) (by decide) (by decide) (rt_small4 i (by have := HV.out; omega) (by have := HV.out; omega) _)).mono ?_
  rintro e w5 ⟨rfl, h3, h4⟩
  have S4_ := Aside0.mk (S4.out.read HGH.out h3 h4)
  clear h3 h4 S4
  obtain ⟨q0, z0⟩ := S4_.out.cell 18 (by decide) (by decide)
  change w5.cell? _ = some (.int .i64 0) at q0
  go_upto_region 5 with (fail)
  (try simp only [Act.put, List.setIfInBounds_toArray, List.set_cons_zero, List.set_cons_succ])
  have S6 := Aside0.mk (S4_.out.set (m2 := { msg0 with akind := k, aid := i }) HGH.out HH.out 18 (.int .i64 i) (fun _ _ => rfl))
  generalize World.setCell w5 ⟨w.heap.size + 2, 18, none⟩ (.int .i64 i) = w6 at S6 ⊢
  clear S4_ q0 z0
  go_wp2_with fail
  refine (rd_number w (w.heap.size + 1) _ false 1 c (L.map zF).flatten false w6 S6.out.rd HGE.out (HB2.out.trans S6.out.keep.below) (by decide) (by decide) (rt_small1 c (by have := HV.out; omega) (by have := HV.out; omega) _)).mono ?_
  rintro e w7 ⟨rfl, h3, h4⟩
  have S6_ := Aside0.mk (S6.out.read HGH.out h3 h4)
  clear h3 h4 S6
  obtain ⟨q0, z0⟩ := S6_.out.cell 19 (by decide) (by decide)
  change w7.cell? _ = some (.int .i64 0) at q0
  go_upto_region 6 with (fail)
  (try simp only [Act.put, List.setIfInBounds_toArray, List.set_cons_zero, List.set_cons_succ])
  have S8 := Aside0.mk (S6_.out.set (m2 := rsM k i c) HGH.out HH.out 19 (.int .i64 c) (fun _ _ => rfl))
  generalize World.setCell w7 ⟨w.heap.size + 2, 19, none⟩ (.int .i64 c) = w8 at S8 ⊢
  clear S6_ q0 z0
  obtain ⟨v2, v3, hm, h2, h3⟩ := S8.out.ms
  obtain ⟨A2, c2, e2⟩ := Kd.R_slice h2
  obtain ⟨A3, c3, e3⟩ := Kd.R_slice h3
  subst e2
  subst e3
  have y17 : w8.cell? ⟨w.heap.size + 2, 17, none⟩ = some (.int .i64 k) := (hm.cell 17).trans rfl
  have y18 : w8.cell? ⟨w.heap.size + 2, 18, none⟩ = some (.int .i64 i) := (hm.cell 18).trans rfl
  have y19 : w8.cell? ⟨w.heap.size + 2, 19, none⟩ = some (.int .i64 c) := (hm.cell 19).trans rfl
  have y20 : w8.cell? ⟨w.heap.size + 2, 20, none⟩ = some (.int .i64 0) := (hm.cell 20).trans rfl
  have y21 : w8.cell? ⟨w.heap.size + 2, 21, none⟩ = some (.int .i64 0) := (hm.cell 21).trans rfl
  have y22 : w8.cell? ⟨w.heap.size + 2, 22, none⟩ = some (.int .i64 0) := (hm.cell 22).trans rfl
  have y23 : w8.cell? ⟨w.heap.size + 2, 23, none⟩ = some (.slice A2 ([] : List ByteArray).length c2) := (hm.cell 23).trans rfl
  have y24 : w8.cell? ⟨w.heap.size + 2, 24, none⟩ = some (.slice A3 ([] : List Int).length c3) := (hm.cell 24).trans rfl
  have y25 : w8.cell? ⟨w.heap.size + 2, 25, none⟩ = some (.slice none 0 0) := (hm.cell 25).trans rfl
  clear hm h2 h3
  go_wp2_with fail
  refine (codec_told.calls k i c 0 0 0 A2 A3 none ([] : List ByteArray).length c2 ([] : List Int).length c3 0 0 w8).mono ?_
  rintro e w9 ⟨hp, hb⟩
  rw [HT.out] at hp
  obtain ⟨ok, Al, L1, rfl, hok, hL, hL7, hC, _⟩ := hp
  obtain rfl : L = L1 := hL
  obtain rfl : true = ok := hok
  have HL7 := Aside0.mk hL7
  have S9 := Aside0.mk (S8.out.read HGH.out (S8.out.rd.below hb) (KeepR.of_below hb (Nat.le_trans HB2.out.size S8.out.keep.below.size)))
  have RT9 := Aside0.mk (S9.out.keep.keep _ _ (by omega) (by omega) RT2.out)
  have HB9 := Aside0.mk (HB2.out.trans S9.out.keep.below)
  have HCL := Aside0.mk (show ∀ W', KeepM w9 W' (w.heap.size + 1) (w.heap.size + 2) w.heap.size → Kd.C (Kd.int .i64) W' Al L.length L from fun W' hW => hC W' (fun i o hi ho => hW.keep i o (by have := S8.out.rd.lt; omega) (by obtain ⟨_, ⟨_, _, hm_, _⟩, _⟩ := S8.out; have := blk_lt hm_; omega) ho))
  have HX := Aside0.mk (show ∀ x ∈ L, RFd x from fun x hx => told_fields (k := k) (c := c) x (by rw [HT.out]; exact hx))
  have S10 := Aside0.mk S9.out.again
  clear hL7 hC hb S8 S9 RT2 HB2 y17 y18 y19 y20 y21 y22 y23 y24 y25
  go_wp2_with fail
  go_loopg [34] (L.length + 1) (fun kq v34 w' => ∃ (j : Int), v34 = .int .i64 j ∧ Aside0 (kq + j.toNat = L.length + 1 ∧ 0 ≤ j ∧ j ≤ (L.length : Int)) ∧ Aside0 (RsSt w w9 w' (w.heap.size + 1) (w.heap.size + 2) (rsM k i c) ((L.drop j.toNat).map zF).flatten))
  case atStart => exact ⟨0, rfl, ⟨by simp, by omega, by omega⟩, S10⟩
  case round =>
    obtain ⟨j, rfl, HI, HQ⟩ := hrel
    by_cases hi : j < (L.length : Int)
    · have d1 : decide (j < (L.length : Int)) = true := decide_eq_true hi
      have h0 := HI.out.2.1
      obtain ⟨ad, ea, x0⟩ := Kd.at_int (HCL.out wr HQ.out.keep) j h0 hi
      cases ea
      have p1 := eq_true h0
      have p2 := eq_true hi
      have HE := Aside0.mk (show RsSt w w9 wr (w.heap.size + 1) (w.heap.size + 2) (rsM k i c) (zF (rd L j) ++ ((L.drop (j + 1).toNat).map zF).flatten) from by have h_ := HQ.out; rw [drop_rd (0 : Int) h0 hi] at h_; exact h_)
      have e1 : IntKind.i64.wrap (j + 1) = j + 1 := (i64_w _).trans (by have := HL7.out; unfold wrap64; omega)
      have HX2 := Aside0.mk (HX.out (rd L j) (List.mem_of_mem_drop (i := j.toNat) (by have h_ := drop_rd (0 : Int) h0 hi; rw [h_]; exact List.mem_cons_self)))
      have HI2 := Aside0.mk hi
      clear hi h0
      go_wp2_with fail
      refine (rs_field w (w.heap.size + 1) (w.heap.size + 2) (rd L j) k i c _ w9 wr HE.out HGE.out HH.out HGH.out HB9.out HX2.out).mono ?_
      rintro e w11 ⟨rfl, h3⟩
      have Q2 := Aside0.mk h3
      clear h3 HQ HE x0
      go_wp2_with fail
      go_roundg (L.length + 1 - (j + 1).toNat)
      case measure => have := HI.out; have := HI2.out; omega
      case rel => exact ⟨j + 1, by first | rfl | (rw [e1]), ⟨by have := HI.out; have := HI2.out; omega, by have := HI.out; omega, by have := HI2.out; omega⟩, Q2⟩
    · have d1 : decide (j < (L.length : Int)) = false := decide_eq_false hi
      have HE := Aside0.mk (show RsSt w w9 wr (w.heap.size + 1) (w.heap.size + 2) (rsM k i c) [] from by have h_ := HQ.out; rw [List.drop_eq_nil_of_le (by have := HI.out; omega)] at h_; exact h_)
      have RT11 := Aside0.mk (HE.out.keep.keep _ _ (by omega) (by omega) RT9.out)
      have HB11 := Aside0.mk (HB9.out.trans HE.out.keep.below)
      obtain ⟨v2, v3, hm, h2, h3⟩ := HE.out.ms
      obtain ⟨A2, c2, e2⟩ := Kd.R_slice h2
      obtain ⟨A3, c3, e3⟩ := Kd.R_slice h3
      subst e2
      subst e3
      obtain ⟨Ax, cx, hgx, _⟩ := HE.out.rd
      have q0 : wr.cell? ⟨w.heap.size + 1, 0, none⟩ = some (.slice Ax ([] : List Int).length cx) := (blk_cell hgx 0).trans rfl
      have q1 : wr.cell? ⟨w.heap.size + 1, 1, none⟩ = some (.bool false) := (blk_cell hgx 1).trans rfl
      have HM := Aside0.mk hm
      have HV2 := Aside0.mk (Kd.R_mono h2 (ok' := fun _ => True) (fun _ _ => trivial))
      have HV3 := Aside0.mk (Kd.R_mono h3 (ok' := fun _ => True) (fun _ _ => trivial))
      have dz : decide ((0 : Int) < (([] : List Int).length : Int)) = false := by decide
      clear hm h2 h3 hgx hi HQ HX HCL S10
      have y17 : wr.cell? ⟨w.heap.size + 2, 17, none⟩ = some (.int .i64 k) := (HM.out.cell 17).trans rfl
      have y18 : wr.cell? ⟨w.heap.size + 2, 18, none⟩ = some (.int .i64 i) := (HM.out.cell 18).trans rfl
      have y19 : wr.cell? ⟨w.heap.size + 2, 19, none⟩ = some (.int .i64 c) := (HM.out.cell 19).trans rfl
      have y20 : wr.cell? ⟨w.heap.size + 2, 20, none⟩ = some (.int .i64 0) := (HM.out.cell 20).trans rfl
      have y21 : wr.cell? ⟨w.heap.size + 2, 21, none⟩ = some (.int .i64 0) := (HM.out.cell 21).trans rfl
      have y22 : wr.cell? ⟨w.heap.size + 2, 22, none⟩ = some (.int .i64 0) := (HM.out.cell 22).trans rfl
      have y23 : wr.cell? ⟨w.heap.size + 2, 23, none⟩ = some (.slice A2 ([] : List ByteArray).length c2) := (HM.out.cell 23).trans rfl
      have y24 : wr.cell? ⟨w.heap.size + 2, 24, none⟩ = some (.slice A3 ([] : List Int).length c3) := (HM.out.cell 24).trans rfl
      have y25 : wr.cell? ⟨w.heap.size + 2, 25, none⟩ = some (.slice none 0 0) := (HM.out.cell 25).trans rfl
      go_wp2_with (refine wpList_store_row rfl 46 (.tmp 2) (.tmp 60) rfl w.heap.size #[.int .i64 k, .int .i64 i, .int .i64 c, .int .i64 0, .int .i64 0, .int .i64 0, .slice A2 ([] : List ByteArray).length c2, .slice A3 ([] : List Int).length c3, .slice none 0 0] rfl rfl 46 #[.int .i64 0, .int .i64 0, .int .i64 0, .int .i64 0, .int .i64 0, .int .i64 0, .slice none 0 0, .slice none 0 0, .slice none 0 0] RT11.out infoRs rfl (res_all { rsM k i c with u2 := .slice A2 ([] : List ByteArray).length c2, u3 := .slice A3 ([] : List Int).length c3 } rfl rfl rfl) ?_)
      refine bodyPost_ret (results_ct rfl _ _ w.heap.size 46 #[.int .i64 k, .int .i64 i, .int .i64 c, .int .i64 0, .int .i64 0, .int .i64 0, .slice A2 ([] : List ByteArray).length c2, .slice A3 ([] : List Int).length c3, .slice none 0 0] (0, 0) _ rfl (setRow_heap _ _ _ _ _ _ RT11.out) Try.underlying46 rfl (by kernel_rfl)) rfl ?_
      exact ⟨⟨.slice A2 ([] : List ByteArray).length c2, .slice A3 ([] : List Int).length c3, rfl, Kd.R_mono (Kd.R_move (Kd.R_bound (Kd.R_types HV2.out RT11.out (by decide))) (fun k hk => setRow_other _ _ _ _ hk.1.2)) (fun _ _ => trivial), Kd.R_mono (Kd.R_move (Kd.R_bound (Kd.R_types HV3.out RT11.out (by decide))) (fun k hk => setRow_other _ _ _ _ hk.1.2)) (fun _ _ => trivial)⟩, below_row HB11.out (Nat.le_refl _) _⟩

end Go.Proofs.Ytncfofnikmfjbaa.PCi
