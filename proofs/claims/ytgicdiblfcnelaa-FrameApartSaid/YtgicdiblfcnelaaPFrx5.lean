-- written by a program of this session (wip/tools/pr.py, over the kit's printer): not by hand
import Derived.Test.YtgicdiblfcnelaaPFrx0
import Derived.Test.YtgicdiblfcnelaaPFrx2
import Derived.Test.YtgicdiblfcnelaaPFrx3
import Derived.Test.YtgicdiblfcnelaaPFrx4
namespace Go.Proofs.Ytgicdiblfcnelaa.PFr
open Go.RowKit Go.Proofs.YtgicdiblfcnelaaW.PrintWords Go.Proofs.YtgicdiblfcnelaaW.PrintLast Go.Proofs.YtgicdiblfcnelaaW.PrintMore
attribute [local go_sem] max2_int min2_int max_two min_two max_three min_three max_four min_four   -- for this text's walks alone
set_option linter.unusedVariables false
set_option linter.unusedSimpArgs false

/-! ### frame: a feeder with the row of what it told, and the blocks that are theirs -/
def Side (W : World) (g base : Nat) (ok : Nat → Prop) (P : List Int) (bad : Bool) (v u : Value) (xs : List (List Int)) : Prop :=
  ok g ∧ FdX W g base P bad v ∧ (∀ k, v.ownBlock = some k → ok k) ∧ kRow.R 23 W base (fun k => ok k ∧ some k ≠ v.ownBlock) u xs
section
variable {w w1 w5 : World} {g base m c : Nat} {ok : Nat → Prop} {P P2 : List Int} {bad bad2 : Bool} {v v2 u u5 : Value} {xs ys zs : List (List Int)} {A : Option Addr}
theorem Side.keep (h : Side w g base ok P bad v u xs) (hm : ∀ k, ok k → k < w.heap.size → w1.heap[k]? = w.heap[k]?) : Side w1 g base ok P bad v u xs :=
  ⟨h.1, h.2.1.step (hm g h.1 h.2.1.lt) (fun k hk => hm k (h.2.2.1 k hk) (h.2.1.own k hk).2), h.2.2.1, Kd.R_step h.2.2.2 (fun k hk hlt => hm k hk.1 hlt)⟩
theorem Side.pre (h : Side w g base ok P bad v u xs) (hz : kRow.R 23 w1 base (fun k => (some k = v.ownBlock ∨ w.heap.size ≤ k) ∧ some k ≠ v2.ownBlock) (.slice A m c) zs) (hx : FdX w1 g base P2 bad2 v2)
    (hu : v2.ownBlock = v.ownBlock ∨ v2.ownBlock = none ∨ ∃ b, v2.ownBlock = some b ∧ w.heap.size ≤ b) (hk : KeepBut w w1 g v.ownBlock) :
    kRow.R 23 w1 base (fun k => (ok k ∨ w.heap.size ≤ k) ∧ some k ≠ v2.ownBlock) u xs ∧ ReadsRow (kRow.M w1 base (fun k => ((some k = v.ownBlock ∨ w.heap.size ≤ k) ∧ some k ≠ v2.ownBlock) ∧ some k ≠ u.ownBlock)) kRow.sz w1 A m zs ∧
      (∀ k, ((some k = v.ownBlock ∨ w.heap.size ≤ k) ∧ some k ≠ v2.ownBlock) ∧ some k ≠ u.ownBlock → ((ok k ∨ w.heap.size ≤ k) ∧ some k ≠ v2.ownBlock) ∧ some k ≠ u.ownBlock) ∧ (∀ k, w1.heap.size ≤ k → (ok k ∨ w.heap.size ≤ k) ∧ some k ≠ v2.ownBlock) := by
  have h1 := told_step h.2.2.2 h.2.1 hk hu
  refine ⟨Kd.R_mono h1 (fun k hk => ⟨.inl hk.1, hk.2⟩), (told_rows hz h1).1, fun k hk => ⟨⟨hk.1.1.elim (fun e => .inl (h.2.2.1 k e.symm)) .inr, hk.1.2⟩, hk.2⟩, fun k hk2 => ⟨.inr (Nat.le_trans hk.1 hk2), fun e => by have := (hx.own k e.symm).2; omega⟩⟩
theorem Side.post (h : Side w g base ok P bad v u xs) (hx : FdX w1 g base P2 bad2 v2) (hu : v2.ownBlock = v.ownBlock ∨ v2.ownBlock = none ∨ ∃ b, v2.ownBlock = some b ∧ w.heap.size ≤ b) (hk : KeepBut w w1 g v.ownBlock)
    (h1 : kRow.R 23 w1 base (fun k => (ok k ∨ w.heap.size ≤ k) ∧ some k ≠ v2.ownBlock) u xs)
    (ho : kRow.R 23 w5 base (fun k => (ok k ∨ w.heap.size ≤ k) ∧ some k ≠ v2.ownBlock) u5 ys) (hg : w1.grownBy w5 u.ownBlock) :
    Side w5 g base (fun k => (ok k ∨ w.heap.size ≤ k) ∧ k < w5.heap.size) P2 bad2 v2 u5 ys ∧ (∀ k, k < w.heap.size → ¬ ok k → w5.heap[k]? = w.heap[k]?) ∧ w.heap.size ≤ w5.heap.size := by
  obtain ⟨cells, hc⟩ := hx.typed
  have hx5 : FdX w5 g base P2 bad2 v2 := hx.step (hg.block g hx.lt (Kd.R_ne h1 hc (by decide))) (fun k hv => hg.block k (hx.own k hv).2 (fun e => (h1.1 k e.symm).2 hv.symm))
  refine ⟨⟨⟨.inl h.1, hx5.lt⟩, hx5, fun k hv => ⟨?_, (hx5.own k hv).2⟩, Kd.R_mono (Kd.R_bound ho) (fun k hk => ⟨⟨hk.1.1, hk.2.2.1⟩, hk.1.2⟩)⟩, fun k hlt hn => ?_, Nat.le_trans hk.1 hg.size⟩
  · rcases hu with hu | hu | ⟨b, hu, hb⟩
    · exact .inl (h.2.2.1 k (hu ▸ hv))
    · rw [hu] at hv; cases hv
    · rw [hu] at hv; injection hv with hv; exact .inr (by omega)
  · refine (hg.block k (Nat.lt_of_lt_of_le hlt hk.1) (fun e => ?_)).trans (hk.2 k hlt (fun e => hn (e ▸ h.1)) (fun e => hn (h.2.2.1 k e.symm)))
    rcases (h1.1 k e.symm).1 with h2 | h2
    · exact hn h2
    · omega
end
/-- The blocks of two sides: none is of both, all are there, and new but for the feeders' own. -/
def Sides (okf okg : Nat → Prop) (gf gg lo hi : Nat) : Prop := (∀ k, okf k → ¬ okg k) ∧ (∀ k, okf k → k < hi ∧ (k = gf ∨ lo ≤ k)) ∧ (∀ k, okg k → k < hi ∧ (k = gg ∨ lo ≤ k))
theorem Sides.left {okf okg : Nat → Prop} {gf gg lo hi hi5 : Nat} (h : Sides okf okg gf gg lo hi) (hl : lo ≤ hi) (h5 : hi ≤ hi5) : Sides (fun k => (okf k ∨ hi ≤ k) ∧ k < hi5) okg gf gg lo hi5 :=
  ⟨fun k hk hg => hk.1.elim (fun h1 => h.1 k h1 hg) (fun h1 => by have := (h.2.2 k hg).1; omega), fun k hk => ⟨hk.2, hk.1.elim (fun h1 => (h.2.1 k h1).2) (fun h1 => .inr (Nat.le_trans hl h1))⟩, fun k hk => ⟨Nat.lt_of_lt_of_le (h.2.2 k hk).1 h5, (h.2.2 k hk).2⟩⟩
theorem Sides.right {okf okg : Nat → Prop} {gf gg lo hi hi5 : Nat} (h : Sides okf okg gf gg lo hi) (hl : lo ≤ hi) (h5 : hi ≤ hi5) : Sides okf (fun k => (okg k ∨ hi ≤ k) ∧ k < hi5) gf gg lo hi5 :=
  ⟨fun k hf hk => hk.1.elim (fun h1 => h.1 k hf h1) (fun h1 => by have := (h.2.1 k hf).1; omega), fun k hk => ⟨Nat.lt_of_lt_of_le (h.2.1 k hk).1 h5, (h.2.1 k hk).2⟩, fun k hk => ⟨hk.2, hk.1.elim (fun h1 => (h.2.2 k h1).2) (fun h1 => .inr (Nat.le_trans hl h1))⟩⟩
/-- All below lo but two blocks is as it was. -/
def Keep2 (w W : World) (gf gg : Nat) : Prop := w.heap.size ≤ W.heap.size ∧ ∀ k, k < w.heap.size → k ≠ gf → k ≠ gg → W.heap[k]? = w.heap[k]?
theorem Keep2.left {w W W5 : World} {okf okg : Nat → Prop} {gf gg : Nat} (h : Keep2 w W gf gg) (hs : Sides okf okg gf gg w.heap.size W.heap.size) (hf : ∀ k, k < W.heap.size → ¬ okf k → W5.heap[k]? = W.heap[k]?) (h5 : W.heap.size ≤ W5.heap.size) : Keep2 w W5 gf gg :=
  ⟨Nat.le_trans h.1 h5, fun k hk h1 h2 => (hf k (Nat.lt_of_lt_of_le hk h.1) (fun e => ((hs.2.1 k e).2).elim h1 (fun h3 => by omega))).trans (h.2 k hk h1 h2)⟩
theorem Keep2.right {w W W5 : World} {okf okg : Nat → Prop} {gf gg : Nat} (h : Keep2 w W gf gg) (hs : Sides okf okg gf gg w.heap.size W.heap.size) (hf : ∀ k, k < W.heap.size → ¬ okg k → W5.heap[k]? = W.heap[k]?) (h5 : W.heap.size ≤ W5.heap.size) : Keep2 w W5 gf gg :=
  ⟨Nat.le_trans h.1 h5, fun k hk h1 h2 => (hf k (Nat.lt_of_lt_of_le hk h.1) (fun e => ((hs.2.2 k e).2).elim h2 (fun h3 => by omega))).trans (h.2 k hk h1 h2)⟩
/-! ### bollardlaw19_FrameApart -/
set_option maxHeartbeats 8000000 in
set_option maxRecDepth 100000 in
theorem frameapart_main (Aa : Option Addr) (ca : Nat) (la : List Int) (Ab : Option Addr) (cb : Nat) (lb : List Int) (size : Int) (w : World) (hra : Kd.C (Kd.int .u8) w Aa la.length la) (hca : la.length ≤ ca) (hrb : Kd.C (Kd.int .u8) w Ab lb.length lb) (hcb : lb.length ≤ cb) (g3 : size ≤ 9223372036854775807) (g0 : la.length ≤ 3000) (g1 : lb.length ≤ 3000) (g2 : 1 ≤ size) :
    Calls Try.prog 5 #[.slice Aa la.length ca, .slice Ab lb.length cb, .int .i64 size] w fun e w' => e = .returned (.bool true) ∧ Below w.heap.size w w' := by
  have f0 : decide (3000 < (la.length : Int)) = false := decide_eq_false (by omega)
  have f1 : decide (3000 < (lb.length : Int)) = false := decide_eq_false (by omega)
  have f2 : decide (size < 1) = false := decide_eq_false (by omega)
  obtain ⟨i0, hi0, -, hsz, -⟩ := info_parts info_u8
  have HI := Aside0.mk (And.intro hi0 hsz)
  have HN := Aside0.mk (And.intro g0 (And.intro g1 (And.intro g2 g3)))
  have HRA := Aside0.mk hra
  have HRB := Aside0.mk hrb
  have HCA := Aside0.mk hca
  have HCB := Aside0.mk hcb
  clear g0 g1 g2 g3 hra hrb hca hcb hi0 hsz
  go_enter Try.func5, Try.ntmps5
  go_wp2_with fail
  refine (frame_New.calls _).mono ?_
  rintro e w1 ⟨rfl, hF, hb⟩
  have HF1 := Aside0.mk (FdX.fresh (base := w.heap.size) hF)
  have HB1 := Aside0.mk hb
  clear hF hb
  go_wp2_with fail
  refine (frame_New.calls _).mono ?_
  rintro e w2 ⟨rfl, hG, hb⟩
  have HG2 := Aside0.mk (FdX.fresh (base := w.heap.size) hG)
  have HF2 := Aside0.mk (HF1.out.below hb)
  have HB2 := Aside0.mk (below_step HB1.out hb)
  have HGG := Aside0.mk HF1.out.lt
  obtain ⟨gg, hgg⟩ : ∃ gg, gg = w1.heap.size := ⟨_, rfl⟩
  rw [← hgg] at HG2 HGG ⊢
  clear hG hb HF1 HB1 hgg
  go_wp2_with fail
  refine (frame_New.calls _).mono ?_
  rintro e w3 ⟨rfl, hX, hb⟩
  have HX3 := Aside0.mk (FdX.fresh (base := w.heap.size) hX)
  have HF3 := Aside0.mk (HF2.out.below hb)
  have HG3 := Aside0.mk (HG2.out.below hb)
  have HB3 := Aside0.mk (below_step HB2.out hb)
  have HLX := Aside0.mk HG2.out.lt
  obtain ⟨gx, hgx⟩ : ∃ gx, gx = w2.heap.size := ⟨_, rfl⟩
  have HXt := Aside0.mk hX
  rw [← hgx] at HX3 HLX HXt ⊢
  clear hX hb HF2 HG2 HB2 hgx
  obtain ⟨xs, PA, bA, hfa⟩ : ∃ xs PF bF, feedX [] false la = (xs, PF, bF) := ⟨_, _, _, rfl⟩
  have HFA := Aside0.mk hfa
  go_wp2_with fail
  refine (frame_Feed.calls gx w.heap.size [] false _ Aa ca la w3 xs PA bA (by have := HGG.out; have := HLX.out; omega) HB3.out.size HX3.out (fun W hk => came_C HRA.out HB3.out hk (by have := HGG.out; have := HLX.out; omega) (fun k h => by cases h)) HCA.out (by have := HN.out; simp only [List.length_nil]; omega) hfa).mono ?_
  rintro e w4 ⟨vx, vfx, rfl, hox, hxf, huf, hbf, hkf⟩
  obtain ⟨Ax, cx, ex⟩ := Kd.R_slice hox
  subst ex
  have HOX4 := Aside0.mk (Kd.R_mono (ok' := fun k => w3.heap.size ≤ k) hox (fun k hk => hk.1.elim (fun h => by cases h) id))
  have HF4 := Aside0.mk (HF3.out.other hkf (by have := HGG.out; have := HLX.out; omega) HXt.out (by simp [Value.ownBlock]) (fun k h => by cases h))
  have HG4 := Aside0.mk (HG3.out.other hkf (by have := HLX.out; omega) HXt.out (by simp [Value.ownBlock]) (fun k h => by cases h))
  have HB4 := Aside0.mk (HB3.out.trans hbf)
  have HS4 := Aside0.mk (show gx < w3.heap.size ∧ w3.heap.size ≤ w4.heap.size from ⟨HX3.out.lt, hkf.1⟩)
  clear hfa hox hxf huf hbf hkf HF3 HG3 HX3 HB3 HXt
  go_wp2_with fail
  refine (frame_New.calls _).mono ?_
  rintro e w5 ⟨rfl, hX, hb⟩
  have HX5 := Aside0.mk (FdX.fresh (base := w.heap.size) hX)
  have HF5 := Aside0.mk (HF4.out.below hb)
  have HG5 := Aside0.mk (HG4.out.below hb)
  have HB5 := Aside0.mk (below_step HB4.out hb)
  have HOX5 := Aside0.mk (Kd.R_below HOX4.out hb)
  have HOX5n := Aside0.mk (show ∀ k, (Value.slice Ax xs.length cx).ownBlock = some k → k < w4.heap.size from Kd.R_lt HOX4.out)
  have HLY := Aside0.mk HS4.out
  obtain ⟨gy, hgy⟩ : ∃ gy, gy = w4.heap.size := ⟨_, rfl⟩
  have HXt := Aside0.mk hX
  have HGY := Aside0.mk hgy
  rw [← hgy] at HX5 HXt ⊢
  clear hX hb HF4 HG4 HB4 HOX4 hgy
  obtain ⟨ys, PB, bB, hfb⟩ : ∃ xs PF bF, feedX [] false lb = (xs, PF, bF) := ⟨_, _, _, rfl⟩
  have HFB := Aside0.mk hfb
  go_wp2_with fail
  refine (frame_Feed.calls gy w.heap.size [] false _ Ab cb lb w5 ys PB bB (by have := HGG.out; have := HLX.out; have := HLY.out; have := HGY.out; omega) HB5.out.size HX5.out (fun W hk => came_C HRB.out HB5.out hk (by have := HGG.out; have := HLX.out; have := HLY.out; have := HGY.out; omega) (fun k h => by cases h)) HCB.out (by have := HN.out; simp only [List.length_nil]; omega) hfb).mono ?_
  rintro e w6 ⟨vy, vfy, rfl, hoy, hxf, huf, hbf, hkf⟩
  obtain ⟨Ay, cy, ey⟩ := Kd.R_slice hoy
  subst ey
  have HOX := Aside0.mk (Kd.R_keep (Kd.R_types HOX5.out HXt.out (by decide)) (show KeepBut w5 w6 gy none from hkf) (fun _ h => h.2))
  have HOY := Aside0.mk (Kd.R_mono (ok' := fun k => w5.heap.size ≤ k) hoy (fun k hk => hk.1.elim (fun h => by cases h) id))
  have HF6 := Aside0.mk (HF5.out.other hkf (by have := HGG.out; have := HLX.out; have := HLY.out; have := HGY.out; omega) HXt.out (by simp [Value.ownBlock]) (fun k h => by cases h))
  have HG6 := Aside0.mk (HG5.out.other hkf (by have := HLX.out; have := HLY.out; have := HGY.out; omega) HXt.out (by simp [Value.ownBlock]) (fun k h => by cases h))
  have HB6 := Aside0.mk (HB5.out.trans hbf)
  have HL6 := Aside0.mk (show w.heap.size < gg ∧ gg < w3.heap.size ∧ w3.heap.size ≤ w5.heap.size ∧ w5.heap.size ≤ w6.heap.size from ⟨HGG.out, by have := HLX.out; have := HLY.out; omega, by have := HLY.out; have := HX5.out.lt; have := HGY.out; omega, hkf.1⟩)
  clear hfb hoy hxf huf hbf hkf HF5 HG5 HX5 HB5 HXt HOX5 HLX HLY HGG HGY HOX5n HS4
  go_wp2_with fail
  go_loopg [13, 14, 15, 16, 17] 20000 (fun kq v13 v14 v15 v16 v17 w' => ∃ (i : Int) (ps qs : List (List Int)) (Pf Pg : List Int) (bf bg : Bool) (vf vg : Value) (okf okg : Nat → Prop), v15 = .bool (!bf) ∧ v16 = .bool (!bg) ∧ v17 = .int .i64 i ∧ Aside0 (0 ≤ i ∧ i ≤ 13000 ∧ kq + i.toNat = 20000) ∧ Aside0 (feedX [] false (la.take i.toNat) = (ps, Pf, bf)) ∧ Aside0 (feedX [] false (lb.take i.toNat) = (qs, Pg, bg)) ∧
    Aside0 (Side w' w.heap.size w.heap.size okf Pf bf vf v13 ps) ∧ Aside0 (Side w' gg w.heap.size okg Pg bg vg v14 qs) ∧ Aside0 (Sides okf okg w.heap.size gg w6.heap.size w'.heap.size) ∧ Aside0 (Keep2 w6 w' w.heap.size gg) ∧ Aside0 (Below w.heap.size w w'))
  case atStart => exact ⟨0, [], [], [], [], false, false, _, _, fun k => k = w.heap.size, fun k => k = gg, rfl, rfl, rfl, ⟨by omega, by omega, by simp⟩, ⟨rfl⟩, ⟨rfl⟩, ⟨rfl, HF6.out, (fun k h => by cases h), Kd.R_nil _ _ _ _ _⟩, ⟨rfl, HG6.out, (fun k h => by cases h), Kd.R_nil _ _ _ _ _⟩,
    ⟨fun k h1 h2 => by have := HL6.out; omega, fun k h => ⟨by rw [h]; exact HF6.out.lt, .inl h⟩, fun k h => ⟨by rw [h]; exact HG6.out.lt, .inl h⟩⟩, ⟨Nat.le_refl _, fun _ _ _ _ => rfl⟩, HB6⟩
  case round =>
    obtain ⟨i, ps, qs, Pf, Pg, bf, bg, vf, vg, okf, okg, rfl, rfl, rfl, HK, HFf, HFg, HSf, HSg, HSD, HKE, HBr⟩ := hrel
    clear HF6 HG6
    by_cases ha : i < (la.length : Int)
    · by_cases hb : i < (lb.length : Int)
      · skip
        by_cases hz : 10000 < size
        · skip
          have da : decide (i < (la.length : Int)) = true := decide_eq_true ha
          have db : decide (i < (lb.length : Int)) = true := decide_eq_true hb
          have dz : decide (10000 < size) = true := decide_eq_true hz
          obtain ⟨m1, hm⟩ : ∃ m : Int, m = (la.length : Int) - i := ⟨_, rfl⟩
          have ew01 : IntKind.i64.wrap ((la.length : Int) - i) = m1 := (i64_w _).trans (by have := HK.out; have := HN.out; unfold wrap64; omega)
          obtain ⟨q1, hq⟩ : ∃ q : Int, q = (if m1 < size then m1 else size) := ⟨_, rfl⟩
          have hmn1 : (if m1 < size then m1 else size) = q1 := hq.symm
          have b0 := HK.out.1
          have hqq : (q1 = size ∧ i + q1 ≤ (la.length : Int)) ∨ (q1 ≤ size ∧ i + q1 = (la.length : Int)) := by rw [hq]; split <;> omega
          have b1 : 1 ≤ q1 := by have := HN.out; rw [hq]; split <;> omega
          have b2 : i + q1 ≤ (la.length : Int) := by omega
          have ew11 : IntKind.i64.wrap (i + q1) = i + q1 := (i64_w _).trans (by have := HN.out; unfold wrap64; omega)
          obtain ⟨A1, hcut1, hA, hC⟩ := print_mid_of (P := Try.prog) (Value.int .u8) 0 23 5 .i64 .i64 Try.underlying23 HI.out.1 HI.out.2 Aa ca la i (i + q1) b0 (by omega) b2 HCA.out
          obtain ⟨sl1, hsl⟩ : ∃ sl, sl = (la.take (i + q1).toNat).drop i.toNat := ⟨_, rfl⟩
          rw [← hsl] at hA hC hcut1
          have HA1 := Aside0.mk hA
          have HC1 := Aside0.mk hC
          have HSL1 := Aside0.mk (show la.take (i + size).toNat = la.take i.toNat ++ sl1 from by have e_ : la.take (i + size).toNat = la.take (i + q1).toNat := (by rcases hqq with h_ | h_; rw [h_.1]; rw [List.take_of_length_le (by omega), List.take_of_length_le (by omega)]); have h_ := List.take_append_drop i.toNat (la.take (i + q1).toNat); rw [List.take_take, Nat.min_eq_left (by omega)] at h_; rw [e_, hsl]; exact h_.symm)
          have HSZ1 := Aside0.mk (show sl1.length ≤ 3000 from by have := HN.out; rw [hsl, List.length_drop, List.length_take]; omega)
          clear hA hC hsl b0 b1 b2 hqq hq hm
          obtain ⟨zs1, P1, bad1, hz⟩ : ∃ zs P2 bad2, feedX Pf bf sl1 = (zs, P2, bad2) := ⟨_, _, _, rfl⟩
          have HZ1 := Aside0.mk hz
          clear hz
          obtain ⟨rn1, hrn⟩ : ∃ y, y = ps ++ zs1 := ⟨_, rfl⟩
          have HRN1 := Aside0.mk hrn
          clear hrn
          have HPL1 := Aside0.mk (show Pf.length ≤ 3000 ∧ ps.length ≤ 3000 from by have h_ := feedX_small [] false (fun h => by cases h) (la.take i.toNat); rw [HFf.out] at h_; simp only [List.length_nil, List.length_take] at h_; have := HN.out; omega)
          have HE1 := Aside0.mk (show feedX [] false (la.take (i + size).toNat) = (rn1, P1, bad1) from by rw [HRN1.out, HSL1.out, feedX_append _ _ _ _ (fun h => by cases h), HFf.out]; simp only [HZ1.out])
          have HZL1 := Aside0.mk (show zs1.length ≤ 3000 from by have h_ := (feedX_small Pf bf HSf.out.2.1.nil sl1).1; rw [HZ1.out] at h_; have := HSZ1.out; exact Nat.le_trans h_ this)
          obtain ⟨m2, hm⟩ : ∃ m : Int, m = (lb.length : Int) - i := ⟨_, rfl⟩
          have ew02 : IntKind.i64.wrap ((lb.length : Int) - i) = m2 := (i64_w _).trans (by have := HK.out; have := HN.out; unfold wrap64; omega)
          obtain ⟨q2, hq⟩ : ∃ q : Int, q = (if m2 < size then m2 else size) := ⟨_, rfl⟩
          have hmn2 : (if m2 < size then m2 else size) = q2 := hq.symm
          have b0 := HK.out.1
          have hqq : (q2 = size ∧ i + q2 ≤ (lb.length : Int)) ∨ (q2 ≤ size ∧ i + q2 = (lb.length : Int)) := by rw [hq]; split <;> omega
          have b1 : 1 ≤ q2 := by have := HN.out; rw [hq]; split <;> omega
          have b2 : i + q2 ≤ (lb.length : Int) := by omega
          have ew12 : IntKind.i64.wrap (i + q2) = i + q2 := (i64_w _).trans (by have := HN.out; unfold wrap64; omega)
          obtain ⟨A2, hcut2, hA, hC⟩ := print_mid_of (P := Try.prog) (Value.int .u8) 0 23 5 .i64 .i64 Try.underlying23 HI.out.1 HI.out.2 Ab cb lb i (i + q2) b0 (by omega) b2 HCB.out
          obtain ⟨sl2, hsl⟩ : ∃ sl, sl = (lb.take (i + q2).toNat).drop i.toNat := ⟨_, rfl⟩
          rw [← hsl] at hA hC hcut2
          have HA2 := Aside0.mk hA
          have HC2 := Aside0.mk hC
          have HSL2 := Aside0.mk (show lb.take (i + size).toNat = lb.take i.toNat ++ sl2 from by have e_ : lb.take (i + size).toNat = lb.take (i + q2).toNat := (by rcases hqq with h_ | h_; rw [h_.1]; rw [List.take_of_length_le (by omega), List.take_of_length_le (by omega)]); have h_ := List.take_append_drop i.toNat (lb.take (i + q2).toNat); rw [List.take_take, Nat.min_eq_left (by omega)] at h_; rw [e_, hsl]; exact h_.symm)
          have HSZ2 := Aside0.mk (show sl2.length ≤ 3000 from by have := HN.out; rw [hsl, List.length_drop, List.length_take]; omega)
          clear hA hC hsl b0 b1 b2 hqq hq hm
          obtain ⟨zs2, P2, bad2, hz⟩ : ∃ zs P2 bad2, feedX Pg bg sl2 = (zs, P2, bad2) := ⟨_, _, _, rfl⟩
          have HZ2 := Aside0.mk hz
          clear hz
          obtain ⟨rn2, hrn⟩ : ∃ y, y = qs ++ zs2 := ⟨_, rfl⟩
          have HRN2 := Aside0.mk hrn
          clear hrn
          have HPL2 := Aside0.mk (show Pg.length ≤ 3000 ∧ qs.length ≤ 3000 from by have h_ := feedX_small [] false (fun h => by cases h) (lb.take i.toNat); rw [HFg.out] at h_; simp only [List.length_nil, List.length_take] at h_; have := HN.out; omega)
          have HE2 := Aside0.mk (show feedX [] false (lb.take (i + size).toNat) = (rn2, P2, bad2) from by rw [HRN2.out, HSL2.out, feedX_append _ _ _ _ (fun h => by cases h), HFg.out]; simp only [HZ2.out])
          have HZL2 := Aside0.mk (show zs2.length ≤ 3000 from by have h_ := (feedX_small Pg bg HSg.out.2.1.nil sl2).1; rw [HZ2.out] at h_; have := HSZ2.out; exact Nat.le_trans h_ this)
          have HIB := Aside0.mk (show i < 3000 from by have := HN.out; omega)
          have HZB := Aside0.mk hz
          clear hz ha hb
          go_wp2_with fail
          refine (frame_Feed.calls w.heap.size w.heap.size Pf bf vf A1 _ sl1 wr zs1 P1 bad1 (by have := HL6.out; omega) HBr.out.size HSf.out.2.1 (fun W hk => Kd.C_of_reads (h1 := fun _ => rfl) (HA1.out _ (Kd.reads_of_C (came_C HRA.out HBr.out hk (by have := HL6.out; omega) (fun k h => (HSf.out.2.1.own k h).1))))) HC1.out (by have := HPL1.out; have := HSZ1.out; omega) HZ1.out).mono ?_
          rintro e x1 ⟨vz, v1_, rfl, hoz, hxg, hug, hbg, hkg⟩
          obtain ⟨Az1, cz1, ez⟩ := Kd.R_slice hoz
          subst ez
          obtain ⟨h1, h2, h3, h4⟩ := HSf.out.pre hoz hxg hug hkg
          have H1 := Aside0.mk h1
          have H2 := Aside0.mk h2
          have H3 := Aside0.mk h3
          have H4 := Aside0.mk h4
          have HXG := Aside0.mk hxg
          have HUG := Aside0.mk hug
          have HKG := Aside0.mk hkg
          have HBB := Aside0.mk (HBr.out.trans hbg)
          clear h1 h2 h3 h4 hxg hug hbg hkg hoz
          go_wp2_with (at_builtin; refine Kd.R_append_rows kRow (w0 := w) w.heap.size rfl (.tmp 79) (.tmp 80) 22 23 (.slice none 0 0) 24 rfl Try.underlying22 info_sb rfl (by decide) (by decide) u13 ps zs1 Az1 zs1.length cz1 _ _ rfl rfl H1.out H2.out (fun _ _ h => h) H3.out H4.out HBB.out HBB.out.size ?aL ?_; (case aL => have := HPL1.out; have := HZL1.out; omega); intro vr1 y1 ho hb hg hat; rw [← HRN1.out] at ho; have hp := HSf.out.post HXG.out HUG.out HKG.out H1.out ho hg; have n1_ := Aside0.mk (HSg.out.keep (fun k hk hlt => hp.2.1 k hlt (fun hf => HSD.out.1 k hf hk))); have n2_ := Aside0.mk (HSD.out.left HKE.out.1 hp.2.2); have n3_ := Aside0.mk (HKE.out.left HSD.out hp.2.1 hp.2.2); have n4_ := Aside0.mk hp.1; have n5_ := Aside0.mk hb; clear hp ho hb hg hat HSf HSg HSD HKE HBr H1 H2 H3 H4 HXG HUG HKG HBB; have HSg := n1_; have HSD := n2_; have HKE := n3_; have HSf := n4_; have HBr := n5_; clear n1_ n2_ n3_ n4_ n5_)
          go_wp2_with fail
          refine (frame_Feed.calls gg w.heap.size Pg bg vg A2 _ sl2 y1 zs2 P2 bad2 (by have := HL6.out; omega) HBr.out.size HSg.out.2.1 (fun W hk => Kd.C_of_reads (h1 := fun _ => rfl) (HA2.out _ (Kd.reads_of_C (came_C HRB.out HBr.out hk (by have := HL6.out; omega) (fun k h => (HSg.out.2.1.own k h).1))))) HC2.out (by have := HPL2.out; have := HSZ2.out; omega) HZ2.out).mono ?_
          rintro e x2 ⟨vz, v2_, rfl, hoz, hxg, hug, hbg, hkg⟩
          obtain ⟨Az2, cz2, ez⟩ := Kd.R_slice hoz
          subst ez
          obtain ⟨h1, h2, h3, h4⟩ := HSg.out.pre hoz hxg hug hkg
          have H1 := Aside0.mk h1
          have H2 := Aside0.mk h2
          have H3 := Aside0.mk h3
          have H4 := Aside0.mk h4
          have HXG := Aside0.mk hxg
          have HUG := Aside0.mk hug
          have HKG := Aside0.mk hkg
          have HBB := Aside0.mk (HBr.out.trans hbg)
          clear h1 h2 h3 h4 hxg hug hbg hkg hoz
          go_wp2_with (at_builtin; refine Kd.R_append_rows kRow (w0 := w) w.heap.size rfl (.tmp 103) (.tmp 104) 22 23 (.slice none 0 0) 24 rfl Try.underlying22 info_sb rfl (by decide) (by decide) u14 qs zs2 Az2 zs2.length cz2 _ _ rfl rfl H1.out H2.out (fun _ _ h => h) H3.out H4.out HBB.out HBB.out.size ?aL ?_; (case aL => have := HPL2.out; have := HZL2.out; omega); intro vr2 y2 ho hb hg hat; rw [← HRN2.out] at ho; have hp := HSg.out.post HXG.out HUG.out HKG.out H1.out ho hg; have n1_ := Aside0.mk (HSf.out.keep (fun k hk hlt => hp.2.1 k hlt (fun hg2 => HSD.out.1 k hk hg2))); have n2_ := Aside0.mk (HSD.out.right HKE.out.1 hp.2.2); have n3_ := Aside0.mk (HKE.out.right HSD.out hp.2.1 hp.2.2); have n4_ := Aside0.mk hp.1; have n5_ := Aside0.mk hb; clear hp ho hb hg hat HSg HSf HSD HKE HBr H1 H2 H3 H4 HXG HUG HKG HBB; have HSf := n1_; have HSD := n2_; have HKE := n3_; have HSg := n4_; have HBr := n5_; clear n1_ n2_ n3_ n4_ n5_)
          have ga := HE1.out
          rw [List.take_of_length_le (by have := HK.out; have := HN.out; have := HZB.out; omega)] at ga
          have gb := HE2.out
          rw [List.take_of_length_le (by have := HK.out; have := HN.out; have := HZB.out; omega)] at gb
          have he := HFA.out
          rw [ga] at he
          simp only [Prod.mk.injEq] at he
          obtain ⟨rfl, rfl, rfl⟩ := he
          have he := HFB.out
          rw [gb] at he
          simp only [Prod.mk.injEq] at he
          obtain ⟨rfl, rfl, rfl⟩ := he
          have hs1 := feedX_small [] false (fun h => by cases h) la
          rw [HFA.out] at hs1
          have hs2 := feedX_small [] false (fun h => by cases h) lb
          rw [HFB.out] at hs2
          simp only [List.length_nil, Nat.zero_add] at hs1 hs2
          obtain ⟨k1, hk1⟩ := same_f _ (by have := HN.out; exact Nat.le_trans hs1.1 (by omega)) (fun x hx => Nat.le_trans (hs1.2.1 x hx) (by have := HN.out; omega))
          obtain ⟨k2, hk2⟩ := same_f _ (by have := HN.out; exact Nat.le_trans hs2.1 (by omega)) (fun x hx => Nat.le_trans (hs2.2.1 x hx) (by have := HN.out; omega))
          have HK1 := Aside0.mk hk1
          have HK2 := Aside0.mk hk2
          clear hk1 hk2 hs1 hs2 ga gb
          have HXe := Aside0.mk (Kd.R_step HOX.out (fun k hk hlt => HKE.out.2 k hlt (by have := HL6.out; have := hk.1; omega) (by have := HL6.out; have := hk.1; omega)))
          have HYe := Aside0.mk (Kd.R_step HOY.out (fun k hk hlt => HKE.out.2 k hlt (by have := HL6.out; omega) (by have := HL6.out; omega)))
          obtain ⟨Ap, cp, ep⟩ := Kd.R_slice HSf.out.2.2.2
          subst ep
          obtain ⟨Aq, cq, eq_⟩ := Kd.R_slice HSg.out.2.2.2
          subst eq_
          go_wp2_with fail
          refine (bollardlaw19_same.calls k1 Ap cp _ Ax cx _ true y2 (Kd.R_reads' HSf.out.2.2.2).2.2 (Kd.R_reads' HSf.out.2.2.2).2.1 (Kd.R_reads' HXe.out).2.2 (Kd.R_reads' HXe.out).2.1 HK1.out).mono ?_
          rintro e z1 ⟨rfl, ⟨t1, rfl⟩⟩
          go_wp2_with fail
          refine (bollardlaw19_same.calls k2 Aq cq _ Ay cy _ true _ (Kd.C_drewN (Kd.R_reads' HSg.out.2.2.2).2.2 t1) (Kd.R_reads' HSg.out.2.2.2).2.1 (Kd.C_drewN (Kd.R_reads' HYe.out).2.2 t1) (Kd.R_reads' HYe.out).2.1 HK2.out).mono ?_
          rintro e z2 ⟨rfl, ⟨t2, rfl⟩⟩
          go_wp2_with fail
          refine (bollardlaw19_awake.calls _).mono ?_
          rintro e w9 ⟨rfl, hb9⟩
          have HB9 := Aside0.mk (below_step (pw_below_drewN HBr.out _) hb9)
          clear hb9
          go_wp2
          go_ret
          exact ⟨rfl, HB9.out⟩
        · skip
          have da : decide (i < (la.length : Int)) = true := decide_eq_true ha
          have db : decide (i < (lb.length : Int)) = true := decide_eq_true hb
          have dz : decide (10000 < size) = false := decide_eq_false hz
          obtain ⟨m1, hm⟩ : ∃ m : Int, m = (la.length : Int) - i := ⟨_, rfl⟩
          have ew01 : IntKind.i64.wrap ((la.length : Int) - i) = m1 := (i64_w _).trans (by have := HK.out; have := HN.out; unfold wrap64; omega)
          obtain ⟨q1, hq⟩ : ∃ q : Int, q = (if m1 < size then m1 else size) := ⟨_, rfl⟩
          have hmn1 : (if m1 < size then m1 else size) = q1 := hq.symm
          have b0 := HK.out.1
          have hqq : (q1 = size ∧ i + q1 ≤ (la.length : Int)) ∨ (q1 ≤ size ∧ i + q1 = (la.length : Int)) := by rw [hq]; split <;> omega
          have b1 : 1 ≤ q1 := by have := HN.out; rw [hq]; split <;> omega
          have b2 : i + q1 ≤ (la.length : Int) := by omega
          have ew11 : IntKind.i64.wrap (i + q1) = i + q1 := (i64_w _).trans (by have := HN.out; unfold wrap64; omega)
          obtain ⟨A1, hcut1, hA, hC⟩ := print_mid_of (P := Try.prog) (Value.int .u8) 0 23 5 .i64 .i64 Try.underlying23 HI.out.1 HI.out.2 Aa ca la i (i + q1) b0 (by omega) b2 HCA.out
          obtain ⟨sl1, hsl⟩ : ∃ sl, sl = (la.take (i + q1).toNat).drop i.toNat := ⟨_, rfl⟩
          rw [← hsl] at hA hC hcut1
          have HA1 := Aside0.mk hA
          have HC1 := Aside0.mk hC
          have HSL1 := Aside0.mk (show la.take (i + size).toNat = la.take i.toNat ++ sl1 from by have e_ : la.take (i + size).toNat = la.take (i + q1).toNat := (by rcases hqq with h_ | h_; rw [h_.1]; rw [List.take_of_length_le (by omega), List.take_of_length_le (by omega)]); have h_ := List.take_append_drop i.toNat (la.take (i + q1).toNat); rw [List.take_take, Nat.min_eq_left (by omega)] at h_; rw [e_, hsl]; exact h_.symm)
          have HSZ1 := Aside0.mk (show sl1.length ≤ 3000 from by have := HN.out; rw [hsl, List.length_drop, List.length_take]; omega)
          clear hA hC hsl b0 b1 b2 hqq hq hm
          obtain ⟨zs1, P1, bad1, hz⟩ : ∃ zs P2 bad2, feedX Pf bf sl1 = (zs, P2, bad2) := ⟨_, _, _, rfl⟩
          have HZ1 := Aside0.mk hz
          clear hz
          obtain ⟨rn1, hrn⟩ : ∃ y, y = ps ++ zs1 := ⟨_, rfl⟩
          have HRN1 := Aside0.mk hrn
          clear hrn
          have HPL1 := Aside0.mk (show Pf.length ≤ 3000 ∧ ps.length ≤ 3000 from by have h_ := feedX_small [] false (fun h => by cases h) (la.take i.toNat); rw [HFf.out] at h_; simp only [List.length_nil, List.length_take] at h_; have := HN.out; omega)
          have HE1 := Aside0.mk (show feedX [] false (la.take (i + size).toNat) = (rn1, P1, bad1) from by rw [HRN1.out, HSL1.out, feedX_append _ _ _ _ (fun h => by cases h), HFf.out]; simp only [HZ1.out])
          have HZL1 := Aside0.mk (show zs1.length ≤ 3000 from by have h_ := (feedX_small Pf bf HSf.out.2.1.nil sl1).1; rw [HZ1.out] at h_; have := HSZ1.out; exact Nat.le_trans h_ this)
          obtain ⟨m2, hm⟩ : ∃ m : Int, m = (lb.length : Int) - i := ⟨_, rfl⟩
          have ew02 : IntKind.i64.wrap ((lb.length : Int) - i) = m2 := (i64_w _).trans (by have := HK.out; have := HN.out; unfold wrap64; omega)
          obtain ⟨q2, hq⟩ : ∃ q : Int, q = (if m2 < size then m2 else size) := ⟨_, rfl⟩
          have hmn2 : (if m2 < size then m2 else size) = q2 := hq.symm
          have b0 := HK.out.1
          have hqq : (q2 = size ∧ i + q2 ≤ (lb.length : Int)) ∨ (q2 ≤ size ∧ i + q2 = (lb.length : Int)) := by rw [hq]; split <;> omega
          have b1 : 1 ≤ q2 := by have := HN.out; rw [hq]; split <;> omega
          have b2 : i + q2 ≤ (lb.length : Int) := by omega
          have ew12 : IntKind.i64.wrap (i + q2) = i + q2 := (i64_w _).trans (by have := HN.out; unfold wrap64; omega)
          obtain ⟨A2, hcut2, hA, hC⟩ := print_mid_of (P := Try.prog) (Value.int .u8) 0 23 5 .i64 .i64 Try.underlying23 HI.out.1 HI.out.2 Ab cb lb i (i + q2) b0 (by omega) b2 HCB.out
          obtain ⟨sl2, hsl⟩ : ∃ sl, sl = (lb.take (i + q2).toNat).drop i.toNat := ⟨_, rfl⟩
          rw [← hsl] at hA hC hcut2
          have HA2 := Aside0.mk hA
          have HC2 := Aside0.mk hC
          have HSL2 := Aside0.mk (show lb.take (i + size).toNat = lb.take i.toNat ++ sl2 from by have e_ : lb.take (i + size).toNat = lb.take (i + q2).toNat := (by rcases hqq with h_ | h_; rw [h_.1]; rw [List.take_of_length_le (by omega), List.take_of_length_le (by omega)]); have h_ := List.take_append_drop i.toNat (lb.take (i + q2).toNat); rw [List.take_take, Nat.min_eq_left (by omega)] at h_; rw [e_, hsl]; exact h_.symm)
          have HSZ2 := Aside0.mk (show sl2.length ≤ 3000 from by have := HN.out; rw [hsl, List.length_drop, List.length_take]; omega)
          clear hA hC hsl b0 b1 b2 hqq hq hm
          obtain ⟨zs2, P2, bad2, hz⟩ : ∃ zs P2 bad2, feedX Pg bg sl2 = (zs, P2, bad2) := ⟨_, _, _, rfl⟩
          have HZ2 := Aside0.mk hz
          clear hz
          obtain ⟨rn2, hrn⟩ : ∃ y, y = qs ++ zs2 := ⟨_, rfl⟩
          have HRN2 := Aside0.mk hrn
          clear hrn
          have HPL2 := Aside0.mk (show Pg.length ≤ 3000 ∧ qs.length ≤ 3000 from by have h_ := feedX_small [] false (fun h => by cases h) (lb.take i.toNat); rw [HFg.out] at h_; simp only [List.length_nil, List.length_take] at h_; have := HN.out; omega)
          have HE2 := Aside0.mk (show feedX [] false (lb.take (i + size).toNat) = (rn2, P2, bad2) from by rw [HRN2.out, HSL2.out, feedX_append _ _ _ _ (fun h => by cases h), HFg.out]; simp only [HZ2.out])
          have HZL2 := Aside0.mk (show zs2.length ≤ 3000 from by have h_ := (feedX_small Pg bg HSg.out.2.1.nil sl2).1; rw [HZ2.out] at h_; have := HSZ2.out; exact Nat.le_trans h_ this)
          have HIB := Aside0.mk (show i < 3000 from by have := HN.out; omega)
          have HZB := Aside0.mk hz
          clear hz ha hb
          have e5 : IntKind.i64.wrap (i + size) = i + size := (i64_w _).trans (by have := HK.out; have := HN.out; have := HIB.out; have := HZB.out; unfold wrap64; omega)
          go_wp2_with fail
          refine (frame_Feed.calls w.heap.size w.heap.size Pf bf vf A1 _ sl1 wr zs1 P1 bad1 (by have := HL6.out; omega) HBr.out.size HSf.out.2.1 (fun W hk => Kd.C_of_reads (h1 := fun _ => rfl) (HA1.out _ (Kd.reads_of_C (came_C HRA.out HBr.out hk (by have := HL6.out; omega) (fun k h => (HSf.out.2.1.own k h).1))))) HC1.out (by have := HPL1.out; have := HSZ1.out; omega) HZ1.out).mono ?_
          rintro e x1 ⟨vz, v1_, rfl, hoz, hxg, hug, hbg, hkg⟩
          obtain ⟨Az1, cz1, ez⟩ := Kd.R_slice hoz
          subst ez
          obtain ⟨h1, h2, h3, h4⟩ := HSf.out.pre hoz hxg hug hkg
          have H1 := Aside0.mk h1
          have H2 := Aside0.mk h2
          have H3 := Aside0.mk h3
          have H4 := Aside0.mk h4
          have HXG := Aside0.mk hxg
          have HUG := Aside0.mk hug
          have HKG := Aside0.mk hkg
          have HBB := Aside0.mk (HBr.out.trans hbg)
          clear h1 h2 h3 h4 hxg hug hbg hkg hoz
          go_wp2_with (at_builtin; refine Kd.R_append_rows kRow (w0 := w) w.heap.size rfl (.tmp 79) (.tmp 80) 22 23 (.slice none 0 0) 24 rfl Try.underlying22 info_sb rfl (by decide) (by decide) u13 ps zs1 Az1 zs1.length cz1 _ _ rfl rfl H1.out H2.out (fun _ _ h => h) H3.out H4.out HBB.out HBB.out.size ?aL ?_; (case aL => have := HPL1.out; have := HZL1.out; omega); intro vr1 y1 ho hb hg hat; rw [← HRN1.out] at ho; have hp := HSf.out.post HXG.out HUG.out HKG.out H1.out ho hg; have n1_ := Aside0.mk (HSg.out.keep (fun k hk hlt => hp.2.1 k hlt (fun hf => HSD.out.1 k hf hk))); have n2_ := Aside0.mk (HSD.out.left HKE.out.1 hp.2.2); have n3_ := Aside0.mk (HKE.out.left HSD.out hp.2.1 hp.2.2); have n4_ := Aside0.mk hp.1; have n5_ := Aside0.mk hb; clear hp ho hb hg hat HSf HSg HSD HKE HBr H1 H2 H3 H4 HXG HUG HKG HBB; have HSg := n1_; have HSD := n2_; have HKE := n3_; have HSf := n4_; have HBr := n5_; clear n1_ n2_ n3_ n4_ n5_)
          go_wp2_with fail
          refine (frame_Feed.calls gg w.heap.size Pg bg vg A2 _ sl2 y1 zs2 P2 bad2 (by have := HL6.out; omega) HBr.out.size HSg.out.2.1 (fun W hk => Kd.C_of_reads (h1 := fun _ => rfl) (HA2.out _ (Kd.reads_of_C (came_C HRB.out HBr.out hk (by have := HL6.out; omega) (fun k h => (HSg.out.2.1.own k h).1))))) HC2.out (by have := HPL2.out; have := HSZ2.out; omega) HZ2.out).mono ?_
          rintro e x2 ⟨vz, v2_, rfl, hoz, hxg, hug, hbg, hkg⟩
          obtain ⟨Az2, cz2, ez⟩ := Kd.R_slice hoz
          subst ez
          obtain ⟨h1, h2, h3, h4⟩ := HSg.out.pre hoz hxg hug hkg
          have H1 := Aside0.mk h1
          have H2 := Aside0.mk h2
          have H3 := Aside0.mk h3
          have H4 := Aside0.mk h4
          have HXG := Aside0.mk hxg
          have HUG := Aside0.mk hug
          have HKG := Aside0.mk hkg
          have HBB := Aside0.mk (HBr.out.trans hbg)
          clear h1 h2 h3 h4 hxg hug hbg hkg hoz
          go_wp2_with (at_builtin; refine Kd.R_append_rows kRow (w0 := w) w.heap.size rfl (.tmp 103) (.tmp 104) 22 23 (.slice none 0 0) 24 rfl Try.underlying22 info_sb rfl (by decide) (by decide) u14 qs zs2 Az2 zs2.length cz2 _ _ rfl rfl H1.out H2.out (fun _ _ h => h) H3.out H4.out HBB.out HBB.out.size ?aL ?_; (case aL => have := HPL2.out; have := HZL2.out; omega); intro vr2 y2 ho hb hg hat; rw [← HRN2.out] at ho; have hp := HSg.out.post HXG.out HUG.out HKG.out H1.out ho hg; have n1_ := Aside0.mk (HSf.out.keep (fun k hk hlt => hp.2.1 k hlt (fun hg2 => HSD.out.1 k hk hg2))); have n2_ := Aside0.mk (HSD.out.right HKE.out.1 hp.2.2); have n3_ := Aside0.mk (HKE.out.right HSD.out hp.2.1 hp.2.2); have n4_ := Aside0.mk hp.1; have n5_ := Aside0.mk hb; clear hp ho hb hg hat HSg HSf HSD HKE HBr H1 H2 H3 H4 HXG HUG HKG HBB; have HSf := n1_; have HSD := n2_; have HKE := n3_; have HSg := n4_; have HBr := n5_; clear n1_ n2_ n3_ n4_ n5_)
          go_roundg (20000 - (i + size).toNat)
          case measure => have := HK.out; have := HN.out; have := HIB.out; have := HZB.out; omega
          case rel => exact ⟨i + size, rn1, rn2, P1, P2, bad1, bad2, v1_, v2_, _, _, rfl, rfl, rfl, ⟨by have := HK.out; have := HN.out; omega, by have := HIB.out; have := HZB.out; omega, by have := HK.out; have := HN.out; have := HIB.out; have := HZB.out; omega⟩, HE1, HE2, HSf, HSg, HSD, HKE, HBr⟩
      · skip
        by_cases hz : 10000 < size
        · skip
          have da : decide (i < (la.length : Int)) = true := decide_eq_true ha
          have db : decide (i < (lb.length : Int)) = false := decide_eq_false hb
          have dz : decide (10000 < size) = true := decide_eq_true hz
          obtain ⟨m1, hm⟩ : ∃ m : Int, m = (la.length : Int) - i := ⟨_, rfl⟩
          have ew01 : IntKind.i64.wrap ((la.length : Int) - i) = m1 := (i64_w _).trans (by have := HK.out; have := HN.out; unfold wrap64; omega)
          obtain ⟨q1, hq⟩ : ∃ q : Int, q = (if m1 < size then m1 else size) := ⟨_, rfl⟩
          have hmn1 : (if m1 < size then m1 else size) = q1 := hq.symm
          have b0 := HK.out.1
          have hqq : (q1 = size ∧ i + q1 ≤ (la.length : Int)) ∨ (q1 ≤ size ∧ i + q1 = (la.length : Int)) := by rw [hq]; split <;> omega
          have b1 : 1 ≤ q1 := by have := HN.out; rw [hq]; split <;> omega
          have b2 : i + q1 ≤ (la.length : Int) := by omega
          have ew11 : IntKind.i64.wrap (i + q1) = i + q1 := (i64_w _).trans (by have := HN.out; unfold wrap64; omega)
          obtain ⟨A1, hcut1, hA, hC⟩ := print_mid_of (P := Try.prog) (Value.int .u8) 0 23 5 .i64 .i64 Try.underlying23 HI.out.1 HI.out.2 Aa ca la i (i + q1) b0 (by omega) b2 HCA.out
          obtain ⟨sl1, hsl⟩ : ∃ sl, sl = (la.take (i + q1).toNat).drop i.toNat := ⟨_, rfl⟩
          rw [← hsl] at hA hC hcut1
          have HA1 := Aside0.mk hA
          have HC1 := Aside0.mk hC
          have HSL1 := Aside0.mk (show la.take (i + size).toNat = la.take i.toNat ++ sl1 from by have e_ : la.take (i + size).toNat = la.take (i + q1).toNat := (by rcases hqq with h_ | h_; rw [h_.1]; rw [List.take_of_length_le (by omega), List.take_of_length_le (by omega)]); have h_ := List.take_append_drop i.toNat (la.take (i + q1).toNat); rw [List.take_take, Nat.min_eq_left (by omega)] at h_; rw [e_, hsl]; exact h_.symm)
          have HSZ1 := Aside0.mk (show sl1.length ≤ 3000 from by have := HN.out; rw [hsl, List.length_drop, List.length_take]; omega)
          clear hA hC hsl b0 b1 b2 hqq hq hm
          obtain ⟨zs1, P1, bad1, hz⟩ : ∃ zs P2 bad2, feedX Pf bf sl1 = (zs, P2, bad2) := ⟨_, _, _, rfl⟩
          have HZ1 := Aside0.mk hz
          clear hz
          obtain ⟨rn1, hrn⟩ : ∃ y, y = ps ++ zs1 := ⟨_, rfl⟩
          have HRN1 := Aside0.mk hrn
          clear hrn
          have HPL1 := Aside0.mk (show Pf.length ≤ 3000 ∧ ps.length ≤ 3000 from by have h_ := feedX_small [] false (fun h => by cases h) (la.take i.toNat); rw [HFf.out] at h_; simp only [List.length_nil, List.length_take] at h_; have := HN.out; omega)
          have HE1 := Aside0.mk (show feedX [] false (la.take (i + size).toNat) = (rn1, P1, bad1) from by rw [HRN1.out, HSL1.out, feedX_append _ _ _ _ (fun h => by cases h), HFf.out]; simp only [HZ1.out])
          have HZL1 := Aside0.mk (show zs1.length ≤ 3000 from by have h_ := (feedX_small Pf bf HSf.out.2.1.nil sl1).1; rw [HZ1.out] at h_; have := HSZ1.out; exact Nat.le_trans h_ this)
          have HE2 := Aside0.mk (show feedX [] false (lb.take (i + size).toNat) = (qs, Pg, bg) from by have := HN.out; have := HK.out; have h_ := HFg.out; rw [List.take_of_length_le (by omega)] at h_ ⊢; exact h_)
          have HIB := Aside0.mk (show i < 3000 from by have := HN.out; omega)
          have HZB := Aside0.mk hz
          clear hz ha hb
          go_wp2_with fail
          refine (frame_Feed.calls w.heap.size w.heap.size Pf bf vf A1 _ sl1 wr zs1 P1 bad1 (by have := HL6.out; omega) HBr.out.size HSf.out.2.1 (fun W hk => Kd.C_of_reads (h1 := fun _ => rfl) (HA1.out _ (Kd.reads_of_C (came_C HRA.out HBr.out hk (by have := HL6.out; omega) (fun k h => (HSf.out.2.1.own k h).1))))) HC1.out (by have := HPL1.out; have := HSZ1.out; omega) HZ1.out).mono ?_
          rintro e x1 ⟨vz, v1_, rfl, hoz, hxg, hug, hbg, hkg⟩
          obtain ⟨Az1, cz1, ez⟩ := Kd.R_slice hoz
          subst ez
          obtain ⟨h1, h2, h3, h4⟩ := HSf.out.pre hoz hxg hug hkg
          have H1 := Aside0.mk h1
          have H2 := Aside0.mk h2
          have H3 := Aside0.mk h3
          have H4 := Aside0.mk h4
          have HXG := Aside0.mk hxg
          have HUG := Aside0.mk hug
          have HKG := Aside0.mk hkg
          have HBB := Aside0.mk (HBr.out.trans hbg)
          clear h1 h2 h3 h4 hxg hug hbg hkg hoz
          go_wp2_with (at_builtin; refine Kd.R_append_rows kRow (w0 := w) w.heap.size rfl (.tmp 79) (.tmp 80) 22 23 (.slice none 0 0) 24 rfl Try.underlying22 info_sb rfl (by decide) (by decide) u13 ps zs1 Az1 zs1.length cz1 _ _ rfl rfl H1.out H2.out (fun _ _ h => h) H3.out H4.out HBB.out HBB.out.size ?aL ?_; (case aL => have := HPL1.out; have := HZL1.out; omega); intro vr1 y1 ho hb hg hat; rw [← HRN1.out] at ho; have hp := HSf.out.post HXG.out HUG.out HKG.out H1.out ho hg; have n1_ := Aside0.mk (HSg.out.keep (fun k hk hlt => hp.2.1 k hlt (fun hf => HSD.out.1 k hf hk))); have n2_ := Aside0.mk (HSD.out.left HKE.out.1 hp.2.2); have n3_ := Aside0.mk (HKE.out.left HSD.out hp.2.1 hp.2.2); have n4_ := Aside0.mk hp.1; have n5_ := Aside0.mk hb; clear hp ho hb hg hat HSf HSg HSD HKE HBr H1 H2 H3 H4 HXG HUG HKG HBB; have HSg := n1_; have HSD := n2_; have HKE := n3_; have HSf := n4_; have HBr := n5_; clear n1_ n2_ n3_ n4_ n5_)
          have ga := HE1.out
          rw [List.take_of_length_le (by have := HK.out; have := HN.out; have := HZB.out; omega)] at ga
          have gb := HE2.out
          rw [List.take_of_length_le (by have := HK.out; have := HN.out; have := HZB.out; omega)] at gb
          have he := HFA.out
          rw [ga] at he
          simp only [Prod.mk.injEq] at he
          obtain ⟨rfl, rfl, rfl⟩ := he
          have he := HFB.out
          rw [gb] at he
          simp only [Prod.mk.injEq] at he
          obtain ⟨rfl, rfl, rfl⟩ := he
          have hs1 := feedX_small [] false (fun h => by cases h) la
          rw [HFA.out] at hs1
          have hs2 := feedX_small [] false (fun h => by cases h) lb
          rw [HFB.out] at hs2
          simp only [List.length_nil, Nat.zero_add] at hs1 hs2
          obtain ⟨k1, hk1⟩ := same_f _ (by have := HN.out; exact Nat.le_trans hs1.1 (by omega)) (fun x hx => Nat.le_trans (hs1.2.1 x hx) (by have := HN.out; omega))
          obtain ⟨k2, hk2⟩ := same_f _ (by have := HN.out; exact Nat.le_trans hs2.1 (by omega)) (fun x hx => Nat.le_trans (hs2.2.1 x hx) (by have := HN.out; omega))
          have HK1 := Aside0.mk hk1
          have HK2 := Aside0.mk hk2
          clear hk1 hk2 hs1 hs2 ga gb
          have HXe := Aside0.mk (Kd.R_step HOX.out (fun k hk hlt => HKE.out.2 k hlt (by have := HL6.out; have := hk.1; omega) (by have := HL6.out; have := hk.1; omega)))
          have HYe := Aside0.mk (Kd.R_step HOY.out (fun k hk hlt => HKE.out.2 k hlt (by have := HL6.out; omega) (by have := HL6.out; omega)))
          obtain ⟨Ap, cp, ep⟩ := Kd.R_slice HSf.out.2.2.2
          subst ep
          obtain ⟨Aq, cq, eq_⟩ := Kd.R_slice HSg.out.2.2.2
          subst eq_
          go_wp2_with fail
          refine (bollardlaw19_same.calls k1 Ap cp _ Ax cx _ true y1 (Kd.R_reads' HSf.out.2.2.2).2.2 (Kd.R_reads' HSf.out.2.2.2).2.1 (Kd.R_reads' HXe.out).2.2 (Kd.R_reads' HXe.out).2.1 HK1.out).mono ?_
          rintro e z1 ⟨rfl, ⟨t1, rfl⟩⟩
          go_wp2_with fail
          refine (bollardlaw19_same.calls k2 Aq cq _ Ay cy _ true _ (Kd.C_drewN (Kd.R_reads' HSg.out.2.2.2).2.2 t1) (Kd.R_reads' HSg.out.2.2.2).2.1 (Kd.C_drewN (Kd.R_reads' HYe.out).2.2 t1) (Kd.R_reads' HYe.out).2.1 HK2.out).mono ?_
          rintro e z2 ⟨rfl, ⟨t2, rfl⟩⟩
          go_wp2_with fail
          refine (bollardlaw19_awake.calls _).mono ?_
          rintro e w9 ⟨rfl, hb9⟩
          have HB9 := Aside0.mk (below_step (pw_below_drewN HBr.out _) hb9)
          clear hb9
          go_wp2
          go_ret
          exact ⟨rfl, HB9.out⟩
        · skip
          have da : decide (i < (la.length : Int)) = true := decide_eq_true ha
          have db : decide (i < (lb.length : Int)) = false := decide_eq_false hb
          have dz : decide (10000 < size) = false := decide_eq_false hz
          obtain ⟨m1, hm⟩ : ∃ m : Int, m = (la.length : Int) - i := ⟨_, rfl⟩
          have ew01 : IntKind.i64.wrap ((la.length : Int) - i) = m1 := (i64_w _).trans (by have := HK.out; have := HN.out; unfold wrap64; omega)
          obtain ⟨q1, hq⟩ : ∃ q : Int, q = (if m1 < size then m1 else size) := ⟨_, rfl⟩
          have hmn1 : (if m1 < size then m1 else size) = q1 := hq.symm
          have b0 := HK.out.1
          have hqq : (q1 = size ∧ i + q1 ≤ (la.length : Int)) ∨ (q1 ≤ size ∧ i + q1 = (la.length : Int)) := by rw [hq]; split <;> omega
          have b1 : 1 ≤ q1 := by have := HN.out; rw [hq]; split <;> omega
          have b2 : i + q1 ≤ (la.length : Int) := by omega
          have ew11 : IntKind.i64.wrap (i + q1) = i + q1 := (i64_w _).trans (by have := HN.out; unfold wrap64; omega)
          obtain ⟨A1, hcut1, hA, hC⟩ := print_mid_of (P := Try.prog) (Value.int .u8) 0 23 5 .i64 .i64 Try.underlying23 HI.out.1 HI.out.2 Aa ca la i (i + q1) b0 (by omega) b2 HCA.out
          obtain ⟨sl1, hsl⟩ : ∃ sl, sl = (la.take (i + q1).toNat).drop i.toNat := ⟨_, rfl⟩
          rw [← hsl] at hA hC hcut1
          have HA1 := Aside0.mk hA
          have HC1 := Aside0.mk hC
          have HSL1 := Aside0.mk (show la.take (i + size).toNat = la.take i.toNat ++ sl1 from by have e_ : la.take (i + size).toNat = la.take (i + q1).toNat := (by rcases hqq with h_ | h_; rw [h_.1]; rw [List.take_of_length_le (by omega), List.take_of_length_le (by omega)]); have h_ := List.take_append_drop i.toNat (la.take (i + q1).toNat); rw [List.take_take, Nat.min_eq_left (by omega)] at h_; rw [e_, hsl]; exact h_.symm)
          have HSZ1 := Aside0.mk (show sl1.length ≤ 3000 from by have := HN.out; rw [hsl, List.length_drop, List.length_take]; omega)
          clear hA hC hsl b0 b1 b2 hqq hq hm
          obtain ⟨zs1, P1, bad1, hz⟩ : ∃ zs P2 bad2, feedX Pf bf sl1 = (zs, P2, bad2) := ⟨_, _, _, rfl⟩
          have HZ1 := Aside0.mk hz
          clear hz
          obtain ⟨rn1, hrn⟩ : ∃ y, y = ps ++ zs1 := ⟨_, rfl⟩
          have HRN1 := Aside0.mk hrn
          clear hrn
          have HPL1 := Aside0.mk (show Pf.length ≤ 3000 ∧ ps.length ≤ 3000 from by have h_ := feedX_small [] false (fun h => by cases h) (la.take i.toNat); rw [HFf.out] at h_; simp only [List.length_nil, List.length_take] at h_; have := HN.out; omega)
          have HE1 := Aside0.mk (show feedX [] false (la.take (i + size).toNat) = (rn1, P1, bad1) from by rw [HRN1.out, HSL1.out, feedX_append _ _ _ _ (fun h => by cases h), HFf.out]; simp only [HZ1.out])
          have HZL1 := Aside0.mk (show zs1.length ≤ 3000 from by have h_ := (feedX_small Pf bf HSf.out.2.1.nil sl1).1; rw [HZ1.out] at h_; have := HSZ1.out; exact Nat.le_trans h_ this)
          have HE2 := Aside0.mk (show feedX [] false (lb.take (i + size).toNat) = (qs, Pg, bg) from by have := HN.out; have := HK.out; have h_ := HFg.out; rw [List.take_of_length_le (by omega)] at h_ ⊢; exact h_)
          have HIB := Aside0.mk (show i < 3000 from by have := HN.out; omega)
          have HZB := Aside0.mk hz
          clear hz ha hb
          have e5 : IntKind.i64.wrap (i + size) = i + size := (i64_w _).trans (by have := HK.out; have := HN.out; have := HIB.out; have := HZB.out; unfold wrap64; omega)
          go_wp2_with fail
          refine (frame_Feed.calls w.heap.size w.heap.size Pf bf vf A1 _ sl1 wr zs1 P1 bad1 (by have := HL6.out; omega) HBr.out.size HSf.out.2.1 (fun W hk => Kd.C_of_reads (h1 := fun _ => rfl) (HA1.out _ (Kd.reads_of_C (came_C HRA.out HBr.out hk (by have := HL6.out; omega) (fun k h => (HSf.out.2.1.own k h).1))))) HC1.out (by have := HPL1.out; have := HSZ1.out; omega) HZ1.out).mono ?_
          rintro e x1 ⟨vz, v1_, rfl, hoz, hxg, hug, hbg, hkg⟩
          obtain ⟨Az1, cz1, ez⟩ := Kd.R_slice hoz
          subst ez
          obtain ⟨h1, h2, h3, h4⟩ := HSf.out.pre hoz hxg hug hkg
          have H1 := Aside0.mk h1
          have H2 := Aside0.mk h2
          have H3 := Aside0.mk h3
          have H4 := Aside0.mk h4
          have HXG := Aside0.mk hxg
          have HUG := Aside0.mk hug
          have HKG := Aside0.mk hkg
          have HBB := Aside0.mk (HBr.out.trans hbg)
          clear h1 h2 h3 h4 hxg hug hbg hkg hoz
          go_wp2_with (at_builtin; refine Kd.R_append_rows kRow (w0 := w) w.heap.size rfl (.tmp 79) (.tmp 80) 22 23 (.slice none 0 0) 24 rfl Try.underlying22 info_sb rfl (by decide) (by decide) u13 ps zs1 Az1 zs1.length cz1 _ _ rfl rfl H1.out H2.out (fun _ _ h => h) H3.out H4.out HBB.out HBB.out.size ?aL ?_; (case aL => have := HPL1.out; have := HZL1.out; omega); intro vr1 y1 ho hb hg hat; rw [← HRN1.out] at ho; have hp := HSf.out.post HXG.out HUG.out HKG.out H1.out ho hg; have n1_ := Aside0.mk (HSg.out.keep (fun k hk hlt => hp.2.1 k hlt (fun hf => HSD.out.1 k hf hk))); have n2_ := Aside0.mk (HSD.out.left HKE.out.1 hp.2.2); have n3_ := Aside0.mk (HKE.out.left HSD.out hp.2.1 hp.2.2); have n4_ := Aside0.mk hp.1; have n5_ := Aside0.mk hb; clear hp ho hb hg hat HSf HSg HSD HKE HBr H1 H2 H3 H4 HXG HUG HKG HBB; have HSg := n1_; have HSD := n2_; have HKE := n3_; have HSf := n4_; have HBr := n5_; clear n1_ n2_ n3_ n4_ n5_)
          go_roundg (20000 - (i + size).toNat)
          case measure => have := HK.out; have := HN.out; have := HIB.out; have := HZB.out; omega
          case rel => exact ⟨i + size, rn1, qs, P1, Pg, bad1, bg, v1_, vg, _, _, rfl, rfl, rfl, ⟨by have := HK.out; have := HN.out; omega, by have := HIB.out; have := HZB.out; omega, by have := HK.out; have := HN.out; have := HIB.out; have := HZB.out; omega⟩, HE1, HE2, HSf, HSg, HSD, HKE, HBr⟩
    · by_cases hb : i < (lb.length : Int)
      · skip
        by_cases hz : 10000 < size
        · skip
          have da : decide (i < (la.length : Int)) = false := decide_eq_false ha
          have db : decide (i < (lb.length : Int)) = true := decide_eq_true hb
          have dz : decide (10000 < size) = true := decide_eq_true hz
          have HE1 := Aside0.mk (show feedX [] false (la.take (i + size).toNat) = (ps, Pf, bf) from by have := HN.out; have := HK.out; have h_ := HFf.out; rw [List.take_of_length_le (by omega)] at h_ ⊢; exact h_)
          obtain ⟨m2, hm⟩ : ∃ m : Int, m = (lb.length : Int) - i := ⟨_, rfl⟩
          have ew02 : IntKind.i64.wrap ((lb.length : Int) - i) = m2 := (i64_w _).trans (by have := HK.out; have := HN.out; unfold wrap64; omega)
          obtain ⟨q2, hq⟩ : ∃ q : Int, q = (if m2 < size then m2 else size) := ⟨_, rfl⟩
          have hmn2 : (if m2 < size then m2 else size) = q2 := hq.symm
          have b0 := HK.out.1
          have hqq : (q2 = size ∧ i + q2 ≤ (lb.length : Int)) ∨ (q2 ≤ size ∧ i + q2 = (lb.length : Int)) := by rw [hq]; split <;> omega
          have b1 : 1 ≤ q2 := by have := HN.out; rw [hq]; split <;> omega
          have b2 : i + q2 ≤ (lb.length : Int) := by omega
          have ew12 : IntKind.i64.wrap (i + q2) = i + q2 := (i64_w _).trans (by have := HN.out; unfold wrap64; omega)
          obtain ⟨A2, hcut2, hA, hC⟩ := print_mid_of (P := Try.prog) (Value.int .u8) 0 23 5 .i64 .i64 Try.underlying23 HI.out.1 HI.out.2 Ab cb lb i (i + q2) b0 (by omega) b2 HCB.out
          obtain ⟨sl2, hsl⟩ : ∃ sl, sl = (lb.take (i + q2).toNat).drop i.toNat := ⟨_, rfl⟩
          rw [← hsl] at hA hC hcut2
          have HA2 := Aside0.mk hA
          have HC2 := Aside0.mk hC
          have HSL2 := Aside0.mk (show lb.take (i + size).toNat = lb.take i.toNat ++ sl2 from by have e_ : lb.take (i + size).toNat = lb.take (i + q2).toNat := (by rcases hqq with h_ | h_; rw [h_.1]; rw [List.take_of_length_le (by omega), List.take_of_length_le (by omega)]); have h_ := List.take_append_drop i.toNat (lb.take (i + q2).toNat); rw [List.take_take, Nat.min_eq_left (by omega)] at h_; rw [e_, hsl]; exact h_.symm)
          have HSZ2 := Aside0.mk (show sl2.length ≤ 3000 from by have := HN.out; rw [hsl, List.length_drop, List.length_take]; omega)
          clear hA hC hsl b0 b1 b2 hqq hq hm
          obtain ⟨zs2, P2, bad2, hz⟩ : ∃ zs P2 bad2, feedX Pg bg sl2 = (zs, P2, bad2) := ⟨_, _, _, rfl⟩
          have HZ2 := Aside0.mk hz
          clear hz
          obtain ⟨rn2, hrn⟩ : ∃ y, y = qs ++ zs2 := ⟨_, rfl⟩
          have HRN2 := Aside0.mk hrn
          clear hrn
          have HPL2 := Aside0.mk (show Pg.length ≤ 3000 ∧ qs.length ≤ 3000 from by have h_ := feedX_small [] false (fun h => by cases h) (lb.take i.toNat); rw [HFg.out] at h_; simp only [List.length_nil, List.length_take] at h_; have := HN.out; omega)
          have HE2 := Aside0.mk (show feedX [] false (lb.take (i + size).toNat) = (rn2, P2, bad2) from by rw [HRN2.out, HSL2.out, feedX_append _ _ _ _ (fun h => by cases h), HFg.out]; simp only [HZ2.out])
          have HZL2 := Aside0.mk (show zs2.length ≤ 3000 from by have h_ := (feedX_small Pg bg HSg.out.2.1.nil sl2).1; rw [HZ2.out] at h_; have := HSZ2.out; exact Nat.le_trans h_ this)
          have HIB := Aside0.mk (show i < 3000 from by have := HN.out; omega)
          have HZB := Aside0.mk hz
          clear hz ha hb
          go_wp2_with fail
          refine (frame_Feed.calls gg w.heap.size Pg bg vg A2 _ sl2 wr zs2 P2 bad2 (by have := HL6.out; omega) HBr.out.size HSg.out.2.1 (fun W hk => Kd.C_of_reads (h1 := fun _ => rfl) (HA2.out _ (Kd.reads_of_C (came_C HRB.out HBr.out hk (by have := HL6.out; omega) (fun k h => (HSg.out.2.1.own k h).1))))) HC2.out (by have := HPL2.out; have := HSZ2.out; omega) HZ2.out).mono ?_
          rintro e x2 ⟨vz, v2_, rfl, hoz, hxg, hug, hbg, hkg⟩
          obtain ⟨Az2, cz2, ez⟩ := Kd.R_slice hoz
          subst ez
          obtain ⟨h1, h2, h3, h4⟩ := HSg.out.pre hoz hxg hug hkg
          have H1 := Aside0.mk h1
          have H2 := Aside0.mk h2
          have H3 := Aside0.mk h3
          have H4 := Aside0.mk h4
          have HXG := Aside0.mk hxg
          have HUG := Aside0.mk hug
          have HKG := Aside0.mk hkg
          have HBB := Aside0.mk (HBr.out.trans hbg)
          clear h1 h2 h3 h4 hxg hug hbg hkg hoz
          go_wp2_with (at_builtin; refine Kd.R_append_rows kRow (w0 := w) w.heap.size rfl (.tmp 103) (.tmp 104) 22 23 (.slice none 0 0) 24 rfl Try.underlying22 info_sb rfl (by decide) (by decide) u14 qs zs2 Az2 zs2.length cz2 _ _ rfl rfl H1.out H2.out (fun _ _ h => h) H3.out H4.out HBB.out HBB.out.size ?aL ?_; (case aL => have := HPL2.out; have := HZL2.out; omega); intro vr2 y2 ho hb hg hat; rw [← HRN2.out] at ho; have hp := HSg.out.post HXG.out HUG.out HKG.out H1.out ho hg; have n1_ := Aside0.mk (HSf.out.keep (fun k hk hlt => hp.2.1 k hlt (fun hg2 => HSD.out.1 k hk hg2))); have n2_ := Aside0.mk (HSD.out.right HKE.out.1 hp.2.2); have n3_ := Aside0.mk (HKE.out.right HSD.out hp.2.1 hp.2.2); have n4_ := Aside0.mk hp.1; have n5_ := Aside0.mk hb; clear hp ho hb hg hat HSg HSf HSD HKE HBr H1 H2 H3 H4 HXG HUG HKG HBB; have HSf := n1_; have HSD := n2_; have HKE := n3_; have HSg := n4_; have HBr := n5_; clear n1_ n2_ n3_ n4_ n5_)
          have ga := HE1.out
          rw [List.take_of_length_le (by have := HK.out; have := HN.out; have := HZB.out; omega)] at ga
          have gb := HE2.out
          rw [List.take_of_length_le (by have := HK.out; have := HN.out; have := HZB.out; omega)] at gb
          have he := HFA.out
          rw [ga] at he
          simp only [Prod.mk.injEq] at he
          obtain ⟨rfl, rfl, rfl⟩ := he
          have he := HFB.out
          rw [gb] at he
          simp only [Prod.mk.injEq] at he
          obtain ⟨rfl, rfl, rfl⟩ := he
          have hs1 := feedX_small [] false (fun h => by cases h) la
          rw [HFA.out] at hs1
          have hs2 := feedX_small [] false (fun h => by cases h) lb
          rw [HFB.out] at hs2
          simp only [List.length_nil, Nat.zero_add] at hs1 hs2
          obtain ⟨k1, hk1⟩ := same_f _ (by have := HN.out; exact Nat.le_trans hs1.1 (by omega)) (fun x hx => Nat.le_trans (hs1.2.1 x hx) (by have := HN.out; omega))
          obtain ⟨k2, hk2⟩ := same_f _ (by have := HN.out; exact Nat.le_trans hs2.1 (by omega)) (fun x hx => Nat.le_trans (hs2.2.1 x hx) (by have := HN.out; omega))
          have HK1 := Aside0.mk hk1
          have HK2 := Aside0.mk hk2
          clear hk1 hk2 hs1 hs2 ga gb
          have HXe := Aside0.mk (Kd.R_step HOX.out (fun k hk hlt => HKE.out.2 k hlt (by have := HL6.out; have := hk.1; omega) (by have := HL6.out; have := hk.1; omega)))
          have HYe := Aside0.mk (Kd.R_step HOY.out (fun k hk hlt => HKE.out.2 k hlt (by have := HL6.out; omega) (by have := HL6.out; omega)))
          obtain ⟨Ap, cp, ep⟩ := Kd.R_slice HSf.out.2.2.2
          subst ep
          obtain ⟨Aq, cq, eq_⟩ := Kd.R_slice HSg.out.2.2.2
          subst eq_
          go_wp2_with fail
          refine (bollardlaw19_same.calls k1 Ap cp _ Ax cx _ true y2 (Kd.R_reads' HSf.out.2.2.2).2.2 (Kd.R_reads' HSf.out.2.2.2).2.1 (Kd.R_reads' HXe.out).2.2 (Kd.R_reads' HXe.out).2.1 HK1.out).mono ?_
          rintro e z1 ⟨rfl, ⟨t1, rfl⟩⟩
          go_wp2_with fail
          refine (bollardlaw19_same.calls k2 Aq cq _ Ay cy _ true _ (Kd.C_drewN (Kd.R_reads' HSg.out.2.2.2).2.2 t1) (Kd.R_reads' HSg.out.2.2.2).2.1 (Kd.C_drewN (Kd.R_reads' HYe.out).2.2 t1) (Kd.R_reads' HYe.out).2.1 HK2.out).mono ?_
          rintro e z2 ⟨rfl, ⟨t2, rfl⟩⟩
          go_wp2_with fail
          refine (bollardlaw19_awake.calls _).mono ?_
          rintro e w9 ⟨rfl, hb9⟩
          have HB9 := Aside0.mk (below_step (pw_below_drewN HBr.out _) hb9)
          clear hb9
          go_wp2
          go_ret
          exact ⟨rfl, HB9.out⟩
        · skip
          have da : decide (i < (la.length : Int)) = false := decide_eq_false ha
          have db : decide (i < (lb.length : Int)) = true := decide_eq_true hb
          have dz : decide (10000 < size) = false := decide_eq_false hz
          have HE1 := Aside0.mk (show feedX [] false (la.take (i + size).toNat) = (ps, Pf, bf) from by have := HN.out; have := HK.out; have h_ := HFf.out; rw [List.take_of_length_le (by omega)] at h_ ⊢; exact h_)
          obtain ⟨m2, hm⟩ : ∃ m : Int, m = (lb.length : Int) - i := ⟨_, rfl⟩
          have ew02 : IntKind.i64.wrap ((lb.length : Int) - i) = m2 := (i64_w _).trans (by have := HK.out; have := HN.out; unfold wrap64; omega)
          obtain ⟨q2, hq⟩ : ∃ q : Int, q = (if m2 < size then m2 else size) := ⟨_, rfl⟩
          have hmn2 : (if m2 < size then m2 else size) = q2 := hq.symm
          have b0 := HK.out.1
          have hqq : (q2 = size ∧ i + q2 ≤ (lb.length : Int)) ∨ (q2 ≤ size ∧ i + q2 = (lb.length : Int)) := by rw [hq]; split <;> omega
          have b1 : 1 ≤ q2 := by have := HN.out; rw [hq]; split <;> omega
          have b2 : i + q2 ≤ (lb.length : Int) := by omega
          have ew12 : IntKind.i64.wrap (i + q2) = i + q2 := (i64_w _).trans (by have := HN.out; unfold wrap64; omega)
          obtain ⟨A2, hcut2, hA, hC⟩ := print_mid_of (P := Try.prog) (Value.int .u8) 0 23 5 .i64 .i64 Try.underlying23 HI.out.1 HI.out.2 Ab cb lb i (i + q2) b0 (by omega) b2 HCB.out
          obtain ⟨sl2, hsl⟩ : ∃ sl, sl = (lb.take (i + q2).toNat).drop i.toNat := ⟨_, rfl⟩
          rw [← hsl] at hA hC hcut2
          have HA2 := Aside0.mk hA
          have HC2 := Aside0.mk hC
          have HSL2 := Aside0.mk (show lb.take (i + size).toNat = lb.take i.toNat ++ sl2 from by have e_ : lb.take (i + size).toNat = lb.take (i + q2).toNat := (by rcases hqq with h_ | h_; rw [h_.1]; rw [List.take_of_length_le (by omega), List.take_of_length_le (by omega)]); have h_ := List.take_append_drop i.toNat (lb.take (i + q2).toNat); rw [List.take_take, Nat.min_eq_left (by omega)] at h_; rw [e_, hsl]; exact h_.symm)
          have HSZ2 := Aside0.mk (show sl2.length ≤ 3000 from by have := HN.out; rw [hsl, List.length_drop, List.length_take]; omega)
          clear hA hC hsl b0 b1 b2 hqq hq hm
          obtain ⟨zs2, P2, bad2, hz⟩ : ∃ zs P2 bad2, feedX Pg bg sl2 = (zs, P2, bad2) := ⟨_, _, _, rfl⟩
          have HZ2 := Aside0.mk hz
          clear hz
          obtain ⟨rn2, hrn⟩ : ∃ y, y = qs ++ zs2 := ⟨_, rfl⟩
          have HRN2 := Aside0.mk hrn
          clear hrn
          have HPL2 := Aside0.mk (show Pg.length ≤ 3000 ∧ qs.length ≤ 3000 from by have h_ := feedX_small [] false (fun h => by cases h) (lb.take i.toNat); rw [HFg.out] at h_; simp only [List.length_nil, List.length_take] at h_; have := HN.out; omega)
          have HE2 := Aside0.mk (show feedX [] false (lb.take (i + size).toNat) = (rn2, P2, bad2) from by rw [HRN2.out, HSL2.out, feedX_append _ _ _ _ (fun h => by cases h), HFg.out]; simp only [HZ2.out])
          have HZL2 := Aside0.mk (show zs2.length ≤ 3000 from by have h_ := (feedX_small Pg bg HSg.out.2.1.nil sl2).1; rw [HZ2.out] at h_; have := HSZ2.out; exact Nat.le_trans h_ this)
          have HIB := Aside0.mk (show i < 3000 from by have := HN.out; omega)
          have HZB := Aside0.mk hz
          clear hz ha hb
          have e5 : IntKind.i64.wrap (i + size) = i + size := (i64_w _).trans (by have := HK.out; have := HN.out; have := HIB.out; have := HZB.out; unfold wrap64; omega)
          go_wp2_with fail
          refine (frame_Feed.calls gg w.heap.size Pg bg vg A2 _ sl2 wr zs2 P2 bad2 (by have := HL6.out; omega) HBr.out.size HSg.out.2.1 (fun W hk => Kd.C_of_reads (h1 := fun _ => rfl) (HA2.out _ (Kd.reads_of_C (came_C HRB.out HBr.out hk (by have := HL6.out; omega) (fun k h => (HSg.out.2.1.own k h).1))))) HC2.out (by have := HPL2.out; have := HSZ2.out; omega) HZ2.out).mono ?_
          rintro e x2 ⟨vz, v2_, rfl, hoz, hxg, hug, hbg, hkg⟩
          obtain ⟨Az2, cz2, ez⟩ := Kd.R_slice hoz
          subst ez
          obtain ⟨h1, h2, h3, h4⟩ := HSg.out.pre hoz hxg hug hkg
          have H1 := Aside0.mk h1
          have H2 := Aside0.mk h2
          have H3 := Aside0.mk h3
          have H4 := Aside0.mk h4
          have HXG := Aside0.mk hxg
          have HUG := Aside0.mk hug
          have HKG := Aside0.mk hkg
          have HBB := Aside0.mk (HBr.out.trans hbg)
          clear h1 h2 h3 h4 hxg hug hbg hkg hoz
          go_wp2_with (at_builtin; refine Kd.R_append_rows kRow (w0 := w) w.heap.size rfl (.tmp 103) (.tmp 104) 22 23 (.slice none 0 0) 24 rfl Try.underlying22 info_sb rfl (by decide) (by decide) u14 qs zs2 Az2 zs2.length cz2 _ _ rfl rfl H1.out H2.out (fun _ _ h => h) H3.out H4.out HBB.out HBB.out.size ?aL ?_; (case aL => have := HPL2.out; have := HZL2.out; omega); intro vr2 y2 ho hb hg hat; rw [← HRN2.out] at ho; have hp := HSg.out.post HXG.out HUG.out HKG.out H1.out ho hg; have n1_ := Aside0.mk (HSf.out.keep (fun k hk hlt => hp.2.1 k hlt (fun hg2 => HSD.out.1 k hk hg2))); have n2_ := Aside0.mk (HSD.out.right HKE.out.1 hp.2.2); have n3_ := Aside0.mk (HKE.out.right HSD.out hp.2.1 hp.2.2); have n4_ := Aside0.mk hp.1; have n5_ := Aside0.mk hb; clear hp ho hb hg hat HSg HSf HSD HKE HBr H1 H2 H3 H4 HXG HUG HKG HBB; have HSf := n1_; have HSD := n2_; have HKE := n3_; have HSg := n4_; have HBr := n5_; clear n1_ n2_ n3_ n4_ n5_)
          go_roundg (20000 - (i + size).toNat)
          case measure => have := HK.out; have := HN.out; have := HIB.out; have := HZB.out; omega
          case rel => exact ⟨i + size, ps, rn2, Pf, P2, bf, bad2, vf, v2_, _, _, rfl, rfl, rfl, ⟨by have := HK.out; have := HN.out; omega, by have := HIB.out; have := HZB.out; omega, by have := HK.out; have := HN.out; have := HIB.out; have := HZB.out; omega⟩, HE1, HE2, HSf, HSg, HSD, HKE, HBr⟩
      · skip
        have da : decide (i < (la.length : Int)) = false := decide_eq_false ha
        have db : decide (i < (lb.length : Int)) = false := decide_eq_false hb
        have ga := HFf.out
        rw [List.take_of_length_le (by have := HK.out; omega)] at ga
        have gb := HFg.out
        rw [List.take_of_length_le (by have := HK.out; omega)] at gb
        have he := HFA.out
        rw [ga] at he
        simp only [Prod.mk.injEq] at he
        obtain ⟨rfl, rfl, rfl⟩ := he
        have he := HFB.out
        rw [gb] at he
        simp only [Prod.mk.injEq] at he
        obtain ⟨rfl, rfl, rfl⟩ := he
        have hs1 := feedX_small [] false (fun h => by cases h) la
        rw [HFA.out] at hs1
        have hs2 := feedX_small [] false (fun h => by cases h) lb
        rw [HFB.out] at hs2
        simp only [List.length_nil, Nat.zero_add] at hs1 hs2
        obtain ⟨k1, hk1⟩ := same_f _ (by have := HN.out; exact Nat.le_trans hs1.1 (by omega)) (fun x hx => Nat.le_trans (hs1.2.1 x hx) (by have := HN.out; omega))
        obtain ⟨k2, hk2⟩ := same_f _ (by have := HN.out; exact Nat.le_trans hs2.1 (by omega)) (fun x hx => Nat.le_trans (hs2.2.1 x hx) (by have := HN.out; omega))
        have HK1 := Aside0.mk hk1
        have HK2 := Aside0.mk hk2
        clear hk1 hk2 hs1 hs2 ga gb
        have HXe := Aside0.mk (Kd.R_step HOX.out (fun k hk hlt => HKE.out.2 k hlt (by have := HL6.out; have := hk.1; omega) (by have := HL6.out; have := hk.1; omega)))
        have HYe := Aside0.mk (Kd.R_step HOY.out (fun k hk hlt => HKE.out.2 k hlt (by have := HL6.out; omega) (by have := HL6.out; omega)))
        obtain ⟨Ap, cp, ep⟩ := Kd.R_slice HSf.out.2.2.2
        subst ep
        obtain ⟨Aq, cq, eq_⟩ := Kd.R_slice HSg.out.2.2.2
        subst eq_
        go_wp2_with fail
        refine (bollardlaw19_same.calls k1 Ap cp _ Ax cx _ true wr (Kd.R_reads' HSf.out.2.2.2).2.2 (Kd.R_reads' HSf.out.2.2.2).2.1 (Kd.R_reads' HXe.out).2.2 (Kd.R_reads' HXe.out).2.1 HK1.out).mono ?_
        rintro e z1 ⟨rfl, ⟨t1, rfl⟩⟩
        go_wp2_with fail
        refine (bollardlaw19_same.calls k2 Aq cq _ Ay cy _ true _ (Kd.C_drewN (Kd.R_reads' HSg.out.2.2.2).2.2 t1) (Kd.R_reads' HSg.out.2.2.2).2.1 (Kd.C_drewN (Kd.R_reads' HYe.out).2.2 t1) (Kd.R_reads' HYe.out).2.1 HK2.out).mono ?_
        rintro e z2 ⟨rfl, ⟨t2, rfl⟩⟩
        go_wp2_with fail
        refine (bollardlaw19_awake.calls _).mono ?_
        rintro e w9 ⟨rfl, hb9⟩
        have HB9 := Aside0.mk (below_step (pw_below_drewN HBr.out _) hb9)
        clear hb9
        go_wp2
        go_ret
        exact ⟨rfl, HB9.out⟩
set_option maxHeartbeats 1000000 in
set_option maxRecDepth 100000 in
theorem frameapart_guard0 (Aa : Option Addr) (ca : Nat) (la : List Int) (Ab : Option Addr) (cb : Nat) (lb : List Int) (size : Int) (w : World) (h0 : 3000 < la.length) :
    Calls Try.prog 5 #[.slice Aa la.length ca, .slice Ab lb.length cb, .int .i64 size] w fun e w' => e = .returned (.bool true) ∧ Below w.heap.size w w' := by
  have f0 : decide (3000 < (la.length : Int)) = true := decide_eq_true (by omega)
  clear h0
  go_enter Try.func5, Try.ntmps5
  go_wp2_with fail
  refine (bollardlaw19_awake.calls _).mono ?_
  rintro e w9 ⟨rfl, hb9⟩
  have HB9 := Aside0.mk (hb9)
  clear hb9
  go_wp2
  go_ret
  exact ⟨rfl, HB9.out⟩
set_option maxHeartbeats 1000000 in
set_option maxRecDepth 100000 in
theorem frameapart_guard1 (Aa : Option Addr) (ca : Nat) (la : List Int) (Ab : Option Addr) (cb : Nat) (lb : List Int) (size : Int) (w : World) (h0 : la.length ≤ 3000) (h1 : 3000 < lb.length) :
    Calls Try.prog 5 #[.slice Aa la.length ca, .slice Ab lb.length cb, .int .i64 size] w fun e w' => e = .returned (.bool true) ∧ Below w.heap.size w w' := by
  have f0 : decide (3000 < (la.length : Int)) = false := decide_eq_false (by omega)
  have f1 : decide (3000 < (lb.length : Int)) = true := decide_eq_true (by omega)
  clear h0 h1
  go_enter Try.func5, Try.ntmps5
  go_wp2_with fail
  refine (bollardlaw19_awake.calls _).mono ?_
  rintro e w9 ⟨rfl, hb9⟩
  have HB9 := Aside0.mk (hb9)
  clear hb9
  go_wp2
  go_ret
  exact ⟨rfl, HB9.out⟩
set_option maxHeartbeats 1000000 in
set_option maxRecDepth 100000 in
theorem frameapart_guard2 (Aa : Option Addr) (ca : Nat) (la : List Int) (Ab : Option Addr) (cb : Nat) (lb : List Int) (size : Int) (w : World) (h0 : la.length ≤ 3000) (h1 : lb.length ≤ 3000) (h2 : size < 1) :
    Calls Try.prog 5 #[.slice Aa la.length ca, .slice Ab lb.length cb, .int .i64 size] w fun e w' => e = .returned (.bool true) ∧ Below w.heap.size w w' := by
  have f0 : decide (3000 < (la.length : Int)) = false := decide_eq_false (by omega)
  have f1 : decide (3000 < (lb.length : Int)) = false := decide_eq_false (by omega)
  have f2 : decide (size < 1) = true := decide_eq_true (by omega)
  clear h0 h1 h2
  go_enter Try.func5, Try.ntmps5
  go_wp2_with fail
  refine (bollardlaw19_awake.calls _).mono ?_
  rintro e w9 ⟨rfl, hb9⟩
  have HB9 := Aside0.mk (hb9)
  clear hb9
  go_wp2
  go_ret
  exact ⟨rfl, HB9.out⟩
def bollardlaw19_FrameApart.f (la lb : List Int) (size : Int) : Option Bool := if size ≤ 9223372036854775807 then some true else none
theorem bollardlaw19_FrameApart.calls (Aa : Option Addr) (ca : Nat) (la : List Int) (Ab : Option Addr) (cb : Nat) (lb : List Int) (size : Int) (r : Bool) (w : World) (hra : Kd.C (Kd.int .u8) w Aa la.length la) (hca : la.length ≤ ca) (hrb : Kd.C (Kd.int .u8) w Ab lb.length lb) (hcb : lb.length ≤ cb) (h : bollardlaw19_FrameApart.f la lb size = some r) :
    Calls Try.prog 5 #[.slice Aa la.length ca, .slice Ab lb.length cb, .int .i64 size] w fun e w' => e = .returned (.bool r) ∧ Below w.heap.size w w' := by
  unfold bollardlaw19_FrameApart.f at h
  split at h
  case isFalse => cases h
  rename_i hb
  obtain rfl := Option.some.inj h
  by_cases h0 : 3000 < la.length
  case pos => exact frameapart_guard0 Aa ca la Ab cb lb size w (by omega)
  by_cases h1 : 3000 < lb.length
  case pos => exact frameapart_guard1 Aa ca la Ab cb lb size w (by omega) (by omega)
  by_cases h2 : size < 1
  case pos => exact frameapart_guard2 Aa ca la Ab cb lb size w (by omega) (by omega) (by omega)
  exact frameapart_main Aa ca la Ab cb lb size w hra hca hrb hcb hb (by omega) (by omega) (by omega)

/-- THE ONE PURE STATEMENT of bollardlaw19_FrameApart: mine. -/
def bollardlaw19_FrameApart.Pure : Prop := ∀ (l0 : List Int) (l1 : List Int) (a2 : Int), (l0.length * 1 ≤ 140737488351232 ∧ ∀ y0 ∈ l0, (Lit.int .u8 y0).wf = true) → (l1.length * 1 ≤ 140737488351232 ∧ ∀ y0 ∈ l1, (Lit.int .u8 y0).wf = true) → (Lit.int .i64 a2).wf = true → bollardlaw19_FrameApart.f l0 l1 a2 = some true

end Go.Proofs.Ytgicdiblfcnelaa.PFr
