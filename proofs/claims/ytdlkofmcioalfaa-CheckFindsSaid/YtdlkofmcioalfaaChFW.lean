import Derived.Test.YtdlkofmcioalfaaChW
import Derived.Test.YtdlkofmcioalfaaChFP
import Derived.Test.YtdlkofmcioalfaaChLW
import Derived.Outline
import Derived.StillTailTactics
import Derived.RegionTactic
import Derived.BigRegion
import Derived.Lib.BufferWrite
namespace Go.Proofs.Ytdlkofmcioalfaa.PCk
open Go.RowKit Go.Proofs.YtdlkofmcioalfaaW.PrintWords Go.Proofs.YtdlkofmcioalfaaW.PrintLast Go.Proofs.YtdlkofmcioalfaaW.PrintMore
attribute [local go_sem] max2_int min2_int max_two min_two max_three min_three max_four min_four
set_option linter.unusedVariables false
set_option linter.unusedSimpArgs false

/-! ### CheckFinds -/
theorem LogP.grownR {α : Type} {d : Kd α} {e base : Nat} {ok : Nat → Prop} {w w1 : World} {g : Nat} {E R S : Value → Option Value} {v : Value} {xs : List α} (h : LogP w g E R S) (hR : Kd.R d e w base ok v xs) (he : e ≠ 59) (hg : w.grownBy w1 v.ownBlock) : LogP w1 g E R S := by
  cases hv : v.ownBlock with
  | none => rw [hv] at hg; exact h.below hg.toBelow
  | some b =>
    rw [hv] at hg
    obtain ⟨inner, hown⟩ := Kd.R_own hR
    obtain ⟨cells, hc⟩ := own_typed hown b hv
    obtain ⟨cs, hcs⟩ := h.cells
    refine h.other hc (fun q => ?_) hg
    subst q
    rw [hcs] at hc
    injection hc with hc
    injection hc with _ hc _
    exact he hc.symm
theorem one_byte (w : World) (x : Int) : Kd.C (Kd.int .u8) (w.alloc (.cells #[.int .u8 x] 5)) (some ⟨w.heap.size, 0, none⟩) 1 [x] := by
  refine ⟨rfl, by decide, fun _ => ⟨_, rfl, fun j p hj => ?_⟩⟩
  cases j with
  | zero =>
    cases hj
    exact ⟨[.int .u8 x], rfl, rfl, fun i u hi => by
      cases i with
      | zero => cases hi; exact (blk_cell (heap_alloc_new w _) 0).trans rfl
      | succ i => cases hi⟩
  | succ j => cases hj
theorem own_old {α : Type} {d : Kd α} {e base : Nat} {ok : Nat → Prop} {w : World} {v : Value} {xs : List α} (hR : Kd.R d e w base ok v xs) : ∀ k, w.heap.size ≤ k → some k ≠ v.ownBlock := fun k hk e => by
  obtain ⟨inner, hown⟩ := Kd.R_own hR
  have := own_lt hown k e.symm
  omega
theorem rows_C2 {W : World} {base : Nat} {ok : Nat → Prop} {v : Value} {xs : List SB} (h : Kd.R k61 61 W base ok v xs) : ∃ A c, v = .slice A xs.length c ∧ xs.length ≤ c ∧ Kd.C k61 W A xs.length xs := by
  obtain ⟨A, c, rfl⟩ := Kd.R_slice h
  exact ⟨A, c, rfl, (Kd.R_reads' h).2.1, (Kd.R_reads' h).2.2⟩
theorem R_saw {w w1 : World} {base g : Nat} {v : Value} {xs : List SB} (h : Kd.R k61 61 w base (fun k => k ≠ g) v xs) (hg : w.grownBy w1 (some g)) : Kd.R k61 61 w1 base (fun k => k ≠ g) v xs := Kd.R_step h (fun k hk hl => hg.block k hl (fun e => hk (Option.some.inj e)))
/-- A batch's cells, as they stand in the memory of w0. -/
def kQ (w0 : World) : Kd SB where
  sz := 5
  E := []
  K _ x cs := k61.K w0 x cs
  M _ _ _ x cs := k61.K w0 x cs
  K_len h := k61.K_len h
  K_one h := k61.K_one h
  K_below _ h := h
  K_of_M h := h
  M_mono _ h := h
  M_bound h := h
  M_move _ h := h
  M_lower _ h := h
theorem addr0 (gx k : Nat) : (⟨gx, 0, none⟩ : Addr).add k = ⟨gx, k, none⟩ := by
  unfold Addr.add
  split
  · rename_i h; subst h; rfl
  · rw [Nat.zero_add]
theorem row_two {w6 wd W : World} {gx n : Nat} {x0 x1 y0 y1 : SB} {tl : List SB} {d0 d1 d2 d3 d4 e0 e1 e2 e3 e4 : Value} (hrow : Kd.C (kQ w6) wd (some ⟨gx, 0, none⟩) n (x0 :: x1 :: tl)) (hb : Below w6.heap.size w6 W) (k0 : k61.K W y0 [d0, d1, d2, d3, d4]) (k1 : k61.K W y1 [e0, e1, e2, e3, e4])
    (hA : ∀ i u, [d0, d1, d2, d3, d4][i]? = some u → W.cell? ⟨gx, i, none⟩ = some u) (hB : ∀ i u, [e0, e1, e2, e3, e4][i]? = some u → W.cell? ⟨gx, 5 + i, none⟩ = some u) (hT : ∀ o, 10 ≤ o → W.cell? ⟨gx, o, none⟩ = wd.cell? ⟨gx, o, none⟩) : Kd.C k61 W (some ⟨gx, 0, none⟩) n (y0 :: y1 :: tl) := by
  obtain ⟨h1, h2, h3⟩ := hrow
  refine ⟨by simpa using h1, h2, fun hn => ?_⟩
  obtain ⟨ad, e, hc⟩ := h3 hn
  cases e
  refine ⟨_, rfl, fun j p hj => ?_⟩
  match j, hj with
  | 0, hj =>
    cases hj
    exact ⟨_, rfl, k0, fun i u hu => by rw [addr0, show 0 * (k61).sz + i = i from by show 0 * 5 + i = i; omega]; exact hA i u hu⟩
  | 1, hj =>
    cases hj
    exact ⟨_, rfl, k1, fun i u hu => by rw [addr0, show 1 * (k61).sz + i = 5 + i from by show 1 * 5 + i = 5 + i; omega]; exact hB i u hu⟩
  | j + 2, hj =>
    obtain ⟨c, hl, hk, hu⟩ := hc (j + 2) p hj
    refine ⟨c, hl, k61.K_below hb hk, fun i u hi => ?_⟩
    have h4 := hu i u hi
    have h5 := hT ((j + 2) * 5 + i) (by omega)
    have e5 : (kQ w6).sz = 5 := rfl
    have e6 : (k61).sz = 5 := rfl
    rw [e5] at h4
    rw [e6]
    rw [addr0] at h4 ⊢
    exact h5.trans h4
def W5 (w : World) (g k : Nat) (v0 v1 v2 v3 v4 : Value) : World := ((((w.setCell ⟨g, k, none⟩ v0).setCell ⟨g, k + 1, none⟩ v1).setCell ⟨g, k + 2, none⟩ v2).setCell ⟨g, k + 3, none⟩ v3).setCell ⟨g, k + 4, none⟩ v4
theorem W5_blk {w : World} {g t : Nat} {cur : Array Value} (h : w.heap[g]? = some (.cells cur t (0, 0))) (k : Nat) (v0 v1 v2 v3 v4 : Value) : (W5 w g k v0 v1 v2 v3 v4).heap[g]? = some (.cells (((((cur.setIfInBounds k v0).setIfInBounds (k + 1) v1).setIfInBounds (k + 2) v2).setIfInBounds (k + 3) v3).setIfInBounds (k + 4) v4) t (0, 0)) :=
  blk_set (blk_set (blk_set (blk_set (blk_set h k v0) (k + 1) v1) (k + 2) v2) (k + 3) v3) (k + 4) v4
theorem W5_below {B : Nat} {w0 w : World} {g : Nat} (h : Below B w0 w) (hg : B ≤ g) (k : Nat) (v0 v1 v2 v3 v4 : Value) : Below B w0 (W5 w g k v0 v1 v2 v3 v4) :=
  ((((h.setCell (p := ⟨g, k, none⟩) hg v0).setCell (p := ⟨g, k + 1, none⟩) hg v1).setCell (p := ⟨g, k + 2, none⟩) hg v2).setCell (p := ⟨g, k + 3, none⟩) hg v3).setCell (p := ⟨g, k + 4, none⟩) hg v4
theorem W5_grown {w0 w : World} {g : Nat} (h : w0.grownBy w (some g)) (k : Nat) (v0 v1 v2 v3 v4 : Value) : w0.grownBy (W5 w g k v0 v1 v2 v3 v4) (some g) := grown_set (grown_set (grown_set (grown_set (grown_set h _ _) _ _) _ _) _ _) _ _
theorem grown_refl (w : World) (g : Nat) : w.grownBy w (some g) := ⟨rfl, rfl, rfl, Nat.le_refl _, fun _ _ _ => rfl⟩
theorem W5_cell {w : World} {g t : Nat} {cur : Array Value} (h : w.heap[g]? = some (.cells cur t (0, 0))) {k : Nat} (hk : k + 5 ≤ cur.size) (v0 v1 v2 v3 v4 : Value) (i : Nat) (u : Value) (hu : [v0, v1, v2, v3, v4][i]? = some u) : (W5 w g k v0 v1 v2 v3 v4).cell? ⟨g, k + i, none⟩ = some u := by
  rw [blk_cell (W5_blk h k v0 v1 v2 v3 v4)]
  match i, hu with
  | 0, hu => cases hu; simp [Array.getElem?_setIfInBounds]; omega
  | 1, hu => cases hu; simp [Array.getElem?_setIfInBounds]; omega
  | 2, hu => cases hu; simp [Array.getElem?_setIfInBounds]; omega
  | 3, hu => cases hu; simp [Array.getElem?_setIfInBounds]; omega
  | 4, hu => cases hu; simp [Array.getElem?_setIfInBounds]; omega
theorem W5_far {w : World} {g t : Nat} {cur : Array Value} (h : w.heap[g]? = some (.cells cur t (0, 0))) (k : Nat) (v0 v1 v2 v3 v4 : Value) (o : Nat) (ho : o < k ∨ k + 5 ≤ o) : (W5 w g k v0 v1 v2 v3 v4).cell? ⟨g, o, none⟩ = w.cell? ⟨g, o, none⟩ := by
  rw [blk_cell (W5_blk h k v0 v1 v2 v3 v4), blk_cell h, Array.getElem?_setIfInBounds_ne (by omega), Array.getElem?_setIfInBounds_ne (by omega), Array.getElem?_setIfInBounds_ne (by omega), Array.getElem?_setIfInBounds_ne (by omega), Array.getElem?_setIfInBounds_ne (by omega)]
theorem q_cells {w6 W : World} {gx n : Nat} {xs : List SB} (h : Kd.C (kQ w6) W (some ⟨gx, 0, none⟩) n xs) (hn : 0 < n) (i : Nat) (b : SB) (hb : xs[i]? = some b) : ∃ A4 c4, (∀ j u, [.int .i64 b.f0, .int .i64 b.f1, .int .i64 b.f2, .int .i64 b.f3, .slice A4 b.f4.length c4][j]? = some u → W.cell? ⟨gx, i * 5 + j, none⟩ = some u) ∧ k61.K w6 b [.int .i64 b.f0, .int .i64 b.f1, .int .i64 b.f2, .int .i64 b.f3, .slice A4 b.f4.length c4] := by
  obtain ⟨ad, e, hc⟩ := h.2.2 hn
  cases e
  obtain ⟨c, hl, hk, hu⟩ := hc i b hb
  obtain ⟨A4, c4, rfl, _, _⟩ := k61_open hk
  refine ⟨A4, c4, fun j u hj => ?_, hk⟩
  have := hu j u hj
  rw [addr0] at this
  exact this
theorem mem3 {a b x : SB} {tl : List SB} (h : x ∈ a :: b :: tl) : x = a ∨ x = b ∨ x ∈ tl := by simpa using h
theorem oth_ok : ∀ b : SB, b = ⟨1, 1, 0, 0, [fR tO]⟩ → (Lit.int .i64 b.f0).wf = true ∧ (Lit.int .i64 b.f1).wf = true ∧ (Lit.int .i64 b.f2).wf = true ∧ (Lit.int .i64 b.f3).wf = true ∧ b.f4.length ≤ 140737488355328 ∧ ∀ r ∈ b.f4, (Lit.int .i64 r.f5).wf = true := by
  rintro b rfl
  refine ⟨by decide, by decide, by decide, by decide, show 1 ≤ 140737488355328 from by decide, fun r hr => ?_⟩
  simp only [List.mem_singleton] at hr
  subst hr
  show (Lit.int .i64 0).wf = true
  decide
theorem lst_two : ∀ m, ∃ tl, lst (m + 2) = bn 0 :: bn 1 :: tl
  | 0 => ⟨[], rfl⟩
  | m + 1 => by
    obtain ⟨tl, h⟩ := lst_two m
    exact ⟨tl ++ [bn ((m + 2 : Nat) : Int)], by rw [show m + 1 + 2 = (m + 2) + 1 from rfl, lst, h]; rfl⟩
theorem round_lt (a : Int) (h : (Lit.int .i64 a).wf = true) : ∃ r, bollardalike_Round.f a 6 = some r ∧ (r = 0 ∨ r = 1 ∨ r = 2 ∨ r = 3 ∨ r = 4 ∨ r = 5) := by
  unfold bollardalike_Round.f
  rw [if_neg (by decide)]
  have h1 := Int.tmod_lt_of_pos a (show (0 : Int) < 6 from by decide)
  have h2 := Int.lt_tmod_of_pos a (show (0 : Int) < 6 from by decide)
  split
  · refine ⟨_, rfl, ?_⟩
    unfold wrap64
    omega
  · exact ⟨_, rfl, by omega⟩
theorem info_b : (Try.prog.info? 61).map (fun i => (i.zero, i.size, i.bytes)) = some (some (.agg #[(.int .i64 0), (.int .i64 0), (.int .i64 0), (.int .i64 0), (.slice none 0 0)]), 5, 56) := by kernel_rfl
set_option maxHeartbeats 4000000 in
set_option maxRecDepth 100000 in
theorem bollardlaw24_CheckFinds.calls (k : Nat) (a0 a1 : Int) (r : Bool) (w : World) (h : bollardlaw24_CheckFinds.f k a0 a1 = some r) :
    Calls Try.prog 6 #[.int .i64 a0, .int .i64 a1] w fun e w' => e = .returned (.bool r) ∧ Below w.heap.size w w' := by
  unfold bollardlaw24_CheckFinds.f at h
  split at h
  case isFalse => cases h
  rename_i hcond
  obtain rfl := Option.some.inj h
  clear h
  have HW := Aside0.mk hcond
  clear hcond
  have ONE := Aside0.mk (fun (i : Int) (v : ByteArray) (W : World) => bollardlaw24_one.calls i v i 1 0 0 [fR v] W rfl)
  by_cases c1 : a0 < 2
  case pos =>
    have d1 : decide (a0 < 2) = true := decide_eq_true c1
    go_enter Try.func6, Try.ntmps6
    go_wp2_with fail
    refine (bollardlaw24_awake.calls _).mono ?_
    rintro e w1 ⟨rfl, hb⟩
    have BZ := Aside0.mk (below_step (Below.refl _ _) hb)
    clear hb
    go_wp2_with fail
    go_ret
    exact ⟨rfl, BZ.out⟩
  case neg =>
    have d1 : decide (a0 < 2) = false := decide_eq_false c1
    by_cases c2 : 30 < a0
    case pos =>
      have d2 : decide (30 < a0) = true := decide_eq_true c2
      go_enter Try.func6, Try.ntmps6
      go_wp2_with fail
      refine (bollardlaw24_awake.calls _).mono ?_
      rintro e w1 ⟨rfl, hb⟩
      have BZ := Aside0.mk (below_step (Below.refl _ _) hb)
      clear hb
      go_wp2_with fail
      go_ret
      exact ⟨rfl, BZ.out⟩
    case neg =>
      have d2 : decide (30 < a0) = false := decide_eq_false c2
      have HN := Aside0.mk (show 2 ≤ a0 ∧ a0 ≤ 30 from ⟨by omega, by omega⟩)
      clear c1 c2
      go_enter Try.func6, Try.ntmps6
      go_wp2_with fail
      refine (check_New.calls _).mono ?_
      rintro e w1 ⟨g, rfl, hg, hL, hb⟩
      have G := Aside0.mk hg
      have B := Aside0.mk hb
      have L := Aside0.mk hL
      clear hg hb hL
      go_wp2_with fail
      go_loopg [6, 7] (a0.toNat + 1) (fun kq v6 v7 wr => ∃ i : Int, v7 = .int .i64 i ∧ Aside0 (kq + i.toNat = a0.toNat + 1 ∧ 0 ≤ i ∧ i ≤ a0) ∧ Aside0 (LogP wr g N0 N0 N0 ∧ Below w.heap.size w wr) ∧ Aside0 (Kd.R k61 61 wr w.heap.size (fun k_ => k_ ≠ g) v6 (lst i.toNat)))
      case atStart => exact ⟨0, rfl, ⟨by simp, by omega, by have := HN.out; omega⟩, ⟨L.out, B.out⟩, ⟨Kd.R_nil _ _ _ _ _⟩⟩
      case round =>
        obtain ⟨i, rfl, HI, HL, HO⟩ := hrel
        clear L B
        by_cases hi : i < a0
        case pos =>
          have d3 : decide (i < a0) = true := decide_eq_true hi
          have HI2 := Aside0.mk hi
          clear hi
          have e1 : IntKind.i64.wrap (97 + Int.tmod i 26) = 97 + Int.tmod i 26 := (i64_w _).trans (by have h_ : Int.tmod i 26 = i % 26 := Int.tmod_eq_emod_of_nonneg HI.out.2.1; have := Int.emod_nonneg i (show (26 : Int) ≠ 0 from by decide); have := Int.emod_lt_of_pos i (show (0 : Int) < 26 from by decide); unfold wrap64; omega)
          have hcv := Kd.C_string (P := Try.prog) (c := 1) Try.underlying44 Try.underlying5 Try.underlying9 (one_byte wr ((97 + Int.tmod i 26) % 256))
          go_wp2_with fail
          refine (ONE.out i (fS i) _).mono ?_
          rintro e w2 ⟨v4, rfl, hv4, hb⟩
          have BL := Aside0.mk (show Below wr.heap.size wr w2 from below_step (bel1 wr _) hb)
          have V4 := Aside0.mk (Kd.R_mono (Kd.R_bound hv4) (ok' := fun k => wr.heap.size ≤ k) (fun k_ hk_ => Nat.le_trans (bel1 wr (.cells #[.int .u8 ((97 + Int.tmod i 26) % 256)] 5)).size hk_.2.1))
          obtain ⟨A4, c4, e4⟩ := Kd.R_slice hv4
          subst e4
          clear hv4 hb hcv
          go_upto_region 13 with fail
          (try simp only [Act.put, List.setIfInBounds_toArray, List.set_cons_zero, List.set_cons_succ])
          have BL2 := Aside0.mk (show Below wr.heap.size wr (w2.alloc (.cells #[.int .i64 i, .int .i64 1, .int .i64 5, .int .i64 i, .slice A4 1 c4] 61)) ∧ (w2.alloc (.cells #[.int .i64 i, .int .i64 1, .int .i64 5, .int .i64 i, .slice A4 1 c4] 61)).heap[w2.heap.size]? = some (.cells #[.int .i64 i, .int .i64 1, .int .i64 5, .int .i64 i, .slice A4 1 c4] 61 (0, 0)) from ⟨below_step BL.out (bel1 w2 _), heap_alloc_new w2 _⟩)
          have V5 := Aside0.mk (Kd.R_lower (Kd.R_below V4.out (bel1 w2 (.cells #[.int .i64 i, .int .i64 1, .int .i64 5, .int .i64 i, .slice A4 1 c4] 61))) (Nat.le_trans HL.out.2.size (bel1 wr (.cells #[.int .u8 ((97 + Int.tmod i 26) % 256)] 5)).size))
          have HGL := Aside0.mk (show g < wr.heap.size from by obtain ⟨_, h_⟩ := HL.out.1.cells; exact blk_lt h_)
          have BL2s := Aside0.mk BL2.out.1.size
          have HO2 := Aside0.mk (Kd.R_below HO.out BL2.out.1)
          have HOLD := Aside0.mk (own_old HO.out)
          have HL2 := Aside0.mk (show LogP (w2.alloc (.cells #[.int .i64 i, .int .i64 1, .int .i64 5, .int .i64 i, .slice A4 1 c4] 61)) g N0 N0 N0 ∧ Below w.heap.size w (w2.alloc (.cells #[.int .i64 i, .int .i64 1, .int .i64 5, .int .i64 i, .slice A4 1 c4] 61)) from ⟨HL.out.1.below BL2.out.1, below_step HL.out.2 BL2.out.1⟩)
          clear BL V4 HO HL
          generalize w2.alloc (.cells #[.int .i64 i, .int .i64 1, .int .i64 5, .int .i64 i, .slice A4 1 c4] 61) = w3 at BL2 BL2s V5 HO2 HL2 ⊢
          obtain ⟨gb, hgb⟩ : ∃ gb, gb = w2.heap.size := ⟨_, rfl⟩
          rw [← hgb] at BL2 ⊢
          clear hgb
          have z0 := (blk_cell BL2.out.2 0).trans rfl
          have z1 := (blk_cell BL2.out.2 1).trans rfl
          have z2 := (blk_cell BL2.out.2 2).trans rfl
          have z3 := (blk_cell BL2.out.2 3).trans rfl
          have z4 := (blk_cell BL2.out.2 4).trans rfl
          go_wp2_with (at_builtin; refine Kd.R_append k61 (w0 := w) w.heap.size rfl (.tmp 37) (.tmp 39) 33 61 (.agg #[(.int .i64 0), (.int .i64 0), (.int .i64 0), (.int .i64 0), (.slice none 0 0)]) 56 rfl Try.underlying33 info_b rfl (by decide) (by decide) u6 (lst i.toNat) (bn i) [.int .i64 i, .int .i64 1, .int .i64 5, .int .i64 i, .slice A4 1 c4] (fun k_ => k_ ≠ g) (fun k_ => wr.heap.size ≤ k_) rfl rfl (k61_mkM _ _ _ (bn i) V5.out) (fun k_ hk_ => ⟨fun e_ => by have := HGL.out; omega, HOLD.out k_ hk_⟩) (fun k_ hk_ e_ => by have := HGL.out; have := BL2s.out; omega) HO2.out HL2.out.2 HL2.out.2.size (by rw [lst_len]; have := HI.out; have := HN.out; omega) ?_; intro v6 w4 ho hb hg_ hat_; go_frame)
          have K1 := Aside0.mk (show LogP w4 g N0 N0 N0 ∧ Below w.heap.size w w4 from ⟨HL2.out.1.grownR HO2.out (by decide) hg_, hb⟩)
          have K2 := Aside0.mk (show Kd.R k61 61 w4 w.heap.size (fun k_ => k_ ≠ g) v6 (lst (i + 1).toNat) from by rw [show (i + 1).toNat = i.toNat + 1 from by have := HI.out; omega, lst, show ((i.toNat : Nat) : Int) = i from by have := HI.out; omega]; exact ho)
          clear ho hb hg_ hat_ HL2 HO2 HOLD V5 BL2 BL2s HGL z0 z1 z2 z3 z4
          have e2 : IntKind.i64.wrap (i + 1) = i + 1 := (i64_w _).trans (by have := HI.out; have := HN.out; unfold wrap64; omega)
          (try go_wp2_with fail)
          go_roundg (a0.toNat + 1 - (i + 1).toNat)
          case measure => have := HI.out; have := HI2.out; omega
          case rel => exact ⟨i + 1, by first | rfl | rw [e2] | rw [← i64_w, e2], ⟨by have := HI.out; have := HI2.out; omega, by have := HI.out; omega, by have := HI2.out; omega⟩, K1, K2⟩
        case neg =>
          have d3 : decide (i < a0) = false := decide_eq_false hi
          have hin : i = a0 := by have := HI.out; omega
          subst hin
          clear hi
          obtain ⟨n, hn⟩ : ∃ n : Nat, i = (n : Int) := ⟨i.toNat, by have := HI.out; omega⟩
          subst hn
          rw [Int.toNat_natCast] at HO
          obtain ⟨Al, cl, el, hcl, hCl⟩ := rows_C2 HO.out
          subst el
          have HC := Aside0.mk (show Kd.C k61 wr Al (lst n).length (lst n) ∧ (lst n).length ≤ cl from ⟨hCl, hcl⟩)
          have B := Aside0.mk HL.out.2
          have HO2 := Aside0.mk HO.out
          clear HO hcl hCl
          have SA := Aside0.mk (fun (st nx fr : Int) (h1 : (Lit.int .i64 st).wf = true) (h2 : (Lit.int .i64 nx).wf = true) (h3 : (Lit.int .i64 fr).wf = true) => (⟨by decide, by decide, h1, h2, h3, by rw [lst_len]; have := HN.out; omega, lst_ok n (by have := HN.out; omega)⟩ : SawArg tT 1 st nx fr (lst n)))
          have SN := Aside0.mk (fun (st nx fr : Int) (h1 : (Lit.int .i64 st).wf = true) (h2 : (Lit.int .i64 nx).wf = true) (h3 : (Lit.int .i64 fr).wf = true) => (⟨by decide, by decide, h1, h2, h3, by decide, fun _ h => by cases h⟩ : SawArg tT 1 st nx fr []))
          have hn_ := HN.out
          have W0 := Aside0.mk (show (Lit.int .i64 (n : Int)).wf = true ∧ (Lit.int .i64 ((n : Int) + 1)).wf = true ∧ (Lit.int .i64 ((n : Int) - 1)).wf = true from ⟨wf_of (by omega), wf_of (by omega), wf_of (by omega)⟩)
          have e3 : IntKind.i64.wrap ((n : Int) - 1) = (n : Int) - 1 := (i64_w _).trans (by unfold wrap64; omega)
          have e4 : IntKind.i64.wrap ((n : Int) + 1) = (n : Int) + 1 := (i64_w _).trans (by unfold wrap64; omega)
          clear hn_
          obtain ⟨E1, R1, S1, f1, H1⟩ := fi_1 n
          obtain ⟨E2, R2, S2, f2, H2⟩ := fi_2 n H1
          have F1 := Aside0.mk f1
          have F2 := Aside0.mk f2
          have HH := Aside0.mk H2
          clear f1 f2 H1 H2
          go_wp2_with fail
          have R0 := Aside0.mk HO2.out
          clear HO2
          refine (check_Log_Saw.calls g N0 N0 N0 tT 1 0 n 0 Al cl (lst n) wr HL.out.1 HC.out.1 HC.out.2 (SA.out 0 n 0 (by decide) W0.out.1 (by decide))).mono ?_
          rintro e w5 ⟨rfl, hl_, hg_⟩
          have B2 := Aside0.mk (chg_old B.out G.out hg_)
          have R2 := Aside0.mk (R_saw R0.out hg_)
          rw [F1.out] at hl_
          have L2 := Aside0.mk hl_
          clear hl_ hg_
          rw [F1.out]
          clear HC
          go_wp2_with fail
          refine (check_Log_Saw.calls g E1 R1 S1 tT 1 0 n 0 Al cl (lst n) w5 L2.out (Kd.R_reads' R2.out).2.2 (Kd.R_reads' R2.out).2.1 (SA.out 0 n 0 (by decide) W0.out.1 (by decide))).mono ?_
          rintro e w6 ⟨rfl, hl_, hg_⟩
          have B3 := Aside0.mk (chg_old B2.out G.out hg_)
          have R3 := Aside0.mk (R_saw R2.out hg_)
          rw [F2.out] at hl_
          have L3 := Aside0.mk hl_
          clear hl_ hg_
          rw [F2.out]
          clear R0 R2 B2 B L2 HL
          go_upto_region 16 with fail
          (try simp only [Act.put, List.setIfInBounds_toArray, List.set_cons_zero, List.set_cons_succ])
          have HG6 := Aside0.mk (show g < w6.heap.size from by obtain ⟨_, h_⟩ := L3.out.cells; exact blk_lt h_)
          have HC6 := Aside0.mk (Kd.R_reads' R3.out).2.2
          have HC6l := Aside0.mk (Kd.R_reads' R3.out).2.1
          go_upto_region 17 with (first | ((with_reducible refine gate_dst (N := 53) rfl ?_); refine Kd.R_lit (kQ w6) (w0 := w) w.heap.size 61 ?hg (N := 53) ?hd (xs := ([] : List SB)) (inner := []) (ok := fun k_ => k_ ≠ g) (okp := fun _ => False) ?hr ?hp (fun _ hk => hk.elim) (fun e_ => by have := HG6.out; omega) B3.out B3.out.size (by simp) ?_; (case hd => rfl); (case hg => rfl); (case hr => first | (go_simp; done) | (go_simp; rfl)); (case hp => exact Reps.none _ _); intro vx wx hox hbx hgx hnx) | (at_builtin; refine Kd.R_append_rows (kQ w6) (Rr := k61.K w6) (w0 := w) w.heap.size rfl (.tmp 53) (.tmp 54) 33 61 (.agg #[(.int .i64 0), (.int .i64 0), (.int .i64 0), (.int .i64 0), (.slice none 0 0)]) 56 rfl Try.underlying33 info_b rfl (show 0 < 5 from by decide) (by decide) vx ([] : List SB) (lst n) Al (lst n).length cl (fun k_ => k_ ≠ g) (fun _ => False) rfl rfl hox (ReadsRow.imp_ HC6.out hgx.toBelow (fun _ _ h => h)) (fun _ _ h => h) (fun _ h => h.elim) (fun k_ hk_ e_ => by have := HG6.out; have := hgx.size; omega) hbx hbx.size (by rw [lst_len]; have := HN.out; simp only [List.length_nil]; omega) ?_; intro v9 w7 ho9 hb9 hg9 hat9; go_frame))
          obtain ⟨bx_, hbx1, hbx2⟩ := hnx
          rw [hbx1] at hg9 hat9
          have BW := Aside0.mk (show Below w6.heap.size w6 w7 from chg_old hgx.toBelow hbx2 hg9)
          have B7 := Aside0.mk hb9
          obtain ⟨inner, hin⟩ := Kd.R_own ho9
          obtain ⟨_, hin⟩ := hin
          have hlen9 : (([] : List SB) ++ lst n).length = n := by rw [List.nil_append, lst_len]
          rcases hin with ⟨_, h0_⟩ | ⟨gx, cx, cur, ev, _, hcur, hle, _, hsz, _⟩
          · exfalso; have := HN.out; omega
          subst ev
          have HX := Aside0.mk (show w7.heap[gx]? = some (.cells cur 61 (0, 0)) ∧ 10 ≤ cur.size ∧ w6.heap.size ≤ gx from ⟨hcur, by have h_ : cur.size = cx * 5 := hsz; have := HN.out; omega, by rcases hat9 with h_ | ⟨b_, h_, h2_⟩ <;> · have h3_ : some gx = some _ := h_; have := Option.some.inj h3_; have := hgx.size; omega⟩)
          have RX := Aside0.mk (show Kd.C (kQ w6) w7 (some ⟨gx, 0, none⟩) (lst n).length (lst n) ∧ (([] : List SB) ++ lst n).length ≤ cx from ⟨(Kd.R_reads' ho9).2.2, hle⟩)
          have L7 := Aside0.mk (L3.out.below BW.out)
          have R7 := Aside0.mk (Kd.R_below R3.out BW.out)
          have HBS := Aside0.mk B3.out.size
          clear hox hbx hgx hbx2 ho9 hb9 hg9 hat9 hcur hsz hle hlen9 B3 L3 R3 HC6 HC6l
          obtain ⟨rd, hrd, hr6⟩ := round_lt a1 HW.out.2
          have HRD := Aside0.mk hrd
          clear hrd
          go_wp2_with fail
          refine (bollardalike_Round.calls a1 6 rd _ HRD.out).mono ?_
          rintro e w8 ⟨rfl, hb_⟩
          have hbz : Below w7.heap.size w7 w8 := by first | exact hb_ | exact hb_.below
          have HX8 := Aside0.mk (show w8.heap[gx]? = some (.cells cur 61 (0, 0)) ∧ 10 ≤ cur.size ∧ w6.heap.size ≤ gx from ⟨blk_below HX.out.1 hbz, HX.out.2⟩)
          have RX8 := Aside0.mk (show Kd.C (kQ w6) w8 (some ⟨gx, 0, none⟩) (lst n).length (lst n) from Kd.C_below RX.out.1 hbz)
          have RXl := Aside0.mk RX.out.2
          have L8 := Aside0.mk (L7.out.below hbz)
          have R8 := Aside0.mk (Kd.R_below R7.out hbz)
          have B8 := Aside0.mk (below_step B7.out hbz)
          have BW8 := Aside0.mk (below_step BW.out hbz)
          clear HX RX L7 R7 B7 BW hb_ hbz
          obtain ⟨m_, hm_⟩ : ∃ m_, n = m_ + 2 := ⟨n - 2, by have := HN.out; omega⟩
          obtain ⟨tl, htl0⟩ := lst_two m_
          rw [← hm_] at htl0
          have HTL := Aside0.mk htl0
          clear htl0 hm_
          rcases hr6 with rfl | rfl | rfl | rfl | rfl | rfl
          · go_wp2_with fail
            refine (check_Log_Saw.calls g E2 R2 S2 tT 1 0 ((n : Int) - 1) 0 none 0 [] _ L8.out (rows_nil _) (Nat.le_refl 0) (SN.out 0 _ 0 (by decide) W0.out.2.2 (by decide))).mono ?_
            rintro e w9 ⟨rfl, hl_, hg_⟩
            have B9 := Aside0.mk (chg_old B8.out G.out hg_)
            rw [fi_c0 n HH.out]
            clear hl_ hg_
            go_wp2_with fail
            refine (bollardlaw24_awake.calls _).mono ?_
            rintro e wz ⟨rfl, hb⟩
            have BZ := Aside0.mk (below_step B9.out hb)
            clear hb
            go_wp2_with fail
            go_ret
            exact ⟨rfl, BZ.out⟩
          · go_wp2_with fail
            refine (check_Log_Saw.calls g E2 R2 S2 tT 1 ((n : Int) + 1) n 0 none 0 [] _ L8.out (rows_nil _) (Nat.le_refl 0) (SN.out _ _ 0 W0.out.2.1 W0.out.1 (by decide))).mono ?_
            rintro e w9 ⟨rfl, hl_, hg_⟩
            have B9 := Aside0.mk (chg_old B8.out G.out hg_)
            rw [fi_c1 n HH.out]
            clear hl_ hg_
            go_wp2_with fail
            refine (bollardlaw24_awake.calls _).mono ?_
            rintro e wz ⟨rfl, hb⟩
            have BZ := Aside0.mk (below_step B9.out hb)
            clear hb
            go_wp2_with fail
            go_ret
            exact ⟨rfl, BZ.out⟩
          · go_upto_region 23 with fail
            (try simp only [Act.put, List.setIfInBounds_toArray, List.set_cons_zero, List.set_cons_succ])
            have pl0 := eq_true (show (0 : Int) < ((lst n).length : Int) from by rw [lst_len]; have := HN.out; omega)
            have pl1 := eq_true (show (1 : Int) < ((lst n).length : Int) from by rw [lst_len]; have := HN.out; omega)
            have pn0 := eq_true (show 0 < (lst n).length from by rw [lst_len]; have := HN.out; omega)
            have pn1 := eq_true (show 1 < (lst n).length from by rw [lst_len]; have := HN.out; omega)
            have Y1 := Aside0.mk (show w8.drew.heap[gx]? = some (.cells cur 61 (0, 0)) ∧ 10 ≤ cur.size ∧ w6.heap.size ≤ gx from HX8.out)
            have Y2 := Aside0.mk (show Kd.C (kQ w6) w8.drew (some ⟨gx, 0, none⟩) (lst n).length (lst n) from Kd.C_below RX8.out (below_drew1 (Below.refl _ _)))
            have Y3 := Aside0.mk (L8.out.below (below_drew1 (Below.refl _ _)))
            have Y4 := Aside0.mk (And.intro (below_step B8.out (below_drew1 (Below.refl _ _))) (below_step BW8.out (below_drew1 (Below.refl _ _))))
            obtain ⟨A0, cc0, q0, kk0⟩ := q_cells Y2.out (by rw [lst_len]; have := HN.out; omega) 0 (bn 0) (by rw [HTL.out]; rfl)
            obtain ⟨A1, cc1, q1, kk1⟩ := q_cells Y2.out (by rw [lst_len]; have := HN.out; omega) 1 (bn 1) (by rw [HTL.out]; rfl)
            refine start_ (n := 12) (S := fun w' => w'.cell? ⟨gx, 0, none⟩ = some (.int .i64 0) ∧ w'.cell? ⟨gx, 1, none⟩ = some (.int .i64 1) ∧ w'.cell? ⟨gx, 2, none⟩ = some (.int .i64 5) ∧ w'.cell? ⟨gx, 3, none⟩ = some (.int .i64 0) ∧ w'.cell? ⟨gx, 4, none⟩ = some (.slice A0 1 cc0) ∧ w'.cell? ⟨gx, 5, none⟩ = some (.int .i64 1) ∧ w'.cell? ⟨gx, 6, none⟩ = some (.int .i64 1) ∧ w'.cell? ⟨gx, 7, none⟩ = some (.int .i64 5) ∧ w'.cell? ⟨gx, 8, none⟩ = some (.int .i64 1) ∧ w'.cell? ⟨gx, 9, none⟩ = some (.slice A1 1 cc1)) (ds := [9, 11]) #[false, false, false, false, false, false, false, false, false, false, false, false] (by kernel_rfl) rfl rfl ⟨q0 0 _ rfl, q0 1 _ rfl, q0 2 _ rfl, q0 3 _ rfl, q0 4 _ rfl, q1 0 _ rfl, q1 1 _ rfl, q1 2 _ rfl, q1 3 _ rfl, q1 4 _ rfl⟩ (fun hHeld => ?_)
            clear HX8 RX8 L8 B8 BW8
            generalize w8.drew = wd at Y1 Y2 Y3 Y4 q0 q1 hHeld ⊢
            refine pure_ (i := 0) (N := (some 81)) (v := ?_) (a' := ?_) #[true, false, false, false, false, false, false, false, false, false, false, false] rfl rfl (by kernel_rfl) (fun _ _ _ h => h) (Or.inl ⟨by rfl, ?_⟩) ?_ ?_
            rotate_left
            · intro w'
              go_simp
              with_reducible rfl
            rotate_left
            · simp only [Act.put, List.setIfInBounds_toArray, List.set_cons_zero, List.set_cons_succ, i64_w, i32_w]
              rfl
            refine pure_ (i := 1) (N := (some 82)) (v := ?_) (a' := ?_) #[true, true, false, false, false, false, false, false, false, false, false, false] rfl rfl (by kernel_rfl) (fun _ _ _ h => h) (Or.inl ⟨by rfl, ?_⟩) ?_ ?_
            rotate_left
            · intro w'
              go_simp
              with_reducible rfl
            rotate_left
            · simp only [Act.put, List.setIfInBounds_toArray, List.set_cons_zero, List.set_cons_succ, i64_w, i32_w]
              rfl
            refine pure_ (i := 2) (N := (some 83)) (v := ?_) (a' := ?_) #[true, true, true, false, false, false, false, false, false, false, false, false] rfl rfl (by kernel_rfl) (fun _ _ _ h => h) (Or.inl ⟨by rfl, ?_⟩) ?_ ?_
            rotate_left
            · intro w'
              go_simp
              with_reducible rfl
            rotate_left
            · simp only [Act.put, List.setIfInBounds_toArray, List.set_cons_zero, List.set_cons_succ, i64_w, i32_w]
              rfl
            refine pure_ (i := 5) (N := (some 86)) (v := ?_) (a' := ?_) #[true, true, true, false, false, true, false, false, false, false, false, false] rfl rfl (by kernel_rfl) (fun _ _ _ h => h) (Or.inl ⟨by rfl, ?_⟩) ?_ ?_
            rotate_left
            · intro w'
              go_simp
              with_reducible rfl
            rotate_left
            · simp only [Act.put, List.setIfInBounds_toArray, List.set_cons_zero, List.set_cons_succ, i64_w, i32_w]
              rfl
            refine pure_ (i := 3) (N := (some 84)) (v := ?_) (a' := ?_) #[true, true, true, true, false, true, false, false, false, false, false, false] rfl rfl (by kernel_rfl) (fun _ _ _ h => h) (Or.inl ⟨by rfl, ?_⟩) ?_ ?_
            rotate_left
            · intro w'
              go_simp
              with_reducible rfl
            rotate_left
            · simp only [Act.put, List.setIfInBounds_toArray, List.set_cons_zero, List.set_cons_succ, i64_w, i32_w]
              rfl
            refine pure_ (i := 6) (N := (some 87)) (v := ?_) (a' := ?_) #[true, true, true, true, false, true, true, false, false, false, false, false] rfl rfl (by kernel_rfl) (fun _ _ _ h => h) (Or.inl ⟨by rfl, ?_⟩) ?_ ?_
            rotate_left
            · intro w'
              go_simp
              with_reducible rfl
            rotate_left
            · simp only [Act.put, List.setIfInBounds_toArray, List.set_cons_zero, List.set_cons_succ, i64_w, i32_w]
              rfl
            refine take_ (i := 4) (N := (some 85)) (v := ?_) (a' := ?_) #[true, true, true, true, true, true, true, false, false, false, false, false] rfl rfl (by kernel_rfl) (fun _ _ _ h => h) (Or.inl ⟨by rfl, ?_⟩) hHeld ?_ ?_
            rotate_left
            · rintro w' ⟨s0, s1, s2, s3, s4, s5, s6, s7, s8, s9⟩
              go_simp
              with_reducible rfl
            rotate_left
            · simp only [Act.put, List.setIfInBounds_toArray, List.set_cons_zero, List.set_cons_succ, i64_w, i32_w]
              rfl
            refine take_ (i := 7) (N := (some 88)) (v := ?_) (a' := ?_) #[true, true, true, true, true, true, true, true, false, false, false, false] rfl rfl (by kernel_rfl) (fun _ _ _ h => h) (Or.inl ⟨by rfl, ?_⟩) hHeld ?_ ?_
            rotate_left
            · rintro w' ⟨s0, s1, s2, s3, s4, s5, s6, s7, s8, s9⟩
              go_simp
              with_reducible rfl
            rotate_left
            · simp only [Act.put, List.setIfInBounds_toArray, List.set_cons_zero, List.set_cons_succ, i64_w, i32_w]
              rfl
            refine pure_ (i := 8) (N := (some 89)) (v := ?_) (a' := ?_) #[true, true, true, true, true, true, true, true, true, false, false, false] rfl rfl (by kernel_rfl) (fun _ _ _ h => h) (Or.inl ⟨by rfl, ?_⟩) ?_ ?_
            rotate_left
            · intro w'
              go_simp
              with_reducible rfl
            rotate_left
            · simp only [Act.put, List.setIfInBounds_toArray, List.set_cons_zero, List.set_cons_succ, i64_w, i32_w]
              rfl
            have z0 := blk_frozen Y1.out.1 0
            have s0 := q0 0 _ rfl
            have z1 := blk_frozen Y1.out.1 1
            have s1 := q0 1 _ rfl
            have z2 := blk_frozen Y1.out.1 2
            have s2 := q0 2 _ rfl
            have z3 := blk_frozen Y1.out.1 3
            have s3 := q0 3 _ rfl
            have z4 := blk_frozen Y1.out.1 4
            have s4 := q0 4 _ rfl
            have z5 := blk_frozen Y1.out.1 5
            have s5 := q1 0 _ rfl
            have z6 := blk_frozen Y1.out.1 6
            have s6 := q1 1 _ rfl
            have z7 := blk_frozen Y1.out.1 7
            have s7 := q1 2 _ rfl
            have z8 := blk_frozen Y1.out.1 8
            have s8 := q1 3 _ rfl
            have z9 := blk_frozen Y1.out.1 9
            have s9 := q1 4 _ rfl
            refine last_ (i := 9) (N := none) #[true, true, true, true, true, true, true, true, true, true, false, false] rfl rfl (by kernel_rfl) (by decide) (fun K hK => ?_)
            refine skip_ (w1 := W5 wd gx 0 (.int .i64 1) (.int .i64 1) (.int .i64 5) (.int .i64 1) (.slice A1 1 cc1)) (by rfl) rfl ?_ ?_
            · unfold W5
              go_simp
              try rfl
            refine hK.out _ _ ?_
            clear hK K
            have Y5 := Aside0.mk (W5_blk Y1.out.1 0 (.int .i64 1) (.int .i64 1) (.int .i64 5) (.int .i64 1) (.slice A1 1 cc1))
            refine pure_ (i := 10) (N := (some 90)) (v := ?_) (a' := ?_) #[true, true, true, true, true, true, true, true, true, true, true, false] rfl rfl (by kernel_rfl) (fun _ _ _ h => h) (Or.inl ⟨by rfl, ?_⟩) ?_ ?_
            rotate_left
            · intro w'
              go_simp
              with_reducible rfl
            rotate_left
            · simp only [Act.put, List.setIfInBounds_toArray, List.set_cons_zero, List.set_cons_succ, i64_w, i32_w]
              rfl
            have zz5 := blk_frozen Y5.out 5
            have ss5 := (W5_far Y1.out.1 0 (.int .i64 1) (.int .i64 1) (.int .i64 5) (.int .i64 1) (.slice A1 1 cc1) 5 (.inr (by decide))).trans (q1 0 _ rfl)
            have zz6 := blk_frozen Y5.out 6
            have ss6 := (W5_far Y1.out.1 0 (.int .i64 1) (.int .i64 1) (.int .i64 5) (.int .i64 1) (.slice A1 1 cc1) 6 (.inr (by decide))).trans (q1 1 _ rfl)
            have zz7 := blk_frozen Y5.out 7
            have ss7 := (W5_far Y1.out.1 0 (.int .i64 1) (.int .i64 1) (.int .i64 5) (.int .i64 1) (.slice A1 1 cc1) 7 (.inr (by decide))).trans (q1 2 _ rfl)
            have zz8 := blk_frozen Y5.out 8
            have ss8 := (W5_far Y1.out.1 0 (.int .i64 1) (.int .i64 1) (.int .i64 5) (.int .i64 1) (.slice A1 1 cc1) 8 (.inr (by decide))).trans (q1 3 _ rfl)
            have zz9 := blk_frozen Y5.out 9
            have ss9 := (W5_far Y1.out.1 0 (.int .i64 1) (.int .i64 1) (.int .i64 5) (.int .i64 1) (.slice A1 1 cc1) 9 (.inr (by decide))).trans (q1 4 _ rfl)
            clear s0 s1 s2 s3 s4 s5 s6 s7 s8 s9 z0 z1 z2 z3 z4 z5 z6 z7 z8 z9
            refine last_ (i := 11) (N := none) #[true, true, true, true, true, true, true, true, true, true, true, true] rfl rfl (by kernel_rfl) (by decide) (fun K hK => ?_)
            generalize hwa : W5 wd gx 0 (.int .i64 1) (.int .i64 1) (.int .i64 5) (.int .i64 1) (.slice A1 1 cc1) = wa at ss5 ss6 ss7 ss8 ss9 zz5 zz6 zz7 zz8 zz9 ⊢
            refine skip_ (w1 := W5 wa gx 5 (.int .i64 0) (.int .i64 1) (.int .i64 5) (.int .i64 0) (.slice A0 1 cc0)) (by rfl) rfl ?_ ?_
            · unfold W5
              go_simp
              try rfl
            refine hK.out _ _ ?_
            clear hK K
            subst hwa
            refine done_ (by kernel_rfl) ?_
            have X1 := Aside0.mk (show Below w.heap.size w (W5 (W5 wd gx 0 (.int .i64 1) (.int .i64 1) (.int .i64 5) (.int .i64 1) (.slice A1 1 cc1)) gx 5 (.int .i64 0) (.int .i64 1) (.int .i64 5) (.int .i64 0) (.slice A0 1 cc0)) ∧ Below w6.heap.size w6 (W5 (W5 wd gx 0 (.int .i64 1) (.int .i64 1) (.int .i64 5) (.int .i64 1) (.slice A1 1 cc1)) gx 5 (.int .i64 0) (.int .i64 1) (.int .i64 5) (.int .i64 0) (.slice A0 1 cc0)) ∧ LogP (W5 (W5 wd gx 0 (.int .i64 1) (.int .i64 1) (.int .i64 5) (.int .i64 1) (.slice A1 1 cc1)) gx 5 (.int .i64 0) (.int .i64 1) (.int .i64 5) (.int .i64 0) (.slice A0 1 cc0)) g E2 R2 S2 from ⟨W5_below (W5_below Y4.out.1 (Nat.le_trans HBS.out Y1.out.2.2) 0 _ _ _ _ _) (Nat.le_trans HBS.out Y1.out.2.2) 5 _ _ _ _ _, W5_below (W5_below Y4.out.2 Y1.out.2.2 0 _ _ _ _ _) Y1.out.2.2 5 _ _ _ _ _, Y3.out.other Y1.out.1 (fun e_ => by have := HG6.out; have := Y1.out.2.2; omega) (W5_grown (W5_grown (grown_refl _ _) 0 _ _ _ _ _) 5 _ _ _ _ _)⟩)
            have X2 := Aside0.mk (show Kd.C k61 (W5 (W5 wd gx 0 (.int .i64 1) (.int .i64 1) (.int .i64 5) (.int .i64 1) (.slice A1 1 cc1)) gx 5 (.int .i64 0) (.int .i64 1) (.int .i64 5) (.int .i64 0) (.slice A0 1 cc0)) (some ⟨gx, 0, none⟩) (lst n).length (bn 1 :: bn 0 :: tl) from row_two (x0 := bn 0) (x1 := bn 1) (HTL.out ▸ Y2.out) X1.out.2.1 (k61.K_below X1.out.2.1 kk1) (k61.K_below X1.out.2.1 kk0) (fun i u hu => (W5_far Y5.out 5 _ _ _ _ _ _ (.inl (by have h_ := (List.getElem?_eq_some_iff.1 hu).1; have h2_ : i < 5 := h_; omega))).trans (by have h3_ := W5_cell Y1.out.1 (k := 0) (by have := Y1.out.2.1; omega) _ _ _ _ _ i u hu; rwa [Nat.zero_add] at h3_)) (fun i u hu => W5_cell Y5.out (k := 5) (by have := Y1.out.2.1; simp; omega) _ _ _ _ _ i u hu) (fun o ho => (W5_far Y5.out 5 _ _ _ _ _ _ (.inr ho)).trans (W5_far Y1.out.1 0 _ _ _ _ _ _ (.inr (by omega)))))
            have HLQ := Aside0.mk (show (lst n).length = (bn 1 :: bn 0 :: tl).length from by rw [HTL.out]; rfl)
            clear Y1 Y2 Y3 Y4 Y5 q0 q1 kk0 kk1 ss5 ss6 ss7 ss8 ss9 zz5 zz6 zz7 zz8 zz9
            generalize W5 (W5 wd gx 0 (.int .i64 1) (.int .i64 1) (.int .i64 5) (.int .i64 1) (.slice A1 1 cc1)) gx 5 (.int .i64 0) (.int .i64 1) (.int .i64 5) (.int .i64 0) (.slice A0 1 cc0) = wf at X1 X2 ⊢
            have HLL := Aside0.mk (show (lst n).length ≤ cx from RXl.out)
            rw [HLQ.out] at X2 HLL ⊢
            go_wp2_with fail
            refine (check_Log_Saw.calls g E2 R2 S2 tT 1 0 n 0 (some ⟨gx, 0, none⟩) cx (bn 1 :: bn 0 :: tl) _ X1.out.2.2 X2.out HLL.out ⟨by decide, by decide, by decide, W0.out.1, by decide, by rw [← HLQ.out, lst_len]; have := HN.out; omega, fun b_ hb_ => lst_ok n (by have := HN.out; omega) b_ (by rw [HTL.out]; simp only [List.mem_cons] at hb_ ⊢; rcases hb_ with h_ | h_ | h_ <;> simp [h_])⟩).mono ?_
            rintro e w9 ⟨rfl, hl_, hg_⟩
            have B9 := Aside0.mk (chg_old X1.out.1 G.out hg_)
            rw [fi_c2 n HH.out tl]
            clear hl_ hg_
            go_wp2_with fail
            refine (bollardlaw24_awake.calls _).mono ?_
            rintro e wz ⟨rfl, hb⟩
            have BZ := Aside0.mk (below_step B9.out hb)
            clear hb
            go_wp2_with fail
            go_ret
            exact ⟨rfl, BZ.out⟩
          · go_wp2_with fail
            refine (check_Log_Saw.calls g E2 R2 S2 tT 1 0 n 1 (some ⟨gx, 0, none⟩) cx (lst n) _ L8.out (ReadsRow.imp_ RX8.out (Below.refl _ _) (fun _ _ h => k61.K_below BW8.out h)) RXl.out (SA.out 0 n 1 (by decide) W0.out.1 (by decide))).mono ?_
            rintro e w9 ⟨rfl, hl_, hg_⟩
            have B9 := Aside0.mk (chg_old B8.out G.out hg_)
            rw [(show sawF tT 1 0 n 1 (lst n) E2 R2 S2 = (2, E2, R2, S2) from by rw [HTL.out]; exact fi_c3 n HH.out _)]
            clear hl_ hg_
            go_wp2_with fail
            refine (bollardlaw24_awake.calls _).mono ?_
            rintro e wz ⟨rfl, hb⟩
            have BZ := Aside0.mk (below_step B9.out hb)
            clear hb
            go_wp2_with fail
            go_ret
            exact ⟨rfl, BZ.out⟩
          · go_wp2_with fail
            refine (ONE.out 1 tO _).mono ?_
            rintro e w9 ⟨v4, rfl, hv4, hb⟩
            obtain ⟨A4, c4, e4⟩ := Kd.R_slice hv4
            subst e4
            have pl0 := eq_true (show (0 : Int) < ((lst n).length : Int) from by rw [lst_len]; have := HN.out; omega)
            have pl1 := eq_true (show (1 : Int) < ((lst n).length : Int) from by rw [lst_len]; have := HN.out; omega)
            have pn0 := eq_true (show 0 < (lst n).length from by rw [lst_len]; have := HN.out; omega)
            have pn1 := eq_true (show 1 < (lst n).length from by rw [lst_len]; have := HN.out; omega)
            obtain ⟨A0, cc0, q0, kk0⟩ := q_cells RX8.out (by rw [lst_len]; have := HN.out; omega) 0 (bn 0) (by rw [HTL.out]; rfl)
            obtain ⟨A1, cc1, q1, kk1⟩ := q_cells RX8.out (by rw [lst_len]; have := HN.out; omega) 1 (bn 1) (by rw [HTL.out]; rfl)
            have Y1 := Aside0.mk (show w9.heap[gx]? = some (.cells cur 61 (0, 0)) ∧ 10 ≤ cur.size ∧ w6.heap.size ≤ gx from ⟨blk_below HX8.out.1 hb, HX8.out.2⟩)
            have Y2 := Aside0.mk (show Kd.C (kQ w6) w9 (some ⟨gx, 0, none⟩) (lst n).length (lst n) from Kd.C_below RX8.out hb)
            have Y3 := Aside0.mk (L8.out.below hb)
            have Y4 := Aside0.mk (And.intro (below_step B8.out hb) (below_step BW8.out hb))
            have s5 := pw_cell_below hb (q1 0 _ rfl)
            have z5 := blk_frozen Y1.out.1 5
            have s6 := pw_cell_below hb (q1 1 _ rfl)
            have z6 := blk_frozen Y1.out.1 6
            have s7 := pw_cell_below hb (q1 2 _ rfl)
            have z7 := blk_frozen Y1.out.1 7
            have s8 := pw_cell_below hb (q1 3 _ rfl)
            have z8 := blk_frozen Y1.out.1 8
            have s9 := pw_cell_below hb (q1 4 _ rfl)
            have z9 := blk_frozen Y1.out.1 9
            have t0 := pw_cell_below hb (q0 0 _ rfl)
            have t1 := pw_cell_below hb (q0 1 _ rfl)
            have t2 := pw_cell_below hb (q0 2 _ rfl)
            have t3 := pw_cell_below hb (q0 3 _ rfl)
            have t4 := pw_cell_below hb (q0 4 _ rfl)
            have T0 := Aside0.mk (show ∀ i u, [(.int .i64 0 : Value), .int .i64 1, .int .i64 5, .int .i64 0, .slice A0 1 cc0][i]? = some u → w9.cell? ⟨gx, i, none⟩ = some u from fun i u hu => by match i, hu with | 0, hu => cases hu; exact t0 | 1, hu => cases hu; exact t1 | 2, hu => cases hu; exact t2 | 3, hu => cases hu; exact t3 | 4, hu => cases hu; exact t4)
            have V4 := Aside0.mk (Kd.R_mono (Kd.R_bound hv4) (ok' := fun k_ => w8.heap.size ≤ k_) (fun k_ hk_ => hk_.2.1))
            have HGX := Aside0.mk (blk_lt HX8.out.1)
            clear hv4 hb t0 t1 t2 t3 t4 q0 q1 kk1 HX8 RX8 L8 B8 BW8
            go_upto_region 29 with fail
            (try simp only [Act.put, List.setIfInBounds_toArray, List.set_cons_zero, List.set_cons_succ])
            have X1 := Aside0.mk (show Below w.heap.size w (((((w9.setCell ⟨gx, 5, none⟩ (.int .i64 1)).setCell ⟨gx, 6, none⟩ (.int .i64 1)).setCell ⟨gx, 7, none⟩ (.int .i64 0)).setCell ⟨gx, 8, none⟩ (.int .i64 0)).setCell ⟨gx, 9, none⟩ (.slice A4 1 c4)) ∧ Below w6.heap.size w6 (((((w9.setCell ⟨gx, 5, none⟩ (.int .i64 1)).setCell ⟨gx, 6, none⟩ (.int .i64 1)).setCell ⟨gx, 7, none⟩ (.int .i64 0)).setCell ⟨gx, 8, none⟩ (.int .i64 0)).setCell ⟨gx, 9, none⟩ (.slice A4 1 c4)) ∧ LogP (((((w9.setCell ⟨gx, 5, none⟩ (.int .i64 1)).setCell ⟨gx, 6, none⟩ (.int .i64 1)).setCell ⟨gx, 7, none⟩ (.int .i64 0)).setCell ⟨gx, 8, none⟩ (.int .i64 0)).setCell ⟨gx, 9, none⟩ (.slice A4 1 c4)) g E2 R2 S2 from ⟨W5_below Y4.out.1 (Nat.le_trans HBS.out Y1.out.2.2) 5 _ _ _ _ _, W5_below Y4.out.2 Y1.out.2.2 5 _ _ _ _ _, Y3.out.other Y1.out.1 (fun e_ => by have := HG6.out; have := Y1.out.2.2; omega) (W5_grown (grown_refl _ _) 5 _ _ _ _ _)⟩)
            have V6 := Aside0.mk (show Kd.R k48 48 (((((w9.setCell ⟨gx, 5, none⟩ (.int .i64 1)).setCell ⟨gx, 6, none⟩ (.int .i64 1)).setCell ⟨gx, 7, none⟩ (.int .i64 0)).setCell ⟨gx, 8, none⟩ (.int .i64 0)).setCell ⟨gx, 9, none⟩ (.slice A4 1 c4)) w8.heap.size (fun k_ => w8.heap.size ≤ k_) (.slice A4 1 c4) [fR tO] from Kd.R_step V4.out (fun k_ hk_ hl_ => (W5_grown (grown_refl w9 gx) 5 _ _ _ _ _).block k_ hl_ (fun e_ => by have := Option.some.inj e_; have := HGX.out; omega)))
            have X0 := Aside0.mk (show k61.K (((((w9.setCell ⟨gx, 5, none⟩ (.int .i64 1)).setCell ⟨gx, 6, none⟩ (.int .i64 1)).setCell ⟨gx, 7, none⟩ (.int .i64 0)).setCell ⟨gx, 8, none⟩ (.int .i64 0)).setCell ⟨gx, 9, none⟩ (.slice A4 1 c4)) (⟨1, 1, 0, 0, [fR tO]⟩ : SB) [.int .i64 1, .int .i64 1, .int .i64 0, .int .i64 0, .slice A4 1 c4] from k61_mk (((((w9.setCell ⟨gx, 5, none⟩ (.int .i64 1)).setCell ⟨gx, 6, none⟩ (.int .i64 1)).setCell ⟨gx, 7, none⟩ (.int .i64 0)).setCell ⟨gx, 8, none⟩ (.int .i64 0)).setCell ⟨gx, 9, none⟩ (.slice A4 1 c4)) (⟨1, 1, 0, 0, [fR tO]⟩ : SB) (A4 := A4) (c4 := c4) (Kd.R_reads' V6.out).2.1 (Kd.R_reads' V6.out).2.2)
            have X2 := Aside0.mk (show Kd.C k61 (((((w9.setCell ⟨gx, 5, none⟩ (.int .i64 1)).setCell ⟨gx, 6, none⟩ (.int .i64 1)).setCell ⟨gx, 7, none⟩ (.int .i64 0)).setCell ⟨gx, 8, none⟩ (.int .i64 0)).setCell ⟨gx, 9, none⟩ (.slice A4 1 c4)) (some ⟨gx, 0, none⟩) (lst n).length (bn 0 :: (⟨1, 1, 0, 0, [fR tO]⟩ : SB) :: tl) from row_two (x0 := bn 0) (x1 := bn 1) (HTL.out ▸ Y2.out) X1.out.2.1 (k61.K_below X1.out.2.1 kk0) X0.out (fun i u hu => (W5_far Y1.out.1 5 _ _ _ _ _ _ (.inl (by have h_ := (List.getElem?_eq_some_iff.1 hu).1; have h2_ : i < 5 := h_; omega))).trans (T0.out i u hu)) (fun i u hu => W5_cell Y1.out.1 (k := 5) (by have := Y1.out.2.1; omega) _ _ _ _ _ i u hu) (fun o ho => W5_far Y1.out.1 5 _ _ _ _ _ _ (.inr ho)))
            have HLQ := Aside0.mk (show (lst n).length = (bn 0 :: (⟨1, 1, 0, 0, [fR tO]⟩ : SB) :: tl).length from by rw [HTL.out]; rfl)
            clear Y1 Y2 Y3 Y4 X0 kk0 T0 V4 V6 HGX s5 z5 s6 z6 s7 z7 s8 z8 s9 z9
            generalize ((((w9.setCell ⟨gx, 5, none⟩ (.int .i64 1)).setCell ⟨gx, 6, none⟩ (.int .i64 1)).setCell ⟨gx, 7, none⟩ (.int .i64 0)).setCell ⟨gx, 8, none⟩ (.int .i64 0)).setCell ⟨gx, 9, none⟩ (.slice A4 1 c4) = wf at X1 X2 ⊢
            have HLL := Aside0.mk (show (lst n).length ≤ cx from RXl.out)
            rw [HLQ.out] at X2 HLL ⊢
            go_wp2_with fail
            refine (check_Log_Saw.calls g E2 R2 S2 tT 1 0 n 0 (some ⟨gx, 0, none⟩) cx (bn 0 :: (⟨1, 1, 0, 0, [fR tO]⟩ : SB) :: tl) _ X1.out.2.2 X2.out HLL.out ⟨by decide, by decide, by decide, W0.out.1, by decide, by rw [← HLQ.out, lst_len]; have := HN.out; omega, fun b_ hb_ => (mem3 hb_).elim (fun e_ => e_ ▸ bn_ok 0 (by decide)) (fun h2_ => h2_.elim (oth_ok b_) (fun h_ => lst_ok n (by have := HN.out; omega) b_ (by rw [HTL.out]; simp [h_])))⟩).mono ?_
            rintro e w9 ⟨rfl, hl_, hg_⟩
            have B9 := Aside0.mk (chg_old X1.out.1 G.out hg_)
            rw [(show sawF tT 1 0 n 0 (bn 0 :: (⟨1, 1, 0, 0, [fR tO]⟩ : SB) :: tl) E2 R2 S2 = (3, E2, R2, S2) from fi_c4 n (by have := HN.out; omega) HH.out _ (by rw [HTL.out]; rfl) tl rfl)]
            clear hl_ hg_
            go_wp2_with fail
            refine (bollardlaw24_awake.calls _).mono ?_
            rintro e wz ⟨rfl, hb⟩
            have BZ := Aside0.mk (below_step B9.out hb)
            clear hb
            go_wp2_with fail
            go_ret
            exact ⟨rfl, BZ.out⟩
          · obtain ⟨E3, R3_, S3, f3, _⟩ := fi_2 n HH.out
            have F3 := Aside0.mk f3
            clear f3
            go_wp2_with fail
            refine (ONE.out n aZ _).mono ?_
            rintro e w9 ⟨v4, rfl, hv4, hb⟩
            obtain ⟨A4, c4, e4⟩ := Kd.R_slice hv4
            subst e4
            go_upto_region 33 with fail
            (try simp only [Act.put, List.setIfInBounds_toArray, List.set_cons_zero, List.set_cons_succ])
            have bb := below_step hb (bel1 w9 (.cells #[.int .i64 n, .int .i64 1, .int .i64 5, .int .i64 0, .slice A4 1 c4] 61))
            have Y1 := Aside0.mk (heap_alloc_new w9 (.cells #[.int .i64 n, .int .i64 1, .int .i64 5, .int .i64 0, .slice A4 1 c4] 61))
            have Y2 := Aside0.mk (Kd.R_below R8.out bb)
            have Y3 := Aside0.mk (L8.out.below bb)
            have Y4 := Aside0.mk (below_step B8.out bb)
            have V5 := Aside0.mk (Kd.R_lower (Kd.R_below hv4 (bel1 w9 (.cells #[.int .i64 n, .int .i64 1, .int .i64 5, .int .i64 0, .slice A4 1 c4] 61))) B8.out.size)
            clear hv4 hb bb R8 L8 B8 BW8 HX8 RX8
            generalize w9.alloc (.cells #[.int .i64 n, .int .i64 1, .int .i64 5, .int .i64 0, .slice A4 1 c4] 61) = wy at Y1 Y2 Y3 Y4 V5 ⊢
            obtain ⟨gy, hgy⟩ : ∃ gy, gy = w9.heap.size := ⟨_, rfl⟩
            rw [← hgy] at Y1 ⊢
            clear hgy
            have s0 := (blk_cell Y1.out 0).trans rfl
            have s1 := (blk_cell Y1.out 1).trans rfl
            have s2 := (blk_cell Y1.out 2).trans rfl
            have s3 := (blk_cell Y1.out 3).trans rfl
            have s4 := (blk_cell Y1.out 4).trans rfl
            go_wp2_with (first | ((with_reducible refine gate_dst (N := 131) rfl ?_); refine Kd.R_lit k61 (w0 := w) w.heap.size 61 ?hg (N := 131) ?hd (xs := ([(⟨n, 1, 5, 0, [fR aZ]⟩ : SB)] : List SB)) (inner := [.int .i64 n, .int .i64 1, .int .i64 5, .int .i64 0, .slice A4 1 c4]) (ok := fun _ => True) (okp := fun _ => True) ?hr ?hp (fun _ hk => hk) trivial Y4.out Y4.out.size (by simp) ?_; (case hd => rfl); (case hg => rfl); (case hr => first | (go_simp; done) | (go_simp; rfl)); (case hp => exact Reps.c5 (show Kd.M k61 _ _ _ (⟨n, 1, 5, 0, [fR aZ]⟩ : SB) [.int .i64 n, .int .i64 1, .int .i64 5, .int .i64 0, .slice A4 1 c4] from k61_mkM _ _ _ (⟨n, 1, 5, 0, [fR aZ]⟩ : SB) V5.out) (Reps.none _ _)); intro vl wl hvl_ hbl_ hgl_ hnl_; obtain ⟨Ay, cy, el_, hcl_, hCl_⟩ := rows_C hvl_; subst el_; have LW := Aside0.mk (LogP.below Y3.out hgl_.toBelow); have BW_ := Aside0.mk hbl_; have CW := Aside0.mk (And.intro hcl_ hCl_); have RW := Aside0.mk (Kd.R_below Y2.out hgl_.toBelow); clear hvl_ hbl_ hgl_ hnl_ hcl_ hCl_ Y3 Y2 Y4))
            refine (check_Log_Saw.calls g E2 R2 S2 tT 1 0 ((n : Int) + 1) n Ay cy [(⟨n, 1, 5, 0, [fR aZ]⟩ : SB)] _ LW.out CW.out.2 CW.out.1 ⟨by decide, by decide, by decide, W0.out.2.1, W0.out.1, show 1 ≤ 140737488355328 from by decide, fun b_ hb_ => by simp only [List.mem_singleton] at hb_; subst hb_; exact ⟨W0.out.1, show (Lit.int .i64 1).wf = true from by decide, show (Lit.int .i64 5).wf = true from by decide, show (Lit.int .i64 0).wf = true from by decide, show 1 ≤ 140737488355328 from by decide, fun r_ hr_ => by simp only [List.mem_singleton] at hr_; subst hr_; show (Lit.int .i64 0).wf = true; decide⟩⟩).mono ?_
            rintro e wm ⟨rfl, hl_, hg_⟩
            have B9 := Aside0.mk (chg_old BW_.out G.out hg_)
            have R9 := Aside0.mk (R_saw RW.out hg_)
            have ff := fi_c5 n (by have := HN.out; omega) HH.out
            rw [ff] at hl_
            have L9 := Aside0.mk hl_
            rw [ff]
            clear hl_ hg_ LW BW_ CW RW ff s0 s1 s2 s3 s4 Y1 V5
            go_wp2_with fail
            refine (check_Log_Saw.calls g E2 R2 S2 tT 1 0 n 0 Al cl (lst n) _ L9.out (Kd.R_reads' R9.out).2.2 (Kd.R_reads' R9.out).2.1 (SA.out 0 n 0 (by decide) W0.out.1 (by decide))).mono ?_
            rintro e wk ⟨rfl, hl_, hg_⟩
            have Bk := Aside0.mk (chg_old B9.out G.out hg_)
            rw [F3.out]
            clear hl_ hg_
            go_wp2_with fail
            refine (bollardlaw24_awake.calls _).mono ?_
            rintro e wz ⟨rfl, hb⟩
            have BZ := Aside0.mk (below_step Bk.out hb)
            clear hb
            go_wp2_with fail
            go_ret
            exact ⟨rfl, BZ.out⟩

end Go.Proofs.Ytdlkofmcioalfaa.PCk
