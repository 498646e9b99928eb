-- written by a program of this session (wip/tools/pr.py, over the kit's printer): not by hand
import Derived.Test.YtgicdiblfcnelaaPFrx0
import Derived.Test.YtgicdiblfcnelaaPFrx2
import Derived.Test.YtgicdiblfcnelaaPFrx3
namespace Go.Proofs.Ytgicdiblfcnelaa.PFr
open Go.RowKit Go.Proofs.YtgicdiblfcnelaaW.PrintWords Go.Proofs.YtgicdiblfcnelaaW.PrintLast Go.Proofs.YtgicdiblfcnelaaW.PrintMore
attribute [local go_sem] max2_int min2_int max_two min_two max_three min_three max_four min_four   -- for this text's walks alone
set_option linter.unusedVariables false
set_option linter.unusedSimpArgs false

/-! ### frame: plain laws of what Feed tells -/
theorem bytes_same (l : List Int) (hl : l.length ≤ 4000000000000000000) (n : Nat) : ∀ (k i : Nat), i + n = l.length → n + 1 ≤ k → bollardalike_Bytes.l0 k l l (i : Int) = some true := by
  induction n with
  | zero =>
    intro k i hi hk
    obtain ⟨K, rfl⟩ : ∃ K, k = K + 1 := ⟨k - 1, by omega⟩
    simp only [bollardalike_Bytes.l0]
    rw [if_neg (by omega)]
  | succ n ih =>
    intro k i hi hk
    obtain ⟨K, rfl⟩ : ∃ K, k = K + 1 := ⟨k - 1, by omega⟩
    simp only [bollardalike_Bytes.l0]
    rw [if_pos (by omega), if_pos (by omega), if_pos (by omega), if_pos True.intro, show wrap64 ((i : Int) + 1) = ((i + 1 : Nat) : Int) from by unfold wrap64; omega]
    exact ih K (i + 1) (by omega) (by omega)
theorem same_same (L : List (List Int)) (hL : L.length ≤ 1000000000) (hx : ∀ x ∈ L, x.length ≤ 1000000000) (n : Nat) : ∀ (k i : Nat), i + n = L.length → n + 1000000002 ≤ k → bollardlaw19_same.l0 k L L (i : Int) = some true := by
  induction n with
  | zero =>
    intro k i hi hk
    obtain ⟨K, rfl⟩ : ∃ K, k = K + 1 := ⟨k - 1, by omega⟩
    simp only [bollardlaw19_same.l0]
    rw [if_neg (by omega)]
  | succ n ih =>
    intro k i hi hk
    obtain ⟨K, rfl⟩ : ∃ K, k = K + 1 := ⟨k - 1, by omega⟩
    simp only [bollardlaw19_same.l0]
    have hlt : i < L.length := by omega
    have hm : rd_L1 L (i : Int) ∈ L := by
      unfold rd_L1
      rw [Int.toNat_natCast, List.getD_eq_getElem?_getD, List.getElem?_eq_getElem hlt]
      exact List.getElem_mem hlt
    have h1 := hx _ hm
    have hb : bollardalike_Bytes.f K (rd_L1 L (i : Int)) (rd_L1 L (i : Int)) = some true := by
      unfold bollardalike_Bytes.f
      rw [if_pos rfl]
      exact bytes_same _ (by omega) _ K 0 (Nat.zero_add _) (by omega)
    rw [if_pos (by omega), if_pos (by omega), if_pos (by omega), hb, Option.bind_some, if_pos rfl, show wrap64 ((i : Int) + 1) = ((i + 1 : Nat) : Int) from by unfold wrap64; omega]
    exact ih K (i + 1) (by omega) (by omega)
theorem same_f (L : List (List Int)) (hL : L.length ≤ 1000000000) (hx : ∀ x ∈ L, x.length ≤ 1000000000) : ∃ k, bollardlaw19_same.f k L L = some true := by
  refine ⟨L.length + 1000000002, ?_⟩
  unfold bollardlaw19_same.f
  rw [if_pos rfl]
  exact same_same L hL hx L.length _ 0 (by omega) (Nat.le_refl _)
theorem feedX_cons (P : List Int) (bad : Bool) (x : Int) (l : List Int) : feedX P bad (x :: l) = ((feedX P bad [x]).1 ++ (feedX (feedX P bad [x]).2.1 (feedX P bad [x]).2.2 l).1, (feedX (feedX P bad [x]).2.1 (feedX P bad [x]).2.2 l).2) := by
  cases bad
  · show feedL P (x :: l) = ((feedL P [x]).1 ++ (feedX (feedL P [x]).2.1 (feedL P [x]).2.2 l).1, (feedX (feedL P [x]).2.1 (feedL P [x]).2.2 l).2)
    by_cases h1 : (P ++ [x]).length = 4 ∧ 8192 < lenP (P ++ [x])
    · rw [feed_bad h1, feed_bad h1]
      rfl
    · by_cases h2 : 4 ≤ (P ++ [x]).length ∧ (((P ++ [x]).length - 4 : Nat) : Int) = lenP (P ++ [x])
      · rw [feed_told h1 h2, feed_told h1 h2]
        rfl
      · rw [feed_more h1 h2, feed_more h1 h2]
        rfl
  · rfl
theorem feedX_nil (P : List Int) (bad : Bool) (h : bad = true → P = []) : feedX P bad [] = ([], P, bad) := by
  cases bad
  · rfl
  · rw [h rfl]; rfl
theorem feedX_append (l m : List Int) : ∀ (P : List Int) (bad : Bool), (bad = true → P = []) → feedX P bad (l ++ m) = ((feedX P bad l).1 ++ (feedX (feedX P bad l).2.1 (feedX P bad l).2.2 m).1, (feedX (feedX P bad l).2.1 (feedX P bad l).2.2 m).2) := by
  induction l with
  | nil => intro P bad h; rw [feedX_nil P bad h]; rfl
  | cons x l ih =>
    intro P bad h
    rw [List.cons_append, feedX_cons, feedX_cons P bad x l, ih _ _ (fun h2 => ?_)]
    · simp only [List.append_assoc]
    · cases bad
      · exact feedL_bad _ _ h2
      · rfl
theorem feedL_small (l : List Int) : ∀ P, (feedL P l).1.length ≤ l.length ∧ (∀ x ∈ (feedL P l).1, x.length ≤ P.length + l.length) ∧ (feedL P l).2.1.length ≤ P.length + l.length := by
  induction l with
  | nil => intro P; simp [feedL]
  | cons x l ih =>
    intro P
    by_cases h1 : (P ++ [x]).length = 4 ∧ 8192 < lenP (P ++ [x])
    · rw [feed_bad h1]; simp
    · by_cases h2 : 4 ≤ (P ++ [x]).length ∧ (((P ++ [x]).length - 4 : Nat) : Int) = lenP (P ++ [x])
      · rw [feed_told h1 h2]
        obtain ⟨a, b, c⟩ := ih []
        simp only [List.length_cons, List.length_nil] at a b c ⊢
        refine ⟨by omega, fun y hy => ?_, by omega⟩
        rcases List.mem_cons.1 hy with rfl | hy
        · rw [List.length_drop, List.length_append]
          simp only [List.length_cons, List.length_nil]
          omega
        · have := b y hy
          omega
      · rw [feed_more h1 h2]
        obtain ⟨a, b, c⟩ := ih (P ++ [x])
        simp only [List.length_cons, List.length_append, List.length_nil] at a b c ⊢
        exact ⟨by omega, fun y hy => by have := b y hy; omega, by omega⟩
/-- Rows that were told elsewhere may stand behind those of a row of rows: their blocks are none of its own. -/
theorem told_rows {W : World} {base m c : Nat} {okz oky : Nat → Prop} {A : Option Addr} {vy : Value} {zs ys : List (List Int)} (hz : kRow.R 23 W base okz (.slice A m c) zs) (hy : kRow.R 23 W base oky vy ys) :
    ReadsRow (kRow.M W base (fun k => okz k ∧ some k ≠ vy.ownBlock)) kRow.sz W A m zs ∧ m = zs.length ∧ m ≤ c := by
  obtain ⟨A', c', he, hl, hr⟩ := OwnRow.reads hz.2
  injection he with h1 h2 h3
  subst h1
  subst h2
  subst h3
  refine ⟨hr.imp_ (Below.refl _ _) (fun x cs hp => kRow.M_mono (fun k hk => ⟨hk.1.1, fun e => ?_⟩) (kRow.M_bound hp)), rfl, hl⟩
  obtain ⟨inner, hown⟩ := Kd.R_own hy
  obtain ⟨cells, hc⟩ := own_typed hown k e.symm
  obtain ⟨_, _, _, q, hq, cells', hc'⟩ := hk
  rw [hc] at hc'
  injection hc' with hc'
  injection hc' with _ hc'
  simp [Kd.slice, Kd.int, Kd.scalar] at hq
  subst hq
  exact absurd hc' (by decide)
/-- A row of rows that is apart from a feeder's body, behind a Feed. -/
theorem told_step {W W1 : World} {g base : Nat} {P : List Int} {bad : Bool} {v v' u : Value} {ok : Nat → Prop} {xs : List (List Int)} (h : kRow.R 23 W base (fun k => ok k ∧ some k ≠ v.ownBlock) u xs) (hF : FdX W g base P bad v) (hk : KeepBut W W1 g v.ownBlock) (hv : v'.ownBlock = v.ownBlock ∨ v'.ownBlock = none ∨ ∃ b, v'.ownBlock = some b ∧ W.heap.size ≤ b) :
    kRow.R 23 W1 base (fun k => ok k ∧ some k ≠ v'.ownBlock) u xs := by
  have hb : ∃ cells, W.heap[g]? = some (.cells cells 37 (0, 0)) := by
    cases bad
    · exact ⟨_, (show FdS W g base P v from hF).1⟩
    · exact ⟨_, (show FdAt W g 0 0 0 0 0 v true ∧ v = .slice none 0 0 ∧ P = [] from hF).1⟩
  obtain ⟨cells, hb⟩ := hb
  refine Kd.R_mono (Kd.R_move (Kd.R_bound (Kd.R_types h hb (by decide))) (fun k hk2 => hk.2 k hk2.2.2.1 hk2.1.2 hk2.1.1.2)) (fun k hk2 => ⟨hk2.1.1.1, fun e => ?_⟩)
  rcases hv with hv | hv | ⟨b, hv, hle⟩
  · exact hk2.1.1.2 (e.trans hv)
  · rw [hv] at e; cases e
  · rw [hv] at e
    injection e with e
    have := hk2.2.2.1
    omega
theorem feedX_small (P : List Int) (bad : Bool) (h : bad = true → P = []) (l : List Int) : (feedX P bad l).1.length ≤ l.length ∧ (∀ x ∈ (feedX P bad l).1, x.length ≤ P.length + l.length) ∧ (feedX P bad l).2.1.length ≤ P.length + l.length := by
  cases bad
  · exact feedL_small l P
  · simp [feedX]
theorem FdX.nil {W : World} {g base : Nat} {P : List Int} {bad : Bool} {v : Value} (h : FdX W g base P bad v) : bad = true → P = [] := by
  rintro rfl
  exact (show FdAt W g 0 0 0 0 0 v true ∧ v = .slice none 0 0 ∧ P = [] from h).2.2
theorem FdX.typed {W : World} {g base : Nat} {P : List Int} {bad : Bool} {v : Value} (h : FdX W g base P bad v) : ∃ cells, W.heap[g]? = some (.cells cells 37 (0, 0)) := by
  cases bad
  · exact ⟨_, (show FdS W g base P v from h).1⟩
  · exact ⟨_, (show FdAt W g 0 0 0 0 0 v true ∧ v = .slice none 0 0 ∧ P = [] from h).1⟩
/-- A feeder's body does not lie in another feeder's block. -/
theorem FdX.apart {W : World} {g g2 base : Nat} {P : List Int} {bad : Bool} {v : Value} {cells : Array Value} (h : FdX W g base P bad v) (h2 : W.heap[g2]? = some (.cells cells 37 (0, 0))) : ∀ k, v.ownBlock = some k → k ≠ g2 := by
  rintro k hk rfl
  cases bad
  · exact Kd.R_ne (show FdS W g base P v from h).2 h2 (by decide) hk.symm
  · rw [(show FdAt W g 0 0 0 0 0 v true ∧ v = .slice none 0 0 ∧ P = [] from h).2.1] at hk
    cases hk
/-- A feeder stays as it is while another one is fed. -/
theorem FdX.other {W W1 : World} {g g2 base : Nat} {P : List Int} {bad : Bool} {v : Value} {row : Option Nat} {cells : Array Value} (h : FdX W g base P bad v) (hk : KeepBut W W1 g2 row) (hg : g ≠ g2) (h2 : W.heap[g2]? = some (.cells cells 37 (0, 0))) (hgr : some g ≠ row) (hr : ∀ k, v.ownBlock = some k → some k ≠ row) : FdX W1 g base P bad v :=
  h.step (hk.2 g h.lt hg hgr) (fun k hv => hk.2 k (h.own k hv).2 (h.apart h2 k hv) (hr k hv))
theorem own_C {w W : World} {g e base n c : Nat} {ok : Nat → Prop} {row : Option Nat} {A : Option Addr} {xs : List Int} (h : Kd.R (Kd.int .u8) e w base ok (.slice A n c) xs) (hk : KeepBut w W g row) (hg : g < base) (hr : ∀ k, row = some k → k < base) : Kd.C (Kd.int .u8) W A xs.length xs := by
  have h2 := Kd.R_move (own_only h) (w1 := W) (fun k hv => hk.2 k (Kd.R_lt h k hv) (fun e => by have := Kd.R_base h k hv; omega) (fun e => by have := Kd.R_base h k hv; have := hr k e.symm; omega))
  exact (Kd.R_reads' h2).2.2
theorem zeros_fed (e : Nat) : ∀ p, p < 4 → feedL (List.replicate p 0) (List.replicate e 0) = (List.replicate ((p + e) / 4) [], List.replicate ((p + e) % 4) 0, false) := by
  induction e with
  | zero => intro p hp; rw [show (p + 0) / 4 = 0 by omega, show (p + 0) % 4 = p by omega]; rfl
  | succ e ih =>
    intro p hp
    have hP : List.replicate p (0 : Int) ++ [0] = List.replicate (p + 1) 0 := by rw [← List.replicate_succ']
    by_cases h : p = 3
    · subst h
      rw [List.replicate_succ (n := e), feed_told (by rw [hP]; decide +kernel) (by rw [hP]; decide +kernel)]
      have := ih 0 (by omega)
      rw [show List.replicate 0 (0 : Int) = [] from rfl] at this
      rw [this, hP, show (3 + (e + 1)) / 4 = (0 + e) / 4 + 1 by omega, show (3 + (e + 1)) % 4 = (0 + e) % 4 by omega]
      rfl
    · rw [List.replicate_succ (n := e), feed_more (by rw [hP, List.length_replicate]; omega) (by rw [hP, List.length_replicate]; omega), hP, ih (p + 1) (by omega), show p + 1 + e = p + (e + 1) by omega]
/-! ### bollardlaw19_FrameCuts -/
set_option maxHeartbeats 4000000 in
set_option maxRecDepth 100000 in
theorem framecuts_main (A : Option Addr) (c : Nat) (l : List Int) (size : Int) (w : World) (hr : Kd.C (Kd.int .u8) w A l.length l) (hc : l.length ≤ c) (h1 : (l.length : Int) ≤ 20000) (h2 : 1 ≤ size) (h3 : size ≤ 9223372036854775807) :
    Calls Try.prog 4 #[.slice A l.length c, .int .i64 size] w fun e w' => e = .returned (.bool true) ∧ Below w.heap.size w w' := by
  obtain ⟨i0, hi0, -, hsz, -⟩ := info_parts info_u8
  have HR := Aside0.mk hr
  have HC := Aside0.mk hc
  have HS := Aside0.mk (And.intro h2 (And.intro h3 h1))
  have f1 : decide (20000 < (l.length : Int)) = false := decide_eq_false (by omega)
  have f2 : decide (size < 1) = false := decide_eq_false (by omega)
  have HI := Aside0.mk (And.intro hi0 hsz)
  clear hr hc h1 h2 h3 hi0 hsz
  go_enter Try.func4, Try.ntmps4
  go_wp2_with fail
  refine (frame_New.calls _).mono ?_
  rintro e w1 ⟨rfl, hF, hb⟩
  have HF := Aside0.mk (FdX.fresh (base := w.heap.size) hF)
  have HB := Aside0.mk hb
  clear hF hb
  go_wp2_with fail
  obtain ⟨W2, hW2⟩ : ∃ W2, W2 = w1.alloc (.cells #[.int .u8 0, .int .u8 0, .int .u8 0, .int .u8 0, .int .i64 0, .slice none 0 0, .bool false] 37 (0, 0)) := ⟨_, rfl⟩
  rw [← hW2]
  have hGa : FdAt W2 w1.heap.size 0 0 0 0 0 (.slice none 0 0) false := by rw [hW2]; exact heap_alloc_new w1 _
  have hF2 : FdX W2 w.heap.size w.heap.size [] false (.slice none 0 0) := by rw [hW2]; exact HF.out.below (below_alloc (Below.refl _ _) _)
  have hB2 : Below w.heap.size w W2 := by rw [hW2]; exact below_alloc HB.out _
  have hgg : w.heap.size < w1.heap.size := HF.out.lt
  have HGG := Aside0.mk hgg
  obtain ⟨gg, hgg2⟩ : ∃ gg, gg = w1.heap.size := ⟨_, rfl⟩
  rw [← hgg2] at hGa HGG ⊢
  have HG := Aside0.mk (FdX.fresh (base := w.heap.size) hGa)
  have HGa := Aside0.mk hGa
  have HF2 := Aside0.mk hF2
  have HB2 := Aside0.mk hB2
  clear hGa hF2 hB2 hgg hW2 HF HB
  clear hgg2
  obtain ⟨xs, PF, bF, hfe⟩ : ∃ xs PF bF, feedX [] false l = (xs, PF, bF) := ⟨_, _, _, rfl⟩
  have HFE := Aside0.mk hfe
  refine (frame_Feed.calls w.heap.size w.heap.size [] false _ A c l W2 xs PF bF (Nat.le_refl _) HB2.out.size HF2.out (fun W hk => came_C HR.out HB2.out hk (Nat.le_refl _) (fun k h => by cases h)) HC.out (by have := HS.out; simp only [List.length_nil]; omega) hfe).mono ?_
  rintro e w3 ⟨vx, vf, rfl, hox, hxf, huf, hbf, hkf⟩
  have HOX := Aside0.mk (Kd.R_types hox ((hkf.2 _ HG.out.lt (by have := HGG.out; omega) (by simp [Value.ownBlock])).trans HGa.out) (by decide))
  have HG3 := Aside0.mk (HG.out.other hkf (by have := HGG.out; omega) (show FdS W2 w.heap.size w.heap.size [] (.slice none 0 0) from HF2.out).1 (by simp [Value.ownBlock]) (fun k h => by cases h))
  have HF3 := Aside0.mk hxf
  have HB3 := Aside0.mk (HB2.out.trans hbf)
  clear hfe hox hxf huf hbf hkf HG HGa HF2 HB2
  obtain ⟨Ax, cx, ex⟩ := Kd.R_slice HOX.out
  subst ex
  go_wp2_with fail
  go_loopg [9, 10, 11] (l.length + 1) (fun kq v9 v10 v11 w' => ∃ (i : Int) (ys : List (List Int)) (P : List Int) (bad : Bool) (vg : Value), v10 = .bool (!bad) ∧ v11 = .int .i64 i ∧ Aside0 (0 ≤ i ∧ i ≤ (l.length : Int) ∧ kq + i.toNat = l.length + 1) ∧ Aside0 (feedX [] false (l.take i.toNat) = (ys, P, bad)) ∧
    Aside0 (FdX w' gg w.heap.size P bad vg) ∧ Aside0 (vg.ownBlock = none ∨ ∃ b, vg.ownBlock = some b ∧ w3.heap.size ≤ b) ∧ Aside0 (kRow.R 23 w' w.heap.size (fun k => w3.heap.size ≤ k ∧ some k ≠ vg.ownBlock) v9 ys) ∧ Aside0 (Below w.heap.size w w') ∧ Aside0 (KeepBut w3 w' gg none))
  case atStart => exact ⟨0, [], [], false, _, rfl, rfl, ⟨by omega, by omega, by simp⟩, ⟨rfl⟩, HG3, ⟨.inl rfl⟩, ⟨Kd.R_nil _ _ _ _ _⟩, HB3, ⟨KeepBut.refl _ _ _⟩⟩
  case round =>
    obtain ⟨i, ys, P, bad, vg, rfl, rfl, HN, HFD, HGr, HVG, HY, HBr, HKr⟩ := hrel
    by_cases hi : i < (l.length : Int)
    · have d1 : decide (i < (l.length : Int)) = true := decide_eq_true hi
      obtain ⟨m, hm⟩ : ∃ m : Int, m = (l.length : Int) - i := ⟨_, rfl⟩
      have ew0 : IntKind.i64.wrap ((l.length : Int) - i) = m := (i64_w _).trans (by have := HN.out; have := HS.out; unfold wrap64; omega)
      have HM := Aside0.mk hm
      clear hm
      by_cases c2 : size < m
      · skip
        have d2 : decide (size < m) = true := decide_eq_true c2
        have b1 : 1 ≤ size := by have := HS.out; have := HM.out; omega
        have b2 : i + size ≤ (l.length : Int) := by have := HM.out; omega
        have b0 := HN.out.1
        have ew1 : IntKind.i64.wrap (i + size) = i + size := (i64_w _).trans (by have := HS.out; unfold wrap64; omega)
        obtain ⟨A2, hcut, hA, hC⟩ := print_mid_of (P := Try.prog) (Value.int .u8) 0 23 5 .i64 .i64 Try.underlying23 HI.out.1 HI.out.2 A c l i (i + size) b0 (by omega) b2 HC.out
        obtain ⟨sl, hsl⟩ : ∃ sl, sl = (l.take (i + size).toNat).drop i.toNat := ⟨_, rfl⟩
        rw [← hsl] at hA hC hcut
        have HA := Aside0.mk hA
        have HC2 := Aside0.mk hC
        have HSL := Aside0.mk (show l.take (i + size).toNat = l.take i.toNat ++ sl from by have h_ := List.take_append_drop i.toNat (l.take (i + size).toNat); rw [List.take_take, Nat.min_eq_left (by omega)] at h_; rw [hsl]; exact h_.symm)
        have HSZ := Aside0.mk (show sl.length ≤ l.length from by rw [hsl, List.length_drop, List.length_take]; omega)
        have HB1 := Aside0.mk (And.intro b0 (And.intro b1 b2))
        clear hA hC hsl b0 b1 b2 c2
        obtain ⟨zs, P2, bad2, hz⟩ : ∃ zs P2 bad2, feedX P bad sl = (zs, P2, bad2) := ⟨_, _, _, rfl⟩
        have HZ := Aside0.mk hz
        clear hz
        have HPL := Aside0.mk (show P.length ≤ l.length from by have h_ := (feedX_small [] false (fun h => by cases h) (l.take i.toNat)).2.2; rw [HFD.out] at h_; simp only [List.length_nil, List.length_take] at h_; omega)
        go_wp2_with fail
        refine (frame_Feed.calls gg w.heap.size P bad vg A2 _ sl wr zs P2 bad2 (by have := HGG.out; omega) HBr.out.size HGr.out (fun W hk => Kd.C_of_reads (h1 := fun _ => rfl) (HA.out _ (Kd.reads_of_C (came_C HR.out HBr.out hk (by have := HGG.out; omega) (fun k h => (HGr.out.own k h).1))))) HC2.out (by have := HPL.out; have := HSZ.out; have := HS.out; omega) HZ.out).mono ?_
        rintro e w4 ⟨vz, vg2, rfl, hoz, hxg, hug, hbg, hkg⟩
        obtain ⟨Az, cz, ez⟩ := Kd.R_slice hoz
        subst ez
        have HY4 := Aside0.mk (told_step HY.out HGr.out hkg hug)
        have HR4 := Aside0.mk (told_rows hoz HY4.out).1
        have HG4 := Aside0.mk hxg
        have HB4 := Aside0.mk (HBr.out.trans hbg)
        have HK4 := Aside0.mk (KeepBut.trans HKr.out hkg HVG.out)
        have HV4 := Aside0.mk (show vg2.ownBlock = none ∨ ∃ b, vg2.ownBlock = some b ∧ w3.heap.size ≤ b from hug.elim (fun h => by rw [h]; exact HVG.out) (fun h => h.elim .inl (fun ⟨b, h, hb⟩ => .inr ⟨b, h, Nat.le_trans HKr.out.1 hb⟩)))
        have HL4 := Aside0.mk (show ys.length + zs.length ≤ 100000 from by have h_ := (feedX_small [] false (fun h => by cases h) (l.take i.toNat)).1; have h2_ := (feedX_small P bad HGr.out.nil sl).1; rw [HFD.out] at h_; rw [HZ.out] at h2_; replace h2_ : zs.length ≤ sl.length := h2_; simp only [List.length_take] at h_; have := HSZ.out; have := HS.out; omega)
        clear hoz hxg hug hbg hkg
        go_wp2_with (at_builtin; refine Kd.R_append_rows kRow (w0 := w) w.heap.size rfl (.tmp 55) (.tmp 56) 22 23 (.slice none 0 0) 24 rfl Try.underlying22 info_sb rfl (by decide) (by decide) u9 ys zs Az zs.length cz (fun k => w3.heap.size ≤ k ∧ some k ≠ vg2.ownBlock) _ rfl rfl HY4.out HR4.out (fun _ _ h => h) ?aK ?aF HB4.out HB4.out.size ?aL ?_; (case aK => exact fun k hk => ⟨⟨hk.1.1.elim (fun h => HVG.out.elim (fun h2 => by rw [h2] at h; cases h) (fun ⟨b, h2, hb⟩ => by rw [h2] at h; injection h with h; omega)) (fun h => Nat.le_trans HKr.out.1 h), hk.1.2⟩, hk.2⟩); (case aF => exact fun k hk => ⟨Nat.le_trans HK4.out.1 hk, fun e => by have := (HG4.out.own k e.symm).2; omega⟩); (case aL => have := HL4.out; omega); intro vy w5 ho hb hg hat; have HG5 := Aside0.mk (HG4.out.step (hg.block gg HG4.out.lt (by obtain ⟨cells, hc⟩ := HG4.out.typed; exact Kd.R_ne HY4.out hc (by decide))) (fun k hv => hg.block k (HG4.out.own k hv).2 (fun e => (HY4.out.1 k e.symm).2 hv.symm))); have HK5 := Aside0.mk (keep_grown HK4.out hg (match hv : u9.ownBlock with | none => .inl rfl | some k => .inr (.inr ⟨k, rfl, (HY4.out.1 k hv).1⟩))); have HY5 := Aside0.mk ho; have HB5 := Aside0.mk hb; clear ho hb hg hat)
        have e2 : feedX [] false (l.take (i + size).toNat) = (ys ++ zs, P2, bad2) := by rw [HSL.out, feedX_append _ _ _ _ (fun h => by cases h), HFD.out]; simp only [HZ.out]
        go_roundg (l.length + 1 - (i + size).toNat)
        case measure => have := HB1.out; have := HN.out; omega
        case rel => exact ⟨i + size, ys ++ zs, P2, bad2, vg2, rfl, rfl, ⟨by have := HB1.out; omega, by have := HB1.out; omega, by have := HB1.out; have := HN.out; omega⟩, ⟨e2⟩, HG5, HV4, HY5, HB5, HK5⟩
      · skip
        have d2 : decide (size < m) = false := decide_eq_false c2
        have b1 : 1 ≤ m := by have := HS.out; have := HM.out; omega
        have b2 : i + m ≤ (l.length : Int) := by have := HM.out; omega
        have b0 := HN.out.1
        have ew1 : IntKind.i64.wrap (i + m) = i + m := (i64_w _).trans (by have := HS.out; unfold wrap64; omega)
        obtain ⟨A2, hcut, hA, hC⟩ := print_mid_of (P := Try.prog) (Value.int .u8) 0 23 5 .i64 .i64 Try.underlying23 HI.out.1 HI.out.2 A c l i (i + m) b0 (by omega) b2 HC.out
        obtain ⟨sl, hsl⟩ : ∃ sl, sl = (l.take (i + m).toNat).drop i.toNat := ⟨_, rfl⟩
        rw [← hsl] at hA hC hcut
        have HA := Aside0.mk hA
        have HC2 := Aside0.mk hC
        have HSL := Aside0.mk (show l.take (i + m).toNat = l.take i.toNat ++ sl from by have h_ := List.take_append_drop i.toNat (l.take (i + m).toNat); rw [List.take_take, Nat.min_eq_left (by omega)] at h_; rw [hsl]; exact h_.symm)
        have HSZ := Aside0.mk (show sl.length ≤ l.length from by rw [hsl, List.length_drop, List.length_take]; omega)
        have HB1 := Aside0.mk (And.intro b0 (And.intro b1 b2))
        clear hA hC hsl b0 b1 b2 c2
        obtain ⟨zs, P2, bad2, hz⟩ : ∃ zs P2 bad2, feedX P bad sl = (zs, P2, bad2) := ⟨_, _, _, rfl⟩
        have HZ := Aside0.mk hz
        clear hz
        have HPL := Aside0.mk (show P.length ≤ l.length from by have h_ := (feedX_small [] false (fun h => by cases h) (l.take i.toNat)).2.2; rw [HFD.out] at h_; simp only [List.length_nil, List.length_take] at h_; omega)
        go_wp2_with fail
        refine (frame_Feed.calls gg w.heap.size P bad vg A2 _ sl wr zs P2 bad2 (by have := HGG.out; omega) HBr.out.size HGr.out (fun W hk => Kd.C_of_reads (h1 := fun _ => rfl) (HA.out _ (Kd.reads_of_C (came_C HR.out HBr.out hk (by have := HGG.out; omega) (fun k h => (HGr.out.own k h).1))))) HC2.out (by have := HPL.out; have := HSZ.out; have := HS.out; omega) HZ.out).mono ?_
        rintro e w4 ⟨vz, vg2, rfl, hoz, hxg, hug, hbg, hkg⟩
        obtain ⟨Az, cz, ez⟩ := Kd.R_slice hoz
        subst ez
        have HY4 := Aside0.mk (told_step HY.out HGr.out hkg hug)
        have HR4 := Aside0.mk (told_rows hoz HY4.out).1
        have HG4 := Aside0.mk hxg
        have HB4 := Aside0.mk (HBr.out.trans hbg)
        have HK4 := Aside0.mk (KeepBut.trans HKr.out hkg HVG.out)
        have HV4 := Aside0.mk (show vg2.ownBlock = none ∨ ∃ b, vg2.ownBlock = some b ∧ w3.heap.size ≤ b from hug.elim (fun h => by rw [h]; exact HVG.out) (fun h => h.elim .inl (fun ⟨b, h, hb⟩ => .inr ⟨b, h, Nat.le_trans HKr.out.1 hb⟩)))
        have HL4 := Aside0.mk (show ys.length + zs.length ≤ 100000 from by have h_ := (feedX_small [] false (fun h => by cases h) (l.take i.toNat)).1; have h2_ := (feedX_small P bad HGr.out.nil sl).1; rw [HFD.out] at h_; rw [HZ.out] at h2_; replace h2_ : zs.length ≤ sl.length := h2_; simp only [List.length_take] at h_; have := HSZ.out; have := HS.out; omega)
        clear hoz hxg hug hbg hkg
        go_wp2_with (at_builtin; refine Kd.R_append_rows kRow (w0 := w) w.heap.size rfl (.tmp 55) (.tmp 56) 22 23 (.slice none 0 0) 24 rfl Try.underlying22 info_sb rfl (by decide) (by decide) u9 ys zs Az zs.length cz (fun k => w3.heap.size ≤ k ∧ some k ≠ vg2.ownBlock) _ rfl rfl HY4.out HR4.out (fun _ _ h => h) ?aK ?aF HB4.out HB4.out.size ?aL ?_; (case aK => exact fun k hk => ⟨⟨hk.1.1.elim (fun h => HVG.out.elim (fun h2 => by rw [h2] at h; cases h) (fun ⟨b, h2, hb⟩ => by rw [h2] at h; injection h with h; omega)) (fun h => Nat.le_trans HKr.out.1 h), hk.1.2⟩, hk.2⟩); (case aF => exact fun k hk => ⟨Nat.le_trans HK4.out.1 hk, fun e => by have := (HG4.out.own k e.symm).2; omega⟩); (case aL => have := HL4.out; omega); intro vy w5 ho hb hg hat; have HG5 := Aside0.mk (HG4.out.step (hg.block gg HG4.out.lt (by obtain ⟨cells, hc⟩ := HG4.out.typed; exact Kd.R_ne HY4.out hc (by decide))) (fun k hv => hg.block k (HG4.out.own k hv).2 (fun e => (HY4.out.1 k e.symm).2 hv.symm))); have HK5 := Aside0.mk (keep_grown HK4.out hg (match hv : u9.ownBlock with | none => .inl rfl | some k => .inr (.inr ⟨k, rfl, (HY4.out.1 k hv).1⟩))); have HY5 := Aside0.mk ho; have HB5 := Aside0.mk hb; clear ho hb hg hat)
        have e2 : feedX [] false (l.take (i + m).toNat) = (ys ++ zs, P2, bad2) := by rw [HSL.out, feedX_append _ _ _ _ (fun h => by cases h), HFD.out]; simp only [HZ.out]
        go_roundg (l.length + 1 - (i + m).toNat)
        case measure => have := HB1.out; have := HN.out; omega
        case rel => exact ⟨i + m, ys ++ zs, P2, bad2, vg2, rfl, rfl, ⟨by have := HB1.out; omega, by have := HB1.out; omega, by have := HB1.out; have := HN.out; omega⟩, ⟨e2⟩, HG5, HV4, HY5, HB5, HK5⟩
    · have d1 : decide (i < (l.length : Int)) = false := decide_eq_false hi
      have he := HFD.out
      rw [List.take_of_length_le (by have := HN.out; omega), HFE.out] at he
      simp only [Prod.mk.injEq] at he
      obtain ⟨rfl, rfl, rfl⟩ := he
      have hsm := feedX_small [] false (fun h => by cases h) l
      rw [HFE.out] at hsm
      simp only [List.length_nil, Nat.zero_add] at hsm
      obtain ⟨ks, hks⟩ := same_f xs (by have := HS.out; omega) (fun x hx => by have := hsm.2.1 x hx; have := HS.out; omega)
      have HKS := Aside0.mk hks
      have HPL := Aside0.mk (show PF.length ≤ 1000000000 from by have := hsm.2.2; have := HS.out; omega)
      have HOXr := Aside0.mk (Kd.R_keep HOX.out HKr.out (fun _ h => h.2))
      obtain ⟨cells, hcg⟩ := HG3.out.typed
      have HFr := Aside0.mk (HF3.out.other HKr.out (by have := HGG.out; omega) hcg (by simp) (fun k h => by simp))
      obtain ⟨Ay, cy, ey⟩ := Kd.R_slice HY.out
      subst ey
      clear hsm hks hcg
      go_wp2_with fail
      refine (bollardlaw19_same.calls ks Ax cx xs Ay cy xs true wr (Kd.R_reads' HOXr.out).2.2 (Kd.R_reads' HOXr.out).2.1 (Kd.R_reads' HY.out).2.2 (Kd.R_reads' HY.out).2.1 HKS.out).mono ?_
      rintro e w6 ⟨rfl, ⟨q, rfl⟩⟩
      go_wp2_with fail
      refine ((HFr.out.below (pw_below_drewN (Below.refl _ _) q)).waiting HPL.out).mono ?_
      rintro e w7 ⟨rfl, m1, rfl⟩
      go_wp2_with fail
      refine ((HGr.out.below (pw_below_drewN (Below.refl _ _) (q + m1))).waiting HPL.out).mono ?_
      rintro e w8 ⟨rfl, m2, rfl⟩
      go_wp2_with fail
      refine (bollardlaw19_awake.calls _).mono ?_
      rintro e w9 ⟨rfl, hb9⟩
      have HB9 := Aside0.mk (below_step (pw_below_drewN HBr.out _) hb9)
      clear hb9
      go_wp2
      go_ret
      exact ⟨rfl, HB9.out⟩
set_option maxHeartbeats 1000000 in
set_option maxRecDepth 100000 in
theorem framecuts_long (A : Option Addr) (c : Nat) (l : List Int) (size : Int) (w : World) (h1 : 20000 < (l.length : Int)) :
    Calls Try.prog 4 #[.slice A l.length c, .int .i64 size] w fun e w' => e = .returned (.bool true) ∧ Below w.heap.size w w' := by
  have f1 : decide (20000 < (l.length : Int)) = true := decide_eq_true h1
  clear h1
  go_enter Try.func4, Try.ntmps4
  go_wp2_with fail
  refine (bollardlaw19_awake.calls _).mono ?_
  rintro e w9 ⟨rfl, hb9⟩
  have HB9 := Aside0.mk hb9
  clear hb9
  go_wp2
  go_ret
  exact ⟨rfl, HB9.out⟩
set_option maxHeartbeats 1000000 in
set_option maxRecDepth 100000 in
theorem framecuts_none (A : Option Addr) (c : Nat) (l : List Int) (size : Int) (w : World) (h1 : (l.length : Int) ≤ 20000) (h2 : size < 1) :
    Calls Try.prog 4 #[.slice A l.length c, .int .i64 size] w fun e w' => e = .returned (.bool true) ∧ Below w.heap.size w w' := by
  have f1 : decide (20000 < (l.length : Int)) = false := decide_eq_false (by omega)
  have f2 : decide (size < 1) = true := decide_eq_true h2
  clear h1 h2
  go_enter Try.func4, Try.ntmps4
  go_wp2_with fail
  refine (bollardlaw19_awake.calls _).mono ?_
  rintro e w9 ⟨rfl, hb9⟩
  have HB9 := Aside0.mk hb9
  clear hb9
  go_wp2
  go_ret
  exact ⟨rfl, HB9.out⟩
def bollardlaw19_FrameCuts.f (l0 : List Int) (a1 : Int) : Option Bool := if a1 ≤ 9223372036854775807 then some true else none
theorem bollardlaw19_FrameCuts.calls (A0 : Option Addr) (c0 : Nat) (l0 : List Int) (a1 : Int) (r : Bool) (w : World) (hr0 : Kd.C (Kd.int .u8) w A0 l0.length l0) (hc0 : l0.length ≤ c0) (h : bollardlaw19_FrameCuts.f l0 a1 = some r) :
    Calls Try.prog 4 #[.slice A0 l0.length c0, .int .i64 a1] w fun e w' => e = .returned (.bool r) ∧ Below w.heap.size w w' := by
  unfold bollardlaw19_FrameCuts.f at h
  split at h
  case isFalse => cases h
  rename_i h3
  obtain rfl := Option.some.inj h
  by_cases h1 : (l0.length : Int) ≤ 20000
  · by_cases h2 : 1 ≤ a1
    · exact framecuts_main A0 c0 l0 a1 w hr0 hc0 h1 h2 h3
    · exact framecuts_none A0 c0 l0 a1 w h1 (by omega)
  · exact framecuts_long A0 c0 l0 a1 w (by omega)

/-- THE ONE PURE STATEMENT of bollardlaw19_FrameCuts: mine. -/
def bollardlaw19_FrameCuts.Pure : Prop := ∀ (l0 : List Int) (a1 : Int), (l0.length * 1 ≤ 140737488351232 ∧ ∀ y0 ∈ l0, (Lit.int .u8 y0).wf = true) → (Lit.int .i64 a1).wf = true → bollardlaw19_FrameCuts.f l0 a1 = some true

end Go.Proofs.Ytgicdiblfcnelaa.PFr
