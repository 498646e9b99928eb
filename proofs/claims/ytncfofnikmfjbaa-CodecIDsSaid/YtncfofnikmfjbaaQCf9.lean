import Derived.Test.YtncfofnikmfjbaaQCf8
import Derived.Outline
import Derived.StillTailTactics
import Derived.RegionTactic
import Derived.BigRegion
import Derived.Lib.BufferWrite
namespace Go.Proofs.Ytncfofnikmfjbaa.PCi
open Go.RowKit Go.Proofs.YtncfofnikmfjbaaW.PrintWords Go.Proofs.YtncfofnikmfjbaaW.PrintLast Go.Proofs.YtncfofnikmfjbaaW.PrintMore
attribute [local go_sem] max2_int min2_int max_two min_two max_three min_three max_four min_four
set_option linter.unusedVariables false
set_option linter.unusedSimpArgs false

/-- As many as were told, until it is over. -/
def rdAll {α : Type} (one : List Int → Bool → α × List Int × Bool) : Nat → List Int → Bool → List α × List Int × Bool
  | 0, l, b => ([], l, b)
  | n + 1, l, b => if b = true then ([], l, b) else ((one l b).1 :: (rdAll one n (one l b).2.1 (one l b).2.2).1, (rdAll one n (one l b).2.1 (one l b).2.2).2)
def rdList {α : Type} (one : List Int → Bool → α × List Int × Bool) (l : List Int) (bad : Bool) : List α × List Int × Bool := rdAll one (rdNum 2 l bad).1.toNat (rdNum 2 l bad).2.1 (rdNum 2 l bad).2.2
theorem rdAll_bad {α : Type} (one : List Int → Bool → α × List Int × Bool) (n : Nat) (l : List Int) : rdAll one n l true = ([], l, true) := by cases n <;> rfl
def rdInt (l : List Int) (bad : Bool) : Int × List Int × Bool := rdNum 8 l bad
theorem KeepR.grow {α : Type} {d : Kd α} {e : Nat} {ok : Nat → Prop} {v : Value} {xs : List α} {w w2 w3 : World} {g base : Nat} (h : KeepR w w2 g base) (hr : d.R e w2 w.heap.size ok v xs) (hg : w2.grownBy w3 v.ownBlock) (hb : base ≤ w.heap.size) : KeepR w w3 g base := by
  obtain ⟨inner, hown⟩ := Kd.R_own hr
  refine ⟨h.below.grown hg (Nat.le_trans hb h.below.size) (fun k hk => Nat.le_trans hb (own_base hown k hk)), fun i o hi ho => ?_⟩
  have h1 := h.keep i o hi ho
  refine (hg.block i (blk_lt h1) (fun e => ?_)).trans h1
  have := own_base hown i e.symm
  have := blk_lt ho
  omega
theorem Rd.grow {α : Type} {d : Kd α} {e base : Nat} {ok : Nat → Prop} {v : Value} {xs : List α} {u w2 w3 : World} {g : Nat} {l : List Int} {bad : Bool} (h : Rd u w2 g l bad) (hr : d.R e w2 base ok v xs) (he : e ≠ 88) (hg : w2.grownBy w3 v.ownBlock) : Rd u w3 g l bad := by
  obtain ⟨A, c, h1, h2⟩ := h
  exact ⟨A, c, (hg.block g (blk_lt h1) (Kd.R_ne hr h1 he)).trans h1, h2⟩
theorem KeepR.R {α : Type} {d : Kd α} {e base b : Nat} {v : Value} {xs : List α} {w w2 : World} {g : Nat} (h : d.R e w base (fun k => k ≠ g) v xs) (k : KeepR w w2 g b) : d.R e w2 base (fun k => k ≠ g) v xs := Kd.R_step h (fun i hi hlt => by
  obtain ⟨o, ho⟩ : ∃ o, w.heap[i]? = some o := ⟨_, Array.getElem?_eq_getElem hlt⟩
  exact (k.keep i o hi ho).trans ho.symm)
set_option maxHeartbeats 4000000 in
set_option maxRecDepth 100000 in
theorem rd_count (q u_ : Nat) (u : World) (g : Nat) (l : List Int) (bad : Bool) (v : Int) (l2 : List Int) (bad2 : Bool) (w : World) (hF : Rd u w g l bad) (hg : u.heap.size ≤ g) (hu : Below u.heap.size u w) (hq : w.cell? ⟨q, 0, none⟩ = some (.pointer (some ⟨g, 0, none⟩))) (h : rdInt l bad = (v, l2, bad2)) :
    Calls Try.prog 69 #[.pointer (some ⟨q, 0, none⟩)] w fun e w' => e = .returned (.int .i64 v) ∧ Rd u w' g l2 bad2 ∧ KeepR w w' g u.heap.size := by
  have HF := Aside0.mk hF
  have HGE := Aside0.mk hg
  have HU := Aside0.mk hu
  have HH := Aside0.mk h
  clear hF hg hu h
  go_enter Try.func69, Try.ntmps69
  go_wp2_with fail
  refine (rd_number u g l bad 8 v l2 bad2 w HF.out HGE.out HU.out (by decide) (by decide) HH.out).mono ?_
  rintro e w1 ⟨rfl, h3, h4⟩
  have H3 := Aside0.mk h3
  have H4 := Aside0.mk h4
  clear h3 h4
  go_wp2_with fail
  go_ret
  exact ⟨rfl, H3.out, H4.out⟩
theorem info_all_rd_allR : (Try.prog.info? 98).map (fun i => (i.zero, i.size, i.bytes)) = some (some (.agg #[(.bool false), (.string ⟨#[]⟩), (.bool false), (.string ⟨#[]⟩), (.int .i64 0), (.int .i64 0)]), 6, 64) := by kernel_rfl
set_option maxHeartbeats 4000000 in
set_option maxRecDepth 100000 in
theorem rd_allR (u : World) (g : Nat) (l : List Int) (bad : Bool) (xs : List S98) (l2 : List Int) (bad2 : Bool) (w : World) (hF : Rd u w g l bad) (hg : u.heap.size ≤ g) (hu : Below u.heap.size u w) (h : rdList rdRec l bad = (xs, l2, bad2)) :
    Calls Try.prog 65 #[.pointer (some ⟨g, 0, none⟩), .func (Fn.func 66) #[.pointer (some ⟨g, 0, none⟩)] #[]] w fun e w' => (∃ v, e = .returned v ∧ Kd.R k98 98 w' w.heap.size (fun k => k ≠ g) v xs) ∧ Rd u w' g l2 bad2 ∧ KeepR w w' g u.heap.size := by
  obtain ⟨⟨n, l0, b0⟩, hn⟩ : ∃ x, x = rdNum 2 l bad := ⟨_, rfl⟩
  have hn0 := rdNum_le (n := 2) (bad := bad) hF.bytes (by decide)
  unfold rdList at h
  rw [← hn] at h hn0
  dsimp only at h hn0
  have HF := Aside0.mk hF
  have HGE := Aside0.mk hg
  have HU := Aside0.mk hu
  have HL := Aside0.mk hF.lt
  have HN := Aside0.mk hn.symm
  have HN0 := Aside0.mk (show 0 ≤ n ∧ n < 65536 from hn0)
  have HH := Aside0.mk h
  clear hF hg hu hn hn0 h
  go_enter Try.func65, Try.ntmps65
  go_wp2_with fail
  refine (rd_number u g l bad 2 n l0 b0 w HF.out HGE.out HU.out (by decide) (by decide) HN.out).mono ?_
  rintro e w1 ⟨rfl, h3, h4⟩
  have H3 := Aside0.mk h3
  have H4 := Aside0.mk h4
  clear h3 h4
  obtain ⟨m0, hm0⟩ := Int.eq_ofNat_of_zero_le HN0.out.1
  subst hm0
  rw [Int.toNat_natCast] at HH
  go_wp2_with fail
  go_loopg [4, 5] (m0 + 1) (fun kq v4 v5 w' => ∃ (m : Nat) (out : List S98) (l1 : List Int) (b1 : Bool), v5 = .int .i64 (m : Int) ∧ Aside0 (kq = m + 1 ∧ m + out.length ≤ 65535) ∧ Aside0 ((out ++ (rdAll rdRec m l1 b1).1, (rdAll rdRec m l1 b1).2) = (xs, l2, bad2)) ∧ Aside0 (Rd u w' g l1 b1) ∧ Aside0 (KeepR w w' g u.heap.size) ∧ Aside0 (Kd.R k98 98 w' w.heap.size (fun k => k ≠ g) v4 out))
  case atStart => exact ⟨m0, [], l0, b0, rfl, ⟨rfl, by have := HN0.out; simp only [List.length_nil]; omega⟩, HH, H3, H4, ⟨Kd.R_nil _ _ _ _ _⟩⟩
  case round =>
    clear HH H3 H4
    obtain ⟨m, out, l1, b1, rfl, HM, HA, HR, HK, HO⟩ := hrel
    obtain ⟨A, c, hg_, _⟩ := HR.out
    have q1 : wr.cell? ⟨g, 1, none⟩ = some (.bool b1) := (blk_cell hg_ 1).trans rfl
    clear hg_
    cases m with
    | zero =>
      have d1 : decide ((0 : Int) < ((0 : Nat) : Int)) = false := by decide
      go_wp2_with fail
      go_ret
      have h_ := HA.out
      rw [rdAll] at h_
      simp only [List.append_nil, Prod.mk.injEq] at h_
      obtain ⟨rfl, rfl, rfl⟩ := h_
      exact ⟨⟨_, rfl, HO.out⟩, HR.out, HK.out⟩
    | succ m =>
      have d1 : decide ((0 : Int) < ((m + 1 : Nat) : Int)) = true := decide_eq_true (by omega)
      have e1 : wrap64 (m : Int) = (m : Int) := by have := HM.out; unfold wrap64; omega
      cases b1 with
      | true =>
        go_wp2_with fail
        go_ret
        have h_ := HA.out
        rw [rdAll_bad] at h_
        simp only [List.append_nil, Prod.mk.injEq] at h_
        obtain ⟨rfl, rfl, rfl⟩ := h_
        exact ⟨⟨_, rfl, HO.out⟩, HR.out, HK.out⟩
      | false =>
        obtain ⟨⟨x, l3, b3⟩, hx⟩ : ∃ x, x = rdRec l1 false := ⟨_, rfl⟩
        have HX := Aside0.mk hx.symm
        have hA := HA.out
        rw [rdAll, if_neg (by simp), ← hx] at hA
        have HA2 := Aside0.mk hA
        clear hA hx HA
        go_wp2_with fail
        refine (rd_record u g l1 false x l3 b3 _ HR.out HGE.out (HU.out.trans HK.out.below) HX.out).mono ?_
        rintro e w2 ⟨rfl, h3, h4⟩
        have R2 := Aside0.mk h3
        have K2 := Aside0.mk (HK.out.trans h4)
        have O2 := Aside0.mk (KeepR.R HO.out h4)
        clear h3 h4 HR HK HO q1
        obtain ⟨Av, cv, ev⟩ := Kd.R_slice O2.out
        subst ev
        go_wp2_with ((with_reducible refine gate_builtin (b := .append) (xs := #[.tmp 19, .tmp 22]) rfl ?_); at_builtin; refine Kd.R_append k98 (w0 := w2) w.heap.size rfl (.tmp 19) (.tmp 22) 24 98 (.agg #[(.bool false), (.string ⟨#[]⟩), (.bool false), (.string ⟨#[]⟩), (.int .i64 0), (.int .i64 0)]) 64 rfl Try.underlying24 info_all_rd_allR rfl (by decide) (by decide) (.slice Av out.length cv) out x [.bool x.f0, .string x.f1, .bool x.f2, .string x.f3, .int .i64 x.f4, .int .i64 x.f5] (fun k => k ≠ g) (fun _ => False) rfl (by first | (go_simp; done) | (go_simp; rfl)) ?aP (fun _ hk => hk.elim) ?aF O2.out (Below.refl _ _) K2.out.below.size ?aL ?_; (case aP => exact k98_mkM _ _ _ x); (case aF => exact fun k hk => by have := HL.out; have := K2.out.below.size; omega); (case aL => have := HM.out; omega); intro v7 w3 ho hb hg_ hat; have O3 := Aside0.mk ho; have R3 := Aside0.mk (R2.out.grow O2.out (by decide) hg_); have K3 := Aside0.mk (K2.out.grow O2.out hg_ HU.out.size); clear ho hb hg_ hat R2 K2 O2)
        go_roundg (m + 1)
        case measure => have := HM.out; omega
        case rel => exact ⟨m, out ++ [x], l3, b3, by first | rfl | (rw [e1]), ⟨by rfl, by have := HM.out; rw [List.length_append, List.length_singleton]; omega⟩, ⟨by rw [List.append_assoc]; exact HA2.out⟩, R3, K3, O3⟩
theorem info_all_rd_allS : (Try.prog.info? 9).map (fun i => (i.zero, i.size, i.bytes)) = some (some (.string ⟨#[]⟩), 1, 16) := by kernel_rfl
set_option maxHeartbeats 4000000 in
set_option maxRecDepth 100000 in
theorem rd_allS (u : World) (g : Nat) (l : List Int) (bad : Bool) (xs : List ByteArray) (l2 : List Int) (bad2 : Bool) (w : World) (hF : Rd u w g l bad) (hg : u.heap.size ≤ g) (hu : Below u.heap.size u w) (h : rdList rdText l bad = (xs, l2, bad2)) :
    Calls Try.prog 67 #[.pointer (some ⟨g, 0, none⟩), .func (Fn.func 64) #[.pointer (some ⟨g, 0, none⟩)] #[]] w fun e w' => (∃ v, e = .returned v ∧ Kd.R Kd.string 9 w' w.heap.size (fun k => k ≠ g) v xs) ∧ Rd u w' g l2 bad2 ∧ KeepR w w' g u.heap.size := by
  obtain ⟨⟨n, l0, b0⟩, hn⟩ : ∃ x, x = rdNum 2 l bad := ⟨_, rfl⟩
  have hn0 := rdNum_le (n := 2) (bad := bad) hF.bytes (by decide)
  unfold rdList at h
  rw [← hn] at h hn0
  dsimp only at h hn0
  have HF := Aside0.mk hF
  have HGE := Aside0.mk hg
  have HU := Aside0.mk hu
  have HL := Aside0.mk hF.lt
  have HN := Aside0.mk hn.symm
  have HN0 := Aside0.mk (show 0 ≤ n ∧ n < 65536 from hn0)
  have HH := Aside0.mk h
  clear hF hg hu hn hn0 h
  go_enter Try.func67, Try.ntmps67
  go_wp2_with fail
  refine (rd_number u g l bad 2 n l0 b0 w HF.out HGE.out HU.out (by decide) (by decide) HN.out).mono ?_
  rintro e w1 ⟨rfl, h3, h4⟩
  have H3 := Aside0.mk h3
  have H4 := Aside0.mk h4
  clear h3 h4
  obtain ⟨m0, hm0⟩ := Int.eq_ofNat_of_zero_le HN0.out.1
  subst hm0
  rw [Int.toNat_natCast] at HH
  go_wp2_with fail
  go_loopg [4, 5] (m0 + 1) (fun kq v4 v5 w' => ∃ (m : Nat) (out : List ByteArray) (l1 : List Int) (b1 : Bool), v5 = .int .i64 (m : Int) ∧ Aside0 (kq = m + 1 ∧ m + out.length ≤ 65535) ∧ Aside0 ((out ++ (rdAll rdText m l1 b1).1, (rdAll rdText m l1 b1).2) = (xs, l2, bad2)) ∧ Aside0 (Rd u w' g l1 b1) ∧ Aside0 (KeepR w w' g u.heap.size) ∧ Aside0 (Kd.R Kd.string 9 w' w.heap.size (fun k => k ≠ g) v4 out))
  case atStart => exact ⟨m0, [], l0, b0, rfl, ⟨rfl, by have := HN0.out; simp only [List.length_nil]; omega⟩, HH, H3, H4, ⟨Kd.R_nil _ _ _ _ _⟩⟩
  case round =>
    clear HH H3 H4
    obtain ⟨m, out, l1, b1, rfl, HM, HA, HR, HK, HO⟩ := hrel
    obtain ⟨A, c, hg_, _⟩ := HR.out
    have q1 : wr.cell? ⟨g, 1, none⟩ = some (.bool b1) := (blk_cell hg_ 1).trans rfl
    clear hg_
    cases m with
    | zero =>
      have d1 : decide ((0 : Int) < ((0 : Nat) : Int)) = false := by decide
      go_wp2_with fail
      go_ret
      have h_ := HA.out
      rw [rdAll] at h_
      simp only [List.append_nil, Prod.mk.injEq] at h_
      obtain ⟨rfl, rfl, rfl⟩ := h_
      exact ⟨⟨_, rfl, HO.out⟩, HR.out, HK.out⟩
    | succ m =>
      have d1 : decide ((0 : Int) < ((m + 1 : Nat) : Int)) = true := decide_eq_true (by omega)
      have e1 : wrap64 (m : Int) = (m : Int) := by have := HM.out; unfold wrap64; omega
      cases b1 with
      | true =>
        go_wp2_with fail
        go_ret
        have h_ := HA.out
        rw [rdAll_bad] at h_
        simp only [List.append_nil, Prod.mk.injEq] at h_
        obtain ⟨rfl, rfl, rfl⟩ := h_
        exact ⟨⟨_, rfl, HO.out⟩, HR.out, HK.out⟩
      | false =>
        obtain ⟨⟨x, l3, b3⟩, hx⟩ : ∃ x, x = rdText l1 false := ⟨_, rfl⟩
        have HX := Aside0.mk hx.symm
        have hA := HA.out
        rw [rdAll, if_neg (by simp), ← hx] at hA
        have HA2 := Aside0.mk hA
        clear hA hx HA
        go_wp2_with fail
        refine (rd_text u g l1 false x l3 b3 _ HR.out HGE.out (HU.out.trans HK.out.below) HX.out).mono ?_
        rintro e w2 ⟨rfl, h3, h4⟩
        have R2 := Aside0.mk h3
        have K2 := Aside0.mk (HK.out.trans h4)
        have O2 := Aside0.mk (KeepR.R HO.out h4)
        clear h3 h4 HR HK HO q1
        obtain ⟨Av, cv, ev⟩ := Kd.R_slice O2.out
        subst ev
        go_wp2_with ((with_reducible refine gate_builtin (b := .append) (xs := #[.tmp 19, .tmp 22]) rfl ?_); at_builtin; refine Kd.R_append Kd.string (w0 := w2) w.heap.size rfl (.tmp 19) (.tmp 22) 42 9 (.string ⟨#[]⟩) 16 rfl Try.underlying42 info_all_rd_allS rfl (by decide) (by decide) (.slice Av out.length cv) out x [.string x] (fun k => k ≠ g) (fun _ => False) rfl (by first | (go_simp; done) | (go_simp; rfl)) ?aP (fun _ hk => hk.elim) ?aF O2.out (Below.refl _ _) K2.out.below.size ?aL ?_; (case aP => exact rfl); (case aF => exact fun k hk => by have := HL.out; have := K2.out.below.size; omega); (case aL => have := HM.out; omega); intro v7 w3 ho hb hg_ hat; have O3 := Aside0.mk ho; have R3 := Aside0.mk (R2.out.grow O2.out (by decide) hg_); have K3 := Aside0.mk (K2.out.grow O2.out hg_ HU.out.size); clear ho hb hg_ hat R2 K2 O2)
        go_roundg (m + 1)
        case measure => have := HM.out; omega
        case rel => exact ⟨m, out ++ [x], l3, b3, by first | rfl | (rw [e1]), ⟨by rfl, by have := HM.out; rw [List.length_append, List.length_singleton]; omega⟩, ⟨by rw [List.append_assoc]; exact HA2.out⟩, R3, K3, O3⟩
theorem info_all_rd_allI : (Try.prog.info? 3).map (fun i => (i.zero, i.size, i.bytes)) = some (some (.int .i64 0), 1, 8) := by kernel_rfl
set_option maxHeartbeats 4000000 in
set_option maxRecDepth 100000 in
theorem rd_allI (u : World) (g : Nat) (l : List Int) (bad : Bool) (xs : List Int) (l2 : List Int) (bad2 : Bool) (w : World) (hF : Rd u w g l bad) (hg : u.heap.size ≤ g) (hu : Below u.heap.size u w) (q : Nat) (hq : ∀ W, KeepR w W g u.heap.size → W.cell? ⟨q, 0, none⟩ = some (.pointer (some ⟨g, 0, none⟩))) (h : rdList rdInt l bad = (xs, l2, bad2)) :
    Calls Try.prog 68 #[.pointer (some ⟨g, 0, none⟩), .func (Fn.func 69) #[] #[.pointer (some ⟨q, 0, none⟩)]] w fun e w' => (∃ v, e = .returned v ∧ Kd.R (Kd.int .i64) 3 w' w.heap.size (fun k => k ≠ g) v xs) ∧ Rd u w' g l2 bad2 ∧ KeepR w w' g u.heap.size := by
  obtain ⟨⟨n, l0, b0⟩, hn⟩ : ∃ x, x = rdNum 2 l bad := ⟨_, rfl⟩
  have hn0 := rdNum_le (n := 2) (bad := bad) hF.bytes (by decide)
  unfold rdList at h
  rw [← hn] at h hn0
  dsimp only at h hn0
  have HF := Aside0.mk hF
  have HGE := Aside0.mk hg
  have HU := Aside0.mk hu
  have HL := Aside0.mk hF.lt
  have HN := Aside0.mk hn.symm
  have HN0 := Aside0.mk (show 0 ≤ n ∧ n < 65536 from hn0)
  have HH := Aside0.mk h
  have HQ := Aside0.mk hq
  clear hq
  clear hF hg hu hn hn0 h
  go_enter Try.func68, Try.ntmps68
  go_wp2_with fail
  refine (rd_number u g l bad 2 n l0 b0 w HF.out HGE.out HU.out (by decide) (by decide) HN.out).mono ?_
  rintro e w1 ⟨rfl, h3, h4⟩
  have H3 := Aside0.mk h3
  have H4 := Aside0.mk h4
  clear h3 h4
  obtain ⟨m0, hm0⟩ := Int.eq_ofNat_of_zero_le HN0.out.1
  subst hm0
  rw [Int.toNat_natCast] at HH
  go_wp2_with fail
  go_loopg [4, 5] (m0 + 1) (fun kq v4 v5 w' => ∃ (m : Nat) (out : List Int) (l1 : List Int) (b1 : Bool), v5 = .int .i64 (m : Int) ∧ Aside0 (kq = m + 1 ∧ m + out.length ≤ 65535) ∧ Aside0 ((out ++ (rdAll rdInt m l1 b1).1, (rdAll rdInt m l1 b1).2) = (xs, l2, bad2)) ∧ Aside0 (Rd u w' g l1 b1) ∧ Aside0 (KeepR w w' g u.heap.size) ∧ Aside0 (Kd.R (Kd.int .i64) 3 w' w.heap.size (fun k => k ≠ g) v4 out))
  case atStart => exact ⟨m0, [], l0, b0, rfl, ⟨rfl, by have := HN0.out; simp only [List.length_nil]; omega⟩, HH, H3, H4, ⟨Kd.R_nil _ _ _ _ _⟩⟩
  case round =>
    clear HH H3 H4
    obtain ⟨m, out, l1, b1, rfl, HM, HA, HR, HK, HO⟩ := hrel
    obtain ⟨A, c, hg_, _⟩ := HR.out
    have q1 : wr.cell? ⟨g, 1, none⟩ = some (.bool b1) := (blk_cell hg_ 1).trans rfl
    clear hg_
    cases m with
    | zero =>
      have d1 : decide ((0 : Int) < ((0 : Nat) : Int)) = false := by decide
      go_wp2_with fail
      go_ret
      have h_ := HA.out
      rw [rdAll] at h_
      simp only [List.append_nil, Prod.mk.injEq] at h_
      obtain ⟨rfl, rfl, rfl⟩ := h_
      exact ⟨⟨_, rfl, HO.out⟩, HR.out, HK.out⟩
    | succ m =>
      have d1 : decide ((0 : Int) < ((m + 1 : Nat) : Int)) = true := decide_eq_true (by omega)
      have e1 : wrap64 (m : Int) = (m : Int) := by have := HM.out; unfold wrap64; omega
      cases b1 with
      | true =>
        go_wp2_with fail
        go_ret
        have h_ := HA.out
        rw [rdAll_bad] at h_
        simp only [List.append_nil, Prod.mk.injEq] at h_
        obtain ⟨rfl, rfl, rfl⟩ := h_
        exact ⟨⟨_, rfl, HO.out⟩, HR.out, HK.out⟩
      | false =>
        obtain ⟨⟨x, l3, b3⟩, hx⟩ : ∃ x, x = rdInt l1 false := ⟨_, rfl⟩
        have HX := Aside0.mk hx.symm
        have hA := HA.out
        rw [rdAll, if_neg (by simp), ← hx] at hA
        have HA2 := Aside0.mk hA
        clear hA hx HA
        have hq := HQ.out wr HK.out
        go_wp2_with fail
        refine (rd_count q 0 u g l1 false x l3 b3 _ HR.out HGE.out (HU.out.trans HK.out.below) hq HX.out).mono ?_
        rintro e w2 ⟨rfl, h3, h4⟩
        clear hq
        have R2 := Aside0.mk h3
        have K2 := Aside0.mk (HK.out.trans h4)
        have O2 := Aside0.mk (KeepR.R HO.out h4)
        clear h3 h4 HR HK HO q1
        obtain ⟨Av, cv, ev⟩ := Kd.R_slice O2.out
        subst ev
        go_wp2_with ((with_reducible refine gate_builtin (b := .append) (xs := #[.tmp 19, .tmp 22]) rfl ?_); at_builtin; refine Kd.R_append (Kd.int .i64) (w0 := w2) w.heap.size rfl (.tmp 19) (.tmp 22) 43 3 (.int .i64 0) 8 rfl Try.underlying43 info_all_rd_allI rfl (by decide) (by decide) (.slice Av out.length cv) out x [.int .i64 x] (fun k => k ≠ g) (fun _ => False) rfl (by first | (go_simp; done) | (go_simp; rfl)) ?aP (fun _ hk => hk.elim) ?aF O2.out (Below.refl _ _) K2.out.below.size ?aL ?_; (case aP => exact rfl); (case aF => exact fun k hk => by have := HL.out; have := K2.out.below.size; omega); (case aL => have := HM.out; omega); intro v7 w3 ho hb hg_ hat; have O3 := Aside0.mk ho; have R3 := Aside0.mk (R2.out.grow O2.out (by decide) hg_); have K3 := Aside0.mk (K2.out.grow O2.out hg_ HU.out.size); clear ho hb hg_ hat R2 K2 O2)
        go_roundg (m + 1)
        case measure => have := HM.out; omega
        case rel => exact ⟨m, out ++ [x], l3, b3, by first | rfl | (rw [e1]), ⟨by rfl, by have := HM.out; rw [List.length_append, List.length_singleton]; omega⟩, ⟨by rw [List.append_assoc]; exact HA2.out⟩, R3, K3, O3⟩

end Go.Proofs.Ytncfofnikmfjbaa.PCi
