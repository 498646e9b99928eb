import Derived.Test.YtncfofnikmfjbaaQCfRqW
import Derived.Test.YtncfofnikmfjbaaQPCix2
import Derived.Outline
import Derived.StillTailTactics
import Derived.RegionTactic
import Derived.BigRegion
import Derived.Lib.BufferWrite
import Derived.Test.YtncfofnikmfjbaaQCf5
namespace Go.Proofs.Ytncfofnikmfjbaa.PCi
open Go.RowKit Go.Proofs.YtncfofnikmfjbaaW.PrintWords Go.Proofs.YtncfofnikmfjbaaW.PrintLast Go.Proofs.YtncfofnikmfjbaaW.PrintMore
attribute [local go_sem] max2_int min2_int max_two min_two max_three min_three max_four min_four
set_option linter.unusedVariables false
set_option linter.unusedSimpArgs false

set_option maxHeartbeats 4000000 in
set_option maxRecDepth 100000 in
theorem wr_listB0 (g base : Nat) (xs : List Int) (bad : Bool) (w : World) (hF : Wr w g base xs bad) (hg : base ≤ g) (hb : base ≤ w.heap.size) (hx : xs.length ≤ 900000000) :
    Calls Try.prog 51 #[.pointer (some ⟨g, 0, none⟩), .slice none 0 0, .func (Fn.func 52) #[.pointer (some ⟨g, 0, none⟩)] #[]] w fun e w' => e = .returned (.tuple #[]) ∧ Wr w' g base (xs ++ nb 0 2) bad ∧ KeepW w w' g base := by
  have HF := Aside0.mk hF
  have HGE := Aside0.mk hg
  have HB := Aside0.mk hb
  have HX := Aside0.mk hx
  clear hF hg hb hx
  go_enter Try.func51, Try.ntmps51
  go_wp2_with fail
  refine (wr_many g base xs bad 0 w HF.out HGE.out HB.out (by have := HX.out; omega)).mono ?_
  rintro e y ⟨rfl, h1, h2⟩
  rw [show (bad || decide (65535 < 0)) = bad from by simp] at h1
  have H1 := Aside0.mk h1
  have H2 := Aside0.mk h2
  clear h1 h2 HF
  go_wp2_with fail
  go_loopg [14] 1 (fun kq v14 w' => v14 = .int .i64 0 ∧ Aside0 (Wr w' g base (xs ++ nb 0 2) bad) ∧ Aside0 (KeepW w w' g base))
  case atStart => exact ⟨rfl, H1, H2⟩
  case round =>
    obtain ⟨rfl, H3, H4⟩ := hrel
    clear H1 H2
    go_wp2_with fail
    refine bodyPost_end (v := .tuple #[]) (by simp [results, Try.results51, go_sem]) rfl ?_
    exact ⟨rfl, H3.out, H4.out⟩
set_option maxHeartbeats 4000000 in
set_option maxRecDepth 100000 in
theorem wf_bats0 (g base h : Nat) (which : Int) (xs : List Int) (bad : Bool) (m : Msg) (w : World) (hF : Wr w g base xs bad) (hg : base ≤ g) (hb : base ≤ w.heap.size) (hm : MsAt w h m) (hx : xs.length ≤ 900000000) (hu : m.u4 = .slice none 0 0) :
    Calls Try.prog 29 #[.pointer (some ⟨g, 0, none⟩), .pointer (some ⟨h, 0, none⟩), .int .i64 which, .int .i64 19] w fun e w' => e = .returned (.tuple #[]) ∧ Wr w' g base (xs ++ nb 0 2) bad ∧ KeepW w w' g base := by
  have HGE := Aside0.mk hg
  have HB := Aside0.mk hb
  have S0 := Aside0.mk (FwS.new hF hm hb)
  have HLT := Aside0.mk hF.lt
  have HX := Aside0.mk hx
  have HU := Aside0.mk hu
  clear hx hu
  clear hF hg hb hm
  go_enter Try.func29, Try.ntmps29
  go_upto_region 18 with (fail)
  (try simp only [Act.put, List.setIfInBounds_toArray, List.set_cons_zero, List.set_cons_succ])
  generalize w.alloc (.cells #[.pointer (some ⟨g, 0, none⟩)] 62) = y0 at S0 ⊢
  refine start_ (n := 9) (S := fun w' => FwS w w' g base h xs bad m) (ds := [8]) #[false, false, false, false, false, false, false, false, false] (by kernel_rfl) rfl rfl (S0.out.drewN 1) (fun hHeld => ?_)
  refine take_ (i := 0) (N := (some 73)) (v := ?_) (a' := ?_) #[true, false, false, false, false, false, false, false, false] rfl rfl (by kernel_rfl) (fun _ _ _ h => h) (Or.inl ⟨by rfl, ?_⟩) hHeld ?_ ?_
  rotate_left
  · rintro w' s
    have q0 := s.q0
    go_simp
    with_reducible rfl
  rotate_left
  · simp only [Act.put, List.setIfInBounds_toArray, List.set_cons_zero, List.set_cons_succ, i64_w, i32_w]
    rfl
  refine pure_ (i := 1) (N := (some 74)) (v := ?_) (a' := ?_) #[true, true, false, false, false, false, false, false, false] rfl rfl (by kernel_rfl) (fun _ _ _ h => h) (Or.inl ⟨by rfl, ?_⟩) ?_ ?_
  rotate_left
  · intro w'
    go_simp
    with_reducible rfl
  rotate_left
  · simp only [Act.put, List.setIfInBounds_toArray, List.set_cons_zero, List.set_cons_succ, i64_w, i32_w]
    rfl
  refine pure_ (i := 2) (N := (some 75)) (v := ?_) (a' := ?_) #[true, true, true, false, false, false, false, false, false] rfl rfl (by kernel_rfl) (fun _ _ _ h => h) (Or.inl ⟨by rfl, ?_⟩) ?_ ?_
  rotate_left
  · intro w'
    go_simp
    with_reducible rfl
  rotate_left
  · simp only [Act.put, List.setIfInBounds_toArray, List.set_cons_zero, List.set_cons_succ, i64_w, i32_w]
    rfl
  refine pure_ (i := 3) (N := (some 76)) (v := ?_) (a' := ?_) #[true, true, true, true, false, false, false, false, false] rfl rfl (by kernel_rfl) (fun _ _ _ h => h) (Or.inl ⟨by rfl, ?_⟩) ?_ ?_
  rotate_left
  · intro w'
    go_simp
    with_reducible rfl
  rotate_left
  · simp only [Act.put, List.setIfInBounds_toArray, List.set_cons_zero, List.set_cons_succ, i64_w, i32_w]
    rfl
  refine pure_ (i := 4) (N := (some 77)) (v := ?_) (a' := ?_) #[true, true, true, true, true, false, false, false, false] rfl rfl (by kernel_rfl) (fun _ _ _ h => h) (Or.inl ⟨by rfl, ?_⟩) ?_ ?_
  rotate_left
  · intro w'
    go_simp
    with_reducible rfl
  rotate_left
  · simp only [Act.put, List.setIfInBounds_toArray, List.set_cons_zero, List.set_cons_succ, i64_w, i32_w]
    rfl
  refine take_ (i := 5) (N := (some 78)) (v := ?_) (a' := ?_) #[true, true, true, true, true, true, false, false, false] rfl rfl (by kernel_rfl) (fun _ _ _ h => h) (Or.inl ⟨by rfl, ?_⟩) hHeld ?_ ?_
  rotate_left
  · rintro w' s
    have q0 : w'.cell? ⟨h, 25, none⟩ = some (.slice none 0 0) := (s.ms.cell 25).trans (congrArg some HU.out)
    go_simp
    with_reducible rfl
  rotate_left
  · simp only [Act.put, List.setIfInBounds_toArray, List.set_cons_zero, List.set_cons_succ, i64_w, i32_w]
    rfl
  refine take_ (i := 6) (N := (some 79)) (v := ?_) (a' := ?_) #[true, true, true, true, true, true, true, false, false] rfl rfl (by kernel_rfl) (fun _ _ _ h => h) (Or.inl ⟨by rfl, ?_⟩) hHeld ?_ ?_
  rotate_left
  · rintro w' s
    have q0 := s.q0
    go_simp
    with_reducible rfl
  rotate_left
  · simp only [Act.put, List.setIfInBounds_toArray, List.set_cons_zero, List.set_cons_succ, i64_w, i32_w]
    rfl
  refine pure_ (i := 7) (N := (some 80)) (v := ?_) (a' := ?_) #[true, true, true, true, true, true, true, true, false] rfl rfl (by kernel_rfl) (fun _ _ _ h => h) (Or.inl ⟨by rfl, ?_⟩) ?_ ?_
  rotate_left
  · intro w'
    go_simp
    with_reducible rfl
  rotate_left
  · simp only [Act.put, List.setIfInBounds_toArray, List.set_cons_zero, List.set_cons_succ, i64_w, i32_w]
    rfl
  refine last_ (i := 8) (N := (some 81)) #[true, true, true, true, true, true, true, true, true] rfl rfl (by kernel_rfl) (by decide) (fun K hK => ?_)
  refine goes_ Try.func51 (by kernel_rfl) rfl #[.pointer (some ⟨g, 0, none⟩), .slice none 0 0, .func (Fn.func 52) #[.pointer (some ⟨g, 0, none⟩)] #[]] (by rfl) rfl rfl (by (try simp only [List.map_toArray, List.map_cons, List.map_nil]); first | done | rfl) ?_
  refine (wr_listB0 g base xs bad _ hHeld.wr HGE.out (Nat.le_trans HB.out hHeld.keep.below.size) HX.out).mono ?_
  rintro e w2 ⟨rfl, h1, h2⟩
  refine ⟨_, rfl, ?_⟩
  have R1 := Aside0.mk h1
  have R2 := Aside0.mk (hHeld.keep.trans h2)
  refine hK.out _ _ ?_
  clear hK K
  refine norm_ (a' := ?_) ?_ ?_
  rotate_left
  · show Act.put _ (some 81) _ = _
    simp only [Act.put, List.setIfInBounds_toArray, List.set_cons_zero, List.set_cons_succ, i64_w, i32_w]
    rfl
  refine done_ (by kernel_rfl) ?_
  clear hHeld
  simp only [Exit.inBlock]
  refine bodyPost_end (v := .tuple #[]) (by simp [results, Try.results29, go_sem]) rfl ?_
  exact ⟨rfl, R1.out, R2.out⟩
set_option maxHeartbeats 4000000 in
set_option maxRecDepth 100000 in
theorem rd_allB0 (u : World) (g : Nat) (l : List Int) (bad : Bool) (l2 : List Int) (bad2 : Bool) (w : World) (hF : Rd u w g l bad) (hg : u.heap.size ≤ g) (hu : Below u.heap.size u w) (h : rdNum 2 l bad = (0, l2, bad2)) :
    Calls Try.prog 70 #[.pointer (some ⟨g, 0, none⟩), .func (Fn.func 71) #[.pointer (some ⟨g, 0, none⟩)] #[]] w fun e w' => e = .returned (.slice none 0 0) ∧ Rd u w' g l2 bad2 ∧ KeepR w w' g u.heap.size := by
  have HF := Aside0.mk hF
  have HGE := Aside0.mk hg
  have HU := Aside0.mk hu
  have HN := Aside0.mk h
  clear hF hg hu h
  go_enter Try.func70, Try.ntmps70
  go_wp2_with fail
  refine (rd_number u g l bad 2 0 l2 bad2 w HF.out HGE.out HU.out (by decide) (by decide) HN.out).mono ?_
  rintro e w1 ⟨rfl, h3, h4⟩
  have H3 := Aside0.mk h3
  have H4 := Aside0.mk h4
  clear h3 h4
  go_wp2_with fail
  go_loopg [4, 5] 1 (fun kq v4 v5 w' => v4 = .slice none 0 0 ∧ v5 = .int .i64 0 ∧ Aside0 (Rd u w' g l2 bad2) ∧ Aside0 (KeepR w w' g u.heap.size))
  case atStart => exact ⟨rfl, rfl, H3, H4⟩
  case round =>
    obtain ⟨rfl, rfl, H5, H6⟩ := hrel
    clear H3 H4
    go_wp2_with fail
    go_ret
    exact ⟨rfl, H5.out, H6.out⟩
set_option maxHeartbeats 4000000 in
set_option maxRecDepth 100000 in
theorem rf_bats0 (u : World) (g h : Nat) (which : Int) (l : List Int) (bad : Bool) (l2 : List Int) (bad2 : Bool) (m : Msg) (w : World) (hF : Rd u w g l bad) (hg : u.heap.size ≤ g) (hh : u.heap.size ≤ h) (hgh : g ≠ h) (hu : Below u.heap.size u w) (hm : MsAt w h m) (hx : rdNum 2 l bad = (0, l2, bad2)) :
    Calls Try.prog 37 #[.pointer (some ⟨g, 0, none⟩), .pointer (some ⟨h, 0, none⟩), .int .i64 which, .int .i64 19] w fun e w' => e = .returned (.tuple #[]) ∧ Rd u w' g l2 bad2 ∧ MsAt w' h { m with u4 := .slice none 0 0 } ∧ KeepM w w' g h u.heap.size := by
  have HF := Aside0.mk hF
  have HGE := Aside0.mk hg
  have HU := Aside0.mk hu
  have HH := Aside0.mk hh
  have HGH := Aside0.mk hgh
  have HLT := Aside0.mk hF.lt
  have HMT := Aside0.mk (blk_lt hm)
  have R0 := Aside0.mk (hF.below (below_alloc (Below.refl _ _) (.cells #[.pointer (some ⟨g, 0, none⟩)] 87)))
  have S0 := Aside0.mk (FrT.new (g := g) hm hu)
  have HX := Aside0.mk hx
  clear hx
  clear hF hg hh hgh hu hm
  go_enter Try.func37, Try.ntmps37
  go_upto_region 17 with (fail)
  (try simp only [Act.put, List.setIfInBounds_toArray, List.set_cons_zero, List.set_cons_succ])
  generalize w.alloc (.cells #[.pointer (some ⟨g, 0, none⟩)] 87) = y0 at R0 S0 ⊢
  have q0 := S0.out.q0
  go_wp2_with fail
  refine (rd_allB0 u g l bad l2 bad2 y0 R0.out HGE.out (HU.out.trans S0.out.keep.below) HX.out).mono ?_
  rintro e w1 ⟨rfl, h3, h4⟩
  have R1 := Aside0.mk h3
  have S1 := Aside0.mk (S0.out.step HLT.out HGH.out h4)
  clear h3 h4 q0
  have z0 : w1.frozen? ⟨h, 25, none⟩ = false := S1.out.ms.free 25
  have q0 : w1.cell? ⟨h, 25, none⟩ = some m.u4 := (S1.out.ms.cell 25).trans rfl
  go_wp2_with fail
  refine bodyPost_end (v := .tuple #[]) (by simp [results, Try.results37, go_sem]) rfl ?_
  exact ⟨rfl, R1.out.far HGH.out _ _, S1.out.ms.set rfl, S1.out.keep.setH HH.out _ _⟩
/-! ### told -/
def told.f (k c : Int) : Option (List Int) := if k < 0 ∨ 8 < k ∨ c < 0 ∨ 255 < c ∨ (k = 0 ∧ c = 0) then none else if c ≠ 0 then some [] else codec_fields.f 1 k
def TdPost (f : Option (List Int)) (w : World) (e : Ending) (w' : World) : Prop := ∃ (ok : Bool) (A : Option Addr) (L : List Int), e = .returned (.tuple #[.slice A L.length L.length, .bool ok]) ∧ f.isSome = ok ∧ f.getD [] = L ∧ L.length ≤ 7 ∧ (∀ W', (∀ i o, w.heap.size ≤ i → w'.heap[i]? = some o → W'.heap[i]? = some o) → Kd.C (Kd.int .i64) W' A L.length L) ∧ (∀ g base W', w'.heap.size ≤ g → KeepW w' W' g base → Kd.C (Kd.int .i64) W' A L.length L)
theorem td_none {w w' : World} : TdPost none w (.returned (.tuple #[.slice none 0 0, .bool false])) w' := ⟨false, none, [], rfl, rfl, rfl, by simp, fun _ _ => Kd.C_nil _ _, fun _ _ _ _ _ => Kd.C_nil _ _⟩
theorem td_nil {w w' : World} : TdPost (some []) w (.returned (.tuple #[.slice none 0 0, .bool true])) w' := ⟨true, none, [], rfl, rfl, rfl, by simp, fun _ _ => Kd.C_nil _ _, fun _ _ _ _ _ => Kd.C_nil _ _⟩
theorem td_row {w w1 w' : World} {a f : Int} {e : Ending} (hb : w.heap.size ≤ w1.heap.size) (hp : FdsPost w1.heap.size (codec_fields.f a f) e w') : TdPost (codec_fields.f a f) w e w' := by
  rcases hp with ⟨h1, rfl⟩ | ⟨L, v, h1, rfl, g, rfl, h2, h3⟩
  · rw [h1]; exact td_none
  · rw [h1]
    exact ⟨true, _, L, rfl, rfl, rfl, fields_len h1, fun W' hW => row_C (hW g _ (by omega) h3) (by have := fields_len h1; omega), fun g2 base W' hg hW => row_C (hW.blk h3 (by have := blk_lt h3; omega) (by decide)) (by have := fields_len h1; omega)⟩
set_option maxHeartbeats 4000000 in
set_option maxRecDepth 100000 in
theorem codec_told.calls (k i c x3 x4 x5 : Int) (A6 A7 A8 : Option Addr) (n6 c6 n7 c7 n8 c8 : Nat) (w : World) :
    Calls Try.prog 40 #[.agg #[.int .i64 k, .int .i64 i, .int .i64 c, .int .i64 x3, .int .i64 x4, .int .i64 x5, .slice A6 n6 c6, .slice A7 n7 c7, .slice A8 n8 c8]] w fun e w' => TdPost (told.f k c) w e w' ∧ Below w.heap.size w w' := by
  obtain ⟨T_, hT_⟩ : ∃ T, T = told.f k c := ⟨_, rfl⟩
  rw [← hT_]
  have HT := Aside0.mk hT_
  clear hT_
  go_enter Try.func40, Try.ntmps40
  go_upto_region 1 with (fail)
  (try simp only [Act.put, List.setIfInBounds_toArray, List.set_cons_zero, List.set_cons_succ])
  have P0 := Aside0.mk (And.intro (heap_alloc_new w (.cells #[.int .i64 k, .int .i64 i, .int .i64 c, .int .i64 x3, .int .i64 x4, .int .i64 x5, .slice A6 n6 c6, .slice A7 n7 c7, .slice A8 n8 c8] 46)) (below_alloc (Below.refl w.heap.size w) (.cells #[.int .i64 k, .int .i64 i, .int .i64 c, .int .i64 x3, .int .i64 x4, .int .i64 x5, .slice A6 n6 c6, .slice A7 n7 c7, .slice A8 n8 c8] 46)))
  generalize w.alloc (.cells #[.int .i64 k, .int .i64 i, .int .i64 c, .int .i64 x3, .int .i64 x4, .int .i64 x5, .slice A6 n6 c6, .slice A7 n7 c7, .slice A8 n8 c8] 46) = w0 at P0 ⊢
  have q0 : w0.cell? ⟨w.heap.size, 0, none⟩ = some (.int .i64 k) := (blk_cell P0.out.1 0).trans rfl
  have q2 : w0.cell? ⟨w.heap.size, 2, none⟩ = some (.int .i64 c) := (blk_cell P0.out.1 2).trans rfl
  by_cases c1 : k < 0
  case pos =>
    have d1 : decide (k < 0) = true := decide_eq_true c1
    have HN := Aside0.mk (show T_ = none from by rw [HT.out]; unfold told.f; rw [if_pos (.inl c1)])
    go_wp2_with fail
    refine bodyPost_ret (v := .tuple #[.slice none 0 0, .bool false]) (by simp [results, Try.results40, go_sem]) rfl ?_
    rw [HN.out]
    exact ⟨td_none, P0.out.2⟩
  case neg =>
    have d1 : decide (k < 0) = false := decide_eq_false c1
    by_cases c2 : 8 < k
    case pos =>
      have d2 : decide (8 < k) = true := decide_eq_true c2
      have HN := Aside0.mk (show T_ = none from by rw [HT.out]; unfold told.f; rw [if_pos (.inr (.inl c2))])
      go_wp2_with fail
      refine bodyPost_ret (v := .tuple #[.slice none 0 0, .bool false]) (by simp [results, Try.results40, go_sem]) rfl ?_
      rw [HN.out]
      exact ⟨td_none, P0.out.2⟩
    case neg =>
      have d2 : decide (8 < k) = false := decide_eq_false c2
      by_cases c3 : c < 0
      case pos =>
        have d3 : decide (c < 0) = true := decide_eq_true c3
        have HN := Aside0.mk (show T_ = none from by rw [HT.out]; unfold told.f; rw [if_pos (.inr (.inr (.inl c3)))])
        go_wp2_with fail
        refine bodyPost_ret (v := .tuple #[.slice none 0 0, .bool false]) (by simp [results, Try.results40, go_sem]) rfl ?_
        rw [HN.out]
        exact ⟨td_none, P0.out.2⟩
      case neg =>
        have d3 : decide (c < 0) = false := decide_eq_false c3
        by_cases c4 : 255 < c
        case pos =>
          have d4 : decide (255 < c) = true := decide_eq_true c4
          have HN := Aside0.mk (show T_ = none from by rw [HT.out]; unfold told.f; rw [if_pos (.inr (.inr (.inr (.inl c4))))])
          go_wp2_with fail
          refine bodyPost_ret (v := .tuple #[.slice none 0 0, .bool false]) (by simp [results, Try.results40, go_sem]) rfl ?_
          rw [HN.out]
          exact ⟨td_none, P0.out.2⟩
        case neg =>
          have d4 : decide (255 < c) = false := decide_eq_false c4
          by_cases c5 : k = 0
          case pos =>
            have d5 : (k == 0) = true := beq_iff_eq.mpr c5
            by_cases c6_ : c = 0
            case pos =>
              have d6 : (c == 0) = true := beq_iff_eq.mpr c6_
              have HN := Aside0.mk (show T_ = none from by rw [HT.out]; unfold told.f; rw [if_pos (.inr (.inr (.inr (.inr ⟨c5, c6_⟩))))])
              go_wp2_with fail
              refine bodyPost_ret (v := .tuple #[.slice none 0 0, .bool false]) (by simp [results, Try.results40, go_sem]) rfl ?_
              rw [HN.out]
              exact ⟨td_none, P0.out.2⟩
            case neg =>
              have d6 : (c == 0) = false := beq_eq_false_iff_ne.mpr c6_
              have d7 : (c != 0) = true := by simpa using c6_
              have HN := Aside0.mk (show T_ = some [] from by rw [HT.out]; unfold told.f; rw [if_neg (by omega), if_pos c6_])
              go_wp2_with fail
              refine bodyPost_ret (v := .tuple #[.slice none 0 0, .bool true]) (by simp [results, Try.results40, go_sem]) rfl ?_
              rw [HN.out]
              exact ⟨td_nil, P0.out.2⟩
          case neg =>
            have d5 : (k == 0) = false := beq_eq_false_iff_ne.mpr c5
            by_cases c6_ : c = 0
            case pos =>
              have d7 : (c != 0) = false := by simpa using c6_
              have HN := Aside0.mk (show T_ = codec_fields.f 1 k from by rw [HT.out]; unfold told.f; rw [if_neg (by omega), if_neg (fun h => h c6_)])
              go_wp2_with fail
              refine (codec_fields.calls 1 k w0 (by decide) (wf64 (by omega))).mono ?_
              rintro e w1 ⟨hp, hb⟩
              have HR := Aside0.mk (td_row (w := w) P0.out.2.size hp)
              have HB := Aside0.mk (below_step P0.out.2 hb)
              clear hp hb
              obtain ⟨ok, A_, L_, rfl, h5⟩ := HR.out
              go_wp2_with fail
              refine bodyPost_ret (v := .tuple #[.slice A_ L_.length L_.length, .bool ok]) (by simp [results, Try.results40, go_sem]) rfl ?_
              rw [HN.out]
              exact ⟨⟨ok, A_, L_, rfl, h5⟩, HB.out⟩
            case neg =>
              have d7 : (c != 0) = true := by simpa using c6_
              have HN := Aside0.mk (show T_ = some [] from by rw [HT.out]; unfold told.f; rw [if_neg (by omega), if_pos c6_])
              go_wp2_with fail
              refine bodyPost_ret (v := .tuple #[.slice none 0 0, .bool true]) (by simp [results, Try.results40, go_sem]) rfl ?_
              rw [HN.out]
              exact ⟨td_nil, P0.out.2⟩

end Go.Proofs.Ytncfofnikmfjbaa.PCi

/- Strings of bytes: two rows of bytes are the same where their strings are. -/
namespace Go.Proofs.Ytncfofnikmfjbaa.Bp
open Go Go.RowKit Go.Proofs.YtncfofnikmfjbaaW.PrintWords Go.Proofs.YtncfofnikmfjbaaW.PrintLast Go.Proofs.YtncfofnikmfjbaaW.PrintMore
set_option linter.unusedVariables false
set_option linter.unusedSimpArgs false

theorem toList_loop_ (bs : ByteArray) : ∀ (n i : Nat) (r : List UInt8), bs.size - i = n → ByteArray.toList.loop bs i r = r.reverse ++ bs.data.toList.drop i
  | 0, i, r, h => by
    rw [ByteArray.toList.loop, if_neg (by omega)]
    have : bs.data.toList.drop i = [] := List.drop_eq_nil_of_le (by rw [Array.length_toList]; show bs.size ≤ i; omega)
    rw [this, List.append_nil]
  | n + 1, i, r, h => by
    have hi : i < bs.data.size := by show i < bs.size; omega
    have e : bs.data.toList.drop i = bs.data[i] :: bs.data.toList.drop (i + 1) := List.drop_eq_getElem_cons (by rw [Array.length_toList]; exact hi)
    rw [ByteArray.toList.loop, if_pos (by omega), toList_loop_ bs n (i + 1) _ (by omega), List.reverse_cons, List.append_assoc, e]
    have e2 : bs.get! i = bs.data[i] := by unfold ByteArray.get!; exact getElem!_pos bs.data i hi
    rw [e2]
    rfl
theorem toList_data_ (bs : ByteArray) : bs.toList = bs.data.toList := by
  have := toList_loop_ bs _ 0 [] rfl
  simpa [ByteArray.toList] using this
end Go.Proofs.Ytncfofnikmfjbaa.Bp

namespace Go.Proofs.Ytncfofnikmfjbaa.PCi
open Go.RowKit Go.Proofs.YtncfofnikmfjbaaW.PrintWords Go.Proofs.YtncfofnikmfjbaaW.PrintLast Go.Proofs.YtncfofnikmfjbaaW.PrintMore
attribute [local go_sem] max2_int min2_int max_two min_two max_three min_three max_four min_four
set_option linter.unusedVariables false
set_option linter.unusedSimpArgs false

/-! ### codec: plain laws -/
theorem bl_inj {a b : ByteArray} : a.toList = b.toList ↔ a = b := by
  rw [Bp.toList_data_, Bp.toList_data_]
  refine ⟨fun h => ?_, fun h => by rw [h]⟩
  cases a with | mk x => cases b with | mk y => exact congrArg ByteArray.mk (Array.toList_inj.1 h)
theorem eqR_one (x y : S98) : ((!(x.f0 == y.f0) || (!((x.f1).toList == (y.f1).toList) || (!(x.f2 == y.f2) || (!((x.f3).toList == (y.f3).toList) || (!(x.f4 == y.f4) || (!(x.f5 == y.f5))))))) = true) ↔ x ≠ y := by
  have h1 : ((x.f1).toList == (y.f1).toList) = true ↔ x.f1 = y.f1 := by rw [beq_iff_eq]; exact bl_inj
  have h3 : ((x.f3).toList == (y.f3).toList) = true ↔ x.f3 = y.f3 := by rw [beq_iff_eq]; exact bl_inj
  have e1 : ((x.f1).toList == (y.f1).toList) = decide (x.f1 = y.f1) := by
    cases h : ((x.f1).toList == (y.f1).toList)
    · exact (decide_eq_false (fun e => by rw [h1.2 e] at h; cases h)).symm
    · exact (decide_eq_true (h1.1 h)).symm
  have e3 : ((x.f3).toList == (y.f3).toList) = decide (x.f3 = y.f3) := by
    cases h : ((x.f3).toList == (y.f3).toList)
    · exact (decide_eq_false (fun e => by rw [h3.2 e] at h; cases h)).symm
    · exact (decide_eq_true (h3.1 h)).symm
  rw [e1, e3]
  cases x with | mk a b c d e f => cases y with | mk a' b' c' d' e' f' =>
  simp only [S98.mk.injEq, ne_eq, Bool.or_eq_true, Bool.not_eq_true', beq_eq_false_iff_ne, decide_eq_false_iff_not, not_and]
  constructor
  · rintro (h | h | h | h | h | h) h0 h1 h2 h3 h4 <;> simp_all
  · intro h
    by_cases c0 : a = a' <;> by_cases c1 : b = b' <;> by_cases c2 : c = c' <;> by_cases c3 : d = d' <;> by_cases c4 : e = e' <;> simp_all
theorem eqR_l0 (l m : List S98) (hl : l.length ≤ 9223372036854775807) (h : l.length = m.length) (n : Nat) : ∀ (k i : Nat), i + n = l.length → n + 1 ≤ k → ∃ r, api_Record_55.l0 k l m (l.length : Int) (i : Int) = some r ∧ (r = true ↔ l.drop i = m.drop i) := by
  induction n with
  | zero =>
    intro k i hi hk
    obtain ⟨K, rfl⟩ : ∃ K, k = K + 1 := ⟨k - 1, by omega⟩
    simp only [api_Record_55.l0]
    rw [if_neg (by omega), List.drop_eq_nil_of_le (by omega), List.drop_eq_nil_of_le (by omega)]
    exact ⟨_, rfl, by simp⟩
  | succ n ih =>
    intro k i hi hk
    obtain ⟨K, rfl⟩ : ∃ K, k = K + 1 := ⟨k - 1, by omega⟩
    have d1 := drop_rd z98 (l := l) (i := (i : Int)) (by omega) (by omega)
    have d2 := drop_rd z98 (l := m) (i := (i : Int)) (by omega) (by omega)
    rw [Int.toNat_natCast] at d1 d2
    rw [show ((i : Int) + 1).toNat = i + 1 from by omega] at d1 d2
    simp only [api_Record_55.l0]
    rw [if_pos (by omega), if_pos (by omega), if_pos (by omega), if_pos (by omega), d1, d2]
    by_cases c : rd_T98 l (i : Int) = rd_T98 m (i : Int)
    · rw [if_neg (fun h_ => (eqR_one _ _).1 h_ c), show wrap64 ((i : Int) + 1) = ((i + 1 : Nat) : Int) from by unfold wrap64; omega]
      obtain ⟨r, h1, h2⟩ := ih K (i + 1) (by omega) (by omega)
      refine ⟨r, h1, h2.trans ⟨fun e => ?_, fun e => (List.cons.inj e).2⟩⟩
      rw [e]
      exact congrArg (· :: m.drop (i + 1)) c
    · rw [if_pos ((eqR_one _ _).2 c)]
      exact ⟨false, rfl, ⟨fun e => (by cases e), fun e => absurd (List.cons.inj e).1 c⟩⟩
theorem eqOk : EqOk := by
  intro rs rs' hl
  unfold api_Record_55.f
  by_cases h : (rs.length : Int) = (rs'.length : Int)
  · obtain ⟨r, h1, h2⟩ := eqR_l0 rs rs' hl (by omega) rs.length (rs.length + 1) 0 (by omega) (by omega)
    exact ⟨rs.length + 1, r, by rw [if_pos h]; exact h1, by simpa using h2⟩
  · exact ⟨0, false, by rw [if_neg h], ⟨fun e => (by cases e), fun e => absurd (by rw [e]) h⟩⟩
theorem nb_bytes (v : Int) (n : Nat) : Bp.Bytes (nb v n) := Bp.beL_bytes _ _
theorem bytes_app {l m : List Int} (h1 : Bp.Bytes l) (h2 : Bp.Bytes m) : Bp.Bytes (l ++ m) := fun x hx => (List.mem_append.1 hx).elim (h1 x) (h2 x)
theorem bytesOf_bytes (s : ByteArray) : Bp.Bytes (bytesOf s) := by
  intro x hx
  unfold bytesOf at hx
  simp only [List.mem_map] at hx
  obtain ⟨y, _, rfl⟩ := hx
  have := y.toNat_lt
  omega
theorem txt_bytes (s : ByteArray) : Bp.Bytes (txt1 s) := bytes_app (nb_bytes _ _) (bytesOf_bytes _)
theorem nil_bytes : Bp.Bytes [] := fun x hx => by cases hx
theorem rec_bytes (x : S98) : Bp.Bytes (rec1 x) := by
  unfold rec1 recW
  refine bytes_app (nb_bytes _ _) (bytes_app ?_ (bytes_app ?_ (nb_bytes _ _)))
  · split
    · exact txt_bytes _
    · exact nil_bytes
  · split
    · exact txt_bytes _
    · exact nil_bytes
theorem lw_bytes {α : Type} {one : α → List Int} (ob : α → Bool) (h : ∀ x, Bp.Bytes (one x)) : ∀ (l : List α) (xs : List Int) (b : Bool), Bp.Bytes xs → Bp.Bytes (lw one ob l xs b).1
  | [], _, _, hx => hx
  | x :: l, xs, b, hx => by
    rw [lw]
    split
    · exact hx
    · exact lw_bytes ob h l _ _ (bytes_app hx (h x))
theorem lw_ge {α : Type} (one : α → List Int) (ob : α → Bool) : ∀ (l : List α) (xs : List Int) (b : Bool), xs.length ≤ (lw one ob l xs b).1.length
  | [], _, _ => Nat.le_refl _
  | x :: l, xs, b => by
    rw [lw]
    split
    · exact Nat.le_refl _
    · have := lw_ge one ob l (xs ++ one x) (b || ob x)
      rw [List.length_append] at this
      omega
theorem wF_bytes (m : Msg) (rs : List S98) (f : Int) (s : List Int × Bool) (h : Bp.Bytes s.1) : Bp.Bytes (wF m rs f s).1 ∧ s.1.length ≤ (wF m rs f s).1.length := by
  unfold wF
  split
  · exact ⟨bytes_app h (txt_bytes _), by simp⟩
  split
  · exact ⟨bytes_app h (txt_bytes _), by simp⟩
  split
  · exact ⟨bytes_app h (nb_bytes _ _), by simp⟩
  split
  · exact ⟨lw_bytes _ rec_bytes _ _ _ (bytes_app h (nb_bytes _ _)), Nat.le_trans (by simp) (lw_ge _ _ _ _ _)⟩
  · exact ⟨bytes_app h (nb_bytes _ _), by simp⟩
theorem wFs_bytes (m : Msg) (rs : List S98) : ∀ (L : List Int) (s : List Int × Bool), Bp.Bytes s.1 → Bp.Bytes (wFs m rs L s).1 ∧ s.1.length ≤ (wFs m rs L s).1.length
  | [], _, h => ⟨h, Nat.le_refl _⟩
  | f :: L, s, h => by
    have h1 := wF_bytes m rs f s h
    have h2 := wFs_bytes m rs L (wF m rs f s) h1.1
    exact ⟨h2.1, Nat.le_trans h1.2 h2.2⟩
theorem rqWr_bytes (m : Msg) (rs : List S98) : Bp.Bytes (rqWr m rs).1 ∧ 5 ≤ (rqWr m rs).1.length := by
  have h := wFs_bytes m rs ((codec_fields.f 0 m.kind).getD []) (nb m.kind 1 ++ nb m.id 4, false) (bytes_app (nb_bytes _ _) (nb_bytes _ _))
  refine ⟨h.1, Nat.le_trans ?_ h.2⟩
  simp [nb_len]
end Go.Proofs.Ytncfofnikmfjbaa.PCi

namespace Go.Proofs.Ytncfofnikmfjbaa.PCi
open Go.RowKit Go.Proofs.YtncfofnikmfjbaaW.PrintWords Go.Proofs.YtncfofnikmfjbaaW.PrintLast Go.Proofs.YtncfofnikmfjbaaW.PrintMore
attribute [local go_sem] max2_int min2_int max_two min_two max_three min_three max_four min_four
set_option linter.unusedVariables false
set_option linter.unusedSimpArgs false

/-! ### codec: what is written is read -/
theorem rt_take {l : List Int} {n : Nat} (h : l.length = n) (t : List Int) : (l ++ t).take n = l ∧ (l ++ t).drop n = t := ⟨List.take_left' h, List.drop_left' h⟩
theorem rt_num (n : Nat) (v : Int) (t : List Int) : rdNum n (nb v n ++ t) false = (wrap64 (((v % 18446744073709551616).toNat % 256 ^ n : Nat) : Int), t, false) := by
  unfold rdNum
  rw [if_neg (by rw [List.length_append, nb_len]; simp), (rt_take (nb_len v n) t).1, (rt_take (nb_len v n) t).2]
  unfold nb
  rw [Bp.be_beL]
theorem rt_int (v : Int) (h1 : -9223372036854775808 ≤ v) (h2 : v ≤ 9223372036854775807) (t : List Int) : rdNum 8 (nb v 8 ++ t) false = (v, t, false) := by
  rw [rt_num]
  congr 1
  unfold wrap64
  omega
theorem rt_small1 (v : Int) (h1 : 0 ≤ v) (h2 : v < 256) (t : List Int) : rdNum 1 (nb v 1 ++ t) false = (v, t, false) := by
  rw [rt_num, show (256 : Nat) ^ 1 = 256 from rfl]
  congr 1
  unfold wrap64
  omega
theorem rt_small2 (v : Int) (h1 : 0 ≤ v) (h2 : v < 65536) (t : List Int) : rdNum 2 (nb v 2 ++ t) false = (v, t, false) := by
  rw [rt_num, show (256 : Nat) ^ 2 = 65536 from rfl]
  congr 1
  unfold wrap64
  omega
theorem rt_small4 (v : Int) (h1 : 0 ≤ v) (h2 : v < 4294967296) (t : List Int) : rdNum 4 (nb v 4 ++ t) false = (v, t, false) := by
  rw [rt_num, show (256 : Nat) ^ 4 = 4294967296 from rfl]
  congr 1
  unfold wrap64
  omega
theorem rt_str (s : ByteArray) : strOfNums (bytesOf s) = s := by
  unfold strOfNums bytesOf
  cases s with | mk x =>
  congr 1
  apply Array.toList_inj.1
  simp [List.map_map, Function.comp_def]
theorem rt_text (s : ByteArray) (h : s.size ≤ 65535) (t : List Int) : rdText (txt1 s ++ t) false = (s, t, false) := by
  have h1 : rdNum 2 (txt1 s ++ t) false = ((s.size : Int), bytesOf s ++ t, false) := by
    unfold txt1
    rw [List.append_assoc]
    exact rt_small2 _ (by omega) (by omega) _
  unfold rdText
  rw [h1]
  dsimp only
  unfold rdBytes
  rw [if_neg (by rw [List.length_append, bytesOf_length]; simp; omega)]
  dsimp only
  rw [Int.toNat_natCast, (rt_take (bytesOf_length s) t).1, (rt_take (bytesOf_length s) t).2, rt_str]
/-- A record that is written right. -/
def RecOk (x : S98) : Prop := rec2 x = false ∧ -9223372036854775808 ≤ x.f4 ∧ x.f4 ≤ 9223372036854775807
theorem rt_opt (is : Bool) (s : ByteArray) (h : is = true → s.size ≤ 65535) (h0 : is = false → s.toList.isEmpty = true) (t : List Int) : rdOpt is ((if is = true then nb (s.size : Nat) 2 ++ bytesOf s else []) ++ t) false = (s, t, false) := by
  unfold rdOpt
  cases is
  · have h1 := h0 rfl
    have : s = ⟨#[]⟩ := by
      rw [← bl_inj]
      rw [List.isEmpty_iff] at h1
      rw [h1, Bp.toList_data_]
    rw [this]
    rfl
  · exact rt_text s (h rfl) t
theorem rt_flag (hk hv : Bool) : rdFl ((if hk = true then 1 else 0) + (if hv = true then 2 else 0)) 1 = hk ∧ rdFl ((if hk = true then 1 else 0) + (if hv = true then 2 else 0)) 2 = hv := by
  cases hk <;> cases hv <;> decide
theorem rt_rec (x : S98) (h : RecOk x) (t : List Int) : rdRec (rec1 x ++ t) false = (x, t, false) := by
  obtain ⟨hb, h1, h2⟩ := h
  obtain ⟨hk, key, hv, val, tm, off⟩ := x
  unfold rec2 recB recO at hb
  simp only [Bool.or_eq_false_iff, Bool.and_eq_false_iff, Bool.not_eq_false', decide_eq_false_iff_not, beq_iff_eq] at hb
  obtain ⟨⟨a1, a2, a3⟩, b1, b2⟩ := hb
  subst a3
  unfold rec1 recW rdRec
  dsimp only at h1 h2 ⊢
  rw [List.append_assoc, List.append_assoc, List.append_assoc, rt_small1 _ (by split <;> split <;> omega) (by split <;> split <;> omega) _]
  dsimp only
  rw [(rt_flag hk hv).1, (rt_flag hk hv).2, show (false || decide (3 < ((if hk = true then (1 : Int) else 0) + (if hv = true then 2 else 0)))) = false from by cases hk <;> cases hv <;> decide]
  rw [rt_opt hk key (fun e => b1.elim (fun b => by rw [e] at b; cases b) (fun b => by omega)) (fun e => a1.elim (fun b => by rw [e] at b; cases b) (fun b => b))]
  dsimp only
  rw [rt_opt hv val (fun e => b2.elim (fun b => by rw [e] at b; cases b) (fun b => by omega)) (fun e => a2.elim (fun b => by rw [e] at b; cases b) (fun b => b))]
  dsimp only
  rw [rt_int tm h1 h2]
theorem rt_all {α : Type} {one : List Int → Bool → α × List Int × Bool} {wr : α → List Int} {P : α → Prop} (h1 : ∀ x, P x → ∀ t, one (wr x ++ t) false = (x, t, false)) : ∀ (l : List α), (∀ x ∈ l, P x) → ∀ t, rdAll one l.length ((l.map wr).flatten ++ t) false = (l, t, false)
  | [], _, t => rfl
  | x :: l, h, t => by
    rw [List.length_cons, rdAll, if_neg (by simp), List.map_cons, List.flatten_cons, List.append_assoc, h1 x (h x List.mem_cons_self)]
    dsimp only
    rw [rt_all h1 l (fun y hy => h y (List.mem_cons_of_mem _ hy)) t]
theorem rt_list {α : Type} {one : List Int → Bool → α × List Int × Bool} {wr : α → List Int} {P : α → Prop} (h1 : ∀ x, P x → ∀ t, one (wr x ++ t) false = (x, t, false)) (l : List α) (hl : l.length ≤ 65535) (h : ∀ x ∈ l, P x) (t : List Int) : rdList one (nb (l.length : Nat) 2 ++ ((l.map wr).flatten ++ t)) false = (l, t, false) := by
  unfold rdList
  rw [rt_small2 _ (by omega) (by omega)]
  dsimp only
  rw [Int.toNat_natCast]
  exact rt_all h1 l h t
theorem lw_ok {α : Type} (one : α → List Int) (ob : α → Bool) : ∀ (l : List α) (xs : List Int) (b : Bool), (lw one ob l xs b).2 = false → b = false ∧ (∀ x ∈ l, ob x = false) ∧ (lw one ob l xs b).1 = xs ++ (l.map one).flatten
  | [], xs, b, h => ⟨h, (fun x hx => (by cases hx)), (by simp [lw])⟩
  | x :: l, xs, b, h => by
    rw [lw] at h ⊢
    split at h
    · rename_i hb
      rw [hb] at h
      cases h
    · rename_i hb
      rw [if_neg hb]
      obtain ⟨h1, h2, h3⟩ := lw_ok one ob l _ _ h
      rw [Bool.or_eq_false_iff] at h1
      refine ⟨h1.1, fun y hy => ?_, ?_⟩
      · rcases List.mem_cons.1 hy with rfl | hy
        · exact h1.2
        · exact h2 y hy
      · rw [h3, List.map_cons, List.flatten_cons, List.append_assoc]
/-- A field's bytes; a field that can be written. -/
def wB (m : Msg) (rs : List S98) (f : Int) : List Int := if f = 0 then txt1 m.topic else if f = 1 then txt1 m.group else if f = 7 then nb (if m.comp = true then 1 else 0) 1 else if f = 16 then nb (rs.length : Nat) 2 ++ (rs.map rec1).flatten else nb (m.num 0 f) 8
def FOk (m : Msg) (rs : List S98) (f : Int) : Prop := (f = 0 → m.topic.size ≤ 65535) ∧ (f = 1 → m.group.size ≤ 65535) ∧ (f = 16 → rs.length ≤ 65535 ∧ ∀ x ∈ rs, rec2 x = false)
theorem wF_ok (m : Msg) (rs : List S98) (f : Int) (s : List Int × Bool) (h : (wF m rs f s).2 = false) : s.2 = false ∧ (wF m rs f s).1 = s.1 ++ wB m rs f ∧ FOk m rs f := by
  unfold wF at h ⊢
  unfold wB FOk
  by_cases h0 : f = 0
  · subst h0
    simp only [if_true] at h ⊢
    rw [Bool.or_eq_false_iff] at h
    have := h.2
    unfold txt2 at this
    exact ⟨h.1, (by first | trivial | rfl), fun _ => by simpa using this, fun e => absurd e (by decide), fun e => absurd e (by decide)⟩
  simp only [if_neg h0] at h ⊢
  by_cases h1 : f = 1
  · subst h1
    simp only [if_true] at h ⊢
    rw [Bool.or_eq_false_iff] at h
    have := h.2
    unfold txt2 at this
    exact ⟨h.1, (by first | trivial | rfl), fun e => absurd e (by decide), fun _ => by simpa using this, fun e => absurd e (by decide)⟩
  simp only [if_neg h1] at h ⊢
  by_cases h7 : f = 7
  · subst h7
    simp only [if_true] at h ⊢
    exact ⟨h, (by first | trivial | rfl), fun e => absurd e (by decide), fun e => absurd e (by decide), fun e => absurd e (by decide)⟩
  simp only [if_neg h7] at h ⊢
  by_cases h16 : f = 16
  · subst h16
    simp only [if_true] at h ⊢
    obtain ⟨a1, a2, a3⟩ := lw_ok rec1 rec2 rs _ _ h
    rw [Bool.or_eq_false_iff] at a1
    exact ⟨a1.1, by rw [a3, List.append_assoc], fun e => absurd e (by decide), fun e => absurd e (by decide), fun _ => ⟨by simpa using a1.2, a2⟩⟩
  simp only [if_neg h16] at h ⊢
  exact ⟨h, (by first | trivial | rfl), fun e => absurd e h0, fun e => absurd e h1, fun e => absurd e h16⟩
theorem wFs_ok (m : Msg) (rs : List S98) : ∀ (L : List Int) (s : List Int × Bool), (wFs m rs L s).2 = false → s.2 = false ∧ (wFs m rs L s).1 = s.1 ++ (L.map (wB m rs)).flatten ∧ ∀ f ∈ L, FOk m rs f
  | [], s, h => ⟨h, (by simp [wFs]), (fun f hf => (by cases hf))⟩
  | f :: L, s, h => by
    obtain ⟨h1, h2, h3⟩ := wFs_ok m rs L (wF m rs f s) h
    obtain ⟨g1, g2, g3⟩ := wF_ok m rs f s h1
    refine ⟨g1, ?_, fun x hx => ?_⟩
    · show (wFs m rs L (wF m rs f s)).1 = _
      rw [h2, g2, List.map_cons, List.flatten_cons, List.append_assoc]
    · rcases List.mem_cons.1 hx with rfl | hx
      · exact g3
      · exact h3 x hx
/-- A field is taken over. -/
def cpF (m : Msg) (f : Int) (n : Msg) : Msg := if f = 0 then { n with topic := m.topic } else if f = 1 then { n with group := m.group } else if f = 7 then { n with comp := m.comp } else if f = 16 then n else n.put 0 f (m.num 0 f)
def cpFs (m : Msg) (L : List Int) (n : Msg) : Msg := L.foldl (fun n f => cpF m f n) n
def cpR (rs : List S98) (L : List Int) (rs' : List S98) : List S98 := L.foldl (fun r f => if f = 16 then rs else r) rs'
theorem num_ints (m : Msg) (f : Int) : m.num 0 f ∈ m.ints := by
  unfold Msg.num
  by_cases h2 : f = 2
  · simp only [if_pos h2]; simp [Msg.ints]
  simp only [if_neg h2]
  by_cases h3 : f = 3
  · simp only [if_pos h3]; simp [Msg.ints]
  simp only [if_neg h3]
  by_cases h4 : f = 4
  · simp only [if_pos h4]; simp [Msg.ints]
  simp only [if_neg h4]
  by_cases h5 : f = 5
  · simp only [if_pos h5]; simp [Msg.ints]
  simp only [if_neg h5]
  by_cases h6 : f = 6
  · simp only [if_pos h6]; simp [Msg.ints]
  simp only [if_neg h6]
  by_cases h8 : f = 8
  · simp only [if_pos h8]; simp [Msg.ints]
  simp only [if_neg h8]
  by_cases h9 : f = 9
  · simp only [if_pos h9]; simp [Msg.ints]
  simp only [if_neg h9]
  by_cases h10 : f = 10
  · simp only [if_pos h10]; simp [Msg.ints]
  simp only [if_neg h10]
  by_cases h12 : f = 12
  · simp only [if_pos h12]; simp [Msg.ints]
  simp only [if_neg h12]
  by_cases h13 : f = 13
  · simp only [if_pos h13]; simp [Msg.ints]
  simp only [if_neg h13]
  by_cases h14 : f = 14
  · simp only [if_pos h14]; simp [Msg.ints]
  simp only [if_neg h14]
  by_cases h15 : f = 15
  · simp only [if_pos h15]; simp [Msg.ints]
  simp only [if_neg h15]
  simp [Msg.ints]
theorem wf_rng {x : Int} (h : (Lit.int .i64 x).wf = true) : -9223372036854775808 ≤ x ∧ x ≤ 9223372036854775807 := by
  simp [Lit.wf, IntKind.min, IntKind.max, IntKind.signed, IntKind.bits] at h
  omega
theorem rqF_rt (m : Msg) (rs : List S98) (f : Int) (hw : m.Wf) (hr : ∀ x ∈ rs, -9223372036854775808 ≤ x.f4 ∧ x.f4 ≤ 9223372036854775807) (hf : FOk m rs f) (n : Msg) (r : List S98) (t : List Int) : rqF f (n, r, wB m rs f ++ t, false) = (cpF m f n, (if f = 16 then rs else r), t, false) := by
  obtain ⟨f0, f1, f16⟩ := hf
  unfold rqF wB cpF
  by_cases h0 : f = 0
  · subst h0
    simp only [if_true]
    rw [rt_text m.topic (f0 rfl) t]
    rfl
  simp only [if_neg h0]
  by_cases h1 : f = 1
  · subst h1
    simp only [if_true]
    rw [rt_text m.group (f1 rfl) t]
    rfl
  simp only [if_neg h1]
  by_cases h7 : f = 7
  · subst h7
    simp only [if_true]
    rw [rt_small1 _ (by split <;> omega) (by split <;> omega) t]
    cases m.comp <;> rfl
  simp only [if_neg h7]
  by_cases h16 : f = 16
  · subst h16
    simp only [if_true]
    rw [List.append_assoc, rt_list (P := RecOk) rt_rec rs (f16 rfl).1 (fun x hx => ⟨(f16 rfl).2 x hx, hr x hx⟩) t]
  simp only [if_neg h16]
  unfold rdInt
  have := wf_rng (hw.ints _ (num_ints m f))
  rw [rt_int _ this.1 this.2 t]
theorem rqFs_rt (m : Msg) (rs : List S98) (hw : m.Wf) (hr : ∀ x ∈ rs, -9223372036854775808 ≤ x.f4 ∧ x.f4 ≤ 9223372036854775807) : ∀ (L : List Int), (∀ f ∈ L, FOk m rs f) → ∀ (n : Msg) (r : List S98) (t : List Int), rqFs L (n, r, (L.map (wB m rs)).flatten ++ t, false) = (cpFs m L n, cpR rs L r, t, false)
  | [], _, n, r, t => rfl
  | f :: L, h, n, r, t => by
    show rqFs L (rqF f (n, r, ((f :: L).map (wB m rs)).flatten ++ t, false)) = _
    rw [List.map_cons, List.flatten_cons, List.append_assoc, rqF_rt m rs f hw hr (h f List.mem_cons_self)]
    exact rqFs_rt m rs hw hr L (fun x hx => h x (List.mem_cons_of_mem _ hx)) _ _ t
theorem parse_rt (m : Msg) (rs : List S98) (L : List Int) (hw : m.Wf) (hr : ∀ x ∈ rs, -9223372036854775808 ≤ x.f4 ∧ x.f4 ≤ 9223372036854775807) (hL : codec_fields.f 0 m.kind = some L) (hk : 0 ≤ m.kind ∧ m.kind < 256) (hi : 0 ≤ m.id ∧ m.id ≤ 4294967295) (hb : (rqWr m rs).2 = false) :
    codec_ParseRequest.f (rqWr m rs).1 = (cpFs m L { msg0 with kind := m.kind, id := m.id }, cpR rs L [], 0) := by
  unfold rqWr at hb ⊢
  rw [hL] at hb ⊢
  obtain ⟨_, h2, h3⟩ := wFs_ok m rs _ _ hb
  dsimp only [Option.getD_some] at h2 h3 hb ⊢
  rw [h2]
  have e1 : rdNum 1 (nb m.kind 1 ++ nb m.id 4 ++ (L.map (wB m rs)).flatten) false = (m.kind, nb m.id 4 ++ (L.map (wB m rs)).flatten, false) := by
    rw [List.append_assoc]
    exact rt_small1 _ hk.1 hk.2 _
  have e2 : rdNum 4 (nb m.id 4 ++ (L.map (wB m rs)).flatten) false = (m.id, (L.map (wB m rs)).flatten, false) := rt_small4 _ hi.1 (by omega) _
  have e3 := rqFs_rt m rs hw hr L h3 { msg0 with kind := m.kind, id := m.id } [] []
  rw [List.append_nil] at e3
  have e4 : rqRaw (nb m.kind 1 ++ nb m.id 4 ++ (L.map (wB m rs)).flatten) = (cpFs m L { msg0 with kind := m.kind, id := m.id }, cpR rs L [], [], false) := by
    unfold rqRaw
    rw [e1]
    dsimp only
    rw [e2, hL]
    exact e3
  have e5 : rqBad (nb m.kind 1 ++ nb m.id 4 ++ (L.map (wB m rs)).flatten) = false := by
    unfold rqBad
    rw [e1, e4, hL]
    rfl
  unfold codec_ParseRequest.f
  rw [if_neg (by rw [e5]; simp), e4]

end Go.Proofs.Ytncfofnikmfjbaa.PCi
