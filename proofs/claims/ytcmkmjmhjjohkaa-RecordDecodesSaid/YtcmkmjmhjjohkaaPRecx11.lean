-- written by a program of this session (wip/tools/pr.py, over the kit's printer): not by hand
import Derived.Test.YtcmkmjmhjjohkaaPRecx0
import Derived.Test.YtcmkmjmhjjohkaaPRecx10
namespace Go.Proofs.Ytcmkmjmhjjohkaa.PRec
open Go.RowKit Go.Proofs.YtcmkmjmhjjohkaaW.PrintWords Go.Proofs.YtcmkmjmhjjohkaaW.PrintLast Go.Proofs.YtcmkmjmhjjohkaaW.PrintMore
attribute [local go_sem] max2_int min2_int max_two min_two max_three min_three max_four min_four   -- for this text's walks alone
set_option linter.unusedVariables false
set_option linter.unusedSimpArgs false

/-! ### bollardref12_Decode: function 17 -/
mutual
def bollardref12_Decode.j0 : Nat → List Int → Int → Bool → Bool → ByteArray → Bool → ByteArray → Int → Int → Option (Bool × ByteArray × Bool × ByteArray × Int × Int × Int × Int)
  | 0, _, _, _, _, _, _, _, _, _ => none
  | k + 1, x0, x1, x31, x252000, x252001, x252002, x252003, x252004, x252005 => if x31 = true then (some (x252000, x252001, x252002, x252003, x252004, x252005, 0, 10)) else (if 1 ≤ (x0.length : Int) then ((bollardref1_Unvarint.f k (x0.drop 1)).bind fun bt254 => (if bt254.2 = 0 then (bollardref12_Decode.j1 k x0 x1 bt254.1 bt254.2 true x252000 x252001 x252002 x252003 x252004 x252005) else (bollardref12_Decode.j1 k x0 x1 bt254.1 bt254.2 (decide (bt254.1 ≥ 100)) x252000 x252001 x252002 x252003 x252004 x252005))) else (none))
def bollardref12_Decode.j1 : Nat → List Int → Int → Int → Int → Bool → Bool → ByteArray → Bool → ByteArray → Int → Int → Option (Bool × ByteArray × Bool × ByteArray × Int × Int × Int × Int)
  | 0, _, _, _, _, _, _, _, _, _, _, _ => none
  | k + 1, x0, x1, x8, x9, x44, x252000, x252001, x252002, x252003, x252004, x252005 => if x44 = true then (some (x252000, x252001, x252002, x252003, x252004, x252005, 0, 10)) else (if 0 ≤ (wrap64 (1 + x9)) then (if (wrap64 (1 + x9)) ≤ (x0.length : Int) then ((bollardref1_Unvarint.f k (x0.drop ((wrap64 (1 + x9)) : Int).toNat)).bind fun bt257 => ((bollardref1_Zag.f bt257.1).bind fun t259 => (if bt257.2 = 0 then (bollardref12_Decode.j2 k x0 x1 x8 bt257.2 (wrap64 (1 + x9)) t259 true x252000 x252001 x252002 x252003 x252004 x252005) else (if t259 < (wrap64 (-x1)) then (bollardref12_Decode.j2 k x0 x1 x8 bt257.2 (wrap64 (1 + x9)) t259 true x252000 x252001 x252002 x252003 x252004 x252005) else (bollardref12_Decode.j2 k x0 x1 x8 bt257.2 (wrap64 (1 + x9)) t259 (decide (t259 > (wrap64 (1125899906842624 - x1)))) x252000 x252001 x252002 x252003 x252004 x252005))))) else (none)) else (none))
def bollardref12_Decode.j2 : Nat → List Int → Int → Int → Int → Int → Int → Bool → Bool → ByteArray → Bool → ByteArray → Int → Int → Option (Bool × ByteArray × Bool × ByteArray × Int × Int × Int × Int)
  | 0, _, _, _, _, _, _, _, _, _, _, _, _, _ => none
  | k + 1, x0, x1, x8, x9, x10, x12, x70, x252000, x252001, x252002, x252003, x252004, x252005 => if x70 = true then (some (x252000, x252001, x252002, x252003, x252004, x252005, 0, 10)) else (if 0 < (x0.length : Int) then (if (Go.bits .and .u8 (rd x0 0) 1) = 1 then ((bollardref12_text.f k x0 (wrap64 (x10 + x9))).bind fun bt263 => (bollardref12_Decode.j3 k x0 bt263.2 x252000 x252001 x252002 x252003 x252004 x252005 ((Go.bits .and .u8 (rd x0 0) 1) == 1) bt263.1 ((Go.bits .and .u8 (rd x0 0) 2) == 2) (⟨#[]⟩ : ByteArray) (wrap64 (x1 + x12)) (wrap64 (x8)))) else (bollardref12_Decode.j3 k x0 (wrap64 (x10 + x9)) x252000 x252001 x252002 x252003 x252004 x252005 ((Go.bits .and .u8 (rd x0 0) 1) == 1) (⟨#[]⟩ : ByteArray) ((Go.bits .and .u8 (rd x0 0) 2) == 2) (⟨#[]⟩ : ByteArray) (wrap64 (x1 + x12)) (wrap64 (x8)))) else (none))
def bollardref12_Decode.j3 : Nat → List Int → Int → Bool → ByteArray → Bool → ByteArray → Int → Int → Bool → ByteArray → Bool → ByteArray → Int → Int → Option (Bool × ByteArray × Bool × ByteArray × Int × Int × Int × Int)
  | 0, _, _, _, _, _, _, _, _, _, _, _, _, _, _ => none
  | k + 1, x0, x10, x252000, x252001, x252002, x252003, x252004, x252005, x263000, x263001, x263002, x263003, x263004, x263005 => if x10 ≥ 0 then (bollardref12_Decode.j4 k x0 x10 x263002 x252000 x252001 x252002 x252003 x252004 x252005 x263000 x263001 x263002 x263003 x263004 x263005) else (bollardref12_Decode.j4 k x0 x10 false x252000 x252001 x252002 x252003 x252004 x252005 x263000 x263001 x263002 x263003 x263004 x263005)
def bollardref12_Decode.j4 : Nat → List Int → Int → Bool → Bool → ByteArray → Bool → ByteArray → Int → Int → Bool → ByteArray → Bool → ByteArray → Int → Int → Option (Bool × ByteArray × Bool × ByteArray × Int × Int × Int × Int)
  | 0, _, _, _, _, _, _, _, _, _, _, _, _, _, _, _ => none
  | k + 1, x0, x10, x105, x252000, x252001, x252002, x252003, x252004, x252005, x263000, x263001, x263002, x263003, x263004, x263005 => if x105 = true then ((bollardref12_text.f k x0 x10).bind fun bt265 => (if bt265.2 < 0 then (some (x252000, x252001, x252002, x252003, x252004, x252005, 0, 10)) else (some (x263000, x263001, x263002, bt265.1, x263004, x263005, bt265.2, 0)))) else (if x10 < 0 then (some (x252000, x252001, x252002, x252003, x252004, x252005, 0, 10)) else (some (x263000, x263001, x263002, x263003, x263004, x263005, x10, 0)))
end
def bollardref12_Decode.f (k : Nat) (l0 : List Int) (a1 : Int) : Option (Bool × ByteArray × Bool × ByteArray × Int × Int × Int × Int) := if a1 < 0 then (bollardref12_Decode.j0 k l0 a1 true false (⟨#[]⟩ : ByteArray) false (⟨#[]⟩ : ByteArray) 0 0) else (if a1 > 1125899906842624 then (bollardref12_Decode.j0 k l0 a1 true false (⟨#[]⟩ : ByteArray) false (⟨#[]⟩ : ByteArray) 0 0) else (if (l0.length : Int) = 0 then (bollardref12_Decode.j0 k l0 a1 true false (⟨#[]⟩ : ByteArray) false (⟨#[]⟩ : ByteArray) 0 0) else (if 0 < (l0.length : Int) then (bollardref12_Decode.j0 k l0 a1 (decide ((rd l0 0) > 3)) false (⟨#[]⟩ : ByteArray) false (⟨#[]⟩ : ByteArray) 0 0) else (none))))
theorem bollardref12_Decode.mono_l : ∀ k, (∀ y0 y1 y2 y3 y4 y5 y6 y7 y8, LeO (bollardref12_Decode.j0 k y0 y1 y2 y3 y4 y5 y6 y7 y8) (bollardref12_Decode.j0 (k + 1) y0 y1 y2 y3 y4 y5 y6 y7 y8)) ∧ (∀ y0 y1 y2 y3 y4 y5 y6 y7 y8 y9 y10, LeO (bollardref12_Decode.j1 k y0 y1 y2 y3 y4 y5 y6 y7 y8 y9 y10) (bollardref12_Decode.j1 (k + 1) y0 y1 y2 y3 y4 y5 y6 y7 y8 y9 y10)) ∧ (∀ y0 y1 y2 y3 y4 y5 y6 y7 y8 y9 y10 y11 y12, LeO (bollardref12_Decode.j2 k y0 y1 y2 y3 y4 y5 y6 y7 y8 y9 y10 y11 y12) (bollardref12_Decode.j2 (k + 1) y0 y1 y2 y3 y4 y5 y6 y7 y8 y9 y10 y11 y12)) ∧ (∀ y0 y1 y2 y3 y4 y5 y6 y7 y8 y9 y10 y11 y12 y13, LeO (bollardref12_Decode.j3 k y0 y1 y2 y3 y4 y5 y6 y7 y8 y9 y10 y11 y12 y13) (bollardref12_Decode.j3 (k + 1) y0 y1 y2 y3 y4 y5 y6 y7 y8 y9 y10 y11 y12 y13)) ∧ (∀ y0 y1 y2 y3 y4 y5 y6 y7 y8 y9 y10 y11 y12 y13 y14, LeO (bollardref12_Decode.j4 k y0 y1 y2 y3 y4 y5 y6 y7 y8 y9 y10 y11 y12 y13 y14) (bollardref12_Decode.j4 (k + 1) y0 y1 y2 y3 y4 y5 y6 y7 y8 y9 y10 y11 y12 y13 y14))
  | 0 => ⟨fun _ _ _ _ _ _ _ _ _ r h => by simp [bollardref12_Decode.j0] at h, fun _ _ _ _ _ _ _ _ _ _ _ r h => by simp [bollardref12_Decode.j1] at h, fun _ _ _ _ _ _ _ _ _ _ _ _ _ r h => by simp [bollardref12_Decode.j2] at h, fun _ _ _ _ _ _ _ _ _ _ _ _ _ _ r h => by simp [bollardref12_Decode.j3] at h, fun _ _ _ _ _ _ _ _ _ _ _ _ _ _ _ r h => by simp [bollardref12_Decode.j4] at h⟩
  | k + 1 => by
    obtain ⟨ih0, ih1, ih2, ih3, ih4⟩ := bollardref12_Decode.mono_l k
    refine ⟨?_, ?_, ?_, ?_, ?_⟩
    · intro y0 y1 y2 y3 y4 y5 y6 y7 y8
      unfold bollardref12_Decode.j0
      repeat' first
      | (with_reducible exact ih0 _ _ _ _ _ _ _ _ _)
      | (with_reducible exact ih1 _ _ _ _ _ _ _ _ _ _ _)
      | (with_reducible exact ih2 _ _ _ _ _ _ _ _ _ _ _ _ _)
      | (with_reducible exact ih3 _ _ _ _ _ _ _ _ _ _ _ _ _ _)
      | (with_reducible exact ih4 _ _ _ _ _ _ _ _ _ _ _ _ _ _ _)
      | (with_reducible exact bollardref12_text.mono _ _ _)
      | (with_reducible exact bollardref1_Unvarint.mono _ _)
      | (with_reducible exact LeO.refl _)
      | (with_reducible exact LeO.none _)
      | (with_reducible refine LeO.ite ?_ ?_)
      | (with_reducible refine LeO.bind ?_ (fun _ => ?_))
      | exact ih0 _ _ _ _ _ _ _ _ _
      | exact ih1 _ _ _ _ _ _ _ _ _ _ _
      | exact ih2 _ _ _ _ _ _ _ _ _ _ _ _ _
      | exact ih3 _ _ _ _ _ _ _ _ _ _ _ _ _ _
      | exact ih4 _ _ _ _ _ _ _ _ _ _ _ _ _ _ _
      | exact bollardref12_text.mono _ _ _
      | exact bollardref1_Unvarint.mono _ _
      | exact LeO.none _
      | refine LeO.ite ?_ ?_
      | refine LeO.bind ?_ (fun _ => ?_)
    · intro y0 y1 y2 y3 y4 y5 y6 y7 y8 y9 y10
      unfold bollardref12_Decode.j1
      repeat' first
      | (with_reducible exact ih0 _ _ _ _ _ _ _ _ _)
      | (with_reducible exact ih1 _ _ _ _ _ _ _ _ _ _ _)
      | (with_reducible exact ih2 _ _ _ _ _ _ _ _ _ _ _ _ _)
      | (with_reducible exact ih3 _ _ _ _ _ _ _ _ _ _ _ _ _ _)
      | (with_reducible exact ih4 _ _ _ _ _ _ _ _ _ _ _ _ _ _ _)
      | (with_reducible exact bollardref12_text.mono _ _ _)
      | (with_reducible exact bollardref1_Unvarint.mono _ _)
      | (with_reducible exact LeO.refl _)
      | (with_reducible exact LeO.none _)
      | (with_reducible refine LeO.ite ?_ ?_)
      | (with_reducible refine LeO.bind ?_ (fun _ => ?_))
      | exact ih0 _ _ _ _ _ _ _ _ _
      | exact ih1 _ _ _ _ _ _ _ _ _ _ _
      | exact ih2 _ _ _ _ _ _ _ _ _ _ _ _ _
      | exact ih3 _ _ _ _ _ _ _ _ _ _ _ _ _ _
      | exact ih4 _ _ _ _ _ _ _ _ _ _ _ _ _ _ _
      | exact bollardref12_text.mono _ _ _
      | exact bollardref1_Unvarint.mono _ _
      | exact LeO.none _
      | refine LeO.ite ?_ ?_
      | refine LeO.bind ?_ (fun _ => ?_)
    · intro y0 y1 y2 y3 y4 y5 y6 y7 y8 y9 y10 y11 y12
      unfold bollardref12_Decode.j2
      repeat' first
      | (with_reducible exact ih0 _ _ _ _ _ _ _ _ _)
      | (with_reducible exact ih1 _ _ _ _ _ _ _ _ _ _ _)
      | (with_reducible exact ih2 _ _ _ _ _ _ _ _ _ _ _ _ _)
      | (with_reducible exact ih3 _ _ _ _ _ _ _ _ _ _ _ _ _ _)
      | (with_reducible exact ih4 _ _ _ _ _ _ _ _ _ _ _ _ _ _ _)
      | (with_reducible exact bollardref12_text.mono _ _ _)
      | (with_reducible exact bollardref1_Unvarint.mono _ _)
      | (with_reducible exact LeO.refl _)
      | (with_reducible exact LeO.none _)
      | (with_reducible refine LeO.ite ?_ ?_)
      | (with_reducible refine LeO.bind ?_ (fun _ => ?_))
      | exact ih0 _ _ _ _ _ _ _ _ _
      | exact ih1 _ _ _ _ _ _ _ _ _ _ _
      | exact ih2 _ _ _ _ _ _ _ _ _ _ _ _ _
      | exact ih3 _ _ _ _ _ _ _ _ _ _ _ _ _ _
      | exact ih4 _ _ _ _ _ _ _ _ _ _ _ _ _ _ _
      | exact bollardref12_text.mono _ _ _
      | exact bollardref1_Unvarint.mono _ _
      | exact LeO.none _
      | refine LeO.ite ?_ ?_
      | refine LeO.bind ?_ (fun _ => ?_)
    · intro y0 y1 y2 y3 y4 y5 y6 y7 y8 y9 y10 y11 y12 y13
      unfold bollardref12_Decode.j3
      repeat' first
      | (with_reducible exact ih0 _ _ _ _ _ _ _ _ _)
      | (with_reducible exact ih1 _ _ _ _ _ _ _ _ _ _ _)
      | (with_reducible exact ih2 _ _ _ _ _ _ _ _ _ _ _ _ _)
      | (with_reducible exact ih3 _ _ _ _ _ _ _ _ _ _ _ _ _ _)
      | (with_reducible exact ih4 _ _ _ _ _ _ _ _ _ _ _ _ _ _ _)
      | (with_reducible exact bollardref12_text.mono _ _ _)
      | (with_reducible exact bollardref1_Unvarint.mono _ _)
      | (with_reducible exact LeO.refl _)
      | (with_reducible exact LeO.none _)
      | (with_reducible refine LeO.ite ?_ ?_)
      | (with_reducible refine LeO.bind ?_ (fun _ => ?_))
      | exact ih0 _ _ _ _ _ _ _ _ _
      | exact ih1 _ _ _ _ _ _ _ _ _ _ _
      | exact ih2 _ _ _ _ _ _ _ _ _ _ _ _ _
      | exact ih3 _ _ _ _ _ _ _ _ _ _ _ _ _ _
      | exact ih4 _ _ _ _ _ _ _ _ _ _ _ _ _ _ _
      | exact bollardref12_text.mono _ _ _
      | exact bollardref1_Unvarint.mono _ _
      | exact LeO.none _
      | refine LeO.ite ?_ ?_
      | refine LeO.bind ?_ (fun _ => ?_)
    · intro y0 y1 y2 y3 y4 y5 y6 y7 y8 y9 y10 y11 y12 y13 y14
      unfold bollardref12_Decode.j4
      repeat' first
      | (with_reducible exact ih0 _ _ _ _ _ _ _ _ _)
      | (with_reducible exact ih1 _ _ _ _ _ _ _ _ _ _ _)
      | (with_reducible exact ih2 _ _ _ _ _ _ _ _ _ _ _ _ _)
      | (with_reducible exact ih3 _ _ _ _ _ _ _ _ _ _ _ _ _ _)
      | (with_reducible exact ih4 _ _ _ _ _ _ _ _ _ _ _ _ _ _ _)
      | (with_reducible exact bollardref12_text.mono _ _ _)
      | (with_reducible exact bollardref1_Unvarint.mono _ _)
      | (with_reducible exact LeO.refl _)
      | (with_reducible exact LeO.none _)
      | (with_reducible refine LeO.ite ?_ ?_)
      | (with_reducible refine LeO.bind ?_ (fun _ => ?_))
      | exact ih0 _ _ _ _ _ _ _ _ _
      | exact ih1 _ _ _ _ _ _ _ _ _ _ _
      | exact ih2 _ _ _ _ _ _ _ _ _ _ _ _ _
      | exact ih3 _ _ _ _ _ _ _ _ _ _ _ _ _ _
      | exact ih4 _ _ _ _ _ _ _ _ _ _ _ _ _ _ _
      | exact bollardref12_text.mono _ _ _
      | exact bollardref1_Unvarint.mono _ _
      | exact LeO.none _
      | refine LeO.ite ?_ ?_
      | refine LeO.bind ?_ (fun _ => ?_)
theorem bollardref12_Decode.mono : ∀ a0 a1 k, LeO (bollardref12_Decode.f k a0 a1) (bollardref12_Decode.f (k + 1) a0 a1) := by
  intro a0 a1 k
  obtain ⟨ih0, ih1, ih2, ih3, ih4⟩ := bollardref12_Decode.mono_l k
  unfold bollardref12_Decode.f
  repeat' first
      | (with_reducible exact ih0 _ _ _ _ _ _ _ _ _)
      | (with_reducible exact ih1 _ _ _ _ _ _ _ _ _ _ _)
      | (with_reducible exact ih2 _ _ _ _ _ _ _ _ _ _ _ _ _)
      | (with_reducible exact ih3 _ _ _ _ _ _ _ _ _ _ _ _ _ _)
      | (with_reducible exact ih4 _ _ _ _ _ _ _ _ _ _ _ _ _ _ _)
      | (with_reducible exact bollardref12_text.mono _ _ _)
      | (with_reducible exact bollardref1_Unvarint.mono _ _)
      | (with_reducible exact LeO.refl _)
      | (with_reducible exact LeO.none _)
      | (with_reducible refine LeO.ite ?_ ?_)
      | (with_reducible refine LeO.bind ?_ (fun _ => ?_))
      | exact ih0 _ _ _ _ _ _ _ _ _
      | exact ih1 _ _ _ _ _ _ _ _ _ _ _
      | exact ih2 _ _ _ _ _ _ _ _ _ _ _ _ _
      | exact ih3 _ _ _ _ _ _ _ _ _ _ _ _ _ _
      | exact ih4 _ _ _ _ _ _ _ _ _ _ _ _ _ _ _
      | exact bollardref12_text.mono _ _ _
      | exact bollardref1_Unvarint.mono _ _
      | exact LeO.none _
      | refine LeO.ite ?_ ?_
      | refine LeO.bind ?_ (fun _ => ?_)
def bollardref12_Decode.T13 : Bool × List (List Nat × List Nat) := (true, [([], []), ([0], [0]), ([], []), ([], []), ([2, 3], [2, 3]), ([], []), ([5], [5]), ([6], [6]), ([7], [7]), ([8], [8]), ([], []), ([10], [10]), ([11], [11]), ([12], [12]), ([13], [13]), ([1, 4, 9, 14], [1, 4, 9, 14]), ([], []), ([16, 15, 0, 1, 2, 3, 4, 5, 6, 7, 8, 9, 10, 11, 12, 13, 14, 15, 16], [15, 16])])
def bollardref12_Decode.B13 : List Nat := [0, 1, 0, 0, 12, 0, 32, 96, 224, 480, 0, 1024, 3072, 7168, 15360, 32767, 0, 131071]
theorem bollardref12_Decode.tab13 : rtab .any (opsOf Try.f17 13) = bollardref12_Decode.T13 := by kernel_rfl
theorem bollardref12_Decode.bits13 : waitsOk bollardref12_Decode.T13.2 bollardref12_Decode.B13 = true := by kernel_rfl
set_option maxHeartbeats 8000000 in
set_option maxRecDepth 100000 in
theorem bollardref12_Decode.calls (k : Nat) (A0 : Option Addr) (c0 : Nat) (l0 : List Int) (a1 : Int) (r1 : Bool) (r2 : ByteArray) (r3 : Bool) (r4 : ByteArray) (r5 : Int) (r6 : Int) (r7 : Int) (r8 : Int) (w : World) (hr0 : Kd.C (Kd.int .u8) w A0 l0.length l0) (hc0 : l0.length ≤ c0) (h : bollardref12_Decode.f k l0 a1 = some (r1, r2, r3, r4, r5, r6, r7, r8)) :
    Calls Try.prog 17 #[.slice A0 l0.length c0, .int .i64 a1] w fun e w' => e = .returned (.tuple #[.agg #[.bool r1, .string r2, .bool r3, .string r4, .int .i64 r5, .int .i64 r6], .int .i64 r7, .int .i64 r8]) ∧ Below w.heap.size w w' := by
  have hu23 := Try.underlying23
  have HR0 := Aside0.mk hr0
  have HC0 := Aside0.mk hc0
  clear hr0 hc0
  have HB := Aside0.mk (Below.refl w.heap.size w)
  have H : (if a1 < 0 then (bollardref12_Decode.j0 k l0 a1 true false (⟨#[]⟩ : ByteArray) false (⟨#[]⟩ : ByteArray) 0 0) else (if a1 > 1125899906842624 then (bollardref12_Decode.j0 k l0 a1 true false (⟨#[]⟩ : ByteArray) false (⟨#[]⟩ : ByteArray) 0 0) else (if (l0.length : Int) = 0 then (bollardref12_Decode.j0 k l0 a1 true false (⟨#[]⟩ : ByteArray) false (⟨#[]⟩ : ByteArray) 0 0) else (if 0 < (l0.length : Int) then (bollardref12_Decode.j0 k l0 a1 (decide ((rd l0 0) > 3)) false (⟨#[]⟩ : ByteArray) false (⟨#[]⟩ : ByteArray) 0 0) else (none))))) = some (r1, r2, r3, r4, r5, r6, r7, r8) := h
  clear h
  have HC3 := Aside0.mk H
  clear H
  go_enter Try.func17, Try.ntmps17
  go_upto_region 2 with (first | ((with_reducible refine gate_dst (N := 4) rfl ?_); (try (refine gate_guard (by rfl) ?_; dsimp only)); refine box_event ?hg (N := 4) ?hd (cs := #[.bool false, .string (⟨#[]⟩ : ByteArray), .bool false, .string (⟨#[]⟩ : ByteArray), .int .i64 0, .int .i64 0]) (t := 23) ?hr ?_; (case hd => rfl); (case hg => rfl); (case hr => first | (go_simp; done) | (go_simp; rfl)); intro gb250 hg w4 hbox hb; have n0_ := Aside0.mk (below_step (by repeat (first | (with_reducible first | exact HB.out | apply below_alloc | apply pw_below_drewN | apply below_drew1) | exact HB.out)) hb); have n1_ := Aside0.mk (hbox); have n2_ := Aside0.mk ((by rw [hg]; exact (below_size (by repeat (first | (with_reducible first | exact HB.out | apply below_alloc | apply pw_below_drewN | apply below_drew1) | exact HB.out))) : w.heap.size ≤ gb250)); have n3_ := Aside0.mk ((by rw [hg]; exact (below_size (by repeat (first | (with_reducible first | exact HB.out | apply below_alloc | apply pw_below_drewN | apply below_drew1) | exact HB.out))) : w.heap.size ≤ gb250)); clear HB; have HB := n0_; have BK250 := n1_; have GW250 := n2_; have GE250 := n3_; clear n0_ n1_ n2_ n3_; clear hb hbox hg) | ((with_reducible refine gate_dst (N := 7) rfl ?_); (try (refine gate_guard (by rfl) ?_; dsimp only)); refine box_event ?hg (N := 7) ?hd (cs := #[.bool false, .string (⟨#[]⟩ : ByteArray), .bool false, .string (⟨#[]⟩ : ByteArray), .int .i64 0, .int .i64 0]) (t := 23) ?hr ?_; (case hd => rfl); (case hg => rfl); (case hr => first | (go_simp; done) | (go_simp; rfl)); intro gb251 hg w5 hbox hb; have n0_ := Aside0.mk (blk_below (g := gb250) (o := .cells #[.bool false, .string (⟨#[]⟩ : ByteArray), .bool false, .string (⟨#[]⟩ : ByteArray), .int .i64 0, .int .i64 0] 23 (0, 0)) (by (with_reducible repeat (first | refine blk_drewN ?_ _ | refine blk_drew ?_ | refine blk_alloc ?_ _)); exact BK250.out) hb); have n1_ := Aside0.mk (below_step (by repeat (first | (with_reducible first | exact HB.out | apply below_alloc | apply pw_below_drewN | apply below_drew1 | refine below_set ?_ GE250.out) | exact HB.out)) hb); have n2_ := Aside0.mk (hbox); have n3_ := Aside0.mk ((by rw [hg]; exact (below_size (by repeat (first | (with_reducible first | exact HB.out | apply below_alloc | apply pw_below_drewN | apply below_drew1 | refine below_set ?_ GE250.out) | exact HB.out))) : w.heap.size ≤ gb251)); have n4_ := Aside0.mk ((by rw [hg]; exact (below_size (by repeat (first | (with_reducible first | exact HB.out | apply below_alloc | apply pw_below_drewN | apply below_drew1 | refine below_set ?_ GE250.out) | exact HB.out))) : w.heap.size ≤ gb251)); have n5_ := Aside0.mk ((by rw [hg]; exact Nat.ne_of_lt (blk_lt (g := gb250) (o := .cells #[.bool false, .string (⟨#[]⟩ : ByteArray), .bool false, .string (⟨#[]⟩ : ByteArray), .int .i64 0, .int .i64 0] 23 (0, 0)) (by (with_reducible repeat (first | refine blk_drewN ?_ _ | refine blk_drew ?_ | refine blk_alloc ?_ _)); exact BK250.out)) : gb250 ≠ gb251)); have n6_ := Aside0.mk ((by rw [hg]; exact Nat.ne_of_gt (blk_lt (g := gb250) (o := .cells #[.bool false, .string (⟨#[]⟩ : ByteArray), .bool false, .string (⟨#[]⟩ : ByteArray), .int .i64 0, .int .i64 0] 23 (0, 0)) (by (with_reducible repeat (first | refine blk_drewN ?_ _ | refine blk_drew ?_ | refine blk_alloc ?_ _)); exact BK250.out)) : gb251 ≠ gb250)); clear BK250; clear HB; have BK250 := n0_; have HB := n1_; have BK251 := n2_; have GW251 := n3_; have GE251 := n4_; have NB250_251 := n5_; have NB251_250 := n6_; clear n0_ n1_ n2_ n3_ n4_ n5_ n6_; clear hb hbox hg; have hnb6 := NB251_250.out; have hnc6 := NB250_251.out; have hcz7_0 : w5.cell? ⟨gb251, 0, none⟩ = some (.bool false) := (blk_cell BK251.out 0).trans rfl; have hcz7_1 : w5.cell? ⟨gb251, 1, none⟩ = some (.string (⟨#[]⟩ : ByteArray)) := (blk_cell BK251.out 1).trans rfl; have hcz7_2 : w5.cell? ⟨gb251, 2, none⟩ = some (.bool false) := (blk_cell BK251.out 2).trans rfl; have hcz7_3 : w5.cell? ⟨gb251, 3, none⟩ = some (.string (⟨#[]⟩ : ByteArray)) := (blk_cell BK251.out 3).trans rfl; have hcz7_4 : w5.cell? ⟨gb251, 4, none⟩ = some (.int .i64 0) := (blk_cell BK251.out 4).trans rfl; have hcz7_5 : w5.cell? ⟨gb251, 5, none⟩ = some (.int .i64 0) := (blk_cell BK251.out 5).trans rfl; have hfz7_0 := blk_frozen BK251.out 0; have hfz7_1 := blk_frozen BK251.out 1; have hfz7_2 := blk_frozen BK251.out 2; have hfz7_3 := blk_frozen BK251.out 3; have hfz7_4 := blk_frozen BK251.out 4; have hfz7_5 := blk_frozen BK251.out 5))
  (try simp only [Act.put, List.setIfInBounds_toArray, List.set_cons_zero, List.set_cons_succ])
  go_cut [31] (fun v31 wc => ∃ (kq : Nat) (x31_2 : Bool), v31 = .bool x31_2 ∧ Aside0 (bollardref12_Decode.j0 kq l0 a1 x31_2 false (⟨#[]⟩ : ByteArray) false (⟨#[]⟩ : ByteArray) 0 0 = some (r1, r2, r3, r4, r5, r6, r7, r8)) ∧ Aside0 (kq ≤ k) ∧ Aside0 (wc.heap[gb250]? = some (.cells #[.bool false, .string (⟨#[]⟩ : ByteArray), .bool false, .string (⟨#[]⟩ : ByteArray), .int .i64 0, .int .i64 0] 23 (0, 0))) ∧ Aside0 (wc.heap[gb251]? = some (.cells #[.bool false, .string (⟨#[]⟩ : ByteArray), .bool false, .string (⟨#[]⟩ : ByteArray), .int .i64 0, .int .i64 0] 23 (0, 0))) ∧ Aside0 (Below w.heap.size w wc))
  case first =>
    have H := HC3.out
    clear HC3
    by_cases c8 : a1 < 0
    · rw [if_pos c8] at H
      have c8b0 : decide (a1 < 0) = true := decide_eq_true c8
      clear c8
      (first | rw [c8b0] | (simp only [i64_w, i32_w]; rw [c8b0]) | skip)
      have H' := Aside0.mk H
      clear H
      go_wp2
      go_meet
      case rel => exact ⟨_, (true), (by first | rfl | (simp; done) | (simp [*]; done) | exact congrArg Value.bool (ne_empty _) | exact congrArg Value.bool (eq_empty _)), H', ⟨by first | omega | exact Nat.le_refl _⟩, ⟨by (with_reducible repeat (first | refine blk_drewN ?_ _ | refine blk_drew ?_ | refine blk_alloc ?_ _)); refine blk_far ?_ NB250_251.out _; (with_reducible repeat (first | refine blk_drewN ?_ _ | refine blk_drew ?_ | refine blk_alloc ?_ _)); refine blk_far ?_ NB250_251.out _; (with_reducible repeat (first | refine blk_drewN ?_ _ | refine blk_drew ?_ | refine blk_alloc ?_ _)); refine blk_far ?_ NB250_251.out _; (with_reducible repeat (first | refine blk_drewN ?_ _ | refine blk_drew ?_ | refine blk_alloc ?_ _)); refine blk_far ?_ NB250_251.out _; (with_reducible repeat (first | refine blk_drewN ?_ _ | refine blk_drew ?_ | refine blk_alloc ?_ _)); refine blk_far ?_ NB250_251.out _; (with_reducible repeat (first | refine blk_drewN ?_ _ | refine blk_drew ?_ | refine blk_alloc ?_ _)); refine blk_far ?_ NB250_251.out _; (with_reducible repeat (first | refine blk_drewN ?_ _ | refine blk_drew ?_ | refine blk_alloc ?_ _)); exact BK250.out⟩, ⟨by (with_reducible repeat (first | refine blk_drewN ?_ _ | refine blk_drew ?_ | refine blk_alloc ?_ _)); refine blk_put (cs := #[.bool false, .string (⟨#[]⟩ : ByteArray), .bool false, .string (⟨#[]⟩ : ByteArray), .int .i64 0, .int .i64 0]) ?_ 5 _ (by first | rfl | (simp only [*, List.setIfInBounds_toArray, List.set_cons_zero, List.set_cons_succ]; done) | (simp [*]; done)); (with_reducible repeat (first | refine blk_drewN ?_ _ | refine blk_drew ?_ | refine blk_alloc ?_ _)); refine blk_put (cs := #[.bool false, .string (⟨#[]⟩ : ByteArray), .bool false, .string (⟨#[]⟩ : ByteArray), .int .i64 0, .int .i64 0]) ?_ 4 _ (by first | rfl | (simp only [*, List.setIfInBounds_toArray, List.set_cons_zero, List.set_cons_succ]; done) | (simp [*]; done)); (with_reducible repeat (first | refine blk_drewN ?_ _ | refine blk_drew ?_ | refine blk_alloc ?_ _)); refine blk_put (cs := #[.bool false, .string (⟨#[]⟩ : ByteArray), .bool false, .string (⟨#[]⟩ : ByteArray), .int .i64 0, .int .i64 0]) ?_ 3 _ (by first | rfl | (simp only [*, List.setIfInBounds_toArray, List.set_cons_zero, List.set_cons_succ]; done) | (simp [*]; done)); (with_reducible repeat (first | refine blk_drewN ?_ _ | refine blk_drew ?_ | refine blk_alloc ?_ _)); refine blk_put (cs := #[.bool false, .string (⟨#[]⟩ : ByteArray), .bool false, .string (⟨#[]⟩ : ByteArray), .int .i64 0, .int .i64 0]) ?_ 2 _ (by first | rfl | (simp only [*, List.setIfInBounds_toArray, List.set_cons_zero, List.set_cons_succ]; done) | (simp [*]; done)); (with_reducible repeat (first | refine blk_drewN ?_ _ | refine blk_drew ?_ | refine blk_alloc ?_ _)); refine blk_put (cs := #[.bool false, .string (⟨#[]⟩ : ByteArray), .bool false, .string (⟨#[]⟩ : ByteArray), .int .i64 0, .int .i64 0]) ?_ 1 _ (by first | rfl | (simp only [*, List.setIfInBounds_toArray, List.set_cons_zero, List.set_cons_succ]; done) | (simp [*]; done)); (with_reducible repeat (first | refine blk_drewN ?_ _ | refine blk_drew ?_ | refine blk_alloc ?_ _)); refine blk_put (cs := #[.bool false, .string (⟨#[]⟩ : ByteArray), .bool false, .string (⟨#[]⟩ : ByteArray), .int .i64 0, .int .i64 0]) ?_ 0 _ (by first | rfl | (simp only [*, List.setIfInBounds_toArray, List.set_cons_zero, List.set_cons_succ]; done) | (simp [*]; done)); (with_reducible repeat (first | refine blk_drewN ?_ _ | refine blk_drew ?_ | refine blk_alloc ?_ _)); exact BK251.out⟩, ⟨by repeat (first | (with_reducible first | exact HB.out | apply below_alloc | apply pw_below_drewN | apply below_drew1 | refine below_set ?_ GE250.out | refine below_set ?_ GE251.out) | exact HB.out)⟩⟩
    · rw [if_neg c8] at H
      have c8b0 : decide (a1 < 0) = false := decide_eq_false c8
      clear c8
      (first | rw [c8b0] | (simp only [i64_w, i32_w]; rw [c8b0]) | skip)
      by_cases c9 : a1 > 1125899906842624
      · rw [if_pos c9] at H
        have c9b0 : decide (1125899906842624 < a1) = true := decide_eq_true c9
        clear c9
        have H' := Aside0.mk H
        clear H
        go_wp2
        go_meet
        case rel => exact ⟨_, (true), (by first | rfl | (simp; done) | (simp [*]; done) | exact congrArg Value.bool (ne_empty _) | exact congrArg Value.bool (eq_empty _)), H', ⟨by first | omega | exact Nat.le_refl _⟩, ⟨by (with_reducible repeat (first | refine blk_drewN ?_ _ | refine blk_drew ?_ | refine blk_alloc ?_ _)); refine blk_far ?_ NB250_251.out _; (with_reducible repeat (first | refine blk_drewN ?_ _ | refine blk_drew ?_ | refine blk_alloc ?_ _)); refine blk_far ?_ NB250_251.out _; (with_reducible repeat (first | refine blk_drewN ?_ _ | refine blk_drew ?_ | refine blk_alloc ?_ _)); refine blk_far ?_ NB250_251.out _; (with_reducible repeat (first | refine blk_drewN ?_ _ | refine blk_drew ?_ | refine blk_alloc ?_ _)); refine blk_far ?_ NB250_251.out _; (with_reducible repeat (first | refine blk_drewN ?_ _ | refine blk_drew ?_ | refine blk_alloc ?_ _)); refine blk_far ?_ NB250_251.out _; (with_reducible repeat (first | refine blk_drewN ?_ _ | refine blk_drew ?_ | refine blk_alloc ?_ _)); refine blk_far ?_ NB250_251.out _; (with_reducible repeat (first | refine blk_drewN ?_ _ | refine blk_drew ?_ | refine blk_alloc ?_ _)); exact BK250.out⟩, ⟨by (with_reducible repeat (first | refine blk_drewN ?_ _ | refine blk_drew ?_ | refine blk_alloc ?_ _)); refine blk_put (cs := #[.bool false, .string (⟨#[]⟩ : ByteArray), .bool false, .string (⟨#[]⟩ : ByteArray), .int .i64 0, .int .i64 0]) ?_ 5 _ (by first | rfl | (simp only [*, List.setIfInBounds_toArray, List.set_cons_zero, List.set_cons_succ]; done) | (simp [*]; done)); (with_reducible repeat (first | refine blk_drewN ?_ _ | refine blk_drew ?_ | refine blk_alloc ?_ _)); refine blk_put (cs := #[.bool false, .string (⟨#[]⟩ : ByteArray), .bool false, .string (⟨#[]⟩ : ByteArray), .int .i64 0, .int .i64 0]) ?_ 4 _ (by first | rfl | (simp only [*, List.setIfInBounds_toArray, List.set_cons_zero, List.set_cons_succ]; done) | (simp [*]; done)); (with_reducible repeat (first | refine blk_drewN ?_ _ | refine blk_drew ?_ | refine blk_alloc ?_ _)); refine blk_put (cs := #[.bool false, .string (⟨#[]⟩ : ByteArray), .bool false, .string (⟨#[]⟩ : ByteArray), .int .i64 0, .int .i64 0]) ?_ 3 _ (by first | rfl | (simp only [*, List.setIfInBounds_toArray, List.set_cons_zero, List.set_cons_succ]; done) | (simp [*]; done)); (with_reducible repeat (first | refine blk_drewN ?_ _ | refine blk_drew ?_ | refine blk_alloc ?_ _)); refine blk_put (cs := #[.bool false, .string (⟨#[]⟩ : ByteArray), .bool false, .string (⟨#[]⟩ : ByteArray), .int .i64 0, .int .i64 0]) ?_ 2 _ (by first | rfl | (simp only [*, List.setIfInBounds_toArray, List.set_cons_zero, List.set_cons_succ]; done) | (simp [*]; done)); (with_reducible repeat (first | refine blk_drewN ?_ _ | refine blk_drew ?_ | refine blk_alloc ?_ _)); refine blk_put (cs := #[.bool false, .string (⟨#[]⟩ : ByteArray), .bool false, .string (⟨#[]⟩ : ByteArray), .int .i64 0, .int .i64 0]) ?_ 1 _ (by first | rfl | (simp only [*, List.setIfInBounds_toArray, List.set_cons_zero, List.set_cons_succ]; done) | (simp [*]; done)); (with_reducible repeat (first | refine blk_drewN ?_ _ | refine blk_drew ?_ | refine blk_alloc ?_ _)); refine blk_put (cs := #[.bool false, .string (⟨#[]⟩ : ByteArray), .bool false, .string (⟨#[]⟩ : ByteArray), .int .i64 0, .int .i64 0]) ?_ 0 _ (by first | rfl | (simp only [*, List.setIfInBounds_toArray, List.set_cons_zero, List.set_cons_succ]; done) | (simp [*]; done)); (with_reducible repeat (first | refine blk_drewN ?_ _ | refine blk_drew ?_ | refine blk_alloc ?_ _)); exact BK251.out⟩, ⟨by repeat (first | (with_reducible first | exact HB.out | apply below_alloc | apply pw_below_drewN | apply below_drew1 | refine below_set ?_ GE250.out | refine below_set ?_ GE251.out) | exact HB.out)⟩⟩
      · rw [if_neg c9] at H
        have c9b0 : decide (1125899906842624 < a1) = false := decide_eq_false c9
        clear c9
        by_cases c10 : (l0.length : Int) = 0
        · rw [if_pos c10] at H
          have c10b0 : ((l0.length : Int) == 0) = true := beq_iff_eq.mpr c10
          have c10b1 : ((l0.length : Int) != 0) = false := bne_eq_false_iff_eq.mpr c10
          clear c10
          have H' := Aside0.mk H
          clear H
          go_wp2
          go_meet
          case rel => exact ⟨_, (true), (by first | rfl | (simp; done) | (simp [*]; done) | exact congrArg Value.bool (ne_empty _) | exact congrArg Value.bool (eq_empty _)), H', ⟨by first | omega | exact Nat.le_refl _⟩, ⟨by (with_reducible repeat (first | refine blk_drewN ?_ _ | refine blk_drew ?_ | refine blk_alloc ?_ _)); refine blk_far ?_ NB250_251.out _; (with_reducible repeat (first | refine blk_drewN ?_ _ | refine blk_drew ?_ | refine blk_alloc ?_ _)); refine blk_far ?_ NB250_251.out _; (with_reducible repeat (first | refine blk_drewN ?_ _ | refine blk_drew ?_ | refine blk_alloc ?_ _)); refine blk_far ?_ NB250_251.out _; (with_reducible repeat (first | refine blk_drewN ?_ _ | refine blk_drew ?_ | refine blk_alloc ?_ _)); refine blk_far ?_ NB250_251.out _; (with_reducible repeat (first | refine blk_drewN ?_ _ | refine blk_drew ?_ | refine blk_alloc ?_ _)); refine blk_far ?_ NB250_251.out _; (with_reducible repeat (first | refine blk_drewN ?_ _ | refine blk_drew ?_ | refine blk_alloc ?_ _)); refine blk_far ?_ NB250_251.out _; (with_reducible repeat (first | refine blk_drewN ?_ _ | refine blk_drew ?_ | refine blk_alloc ?_ _)); exact BK250.out⟩, ⟨by (with_reducible repeat (first | refine blk_drewN ?_ _ | refine blk_drew ?_ | refine blk_alloc ?_ _)); refine blk_put (cs := #[.bool false, .string (⟨#[]⟩ : ByteArray), .bool false, .string (⟨#[]⟩ : ByteArray), .int .i64 0, .int .i64 0]) ?_ 5 _ (by first | rfl | (simp only [*, List.setIfInBounds_toArray, List.set_cons_zero, List.set_cons_succ]; done) | (simp [*]; done)); (with_reducible repeat (first | refine blk_drewN ?_ _ | refine blk_drew ?_ | refine blk_alloc ?_ _)); refine blk_put (cs := #[.bool false, .string (⟨#[]⟩ : ByteArray), .bool false, .string (⟨#[]⟩ : ByteArray), .int .i64 0, .int .i64 0]) ?_ 4 _ (by first | rfl | (simp only [*, List.setIfInBounds_toArray, List.set_cons_zero, List.set_cons_succ]; done) | (simp [*]; done)); (with_reducible repeat (first | refine blk_drewN ?_ _ | refine blk_drew ?_ | refine blk_alloc ?_ _)); refine blk_put (cs := #[.bool false, .string (⟨#[]⟩ : ByteArray), .bool false, .string (⟨#[]⟩ : ByteArray), .int .i64 0, .int .i64 0]) ?_ 3 _ (by first | rfl | (simp only [*, List.setIfInBounds_toArray, List.set_cons_zero, List.set_cons_succ]; done) | (simp [*]; done)); (with_reducible repeat (first | refine blk_drewN ?_ _ | refine blk_drew ?_ | refine blk_alloc ?_ _)); refine blk_put (cs := #[.bool false, .string (⟨#[]⟩ : ByteArray), .bool false, .string (⟨#[]⟩ : ByteArray), .int .i64 0, .int .i64 0]) ?_ 2 _ (by first | rfl | (simp only [*, List.setIfInBounds_toArray, List.set_cons_zero, List.set_cons_succ]; done) | (simp [*]; done)); (with_reducible repeat (first | refine blk_drewN ?_ _ | refine blk_drew ?_ | refine blk_alloc ?_ _)); refine blk_put (cs := #[.bool false, .string (⟨#[]⟩ : ByteArray), .bool false, .string (⟨#[]⟩ : ByteArray), .int .i64 0, .int .i64 0]) ?_ 1 _ (by first | rfl | (simp only [*, List.setIfInBounds_toArray, List.set_cons_zero, List.set_cons_succ]; done) | (simp [*]; done)); (with_reducible repeat (first | refine blk_drewN ?_ _ | refine blk_drew ?_ | refine blk_alloc ?_ _)); refine blk_put (cs := #[.bool false, .string (⟨#[]⟩ : ByteArray), .bool false, .string (⟨#[]⟩ : ByteArray), .int .i64 0, .int .i64 0]) ?_ 0 _ (by first | rfl | (simp only [*, List.setIfInBounds_toArray, List.set_cons_zero, List.set_cons_succ]; done) | (simp [*]; done)); (with_reducible repeat (first | refine blk_drewN ?_ _ | refine blk_drew ?_ | refine blk_alloc ?_ _)); exact BK251.out⟩, ⟨by repeat (first | (with_reducible first | exact HB.out | apply below_alloc | apply pw_below_drewN | apply below_drew1 | refine below_set ?_ GE250.out | refine below_set ?_ GE251.out) | exact HB.out)⟩⟩
        · rw [if_neg c10] at H
          have c10b0 : ((l0.length : Int) == 0) = false := beq_eq_false_iff_ne.mpr c10
          have c10b1 : ((l0.length : Int) != 0) = true := bne_iff_ne.mpr c10
          have c10b2 : ¬ (l0 = []) := fun h_ => c10 (by rw [h_]; rfl)
          by_cases c11 : 0 < (l0.length : Int)
          · rw [if_pos c11] at H
            have c11b0 : decide (0 < (l0.length : Int)) = true := decide_eq_true c11
            have c11b1 : decide (0 < l0.length) = true := decide_eq_true (by omega)
            clear c11
            have H' := Aside0.mk H
            clear H
            have p252 : 0 ≤ (0 : Int) := (by omega)
            have q252 : 0 < (l0.length : Int) := of_decide_eq_true (by first | (with_reducible assumption) | assumption)
            obtain ⟨ad252, e252, hx252_0⟩ := Kd.at_int HR0.out 0 p252 q252
            cases e252
            have qi252 : (0 < l0.length) = True := eq_true (by omega)
            (try rw [show ((0 : Int)).toNat = 0 from rfl] at hx252_0)
            (try rw [Addr.add_zero'] at hx252_0)
            have hn252_0 : ad252.block ≠ gb251 := Nat.ne_of_lt (Nat.lt_of_lt_of_le (by have := World.block_lt_of_cell? _ _ hx252_0; first | rwa [add_block] at this | exact this) GW251.out)
            have hn252_1 : ad252.block ≠ gb251 := Nat.ne_of_lt (Nat.lt_of_lt_of_le (by have := World.block_lt_of_cell? _ _ hx252_0; first | rwa [add_block] at this | exact this) GW251.out)
            have hn252_2 : ad252.block ≠ gb251 := Nat.ne_of_lt (Nat.lt_of_lt_of_le (by have := World.block_lt_of_cell? _ _ hx252_0; first | rwa [add_block] at this | exact this) GW251.out)
            have hn252_3 : ad252.block ≠ gb251 := Nat.ne_of_lt (Nat.lt_of_lt_of_le (by have := World.block_lt_of_cell? _ _ hx252_0; first | rwa [add_block] at this | exact this) GW251.out)
            have hn252_4 : ad252.block ≠ gb251 := Nat.ne_of_lt (Nat.lt_of_lt_of_le (by have := World.block_lt_of_cell? _ _ hx252_0; first | rwa [add_block] at this | exact this) GW251.out)
            have hn252_5 : ad252.block ≠ gb251 := Nat.ne_of_lt (Nat.lt_of_lt_of_le (by have := World.block_lt_of_cell? _ _ hx252_0; first | rwa [add_block] at this | exact this) GW251.out)
            replace hx252_0 := (HB.out.cell (World.block_lt_of_cell? w _ hx252_0)).trans hx252_0
            replace hx252_0 := (cell_far (p := ⟨gb251, 0, none⟩) (by first | (rw [add_block]; exact hn252_0) | (show (Addr.add _ _).block ≠ _; rw [add_block]; exact hn252_0) | exact hn252_0) (.bool false)).trans hx252_0
            replace hx252_0 := (cell_far (p := ⟨gb251, 1, none⟩) (by first | (rw [add_block]; exact hn252_1) | (show (Addr.add _ _).block ≠ _; rw [add_block]; exact hn252_1) | exact hn252_1) (.string (⟨#[]⟩ : ByteArray))).trans hx252_0
            replace hx252_0 := (cell_far (p := ⟨gb251, 2, none⟩) (by first | (rw [add_block]; exact hn252_2) | (show (Addr.add _ _).block ≠ _; rw [add_block]; exact hn252_2) | exact hn252_2) (.bool false)).trans hx252_0
            replace hx252_0 := (cell_far (p := ⟨gb251, 3, none⟩) (by first | (rw [add_block]; exact hn252_3) | (show (Addr.add _ _).block ≠ _; rw [add_block]; exact hn252_3) | exact hn252_3) (.string (⟨#[]⟩ : ByteArray))).trans hx252_0
            replace hx252_0 := (cell_far (p := ⟨gb251, 4, none⟩) (by first | (rw [add_block]; exact hn252_4) | (show (Addr.add _ _).block ≠ _; rw [add_block]; exact hn252_4) | exact hn252_4) (.int .i64 0)).trans hx252_0
            replace hx252_0 := (cell_far (p := ⟨gb251, 5, none⟩) (by first | (rw [add_block]; exact hn252_5) | (show (Addr.add _ _).block ≠ _; rw [add_block]; exact hn252_5) | exact hn252_5) (.int .i64 0)).trans hx252_0
            clear hn252_0
            clear hn252_1
            clear hn252_2
            clear hn252_3
            clear hn252_4
            clear hn252_5
            replace p252 := eq_true p252
            replace q252 := eq_true q252
            go_wp2
            go_meet
            case rel => exact ⟨_, (decide ((rd l0 0) > 3)), (by first | rfl | (simp; done) | (simp [*]; done) | exact congrArg Value.bool (ne_empty _) | exact congrArg Value.bool (eq_empty _)), H', ⟨by first | omega | exact Nat.le_refl _⟩, ⟨by (with_reducible repeat (first | refine blk_drewN ?_ _ | refine blk_drew ?_ | refine blk_alloc ?_ _)); refine blk_far ?_ NB250_251.out _; (with_reducible repeat (first | refine blk_drewN ?_ _ | refine blk_drew ?_ | refine blk_alloc ?_ _)); refine blk_far ?_ NB250_251.out _; (with_reducible repeat (first | refine blk_drewN ?_ _ | refine blk_drew ?_ | refine blk_alloc ?_ _)); refine blk_far ?_ NB250_251.out _; (with_reducible repeat (first | refine blk_drewN ?_ _ | refine blk_drew ?_ | refine blk_alloc ?_ _)); refine blk_far ?_ NB250_251.out _; (with_reducible repeat (first | refine blk_drewN ?_ _ | refine blk_drew ?_ | refine blk_alloc ?_ _)); refine blk_far ?_ NB250_251.out _; (with_reducible repeat (first | refine blk_drewN ?_ _ | refine blk_drew ?_ | refine blk_alloc ?_ _)); refine blk_far ?_ NB250_251.out _; (with_reducible repeat (first | refine blk_drewN ?_ _ | refine blk_drew ?_ | refine blk_alloc ?_ _)); exact BK250.out⟩, ⟨by (with_reducible repeat (first | refine blk_drewN ?_ _ | refine blk_drew ?_ | refine blk_alloc ?_ _)); refine blk_put (cs := #[.bool false, .string (⟨#[]⟩ : ByteArray), .bool false, .string (⟨#[]⟩ : ByteArray), .int .i64 0, .int .i64 0]) ?_ 5 _ (by first | rfl | (simp only [*, List.setIfInBounds_toArray, List.set_cons_zero, List.set_cons_succ]; done) | (simp [*]; done)); (with_reducible repeat (first | refine blk_drewN ?_ _ | refine blk_drew ?_ | refine blk_alloc ?_ _)); refine blk_put (cs := #[.bool false, .string (⟨#[]⟩ : ByteArray), .bool false, .string (⟨#[]⟩ : ByteArray), .int .i64 0, .int .i64 0]) ?_ 4 _ (by first | rfl | (simp only [*, List.setIfInBounds_toArray, List.set_cons_zero, List.set_cons_succ]; done) | (simp [*]; done)); (with_reducible repeat (first | refine blk_drewN ?_ _ | refine blk_drew ?_ | refine blk_alloc ?_ _)); refine blk_put (cs := #[.bool false, .string (⟨#[]⟩ : ByteArray), .bool false, .string (⟨#[]⟩ : ByteArray), .int .i64 0, .int .i64 0]) ?_ 3 _ (by first | rfl | (simp only [*, List.setIfInBounds_toArray, List.set_cons_zero, List.set_cons_succ]; done) | (simp [*]; done)); (with_reducible repeat (first | refine blk_drewN ?_ _ | refine blk_drew ?_ | refine blk_alloc ?_ _)); refine blk_put (cs := #[.bool false, .string (⟨#[]⟩ : ByteArray), .bool false, .string (⟨#[]⟩ : ByteArray), .int .i64 0, .int .i64 0]) ?_ 2 _ (by first | rfl | (simp only [*, List.setIfInBounds_toArray, List.set_cons_zero, List.set_cons_succ]; done) | (simp [*]; done)); (with_reducible repeat (first | refine blk_drewN ?_ _ | refine blk_drew ?_ | refine blk_alloc ?_ _)); refine blk_put (cs := #[.bool false, .string (⟨#[]⟩ : ByteArray), .bool false, .string (⟨#[]⟩ : ByteArray), .int .i64 0, .int .i64 0]) ?_ 1 _ (by first | rfl | (simp only [*, List.setIfInBounds_toArray, List.set_cons_zero, List.set_cons_succ]; done) | (simp [*]; done)); (with_reducible repeat (first | refine blk_drewN ?_ _ | refine blk_drew ?_ | refine blk_alloc ?_ _)); refine blk_put (cs := #[.bool false, .string (⟨#[]⟩ : ByteArray), .bool false, .string (⟨#[]⟩ : ByteArray), .int .i64 0, .int .i64 0]) ?_ 0 _ (by first | rfl | (simp only [*, List.setIfInBounds_toArray, List.set_cons_zero, List.set_cons_succ]; done) | (simp [*]; done)); (with_reducible repeat (first | refine blk_drewN ?_ _ | refine blk_drew ?_ | refine blk_alloc ?_ _)); exact BK251.out⟩, ⟨by repeat (first | (with_reducible first | exact HB.out | apply below_alloc | apply pw_below_drewN | apply below_drew1 | refine below_set ?_ GE250.out | refine below_set ?_ GE251.out) | exact HB.out)⟩⟩
          · rw [if_neg c11] at H
            exact absurd H (by simp)
  case rest =>
    clear HC3
    try clear c1
    try clear p2
    try clear q2
    try clear hx2
    try clear qi2
    try clear c6
    try clear c8
    try clear c8b0
    try clear c9
    try clear c9b0
    try clear c10
    try clear c10b0
    try clear c10b1
    try clear c10b2
    try clear c11
    try clear c11b0
    try clear c11b1
    try clear hcz7_0
    try clear hcz7_1
    try clear hcz7_2
    try clear hcz7_3
    try clear hcz7_4
    try clear hcz7_5
    try clear hfz7_0
    try clear hfz7_1
    try clear hfz7_2
    try clear hfz7_3
    try clear hfz7_4
    try clear hfz7_5
    try clear hx252_0
    try clear p252
    try clear q252
    obtain ⟨kq, x31_2, rfl, HA, HJ2, BK250, BK251, HB⟩ := hcut
    cases kq with
    | zero => exact absurd HA.out (by simp [bollardref12_Decode.j0])
    | succ kj2 =>
      have H := HA.out
      clear HA
      simp only [bollardref12_Decode.j0] at H
      by_cases c12 : x31_2 = true
      · subst c12
        have H1 : (some (false, (⟨#[]⟩ : ByteArray), false, (⟨#[]⟩ : ByteArray), 0, 0, 0, 10)) = some (r1, r2, r3, r4, r5, r6, r7, r8) := by rw [if_pos rfl] at H; exact H
        clear H
        have H := H1
        clear H1
        simp only [Option.some.injEq, Prod.mk.injEq] at H
        obtain ⟨rfl, rfl, rfl, rfl, rfl, rfl, rfl, rfl⟩ := H
        have hnb13 := NB251_250.out
        have hnc13 := NB250_251.out
        have hcz14_0 : wc.cell? ⟨gb251, 0, none⟩ = some (.bool false) := (blk_cell BK251.out 0).trans rfl
        have hcz14_1 : wc.cell? ⟨gb251, 1, none⟩ = some (.string (⟨#[]⟩ : ByteArray)) := (blk_cell BK251.out 1).trans rfl
        have hcz14_2 : wc.cell? ⟨gb251, 2, none⟩ = some (.bool false) := (blk_cell BK251.out 2).trans rfl
        have hcz14_3 : wc.cell? ⟨gb251, 3, none⟩ = some (.string (⟨#[]⟩ : ByteArray)) := (blk_cell BK251.out 3).trans rfl
        have hcz14_4 : wc.cell? ⟨gb251, 4, none⟩ = some (.int .i64 0) := (blk_cell BK251.out 4).trans rfl
        have hcz14_5 : wc.cell? ⟨gb251, 5, none⟩ = some (.int .i64 0) := (blk_cell BK251.out 5).trans rfl
        have hfz14_0 := blk_frozen BK251.out 0
        have hfz14_1 := blk_frozen BK251.out 1
        have hfz14_2 := blk_frozen BK251.out 2
        have hfz14_3 := blk_frozen BK251.out 3
        have hfz14_4 := blk_frozen BK251.out 4
        have hfz14_5 := blk_frozen BK251.out 5
        have hcz15_0 : wc.cell? ⟨gb250, 0, none⟩ = some (.bool false) := (blk_cell BK250.out 0).trans rfl
        have hcz15_1 : wc.cell? ⟨gb250, 1, none⟩ = some (.string (⟨#[]⟩ : ByteArray)) := (blk_cell BK250.out 1).trans rfl
        have hcz15_2 : wc.cell? ⟨gb250, 2, none⟩ = some (.bool false) := (blk_cell BK250.out 2).trans rfl
        have hcz15_3 : wc.cell? ⟨gb250, 3, none⟩ = some (.string (⟨#[]⟩ : ByteArray)) := (blk_cell BK250.out 3).trans rfl
        have hcz15_4 : wc.cell? ⟨gb250, 4, none⟩ = some (.int .i64 0) := (blk_cell BK250.out 4).trans rfl
        have hcz15_5 : wc.cell? ⟨gb250, 5, none⟩ = some (.int .i64 0) := (blk_cell BK250.out 5).trans rfl
        have hfz15_0 := blk_frozen BK250.out 0
        have hfz15_1 := blk_frozen BK250.out 1
        have hfz15_2 := blk_frozen BK250.out 2
        have hfz15_3 := blk_frozen BK250.out 3
        have hfz15_4 := blk_frozen BK250.out 4
        have hfz15_5 := blk_frozen BK250.out 5
        go_wp2
        refine bodyPost_ret (results_ctt rfl _ _ gb250 23 #[.bool false, .string (⟨#[]⟩ : ByteArray), .bool false, .string (⟨#[]⟩ : ByteArray), .int .i64 0, .int .i64 0] (0, 0) _ rfl (by (with_reducible repeat (first | refine blk_drewN ?_ _ | refine blk_drew ?_ | refine blk_alloc ?_ _)); refine blk_put (cs := #[.bool false, .string (⟨#[]⟩ : ByteArray), .bool false, .string (⟨#[]⟩ : ByteArray), .int .i64 0, .int .i64 0]) ?_ 5 _ (by first | rfl | (simp only [*, List.setIfInBounds_toArray, List.set_cons_zero, List.set_cons_succ]; done) | (simp [*]; done)); (with_reducible repeat (first | refine blk_drewN ?_ _ | refine blk_drew ?_ | refine blk_alloc ?_ _)); refine blk_put (cs := #[.bool false, .string (⟨#[]⟩ : ByteArray), .bool false, .string (⟨#[]⟩ : ByteArray), .int .i64 0, .int .i64 0]) ?_ 4 _ (by first | rfl | (simp only [*, List.setIfInBounds_toArray, List.set_cons_zero, List.set_cons_succ]; done) | (simp [*]; done)); (with_reducible repeat (first | refine blk_drewN ?_ _ | refine blk_drew ?_ | refine blk_alloc ?_ _)); refine blk_put (cs := #[.bool false, .string (⟨#[]⟩ : ByteArray), .bool false, .string (⟨#[]⟩ : ByteArray), .int .i64 0, .int .i64 0]) ?_ 3 _ (by first | rfl | (simp only [*, List.setIfInBounds_toArray, List.set_cons_zero, List.set_cons_succ]; done) | (simp [*]; done)); (with_reducible repeat (first | refine blk_drewN ?_ _ | refine blk_drew ?_ | refine blk_alloc ?_ _)); refine blk_put (cs := #[.bool false, .string (⟨#[]⟩ : ByteArray), .bool false, .string (⟨#[]⟩ : ByteArray), .int .i64 0, .int .i64 0]) ?_ 2 _ (by first | rfl | (simp only [*, List.setIfInBounds_toArray, List.set_cons_zero, List.set_cons_succ]; done) | (simp [*]; done)); (with_reducible repeat (first | refine blk_drewN ?_ _ | refine blk_drew ?_ | refine blk_alloc ?_ _)); refine blk_put (cs := #[.bool false, .string (⟨#[]⟩ : ByteArray), .bool false, .string (⟨#[]⟩ : ByteArray), .int .i64 0, .int .i64 0]) ?_ 1 _ (by first | rfl | (simp only [*, List.setIfInBounds_toArray, List.set_cons_zero, List.set_cons_succ]; done) | (simp [*]; done)); (with_reducible repeat (first | refine blk_drewN ?_ _ | refine blk_drew ?_ | refine blk_alloc ?_ _)); refine blk_put (cs := #[.bool false, .string (⟨#[]⟩ : ByteArray), .bool false, .string (⟨#[]⟩ : ByteArray), .int .i64 0, .int .i64 0]) ?_ 0 _ (by first | rfl | (simp only [*, List.setIfInBounds_toArray, List.set_cons_zero, List.set_cons_succ]; done) | (simp [*]; done)); (with_reducible repeat (first | refine blk_drewN ?_ _ | refine blk_drew ?_ | refine blk_alloc ?_ _)); exact BK250.out) Try.underlying23 rfl (by kernel_rfl)) rfl ?_
        exact ⟨by first | rfl | (simp [errW_none, errW_some] <;> rfl) | (simp [*, errW_none, errW_some] <;> rfl), by repeat (first | (with_reducible first | exact HB.out | apply below_alloc | apply pw_below_drewN | apply below_drew1 | refine below_set ?_ GE250.out | refine below_set ?_ GE251.out) | exact HB.out)⟩
      · replace c12 := Bool.eq_false_iff.mpr c12
        subst c12
        have H1 : (if 1 ≤ (l0.length : Int) then ((bollardref1_Unvarint.f kj2 (l0.drop 1)).bind fun bt254 => (if bt254.2 = 0 then (bollardref12_Decode.j1 kj2 l0 a1 bt254.1 bt254.2 true false (⟨#[]⟩ : ByteArray) false (⟨#[]⟩ : ByteArray) 0 0) else (bollardref12_Decode.j1 kj2 l0 a1 bt254.1 bt254.2 (decide (bt254.1 ≥ 100)) false (⟨#[]⟩ : ByteArray) false (⟨#[]⟩ : ByteArray) 0 0))) else (none)) = some (r1, r2, r3, r4, r5, r6, r7, r8) := by rw [if_neg (show ¬ (false = true) by decide)] at H; exact H
        clear H
        have H := H1
        clear H1
        by_cases c16 : 1 ≤ (l0.length : Int)
        · rw [if_pos c16] at H
          have c16b0 := eq_true c16
          have c16b1 : decide (1 ≤ (l0.length : Int)) = true := decide_eq_true c16
          clear c16
          replace H := Option.bind_eq_some_iff.mp H
          obtain ⟨⟨t254, t255⟩, A170, H⟩ := H
          replace H : (if t255 = 0 then (bollardref12_Decode.j1 kj2 l0 a1 t254 t255 true false (⟨#[]⟩ : ByteArray) false (⟨#[]⟩ : ByteArray) 0 0) else (bollardref12_Decode.j1 kj2 l0 a1 t254 t255 (decide (t254 ≥ 100)) false (⟨#[]⟩ : ByteArray) false (⟨#[]⟩ : ByteArray) 0 0)) = some (r1, r2, r3, r4, r5, r6, r7, r8) := H
          have A17 := Aside0.mk A170
          clear A170
          have HC18 := Aside0.mk H
          clear H
          obtain ⟨i019, hi019, _, hsz19, _⟩ := info_parts info5
          obtain ⟨A19, hcut19, hA19, hC19⟩ := print_drop_of (P := Try.prog) (Value.int .u8) 0 25 5 .i64 Try.underlying25 hi019 hsz19 A0 c0 l0 1 (by omega) (of_decide_eq_true (by first | (with_reducible assumption) | assumption)) HC0.out
          have HR253 := Aside0.mk (Kd.C_of_reads (h1 := fun _ => rfl) (hA19 _ (Kd.reads_of_C HR0.out)))
          have HC253 := Aside0.mk hC19
          clear hA19 hC19 hi019 hsz19
          go_upto_region 5 with (first | ((with_reducible refine gate_callee (f := 29) rfl ?_); refine goesL_ (some 36) rfl rfl Try.func29 (by kernel_rfl) rfl #[.slice A19 (l0.drop 1).length (c0 - 1)] rfl (by (try simp only [List.map_toArray, List.map_cons, List.map_nil]); first | done | (rw [show (l0.drop 1).length = (l0.length - 1) from List.length_drop] <;> rfl) | rfl | (simp only [List.length_drop, List.length_take]; rfl)) ?_; (with_reducible refine (bollardref1_Unvarint.calls kj2 _ _ (l0.drop 1) t254 t255 _ ?side1 ?side2 A17.out).mono ?_); (case side1 => repeat (first | exact (Kd.C_below HR253.out HB.out) | (with_reducible refine Kd.C_alloc ?_ _) | (with_reducible refine Kd.C_drewN ?_ _) | (with_reducible refine Kd.C_drew ?_))); (case side2 => exact HC253.out); rintro e w' ⟨rfl, ⟨nd, rfl⟩⟩; refine ⟨_, rfl, ?_⟩))
          (try simp only [Act.put, List.setIfInBounds_toArray, List.set_cons_zero, List.set_cons_succ])
          go_cut [44] (fun v44 wc => ∃ (kq : Nat) (x44_17 : Bool), v44 = .bool x44_17 ∧ Aside0 (bollardref12_Decode.j1 kq l0 a1 t254 t255 x44_17 false (⟨#[]⟩ : ByteArray) false (⟨#[]⟩ : ByteArray) 0 0 = some (r1, r2, r3, r4, r5, r6, r7, r8)) ∧ Aside0 (kq ≤ kj2) ∧ Aside0 (wc.heap[gb250]? = some (.cells #[.bool false, .string (⟨#[]⟩ : ByteArray), .bool false, .string (⟨#[]⟩ : ByteArray), .int .i64 0, .int .i64 0] 23 (0, 0))) ∧ Aside0 (wc.heap[gb251]? = some (.cells #[.bool false, .string (⟨#[]⟩ : ByteArray), .bool false, .string (⟨#[]⟩ : ByteArray), .int .i64 0, .int .i64 0] 23 (0, 0))) ∧ Aside0 (Below w.heap.size w wc))
          case first =>
            have H := HC18.out
            clear HC18
            by_cases c20 : t255 = 0
            · rw [if_pos c20] at H
              have c20b0 : (t255 == 0) = true := beq_iff_eq.mpr c20
              have c20b1 : (t255 != 0) = false := bne_eq_false_iff_eq.mpr c20
              clear c20
              (first | rw [c20b0] | (simp only [i64_w, i32_w]; rw [c20b0]) | skip)
              have H' := Aside0.mk H
              clear H
              go_wp2
              go_meet
              case rel => exact ⟨_, (true), (by first | rfl | (simp; done) | (simp [*]; done) | exact congrArg Value.bool (ne_empty _) | exact congrArg Value.bool (eq_empty _)), H', ⟨by have := HJ2.out; first | omega | exact Nat.le_refl _⟩, ⟨by (with_reducible repeat (first | refine blk_drewN ?_ _ | refine blk_drew ?_ | refine blk_alloc ?_ _)); exact BK250.out⟩, ⟨by (with_reducible repeat (first | refine blk_drewN ?_ _ | refine blk_drew ?_ | refine blk_alloc ?_ _)); exact BK251.out⟩, ⟨by repeat (first | (with_reducible first | exact HB.out | apply below_alloc | apply pw_below_drewN | apply below_drew1 | refine below_set ?_ GE250.out | refine below_set ?_ GE251.out) | exact HB.out)⟩⟩
            · rw [if_neg c20] at H
              have c20b0 : (t255 == 0) = false := beq_eq_false_iff_ne.mpr c20
              have c20b1 : (t255 != 0) = true := bne_iff_ne.mpr c20
              (first | rw [c20b0] | (simp only [i64_w, i32_w]; rw [c20b0]) | skip)
              have H' := Aside0.mk H
              clear H
              go_wp2
              go_meet
              case rel => exact ⟨_, (decide (t254 ≥ 100)), (by first | rfl | (simp; done) | (simp [*]; done) | exact congrArg Value.bool (ne_empty _) | exact congrArg Value.bool (eq_empty _)), H', ⟨by have := HJ2.out; first | omega | exact Nat.le_refl _⟩, ⟨by (with_reducible repeat (first | refine blk_drewN ?_ _ | refine blk_drew ?_ | refine blk_alloc ?_ _)); exact BK250.out⟩, ⟨by (with_reducible repeat (first | refine blk_drewN ?_ _ | refine blk_drew ?_ | refine blk_alloc ?_ _)); exact BK251.out⟩, ⟨by repeat (first | (with_reducible first | exact HB.out | apply below_alloc | apply pw_below_drewN | apply below_drew1 | refine below_set ?_ GE250.out | refine below_set ?_ GE251.out) | exact HB.out)⟩⟩
          case rest =>
            clear HC18
            try clear c1
            try clear c2
            try clear p2
            try clear q2
            try clear hx2
            try clear qi2
            try clear c6
            try clear c8
            try clear c8b0
            try clear c9
            try clear c9b0
            try clear c10
            try clear c10b0
            try clear c10b1
            try clear c10b2
            try clear c11
            try clear c11b0
            try clear c11b1
            try clear c12
            try clear c13
            try clear c16
            try clear c16b0
            try clear c16b1
            try clear c17
            try clear c20
            try clear c20b0
            try clear c20b1
            try clear hcz14_0
            try clear hcz14_1
            try clear hcz14_2
            try clear hcz14_3
            try clear hcz14_4
            try clear hcz14_5
            try clear hcz15_0
            try clear hcz15_1
            try clear hcz15_2
            try clear hcz15_3
            try clear hcz15_4
            try clear hcz15_5
            try clear hcz7_0
            try clear hcz7_1
            try clear hcz7_2
            try clear hcz7_3
            try clear hcz7_4
            try clear hcz7_5
            try clear hfz14_0
            try clear hfz14_1
            try clear hfz14_2
            try clear hfz14_3
            try clear hfz14_4
            try clear hfz14_5
            try clear hfz15_0
            try clear hfz15_1
            try clear hfz15_2
            try clear hfz15_3
            try clear hfz15_4
            try clear hfz15_5
            try clear hfz7_0
            try clear hfz7_1
            try clear hfz7_2
            try clear hfz7_3
            try clear hfz7_4
            try clear hfz7_5
            try clear hx252_0
            try clear p2
            try clear p252
            try clear q2
            try clear q252
            obtain ⟨kq, x44_17, rfl, HA, HJ17, BK250, BK251, HB⟩ := hcut
            cases kq with
            | zero => exact absurd HA.out (by simp [bollardref12_Decode.j1])
            | succ kj17 =>
              have H := HA.out
              clear HA
              simp only [bollardref12_Decode.j1] at H
              by_cases c21 : x44_17 = true
              · subst c21
                have H1 : (some (false, (⟨#[]⟩ : ByteArray), false, (⟨#[]⟩ : ByteArray), 0, 0, 0, 10)) = some (r1, r2, r3, r4, r5, r6, r7, r8) := by rw [if_pos rfl] at H; exact H
                clear H
                have H := H1
                clear H1
                simp only [Option.some.injEq, Prod.mk.injEq] at H
                obtain ⟨rfl, rfl, rfl, rfl, rfl, rfl, rfl, rfl⟩ := H
                have hnb22 := NB251_250.out
                have hnc22 := NB250_251.out
                have hcz23_0 : wc.cell? ⟨gb251, 0, none⟩ = some (.bool false) := (blk_cell BK251.out 0).trans rfl
                have hcz23_1 : wc.cell? ⟨gb251, 1, none⟩ = some (.string (⟨#[]⟩ : ByteArray)) := (blk_cell BK251.out 1).trans rfl
                have hcz23_2 : wc.cell? ⟨gb251, 2, none⟩ = some (.bool false) := (blk_cell BK251.out 2).trans rfl
                have hcz23_3 : wc.cell? ⟨gb251, 3, none⟩ = some (.string (⟨#[]⟩ : ByteArray)) := (blk_cell BK251.out 3).trans rfl
                have hcz23_4 : wc.cell? ⟨gb251, 4, none⟩ = some (.int .i64 0) := (blk_cell BK251.out 4).trans rfl
                have hcz23_5 : wc.cell? ⟨gb251, 5, none⟩ = some (.int .i64 0) := (blk_cell BK251.out 5).trans rfl
                have hfz23_0 := blk_frozen BK251.out 0
                have hfz23_1 := blk_frozen BK251.out 1
                have hfz23_2 := blk_frozen BK251.out 2
                have hfz23_3 := blk_frozen BK251.out 3
                have hfz23_4 := blk_frozen BK251.out 4
                have hfz23_5 := blk_frozen BK251.out 5
                have hcz24_0 : wc.cell? ⟨gb250, 0, none⟩ = some (.bool false) := (blk_cell BK250.out 0).trans rfl
                have hcz24_1 : wc.cell? ⟨gb250, 1, none⟩ = some (.string (⟨#[]⟩ : ByteArray)) := (blk_cell BK250.out 1).trans rfl
                have hcz24_2 : wc.cell? ⟨gb250, 2, none⟩ = some (.bool false) := (blk_cell BK250.out 2).trans rfl
                have hcz24_3 : wc.cell? ⟨gb250, 3, none⟩ = some (.string (⟨#[]⟩ : ByteArray)) := (blk_cell BK250.out 3).trans rfl
                have hcz24_4 : wc.cell? ⟨gb250, 4, none⟩ = some (.int .i64 0) := (blk_cell BK250.out 4).trans rfl
                have hcz24_5 : wc.cell? ⟨gb250, 5, none⟩ = some (.int .i64 0) := (blk_cell BK250.out 5).trans rfl
                have hfz24_0 := blk_frozen BK250.out 0
                have hfz24_1 := blk_frozen BK250.out 1
                have hfz24_2 := blk_frozen BK250.out 2
                have hfz24_3 := blk_frozen BK250.out 3
                have hfz24_4 := blk_frozen BK250.out 4
                have hfz24_5 := blk_frozen BK250.out 5
                go_wp2
                refine bodyPost_ret (results_ctt rfl _ _ gb250 23 #[.bool false, .string (⟨#[]⟩ : ByteArray), .bool false, .string (⟨#[]⟩ : ByteArray), .int .i64 0, .int .i64 0] (0, 0) _ rfl (by (with_reducible repeat (first | refine blk_drewN ?_ _ | refine blk_drew ?_ | refine blk_alloc ?_ _)); refine blk_put (cs := #[.bool false, .string (⟨#[]⟩ : ByteArray), .bool false, .string (⟨#[]⟩ : ByteArray), .int .i64 0, .int .i64 0]) ?_ 5 _ (by first | rfl | (simp only [*, List.setIfInBounds_toArray, List.set_cons_zero, List.set_cons_succ]; done) | (simp [*]; done)); (with_reducible repeat (first | refine blk_drewN ?_ _ | refine blk_drew ?_ | refine blk_alloc ?_ _)); refine blk_put (cs := #[.bool false, .string (⟨#[]⟩ : ByteArray), .bool false, .string (⟨#[]⟩ : ByteArray), .int .i64 0, .int .i64 0]) ?_ 4 _ (by first | rfl | (simp only [*, List.setIfInBounds_toArray, List.set_cons_zero, List.set_cons_succ]; done) | (simp [*]; done)); (with_reducible repeat (first | refine blk_drewN ?_ _ | refine blk_drew ?_ | refine blk_alloc ?_ _)); refine blk_put (cs := #[.bool false, .string (⟨#[]⟩ : ByteArray), .bool false, .string (⟨#[]⟩ : ByteArray), .int .i64 0, .int .i64 0]) ?_ 3 _ (by first | rfl | (simp only [*, List.setIfInBounds_toArray, List.set_cons_zero, List.set_cons_succ]; done) | (simp [*]; done)); (with_reducible repeat (first | refine blk_drewN ?_ _ | refine blk_drew ?_ | refine blk_alloc ?_ _)); refine blk_put (cs := #[.bool false, .string (⟨#[]⟩ : ByteArray), .bool false, .string (⟨#[]⟩ : ByteArray), .int .i64 0, .int .i64 0]) ?_ 2 _ (by first | rfl | (simp only [*, List.setIfInBounds_toArray, List.set_cons_zero, List.set_cons_succ]; done) | (simp [*]; done)); (with_reducible repeat (first | refine blk_drewN ?_ _ | refine blk_drew ?_ | refine blk_alloc ?_ _)); refine blk_put (cs := #[.bool false, .string (⟨#[]⟩ : ByteArray), .bool false, .string (⟨#[]⟩ : ByteArray), .int .i64 0, .int .i64 0]) ?_ 1 _ (by first | rfl | (simp only [*, List.setIfInBounds_toArray, List.set_cons_zero, List.set_cons_succ]; done) | (simp [*]; done)); (with_reducible repeat (first | refine blk_drewN ?_ _ | refine blk_drew ?_ | refine blk_alloc ?_ _)); refine blk_put (cs := #[.bool false, .string (⟨#[]⟩ : ByteArray), .bool false, .string (⟨#[]⟩ : ByteArray), .int .i64 0, .int .i64 0]) ?_ 0 _ (by first | rfl | (simp only [*, List.setIfInBounds_toArray, List.set_cons_zero, List.set_cons_succ]; done) | (simp [*]; done)); (with_reducible repeat (first | refine blk_drewN ?_ _ | refine blk_drew ?_ | refine blk_alloc ?_ _)); exact BK250.out) Try.underlying23 rfl (by kernel_rfl)) rfl ?_
                exact ⟨by first | rfl | (simp [errW_none, errW_some] <;> rfl) | (simp [*, errW_none, errW_some] <;> rfl), by repeat (first | (with_reducible first | exact HB.out | apply below_alloc | apply pw_below_drewN | apply below_drew1 | refine below_set ?_ GE250.out | refine below_set ?_ GE251.out) | exact HB.out)⟩
              · replace c21 := Bool.eq_false_iff.mpr c21
                subst c21
                have H1 : (if 0 ≤ (wrap64 (1 + t255)) then (if (wrap64 (1 + t255)) ≤ (l0.length : Int) then ((bollardref1_Unvarint.f kj17 (l0.drop ((wrap64 (1 + t255)) : Int).toNat)).bind fun bt257 => ((bollardref1_Zag.f bt257.1).bind fun t259 => (if bt257.2 = 0 then (bollardref12_Decode.j2 kj17 l0 a1 t254 bt257.2 (wrap64 (1 + t255)) t259 true false (⟨#[]⟩ : ByteArray) false (⟨#[]⟩ : ByteArray) 0 0) else (if t259 < (wrap64 (-a1)) then (bollardref12_Decode.j2 kj17 l0 a1 t254 bt257.2 (wrap64 (1 + t255)) t259 true false (⟨#[]⟩ : ByteArray) false (⟨#[]⟩ : ByteArray) 0 0) else (bollardref12_Decode.j2 kj17 l0 a1 t254 bt257.2 (wrap64 (1 + t255)) t259 (decide (t259 > (wrap64 (1125899906842624 - a1)))) false (⟨#[]⟩ : ByteArray) false (⟨#[]⟩ : ByteArray) 0 0))))) else (none)) else (none)) = some (r1, r2, r3, r4, r5, r6, r7, r8) := by rw [if_neg (show ¬ (false = true) by decide)] at H; exact H
                clear H
                have H := H1
                clear H1
                obtain ⟨ji25, hji25⟩ : ∃ j_ : Int, (wrap64 (1 + t255)) = j_ := ⟨_, rfl⟩
                replace H : (if 0 ≤ (ji25) then (if (ji25) ≤ (l0.length : Int) then ((bollardref1_Unvarint.f kj17 (l0.drop ((ji25) : Int).toNat)).bind fun bt257 => ((bollardref1_Zag.f bt257.1).bind fun t259 => (if bt257.2 = 0 then (bollardref12_Decode.j2 kj17 l0 a1 t254 bt257.2 ji25 t259 true false (⟨#[]⟩ : ByteArray) false (⟨#[]⟩ : ByteArray) 0 0) else (if t259 < (wrap64 (-a1)) then (bollardref12_Decode.j2 kj17 l0 a1 t254 bt257.2 ji25 t259 true false (⟨#[]⟩ : ByteArray) false (⟨#[]⟩ : ByteArray) 0 0) else (bollardref12_Decode.j2 kj17 l0 a1 t254 bt257.2 ji25 t259 (decide (t259 > (wrap64 (1125899906842624 - a1)))) false (⟨#[]⟩ : ByteArray) false (⟨#[]⟩ : ByteArray) 0 0))))) else (none)) else (none)) = some (r1, r2, r3, r4, r5, r6, r7, r8) := by first | (rw [hji25] at H; exact H) | (simp only [hji25] at H ⊢; exact H)
                have hji25w : (IntKind.i64.wrap (1 + t255)) = ji25 := (i64_w _).trans hji25
                by_cases c26 : 0 ≤ (ji25)
                · rw [if_pos c26] at H
                  have c26b0 := eq_true c26
                  have c26b1 : decide (0 ≤ (ji25)) = true := decide_eq_true c26
                  clear c26
                  by_cases c27 : (ji25) ≤ (l0.length : Int)
                  · rw [if_pos c27] at H
                    have c27b0 := eq_true c27
                    have c27b1 : decide ((ji25) ≤ (l0.length : Int)) = true := decide_eq_true c27
                    clear c27
                    replace H := Option.bind_eq_some_iff.mp H
                    obtain ⟨⟨t257, t258⟩, A280, H⟩ := H
                    replace H : ((bollardref1_Zag.f t257).bind fun t259 => (if t258 = 0 then (bollardref12_Decode.j2 kj17 l0 a1 t254 t258 ji25 t259 true false (⟨#[]⟩ : ByteArray) false (⟨#[]⟩ : ByteArray) 0 0) else (if t259 < (wrap64 (-a1)) then (bollardref12_Decode.j2 kj17 l0 a1 t254 t258 ji25 t259 true false (⟨#[]⟩ : ByteArray) false (⟨#[]⟩ : ByteArray) 0 0) else (bollardref12_Decode.j2 kj17 l0 a1 t254 t258 ji25 t259 (decide (t259 > (wrap64 (1125899906842624 - a1)))) false (⟨#[]⟩ : ByteArray) false (⟨#[]⟩ : ByteArray) 0 0)))) = some (r1, r2, r3, r4, r5, r6, r7, r8) := H
                    have A28 := Aside0.mk A280
                    clear A280
                    replace H := Option.bind_eq_some_iff.mp H
                    obtain ⟨t259, A290, H⟩ := H
                    replace H : (if t258 = 0 then (bollardref12_Decode.j2 kj17 l0 a1 t254 t258 ji25 t259 true false (⟨#[]⟩ : ByteArray) false (⟨#[]⟩ : ByteArray) 0 0) else (if t259 < (wrap64 (-a1)) then (bollardref12_Decode.j2 kj17 l0 a1 t254 t258 ji25 t259 true false (⟨#[]⟩ : ByteArray) false (⟨#[]⟩ : ByteArray) 0 0) else (bollardref12_Decode.j2 kj17 l0 a1 t254 t258 ji25 t259 (decide (t259 > (wrap64 (1125899906842624 - a1)))) false (⟨#[]⟩ : ByteArray) false (⟨#[]⟩ : ByteArray) 0 0))) = some (r1, r2, r3, r4, r5, r6, r7, r8) := H
                    have A29 := Aside0.mk A290
                    clear A290
                    have HC30 := Aside0.mk H
                    clear H
                    obtain ⟨i031, hi031, _, hsz31, _⟩ := info_parts info5
                    obtain ⟨A31, hcut31, hA31, hC31⟩ := print_drop_of (P := Try.prog) (Value.int .u8) 0 25 5 .i64 Try.underlying25 hi031 hsz31 A0 c0 l0 (ji25) (of_decide_eq_true (by first | (with_reducible assumption) | assumption)) (of_decide_eq_true (by first | (with_reducible assumption) | assumption)) HC0.out
                    have HR256 := Aside0.mk (Kd.C_of_reads (h1 := fun _ => rfl) (hA31 _ (Kd.reads_of_C HR0.out)))
                    have HC256 := Aside0.mk hC31
                    clear hA31 hC31 hi031 hsz31
                    go_upto_region 10 with (first | ((with_reducible refine gate_callee (f := 29) rfl ?_); refine goesL_ (some 52) rfl rfl Try.func29 (by kernel_rfl) rfl #[.slice A31 (l0.drop ((ji25) : Int).toNat).length (c0 - (ji25).toNat)] rfl (by (try simp only [List.map_toArray, List.map_cons, List.map_nil]); first | done | (rw [show (l0.drop ((ji25) : Int).toNat).length = (l0.length - (ji25).toNat) from List.length_drop] <;> rfl) | (simp only [hji25]; rfl) | rfl | (simp only [List.length_drop, List.length_take]; rfl)) ?_; (with_reducible refine (bollardref1_Unvarint.calls kj17 _ _ (l0.drop ((ji25) : Int).toNat) t257 t258 _ ?side1 ?side2 A28.out).mono ?_); (case side1 => repeat (first | exact (Kd.C_below HR256.out HB.out) | (with_reducible refine Kd.C_alloc ?_ _) | (with_reducible refine Kd.C_drewN ?_ _) | (with_reducible refine Kd.C_drew ?_))); (case side2 => exact HC256.out); rintro e w' ⟨rfl, ⟨nd, rfl⟩⟩; refine ⟨_, rfl, ?_⟩) | ((with_reducible refine gate_callee (f := 30) rfl ?_); refine goesL_ (some 56) rfl rfl Try.func30 (by kernel_rfl) rfl #[.int .u64 t257] rfl (by (try simp only [List.map_toArray, List.map_cons, List.map_nil]); first | done | rfl | (simp only [List.length_drop, List.length_take]; rfl)) ?_; (with_reducible refine (bollardref1_Zag.calls t257 t259 _ A29.out).mono ?_); rintro e w' ⟨rfl, ⟨nd, rfl⟩⟩; refine ⟨_, rfl, ?_⟩))
                    (try simp only [Act.put, List.setIfInBounds_toArray, List.set_cons_zero, List.set_cons_succ])
                    go_cut [70] (fun v70 wc => ∃ (kq : Nat) (x70_29 : Bool), v70 = .bool x70_29 ∧ Aside0 (bollardref12_Decode.j2 kq l0 a1 t254 t258 ji25 t259 x70_29 false (⟨#[]⟩ : ByteArray) false (⟨#[]⟩ : ByteArray) 0 0 = some (r1, r2, r3, r4, r5, r6, r7, r8)) ∧ Aside0 (kq ≤ kj17) ∧ Aside0 (wc.heap[gb250]? = some (.cells #[.bool false, .string (⟨#[]⟩ : ByteArray), .bool false, .string (⟨#[]⟩ : ByteArray), .int .i64 0, .int .i64 0] 23 (0, 0))) ∧ Aside0 (wc.heap[gb251]? = some (.cells #[.bool false, .string (⟨#[]⟩ : ByteArray), .bool false, .string (⟨#[]⟩ : ByteArray), .int .i64 0, .int .i64 0] 23 (0, 0))) ∧ Aside0 (Below w.heap.size w wc))
                    case first =>
                      have H := HC30.out
                      clear HC30
                      by_cases c32 : t258 = 0
                      · rw [if_pos c32] at H
                        have c32b0 : (t258 == 0) = true := beq_iff_eq.mpr c32
                        have c32b1 : (t258 != 0) = false := bne_eq_false_iff_eq.mpr c32
                        clear c32
                        (first | rw [c32b0] | (simp only [i64_w, i32_w]; rw [c32b0]) | skip)
                        have H' := Aside0.mk H
                        clear H
                        go_wp2
                        go_meet
                        case rel => exact ⟨_, (true), (by first | rfl | (simp; done) | (simp [*]; done) | exact congrArg Value.bool (ne_empty _) | exact congrArg Value.bool (eq_empty _)), H', ⟨by have := HJ2.out; have := HJ17.out; first | omega | exact Nat.le_refl _⟩, ⟨by (with_reducible repeat (first | refine blk_drewN ?_ _ | refine blk_drew ?_ | refine blk_alloc ?_ _)); exact BK250.out⟩, ⟨by (with_reducible repeat (first | refine blk_drewN ?_ _ | refine blk_drew ?_ | refine blk_alloc ?_ _)); exact BK251.out⟩, ⟨by repeat (first | (with_reducible first | exact HB.out | apply below_alloc | apply pw_below_drewN | apply below_drew1 | refine below_set ?_ GE250.out | refine below_set ?_ GE251.out) | exact HB.out)⟩⟩
                      · rw [if_neg c32] at H
                        have c32b0 : (t258 == 0) = false := beq_eq_false_iff_ne.mpr c32
                        have c32b1 : (t258 != 0) = true := bne_iff_ne.mpr c32
                        (first | rw [c32b0] | (simp only [i64_w, i32_w]; rw [c32b0]) | skip)
                        by_cases c33 : t259 < (wrap64 (-a1))
                        · rw [if_pos c33] at H
                          have c33b0 : decide (t259 < (wrap64 (-a1))) = true := decide_eq_true c33
                          clear c33
                          have H' := Aside0.mk H
                          clear H
                          go_wp2
                          go_meet
                          case rel => exact ⟨_, (true), (by first | rfl | (simp; done) | (simp [*]; done) | exact congrArg Value.bool (ne_empty _) | exact congrArg Value.bool (eq_empty _)), H', ⟨by have := HJ2.out; have := HJ17.out; first | omega | exact Nat.le_refl _⟩, ⟨by (with_reducible repeat (first | refine blk_drewN ?_ _ | refine blk_drew ?_ | refine blk_alloc ?_ _)); exact BK250.out⟩, ⟨by (with_reducible repeat (first | refine blk_drewN ?_ _ | refine blk_drew ?_ | refine blk_alloc ?_ _)); exact BK251.out⟩, ⟨by repeat (first | (with_reducible first | exact HB.out | apply below_alloc | apply pw_below_drewN | apply below_drew1 | refine below_set ?_ GE250.out | refine below_set ?_ GE251.out) | exact HB.out)⟩⟩
                        · rw [if_neg c33] at H
                          have c33b0 : decide (t259 < (wrap64 (-a1))) = false := decide_eq_false c33
                          clear c33
                          have H' := Aside0.mk H
                          clear H
                          go_wp2
                          go_meet
                          case rel => exact ⟨_, (decide (t259 > (wrap64 (1125899906842624 - a1)))), (by first | rfl | (simp; done) | (simp [*]; done) | exact congrArg Value.bool (ne_empty _) | exact congrArg Value.bool (eq_empty _)), H', ⟨by have := HJ2.out; have := HJ17.out; first | omega | exact Nat.le_refl _⟩, ⟨by (with_reducible repeat (first | refine blk_drewN ?_ _ | refine blk_drew ?_ | refine blk_alloc ?_ _)); exact BK250.out⟩, ⟨by (with_reducible repeat (first | refine blk_drewN ?_ _ | refine blk_drew ?_ | refine blk_alloc ?_ _)); exact BK251.out⟩, ⟨by repeat (first | (with_reducible first | exact HB.out | apply below_alloc | apply pw_below_drewN | apply below_drew1 | refine below_set ?_ GE250.out | refine below_set ?_ GE251.out) | exact HB.out)⟩⟩
                    case rest =>
                      clear HC30
                      try clear c1
                      try clear c2
                      try clear p2
                      try clear q2
                      try clear hx2
                      try clear qi2
                      try clear c3
                      try clear c6
                      try clear p6
                      try clear c8
                      try clear c8b0
                      try clear c9
                      try clear c9b0
                      try clear c10
                      try clear c10b0
                      try clear c10b1
                      try clear c10b2
                      try clear c11
                      try clear c11b0
                      try clear c11b1
                      try clear c12
                      try clear c13
                      try clear c16
                      try clear c16b0
                      try clear c16b1
                      try clear c17
                      try clear c20
                      try clear c20b0
                      try clear c20b1
                      try clear c21
                      try clear c22
                      try clear p25
                      try clear q25
                      try clear hx25
                      try clear qi25
                      try clear c26
                      try clear c26b0
                      try clear c26b1
                      try clear c27
                      try clear c27b0
                      try clear c27b1
                      try clear c29
                      try clear c30
                      try clear c32
                      try clear c32b0
                      try clear c32b1
                      try clear c33
                      try clear c33b0
                      try clear hcz14_0
                      try clear hcz14_1
                      try clear hcz14_2
                      try clear hcz14_3
                      try clear hcz14_4
                      try clear hcz14_5
                      try clear hcz15_0
                      try clear hcz15_1
                      try clear hcz15_2
                      try clear hcz15_3
                      try clear hcz15_4
                      try clear hcz15_5
                      try clear hcz23_0
                      try clear hcz23_1
                      try clear hcz23_2
                      try clear hcz23_3
                      try clear hcz23_4
                      try clear hcz23_5
                      try clear hcz24_0
                      try clear hcz24_1
                      try clear hcz24_2
                      try clear hcz24_3
                      try clear hcz24_4
                      try clear hcz24_5
                      try clear hcz7_0
                      try clear hcz7_1
                      try clear hcz7_2
                      try clear hcz7_3
                      try clear hcz7_4
                      try clear hcz7_5
                      try clear hfz14_0
                      try clear hfz14_1
                      try clear hfz14_2
                      try clear hfz14_3
                      try clear hfz14_4
                      try clear hfz14_5
                      try clear hfz15_0
                      try clear hfz15_1
                      try clear hfz15_2
                      try clear hfz15_3
                      try clear hfz15_4
                      try clear hfz15_5
                      try clear hfz23_0
                      try clear hfz23_1
                      try clear hfz23_2
                      try clear hfz23_3
                      try clear hfz23_4
                      try clear hfz23_5
                      try clear hfz24_0
                      try clear hfz24_1
                      try clear hfz24_2
                      try clear hfz24_3
                      try clear hfz24_4
                      try clear hfz24_5
                      try clear hfz7_0
                      try clear hfz7_1
                      try clear hfz7_2
                      try clear hfz7_3
                      try clear hfz7_4
                      try clear hfz7_5
                      try clear hx252_0
                      try clear p2
                      try clear p252
                      try clear q2
                      try clear q252
                      obtain ⟨kq, x70_29, rfl, HA, HJ29, BK250, BK251, HB⟩ := hcut
                      cases kq with
                      | zero => exact absurd HA.out (by simp [bollardref12_Decode.j2])
                      | succ kj29 =>
                        have H := HA.out
                        clear HA
                        simp only [bollardref12_Decode.j2] at H
                        by_cases c34 : x70_29 = true
                        · subst c34
                          have H1 : (some (false, (⟨#[]⟩ : ByteArray), false, (⟨#[]⟩ : ByteArray), 0, 0, 0, 10)) = some (r1, r2, r3, r4, r5, r6, r7, r8) := by rw [if_pos rfl] at H; exact H
                          clear H
                          have H := H1
                          clear H1
                          simp only [Option.some.injEq, Prod.mk.injEq] at H
                          obtain ⟨rfl, rfl, rfl, rfl, rfl, rfl, rfl, rfl⟩ := H
                          have hnb35 := NB251_250.out
                          have hnc35 := NB250_251.out
                          have hcz36_0 : wc.cell? ⟨gb251, 0, none⟩ = some (.bool false) := (blk_cell BK251.out 0).trans rfl
                          have hcz36_1 : wc.cell? ⟨gb251, 1, none⟩ = some (.string (⟨#[]⟩ : ByteArray)) := (blk_cell BK251.out 1).trans rfl
                          have hcz36_2 : wc.cell? ⟨gb251, 2, none⟩ = some (.bool false) := (blk_cell BK251.out 2).trans rfl
                          have hcz36_3 : wc.cell? ⟨gb251, 3, none⟩ = some (.string (⟨#[]⟩ : ByteArray)) := (blk_cell BK251.out 3).trans rfl
                          have hcz36_4 : wc.cell? ⟨gb251, 4, none⟩ = some (.int .i64 0) := (blk_cell BK251.out 4).trans rfl
                          have hcz36_5 : wc.cell? ⟨gb251, 5, none⟩ = some (.int .i64 0) := (blk_cell BK251.out 5).trans rfl
                          have hfz36_0 := blk_frozen BK251.out 0
                          have hfz36_1 := blk_frozen BK251.out 1
                          have hfz36_2 := blk_frozen BK251.out 2
                          have hfz36_3 := blk_frozen BK251.out 3
                          have hfz36_4 := blk_frozen BK251.out 4
                          have hfz36_5 := blk_frozen BK251.out 5
                          have hcz37_0 : wc.cell? ⟨gb250, 0, none⟩ = some (.bool false) := (blk_cell BK250.out 0).trans rfl
                          have hcz37_1 : wc.cell? ⟨gb250, 1, none⟩ = some (.string (⟨#[]⟩ : ByteArray)) := (blk_cell BK250.out 1).trans rfl
                          have hcz37_2 : wc.cell? ⟨gb250, 2, none⟩ = some (.bool false) := (blk_cell BK250.out 2).trans rfl
                          have hcz37_3 : wc.cell? ⟨gb250, 3, none⟩ = some (.string (⟨#[]⟩ : ByteArray)) := (blk_cell BK250.out 3).trans rfl
                          have hcz37_4 : wc.cell? ⟨gb250, 4, none⟩ = some (.int .i64 0) := (blk_cell BK250.out 4).trans rfl
                          have hcz37_5 : wc.cell? ⟨gb250, 5, none⟩ = some (.int .i64 0) := (blk_cell BK250.out 5).trans rfl
                          have hfz37_0 := blk_frozen BK250.out 0
                          have hfz37_1 := blk_frozen BK250.out 1
                          have hfz37_2 := blk_frozen BK250.out 2
                          have hfz37_3 := blk_frozen BK250.out 3
                          have hfz37_4 := blk_frozen BK250.out 4
                          have hfz37_5 := blk_frozen BK250.out 5
                          go_wp2
                          refine bodyPost_ret (results_ctt rfl _ _ gb250 23 #[.bool false, .string (⟨#[]⟩ : ByteArray), .bool false, .string (⟨#[]⟩ : ByteArray), .int .i64 0, .int .i64 0] (0, 0) _ rfl (by (with_reducible repeat (first | refine blk_drewN ?_ _ | refine blk_drew ?_ | refine blk_alloc ?_ _)); refine blk_put (cs := #[.bool false, .string (⟨#[]⟩ : ByteArray), .bool false, .string (⟨#[]⟩ : ByteArray), .int .i64 0, .int .i64 0]) ?_ 5 _ (by first | rfl | (simp only [*, List.setIfInBounds_toArray, List.set_cons_zero, List.set_cons_succ]; done) | (simp [*]; done)); (with_reducible repeat (first | refine blk_drewN ?_ _ | refine blk_drew ?_ | refine blk_alloc ?_ _)); refine blk_put (cs := #[.bool false, .string (⟨#[]⟩ : ByteArray), .bool false, .string (⟨#[]⟩ : ByteArray), .int .i64 0, .int .i64 0]) ?_ 4 _ (by first | rfl | (simp only [*, List.setIfInBounds_toArray, List.set_cons_zero, List.set_cons_succ]; done) | (simp [*]; done)); (with_reducible repeat (first | refine blk_drewN ?_ _ | refine blk_drew ?_ | refine blk_alloc ?_ _)); refine blk_put (cs := #[.bool false, .string (⟨#[]⟩ : ByteArray), .bool false, .string (⟨#[]⟩ : ByteArray), .int .i64 0, .int .i64 0]) ?_ 3 _ (by first | rfl | (simp only [*, List.setIfInBounds_toArray, List.set_cons_zero, List.set_cons_succ]; done) | (simp [*]; done)); (with_reducible repeat (first | refine blk_drewN ?_ _ | refine blk_drew ?_ | refine blk_alloc ?_ _)); refine blk_put (cs := #[.bool false, .string (⟨#[]⟩ : ByteArray), .bool false, .string (⟨#[]⟩ : ByteArray), .int .i64 0, .int .i64 0]) ?_ 2 _ (by first | rfl | (simp only [*, List.setIfInBounds_toArray, List.set_cons_zero, List.set_cons_succ]; done) | (simp [*]; done)); (with_reducible repeat (first | refine blk_drewN ?_ _ | refine blk_drew ?_ | refine blk_alloc ?_ _)); refine blk_put (cs := #[.bool false, .string (⟨#[]⟩ : ByteArray), .bool false, .string (⟨#[]⟩ : ByteArray), .int .i64 0, .int .i64 0]) ?_ 1 _ (by first | rfl | (simp only [*, List.setIfInBounds_toArray, List.set_cons_zero, List.set_cons_succ]; done) | (simp [*]; done)); (with_reducible repeat (first | refine blk_drewN ?_ _ | refine blk_drew ?_ | refine blk_alloc ?_ _)); refine blk_put (cs := #[.bool false, .string (⟨#[]⟩ : ByteArray), .bool false, .string (⟨#[]⟩ : ByteArray), .int .i64 0, .int .i64 0]) ?_ 0 _ (by first | rfl | (simp only [*, List.setIfInBounds_toArray, List.set_cons_zero, List.set_cons_succ]; done) | (simp [*]; done)); (with_reducible repeat (first | refine blk_drewN ?_ _ | refine blk_drew ?_ | refine blk_alloc ?_ _)); exact BK250.out) Try.underlying23 rfl (by kernel_rfl)) rfl ?_
                          exact ⟨by first | rfl | (simp [errW_none, errW_some] <;> rfl) | (simp only [← hji25]; first | rfl | (simp [errW_none, errW_some] <;> rfl)) | (simp [*, errW_none, errW_some] <;> rfl), by repeat (first | (with_reducible first | exact HB.out | apply below_alloc | apply pw_below_drewN | apply below_drew1 | refine below_set ?_ GE250.out | refine below_set ?_ GE251.out) | exact HB.out)⟩
                        · replace c34 := Bool.eq_false_iff.mpr c34
                          subst c34
                          have H1 : (if 0 < (l0.length : Int) then (if (Go.bits .and .u8 (rd l0 0) 1) = 1 then ((bollardref12_text.f kj29 l0 (wrap64 (ji25 + t258))).bind fun bt263 => (bollardref12_Decode.j3 kj29 l0 bt263.2 false (⟨#[]⟩ : ByteArray) false (⟨#[]⟩ : ByteArray) 0 0 ((Go.bits .and .u8 (rd l0 0) 1) == 1) bt263.1 ((Go.bits .and .u8 (rd l0 0) 2) == 2) (⟨#[]⟩ : ByteArray) (wrap64 (a1 + t259)) (wrap64 (t254)))) else (bollardref12_Decode.j3 kj29 l0 (wrap64 (ji25 + t258)) false (⟨#[]⟩ : ByteArray) false (⟨#[]⟩ : ByteArray) 0 0 ((Go.bits .and .u8 (rd l0 0) 1) == 1) (⟨#[]⟩ : ByteArray) ((Go.bits .and .u8 (rd l0 0) 2) == 2) (⟨#[]⟩ : ByteArray) (wrap64 (a1 + t259)) (wrap64 (t254)))) else (none)) = some (r1, r2, r3, r4, r5, r6, r7, r8) := by rw [if_neg (show ¬ (false = true) by decide)] at H; exact H
                          clear H
                          have H := H1
                          clear H1
                          by_cases c38 : 0 < (l0.length : Int)
                          · rw [if_pos c38] at H
                            have c38b0 : decide (0 < (l0.length : Int)) = true := decide_eq_true c38
                            have c38b1 : decide (0 < l0.length) = true := decide_eq_true (by omega)
                            clear c38
                            have HC39 := Aside0.mk H
                            clear H
                            try go_wp2
                            have n0_ := Aside0.mk (blk_drew BK250.out)
                            have n1_ := Aside0.mk (blk_drew BK251.out)
                            have n2_ := Aside0.mk (below_drew1 HB.out)
                            clear BK250
                            clear BK251
                            clear HB
                            have BK250 := n0_
                            have BK251 := n1_
                            have HB := n2_
                            clear n0_ n1_ n2_
                            have p260 : 0 ≤ (0 : Int) := (by omega)
                            have q260 : 0 < (l0.length : Int) := of_decide_eq_true (by first | (with_reducible assumption) | assumption)
                            obtain ⟨ad260, e260, hx260_0⟩ := Kd.at_int HR0.out 0 p260 q260
                            have hw260_0 := hx260_0
                            (try rw [show ((0 : Int)).toNat = 0 from rfl] at hw260_0)
                            (try rw [show 0 * 1 = 0 from rfl] at hw260_0)
                            (try rw [Addr.add_zero'] at hw260_0)
                            cases e260
                            have qi260 : (0 < l0.length) = True := eq_true (by omega)
                            (try rw [show ((0 : Int)).toNat = 0 from rfl] at hx260_0)
                            (try rw [Addr.add_zero'] at hx260_0)
                            replace hx260_0 := (HB.out.cell (World.block_lt_of_cell? w _ hx260_0)).trans hx260_0
                            replace p260 := eq_true p260
                            replace q260 := eq_true q260
                            have p261 : 0 ≤ (0 : Int) := (by omega)
                            have q261 : 0 < (l0.length : Int) := of_decide_eq_true (by first | (with_reducible assumption) | assumption)
                            obtain ⟨ad261, e261, hx261_0⟩ := Kd.at_int HR0.out 0 p261 q261
                            have hw261_0 := hx261_0
                            (try rw [show ((0 : Int)).toNat = 0 from rfl] at hw261_0)
                            (try rw [show 0 * 1 = 0 from rfl] at hw261_0)
                            (try rw [Addr.add_zero'] at hw261_0)
                            obtain rfl : ad260 = ad261 := (by injection e261)
                            have qi261 : (0 < l0.length) = True := eq_true (by omega)
                            (try rw [show ((0 : Int)).toNat = 0 from rfl] at hx261_0)
                            (try rw [Addr.add_zero'] at hx261_0)
                            replace hx261_0 := (HB.out.cell (World.block_lt_of_cell? w _ hx261_0)).trans hx261_0
                            replace p261 := eq_true p261
                            replace q261 := eq_true q261
                            refine start_ (n := 18) (S := fun w' => w'.cell? ad260 = some (.int .u8 (rd l0 0)) ∧ w'.cell? ad260 = some (.int .u8 (rd l0 0))) (ds := []) #[false, false, false, false, false, false, false, false, false, false, false, false, false, false, false, false, false, false] (by kernel_rfl) rfl rfl ⟨((HB.out.cell (World.block_lt_of_cell? w _ hw260_0)).trans hw260_0), ((HB.out.cell (World.block_lt_of_cell? w _ hw261_0)).trans hw261_0)⟩ (fun hHeld => ?_); refine with_tabW bollardref12_Decode.tab13 bollardref12_Decode.bits13 (fun HT_ HW_ => ?_)
                            generalize wc.drew = w40 at BK250 BK251 HB hx260_0 hx261_0 hHeld ⊢
                            refine pure_ (i := 0) (N := some 75) (v := ?_) (a' := ?_) #[true, false, false, false, false, false, false, false, false, false, false, false, false, false, false, false, false, false] rfl rfl (any_of HT_.out (by kernel_rfl)) (fun _ _ _ h => h) (Or.inl ⟨by rfl, ?_⟩) ?_ ?_
                            rotate_left
                            · intro w'
                              go_simp
                              with_reducible rfl
                            rotate_left
                            · simp only [Act.put, List.setIfInBounds_toArray, List.set_cons_zero, List.set_cons_succ, i64_w, i32_w]
                              rfl
                            refine pure_ (i := 1) (N := some 76) (v := ?_) (a' := ?_) #[true, true, false, false, false, false, false, false, false, false, false, false, false, false, false, false, false, false] rfl rfl (any_of HT_.out (by kernel_rfl)) (fun _ _ _ h => h) (Or.inl ⟨by rfl, ?_⟩) ?_ ?_
                            rotate_left
                            · intro w'
                              go_simp
                              with_reducible rfl
                            rotate_left
                            · simp only [Act.put, List.setIfInBounds_toArray, List.set_cons_zero, List.set_cons_succ, i64_w, i32_w]
                              rfl
                            refine pure_ (i := 2) (N := some 77) (v := ?_) (a' := ?_) #[true, true, true, false, false, false, false, false, false, false, false, false, false, false, false, false, false, false] rfl rfl (any_of HT_.out (by kernel_rfl)) (fun _ _ _ h => h) (Or.inl ⟨by rfl, ?_⟩) ?_ ?_
                            rotate_left
                            · intro w'
                              go_simp
                              with_reducible rfl
                            rotate_left
                            · simp only [Act.put, List.setIfInBounds_toArray, List.set_cons_zero, List.set_cons_succ, i64_w, i32_w]
                              rfl
                            refine pure_ (i := 3) (N := some 78) (v := ?_) (a' := ?_) #[true, true, true, true, false, false, false, false, false, false, false, false, false, false, false, false, false, false] rfl rfl (any_of HT_.out (by kernel_rfl)) (fun _ _ _ h => h) (Or.inl ⟨by rfl, ?_⟩) ?_ ?_
                            rotate_left
                            · intro w'
                              go_simp
                              with_reducible rfl
                            rotate_left
                            · simp only [Act.put, List.setIfInBounds_toArray, List.set_cons_zero, List.set_cons_succ, i64_w, i32_w]
                              rfl
                            refine pure_ (i := 4) (N := some 79) (v := ?_) (a' := ?_) #[true, true, true, true, true, false, false, false, false, false, false, false, false, false, false, false, false, false] rfl rfl (any_of HT_.out (by kernel_rfl)) (fun _ _ _ h => h) (Or.inl ⟨by rfl, ?_⟩) ?_ ?_
                            rotate_left
                            · intro w'
                              go_simp
                              with_reducible rfl
                            rotate_left
                            · simp only [Act.put, List.setIfInBounds_toArray, List.set_cons_zero, List.set_cons_succ, i64_w, i32_w]
                              rfl
                            refine pure_ (i := 5) (N := some 80) (v := ?_) (a' := ?_) #[true, true, true, true, true, true, false, false, false, false, false, false, false, false, false, false, false, false] rfl rfl (any_of HT_.out (by kernel_rfl)) (fun _ _ _ h => h) (Or.inl ⟨by rfl, ?_⟩) ?_ ?_
                            rotate_left
                            · intro w'
                              go_simp
                              with_reducible rfl
                            rotate_left
                            · simp only [Act.put, List.setIfInBounds_toArray, List.set_cons_zero, List.set_cons_succ, i64_w, i32_w]
                              rfl
                            refine pure_ (i := 6) (N := some 81) (v := ?_) (a' := ?_) #[true, true, true, true, true, true, true, false, false, false, false, false, false, false, false, false, false, false] rfl rfl (any_of HT_.out (by kernel_rfl)) (fun _ _ _ h => h) (Or.inl ⟨by rfl, ?_⟩) ?_ ?_
                            rotate_left
                            · intro w'
                              go_simp
                              with_reducible rfl
                            rotate_left
                            · simp only [Act.put, List.setIfInBounds_toArray, List.set_cons_zero, List.set_cons_succ, i64_w, i32_w]
                              rfl
                            refine pure_ (i := 10) (N := some 85) (v := ?_) (a' := ?_) #[true, true, true, true, true, true, true, false, false, false, true, false, false, false, false, false, false, false] rfl rfl (any_of HT_.out (by kernel_rfl)) (fun _ _ _ h => h) (Or.inl ⟨by rfl, ?_⟩) ?_ ?_
                            rotate_left
                            · intro w'
                              go_simp
                              with_reducible rfl
                            rotate_left
                            · simp only [Act.put, List.setIfInBounds_toArray, List.set_cons_zero, List.set_cons_succ, i64_w, i32_w]
                              rfl
                            refine pure_ (i := 11) (N := some 86) (v := ?_) (a' := ?_) #[true, true, true, true, true, true, true, false, false, false, true, true, false, false, false, false, false, false] rfl rfl (any_of HT_.out (by kernel_rfl)) (fun _ _ _ h => h) (Or.inl ⟨by rfl, ?_⟩) ?_ ?_
                            rotate_left
                            · intro w'
                              go_simp
                              with_reducible rfl
                            rotate_left
                            · simp only [Act.put, List.setIfInBounds_toArray, List.set_cons_zero, List.set_cons_succ, i64_w, i32_w]
                              rfl
                            refine take_ (i := 7) (N := some 82) (v := ?_) (a' := ?_) #[true, true, true, true, true, true, true, true, false, false, true, true, false, false, false, false, false, false] rfl rfl (take_ofW HT_.out HW_.out (by kernel_rfl)) (fun _ _ _ h => h) (Or.inl ⟨by rfl, ?_⟩) hHeld ?_ ?_
                            rotate_left
                            · rintro w' ⟨s0, s1⟩
                              go_simp
                              with_reducible rfl
                            rotate_left
                            · simp only [Act.put, List.setIfInBounds_toArray, List.set_cons_zero, List.set_cons_succ, i64_w, i32_w]
                              rfl
                            refine pure_ (i := 8) (N := some 83) (v := ?_) (a' := ?_) #[true, true, true, true, true, true, true, true, true, false, true, true, false, false, false, false, false, false] rfl rfl (any_of HT_.out (by kernel_rfl)) (fun _ _ _ h => h) (Or.inl ⟨by rfl, ?_⟩) ?_ ?_
                            rotate_left
                            · intro w'
                              go_simp
                              with_reducible rfl
                            rotate_left
                            · simp only [Act.put, List.setIfInBounds_toArray, List.set_cons_zero, List.set_cons_succ, i64_w, i32_w]
                              rfl
                            refine pure_ (i := 9) (N := some 84) (v := ?_) (a' := ?_) #[true, true, true, true, true, true, true, true, true, true, true, true, false, false, false, false, false, false] rfl rfl (any_of HT_.out (by kernel_rfl)) (fun _ _ _ h => h) (Or.inl ⟨by rfl, ?_⟩) ?_ ?_
                            rotate_left
                            · intro w'
                              go_simp
                              with_reducible rfl
                            rotate_left
                            · simp only [Act.put, List.setIfInBounds_toArray, List.set_cons_zero, List.set_cons_succ, i64_w, i32_w]
                              rfl
                            refine take_ (i := 12) (N := some 87) (v := ?_) (a' := ?_) #[true, true, true, true, true, true, true, true, true, true, true, true, true, false, false, false, false, false] rfl rfl (take_ofW HT_.out HW_.out (by kernel_rfl)) (fun _ _ _ h => h) (Or.inl ⟨by rfl, ?_⟩) hHeld ?_ ?_
                            rotate_left
                            · rintro w' ⟨s0, s1⟩
                              go_simp
                              with_reducible rfl
                            rotate_left
                            · simp only [Act.put, List.setIfInBounds_toArray, List.set_cons_zero, List.set_cons_succ, i64_w, i32_w]
                              rfl
                            refine pure_ (i := 13) (N := some 88) (v := ?_) (a' := ?_) #[true, true, true, true, true, true, true, true, true, true, true, true, true, true, false, false, false, false] rfl rfl (any_of HT_.out (by kernel_rfl)) (fun _ _ _ h => h) (Or.inl ⟨by rfl, ?_⟩) ?_ ?_
                            rotate_left
                            · intro w'
                              go_simp
                              with_reducible rfl
                            rotate_left
                            · simp only [Act.put, List.setIfInBounds_toArray, List.set_cons_zero, List.set_cons_succ, i64_w, i32_w]
                              rfl
                            refine pure_ (i := 14) (N := some 89) (v := ?_) (a' := ?_) #[true, true, true, true, true, true, true, true, true, true, true, true, true, true, true, false, false, false] rfl rfl (any_of HT_.out (by kernel_rfl)) (fun _ _ _ h => h) (Or.inl ⟨by rfl, ?_⟩) ?_ ?_
                            rotate_left
                            · intro w'
                              go_simp
                              with_reducible rfl
                            rotate_left
                            · simp only [Act.put, List.setIfInBounds_toArray, List.set_cons_zero, List.set_cons_succ, i64_w, i32_w]
                              rfl
                            refine pure_ (i := 15) (N := some 90) (v := ?_) (a' := ?_) #[true, true, true, true, true, true, true, true, true, true, true, true, true, true, true, true, false, false] rfl rfl (any_of HT_.out (by kernel_rfl)) (fun _ _ _ h => h) (Or.inl ⟨by rfl, ?_⟩) ?_ ?_
                            rotate_left
                            · intro w'
                              go_simp
                              with_reducible rfl
                            rotate_left
                            · simp only [Act.put, List.setIfInBounds_toArray, List.set_cons_zero, List.set_cons_succ, i64_w, i32_w]
                              rfl
                            refine one_ (i := 16) (N := some 13) #[true, true, true, true, true, true, true, true, true, true, true, true, true, true, true, true, true, false] rfl rfl (one_of HT_.out (by kernel_rfl)) (by decide) (fun K hK => ?_)
                            refine box_step ?hg (N := 13) ?hd (cs := #[.bool false, .string (⟨#[]⟩ : ByteArray), .bool false, .string (⟨#[]⟩ : ByteArray), .int .i64 0, .int .i64 0]) (t := 23) ?hr ?_; (case hd => rfl); (case hg => rfl); (case hr => first | (go_simp; done) | (go_simp; rfl))
                            intro gb262 hg w41 hbox hb
                            have n0_ := Aside0.mk (blk_below (g := gb250) (o := .cells #[.bool false, .string (⟨#[]⟩ : ByteArray), .bool false, .string (⟨#[]⟩ : ByteArray), .int .i64 0, .int .i64 0] 23 (0, 0)) (by (with_reducible repeat (first | refine blk_drewN ?_ _ | refine blk_drew ?_ | refine blk_alloc ?_ _)); exact BK250.out) hb)
                            have n1_ := Aside0.mk (blk_below (g := gb251) (o := .cells #[.bool false, .string (⟨#[]⟩ : ByteArray), .bool false, .string (⟨#[]⟩ : ByteArray), .int .i64 0, .int .i64 0] 23 (0, 0)) (by (with_reducible repeat (first | refine blk_drewN ?_ _ | refine blk_drew ?_ | refine blk_alloc ?_ _)); exact BK251.out) hb)
                            have n2_ := Aside0.mk (below_step (by repeat (first | (with_reducible first | exact HB.out | apply below_alloc | apply pw_below_drewN | apply below_drew1 | refine below_set ?_ GE250.out | refine below_set ?_ GE251.out) | exact HB.out)) hb)
                            have n3_ := Aside0.mk (hbox)
                            have n4_ := Aside0.mk ((by rw [hg]; exact (below_size (by repeat (first | (with_reducible first | exact HB.out | apply below_alloc | apply pw_below_drewN | apply below_drew1 | refine below_set ?_ GE250.out | refine below_set ?_ GE251.out) | exact HB.out))) : w.heap.size ≤ gb262))
                            have n5_ := Aside0.mk ((by rw [hg]; exact (below_size (by repeat (first | (with_reducible first | exact HB.out | apply below_alloc | apply pw_below_drewN | apply below_drew1 | refine below_set ?_ GE250.out | refine below_set ?_ GE251.out) | exact HB.out))) : w.heap.size ≤ gb262))
                            have n6_ := Aside0.mk ((by rw [hg]; exact Nat.ne_of_lt (blk_lt (g := gb250) (o := .cells #[.bool false, .string (⟨#[]⟩ : ByteArray), .bool false, .string (⟨#[]⟩ : ByteArray), .int .i64 0, .int .i64 0] 23 (0, 0)) (by (with_reducible repeat (first | refine blk_drewN ?_ _ | refine blk_drew ?_ | refine blk_alloc ?_ _)); exact BK250.out)) : gb250 ≠ gb262))
                            have n7_ := Aside0.mk ((by rw [hg]; exact Nat.ne_of_gt (blk_lt (g := gb250) (o := .cells #[.bool false, .string (⟨#[]⟩ : ByteArray), .bool false, .string (⟨#[]⟩ : ByteArray), .int .i64 0, .int .i64 0] 23 (0, 0)) (by (with_reducible repeat (first | refine blk_drewN ?_ _ | refine blk_drew ?_ | refine blk_alloc ?_ _)); exact BK250.out)) : gb262 ≠ gb250))
                            have n8_ := Aside0.mk ((by rw [hg]; exact Nat.ne_of_lt (blk_lt (g := gb251) (o := .cells #[.bool false, .string (⟨#[]⟩ : ByteArray), .bool false, .string (⟨#[]⟩ : ByteArray), .int .i64 0, .int .i64 0] 23 (0, 0)) (by (with_reducible repeat (first | refine blk_drewN ?_ _ | refine blk_drew ?_ | refine blk_alloc ?_ _)); exact BK251.out)) : gb251 ≠ gb262))
                            have n9_ := Aside0.mk ((by rw [hg]; exact Nat.ne_of_gt (blk_lt (g := gb251) (o := .cells #[.bool false, .string (⟨#[]⟩ : ByteArray), .bool false, .string (⟨#[]⟩ : ByteArray), .int .i64 0, .int .i64 0] 23 (0, 0)) (by (with_reducible repeat (first | refine blk_drewN ?_ _ | refine blk_drew ?_ | refine blk_alloc ?_ _)); exact BK251.out)) : gb262 ≠ gb251))
                            clear BK250
                            clear BK251
                            clear HB
                            have BK250 := n0_
                            have BK251 := n1_
                            have HB := n2_
                            have BK262 := n3_
                            have GW262 := n4_
                            have GE262 := n5_
                            have NB250_262 := n6_
                            have NB262_250 := n7_
                            have NB251_262 := n8_
                            have NB262_251 := n9_
                            clear n0_ n1_ n2_ n3_ n4_ n5_ n6_ n7_ n8_ n9_
                            clear hb hbox hg
                            refine hK.out _ _ ⟨((HB.out.cell (World.block_lt_of_cell? w _ hw260_0)).trans hw260_0), ((HB.out.cell (World.block_lt_of_cell? w _ hw261_0)).trans hw261_0)⟩ (fun hHeld => ?_)
                            clear hK K
                            refine norm_ (a' := ?_) ?_ ?_
                            rotate_left
                            · show Act.put _ (some 13) _ = _
                              simp only [Act.put, List.setIfInBounds_toArray, List.set_cons_zero, List.set_cons_succ, i64_w, i32_w]
                              rfl
                            refine one_ (i := 17) (N := none) #[true, true, true, true, true, true, true, true, true, true, true, true, true, true, true, true, true, true] rfl rfl (one_of HT_.out (by kernel_rfl)) (by decide) (fun K hK => ?_)
                            have hs42 : w41.cell? ⟨gb262, 0, none⟩ = some (.bool false) := (blk_cell BK262.out 0).trans rfl
                            have hfs42 := blk_frozen BK262.out 0
                            have hns42_0 := NB250_262.out
                            have hns42_1 := NB251_262.out
                            have hms42_0 := NB262_250.out
                            have hms42_1 := NB262_251.out
                            have hs43 : w41.cell? ⟨gb262, 1, none⟩ = some (.string (⟨#[]⟩ : ByteArray)) := (blk_cell BK262.out 1).trans rfl
                            have hfs43 := blk_frozen BK262.out 1
                            have hns43_0 := NB250_262.out
                            have hns43_1 := NB251_262.out
                            have hms43_0 := NB262_250.out
                            have hms43_1 := NB262_251.out
                            have hs44 : w41.cell? ⟨gb262, 2, none⟩ = some (.bool false) := (blk_cell BK262.out 2).trans rfl
                            have hfs44 := blk_frozen BK262.out 2
                            have hns44_0 := NB250_262.out
                            have hns44_1 := NB251_262.out
                            have hms44_0 := NB262_250.out
                            have hms44_1 := NB262_251.out
                            have hs45 : w41.cell? ⟨gb262, 3, none⟩ = some (.string (⟨#[]⟩ : ByteArray)) := (blk_cell BK262.out 3).trans rfl
                            have hfs45 := blk_frozen BK262.out 3
                            have hns45_0 := NB250_262.out
                            have hns45_1 := NB251_262.out
                            have hms45_0 := NB262_250.out
                            have hms45_1 := NB262_251.out
                            have hs46 : w41.cell? ⟨gb262, 4, none⟩ = some (.int .i64 0) := (blk_cell BK262.out 4).trans rfl
                            have hfs46 := blk_frozen BK262.out 4
                            have hns46_0 := NB250_262.out
                            have hns46_1 := NB251_262.out
                            have hms46_0 := NB262_250.out
                            have hms46_1 := NB262_251.out
                            have hs47 : w41.cell? ⟨gb262, 5, none⟩ = some (.int .i64 0) := (blk_cell BK262.out 5).trans rfl
                            have hfs47 := blk_frozen BK262.out 5
                            have hns47_0 := NB250_262.out
                            have hns47_1 := NB251_262.out
                            have hms47_0 := NB262_250.out
                            have hms47_1 := NB262_251.out
                            refine skip_ (w1 := ?_) (by rfl) rfl ?_ ?_
                            rotate_left
                            · go_simp
                              rfl
                            refine hK.out _ _ ⟨((cell_far (p := ⟨gb262, _, none⟩) (by first | exact Nat.ne_of_lt (Nat.lt_of_lt_of_le (by have := World.block_lt_of_cell? _ _ hw260_0; first | rwa [add_block] at this | exact this) GW262.out) | (rw [add_block]; exact Nat.ne_of_lt (Nat.lt_of_lt_of_le (by have := World.block_lt_of_cell? _ _ hw260_0; first | rwa [add_block] at this | exact this) GW262.out)) | (show (Addr.add _ _).block ≠ _; rw [add_block]; exact Nat.ne_of_lt (Nat.lt_of_lt_of_le (by have := World.block_lt_of_cell? _ _ hw260_0; first | rwa [add_block] at this | exact this) GW262.out)) | (dsimp only; exact Nat.ne_of_lt (Nat.lt_of_lt_of_le (by have := World.block_lt_of_cell? _ _ hw260_0; first | rwa [add_block] at this | exact this) GW262.out))) _).trans (((cell_far (p := ⟨gb262, _, none⟩) (by first | exact Nat.ne_of_lt (Nat.lt_of_lt_of_le (by have := World.block_lt_of_cell? _ _ hw260_0; first | rwa [add_block] at this | exact this) GW262.out) | (rw [add_block]; exact Nat.ne_of_lt (Nat.lt_of_lt_of_le (by have := World.block_lt_of_cell? _ _ hw260_0; first | rwa [add_block] at this | exact this) GW262.out)) | (show (Addr.add _ _).block ≠ _; rw [add_block]; exact Nat.ne_of_lt (Nat.lt_of_lt_of_le (by have := World.block_lt_of_cell? _ _ hw260_0; first | rwa [add_block] at this | exact this) GW262.out)) | (dsimp only; exact Nat.ne_of_lt (Nat.lt_of_lt_of_le (by have := World.block_lt_of_cell? _ _ hw260_0; first | rwa [add_block] at this | exact this) GW262.out))) _).trans (((cell_far (p := ⟨gb262, _, none⟩) (by first | exact Nat.ne_of_lt (Nat.lt_of_lt_of_le (by have := World.block_lt_of_cell? _ _ hw260_0; first | rwa [add_block] at this | exact this) GW262.out) | (rw [add_block]; exact Nat.ne_of_lt (Nat.lt_of_lt_of_le (by have := World.block_lt_of_cell? _ _ hw260_0; first | rwa [add_block] at this | exact this) GW262.out)) | (show (Addr.add _ _).block ≠ _; rw [add_block]; exact Nat.ne_of_lt (Nat.lt_of_lt_of_le (by have := World.block_lt_of_cell? _ _ hw260_0; first | rwa [add_block] at this | exact this) GW262.out)) | (dsimp only; exact Nat.ne_of_lt (Nat.lt_of_lt_of_le (by have := World.block_lt_of_cell? _ _ hw260_0; first | rwa [add_block] at this | exact this) GW262.out))) _).trans (((cell_far (p := ⟨gb262, _, none⟩) (by first | exact Nat.ne_of_lt (Nat.lt_of_lt_of_le (by have := World.block_lt_of_cell? _ _ hw260_0; first | rwa [add_block] at this | exact this) GW262.out) | (rw [add_block]; exact Nat.ne_of_lt (Nat.lt_of_lt_of_le (by have := World.block_lt_of_cell? _ _ hw260_0; first | rwa [add_block] at this | exact this) GW262.out)) | (show (Addr.add _ _).block ≠ _; rw [add_block]; exact Nat.ne_of_lt (Nat.lt_of_lt_of_le (by have := World.block_lt_of_cell? _ _ hw260_0; first | rwa [add_block] at this | exact this) GW262.out)) | (dsimp only; exact Nat.ne_of_lt (Nat.lt_of_lt_of_le (by have := World.block_lt_of_cell? _ _ hw260_0; first | rwa [add_block] at this | exact this) GW262.out))) _).trans (((cell_far (p := ⟨gb262, _, none⟩) (by first | exact Nat.ne_of_lt (Nat.lt_of_lt_of_le (by have := World.block_lt_of_cell? _ _ hw260_0; first | rwa [add_block] at this | exact this) GW262.out) | (rw [add_block]; exact Nat.ne_of_lt (Nat.lt_of_lt_of_le (by have := World.block_lt_of_cell? _ _ hw260_0; first | rwa [add_block] at this | exact this) GW262.out)) | (show (Addr.add _ _).block ≠ _; rw [add_block]; exact Nat.ne_of_lt (Nat.lt_of_lt_of_le (by have := World.block_lt_of_cell? _ _ hw260_0; first | rwa [add_block] at this | exact this) GW262.out)) | (dsimp only; exact Nat.ne_of_lt (Nat.lt_of_lt_of_le (by have := World.block_lt_of_cell? _ _ hw260_0; first | rwa [add_block] at this | exact this) GW262.out))) _).trans (((cell_far (p := ⟨gb262, _, none⟩) (by first | exact Nat.ne_of_lt (Nat.lt_of_lt_of_le (by have := World.block_lt_of_cell? _ _ hw260_0; first | rwa [add_block] at this | exact this) GW262.out) | (rw [add_block]; exact Nat.ne_of_lt (Nat.lt_of_lt_of_le (by have := World.block_lt_of_cell? _ _ hw260_0; first | rwa [add_block] at this | exact this) GW262.out)) | (show (Addr.add _ _).block ≠ _; rw [add_block]; exact Nat.ne_of_lt (Nat.lt_of_lt_of_le (by have := World.block_lt_of_cell? _ _ hw260_0; first | rwa [add_block] at this | exact this) GW262.out)) | (dsimp only; exact Nat.ne_of_lt (Nat.lt_of_lt_of_le (by have := World.block_lt_of_cell? _ _ hw260_0; first | rwa [add_block] at this | exact this) GW262.out))) _).trans (hHeld.1)))))))))))), ((cell_far (p := ⟨gb262, _, none⟩) (by first | exact Nat.ne_of_lt (Nat.lt_of_lt_of_le (by have := World.block_lt_of_cell? _ _ hw261_0; first | rwa [add_block] at this | exact this) GW262.out) | (rw [add_block]; exact Nat.ne_of_lt (Nat.lt_of_lt_of_le (by have := World.block_lt_of_cell? _ _ hw261_0; first | rwa [add_block] at this | exact this) GW262.out)) | (show (Addr.add _ _).block ≠ _; rw [add_block]; exact Nat.ne_of_lt (Nat.lt_of_lt_of_le (by have := World.block_lt_of_cell? _ _ hw261_0; first | rwa [add_block] at this | exact this) GW262.out)) | (dsimp only; exact Nat.ne_of_lt (Nat.lt_of_lt_of_le (by have := World.block_lt_of_cell? _ _ hw261_0; first | rwa [add_block] at this | exact this) GW262.out))) _).trans (((cell_far (p := ⟨gb262, _, none⟩) (by first | exact Nat.ne_of_lt (Nat.lt_of_lt_of_le (by have := World.block_lt_of_cell? _ _ hw261_0; first | rwa [add_block] at this | exact this) GW262.out) | (rw [add_block]; exact Nat.ne_of_lt (Nat.lt_of_lt_of_le (by have := World.block_lt_of_cell? _ _ hw261_0; first | rwa [add_block] at this | exact this) GW262.out)) | (show (Addr.add _ _).block ≠ _; rw [add_block]; exact Nat.ne_of_lt (Nat.lt_of_lt_of_le (by have := World.block_lt_of_cell? _ _ hw261_0; first | rwa [add_block] at this | exact this) GW262.out)) | (dsimp only; exact Nat.ne_of_lt (Nat.lt_of_lt_of_le (by have := World.block_lt_of_cell? _ _ hw261_0; first | rwa [add_block] at this | exact this) GW262.out))) _).trans (((cell_far (p := ⟨gb262, _, none⟩) (by first | exact Nat.ne_of_lt (Nat.lt_of_lt_of_le (by have := World.block_lt_of_cell? _ _ hw261_0; first | rwa [add_block] at this | exact this) GW262.out) | (rw [add_block]; exact Nat.ne_of_lt (Nat.lt_of_lt_of_le (by have := World.block_lt_of_cell? _ _ hw261_0; first | rwa [add_block] at this | exact this) GW262.out)) | (show (Addr.add _ _).block ≠ _; rw [add_block]; exact Nat.ne_of_lt (Nat.lt_of_lt_of_le (by have := World.block_lt_of_cell? _ _ hw261_0; first | rwa [add_block] at this | exact this) GW262.out)) | (dsimp only; exact Nat.ne_of_lt (Nat.lt_of_lt_of_le (by have := World.block_lt_of_cell? _ _ hw261_0; first | rwa [add_block] at this | exact this) GW262.out))) _).trans (((cell_far (p := ⟨gb262, _, none⟩) (by first | exact Nat.ne_of_lt (Nat.lt_of_lt_of_le (by have := World.block_lt_of_cell? _ _ hw261_0; first | rwa [add_block] at this | exact this) GW262.out) | (rw [add_block]; exact Nat.ne_of_lt (Nat.lt_of_lt_of_le (by have := World.block_lt_of_cell? _ _ hw261_0; first | rwa [add_block] at this | exact this) GW262.out)) | (show (Addr.add _ _).block ≠ _; rw [add_block]; exact Nat.ne_of_lt (Nat.lt_of_lt_of_le (by have := World.block_lt_of_cell? _ _ hw261_0; first | rwa [add_block] at this | exact this) GW262.out)) | (dsimp only; exact Nat.ne_of_lt (Nat.lt_of_lt_of_le (by have := World.block_lt_of_cell? _ _ hw261_0; first | rwa [add_block] at this | exact this) GW262.out))) _).trans (((cell_far (p := ⟨gb262, _, none⟩) (by first | exact Nat.ne_of_lt (Nat.lt_of_lt_of_le (by have := World.block_lt_of_cell? _ _ hw261_0; first | rwa [add_block] at this | exact this) GW262.out) | (rw [add_block]; exact Nat.ne_of_lt (Nat.lt_of_lt_of_le (by have := World.block_lt_of_cell? _ _ hw261_0; first | rwa [add_block] at this | exact this) GW262.out)) | (show (Addr.add _ _).block ≠ _; rw [add_block]; exact Nat.ne_of_lt (Nat.lt_of_lt_of_le (by have := World.block_lt_of_cell? _ _ hw261_0; first | rwa [add_block] at this | exact this) GW262.out)) | (dsimp only; exact Nat.ne_of_lt (Nat.lt_of_lt_of_le (by have := World.block_lt_of_cell? _ _ hw261_0; first | rwa [add_block] at this | exact this) GW262.out))) _).trans (((cell_far (p := ⟨gb262, _, none⟩) (by first | exact Nat.ne_of_lt (Nat.lt_of_lt_of_le (by have := World.block_lt_of_cell? _ _ hw261_0; first | rwa [add_block] at this | exact this) GW262.out) | (rw [add_block]; exact Nat.ne_of_lt (Nat.lt_of_lt_of_le (by have := World.block_lt_of_cell? _ _ hw261_0; first | rwa [add_block] at this | exact this) GW262.out)) | (show (Addr.add _ _).block ≠ _; rw [add_block]; exact Nat.ne_of_lt (Nat.lt_of_lt_of_le (by have := World.block_lt_of_cell? _ _ hw261_0; first | rwa [add_block] at this | exact this) GW262.out)) | (dsimp only; exact Nat.ne_of_lt (Nat.lt_of_lt_of_le (by have := World.block_lt_of_cell? _ _ hw261_0; first | rwa [add_block] at this | exact this) GW262.out))) _).trans (hHeld.2))))))))))))⟩ (fun hHeld => ?_)
                            clear hK K
                            refine done_ (done_of HT_.out (by kernel_rfl)) ?_
                            have hnb48 := NB262_250.out
                            have hnc48 := NB250_262.out
                            have hnb49 := NB262_251.out
                            have hnc49 := NB251_262.out
                            have hcz50_0 : w41.cell? ⟨gb262, 0, none⟩ = some (.bool false) := (blk_cell BK262.out 0).trans rfl
                            have hcz50_1 : w41.cell? ⟨gb262, 1, none⟩ = some (.string (⟨#[]⟩ : ByteArray)) := (blk_cell BK262.out 1).trans rfl
                            have hcz50_2 : w41.cell? ⟨gb262, 2, none⟩ = some (.bool false) := (blk_cell BK262.out 2).trans rfl
                            have hcz50_3 : w41.cell? ⟨gb262, 3, none⟩ = some (.string (⟨#[]⟩ : ByteArray)) := (blk_cell BK262.out 3).trans rfl
                            have hcz50_4 : w41.cell? ⟨gb262, 4, none⟩ = some (.int .i64 0) := (blk_cell BK262.out 4).trans rfl
                            have hcz50_5 : w41.cell? ⟨gb262, 5, none⟩ = some (.int .i64 0) := (blk_cell BK262.out 5).trans rfl
                            have hfz50_0 := blk_frozen BK262.out 0
                            have hfz50_1 := blk_frozen BK262.out 1
                            have hfz50_2 := blk_frozen BK262.out 2
                            have hfz50_3 := blk_frozen BK262.out 3
                            have hfz50_4 := blk_frozen BK262.out 4
                            have hfz50_5 := blk_frozen BK262.out 5
                            go_upto_if 92 with (fail)
                            go_cut [10] (fun v10 wc => ∃ (kq : Nat) (x10_38 : Int) (x263001_38 : ByteArray), v10 = .int .i64 x10_38 ∧ Aside0 (bollardref12_Decode.j3 kq l0 x10_38 false (⟨#[]⟩ : ByteArray) false (⟨#[]⟩ : ByteArray) 0 0 ((Go.bits .and .u8 (rd l0 0) 1) == 1) x263001_38 ((Go.bits .and .u8 (rd l0 0) 2) == 2) (⟨#[]⟩ : ByteArray) (wrap64 (a1 + t259)) (wrap64 (t254)) = some (r1, r2, r3, r4, r5, r6, r7, r8)) ∧ Aside0 (kq ≤ kj29) ∧ Aside0 (wc.heap[gb250]? = some (.cells #[.bool false, .string (⟨#[]⟩ : ByteArray), .bool false, .string (⟨#[]⟩ : ByteArray), .int .i64 0, .int .i64 0] 23 (0, 0))) ∧ Aside0 (wc.heap[gb251]? = some (.cells #[.bool false, .string (⟨#[]⟩ : ByteArray), .bool false, .string (⟨#[]⟩ : ByteArray), .int .i64 0, .int .i64 0] 23 (0, 0))) ∧ Aside0 (wc.heap[gb262]? = some (.cells #[.bool ((Go.bits .and .u8 (rd l0 0) 1) == 1), .string x263001_38, .bool ((Go.bits .and .u8 (rd l0 0) 2) == 2), .string (⟨#[]⟩ : ByteArray), .int .i64 (wrap64 (a1 + t259)), .int .i64 (wrap64 (t254))] 23 (0, 0))) ∧ Aside0 (Below w.heap.size w wc))
                            case first =>
                              have H := HC39.out
                              clear HC39
                              by_cases c51 : (Go.bits .and .u8 (rd l0 0) 1) = 1
                              · rw [if_pos c51] at H
                                have c51b0 : ((Go.bits .and .u8 (rd l0 0) 1) == 1) = true := beq_iff_eq.mpr c51
                                have c51b1 : ((Go.bits .and .u8 (rd l0 0) 1) != 1) = false := bne_eq_false_iff_eq.mpr c51
                                clear c51
                                (first | rw [c51b0] | (simp only [i64_w, i32_w]; rw [c51b0]) | skip)
                                replace H := Option.bind_eq_some_iff.mp H
                                obtain ⟨⟨t263, t264⟩, A520, H⟩ := H
                                replace H : (bollardref12_Decode.j3 kj29 l0 t264 false (⟨#[]⟩ : ByteArray) false (⟨#[]⟩ : ByteArray) 0 0 ((Go.bits .and .u8 (rd l0 0) 1) == 1) t263 ((Go.bits .and .u8 (rd l0 0) 2) == 2) (⟨#[]⟩ : ByteArray) (wrap64 (a1 + t259)) (wrap64 (t254))) = some (r1, r2, r3, r4, r5, r6, r7, r8) := H
                                have A52 := Aside0.mk A520
                                clear A520
                                have H' := Aside0.mk H
                                clear H
                                go_wp2_with (first | ((with_reducible refine gate_callee (f := 31) rfl ?_); refine goesL_ (some 96) rfl rfl Try.func31 (by kernel_rfl) rfl #[.slice (some ad260) l0.length c0, .int .i64 (wrap64 (ji25 + t258))] rfl (by (try simp only [List.map_toArray, List.map_cons, List.map_nil]); first | done | (simp only [hji25]; rfl) | rfl | (simp only [List.length_drop, List.length_take]; rfl)) ?_; (with_reducible refine (bollardref12_text.calls kj29 _ _ l0 (wrap64 (ji25 + t258)) t263 t264 _ ?side1 ?side2 A52.out).mono ?_); (case side1 => exact Kd.C_below HR0.out (by repeat (first | (with_reducible first | exact HB.out | apply below_alloc | apply pw_below_drewN | apply below_drew1 | refine below_set ?_ GE250.out | refine below_set ?_ GE251.out | refine below_set ?_ GE262.out) | exact HB.out))); (case side2 => exact HC0.out); rintro e w' ⟨rfl, ⟨nd, rfl⟩⟩; refine ⟨_, rfl, ?_⟩; have hnb53 := NB262_250.out; have hnc53 := NB250_262.out; have hnb54 := NB262_251.out; have hnc54 := NB251_262.out; have hcz55_0 : w41.cell? ⟨gb262, 0, none⟩ = some (.bool false) := (blk_cell BK262.out 0).trans rfl; have hcz55_1 : w41.cell? ⟨gb262, 1, none⟩ = some (.string (⟨#[]⟩ : ByteArray)) := (blk_cell BK262.out 1).trans rfl; have hcz55_2 : w41.cell? ⟨gb262, 2, none⟩ = some (.bool false) := (blk_cell BK262.out 2).trans rfl; have hcz55_3 : w41.cell? ⟨gb262, 3, none⟩ = some (.string (⟨#[]⟩ : ByteArray)) := (blk_cell BK262.out 3).trans rfl; have hcz55_4 : w41.cell? ⟨gb262, 4, none⟩ = some (.int .i64 0) := (blk_cell BK262.out 4).trans rfl; have hcz55_5 : w41.cell? ⟨gb262, 5, none⟩ = some (.int .i64 0) := (blk_cell BK262.out 5).trans rfl; have hfz55_0 := blk_frozen BK262.out 0; have hfz55_1 := blk_frozen BK262.out 1; have hfz55_2 := blk_frozen BK262.out 2; have hfz55_3 := blk_frozen BK262.out 3; have hfz55_4 := blk_frozen BK262.out 4; have hfz55_5 := blk_frozen BK262.out 5))
                                go_meet
                                case rel => exact ⟨_, (t264), (t263), (by first | rfl | (simp; done) | (simp [*]; done) | exact congrArg Value.bool (ne_empty _) | exact congrArg Value.bool (eq_empty _)), H', ⟨by have := HJ2.out; have := HJ17.out; have := HJ29.out; first | omega | exact Nat.le_refl _⟩, ⟨by (with_reducible repeat (first | refine blk_drewN ?_ _ | refine blk_drew ?_ | refine blk_alloc ?_ _)); refine blk_far ?_ NB250_262.out _; (with_reducible repeat (first | refine blk_drewN ?_ _ | refine blk_drew ?_ | refine blk_alloc ?_ _)); refine blk_far ?_ NB250_262.out _; (with_reducible repeat (first | refine blk_drewN ?_ _ | refine blk_drew ?_ | refine blk_alloc ?_ _)); refine blk_far ?_ NB250_262.out _; (with_reducible repeat (first | refine blk_drewN ?_ _ | refine blk_drew ?_ | refine blk_alloc ?_ _)); refine blk_far ?_ NB250_262.out _; (with_reducible repeat (first | refine blk_drewN ?_ _ | refine blk_drew ?_ | refine blk_alloc ?_ _)); refine blk_far ?_ NB250_262.out _; (with_reducible repeat (first | refine blk_drewN ?_ _ | refine blk_drew ?_ | refine blk_alloc ?_ _)); refine blk_far ?_ NB250_262.out _; (with_reducible repeat (first | refine blk_drewN ?_ _ | refine blk_drew ?_ | refine blk_alloc ?_ _)); refine blk_far ?_ NB250_262.out _; (with_reducible repeat (first | refine blk_drewN ?_ _ | refine blk_drew ?_ | refine blk_alloc ?_ _)); exact BK250.out⟩, ⟨by (with_reducible repeat (first | refine blk_drewN ?_ _ | refine blk_drew ?_ | refine blk_alloc ?_ _)); refine blk_far ?_ NB251_262.out _; (with_reducible repeat (first | refine blk_drewN ?_ _ | refine blk_drew ?_ | refine blk_alloc ?_ _)); refine blk_far ?_ NB251_262.out _; (with_reducible repeat (first | refine blk_drewN ?_ _ | refine blk_drew ?_ | refine blk_alloc ?_ _)); refine blk_far ?_ NB251_262.out _; (with_reducible repeat (first | refine blk_drewN ?_ _ | refine blk_drew ?_ | refine blk_alloc ?_ _)); refine blk_far ?_ NB251_262.out _; (with_reducible repeat (first | refine blk_drewN ?_ _ | refine blk_drew ?_ | refine blk_alloc ?_ _)); refine blk_far ?_ NB251_262.out _; (with_reducible repeat (first | refine blk_drewN ?_ _ | refine blk_drew ?_ | refine blk_alloc ?_ _)); refine blk_far ?_ NB251_262.out _; (with_reducible repeat (first | refine blk_drewN ?_ _ | refine blk_drew ?_ | refine blk_alloc ?_ _)); refine blk_far ?_ NB251_262.out _; (with_reducible repeat (first | refine blk_drewN ?_ _ | refine blk_drew ?_ | refine blk_alloc ?_ _)); exact BK251.out⟩, ⟨by (with_reducible repeat (first | refine blk_drewN ?_ _ | refine blk_drew ?_ | refine blk_alloc ?_ _)); refine blk_put (cs := #[.bool ((Go.bits .and .u8 (rd l0 0) 1) == 1), .string (⟨#[]⟩ : ByteArray), .bool ((Go.bits .and .u8 (rd l0 0) 2) == 2), .string (⟨#[]⟩ : ByteArray), .int .i64 (wrap64 (a1 + t259)), .int .i64 (wrap64 (t254))]) ?_ 1 _ (by first | rfl | (simp only [*, List.setIfInBounds_toArray, List.set_cons_zero, List.set_cons_succ]; done) | (simp [*]; done)); (with_reducible repeat (first | refine blk_drewN ?_ _ | refine blk_drew ?_ | refine blk_alloc ?_ _)); refine blk_put (cs := #[.bool ((Go.bits .and .u8 (rd l0 0) 1) == 1), .string (⟨#[]⟩ : ByteArray), .bool ((Go.bits .and .u8 (rd l0 0) 2) == 2), .string (⟨#[]⟩ : ByteArray), .int .i64 (wrap64 (a1 + t259)), .int .i64 0]) ?_ 5 _ (by first | rfl | (simp only [*, List.setIfInBounds_toArray, List.set_cons_zero, List.set_cons_succ]; done) | (simp [*]; done)); (with_reducible repeat (first | refine blk_drewN ?_ _ | refine blk_drew ?_ | refine blk_alloc ?_ _)); refine blk_put (cs := #[.bool ((Go.bits .and .u8 (rd l0 0) 1) == 1), .string (⟨#[]⟩ : ByteArray), .bool ((Go.bits .and .u8 (rd l0 0) 2) == 2), .string (⟨#[]⟩ : ByteArray), .int .i64 0, .int .i64 0]) ?_ 4 _ (by first | rfl | (simp only [*, List.setIfInBounds_toArray, List.set_cons_zero, List.set_cons_succ]; done) | (simp [*]; done)); (with_reducible repeat (first | refine blk_drewN ?_ _ | refine blk_drew ?_ | refine blk_alloc ?_ _)); refine blk_put (cs := #[.bool ((Go.bits .and .u8 (rd l0 0) 1) == 1), .string (⟨#[]⟩ : ByteArray), .bool ((Go.bits .and .u8 (rd l0 0) 2) == 2), .string (⟨#[]⟩ : ByteArray), .int .i64 0, .int .i64 0]) ?_ 3 _ (by first | rfl | (simp only [*, List.setIfInBounds_toArray, List.set_cons_zero, List.set_cons_succ]; done) | (simp [*]; done)); (with_reducible repeat (first | refine blk_drewN ?_ _ | refine blk_drew ?_ | refine blk_alloc ?_ _)); refine blk_put (cs := #[.bool ((Go.bits .and .u8 (rd l0 0) 1) == 1), .string (⟨#[]⟩ : ByteArray), .bool false, .string (⟨#[]⟩ : ByteArray), .int .i64 0, .int .i64 0]) ?_ 2 _ (by first | rfl | (simp only [*, List.setIfInBounds_toArray, List.set_cons_zero, List.set_cons_succ]; done) | (simp [*]; done)); (with_reducible repeat (first | refine blk_drewN ?_ _ | refine blk_drew ?_ | refine blk_alloc ?_ _)); refine blk_put (cs := #[.bool ((Go.bits .and .u8 (rd l0 0) 1) == 1), .string (⟨#[]⟩ : ByteArray), .bool false, .string (⟨#[]⟩ : ByteArray), .int .i64 0, .int .i64 0]) ?_ 1 _ (by first | rfl | (simp only [*, List.setIfInBounds_toArray, List.set_cons_zero, List.set_cons_succ]; done) | (simp [*]; done)); (with_reducible repeat (first | refine blk_drewN ?_ _ | refine blk_drew ?_ | refine blk_alloc ?_ _)); refine blk_put (cs := #[.bool false, .string (⟨#[]⟩ : ByteArray), .bool false, .string (⟨#[]⟩ : ByteArray), .int .i64 0, .int .i64 0]) ?_ 0 _ (by first | rfl | (simp only [*, List.setIfInBounds_toArray, List.set_cons_zero, List.set_cons_succ]; done) | (simp [*]; done)); (with_reducible repeat (first | refine blk_drewN ?_ _ | refine blk_drew ?_ | refine blk_alloc ?_ _)); exact BK262.out⟩, ⟨by repeat (first | (with_reducible first | exact HB.out | apply below_alloc | apply pw_below_drewN | apply below_drew1 | refine below_set ?_ GE250.out | refine below_set ?_ GE251.out | refine below_set ?_ GE262.out) | exact HB.out)⟩⟩
                              · rw [if_neg c51] at H
                                have c51b0 : ((Go.bits .and .u8 (rd l0 0) 1) == 1) = false := beq_eq_false_iff_ne.mpr c51
                                have c51b1 : ((Go.bits .and .u8 (rd l0 0) 1) != 1) = true := bne_iff_ne.mpr c51
                                (first | rw [c51b0] | (simp only [i64_w, i32_w]; rw [c51b0]) | skip)
                                have H' := Aside0.mk H
                                clear H
                                go_wp2
                                go_meet
                                case rel => exact ⟨_, (wrap64 (ji25 + t258)), ((⟨#[]⟩ : ByteArray)), (by first | rfl | (simp; done) | (simp only [← hji25] <;> (first | rfl | simp)) | (simp [*]; done)), H', ⟨by have := HJ2.out; have := HJ17.out; have := HJ29.out; first | omega | exact Nat.le_refl _⟩, ⟨by (with_reducible repeat (first | refine blk_drewN ?_ _ | refine blk_drew ?_ | refine blk_alloc ?_ _)); refine blk_far ?_ NB250_262.out _; (with_reducible repeat (first | refine blk_drewN ?_ _ | refine blk_drew ?_ | refine blk_alloc ?_ _)); refine blk_far ?_ NB250_262.out _; (with_reducible repeat (first | refine blk_drewN ?_ _ | refine blk_drew ?_ | refine blk_alloc ?_ _)); refine blk_far ?_ NB250_262.out _; (with_reducible repeat (first | refine blk_drewN ?_ _ | refine blk_drew ?_ | refine blk_alloc ?_ _)); refine blk_far ?_ NB250_262.out _; (with_reducible repeat (first | refine blk_drewN ?_ _ | refine blk_drew ?_ | refine blk_alloc ?_ _)); refine blk_far ?_ NB250_262.out _; (with_reducible repeat (first | refine blk_drewN ?_ _ | refine blk_drew ?_ | refine blk_alloc ?_ _)); refine blk_far ?_ NB250_262.out _; (with_reducible repeat (first | refine blk_drewN ?_ _ | refine blk_drew ?_ | refine blk_alloc ?_ _)); exact BK250.out⟩, ⟨by (with_reducible repeat (first | refine blk_drewN ?_ _ | refine blk_drew ?_ | refine blk_alloc ?_ _)); refine blk_far ?_ NB251_262.out _; (with_reducible repeat (first | refine blk_drewN ?_ _ | refine blk_drew ?_ | refine blk_alloc ?_ _)); refine blk_far ?_ NB251_262.out _; (with_reducible repeat (first | refine blk_drewN ?_ _ | refine blk_drew ?_ | refine blk_alloc ?_ _)); refine blk_far ?_ NB251_262.out _; (with_reducible repeat (first | refine blk_drewN ?_ _ | refine blk_drew ?_ | refine blk_alloc ?_ _)); refine blk_far ?_ NB251_262.out _; (with_reducible repeat (first | refine blk_drewN ?_ _ | refine blk_drew ?_ | refine blk_alloc ?_ _)); refine blk_far ?_ NB251_262.out _; (with_reducible repeat (first | refine blk_drewN ?_ _ | refine blk_drew ?_ | refine blk_alloc ?_ _)); refine blk_far ?_ NB251_262.out _; (with_reducible repeat (first | refine blk_drewN ?_ _ | refine blk_drew ?_ | refine blk_alloc ?_ _)); exact BK251.out⟩, ⟨by (with_reducible repeat (first | refine blk_drewN ?_ _ | refine blk_drew ?_ | refine blk_alloc ?_ _)); refine blk_put (cs := #[.bool ((Go.bits .and .u8 (rd l0 0) 1) == 1), .string (⟨#[]⟩ : ByteArray), .bool ((Go.bits .and .u8 (rd l0 0) 2) == 2), .string (⟨#[]⟩ : ByteArray), .int .i64 (wrap64 (a1 + t259)), .int .i64 0]) ?_ 5 _ (by first | rfl | (simp only [*, List.setIfInBounds_toArray, List.set_cons_zero, List.set_cons_succ]; done) | (simp [*]; done)); (with_reducible repeat (first | refine blk_drewN ?_ _ | refine blk_drew ?_ | refine blk_alloc ?_ _)); refine blk_put (cs := #[.bool ((Go.bits .and .u8 (rd l0 0) 1) == 1), .string (⟨#[]⟩ : ByteArray), .bool ((Go.bits .and .u8 (rd l0 0) 2) == 2), .string (⟨#[]⟩ : ByteArray), .int .i64 0, .int .i64 0]) ?_ 4 _ (by first | rfl | (simp only [*, List.setIfInBounds_toArray, List.set_cons_zero, List.set_cons_succ]; done) | (simp [*]; done)); (with_reducible repeat (first | refine blk_drewN ?_ _ | refine blk_drew ?_ | refine blk_alloc ?_ _)); refine blk_put (cs := #[.bool ((Go.bits .and .u8 (rd l0 0) 1) == 1), .string (⟨#[]⟩ : ByteArray), .bool ((Go.bits .and .u8 (rd l0 0) 2) == 2), .string (⟨#[]⟩ : ByteArray), .int .i64 0, .int .i64 0]) ?_ 3 _ (by first | rfl | (simp only [*, List.setIfInBounds_toArray, List.set_cons_zero, List.set_cons_succ]; done) | (simp [*]; done)); (with_reducible repeat (first | refine blk_drewN ?_ _ | refine blk_drew ?_ | refine blk_alloc ?_ _)); refine blk_put (cs := #[.bool ((Go.bits .and .u8 (rd l0 0) 1) == 1), .string (⟨#[]⟩ : ByteArray), .bool false, .string (⟨#[]⟩ : ByteArray), .int .i64 0, .int .i64 0]) ?_ 2 _ (by first | rfl | (simp only [*, List.setIfInBounds_toArray, List.set_cons_zero, List.set_cons_succ]; done) | (simp [*]; done)); (with_reducible repeat (first | refine blk_drewN ?_ _ | refine blk_drew ?_ | refine blk_alloc ?_ _)); refine blk_put (cs := #[.bool ((Go.bits .and .u8 (rd l0 0) 1) == 1), .string (⟨#[]⟩ : ByteArray), .bool false, .string (⟨#[]⟩ : ByteArray), .int .i64 0, .int .i64 0]) ?_ 1 _ (by first | rfl | (simp only [*, List.setIfInBounds_toArray, List.set_cons_zero, List.set_cons_succ]; done) | (simp [*]; done)); (with_reducible repeat (first | refine blk_drewN ?_ _ | refine blk_drew ?_ | refine blk_alloc ?_ _)); refine blk_put (cs := #[.bool false, .string (⟨#[]⟩ : ByteArray), .bool false, .string (⟨#[]⟩ : ByteArray), .int .i64 0, .int .i64 0]) ?_ 0 _ (by first | rfl | (simp only [*, List.setIfInBounds_toArray, List.set_cons_zero, List.set_cons_succ]; done) | (simp [*]; done)); (with_reducible repeat (first | refine blk_drewN ?_ _ | refine blk_drew ?_ | refine blk_alloc ?_ _)); exact BK262.out⟩, ⟨by repeat (first | (with_reducible first | exact HB.out | apply below_alloc | apply pw_below_drewN | apply below_drew1 | refine below_set ?_ GE250.out | refine below_set ?_ GE251.out | refine below_set ?_ GE262.out) | exact HB.out)⟩⟩
                            case rest =>
                              clear HC39
                              try clear c1
                              try clear c2
                              try clear p2
                              try clear q2
                              try clear hx2
                              try clear qi2
                              try clear c3
                              try clear c4
                              try clear c5
                              try clear c6
                              try clear p6
                              try clear c8
                              try clear c8b0
                              try clear c9
                              try clear c9b0
                              try clear c10
                              try clear c10b0
                              try clear c10b1
                              try clear c10b2
                              try clear c11
                              try clear c11b0
                              try clear c11b1
                              try clear c12
                              try clear c13
                              try clear c16
                              try clear c16b0
                              try clear c16b1
                              try clear c17
                              try clear c20
                              try clear c20b0
                              try clear c20b1
                              try clear c21
                              try clear c22
                              try clear p25
                              try clear q25
                              try clear hx25
                              try clear qi25
                              try clear c26
                              try clear c26b0
                              try clear c26b1
                              try clear p26
                              try clear q26
                              try clear hx26
                              try clear qi26
                              try clear c27
                              try clear c27b0
                              try clear c27b1
                              try clear c29
                              try clear c30
                              try clear c31
                              try clear c32
                              try clear c32b0
                              try clear c32b1
                              try clear c33
                              try clear c33b0
                              try clear c34
                              try clear c35
                              try clear c38
                              try clear c38b0
                              try clear c38b1
                              try clear c48
                              try clear c49
                              try clear c51
                              try clear c51b0
                              try clear c51b1
                              try clear c53
                              try clear c54
                              try clear hcz14_0
                              try clear hcz14_1
                              try clear hcz14_2
                              try clear hcz14_3
                              try clear hcz14_4
                              try clear hcz14_5
                              try clear hcz15_0
                              try clear hcz15_1
                              try clear hcz15_2
                              try clear hcz15_3
                              try clear hcz15_4
                              try clear hcz15_5
                              try clear hcz23_0
                              try clear hcz23_1
                              try clear hcz23_2
                              try clear hcz23_3
                              try clear hcz23_4
                              try clear hcz23_5
                              try clear hcz24_0
                              try clear hcz24_1
                              try clear hcz24_2
                              try clear hcz24_3
                              try clear hcz24_4
                              try clear hcz24_5
                              try clear hcz36_0
                              try clear hcz36_1
                              try clear hcz36_2
                              try clear hcz36_3
                              try clear hcz36_4
                              try clear hcz36_5
                              try clear hcz37_0
                              try clear hcz37_1
                              try clear hcz37_2
                              try clear hcz37_3
                              try clear hcz37_4
                              try clear hcz37_5
                              try clear hcz50_0
                              try clear hcz50_1
                              try clear hcz50_2
                              try clear hcz50_3
                              try clear hcz50_4
                              try clear hcz50_5
                              try clear hcz55_0
                              try clear hcz55_1
                              try clear hcz55_2
                              try clear hcz55_3
                              try clear hcz55_4
                              try clear hcz55_5
                              try clear hcz7_0
                              try clear hcz7_1
                              try clear hcz7_2
                              try clear hcz7_3
                              try clear hcz7_4
                              try clear hcz7_5
                              try clear hfz14_0
                              try clear hfz14_1
                              try clear hfz14_2
                              try clear hfz14_3
                              try clear hfz14_4
                              try clear hfz14_5
                              try clear hfz15_0
                              try clear hfz15_1
                              try clear hfz15_2
                              try clear hfz15_3
                              try clear hfz15_4
                              try clear hfz15_5
                              try clear hfz23_0
                              try clear hfz23_1
                              try clear hfz23_2
                              try clear hfz23_3
                              try clear hfz23_4
                              try clear hfz23_5
                              try clear hfz24_0
                              try clear hfz24_1
                              try clear hfz24_2
                              try clear hfz24_3
                              try clear hfz24_4
                              try clear hfz24_5
                              try clear hfz36_0
                              try clear hfz36_1
                              try clear hfz36_2
                              try clear hfz36_3
                              try clear hfz36_4
                              try clear hfz36_5
                              try clear hfz37_0
                              try clear hfz37_1
                              try clear hfz37_2
                              try clear hfz37_3
                              try clear hfz37_4
                              try clear hfz37_5
                              try clear hfz50_0
                              try clear hfz50_1
                              try clear hfz50_2
                              try clear hfz50_3
                              try clear hfz50_4
                              try clear hfz50_5
                              try clear hfz55_0
                              try clear hfz55_1
                              try clear hfz55_2
                              try clear hfz55_3
                              try clear hfz55_4
                              try clear hfz55_5
                              try clear hfz7_0
                              try clear hfz7_1
                              try clear hfz7_2
                              try clear hfz7_3
                              try clear hfz7_4
                              try clear hfz7_5
                              try clear hx252_0
                              try clear hx260_0
                              try clear hx261_0
                              try clear p2
                              try clear p25
                              try clear p252
                              try clear p260
                              try clear p261
                              try clear p6
                              try clear q2
                              try clear q25
                              try clear q252
                              try clear q260
                              try clear q261
                              obtain ⟨kq, x10_38, x263001_38, rfl, HA, HJ38, BK250, BK251, BK262, HB⟩ := hcut
                              cases kq with
                              | zero => exact absurd HA.out (by simp [bollardref12_Decode.j3])
                              | succ kj38 =>
                                have H := HA.out
                                clear HA
                                simp only [bollardref12_Decode.j3] at H
                                have HC56 := Aside0.mk H
                                clear H
                                go_upto_region 16 with (fail)
                                go_cut [105] (fun v105 wc => ∃ (kq : Nat) (x105_55 : Bool), v105 = .bool x105_55 ∧ Aside0 (bollardref12_Decode.j4 kq l0 x10_38 x105_55 false (⟨#[]⟩ : ByteArray) false (⟨#[]⟩ : ByteArray) 0 0 ((Go.bits .and .u8 (rd l0 0) 1) == 1) x263001_38 ((Go.bits .and .u8 (rd l0 0) 2) == 2) (⟨#[]⟩ : ByteArray) (wrap64 (a1 + t259)) (wrap64 (t254)) = some (r1, r2, r3, r4, r5, r6, r7, r8)) ∧ Aside0 (kq ≤ kj38) ∧ Aside0 (wc.heap[gb250]? = some (.cells #[.bool false, .string (⟨#[]⟩ : ByteArray), .bool false, .string (⟨#[]⟩ : ByteArray), .int .i64 0, .int .i64 0] 23 (0, 0))) ∧ Aside0 (wc.heap[gb251]? = some (.cells #[.bool false, .string (⟨#[]⟩ : ByteArray), .bool false, .string (⟨#[]⟩ : ByteArray), .int .i64 0, .int .i64 0] 23 (0, 0))) ∧ Aside0 (wc.heap[gb262]? = some (.cells #[.bool ((Go.bits .and .u8 (rd l0 0) 1) == 1), .string x263001_38, .bool ((Go.bits .and .u8 (rd l0 0) 2) == 2), .string (⟨#[]⟩ : ByteArray), .int .i64 (wrap64 (a1 + t259)), .int .i64 (wrap64 (t254))] 23 (0, 0))) ∧ Aside0 (Below w.heap.size w wc))
                                case first =>
                                  have H := HC56.out
                                  clear HC56
                                  by_cases c57 : x10_38 ≥ 0
                                  · rw [if_pos c57] at H
                                    have c57b0 : decide (0 ≤ x10_38) = true := decide_eq_true c57
                                    clear c57
                                    (first | rw [c57b0] | (simp only [i64_w, i32_w]; rw [c57b0]) | skip)
                                    have H' := Aside0.mk H
                                    clear H
                                    have hnb58 := NB262_250.out
                                    have hnc58 := NB250_262.out
                                    have hnb59 := NB262_251.out
                                    have hnc59 := NB251_262.out
                                    have hcz60_0 : wc.cell? ⟨gb262, 0, none⟩ = some (.bool ((Go.bits .and .u8 (rd l0 0) 1) == 1)) := (blk_cell BK262.out 0).trans rfl
                                    have hcz60_1 : wc.cell? ⟨gb262, 1, none⟩ = some (.string x263001_38) := (blk_cell BK262.out 1).trans rfl
                                    have hcz60_2 : wc.cell? ⟨gb262, 2, none⟩ = some (.bool ((Go.bits .and .u8 (rd l0 0) 2) == 2)) := (blk_cell BK262.out 2).trans rfl
                                    have hcz60_3 : wc.cell? ⟨gb262, 3, none⟩ = some (.string (⟨#[]⟩ : ByteArray)) := (blk_cell BK262.out 3).trans rfl
                                    have hcz60_4 : wc.cell? ⟨gb262, 4, none⟩ = some (.int .i64 (wrap64 (a1 + t259))) := (blk_cell BK262.out 4).trans rfl
                                    have hcz60_5 : wc.cell? ⟨gb262, 5, none⟩ = some (.int .i64 (wrap64 (t254))) := (blk_cell BK262.out 5).trans rfl
                                    have hfz60_0 := blk_frozen BK262.out 0
                                    have hfz60_1 := blk_frozen BK262.out 1
                                    have hfz60_2 := blk_frozen BK262.out 2
                                    have hfz60_3 := blk_frozen BK262.out 3
                                    have hfz60_4 := blk_frozen BK262.out 4
                                    have hfz60_5 := blk_frozen BK262.out 5
                                    go_wp2
                                    go_meet
                                    case rel => exact ⟨_, (((Go.bits .and .u8 (rd l0 0) 2) == 2)), (by first | rfl | (simp; done) | (simp [*]; done) | exact congrArg Value.bool (ne_empty _) | exact congrArg Value.bool (eq_empty _)), H', ⟨by have := HJ2.out; have := HJ17.out; have := HJ29.out; have := HJ38.out; first | omega | exact Nat.le_refl _⟩, ⟨by (with_reducible repeat (first | refine blk_drewN ?_ _ | refine blk_drew ?_ | refine blk_alloc ?_ _)); exact BK250.out⟩, ⟨by (with_reducible repeat (first | refine blk_drewN ?_ _ | refine blk_drew ?_ | refine blk_alloc ?_ _)); exact BK251.out⟩, ⟨by (with_reducible repeat (first | refine blk_drewN ?_ _ | refine blk_drew ?_ | refine blk_alloc ?_ _)); exact BK262.out⟩, ⟨by repeat (first | (with_reducible first | exact HB.out | apply below_alloc | apply pw_below_drewN | apply below_drew1 | refine below_set ?_ GE250.out | refine below_set ?_ GE251.out | refine below_set ?_ GE262.out) | exact HB.out)⟩⟩
                                  · rw [if_neg c57] at H
                                    have c57b0 : decide (0 ≤ x10_38) = false := decide_eq_false c57
                                    clear c57
                                    (first | rw [c57b0] | (simp only [i64_w, i32_w]; rw [c57b0]) | skip)
                                    have H' := Aside0.mk H
                                    clear H
                                    go_wp2
                                    go_meet
                                    case rel => exact ⟨_, (false), (by first | rfl | (simp; done) | (simp [*]; done) | exact congrArg Value.bool (ne_empty _) | exact congrArg Value.bool (eq_empty _)), H', ⟨by have := HJ2.out; have := HJ17.out; have := HJ29.out; have := HJ38.out; first | omega | exact Nat.le_refl _⟩, ⟨by (with_reducible repeat (first | refine blk_drewN ?_ _ | refine blk_drew ?_ | refine blk_alloc ?_ _)); exact BK250.out⟩, ⟨by (with_reducible repeat (first | refine blk_drewN ?_ _ | refine blk_drew ?_ | refine blk_alloc ?_ _)); exact BK251.out⟩, ⟨by (with_reducible repeat (first | refine blk_drewN ?_ _ | refine blk_drew ?_ | refine blk_alloc ?_ _)); exact BK262.out⟩, ⟨by repeat (first | (with_reducible first | exact HB.out | apply below_alloc | apply pw_below_drewN | apply below_drew1 | refine below_set ?_ GE250.out | refine below_set ?_ GE251.out | refine below_set ?_ GE262.out) | exact HB.out)⟩⟩
                                case rest =>
                                  clear HC56
                                  try clear c1
                                  try clear c2
                                  try clear p2
                                  try clear q2
                                  try clear hx2
                                  try clear qi2
                                  try clear c3
                                  try clear c4
                                  try clear c5
                                  try clear c6
                                  try clear p6
                                  try clear c8
                                  try clear c8b0
                                  try clear c9
                                  try clear c9b0
                                  try clear c10
                                  try clear c10b0
                                  try clear c10b1
                                  try clear c10b2
                                  try clear c11
                                  try clear c11b0
                                  try clear c11b1
                                  try clear c12
                                  try clear c13
                                  try clear c16
                                  try clear c16b0
                                  try clear c16b1
                                  try clear c17
                                  try clear c20
                                  try clear c20b0
                                  try clear c20b1
                                  try clear c21
                                  try clear c22
                                  try clear p25
                                  try clear q25
                                  try clear hx25
                                  try clear qi25
                                  try clear c26
                                  try clear c26b0
                                  try clear c26b1
                                  try clear p26
                                  try clear q26
                                  try clear hx26
                                  try clear qi26
                                  try clear c27
                                  try clear c27b0
                                  try clear c27b1
                                  try clear c29
                                  try clear c30
                                  try clear c31
                                  try clear c32
                                  try clear c32b0
                                  try clear c32b1
                                  try clear c33
                                  try clear c33b0
                                  try clear c34
                                  try clear c35
                                  try clear c38
                                  try clear c38b0
                                  try clear c38b1
                                  try clear c48
                                  try clear c49
                                  try clear c51
                                  try clear c51b0
                                  try clear c51b1
                                  try clear c53
                                  try clear c54
                                  try clear c57
                                  try clear c57b0
                                  try clear c58
                                  try clear c59
                                  try clear hcz14_0
                                  try clear hcz14_1
                                  try clear hcz14_2
                                  try clear hcz14_3
                                  try clear hcz14_4
                                  try clear hcz14_5
                                  try clear hcz15_0
                                  try clear hcz15_1
                                  try clear hcz15_2
                                  try clear hcz15_3
                                  try clear hcz15_4
                                  try clear hcz15_5
                                  try clear hcz23_0
                                  try clear hcz23_1
                                  try clear hcz23_2
                                  try clear hcz23_3
                                  try clear hcz23_4
                                  try clear hcz23_5
                                  try clear hcz24_0
                                  try clear hcz24_1
                                  try clear hcz24_2
                                  try clear hcz24_3
                                  try clear hcz24_4
                                  try clear hcz24_5
                                  try clear hcz36_0
                                  try clear hcz36_1
                                  try clear hcz36_2
                                  try clear hcz36_3
                                  try clear hcz36_4
                                  try clear hcz36_5
                                  try clear hcz37_0
                                  try clear hcz37_1
                                  try clear hcz37_2
                                  try clear hcz37_3
                                  try clear hcz37_4
                                  try clear hcz37_5
                                  try clear hcz50_0
                                  try clear hcz50_1
                                  try clear hcz50_2
                                  try clear hcz50_3
                                  try clear hcz50_4
                                  try clear hcz50_5
                                  try clear hcz55_0
                                  try clear hcz55_1
                                  try clear hcz55_2
                                  try clear hcz55_3
                                  try clear hcz55_4
                                  try clear hcz55_5
                                  try clear hcz60_0
                                  try clear hcz60_1
                                  try clear hcz60_2
                                  try clear hcz60_3
                                  try clear hcz60_4
                                  try clear hcz60_5
                                  try clear hcz7_0
                                  try clear hcz7_1
                                  try clear hcz7_2
                                  try clear hcz7_3
                                  try clear hcz7_4
                                  try clear hcz7_5
                                  try clear hfz14_0
                                  try clear hfz14_1
                                  try clear hfz14_2
                                  try clear hfz14_3
                                  try clear hfz14_4
                                  try clear hfz14_5
                                  try clear hfz15_0
                                  try clear hfz15_1
                                  try clear hfz15_2
                                  try clear hfz15_3
                                  try clear hfz15_4
                                  try clear hfz15_5
                                  try clear hfz23_0
                                  try clear hfz23_1
                                  try clear hfz23_2
                                  try clear hfz23_3
                                  try clear hfz23_4
                                  try clear hfz23_5
                                  try clear hfz24_0
                                  try clear hfz24_1
                                  try clear hfz24_2
                                  try clear hfz24_3
                                  try clear hfz24_4
                                  try clear hfz24_5
                                  try clear hfz36_0
                                  try clear hfz36_1
                                  try clear hfz36_2
                                  try clear hfz36_3
                                  try clear hfz36_4
                                  try clear hfz36_5
                                  try clear hfz37_0
                                  try clear hfz37_1
                                  try clear hfz37_2
                                  try clear hfz37_3
                                  try clear hfz37_4
                                  try clear hfz37_5
                                  try clear hfz50_0
                                  try clear hfz50_1
                                  try clear hfz50_2
                                  try clear hfz50_3
                                  try clear hfz50_4
                                  try clear hfz50_5
                                  try clear hfz55_0
                                  try clear hfz55_1
                                  try clear hfz55_2
                                  try clear hfz55_3
                                  try clear hfz55_4
                                  try clear hfz55_5
                                  try clear hfz60_0
                                  try clear hfz60_1
                                  try clear hfz60_2
                                  try clear hfz60_3
                                  try clear hfz60_4
                                  try clear hfz60_5
                                  try clear hfz7_0
                                  try clear hfz7_1
                                  try clear hfz7_2
                                  try clear hfz7_3
                                  try clear hfz7_4
                                  try clear hfz7_5
                                  try clear hx252_0
                                  try clear hx260_0
                                  try clear hx261_0
                                  try clear p2
                                  try clear p25
                                  try clear p252
                                  try clear p26
                                  try clear p260
                                  try clear p261
                                  try clear p6
                                  try clear q2
                                  try clear q25
                                  try clear q252
                                  try clear q26
                                  try clear q260
                                  try clear q261
                                  obtain ⟨kq, x105_55, rfl, HA, HJ55, BK250, BK251, BK262, HB⟩ := hcut
                                  cases kq with
                                  | zero => exact absurd HA.out (by simp [bollardref12_Decode.j4])
                                  | succ kj55 =>
                                    have H := HA.out
                                    clear HA
                                    simp only [bollardref12_Decode.j4] at H
                                    by_cases c61 : x105_55 = true
                                    · subst c61
                                      have H1 : ((bollardref12_text.f kj55 l0 x10_38).bind fun bt265 => (if bt265.2 < 0 then (some (false, (⟨#[]⟩ : ByteArray), false, (⟨#[]⟩ : ByteArray), 0, 0, 0, 10)) else (some (((Go.bits .and .u8 (rd l0 0) 1) == 1), x263001_38, ((Go.bits .and .u8 (rd l0 0) 2) == 2), bt265.1, (wrap64 (a1 + t259)), (wrap64 (t254)), bt265.2, 0)))) = some (r1, r2, r3, r4, r5, r6, r7, r8) := by rw [if_pos rfl] at H; exact H
                                      clear H
                                      have H := H1
                                      clear H1
                                      replace H := Option.bind_eq_some_iff.mp H
                                      obtain ⟨⟨t265, t266⟩, A620, H⟩ := H
                                      replace H : (if t266 < 0 then (some (false, (⟨#[]⟩ : ByteArray), false, (⟨#[]⟩ : ByteArray), 0, 0, 0, 10)) else (some (((Go.bits .and .u8 (rd l0 0) 1) == 1), x263001_38, ((Go.bits .and .u8 (rd l0 0) 2) == 2), t265, (wrap64 (a1 + t259)), (wrap64 (t254)), t266, 0))) = some (r1, r2, r3, r4, r5, r6, r7, r8) := H
                                      have A62 := Aside0.mk A620
                                      clear A620
                                      by_cases c63 : t266 < 0
                                      · rw [if_pos c63] at H
                                        have c63b0 : decide (t266 < 0) = true := decide_eq_true c63
                                        clear c63
                                        simp only [Option.some.injEq, Prod.mk.injEq] at H
                                        obtain ⟨rfl, rfl, rfl, rfl, rfl, rfl, rfl, rfl⟩ := H
                                        go_wp2_with (first | ((with_reducible refine gate_callee (f := 31) rfl ?_); refine goesL_ (some 109) rfl rfl Try.func31 (by kernel_rfl) rfl #[.slice (some ad260) l0.length c0, .int .i64 x10_38] rfl (by (try simp only [List.map_toArray, List.map_cons, List.map_nil]); first | done | rfl | (simp only [List.length_drop, List.length_take]; rfl)) ?_; (with_reducible refine (bollardref12_text.calls kj55 _ _ l0 x10_38 t265 t266 _ ?side1 ?side2 A62.out).mono ?_); (case side1 => repeat (first | exact (Kd.C_below HR0.out HB.out) | (with_reducible refine Kd.C_alloc ?_ _) | (with_reducible refine Kd.C_drewN ?_ _) | (with_reducible refine Kd.C_drew ?_))); (case side2 => exact HC0.out); rintro e w' ⟨rfl, ⟨nd, rfl⟩⟩; refine ⟨_, rfl, ?_⟩; (try (rw [drewN_self wc]; generalize hq_ : World.drewN wc _ = wc; have n0_ : Aside0 (wc.heap[gb250]? = some (.cells #[.bool false, .string (⟨#[]⟩ : ByteArray), .bool false, .string (⟨#[]⟩ : ByteArray), .int .i64 0, .int .i64 0] 23 (0, 0))) := ⟨by rw [← hq_]; exact (by (with_reducible repeat (first | refine blk_drewN ?_ _ | refine blk_drew ?_ | refine blk_alloc ?_ _)); exact BK250.out)⟩; have n1_ : Aside0 (wc.heap[gb251]? = some (.cells #[.bool false, .string (⟨#[]⟩ : ByteArray), .bool false, .string (⟨#[]⟩ : ByteArray), .int .i64 0, .int .i64 0] 23 (0, 0))) := ⟨by rw [← hq_]; exact (by (with_reducible repeat (first | refine blk_drewN ?_ _ | refine blk_drew ?_ | refine blk_alloc ?_ _)); exact BK251.out)⟩; have n2_ : Aside0 (wc.heap[gb262]? = some (.cells #[.bool ((Go.bits .and .u8 (rd l0 0) 1) == 1), .string x263001_38, .bool ((Go.bits .and .u8 (rd l0 0) 2) == 2), .string (⟨#[]⟩ : ByteArray), .int .i64 (wrap64 (a1 + t259)), .int .i64 (wrap64 (t254))] 23 (0, 0))) := ⟨by rw [← hq_]; exact (by (with_reducible repeat (first | refine blk_drewN ?_ _ | refine blk_drew ?_ | refine blk_alloc ?_ _)); exact BK262.out)⟩; have n3_ : Aside0 (Below w.heap.size w wc) := ⟨by rw [← hq_]; exact (by repeat (first | (with_reducible first | exact HB.out | apply below_alloc | apply pw_below_drewN | apply below_drew1 | refine below_set ?_ GE250.out | refine below_set ?_ GE251.out | refine below_set ?_ GE262.out) | exact HB.out))⟩; clear BK250 BK251 BK262 HB hq_; have BK250 := n0_; have BK251 := n1_; have BK262 := n2_; have HB := n3_; clear n0_ n1_ n2_ n3_)); have hnb64 := NB262_250.out; have hnc64 := NB250_262.out; have hnb65 := NB262_251.out; have hnc65 := NB251_262.out; have hcz66_0 : wc.cell? ⟨gb262, 0, none⟩ = some (.bool ((Go.bits .and .u8 (rd l0 0) 1) == 1)) := (blk_cell BK262.out 0).trans rfl; have hcz66_1 : wc.cell? ⟨gb262, 1, none⟩ = some (.string x263001_38) := (blk_cell BK262.out 1).trans rfl; have hcz66_2 : wc.cell? ⟨gb262, 2, none⟩ = some (.bool ((Go.bits .and .u8 (rd l0 0) 2) == 2)) := (blk_cell BK262.out 2).trans rfl; have hcz66_3 : wc.cell? ⟨gb262, 3, none⟩ = some (.string (⟨#[]⟩ : ByteArray)) := (blk_cell BK262.out 3).trans rfl; have hcz66_4 : wc.cell? ⟨gb262, 4, none⟩ = some (.int .i64 (wrap64 (a1 + t259))) := (blk_cell BK262.out 4).trans rfl; have hcz66_5 : wc.cell? ⟨gb262, 5, none⟩ = some (.int .i64 (wrap64 (t254))) := (blk_cell BK262.out 5).trans rfl; have hfz66_0 := blk_frozen BK262.out 0; have hfz66_1 := blk_frozen BK262.out 1; have hfz66_2 := blk_frozen BK262.out 2; have hfz66_3 := blk_frozen BK262.out 3; have hfz66_4 := blk_frozen BK262.out 4; have hfz66_5 := blk_frozen BK262.out 5; have hnb67 := NB251_250.out; have hnc67 := NB250_251.out; have hcz68_0 : wc.cell? ⟨gb251, 0, none⟩ = some (.bool false) := (blk_cell BK251.out 0).trans rfl; have hcz68_1 : wc.cell? ⟨gb251, 1, none⟩ = some (.string (⟨#[]⟩ : ByteArray)) := (blk_cell BK251.out 1).trans rfl; have hcz68_2 : wc.cell? ⟨gb251, 2, none⟩ = some (.bool false) := (blk_cell BK251.out 2).trans rfl; have hcz68_3 : wc.cell? ⟨gb251, 3, none⟩ = some (.string (⟨#[]⟩ : ByteArray)) := (blk_cell BK251.out 3).trans rfl; have hcz68_4 : wc.cell? ⟨gb251, 4, none⟩ = some (.int .i64 0) := (blk_cell BK251.out 4).trans rfl; have hcz68_5 : wc.cell? ⟨gb251, 5, none⟩ = some (.int .i64 0) := (blk_cell BK251.out 5).trans rfl; have hfz68_0 := blk_frozen BK251.out 0; have hfz68_1 := blk_frozen BK251.out 1; have hfz68_2 := blk_frozen BK251.out 2; have hfz68_3 := blk_frozen BK251.out 3; have hfz68_4 := blk_frozen BK251.out 4; have hfz68_5 := blk_frozen BK251.out 5; have hcz69_0 : wc.cell? ⟨gb250, 0, none⟩ = some (.bool false) := (blk_cell BK250.out 0).trans rfl; have hcz69_1 : wc.cell? ⟨gb250, 1, none⟩ = some (.string (⟨#[]⟩ : ByteArray)) := (blk_cell BK250.out 1).trans rfl; have hcz69_2 : wc.cell? ⟨gb250, 2, none⟩ = some (.bool false) := (blk_cell BK250.out 2).trans rfl; have hcz69_3 : wc.cell? ⟨gb250, 3, none⟩ = some (.string (⟨#[]⟩ : ByteArray)) := (blk_cell BK250.out 3).trans rfl; have hcz69_4 : wc.cell? ⟨gb250, 4, none⟩ = some (.int .i64 0) := (blk_cell BK250.out 4).trans rfl; have hcz69_5 : wc.cell? ⟨gb250, 5, none⟩ = some (.int .i64 0) := (blk_cell BK250.out 5).trans rfl; have hfz69_0 := blk_frozen BK250.out 0; have hfz69_1 := blk_frozen BK250.out 1; have hfz69_2 := blk_frozen BK250.out 2; have hfz69_3 := blk_frozen BK250.out 3; have hfz69_4 := blk_frozen BK250.out 4; have hfz69_5 := blk_frozen BK250.out 5))
                                        refine bodyPost_ret (results_ctt rfl _ _ gb250 23 #[.bool false, .string (⟨#[]⟩ : ByteArray), .bool false, .string (⟨#[]⟩ : ByteArray), .int .i64 0, .int .i64 0] (0, 0) _ rfl (by (with_reducible repeat (first | refine blk_drewN ?_ _ | refine blk_drew ?_ | refine blk_alloc ?_ _)); refine blk_put (cs := #[.bool false, .string (⟨#[]⟩ : ByteArray), .bool false, .string (⟨#[]⟩ : ByteArray), .int .i64 0, .int .i64 0]) ?_ 5 _ (by first | rfl | (simp only [*, List.setIfInBounds_toArray, List.set_cons_zero, List.set_cons_succ]; done) | (simp [*]; done)); (with_reducible repeat (first | refine blk_drewN ?_ _ | refine blk_drew ?_ | refine blk_alloc ?_ _)); refine blk_put (cs := #[.bool false, .string (⟨#[]⟩ : ByteArray), .bool false, .string (⟨#[]⟩ : ByteArray), .int .i64 0, .int .i64 0]) ?_ 4 _ (by first | rfl | (simp only [*, List.setIfInBounds_toArray, List.set_cons_zero, List.set_cons_succ]; done) | (simp [*]; done)); (with_reducible repeat (first | refine blk_drewN ?_ _ | refine blk_drew ?_ | refine blk_alloc ?_ _)); refine blk_put (cs := #[.bool false, .string (⟨#[]⟩ : ByteArray), .bool false, .string (⟨#[]⟩ : ByteArray), .int .i64 0, .int .i64 0]) ?_ 3 _ (by first | rfl | (simp only [*, List.setIfInBounds_toArray, List.set_cons_zero, List.set_cons_succ]; done) | (simp [*]; done)); (with_reducible repeat (first | refine blk_drewN ?_ _ | refine blk_drew ?_ | refine blk_alloc ?_ _)); refine blk_put (cs := #[.bool false, .string (⟨#[]⟩ : ByteArray), .bool false, .string (⟨#[]⟩ : ByteArray), .int .i64 0, .int .i64 0]) ?_ 2 _ (by first | rfl | (simp only [*, List.setIfInBounds_toArray, List.set_cons_zero, List.set_cons_succ]; done) | (simp [*]; done)); (with_reducible repeat (first | refine blk_drewN ?_ _ | refine blk_drew ?_ | refine blk_alloc ?_ _)); refine blk_put (cs := #[.bool false, .string (⟨#[]⟩ : ByteArray), .bool false, .string (⟨#[]⟩ : ByteArray), .int .i64 0, .int .i64 0]) ?_ 1 _ (by first | rfl | (simp only [*, List.setIfInBounds_toArray, List.set_cons_zero, List.set_cons_succ]; done) | (simp [*]; done)); (with_reducible repeat (first | refine blk_drewN ?_ _ | refine blk_drew ?_ | refine blk_alloc ?_ _)); refine blk_put (cs := #[.bool false, .string (⟨#[]⟩ : ByteArray), .bool false, .string (⟨#[]⟩ : ByteArray), .int .i64 0, .int .i64 0]) ?_ 0 _ (by first | rfl | (simp only [*, List.setIfInBounds_toArray, List.set_cons_zero, List.set_cons_succ]; done) | (simp [*]; done)); (with_reducible repeat (first | refine blk_drewN ?_ _ | refine blk_drew ?_ | refine blk_alloc ?_ _)); refine blk_far ?_ NB250_262.out _; (with_reducible repeat (first | refine blk_drewN ?_ _ | refine blk_drew ?_ | refine blk_alloc ?_ _)); exact BK250.out) Try.underlying23 rfl (by kernel_rfl)) rfl ?_
                                        exact ⟨by first | rfl | (simp [errW_none, errW_some] <;> rfl) | (simp only [← hji25]; first | rfl | (simp [errW_none, errW_some] <;> rfl)) | (simp [*, errW_none, errW_some] <;> rfl), by repeat (first | (with_reducible first | exact HB.out | apply below_alloc | apply pw_below_drewN | apply below_drew1 | refine below_set ?_ GE250.out | refine below_set ?_ GE251.out | refine below_set ?_ GE262.out) | exact HB.out)⟩
                                      · rw [if_neg c63] at H
                                        have c63b0 : decide (t266 < 0) = false := decide_eq_false c63
                                        clear c63
                                        simp only [Option.some.injEq, Prod.mk.injEq] at H
                                        obtain ⟨rfl, rfl, rfl, rfl, rfl, rfl, rfl, rfl⟩ := H
                                        go_wp2_with (first | ((with_reducible refine gate_callee (f := 31) rfl ?_); refine goesL_ (some 109) rfl rfl Try.func31 (by kernel_rfl) rfl #[.slice (some ad260) l0.length c0, .int .i64 x10_38] rfl (by (try simp only [List.map_toArray, List.map_cons, List.map_nil]); first | done | rfl | (simp only [List.length_drop, List.length_take]; rfl)) ?_; (with_reducible refine (bollardref12_text.calls kj55 _ _ l0 x10_38 t265 t266 _ ?side1 ?side2 A62.out).mono ?_); (case side1 => repeat (first | exact (Kd.C_below HR0.out HB.out) | (with_reducible refine Kd.C_alloc ?_ _) | (with_reducible refine Kd.C_drewN ?_ _) | (with_reducible refine Kd.C_drew ?_))); (case side2 => exact HC0.out); rintro e w' ⟨rfl, ⟨nd, rfl⟩⟩; refine ⟨_, rfl, ?_⟩; (try (rw [drewN_self wc]; generalize hq_ : World.drewN wc _ = wc; have n0_ : Aside0 (wc.heap[gb250]? = some (.cells #[.bool false, .string (⟨#[]⟩ : ByteArray), .bool false, .string (⟨#[]⟩ : ByteArray), .int .i64 0, .int .i64 0] 23 (0, 0))) := ⟨by rw [← hq_]; exact (by (with_reducible repeat (first | refine blk_drewN ?_ _ | refine blk_drew ?_ | refine blk_alloc ?_ _)); exact BK250.out)⟩; have n1_ : Aside0 (wc.heap[gb251]? = some (.cells #[.bool false, .string (⟨#[]⟩ : ByteArray), .bool false, .string (⟨#[]⟩ : ByteArray), .int .i64 0, .int .i64 0] 23 (0, 0))) := ⟨by rw [← hq_]; exact (by (with_reducible repeat (first | refine blk_drewN ?_ _ | refine blk_drew ?_ | refine blk_alloc ?_ _)); exact BK251.out)⟩; have n2_ : Aside0 (wc.heap[gb262]? = some (.cells #[.bool ((Go.bits .and .u8 (rd l0 0) 1) == 1), .string x263001_38, .bool ((Go.bits .and .u8 (rd l0 0) 2) == 2), .string (⟨#[]⟩ : ByteArray), .int .i64 (wrap64 (a1 + t259)), .int .i64 (wrap64 (t254))] 23 (0, 0))) := ⟨by rw [← hq_]; exact (by (with_reducible repeat (first | refine blk_drewN ?_ _ | refine blk_drew ?_ | refine blk_alloc ?_ _)); exact BK262.out)⟩; have n3_ : Aside0 (Below w.heap.size w wc) := ⟨by rw [← hq_]; exact (by repeat (first | (with_reducible first | exact HB.out | apply below_alloc | apply pw_below_drewN | apply below_drew1 | refine below_set ?_ GE250.out | refine below_set ?_ GE251.out | refine below_set ?_ GE262.out) | exact HB.out))⟩; clear BK250 BK251 BK262 HB hq_; have BK250 := n0_; have BK251 := n1_; have BK262 := n2_; have HB := n3_; clear n0_ n1_ n2_ n3_)); have hnb70 := NB262_250.out; have hnc70 := NB250_262.out; have hnb71 := NB262_251.out; have hnc71 := NB251_262.out; have hcz72_0 : wc.cell? ⟨gb262, 0, none⟩ = some (.bool ((Go.bits .and .u8 (rd l0 0) 1) == 1)) := (blk_cell BK262.out 0).trans rfl; have hcz72_1 : wc.cell? ⟨gb262, 1, none⟩ = some (.string x263001_38) := (blk_cell BK262.out 1).trans rfl; have hcz72_2 : wc.cell? ⟨gb262, 2, none⟩ = some (.bool ((Go.bits .and .u8 (rd l0 0) 2) == 2)) := (blk_cell BK262.out 2).trans rfl; have hcz72_3 : wc.cell? ⟨gb262, 3, none⟩ = some (.string (⟨#[]⟩ : ByteArray)) := (blk_cell BK262.out 3).trans rfl; have hcz72_4 : wc.cell? ⟨gb262, 4, none⟩ = some (.int .i64 (wrap64 (a1 + t259))) := (blk_cell BK262.out 4).trans rfl; have hcz72_5 : wc.cell? ⟨gb262, 5, none⟩ = some (.int .i64 (wrap64 (t254))) := (blk_cell BK262.out 5).trans rfl; have hfz72_0 := blk_frozen BK262.out 0; have hfz72_1 := blk_frozen BK262.out 1; have hfz72_2 := blk_frozen BK262.out 2; have hfz72_3 := blk_frozen BK262.out 3; have hfz72_4 := blk_frozen BK262.out 4; have hfz72_5 := blk_frozen BK262.out 5; have hnb73 := NB250_251.out; have hnc73 := NB251_250.out; have hcz74_0 : wc.cell? ⟨gb250, 0, none⟩ = some (.bool false) := (blk_cell BK250.out 0).trans rfl; have hcz74_1 : wc.cell? ⟨gb250, 1, none⟩ = some (.string (⟨#[]⟩ : ByteArray)) := (blk_cell BK250.out 1).trans rfl; have hcz74_2 : wc.cell? ⟨gb250, 2, none⟩ = some (.bool false) := (blk_cell BK250.out 2).trans rfl; have hcz74_3 : wc.cell? ⟨gb250, 3, none⟩ = some (.string (⟨#[]⟩ : ByteArray)) := (blk_cell BK250.out 3).trans rfl; have hcz74_4 : wc.cell? ⟨gb250, 4, none⟩ = some (.int .i64 0) := (blk_cell BK250.out 4).trans rfl; have hcz74_5 : wc.cell? ⟨gb250, 5, none⟩ = some (.int .i64 0) := (blk_cell BK250.out 5).trans rfl; have hfz74_0 := blk_frozen BK250.out 0; have hfz74_1 := blk_frozen BK250.out 1; have hfz74_2 := blk_frozen BK250.out 2; have hfz74_3 := blk_frozen BK250.out 3; have hfz74_4 := blk_frozen BK250.out 4; have hfz74_5 := blk_frozen BK250.out 5))
                                        refine bodyPost_ret (results_ctt rfl _ _ gb250 23 #[.bool ((Go.bits .and .u8 (rd l0 0) 1) == 1), .string x263001_38, .bool ((Go.bits .and .u8 (rd l0 0) 2) == 2), .string t265, .int .i64 (wrap64 (a1 + t259)), .int .i64 (wrap64 (t254))] (0, 0) _ rfl (by (with_reducible repeat (first | refine blk_drewN ?_ _ | refine blk_drew ?_ | refine blk_alloc ?_ _)); refine blk_put (cs := #[.bool ((Go.bits .and .u8 (rd l0 0) 1) == 1), .string x263001_38, .bool ((Go.bits .and .u8 (rd l0 0) 2) == 2), .string t265, .int .i64 (wrap64 (a1 + t259)), .int .i64 0]) ?_ 5 _ (by first | rfl | (simp only [*, List.setIfInBounds_toArray, List.set_cons_zero, List.set_cons_succ]; done) | (simp [*]; done)); (with_reducible repeat (first | refine blk_drewN ?_ _ | refine blk_drew ?_ | refine blk_alloc ?_ _)); refine blk_put (cs := #[.bool ((Go.bits .and .u8 (rd l0 0) 1) == 1), .string x263001_38, .bool ((Go.bits .and .u8 (rd l0 0) 2) == 2), .string t265, .int .i64 0, .int .i64 0]) ?_ 4 _ (by first | rfl | (simp only [*, List.setIfInBounds_toArray, List.set_cons_zero, List.set_cons_succ]; done) | (simp [*]; done)); (with_reducible repeat (first | refine blk_drewN ?_ _ | refine blk_drew ?_ | refine blk_alloc ?_ _)); refine blk_put (cs := #[.bool ((Go.bits .and .u8 (rd l0 0) 1) == 1), .string x263001_38, .bool ((Go.bits .and .u8 (rd l0 0) 2) == 2), .string (⟨#[]⟩ : ByteArray), .int .i64 0, .int .i64 0]) ?_ 3 _ (by first | rfl | (simp only [*, List.setIfInBounds_toArray, List.set_cons_zero, List.set_cons_succ]; done) | (simp [*]; done)); (with_reducible repeat (first | refine blk_drewN ?_ _ | refine blk_drew ?_ | refine blk_alloc ?_ _)); refine blk_put (cs := #[.bool ((Go.bits .and .u8 (rd l0 0) 1) == 1), .string x263001_38, .bool false, .string (⟨#[]⟩ : ByteArray), .int .i64 0, .int .i64 0]) ?_ 2 _ (by first | rfl | (simp only [*, List.setIfInBounds_toArray, List.set_cons_zero, List.set_cons_succ]; done) | (simp [*]; done)); (with_reducible repeat (first | refine blk_drewN ?_ _ | refine blk_drew ?_ | refine blk_alloc ?_ _)); refine blk_put (cs := #[.bool ((Go.bits .and .u8 (rd l0 0) 1) == 1), .string (⟨#[]⟩ : ByteArray), .bool false, .string (⟨#[]⟩ : ByteArray), .int .i64 0, .int .i64 0]) ?_ 1 _ (by first | rfl | (simp only [*, List.setIfInBounds_toArray, List.set_cons_zero, List.set_cons_succ]; done) | (simp [*]; done)); (with_reducible repeat (first | refine blk_drewN ?_ _ | refine blk_drew ?_ | refine blk_alloc ?_ _)); refine blk_put (cs := #[.bool false, .string (⟨#[]⟩ : ByteArray), .bool false, .string (⟨#[]⟩ : ByteArray), .int .i64 0, .int .i64 0]) ?_ 0 _ (by first | rfl | (simp only [*, List.setIfInBounds_toArray, List.set_cons_zero, List.set_cons_succ]; done) | (simp [*]; done)); (with_reducible repeat (first | refine blk_drewN ?_ _ | refine blk_drew ?_ | refine blk_alloc ?_ _)); refine blk_far ?_ NB250_262.out _; (with_reducible repeat (first | refine blk_drewN ?_ _ | refine blk_drew ?_ | refine blk_alloc ?_ _)); exact BK250.out) Try.underlying23 rfl (by kernel_rfl)) rfl ?_
                                        exact ⟨by first | rfl | (simp [errW_none, errW_some] <;> rfl) | (simp only [← hji25]; first | rfl | (simp [errW_none, errW_some] <;> rfl)) | (simp [*, errW_none, errW_some] <;> rfl), by repeat (first | (with_reducible first | exact HB.out | apply below_alloc | apply pw_below_drewN | apply below_drew1 | refine below_set ?_ GE250.out | refine below_set ?_ GE251.out | refine below_set ?_ GE262.out) | exact HB.out)⟩
                                    · replace c61 := Bool.eq_false_iff.mpr c61
                                      subst c61
                                      have H1 : (if x10_38 < 0 then (some (false, (⟨#[]⟩ : ByteArray), false, (⟨#[]⟩ : ByteArray), 0, 0, 0, 10)) else (some (((Go.bits .and .u8 (rd l0 0) 1) == 1), x263001_38, ((Go.bits .and .u8 (rd l0 0) 2) == 2), (⟨#[]⟩ : ByteArray), (wrap64 (a1 + t259)), (wrap64 (t254)), x10_38, 0))) = some (r1, r2, r3, r4, r5, r6, r7, r8) := by rw [if_neg (show ¬ (false = true) by decide)] at H; exact H
                                      clear H
                                      have H := H1
                                      clear H1
                                      by_cases c75 : x10_38 < 0
                                      · rw [if_pos c75] at H
                                        have c75b0 : decide (x10_38 < 0) = true := decide_eq_true c75
                                        clear c75
                                        simp only [Option.some.injEq, Prod.mk.injEq] at H
                                        obtain ⟨rfl, rfl, rfl, rfl, rfl, rfl, rfl, rfl⟩ := H
                                        have hnb76 := NB251_250.out
                                        have hnc76 := NB250_251.out
                                        have hnb77 := NB251_262.out
                                        have hnc77 := NB262_251.out
                                        have hcz78_0 : wc.cell? ⟨gb251, 0, none⟩ = some (.bool false) := (blk_cell BK251.out 0).trans rfl
                                        have hcz78_1 : wc.cell? ⟨gb251, 1, none⟩ = some (.string (⟨#[]⟩ : ByteArray)) := (blk_cell BK251.out 1).trans rfl
                                        have hcz78_2 : wc.cell? ⟨gb251, 2, none⟩ = some (.bool false) := (blk_cell BK251.out 2).trans rfl
                                        have hcz78_3 : wc.cell? ⟨gb251, 3, none⟩ = some (.string (⟨#[]⟩ : ByteArray)) := (blk_cell BK251.out 3).trans rfl
                                        have hcz78_4 : wc.cell? ⟨gb251, 4, none⟩ = some (.int .i64 0) := (blk_cell BK251.out 4).trans rfl
                                        have hcz78_5 : wc.cell? ⟨gb251, 5, none⟩ = some (.int .i64 0) := (blk_cell BK251.out 5).trans rfl
                                        have hfz78_0 := blk_frozen BK251.out 0
                                        have hfz78_1 := blk_frozen BK251.out 1
                                        have hfz78_2 := blk_frozen BK251.out 2
                                        have hfz78_3 := blk_frozen BK251.out 3
                                        have hfz78_4 := blk_frozen BK251.out 4
                                        have hfz78_5 := blk_frozen BK251.out 5
                                        have hnb79 := NB250_262.out
                                        have hnc79 := NB262_250.out
                                        have hcz80_0 : wc.cell? ⟨gb250, 0, none⟩ = some (.bool false) := (blk_cell BK250.out 0).trans rfl
                                        have hcz80_1 : wc.cell? ⟨gb250, 1, none⟩ = some (.string (⟨#[]⟩ : ByteArray)) := (blk_cell BK250.out 1).trans rfl
                                        have hcz80_2 : wc.cell? ⟨gb250, 2, none⟩ = some (.bool false) := (blk_cell BK250.out 2).trans rfl
                                        have hcz80_3 : wc.cell? ⟨gb250, 3, none⟩ = some (.string (⟨#[]⟩ : ByteArray)) := (blk_cell BK250.out 3).trans rfl
                                        have hcz80_4 : wc.cell? ⟨gb250, 4, none⟩ = some (.int .i64 0) := (blk_cell BK250.out 4).trans rfl
                                        have hcz80_5 : wc.cell? ⟨gb250, 5, none⟩ = some (.int .i64 0) := (blk_cell BK250.out 5).trans rfl
                                        have hfz80_0 := blk_frozen BK250.out 0
                                        have hfz80_1 := blk_frozen BK250.out 1
                                        have hfz80_2 := blk_frozen BK250.out 2
                                        have hfz80_3 := blk_frozen BK250.out 3
                                        have hfz80_4 := blk_frozen BK250.out 4
                                        have hfz80_5 := blk_frozen BK250.out 5
                                        go_wp2
                                        refine bodyPost_ret (results_ctt rfl _ _ gb250 23 #[.bool false, .string (⟨#[]⟩ : ByteArray), .bool false, .string (⟨#[]⟩ : ByteArray), .int .i64 0, .int .i64 0] (0, 0) _ rfl (by (with_reducible repeat (first | refine blk_drewN ?_ _ | refine blk_drew ?_ | refine blk_alloc ?_ _)); refine blk_put (cs := #[.bool false, .string (⟨#[]⟩ : ByteArray), .bool false, .string (⟨#[]⟩ : ByteArray), .int .i64 0, .int .i64 0]) ?_ 5 _ (by first | rfl | (simp only [*, List.setIfInBounds_toArray, List.set_cons_zero, List.set_cons_succ]; done) | (simp [*]; done)); (with_reducible repeat (first | refine blk_drewN ?_ _ | refine blk_drew ?_ | refine blk_alloc ?_ _)); refine blk_put (cs := #[.bool false, .string (⟨#[]⟩ : ByteArray), .bool false, .string (⟨#[]⟩ : ByteArray), .int .i64 0, .int .i64 0]) ?_ 4 _ (by first | rfl | (simp only [*, List.setIfInBounds_toArray, List.set_cons_zero, List.set_cons_succ]; done) | (simp [*]; done)); (with_reducible repeat (first | refine blk_drewN ?_ _ | refine blk_drew ?_ | refine blk_alloc ?_ _)); refine blk_put (cs := #[.bool false, .string (⟨#[]⟩ : ByteArray), .bool false, .string (⟨#[]⟩ : ByteArray), .int .i64 0, .int .i64 0]) ?_ 3 _ (by first | rfl | (simp only [*, List.setIfInBounds_toArray, List.set_cons_zero, List.set_cons_succ]; done) | (simp [*]; done)); (with_reducible repeat (first | refine blk_drewN ?_ _ | refine blk_drew ?_ | refine blk_alloc ?_ _)); refine blk_put (cs := #[.bool false, .string (⟨#[]⟩ : ByteArray), .bool false, .string (⟨#[]⟩ : ByteArray), .int .i64 0, .int .i64 0]) ?_ 2 _ (by first | rfl | (simp only [*, List.setIfInBounds_toArray, List.set_cons_zero, List.set_cons_succ]; done) | (simp [*]; done)); (with_reducible repeat (first | refine blk_drewN ?_ _ | refine blk_drew ?_ | refine blk_alloc ?_ _)); refine blk_put (cs := #[.bool false, .string (⟨#[]⟩ : ByteArray), .bool false, .string (⟨#[]⟩ : ByteArray), .int .i64 0, .int .i64 0]) ?_ 1 _ (by first | rfl | (simp only [*, List.setIfInBounds_toArray, List.set_cons_zero, List.set_cons_succ]; done) | (simp [*]; done)); (with_reducible repeat (first | refine blk_drewN ?_ _ | refine blk_drew ?_ | refine blk_alloc ?_ _)); refine blk_put (cs := #[.bool false, .string (⟨#[]⟩ : ByteArray), .bool false, .string (⟨#[]⟩ : ByteArray), .int .i64 0, .int .i64 0]) ?_ 0 _ (by first | rfl | (simp only [*, List.setIfInBounds_toArray, List.set_cons_zero, List.set_cons_succ]; done) | (simp [*]; done)); (with_reducible repeat (first | refine blk_drewN ?_ _ | refine blk_drew ?_ | refine blk_alloc ?_ _)); exact BK250.out) Try.underlying23 rfl (by kernel_rfl)) rfl ?_
                                        exact ⟨by first | rfl | (simp [errW_none, errW_some] <;> rfl) | (simp only [← hji25]; first | rfl | (simp [errW_none, errW_some] <;> rfl)) | (simp [*, errW_none, errW_some] <;> rfl), by repeat (first | (with_reducible first | exact HB.out | apply below_alloc | apply pw_below_drewN | apply below_drew1 | refine below_set ?_ GE250.out | refine below_set ?_ GE251.out | refine below_set ?_ GE262.out) | exact HB.out)⟩
                                      · rw [if_neg c75] at H
                                        have c75b0 : decide (x10_38 < 0) = false := decide_eq_false c75
                                        clear c75
                                        simp only [Option.some.injEq, Prod.mk.injEq] at H
                                        obtain ⟨rfl, rfl, rfl, rfl, rfl, rfl, rfl, rfl⟩ := H
                                        have hnb81 := NB262_250.out
                                        have hnc81 := NB250_262.out
                                        have hnb82 := NB262_251.out
                                        have hnc82 := NB251_262.out
                                        have hcz83_0 : wc.cell? ⟨gb262, 0, none⟩ = some (.bool ((Go.bits .and .u8 (rd l0 0) 1) == 1)) := (blk_cell BK262.out 0).trans rfl
                                        have hcz83_1 : wc.cell? ⟨gb262, 1, none⟩ = some (.string x263001_38) := (blk_cell BK262.out 1).trans rfl
                                        have hcz83_2 : wc.cell? ⟨gb262, 2, none⟩ = some (.bool ((Go.bits .and .u8 (rd l0 0) 2) == 2)) := (blk_cell BK262.out 2).trans rfl
                                        have hcz83_3 : wc.cell? ⟨gb262, 3, none⟩ = some (.string (⟨#[]⟩ : ByteArray)) := (blk_cell BK262.out 3).trans rfl
                                        have hcz83_4 : wc.cell? ⟨gb262, 4, none⟩ = some (.int .i64 (wrap64 (a1 + t259))) := (blk_cell BK262.out 4).trans rfl
                                        have hcz83_5 : wc.cell? ⟨gb262, 5, none⟩ = some (.int .i64 (wrap64 (t254))) := (blk_cell BK262.out 5).trans rfl
                                        have hfz83_0 := blk_frozen BK262.out 0
                                        have hfz83_1 := blk_frozen BK262.out 1
                                        have hfz83_2 := blk_frozen BK262.out 2
                                        have hfz83_3 := blk_frozen BK262.out 3
                                        have hfz83_4 := blk_frozen BK262.out 4
                                        have hfz83_5 := blk_frozen BK262.out 5
                                        have hnb84 := NB250_251.out
                                        have hnc84 := NB251_250.out
                                        have hcz85_0 : wc.cell? ⟨gb250, 0, none⟩ = some (.bool false) := (blk_cell BK250.out 0).trans rfl
                                        have hcz85_1 : wc.cell? ⟨gb250, 1, none⟩ = some (.string (⟨#[]⟩ : ByteArray)) := (blk_cell BK250.out 1).trans rfl
                                        have hcz85_2 : wc.cell? ⟨gb250, 2, none⟩ = some (.bool false) := (blk_cell BK250.out 2).trans rfl
                                        have hcz85_3 : wc.cell? ⟨gb250, 3, none⟩ = some (.string (⟨#[]⟩ : ByteArray)) := (blk_cell BK250.out 3).trans rfl
                                        have hcz85_4 : wc.cell? ⟨gb250, 4, none⟩ = some (.int .i64 0) := (blk_cell BK250.out 4).trans rfl
                                        have hcz85_5 : wc.cell? ⟨gb250, 5, none⟩ = some (.int .i64 0) := (blk_cell BK250.out 5).trans rfl
                                        have hfz85_0 := blk_frozen BK250.out 0
                                        have hfz85_1 := blk_frozen BK250.out 1
                                        have hfz85_2 := blk_frozen BK250.out 2
                                        have hfz85_3 := blk_frozen BK250.out 3
                                        have hfz85_4 := blk_frozen BK250.out 4
                                        have hfz85_5 := blk_frozen BK250.out 5
                                        go_wp2
                                        refine bodyPost_ret (results_ctt rfl _ _ gb250 23 #[.bool ((Go.bits .and .u8 (rd l0 0) 1) == 1), .string x263001_38, .bool ((Go.bits .and .u8 (rd l0 0) 2) == 2), .string (⟨#[]⟩ : ByteArray), .int .i64 (wrap64 (a1 + t259)), .int .i64 (wrap64 (t254))] (0, 0) _ rfl (by (with_reducible repeat (first | refine blk_drewN ?_ _ | refine blk_drew ?_ | refine blk_alloc ?_ _)); refine blk_put (cs := #[.bool ((Go.bits .and .u8 (rd l0 0) 1) == 1), .string x263001_38, .bool ((Go.bits .and .u8 (rd l0 0) 2) == 2), .string (⟨#[]⟩ : ByteArray), .int .i64 (wrap64 (a1 + t259)), .int .i64 0]) ?_ 5 _ (by first | rfl | (simp only [*, List.setIfInBounds_toArray, List.set_cons_zero, List.set_cons_succ]; done) | (simp [*]; done)); (with_reducible repeat (first | refine blk_drewN ?_ _ | refine blk_drew ?_ | refine blk_alloc ?_ _)); refine blk_put (cs := #[.bool ((Go.bits .and .u8 (rd l0 0) 1) == 1), .string x263001_38, .bool ((Go.bits .and .u8 (rd l0 0) 2) == 2), .string (⟨#[]⟩ : ByteArray), .int .i64 0, .int .i64 0]) ?_ 4 _ (by first | rfl | (simp only [*, List.setIfInBounds_toArray, List.set_cons_zero, List.set_cons_succ]; done) | (simp [*]; done)); (with_reducible repeat (first | refine blk_drewN ?_ _ | refine blk_drew ?_ | refine blk_alloc ?_ _)); refine blk_put (cs := #[.bool ((Go.bits .and .u8 (rd l0 0) 1) == 1), .string x263001_38, .bool ((Go.bits .and .u8 (rd l0 0) 2) == 2), .string (⟨#[]⟩ : ByteArray), .int .i64 0, .int .i64 0]) ?_ 3 _ (by first | rfl | (simp only [*, List.setIfInBounds_toArray, List.set_cons_zero, List.set_cons_succ]; done) | (simp [*]; done)); (with_reducible repeat (first | refine blk_drewN ?_ _ | refine blk_drew ?_ | refine blk_alloc ?_ _)); refine blk_put (cs := #[.bool ((Go.bits .and .u8 (rd l0 0) 1) == 1), .string x263001_38, .bool false, .string (⟨#[]⟩ : ByteArray), .int .i64 0, .int .i64 0]) ?_ 2 _ (by first | rfl | (simp only [*, List.setIfInBounds_toArray, List.set_cons_zero, List.set_cons_succ]; done) | (simp [*]; done)); (with_reducible repeat (first | refine blk_drewN ?_ _ | refine blk_drew ?_ | refine blk_alloc ?_ _)); refine blk_put (cs := #[.bool ((Go.bits .and .u8 (rd l0 0) 1) == 1), .string (⟨#[]⟩ : ByteArray), .bool false, .string (⟨#[]⟩ : ByteArray), .int .i64 0, .int .i64 0]) ?_ 1 _ (by first | rfl | (simp only [*, List.setIfInBounds_toArray, List.set_cons_zero, List.set_cons_succ]; done) | (simp [*]; done)); (with_reducible repeat (first | refine blk_drewN ?_ _ | refine blk_drew ?_ | refine blk_alloc ?_ _)); refine blk_put (cs := #[.bool false, .string (⟨#[]⟩ : ByteArray), .bool false, .string (⟨#[]⟩ : ByteArray), .int .i64 0, .int .i64 0]) ?_ 0 _ (by first | rfl | (simp only [*, List.setIfInBounds_toArray, List.set_cons_zero, List.set_cons_succ]; done) | (simp [*]; done)); (with_reducible repeat (first | refine blk_drewN ?_ _ | refine blk_drew ?_ | refine blk_alloc ?_ _)); exact BK250.out) Try.underlying23 rfl (by kernel_rfl)) rfl ?_
                                        exact ⟨by first | rfl | (simp [errW_none, errW_some] <;> rfl) | (simp only [← hji25]; first | rfl | (simp [errW_none, errW_some] <;> rfl)) | (simp [*, errW_none, errW_some] <;> rfl), by repeat (first | (with_reducible first | exact HB.out | apply below_alloc | apply pw_below_drewN | apply below_drew1 | refine below_set ?_ GE250.out | refine below_set ?_ GE251.out | refine below_set ?_ GE262.out) | exact HB.out)⟩
                          · rw [if_neg c38] at H
                            exact absurd H (by simp)
                  · rw [if_neg c27] at H
                    exact absurd H (by simp)
                · rw [if_neg c26] at H
                  exact absurd H (by simp)
        · rw [if_neg c16] at H
          exact absurd H (by simp)

end Go.Proofs.Ytcmkmjmhjjohkaa.PRec
