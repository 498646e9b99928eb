import Derived.Test.YtncfofnikmfjbaaQCfRq
import Derived.Test.YtncfofnikmfjbaaQCfV0
import Derived.Test.YtncfofnikmfjbaaQCfV2
import Derived.Test.YtncfofnikmfjbaaQCfV5
import Derived.Outline
import Derived.StillTailTactics
import Derived.RegionTactic
import Derived.BigRegion
import Derived.Lib.BufferWrite
import Derived.Test.YtncfofnikmfjbaaQCf5
import Derived.Test.YtncfofnikmfjbaaQCf4
namespace Go.Proofs.Ytncfofnikmfjbaa.PCi
open Go.RowKit Go.Proofs.YtncfofnikmfjbaaW.PrintWords Go.Proofs.YtncfofnikmfjbaaW.PrintLast Go.Proofs.YtncfofnikmfjbaaW.PrintMore
attribute [local go_sem] max2_int min2_int max_two min_two max_three min_three max_four min_four
set_option linter.unusedVariables false
set_option linter.unusedSimpArgs false

/-- A request's message: the response's part is nought. -/
structure Msg.Z (m : Msg) : Prop where
  z1 : m.akind = 0
  z2 : m.aid = 0
  z3 : m.acode = 0
  z4 : m.aoff = 0
  z5 : m.astart = 0
  z6 : m.anext = 0
  z7 : m.u2 = .slice none 0 0
  z8 : m.u3 = .slice none 0 0
  z9 : m.u4 = .slice none 0 0
/-- Two requests are the same. -/
def rqSame (m n : Msg) (rs rs' : List S98) : Prop := m.lits = n.lits ∧ rs = rs'
/-- What same tells of two requests. -/
def EqOk : Prop := ∀ rs rs' : List S98, rs.length ≤ 9223372036854775807 → ∃ k r, api_Record_55.f k rs rs' = some r ∧ (r = true ↔ rs = rs')
theorem same_rq (m n : Msg) (A A' : Option Addr) (c c' : Nat) (rs rs' : List S98) (w : World) (hE : EqOk) (hm : m.Wf) (hn : n.Wf) (zm : m.Z) (zn : n.Z) (hu : m.u1 = .slice A rs.length c) (hu' : n.u1 = .slice A' rs'.length c') (hr : Kd.C k98 w A rs.length rs) (hc : rs.length ≤ c) (hr' : Kd.C k98 w A' rs'.length rs') (hc' : rs'.length ≤ c') (hl : rs.length ≤ 9223372036854775807) :
    Calls Try.prog 30 #[.agg m.cells, .agg n.cells] w fun e w' => (∃ r : Bool, e = .returned (.bool r) ∧ (r = true ↔ rqSame m n rs rs')) ∧ Below w.heap.size w w' := by
  have hms : m.Sl := ⟨⟨_, _, _, hu⟩, ⟨_, _, _, zm.z7⟩, ⟨_, _, _, zm.z8⟩, ⟨_, _, _, zm.z9⟩⟩
  have hns : n.Sl := ⟨⟨_, _, _, hu'⟩, ⟨_, _, _, zn.z7⟩, ⟨_, _, _, zn.z8⟩, ⟨_, _, _, zn.z9⟩⟩
  obtain ⟨f, h1, h2⟩ := flat_eq m n hm hn
  obtain ⟨k, r, h3, h4⟩ := hE rs rs' hl
  have nS : Kd.C Kd.string w none ([] : List ByteArray).length [] := Kd.C_nil _ _
  have nI : Kd.C (Kd.int .i64) w none ([] : List Int).length [] := Kd.C_nil _ _
  have hc0 : (m.acode == n.acode) = true := by rw [zm.z3, zn.z3]; rfl
  have eT : slices_Equal_string_string.f (k + 1) [] [] = some true := rfl
  have eI : slices_Equal_int_int.f (k + 1) [] [] = some true := rfl
  have h3' := api_Record_55.mono rs rs' k _ h3
  cases f with
  | false =>
    refine (same_v0 (k + 1) m n hms hns A c rs A' c' rs' none 0 [] none 0 [] none 0 [] none 0 [] w hu hr hc hu' hr' hc' zm.z7 nS (Nat.le_refl _) zn.z7 nS (Nat.le_refl _) zm.z8 nI (Nat.le_refl _) zn.z8 nI (Nat.le_refl _) none none 0 0 0 0 zm.z9 zn.z9 h1).mono ?_
    rintro e w' ⟨rfl, hb⟩
    exact ⟨⟨false, rfl, by unfold rqSame; exact ⟨fun h => (by cases h), fun h => h2.2 h.1⟩⟩, hb⟩
  | true =>
    cases r with
    | false =>
      refine (same_v2 (k + 1) m n hms hns A c rs A' c' rs' none 0 [] none 0 [] none 0 [] none 0 [] w hu hr hc hu' hr' hc' zm.z7 nS (Nat.le_refl _) zn.z7 nS (Nat.le_refl _) zm.z8 nI (Nat.le_refl _) zn.z8 nI (Nat.le_refl _) none none 0 0 0 0 zm.z9 zn.z9 hc0 h3' h1).mono ?_
      rintro e w' ⟨rfl, hb⟩
      exact ⟨⟨false, rfl, by unfold rqSame; exact ⟨fun h => (by cases h), fun h => h4.2 h.2⟩⟩, hb⟩
    | true =>
      refine (same_v5 (k + 1) m n hms hns A c rs A' c' rs' none 0 [] none 0 [] none 0 [] none 0 [] w hu hr hc hu' hr' hc' zm.z7 nS (Nat.le_refl _) zn.z7 nS (Nat.le_refl _) zm.z8 nI (Nat.le_refl _) zn.z8 nI (Nat.le_refl _) none none 0 0 0 0 zm.z9 zn.z9 hc0 h3' eT eI h1).mono ?_
      rintro e w' ⟨rfl, hb⟩
      exact ⟨⟨true, rfl, by unfold rqSame; exact ⟨fun _ => ⟨h2.1 rfl, h4.1 rfl⟩, fun _ => rfl⟩⟩, hb⟩
/-- What is written. -/
def rqWr (m : Msg) (rs : List S98) : List Int × Bool := wFs m rs ((codec_fields.f 0 m.kind).getD []) (nb m.kind 1 ++ nb m.id 4, false)
def rqBad1 (m : Msg) : Bool := !(codec_fields.f 0 m.kind).isSome || (decide (m.id < 0) || decide (4294967295 < m.id))
/-- Request's answer. -/
def RqOut (m : Msg) (rs : List S98) (b : List Int) (e : Int) : Prop :=
  (b = (rqWr m rs).1 ∧ e = 0 ∧ rqBad1 m = false ∧ (rqWr m rs).2 = false ∧ (codec_ParseRequest.f (rqWr m rs).1).2.2 = 0 ∧ rqSame m (codec_ParseRequest.f (rqWr m rs).1).1 rs (codec_ParseRequest.f (rqWr m rs).1).2.1) ∨
  (b = [] ∧ e = 1 ∧ ¬ (rqBad1 m = false ∧ (rqWr m rs).2 = false ∧ (codec_ParseRequest.f (rqWr m rs).1).2.2 = 0 ∧ rqSame m (codec_ParseRequest.f (rqWr m rs).1).1 rs (codec_ParseRequest.f (rqWr m rs).1).2.1))

end Go.Proofs.Ytncfofnikmfjbaa.PCi

namespace Go.Proofs.Ytncfofnikmfjbaa.PCi
open Go.RowKit Go.Proofs.YtncfofnikmfjbaaW.PrintWords Go.Proofs.YtncfofnikmfjbaaW.PrintLast Go.Proofs.YtncfofnikmfjbaaW.PrintMore
attribute [local go_sem] max2_int min2_int max_two min_two max_three min_three max_four min_four
set_option linter.unusedVariables false
set_option linter.unusedSimpArgs false

theorem fds_out2 {B : Nat} {a f : Int} {e : Ending} {w' : World} (hp : FdsPost B (codec_fields.f a f) e w') : ∃ ok A L, e = .returned (.tuple #[.slice A L.length L.length, .bool ok]) ∧ (codec_fields.f a f).isSome = ok ∧ (codec_fields.f a f).getD [] = L ∧ L.length ≤ 7 ∧ ∀ g base W', w'.heap.size ≤ g → KeepW w' W' g base → Kd.C (Kd.int .i64) W' A L.length L := by
  rcases hp with ⟨h1, rfl⟩ | ⟨L, v, h1, rfl, g, rfl, h2, h3⟩
  · exact ⟨false, none, [], rfl, by rw [h1]; rfl, by rw [h1]; rfl, by simp, fun _ _ _ _ _ => Kd.C_nil _ _⟩
  · exact ⟨true, _, L, rfl, by rw [h1]; rfl, by rw [h1]; rfl, fields_len h1, fun g2 base W' hg hW => row_C (hW.blk h3 (by have := blk_lt h3; omega) (by decide)) (by have := fields_len h1; omega)⟩
theorem put_ints (m : Msg) (f x : Int) : ∀ y ∈ (m.put 0 f x).ints, y = x ∨ y ∈ m.ints := by
  intro y
  unfold Msg.put
  by_cases h2 : f = 2
  · simp only [if_pos h2]; exact fun hy => (List.mem_or_eq_of_mem_set (l := m.ints) (i := 2) hy).symm
  simp only [if_neg h2]
  by_cases h3 : f = 3
  · simp only [if_pos h3]; exact fun hy => (List.mem_or_eq_of_mem_set (l := m.ints) (i := 3) hy).symm
  simp only [if_neg h3]
  by_cases h4 : f = 4
  · simp only [if_pos h4]; exact fun hy => (List.mem_or_eq_of_mem_set (l := m.ints) (i := 4) hy).symm
  simp only [if_neg h4]
  by_cases h5 : f = 5
  · simp only [if_pos h5]; exact fun hy => (List.mem_or_eq_of_mem_set (l := m.ints) (i := 5) hy).symm
  simp only [if_neg h5]
  by_cases h6 : f = 6
  · simp only [if_pos h6]; exact fun hy => (List.mem_or_eq_of_mem_set (l := m.ints) (i := 6) hy).symm
  simp only [if_neg h6]
  by_cases h8 : f = 8
  · simp only [if_pos h8]; exact fun hy => (List.mem_or_eq_of_mem_set (l := m.ints) (i := 7) hy).symm
  simp only [if_neg h8]
  by_cases h9 : f = 9
  · simp only [if_pos h9]; exact fun hy => (List.mem_or_eq_of_mem_set (l := m.ints) (i := 8) hy).symm
  simp only [if_neg h9]
  by_cases h10 : f = 10
  · simp only [if_pos h10]; exact fun hy => (List.mem_or_eq_of_mem_set (l := m.ints) (i := 9) hy).symm
  simp only [if_neg h10]
  by_cases h12 : f = 12
  · simp only [if_pos h12]; exact fun hy => (List.mem_or_eq_of_mem_set (l := m.ints) (i := 11) hy).symm
  simp only [if_neg h12]
  by_cases h13 : f = 13
  · simp only [if_pos h13]; exact fun hy => (List.mem_or_eq_of_mem_set (l := m.ints) (i := 12) hy).symm
  simp only [if_neg h13]
  by_cases h14 : f = 14
  · simp only [if_pos h14]; exact fun hy => (List.mem_or_eq_of_mem_set (l := m.ints) (i := 16) hy).symm
  simp only [if_neg h14]
  by_cases h15 : f = 15
  · simp only [if_pos h15]; exact fun hy => (List.mem_or_eq_of_mem_set (l := m.ints) (i := 17) hy).symm
  simp only [if_neg h15]
  simp only [if_true]; exact fun hy => (List.mem_or_eq_of_mem_set (l := m.ints) (i := 10) hy).symm
theorem put_same (m : Msg) (f x : Int) (h14 : f ≠ 14) (h15 : f ≠ 15) : (m.put 0 f x).topic = m.topic ∧ (m.put 0 f x).group = m.group ∧ (m.Z → (m.put 0 f x).Z) := by
  unfold Msg.put
  by_cases h2_ : f = 2
  · simp only [if_pos h2_]; exact ⟨trivial, trivial, fun z => ⟨z.z1, z.z2, z.z3, z.z4, z.z5, z.z6, z.z7, z.z8, z.z9⟩⟩
  simp only [if_neg h2_]
  by_cases h3_ : f = 3
  · simp only [if_pos h3_]; exact ⟨trivial, trivial, fun z => ⟨z.z1, z.z2, z.z3, z.z4, z.z5, z.z6, z.z7, z.z8, z.z9⟩⟩
  simp only [if_neg h3_]
  by_cases h4_ : f = 4
  · simp only [if_pos h4_]; exact ⟨trivial, trivial, fun z => ⟨z.z1, z.z2, z.z3, z.z4, z.z5, z.z6, z.z7, z.z8, z.z9⟩⟩
  simp only [if_neg h4_]
  by_cases h5_ : f = 5
  · simp only [if_pos h5_]; exact ⟨trivial, trivial, fun z => ⟨z.z1, z.z2, z.z3, z.z4, z.z5, z.z6, z.z7, z.z8, z.z9⟩⟩
  simp only [if_neg h5_]
  by_cases h6_ : f = 6
  · simp only [if_pos h6_]; exact ⟨trivial, trivial, fun z => ⟨z.z1, z.z2, z.z3, z.z4, z.z5, z.z6, z.z7, z.z8, z.z9⟩⟩
  simp only [if_neg h6_]
  by_cases h8_ : f = 8
  · simp only [if_pos h8_]; exact ⟨trivial, trivial, fun z => ⟨z.z1, z.z2, z.z3, z.z4, z.z5, z.z6, z.z7, z.z8, z.z9⟩⟩
  simp only [if_neg h8_]
  by_cases h9_ : f = 9
  · simp only [if_pos h9_]; exact ⟨trivial, trivial, fun z => ⟨z.z1, z.z2, z.z3, z.z4, z.z5, z.z6, z.z7, z.z8, z.z9⟩⟩
  simp only [if_neg h9_]
  by_cases h10_ : f = 10
  · simp only [if_pos h10_]; exact ⟨trivial, trivial, fun z => ⟨z.z1, z.z2, z.z3, z.z4, z.z5, z.z6, z.z7, z.z8, z.z9⟩⟩
  simp only [if_neg h10_]
  by_cases h12_ : f = 12
  · simp only [if_pos h12_]; exact ⟨trivial, trivial, fun z => ⟨z.z1, z.z2, z.z3, z.z4, z.z5, z.z6, z.z7, z.z8, z.z9⟩⟩
  simp only [if_neg h12_]
  by_cases h13_ : f = 13
  · simp only [if_pos h13_]; exact ⟨trivial, trivial, fun z => ⟨z.z1, z.z2, z.z3, z.z4, z.z5, z.z6, z.z7, z.z8, z.z9⟩⟩
  simp only [if_neg h13_]
  by_cases h14_ : f = 14
  · exact absurd h14_ h14
  simp only [if_neg h14_]
  by_cases h15_ : f = 15
  · exact absurd h15_ h15
  simp only [if_neg h15_]
  simp only [if_true]; exact ⟨trivial, trivial, fun z => ⟨z.z1, z.z2, z.z3, z.z4, z.z5, z.z6, z.z7, z.z8, z.z9⟩⟩
theorem rdNum_wf (n : Nat) (l : List Int) (b : Bool) : (Lit.int .i64 (rdNum n l b).1).wf = true := by
  unfold rdNum
  split
  · exact wf64 (f := 0) (by omega)
  · exact wf64 (by unfold wrap64; omega)
theorem rdBytes_by {n : Int} {l : List Int} {b : Bool} (h : Bp.Bytes l) : Bp.Bytes (rdBytes n l b).2.1 ∧ (rdBytes n l b).2.1.length ≤ l.length ∧ (rdBytes n l b).1.length ≤ l.length := by
  unfold rdBytes
  split
  · exact ⟨h, Nat.le_refl _, by simp⟩
  · exact ⟨fun x hx => h x (List.mem_of_mem_drop hx), by simp, by simp; omega⟩
theorem rdNum_by {n : Nat} {l : List Int} {b : Bool} (h : Bp.Bytes l) : Bp.Bytes (rdNum n l b).2.1 ∧ (rdNum n l b).2.1.length ≤ l.length := by
  unfold rdNum
  split
  · exact ⟨h, Nat.le_refl _⟩
  · exact ⟨fun x hx => h x (List.mem_of_mem_drop hx), by simp⟩
theorem strOfNums_size (l : List Int) : (strOfNums l).size = l.length := by simp [strOfNums, ByteArray.size]
theorem rdText_by {l : List Int} {b : Bool} (h : Bp.Bytes l) : Bp.Bytes (rdText l b).2.1 ∧ (rdText l b).2.1.length ≤ l.length ∧ (rdText l b).1.size ≤ l.length := by
  have h1 := rdNum_by (n := 2) (b := b) h
  have h2 := rdBytes_by (n := (rdNum 2 l b).1) (b := (rdNum 2 l b).2.2) h1.1
  unfold rdText
  rw [strOfNums_size]
  exact ⟨h2.1, by dsimp only; omega, by omega⟩
theorem rdRec_by {l : List Int} {b : Bool} (h : Bp.Bytes l) : Bp.Bytes (rdRec l b).2.1 ∧ (rdRec l b).2.1.length ≤ l.length := by
  have opt : ∀ (is : Bool) (l : List Int) (b : Bool), Bp.Bytes l → Bp.Bytes (rdOpt is l b).2.1 ∧ (rdOpt is l b).2.1.length ≤ l.length := fun is l b h => by
    unfold rdOpt
    split
    · exact ⟨(rdText_by h).1, (rdText_by h).2.1⟩
    · exact ⟨h, Nat.le_refl _⟩
  have h1 := rdNum_by (n := 1) (b := b) h
  have h2 := opt (rdFl (rdNum 1 l b).1 1) _ ((rdNum 1 l b).2.2 || decide (3 < (rdNum 1 l b).1)) h1.1
  have h3 := opt (rdFl (rdNum 1 l b).1 2) _ (rdOpt (rdFl (rdNum 1 l b).1 1) (rdNum 1 l b).2.1 ((rdNum 1 l b).2.2 || decide (3 < (rdNum 1 l b).1))).2.2 h2.1
  unfold rdRec
  exact ⟨(rdNum_by h3.1).1, by have := (rdNum_by (n := 8) (b := (rdOpt (rdFl (rdNum 1 l b).1 2) (rdOpt (rdFl (rdNum 1 l b).1 1) (rdNum 1 l b).2.1 ((rdNum 1 l b).2.2 || decide (3 < (rdNum 1 l b).1))).2.1 (rdOpt (rdFl (rdNum 1 l b).1 1) (rdNum 1 l b).2.1 ((rdNum 1 l b).2.2 || decide (3 < (rdNum 1 l b).1))).2.2).2.2) h3.1).2; dsimp only at *; omega⟩
theorem rdAll_by {α : Type} {one : List Int → Bool → α × List Int × Bool} (ho : ∀ l b, Bp.Bytes l → Bp.Bytes (one l b).2.1 ∧ (one l b).2.1.length ≤ l.length) : ∀ (n : Nat) (l : List Int) (b : Bool), Bp.Bytes l → Bp.Bytes (rdAll one n l b).2.1 ∧ (rdAll one n l b).2.1.length ≤ l.length
  | 0, l, b, h => ⟨h, Nat.le_refl _⟩
  | n + 1, l, b, h => by
    rw [rdAll]
    split
    · exact ⟨h, Nat.le_refl _⟩
    · have h1 := ho l b h
      have h2 := rdAll_by ho n _ (one l b).2.2 h1.1
      exact ⟨h2.1, by have := h2.2; have := h1.2; dsimp only; omega⟩
theorem rdList_by {α : Type} {one : List Int → Bool → α × List Int × Bool} (ho : ∀ l b, Bp.Bytes l → Bp.Bytes (one l b).2.1 ∧ (one l b).2.1.length ≤ l.length) {l : List Int} {b : Bool} (h : Bp.Bytes l) : Bp.Bytes (rdList one l b).2.1 ∧ (rdList one l b).2.1.length ≤ l.length := by
  have h1 := rdNum_by (n := 2) (b := b) h
  have h2 := rdAll_by ho (rdNum 2 l b).1.toNat _ (rdNum 2 l b).2.2 h1.1
  unfold rdList
  exact ⟨h2.1, by omega⟩
def RqOk (s : Msg × List S98 × List Int × Bool) : Prop := s.1.Wf ∧ s.1.Z ∧ Bp.Bytes s.2.2.1 ∧ s.2.2.1.length ≤ 4611686018427387904
theorem rqF_ok (f : Int) (s : Msg × List S98 × List Int × Bool) (h : RqOk s) (h14 : f ≠ 14) (h15 : f ≠ 15) : RqOk (rqF f s) := by
  obtain ⟨hw, hz, hb, hl⟩ := h
  have hT := rdText_by (b := s.2.2.2) hb
  have hml : (4611686018427387904 : Nat) ≤ maxLen := by decide
  unfold rqF
  split
  · exact ⟨⟨hw.ints, by dsimp only; omega, hw.group⟩, ⟨hz.z1, hz.z2, hz.z3, hz.z4, hz.z5, hz.z6, hz.z7, hz.z8, hz.z9⟩, hT.1, by have := hT.2.1; dsimp only; omega⟩
  split
  · exact ⟨⟨hw.ints, hw.topic, by dsimp only; omega⟩, ⟨hz.z1, hz.z2, hz.z3, hz.z4, hz.z5, hz.z6, hz.z7, hz.z8, hz.z9⟩, hT.1, by have := hT.2.1; dsimp only; omega⟩
  split
  · have h1 := rdNum_by (n := 1) (b := s.2.2.2) hb
    exact ⟨⟨hw.ints, hw.topic, hw.group⟩, ⟨hz.z1, hz.z2, hz.z3, hz.z4, hz.z5, hz.z6, hz.z7, hz.z8, hz.z9⟩, h1.1, by have := h1.2; dsimp only; omega⟩
  split
  · have h1 := rdList_by (one := rdRec) (fun l b h => rdRec_by h) (b := s.2.2.2) hb
    exact ⟨hw, hz, h1.1, by have := h1.2; dsimp only; omega⟩
  · have h1 := rdNum_by (n := 8) (b := s.2.2.2) hb
    have h2 := put_same s.1 f (rdInt s.2.2.1 s.2.2.2).1 h14 h15
    refine ⟨⟨fun y hy => ?_, by dsimp only; rw [h2.1]; exact hw.topic, by dsimp only; rw [h2.2.1]; exact hw.group⟩, h2.2.2 hz, h1.1, by have := h1.2; dsimp only [rdInt]; omega⟩
    rcases put_ints _ _ _ y hy with rfl | hy
    · exact rdNum_wf _ _ _
    · exact hw.ints y hy
theorem rqFs_ok : ∀ (L : List Int) (s : Msg × List S98 × List Int × Bool), RqOk s → (∀ f ∈ L, f ≠ 14 ∧ f ≠ 15) → RqOk (rqFs L s)
  | [], _, h, _ => h
  | f :: L, s, h, hL => rqFs_ok L (rqF f s) (rqF_ok f s h (hL f List.mem_cons_self).1 (hL f List.mem_cons_self).2) (fun x hx => hL x (List.mem_cons_of_mem _ hx))
theorem fields_req2 {k : Int} : ∀ x ∈ (codec_fields.f 0 k).getD [], x ≠ 14 ∧ x ≠ 15 := by
  intro x hx
  cases h : codec_fields.f 0 k with
  | none => rw [h] at hx; cases hx
  | some L =>
    rw [h] at hx
    obtain ⟨e, h1, h2, _, rfl⟩ := fields_mem h
    exact (by decide : ∀ e ∈ wayT, e.1 = 0 → ∀ x ∈ e.2.2, x ≠ 14 ∧ x ≠ 15) e h1 h2 x hx
theorem msg0_ok : msg0.Wf ∧ msg0.Z := ⟨⟨by intro x hx; simp [Msg.ints, msg0] at hx; subst hx; decide, by decide, by decide⟩, ⟨rfl, rfl, rfl, rfl, rfl, rfl, rfl, rfl, rfl⟩⟩
theorem rqRaw_ok (l : List Int) (hb : Bp.Bytes l) (hl : l.length ≤ 4611686018427387904) : RqOk (rqRaw l) := by
  have h1 := rdNum_by (n := 1) (b := false) hb
  have h2 := rdNum_by (n := 4) (b := (rdNum 1 l false).2.2) h1.1
  refine rqFs_ok _ _ ⟨⟨?_, msg0_ok.1.topic, msg0_ok.1.group⟩, ⟨rfl, rfl, rfl, rfl, rfl, rfl, rfl, rfl, rfl⟩, h2.1, by have := h1.2; have := h2.2; dsimp only; omega⟩ fields_req2
  intro x hx
  simp only [Msg.ints, msg0, List.mem_cons, List.not_mem_nil, or_false] at hx
  rcases hx with rfl | rfl | hx
  · exact rdNum_wf _ _ _
  · exact rdNum_wf _ _ _
  · have : x = 0 := by omega
    subst this
    decide
theorem parse_ok (l : List Int) (hb : Bp.Bytes l) (hl : l.length ≤ 4611686018427387904) : (codec_ParseRequest.f l).1.Wf ∧ (codec_ParseRequest.f l).1.Z := by
  unfold codec_ParseRequest.f
  split
  · exact msg0_ok
  · exact ⟨(rqRaw_ok l hb hl).1, (rqRaw_ok l hb hl).2.1⟩

end Go.Proofs.Ytncfofnikmfjbaa.PCi

/- Strings of bytes: two rows of bytes are the same where their strings are. -/
namespace Go.Proofs.Ytncfofnikmfjbaa.Bp
open Go Go.RowKit Go.Proofs.YtncfofnikmfjbaaW.PrintWords Go.Proofs.YtncfofnikmfjbaaW.PrintLast Go.Proofs.YtncfofnikmfjbaaW.PrintMore
set_option linter.unusedVariables false
set_option linter.unusedSimpArgs false

theorem toList_loop_ (bs : ByteArray) : ∀ (n i : Nat) (r : List UInt8), bs.size - i = n → ByteArray.toList.loop bs i r = r.reverse ++ bs.data.toList.drop i
  | 0, i, r, h => by
    rw [ByteArray.toList.loop, if_neg (by omega)]
    have : bs.data.toList.drop i = [] := List.drop_eq_nil_of_le (by rw [Array.length_toList]; show bs.size ≤ i; omega)
    rw [this, List.append_nil]
  | n + 1, i, r, h => by
    have hi : i < bs.data.size := by show i < bs.size; omega
    have e : bs.data.toList.drop i = bs.data[i] :: bs.data.toList.drop (i + 1) := List.drop_eq_getElem_cons (by rw [Array.length_toList]; exact hi)
    rw [ByteArray.toList.loop, if_pos (by omega), toList_loop_ bs n (i + 1) _ (by omega), List.reverse_cons, List.append_assoc, e]
    have e2 : bs.get! i = bs.data[i] := by unfold ByteArray.get!; exact getElem!_pos bs.data i hi
    rw [e2]
    rfl
theorem toList_data_ (bs : ByteArray) : bs.toList = bs.data.toList := by
  have := toList_loop_ bs _ 0 [] rfl
  simpa [ByteArray.toList] using this
end Go.Proofs.Ytncfofnikmfjbaa.Bp

namespace Go.Proofs.Ytncfofnikmfjbaa.PCi
open Go.RowKit Go.Proofs.YtncfofnikmfjbaaW.PrintWords Go.Proofs.YtncfofnikmfjbaaW.PrintLast Go.Proofs.YtncfofnikmfjbaaW.PrintMore
attribute [local go_sem] max2_int min2_int max_two min_two max_three min_three max_four min_four
set_option linter.unusedVariables false
set_option linter.unusedSimpArgs false

/-! ### codec: plain laws -/
theorem bl_inj {a b : ByteArray} : a.toList = b.toList ↔ a = b := by
  rw [Bp.toList_data_, Bp.toList_data_]
  refine ⟨fun h => ?_, fun h => by rw [h]⟩
  cases a with | mk x => cases b with | mk y => exact congrArg ByteArray.mk (Array.toList_inj.1 h)
theorem eqR_one (x y : S98) : ((!(x.f0 == y.f0) || (!((x.f1).toList == (y.f1).toList) || (!(x.f2 == y.f2) || (!((x.f3).toList == (y.f3).toList) || (!(x.f4 == y.f4) || (!(x.f5 == y.f5))))))) = true) ↔ x ≠ y := by
  have h1 : ((x.f1).toList == (y.f1).toList) = true ↔ x.f1 = y.f1 := by rw [beq_iff_eq]; exact bl_inj
  have h3 : ((x.f3).toList == (y.f3).toList) = true ↔ x.f3 = y.f3 := by rw [beq_iff_eq]; exact bl_inj
  have e1 : ((x.f1).toList == (y.f1).toList) = decide (x.f1 = y.f1) := by
    cases h : ((x.f1).toList == (y.f1).toList)
    · exact (decide_eq_false (fun e => by rw [h1.2 e] at h; cases h)).symm
    · exact (decide_eq_true (h1.1 h)).symm
  have e3 : ((x.f3).toList == (y.f3).toList) = decide (x.f3 = y.f3) := by
    cases h : ((x.f3).toList == (y.f3).toList)
    · exact (decide_eq_false (fun e => by rw [h3.2 e] at h; cases h)).symm
    · exact (decide_eq_true (h3.1 h)).symm
  rw [e1, e3]
  cases x with | mk a b c d e f => cases y with | mk a' b' c' d' e' f' =>
  simp only [S98.mk.injEq, ne_eq, Bool.or_eq_true, Bool.not_eq_true', beq_eq_false_iff_ne, decide_eq_false_iff_not, not_and]
  constructor
  · rintro (h | h | h | h | h | h) h0 h1 h2 h3 h4 <;> simp_all
  · intro h
    by_cases c0 : a = a' <;> by_cases c1 : b = b' <;> by_cases c2 : c = c' <;> by_cases c3 : d = d' <;> by_cases c4 : e = e' <;> simp_all
theorem eqR_l0 (l m : List S98) (hl : l.length ≤ 9223372036854775807) (h : l.length = m.length) (n : Nat) : ∀ (k i : Nat), i + n = l.length → n + 1 ≤ k → ∃ r, api_Record_55.l0 k l m (l.length : Int) (i : Int) = some r ∧ (r = true ↔ l.drop i = m.drop i) := by
  induction n with
  | zero =>
    intro k i hi hk
    obtain ⟨K, rfl⟩ : ∃ K, k = K + 1 := ⟨k - 1, by omega⟩
    simp only [api_Record_55.l0]
    rw [if_neg (by omega), List.drop_eq_nil_of_le (by omega), List.drop_eq_nil_of_le (by omega)]
    exact ⟨_, rfl, by simp⟩
  | succ n ih =>
    intro k i hi hk
    obtain ⟨K, rfl⟩ : ∃ K, k = K + 1 := ⟨k - 1, by omega⟩
    have d1 := drop_rd z98 (l := l) (i := (i : Int)) (by omega) (by omega)
    have d2 := drop_rd z98 (l := m) (i := (i : Int)) (by omega) (by omega)
    rw [Int.toNat_natCast] at d1 d2
    rw [show ((i : Int) + 1).toNat = i + 1 from by omega] at d1 d2
    simp only [api_Record_55.l0]
    rw [if_pos (by omega), if_pos (by omega), if_pos (by omega), if_pos (by omega), d1, d2]
    by_cases c : rd_T98 l (i : Int) = rd_T98 m (i : Int)
    · rw [if_neg (fun h_ => (eqR_one _ _).1 h_ c), show wrap64 ((i : Int) + 1) = ((i + 1 : Nat) : Int) from by unfold wrap64; omega]
      obtain ⟨r, h1, h2⟩ := ih K (i + 1) (by omega) (by omega)
      refine ⟨r, h1, h2.trans ⟨fun e => ?_, fun e => (List.cons.inj e).2⟩⟩
      rw [e]
      exact congrArg (· :: m.drop (i + 1)) c
    · rw [if_pos ((eqR_one _ _).2 c)]
      exact ⟨false, rfl, ⟨fun e => (by cases e), fun e => absurd (List.cons.inj e).1 c⟩⟩
theorem eqOk : EqOk := by
  intro rs rs' hl
  unfold api_Record_55.f
  by_cases h : (rs.length : Int) = (rs'.length : Int)
  · obtain ⟨r, h1, h2⟩ := eqR_l0 rs rs' hl (by omega) rs.length (rs.length + 1) 0 (by omega) (by omega)
    exact ⟨rs.length + 1, r, by rw [if_pos h]; exact h1, by simpa using h2⟩
  · exact ⟨0, false, by rw [if_neg h], ⟨fun e => (by cases e), fun e => absurd (by rw [e]) h⟩⟩
theorem nb_bytes (v : Int) (n : Nat) : Bp.Bytes (nb v n) := Bp.beL_bytes _ _
theorem bytes_app {l m : List Int} (h1 : Bp.Bytes l) (h2 : Bp.Bytes m) : Bp.Bytes (l ++ m) := fun x hx => (List.mem_append.1 hx).elim (h1 x) (h2 x)
theorem bytesOf_bytes (s : ByteArray) : Bp.Bytes (bytesOf s) := by
  intro x hx
  unfold bytesOf at hx
  simp only [List.mem_map] at hx
  obtain ⟨y, _, rfl⟩ := hx
  have := y.toNat_lt
  omega
theorem txt_bytes (s : ByteArray) : Bp.Bytes (txt1 s) := bytes_app (nb_bytes _ _) (bytesOf_bytes _)
theorem nil_bytes : Bp.Bytes [] := fun x hx => by cases hx
theorem rec_bytes (x : S98) : Bp.Bytes (rec1 x) := by
  unfold rec1 recW
  refine bytes_app (nb_bytes _ _) (bytes_app ?_ (bytes_app ?_ (nb_bytes _ _)))
  · split
    · exact txt_bytes _
    · exact nil_bytes
  · split
    · exact txt_bytes _
    · exact nil_bytes
theorem lw_bytes {α : Type} {one : α → List Int} (ob : α → Bool) (h : ∀ x, Bp.Bytes (one x)) : ∀ (l : List α) (xs : List Int) (b : Bool), Bp.Bytes xs → Bp.Bytes (lw one ob l xs b).1
  | [], _, _, hx => hx
  | x :: l, xs, b, hx => by
    rw [lw]
    split
    · exact hx
    · exact lw_bytes ob h l _ _ (bytes_app hx (h x))
theorem lw_ge {α : Type} (one : α → List Int) (ob : α → Bool) : ∀ (l : List α) (xs : List Int) (b : Bool), xs.length ≤ (lw one ob l xs b).1.length
  | [], _, _ => Nat.le_refl _
  | x :: l, xs, b => by
    rw [lw]
    split
    · exact Nat.le_refl _
    · have := lw_ge one ob l (xs ++ one x) (b || ob x)
      rw [List.length_append] at this
      omega
theorem wF_bytes (m : Msg) (rs : List S98) (f : Int) (s : List Int × Bool) (h : Bp.Bytes s.1) : Bp.Bytes (wF m rs f s).1 ∧ s.1.length ≤ (wF m rs f s).1.length := by
  unfold wF
  split
  · exact ⟨bytes_app h (txt_bytes _), by simp⟩
  split
  · exact ⟨bytes_app h (txt_bytes _), by simp⟩
  split
  · exact ⟨bytes_app h (nb_bytes _ _), by simp⟩
  split
  · exact ⟨lw_bytes _ rec_bytes _ _ _ (bytes_app h (nb_bytes _ _)), Nat.le_trans (by simp) (lw_ge _ _ _ _ _)⟩
  · exact ⟨bytes_app h (nb_bytes _ _), by simp⟩
theorem wFs_bytes (m : Msg) (rs : List S98) : ∀ (L : List Int) (s : List Int × Bool), Bp.Bytes s.1 → Bp.Bytes (wFs m rs L s).1 ∧ s.1.length ≤ (wFs m rs L s).1.length
  | [], _, h => ⟨h, Nat.le_refl _⟩
  | f :: L, s, h => by
    have h1 := wF_bytes m rs f s h
    have h2 := wFs_bytes m rs L (wF m rs f s) h1.1
    exact ⟨h2.1, Nat.le_trans h1.2 h2.2⟩
theorem rqWr_bytes (m : Msg) (rs : List S98) : Bp.Bytes (rqWr m rs).1 ∧ 5 ≤ (rqWr m rs).1.length := by
  have h := wFs_bytes m rs ((codec_fields.f 0 m.kind).getD []) (nb m.kind 1 ++ nb m.id 4, false) (bytes_app (nb_bytes _ _) (nb_bytes _ _))
  refine ⟨h.1, Nat.le_trans ?_ h.2⟩
  simp [nb_len]
theorem small_l0 (l : List S98) (hl : l.length ≤ 4000000000000000000) (hs : ∀ y ∈ l, y.f1.size ≤ 140737488351232 ∧ y.f3.size ≤ 140737488351232) (n : Nat) : ∀ (k i : Nat) (sum : Int), 0 ≤ sum → i + n = l.length → n + 1 ≤ k → ∃ r, bollardalike_Small.l0 k l sum (i : Int) = some r ∧ (r = true → sum + (((l.drop i).map fun y => y.f1.size + y.f3.size).sum : Nat) ≤ 20000 ∧ l.length ≤ 300) := by
  induction n with
  | zero =>
    intro k i sum h0 hi hk
    obtain ⟨K, rfl⟩ : ∃ K, k = K + 1 := ⟨k - 1, by omega⟩
    simp only [bollardalike_Small.l0]
    rw [if_neg (by omega)]
    by_cases c : sum ≤ 20000
    · rw [if_pos c]
      exact ⟨_, rfl, fun h => by have := of_decide_eq_true h; rw [List.drop_eq_nil_of_le (by omega)]; simp; omega⟩
    · rw [if_neg c]
      exact ⟨_, rfl, fun h => by cases h⟩
  | succ n ih =>
    intro k i sum h0 hi hk
    obtain ⟨K, rfl⟩ : ∃ K, k = K + 1 := ⟨k - 1, by omega⟩
    have d1 := drop_rd z98 (l := l) (i := (i : Int)) (by omega) (by omega)
    rw [Int.toNat_natCast, show ((i : Int) + 1).toNat = i + 1 from by omega] at d1
    have hm : rd_T98 l (i : Int) ∈ l := List.mem_of_mem_drop (i := i) (by rw [d1]; exact List.mem_cons_self)
    have hz := hs _ hm
    simp only [bollardalike_Small.l0]
    rw [if_pos (by omega)]
    by_cases c : sum ≤ 20000
    · rw [if_pos c, if_pos (by omega), show wrap64 ((i : Int) + 1) = ((i + 1 : Nat) : Int) from by unfold wrap64; omega]
      rw [show wrap64 (wrap64 (sum + ((rd_T98 l (i : Int)).f1.size : Int)) + ((rd_T98 l (i : Int)).f3.size : Int)) = sum + ((rd_T98 l (i : Int)).f1.size : Int) + ((rd_T98 l (i : Int)).f3.size : Int) from by unfold wrap64; omega]
      obtain ⟨r, h1, h2⟩ := ih K (i + 1) (sum + ((rd_T98 l (i : Int)).f1.size : Int) + ((rd_T98 l (i : Int)).f3.size : Int)) (by omega) (by omega) (by omega)
      refine ⟨r, h1, fun h => ?_⟩
      have := h2 h
      rw [d1, List.map_cons, List.sum_cons]
      refine ⟨?_, this.2⟩
      have e := this.1
      change sum + (((rd_T98 l (i : Int)).f1.size + (rd_T98 l (i : Int)).f3.size + ((l.drop (i + 1)).map fun y => y.f1.size + y.f3.size).sum : Nat) : Int) ≤ 20000
      omega
    · rw [if_neg c]
      exact ⟨_, rfl, fun h => by cases h⟩
theorem sum_recN (l : List S98) : (l.map recN).sum = 13 * l.length + (l.map fun y => y.f1.size + y.f3.size).sum := by
  induction l with
  | nil => rfl
  | cons x l ih => simp only [List.map_cons, List.sum_cons, List.length_cons, ih, recN]; omega
theorem small_f (l : List S98) (hl : l.length ≤ 4000000000000000000) (hs : ∀ y ∈ l, y.f1.size ≤ 140737488351232 ∧ y.f3.size ≤ 140737488351232) : ∃ k r, bollardalike_Small.f k l = some r ∧ (r = true → (l.map recN).sum ≤ 30000) := by
  obtain ⟨r, h1, h2⟩ := small_l0 l hl hs l.length (l.length + 1) 0 (l.length : Int) (by omega) (by omega) (by omega)
  refine ⟨l.length + 1, r, h1, fun h => ?_⟩
  have := h2 h
  rw [List.drop_zero] at this
  rw [sum_recN]
  omega

end Go.Proofs.Ytncfofnikmfjbaa.PCi

namespace Go.Proofs.Ytncfofnikmfjbaa.PCi
open Go.RowKit Go.Proofs.YtncfofnikmfjbaaW.PrintWords Go.Proofs.YtncfofnikmfjbaaW.PrintLast Go.Proofs.YtncfofnikmfjbaaW.PrintMore
attribute [local go_sem] max2_int min2_int max_two min_two max_three min_three max_four min_four
set_option linter.unusedVariables false
set_option linter.unusedSimpArgs false

/-! ### codec: what is written is read -/
theorem rt_take {l : List Int} {n : Nat} (h : l.length = n) (t : List Int) : (l ++ t).take n = l ∧ (l ++ t).drop n = t := ⟨List.take_left' h, List.drop_left' h⟩
theorem rt_num (n : Nat) (v : Int) (t : List Int) : rdNum n (nb v n ++ t) false = (wrap64 (((v % 18446744073709551616).toNat % 256 ^ n : Nat) : Int), t, false) := by
  unfold rdNum
  rw [if_neg (by rw [List.length_append, nb_len]; simp), (rt_take (nb_len v n) t).1, (rt_take (nb_len v n) t).2]
  unfold nb
  rw [Bp.be_beL]
theorem rt_int (v : Int) (h1 : -9223372036854775808 ≤ v) (h2 : v ≤ 9223372036854775807) (t : List Int) : rdNum 8 (nb v 8 ++ t) false = (v, t, false) := by
  rw [rt_num]
  congr 1
  unfold wrap64
  omega
theorem rt_small1 (v : Int) (h1 : 0 ≤ v) (h2 : v < 256) (t : List Int) : rdNum 1 (nb v 1 ++ t) false = (v, t, false) := by
  rw [rt_num, show (256 : Nat) ^ 1 = 256 from rfl]
  congr 1
  unfold wrap64
  omega
theorem rt_small2 (v : Int) (h1 : 0 ≤ v) (h2 : v < 65536) (t : List Int) : rdNum 2 (nb v 2 ++ t) false = (v, t, false) := by
  rw [rt_num, show (256 : Nat) ^ 2 = 65536 from rfl]
  congr 1
  unfold wrap64
  omega
theorem rt_small4 (v : Int) (h1 : 0 ≤ v) (h2 : v < 4294967296) (t : List Int) : rdNum 4 (nb v 4 ++ t) false = (v, t, false) := by
  rw [rt_num, show (256 : Nat) ^ 4 = 4294967296 from rfl]
  congr 1
  unfold wrap64
  omega
theorem rt_str (s : ByteArray) : strOfNums (bytesOf s) = s := by
  unfold strOfNums bytesOf
  cases s with | mk x =>
  congr 1
  apply Array.toList_inj.1
  simp [List.map_map, Function.comp_def]
theorem rt_text (s : ByteArray) (h : s.size ≤ 65535) (t : List Int) : rdText (txt1 s ++ t) false = (s, t, false) := by
  have h1 : rdNum 2 (txt1 s ++ t) false = ((s.size : Int), bytesOf s ++ t, false) := by
    unfold txt1
    rw [List.append_assoc]
    exact rt_small2 _ (by omega) (by omega) _
  unfold rdText
  rw [h1]
  dsimp only
  unfold rdBytes
  rw [if_neg (by rw [List.length_append, bytesOf_length]; simp; omega)]
  dsimp only
  rw [Int.toNat_natCast, (rt_take (bytesOf_length s) t).1, (rt_take (bytesOf_length s) t).2, rt_str]
/-- A record that is written right. -/
def RecOk (x : S98) : Prop := rec2 x = false ∧ -9223372036854775808 ≤ x.f4 ∧ x.f4 ≤ 9223372036854775807
theorem rt_opt (is : Bool) (s : ByteArray) (h : is = true → s.size ≤ 65535) (h0 : is = false → s.toList.isEmpty = true) (t : List Int) : rdOpt is ((if is = true then nb (s.size : Nat) 2 ++ bytesOf s else []) ++ t) false = (s, t, false) := by
  unfold rdOpt
  cases is
  · have h1 := h0 rfl
    have : s = ⟨#[]⟩ := by
      rw [← bl_inj]
      rw [List.isEmpty_iff] at h1
      rw [h1, Bp.toList_data_]
    rw [this]
    rfl
  · exact rt_text s (h rfl) t
theorem rt_flag (hk hv : Bool) : rdFl ((if hk = true then 1 else 0) + (if hv = true then 2 else 0)) 1 = hk ∧ rdFl ((if hk = true then 1 else 0) + (if hv = true then 2 else 0)) 2 = hv := by
  cases hk <;> cases hv <;> decide
theorem rt_rec (x : S98) (h : RecOk x) (t : List Int) : rdRec (rec1 x ++ t) false = (x, t, false) := by
  obtain ⟨hb, h1, h2⟩ := h
  obtain ⟨hk, key, hv, val, tm, off⟩ := x
  unfold rec2 recB recO at hb
  simp only [Bool.or_eq_false_iff, Bool.and_eq_false_iff, Bool.not_eq_false', decide_eq_false_iff_not, beq_iff_eq] at hb
  obtain ⟨⟨a1, a2, a3⟩, b1, b2⟩ := hb
  subst a3
  unfold rec1 recW rdRec
  dsimp only at h1 h2 ⊢
  rw [List.append_assoc, List.append_assoc, List.append_assoc, rt_small1 _ (by split <;> split <;> omega) (by split <;> split <;> omega) _]
  dsimp only
  rw [(rt_flag hk hv).1, (rt_flag hk hv).2, show (false || decide (3 < ((if hk = true then (1 : Int) else 0) + (if hv = true then 2 else 0)))) = false from by cases hk <;> cases hv <;> decide]
  rw [rt_opt hk key (fun e => b1.elim (fun b => by rw [e] at b; cases b) (fun b => by omega)) (fun e => a1.elim (fun b => by rw [e] at b; cases b) (fun b => b))]
  dsimp only
  rw [rt_opt hv val (fun e => b2.elim (fun b => by rw [e] at b; cases b) (fun b => by omega)) (fun e => a2.elim (fun b => by rw [e] at b; cases b) (fun b => b))]
  dsimp only
  rw [rt_int tm h1 h2]
theorem rt_all {α : Type} {one : List Int → Bool → α × List Int × Bool} {wr : α → List Int} {P : α → Prop} (h1 : ∀ x, P x → ∀ t, one (wr x ++ t) false = (x, t, false)) : ∀ (l : List α), (∀ x ∈ l, P x) → ∀ t, rdAll one l.length ((l.map wr).flatten ++ t) false = (l, t, false)
  | [], _, t => rfl
  | x :: l, h, t => by
    rw [List.length_cons, rdAll, if_neg (by simp), List.map_cons, List.flatten_cons, List.append_assoc, h1 x (h x List.mem_cons_self)]
    dsimp only
    rw [rt_all h1 l (fun y hy => h y (List.mem_cons_of_mem _ hy)) t]
theorem rt_list {α : Type} {one : List Int → Bool → α × List Int × Bool} {wr : α → List Int} {P : α → Prop} (h1 : ∀ x, P x → ∀ t, one (wr x ++ t) false = (x, t, false)) (l : List α) (hl : l.length ≤ 65535) (h : ∀ x ∈ l, P x) (t : List Int) : rdList one (nb (l.length : Nat) 2 ++ ((l.map wr).flatten ++ t)) false = (l, t, false) := by
  unfold rdList
  rw [rt_small2 _ (by omega) (by omega)]
  dsimp only
  rw [Int.toNat_natCast]
  exact rt_all h1 l h t
theorem lw_ok {α : Type} (one : α → List Int) (ob : α → Bool) : ∀ (l : List α) (xs : List Int) (b : Bool), (lw one ob l xs b).2 = false → b = false ∧ (∀ x ∈ l, ob x = false) ∧ (lw one ob l xs b).1 = xs ++ (l.map one).flatten
  | [], xs, b, h => ⟨h, (fun x hx => (by cases hx)), (by simp [lw])⟩
  | x :: l, xs, b, h => by
    rw [lw] at h ⊢
    split at h
    · rename_i hb
      rw [hb] at h
      cases h
    · rename_i hb
      rw [if_neg hb]
      obtain ⟨h1, h2, h3⟩ := lw_ok one ob l _ _ h
      rw [Bool.or_eq_false_iff] at h1
      refine ⟨h1.1, fun y hy => ?_, ?_⟩
      · rcases List.mem_cons.1 hy with rfl | hy
        · exact h1.2
        · exact h2 y hy
      · rw [h3, List.map_cons, List.flatten_cons, List.append_assoc]
/-- A field's bytes; a field that can be written. -/
def wB (m : Msg) (rs : List S98) (f : Int) : List Int := if f = 0 then txt1 m.topic else if f = 1 then txt1 m.group else if f = 7 then nb (if m.comp = true then 1 else 0) 1 else if f = 16 then nb (rs.length : Nat) 2 ++ (rs.map rec1).flatten else nb (m.num 0 f) 8
def FOk (m : Msg) (rs : List S98) (f : Int) : Prop := (f = 0 → m.topic.size ≤ 65535) ∧ (f = 1 → m.group.size ≤ 65535) ∧ (f = 16 → rs.length ≤ 65535 ∧ ∀ x ∈ rs, rec2 x = false)
theorem wF_ok (m : Msg) (rs : List S98) (f : Int) (s : List Int × Bool) (h : (wF m rs f s).2 = false) : s.2 = false ∧ (wF m rs f s).1 = s.1 ++ wB m rs f ∧ FOk m rs f := by
  unfold wF at h ⊢
  unfold wB FOk
  by_cases h0 : f = 0
  · subst h0
    simp only [if_true] at h ⊢
    rw [Bool.or_eq_false_iff] at h
    have := h.2
    unfold txt2 at this
    exact ⟨h.1, (by first | trivial | rfl), fun _ => by simpa using this, fun e => absurd e (by decide), fun e => absurd e (by decide)⟩
  simp only [if_neg h0] at h ⊢
  by_cases h1 : f = 1
  · subst h1
    simp only [if_true] at h ⊢
    rw [Bool.or_eq_false_iff] at h
    have := h.2
    unfold txt2 at this
    exact ⟨h.1, (by first | trivial | rfl), fun e => absurd e (by decide), fun _ => by simpa using this, fun e => absurd e (by decide)⟩
  simp only [if_neg h1] at h ⊢
  by_cases h7 : f = 7
  · subst h7
    simp only [if_true] at h ⊢
    exact ⟨h, (by first | trivial | rfl), fun e => absurd e (by decide), fun e => absurd e (by decide), fun e => absurd e (by decide)⟩
  simp only [if_neg h7] at h ⊢
  by_cases h16 : f = 16
  · subst h16
    simp only [if_true] at h ⊢
    obtain ⟨a1, a2, a3⟩ := lw_ok rec1 rec2 rs _ _ h
    rw [Bool.or_eq_false_iff] at a1
    exact ⟨a1.1, by rw [a3, List.append_assoc], fun e => absurd e (by decide), fun e => absurd e (by decide), fun _ => ⟨by simpa using a1.2, a2⟩⟩
  simp only [if_neg h16] at h ⊢
  exact ⟨h, (by first | trivial | rfl), fun e => absurd e h0, fun e => absurd e h1, fun e => absurd e h16⟩
theorem wFs_ok (m : Msg) (rs : List S98) : ∀ (L : List Int) (s : List Int × Bool), (wFs m rs L s).2 = false → s.2 = false ∧ (wFs m rs L s).1 = s.1 ++ (L.map (wB m rs)).flatten ∧ ∀ f ∈ L, FOk m rs f
  | [], s, h => ⟨h, (by simp [wFs]), (fun f hf => (by cases hf))⟩
  | f :: L, s, h => by
    obtain ⟨h1, h2, h3⟩ := wFs_ok m rs L (wF m rs f s) h
    obtain ⟨g1, g2, g3⟩ := wF_ok m rs f s h1
    refine ⟨g1, ?_, fun x hx => ?_⟩
    · show (wFs m rs L (wF m rs f s)).1 = _
      rw [h2, g2, List.map_cons, List.flatten_cons, List.append_assoc]
    · rcases List.mem_cons.1 hx with rfl | hx
      · exact g3
      · exact h3 x hx
/-- A field is taken over. -/
def cpF (m : Msg) (f : Int) (n : Msg) : Msg := if f = 0 then { n with topic := m.topic } else if f = 1 then { n with group := m.group } else if f = 7 then { n with comp := m.comp } else if f = 16 then n else n.put 0 f (m.num 0 f)
def cpFs (m : Msg) (L : List Int) (n : Msg) : Msg := L.foldl (fun n f => cpF m f n) n
def cpR (rs : List S98) (L : List Int) (rs' : List S98) : List S98 := L.foldl (fun r f => if f = 16 then rs else r) rs'
theorem num_ints (m : Msg) (f : Int) : m.num 0 f ∈ m.ints := by
  unfold Msg.num
  by_cases h2 : f = 2
  · simp only [if_pos h2]; simp [Msg.ints]
  simp only [if_neg h2]
  by_cases h3 : f = 3
  · simp only [if_pos h3]; simp [Msg.ints]
  simp only [if_neg h3]
  by_cases h4 : f = 4
  · simp only [if_pos h4]; simp [Msg.ints]
  simp only [if_neg h4]
  by_cases h5 : f = 5
  · simp only [if_pos h5]; simp [Msg.ints]
  simp only [if_neg h5]
  by_cases h6 : f = 6
  · simp only [if_pos h6]; simp [Msg.ints]
  simp only [if_neg h6]
  by_cases h8 : f = 8
  · simp only [if_pos h8]; simp [Msg.ints]
  simp only [if_neg h8]
  by_cases h9 : f = 9
  · simp only [if_pos h9]; simp [Msg.ints]
  simp only [if_neg h9]
  by_cases h10 : f = 10
  · simp only [if_pos h10]; simp [Msg.ints]
  simp only [if_neg h10]
  by_cases h12 : f = 12
  · simp only [if_pos h12]; simp [Msg.ints]
  simp only [if_neg h12]
  by_cases h13 : f = 13
  · simp only [if_pos h13]; simp [Msg.ints]
  simp only [if_neg h13]
  by_cases h14 : f = 14
  · simp only [if_pos h14]; simp [Msg.ints]
  simp only [if_neg h14]
  by_cases h15 : f = 15
  · simp only [if_pos h15]; simp [Msg.ints]
  simp only [if_neg h15]
  simp [Msg.ints]
theorem wf_rng {x : Int} (h : (Lit.int .i64 x).wf = true) : -9223372036854775808 ≤ x ∧ x ≤ 9223372036854775807 := by
  simp [Lit.wf, IntKind.min, IntKind.max, IntKind.signed, IntKind.bits] at h
  omega
theorem rqF_rt (m : Msg) (rs : List S98) (f : Int) (hw : m.Wf) (hr : ∀ x ∈ rs, -9223372036854775808 ≤ x.f4 ∧ x.f4 ≤ 9223372036854775807) (hf : FOk m rs f) (n : Msg) (r : List S98) (t : List Int) : rqF f (n, r, wB m rs f ++ t, false) = (cpF m f n, (if f = 16 then rs else r), t, false) := by
  obtain ⟨f0, f1, f16⟩ := hf
  unfold rqF wB cpF
  by_cases h0 : f = 0
  · subst h0
    simp only [if_true]
    rw [rt_text m.topic (f0 rfl) t]
    rfl
  simp only [if_neg h0]
  by_cases h1 : f = 1
  · subst h1
    simp only [if_true]
    rw [rt_text m.group (f1 rfl) t]
    rfl
  simp only [if_neg h1]
  by_cases h7 : f = 7
  · subst h7
    simp only [if_true]
    rw [rt_small1 _ (by split <;> omega) (by split <;> omega) t]
    cases m.comp <;> rfl
  simp only [if_neg h7]
  by_cases h16 : f = 16
  · subst h16
    simp only [if_true]
    rw [List.append_assoc, rt_list (P := RecOk) rt_rec rs (f16 rfl).1 (fun x hx => ⟨(f16 rfl).2 x hx, hr x hx⟩) t]
  simp only [if_neg h16]
  unfold rdInt
  have := wf_rng (hw.ints _ (num_ints m f))
  rw [rt_int _ this.1 this.2 t]
theorem rqFs_rt (m : Msg) (rs : List S98) (hw : m.Wf) (hr : ∀ x ∈ rs, -9223372036854775808 ≤ x.f4 ∧ x.f4 ≤ 9223372036854775807) : ∀ (L : List Int), (∀ f ∈ L, FOk m rs f) → ∀ (n : Msg) (r : List S98) (t : List Int), rqFs L (n, r, (L.map (wB m rs)).flatten ++ t, false) = (cpFs m L n, cpR rs L r, t, false)
  | [], _, n, r, t => rfl
  | f :: L, h, n, r, t => by
    show rqFs L (rqF f (n, r, ((f :: L).map (wB m rs)).flatten ++ t, false)) = _
    rw [List.map_cons, List.flatten_cons, List.append_assoc, rqF_rt m rs f hw hr (h f List.mem_cons_self)]
    exact rqFs_rt m rs hw hr L (fun x hx => h x (List.mem_cons_of_mem _ hx)) _ _ t
theorem parse_rt (m : Msg) (rs : List S98) (L : List Int) (hw : m.Wf) (hr : ∀ x ∈ rs, -9223372036854775808 ≤ x.f4 ∧ x.f4 ≤ 9223372036854775807) (hL : codec_fields.f 0 m.kind = some L) (hk : 0 ≤ m.kind ∧ m.kind < 256) (hi : 0 ≤ m.id ∧ m.id ≤ 4294967295) (hb : (rqWr m rs).2 = false) :
    codec_ParseRequest.f (rqWr m rs).1 = (cpFs m L { msg0 with kind := m.kind, id := m.id }, cpR rs L [], 0) := by
  unfold rqWr at hb ⊢
  rw [hL] at hb ⊢
  obtain ⟨_, h2, h3⟩ := wFs_ok m rs _ _ hb
  dsimp only [Option.getD_some] at h2 h3 hb ⊢
  rw [h2]
  have e1 : rdNum 1 (nb m.kind 1 ++ nb m.id 4 ++ (L.map (wB m rs)).flatten) false = (m.kind, nb m.id 4 ++ (L.map (wB m rs)).flatten, false) := by
    rw [List.append_assoc]
    exact rt_small1 _ hk.1 hk.2 _
  have e2 : rdNum 4 (nb m.id 4 ++ (L.map (wB m rs)).flatten) false = (m.id, (L.map (wB m rs)).flatten, false) := rt_small4 _ hi.1 (by omega) _
  have e3 := rqFs_rt m rs hw hr L h3 { msg0 with kind := m.kind, id := m.id } [] []
  rw [List.append_nil] at e3
  have e4 : rqRaw (nb m.kind 1 ++ nb m.id 4 ++ (L.map (wB m rs)).flatten) = (cpFs m L { msg0 with kind := m.kind, id := m.id }, cpR rs L [], [], false) := by
    unfold rqRaw
    rw [e1]
    dsimp only
    rw [e2, hL]
    exact e3
  have e5 : rqBad (nb m.kind 1 ++ nb m.id 4 ++ (L.map (wB m rs)).flatten) = false := by
    unfold rqBad
    rw [e1, e4, hL]
    rfl
  unfold codec_ParseRequest.f
  rw [if_neg (by rw [e5]; simp), e4]

end Go.Proofs.Ytncfofnikmfjbaa.PCi
