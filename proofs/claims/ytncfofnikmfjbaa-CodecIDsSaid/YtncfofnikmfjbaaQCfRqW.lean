import Derived.Test.YtncfofnikmfjbaaQCfRq
import Derived.Test.YtncfofnikmfjbaaQCfV0
import Derived.Test.YtncfofnikmfjbaaQCfV2
import Derived.Test.YtncfofnikmfjbaaQCfV5
import Derived.Outline
import Derived.StillTailTactics
import Derived.RegionTactic
import Derived.BigRegion
import Derived.Lib.BufferWrite
namespace Go.Proofs.Ytncfofnikmfjbaa.PCi
open Go.RowKit Go.Proofs.YtncfofnikmfjbaaW.PrintWords Go.Proofs.YtncfofnikmfjbaaW.PrintLast Go.Proofs.YtncfofnikmfjbaaW.PrintMore
attribute [local go_sem] max2_int min2_int max_two min_two max_three min_three max_four min_four
set_option linter.unusedVariables false
set_option linter.unusedSimpArgs false

/-- A request's message: the response's part is nought. -/
structure Msg.Z (m : Msg) : Prop where
  z1 : m.akind = 0
  z2 : m.aid = 0
  z3 : m.acode = 0
  z4 : m.aoff = 0
  z5 : m.astart = 0
  z6 : m.anext = 0
  z7 : m.u2 = .slice none 0 0
  z8 : m.u3 = .slice none 0 0
  z9 : m.u4 = .slice none 0 0
/-- Two requests are the same. -/
def rqSame (m n : Msg) (rs rs' : List S98) : Prop := m.lits = n.lits ∧ rs = rs'
/-- What same tells of two requests. -/
def EqOk : Prop := ∀ rs rs' : List S98, rs.length ≤ 9223372036854775807 → ∃ k r, api_Record_55.f k rs rs' = some r ∧ (r = true ↔ rs = rs')
theorem same_rq (m n : Msg) (A A' : Option Addr) (c c' : Nat) (rs rs' : List S98) (w : World) (hE : EqOk) (hm : m.Wf) (hn : n.Wf) (zm : m.Z) (zn : n.Z) (hu : m.u1 = .slice A rs.length c) (hu' : n.u1 = .slice A' rs'.length c') (hr : Kd.C k98 w A rs.length rs) (hc : rs.length ≤ c) (hr' : Kd.C k98 w A' rs'.length rs') (hc' : rs'.length ≤ c') (hl : rs.length ≤ 9223372036854775807) :
    Calls Try.prog 30 #[.agg m.cells, .agg n.cells] w fun e w' => (∃ r : Bool, e = .returned (.bool r) ∧ (r = true ↔ rqSame m n rs rs')) ∧ Below w.heap.size w w' := by
  have hms : m.Sl := ⟨⟨_, _, _, hu⟩, ⟨_, _, _, zm.z7⟩, ⟨_, _, _, zm.z8⟩, ⟨_, _, _, zm.z9⟩⟩
  have hns : n.Sl := ⟨⟨_, _, _, hu'⟩, ⟨_, _, _, zn.z7⟩, ⟨_, _, _, zn.z8⟩, ⟨_, _, _, zn.z9⟩⟩
  obtain ⟨f, h1, h2⟩ := flat_eq m n hm hn
  obtain ⟨k, r, h3, h4⟩ := hE rs rs' hl
  have nS : Kd.C Kd.string w none ([] : List ByteArray).length [] := Kd.C_nil _ _
  have nI : Kd.C (Kd.int .i64) w none ([] : List Int).length [] := Kd.C_nil _ _
  have hc0 : (m.acode == n.acode) = true := by rw [zm.z3, zn.z3]; rfl
  have eT : slices_Equal_string_string.f (k + 1) [] [] = some true := rfl
  have eI : slices_Equal_int_int.f (k + 1) [] [] = some true := rfl
  have h3' := api_Record_55.mono rs rs' k _ h3
  cases f with
  | false =>
    refine (same_v0 (k + 1) m n hms hns A c rs A' c' rs' none 0 [] none 0 [] none 0 [] none 0 [] w hu hr hc hu' hr' hc' zm.z7 nS (Nat.le_refl _) zn.z7 nS (Nat.le_refl _) zm.z8 nI (Nat.le_refl _) zn.z8 nI (Nat.le_refl _) none none 0 0 0 0 zm.z9 zn.z9 h1).mono ?_
    rintro e w' ⟨rfl, hb⟩
    exact ⟨⟨false, rfl, by unfold rqSame; exact ⟨fun h => (by cases h), fun h => h2.2 h.1⟩⟩, hb⟩
  | true =>
    cases r with
    | false =>
      refine (same_v2 (k + 1) m n hms hns A c rs A' c' rs' none 0 [] none 0 [] none 0 [] none 0 [] w hu hr hc hu' hr' hc' zm.z7 nS (Nat.le_refl _) zn.z7 nS (Nat.le_refl _) zm.z8 nI (Nat.le_refl _) zn.z8 nI (Nat.le_refl _) none none 0 0 0 0 zm.z9 zn.z9 hc0 h3' h1).mono ?_
      rintro e w' ⟨rfl, hb⟩
      exact ⟨⟨false, rfl, by unfold rqSame; exact ⟨fun h => (by cases h), fun h => h4.2 h.2⟩⟩, hb⟩
    | true =>
      refine (same_v5 (k + 1) m n hms hns A c rs A' c' rs' none 0 [] none 0 [] none 0 [] none 0 [] w hu hr hc hu' hr' hc' zm.z7 nS (Nat.le_refl _) zn.z7 nS (Nat.le_refl _) zm.z8 nI (Nat.le_refl _) zn.z8 nI (Nat.le_refl _) none none 0 0 0 0 zm.z9 zn.z9 hc0 h3' eT eI h1).mono ?_
      rintro e w' ⟨rfl, hb⟩
      exact ⟨⟨true, rfl, by unfold rqSame; exact ⟨fun _ => ⟨h2.1 rfl, h4.1 rfl⟩, fun _ => rfl⟩⟩, hb⟩
/-- What is written. -/
def rqWr (m : Msg) (rs : List S98) : List Int × Bool := wFs m rs ((codec_fields.f 0 m.kind).getD []) (nb m.kind 1 ++ nb m.id 4, false)
def rqBad1 (m : Msg) : Bool := !(codec_fields.f 0 m.kind).isSome || (decide (m.id < 0) || decide (4294967295 < m.id))
/-- Request's answer. -/
def RqOut (m : Msg) (rs : List S98) (b : List Int) (e : Int) : Prop :=
  (b = (rqWr m rs).1 ∧ e = 0 ∧ rqBad1 m = false ∧ (rqWr m rs).2 = false ∧ (codec_ParseRequest.f (rqWr m rs).1).2.2 = 0 ∧ rqSame m (codec_ParseRequest.f (rqWr m rs).1).1 rs (codec_ParseRequest.f (rqWr m rs).1).2.1) ∨
  (b = [] ∧ e = 1 ∧ ¬ (rqBad1 m = false ∧ (rqWr m rs).2 = false ∧ (codec_ParseRequest.f (rqWr m rs).1).2.2 = 0 ∧ rqSame m (codec_ParseRequest.f (rqWr m rs).1).1 rs (codec_ParseRequest.f (rqWr m rs).1).2.1))

end Go.Proofs.Ytncfofnikmfjbaa.PCi

namespace Go.Proofs.Ytncfofnikmfjbaa.PCi
open Go.RowKit Go.Proofs.YtncfofnikmfjbaaW.PrintWords Go.Proofs.YtncfofnikmfjbaaW.PrintLast Go.Proofs.YtncfofnikmfjbaaW.PrintMore
attribute [local go_sem] max2_int min2_int max_two min_two max_three min_three max_four min_four
set_option linter.unusedVariables false
set_option linter.unusedSimpArgs false

theorem fds_out2 {B : Nat} {a f : Int} {e : Ending} {w' : World} (hp : FdsPost B (codec_fields.f a f) e w') : ∃ ok A L, e = .returned (.tuple #[.slice A L.length L.length, .bool ok]) ∧ (codec_fields.f a f).isSome = ok ∧ (codec_fields.f a f).getD [] = L ∧ L.length ≤ 7 ∧ ∀ g base W', w'.heap.size ≤ g → KeepW w' W' g base → Kd.C (Kd.int .i64) W' A L.length L := by
  rcases hp with ⟨h1, rfl⟩ | ⟨L, v, h1, rfl, g, rfl, h2, h3⟩
  · exact ⟨false, none, [], rfl, by rw [h1]; rfl, by rw [h1]; rfl, by simp, fun _ _ _ _ _ => Kd.C_nil _ _⟩
  · exact ⟨true, _, L, rfl, by rw [h1]; rfl, by rw [h1]; rfl, fields_len h1, fun g2 base W' hg hW => row_C (hW.blk h3 (by have := blk_lt h3; omega) (by decide)) (by have := fields_len h1; omega)⟩
theorem put_ints (m : Msg) (f x : Int) : ∀ y ∈ (m.put 0 f x).ints, y = x ∨ y ∈ m.ints := by
  intro y
  unfold Msg.put
  by_cases h2 : f = 2
  · simp only [if_pos h2]; exact fun hy => (List.mem_or_eq_of_mem_set (l := m.ints) (i := 2) hy).symm
  simp only [if_neg h2]
  by_cases h3 : f = 3
  · simp only [if_pos h3]; exact fun hy => (List.mem_or_eq_of_mem_set (l := m.ints) (i := 3) hy).symm
  simp only [if_neg h3]
  by_cases h4 : f = 4
  · simp only [if_pos h4]; exact fun hy => (List.mem_or_eq_of_mem_set (l := m.ints) (i := 4) hy).symm
  simp only [if_neg h4]
  by_cases h5 : f = 5
  · simp only [if_pos h5]; exact fun hy => (List.mem_or_eq_of_mem_set (l := m.ints) (i := 5) hy).symm
  simp only [if_neg h5]
  by_cases h6 : f = 6
  · simp only [if_pos h6]; exact fun hy => (List.mem_or_eq_of_mem_set (l := m.ints) (i := 6) hy).symm
  simp only [if_neg h6]
  by_cases h8 : f = 8
  · simp only [if_pos h8]; exact fun hy => (List.mem_or_eq_of_mem_set (l := m.ints) (i := 7) hy).symm
  simp only [if_neg h8]
  by_cases h9 : f = 9
  · simp only [if_pos h9]; exact fun hy => (List.mem_or_eq_of_mem_set (l := m.ints) (i := 8) hy).symm
  simp only [if_neg h9]
  by_cases h10 : f = 10
  · simp only [if_pos h10]; exact fun hy => (List.mem_or_eq_of_mem_set (l := m.ints) (i := 9) hy).symm
  simp only [if_neg h10]
  by_cases h12 : f = 12
  · simp only [if_pos h12]; exact fun hy => (List.mem_or_eq_of_mem_set (l := m.ints) (i := 11) hy).symm
  simp only [if_neg h12]
  by_cases h13 : f = 13
  · simp only [if_pos h13]; exact fun hy => (List.mem_or_eq_of_mem_set (l := m.ints) (i := 12) hy).symm
  simp only [if_neg h13]
  by_cases h14 : f = 14
  · simp only [if_pos h14]; exact fun hy => (List.mem_or_eq_of_mem_set (l := m.ints) (i := 16) hy).symm
  simp only [if_neg h14]
  by_cases h15 : f = 15
  · simp only [if_pos h15]; exact fun hy => (List.mem_or_eq_of_mem_set (l := m.ints) (i := 17) hy).symm
  simp only [if_neg h15]
  simp only [if_true]; exact fun hy => (List.mem_or_eq_of_mem_set (l := m.ints) (i := 10) hy).symm
theorem put_same (m : Msg) (f x : Int) (h14 : f ≠ 14) (h15 : f ≠ 15) : (m.put 0 f x).topic = m.topic ∧ (m.put 0 f x).group = m.group ∧ (m.Z → (m.put 0 f x).Z) := by
  unfold Msg.put
  by_cases h2_ : f = 2
  · simp only [if_pos h2_]; exact ⟨trivial, trivial, fun z => ⟨z.z1, z.z2, z.z3, z.z4, z.z5, z.z6, z.z7, z.z8, z.z9⟩⟩
  simp only [if_neg h2_]
  by_cases h3_ : f = 3
  · simp only [if_pos h3_]; exact ⟨trivial, trivial, fun z => ⟨z.z1, z.z2, z.z3, z.z4, z.z5, z.z6, z.z7, z.z8, z.z9⟩⟩
  simp only [if_neg h3_]
  by_cases h4_ : f = 4
  · simp only [if_pos h4_]; exact ⟨trivial, trivial, fun z => ⟨z.z1, z.z2, z.z3, z.z4, z.z5, z.z6, z.z7, z.z8, z.z9⟩⟩
  simp only [if_neg h4_]
  by_cases h5_ : f = 5
  · simp only [if_pos h5_]; exact ⟨trivial, trivial, fun z => ⟨z.z1, z.z2, z.z3, z.z4, z.z5, z.z6, z.z7, z.z8, z.z9⟩⟩
  simp only [if_neg h5_]
  by_cases h6_ : f = 6
  · simp only [if_pos h6_]; exact ⟨trivial, trivial, fun z => ⟨z.z1, z.z2, z.z3, z.z4, z.z5, z.z6, z.z7, z.z8, z.z9⟩⟩
  simp only [if_neg h6_]
  by_cases h8_ : f = 8
  · simp only [if_pos h8_]; exact ⟨trivial, trivial, fun z => ⟨z.z1, z.z2, z.z3, z.z4, z.z5, z.z6, z.z7, z.z8, z.z9⟩⟩
  simp only [if_neg h8_]
  by_cases h9_ : f = 9
  · simp only [if_pos h9_]; exact ⟨trivial, trivial, fun z => ⟨z.z1, z.z2, z.z3, z.z4, z.z5, z.z6, z.z7, z.z8, z.z9⟩⟩
  simp only [if_neg h9_]
  by_cases h10_ : f = 10
  · simp only [if_pos h10_]; exact ⟨trivial, trivial, fun z => ⟨z.z1, z.z2, z.z3, z.z4, z.z5, z.z6, z.z7, z.z8, z.z9⟩⟩
  simp only [if_neg h10_]
  by_cases h12_ : f = 12
  · simp only [if_pos h12_]; exact ⟨trivial, trivial, fun z => ⟨z.z1, z.z2, z.z3, z.z4, z.z5, z.z6, z.z7, z.z8, z.z9⟩⟩
  simp only [if_neg h12_]
  by_cases h13_ : f = 13
  · simp only [if_pos h13_]; exact ⟨trivial, trivial, fun z => ⟨z.z1, z.z2, z.z3, z.z4, z.z5, z.z6, z.z7, z.z8, z.z9⟩⟩
  simp only [if_neg h13_]
  by_cases h14_ : f = 14
  · exact absurd h14_ h14
  simp only [if_neg h14_]
  by_cases h15_ : f = 15
  · exact absurd h15_ h15
  simp only [if_neg h15_]
  simp only [if_true]; exact ⟨trivial, trivial, fun z => ⟨z.z1, z.z2, z.z3, z.z4, z.z5, z.z6, z.z7, z.z8, z.z9⟩⟩
theorem rdNum_wf (n : Nat) (l : List Int) (b : Bool) : (Lit.int .i64 (rdNum n l b).1).wf = true := by
  unfold rdNum
  split
  · exact wf64 (f := 0) (by omega)
  · exact wf64 (by unfold wrap64; omega)
theorem rdBytes_by {n : Int} {l : List Int} {b : Bool} (h : Bp.Bytes l) : Bp.Bytes (rdBytes n l b).2.1 ∧ (rdBytes n l b).2.1.length ≤ l.length ∧ (rdBytes n l b).1.length ≤ l.length := by
  unfold rdBytes
  split
  · exact ⟨h, Nat.le_refl _, by simp⟩
  · exact ⟨fun x hx => h x (List.mem_of_mem_drop hx), by simp, by simp; omega⟩
theorem rdNum_by {n : Nat} {l : List Int} {b : Bool} (h : Bp.Bytes l) : Bp.Bytes (rdNum n l b).2.1 ∧ (rdNum n l b).2.1.length ≤ l.length := by
  unfold rdNum
  split
  · exact ⟨h, Nat.le_refl _⟩
  · exact ⟨fun x hx => h x (List.mem_of_mem_drop hx), by simp⟩
theorem strOfNums_size (l : List Int) : (strOfNums l).size = l.length := by simp [strOfNums, ByteArray.size]
theorem rdText_by {l : List Int} {b : Bool} (h : Bp.Bytes l) : Bp.Bytes (rdText l b).2.1 ∧ (rdText l b).2.1.length ≤ l.length ∧ (rdText l b).1.size ≤ l.length := by
  have h1 := rdNum_by (n := 2) (b := b) h
  have h2 := rdBytes_by (n := (rdNum 2 l b).1) (b := (rdNum 2 l b).2.2) h1.1
  unfold rdText
  rw [strOfNums_size]
  exact ⟨h2.1, by dsimp only; omega, by omega⟩
theorem rdRec_by {l : List Int} {b : Bool} (h : Bp.Bytes l) : Bp.Bytes (rdRec l b).2.1 ∧ (rdRec l b).2.1.length ≤ l.length := by
  have opt : ∀ (is : Bool) (l : List Int) (b : Bool), Bp.Bytes l → Bp.Bytes (rdOpt is l b).2.1 ∧ (rdOpt is l b).2.1.length ≤ l.length := fun is l b h => by
    unfold rdOpt
    split
    · exact ⟨(rdText_by h).1, (rdText_by h).2.1⟩
    · exact ⟨h, Nat.le_refl _⟩
  have h1 := rdNum_by (n := 1) (b := b) h
  have h2 := opt (rdFl (rdNum 1 l b).1 1) _ ((rdNum 1 l b).2.2 || decide (3 < (rdNum 1 l b).1)) h1.1
  have h3 := opt (rdFl (rdNum 1 l b).1 2) _ (rdOpt (rdFl (rdNum 1 l b).1 1) (rdNum 1 l b).2.1 ((rdNum 1 l b).2.2 || decide (3 < (rdNum 1 l b).1))).2.2 h2.1
  unfold rdRec
  exact ⟨(rdNum_by h3.1).1, by have := (rdNum_by (n := 8) (b := (rdOpt (rdFl (rdNum 1 l b).1 2) (rdOpt (rdFl (rdNum 1 l b).1 1) (rdNum 1 l b).2.1 ((rdNum 1 l b).2.2 || decide (3 < (rdNum 1 l b).1))).2.1 (rdOpt (rdFl (rdNum 1 l b).1 1) (rdNum 1 l b).2.1 ((rdNum 1 l b).2.2 || decide (3 < (rdNum 1 l b).1))).2.2).2.2) h3.1).2; dsimp only at *; omega⟩
theorem rdAll_by {α : Type} {one : List Int → Bool → α × List Int × Bool} (ho : ∀ l b, Bp.Bytes l → Bp.Bytes (one l b).2.1 ∧ (one l b).2.1.length ≤ l.length) : ∀ (n : Nat) (l : List Int) (b : Bool), Bp.Bytes l → Bp.Bytes (rdAll one n l b).2.1 ∧ (rdAll one n l b).2.1.length ≤ l.length
  | 0, l, b, h => ⟨h, Nat.le_refl _⟩
  | n + 1, l, b, h => by
    rw [rdAll]
    split
    · exact ⟨h, Nat.le_refl _⟩
    · have h1 := ho l b h
      have h2 := rdAll_by ho n _ (one l b).2.2 h1.1
      exact ⟨h2.1, by have := h2.2; have := h1.2; dsimp only; omega⟩
theorem rdList_by {α : Type} {one : List Int → Bool → α × List Int × Bool} (ho : ∀ l b, Bp.Bytes l → Bp.Bytes (one l b).2.1 ∧ (one l b).2.1.length ≤ l.length) {l : List Int} {b : Bool} (h : Bp.Bytes l) : Bp.Bytes (rdList one l b).2.1 ∧ (rdList one l b).2.1.length ≤ l.length := by
  have h1 := rdNum_by (n := 2) (b := b) h
  have h2 := rdAll_by ho (rdNum 2 l b).1.toNat _ (rdNum 2 l b).2.2 h1.1
  unfold rdList
  exact ⟨h2.1, by omega⟩
def RqOk (s : Msg × List S98 × List Int × Bool) : Prop := s.1.Wf ∧ s.1.Z ∧ Bp.Bytes s.2.2.1 ∧ s.2.2.1.length ≤ 4611686018427387904
theorem rqF_ok (f : Int) (s : Msg × List S98 × List Int × Bool) (h : RqOk s) (h14 : f ≠ 14) (h15 : f ≠ 15) : RqOk (rqF f s) := by
  obtain ⟨hw, hz, hb, hl⟩ := h
  have hT := rdText_by (b := s.2.2.2) hb
  have hml : (4611686018427387904 : Nat) ≤ maxLen := by decide
  unfold rqF
  split
  · exact ⟨⟨hw.ints, by dsimp only; omega, hw.group⟩, ⟨hz.z1, hz.z2, hz.z3, hz.z4, hz.z5, hz.z6, hz.z7, hz.z8, hz.z9⟩, hT.1, by have := hT.2.1; dsimp only; omega⟩
  split
  · exact ⟨⟨hw.ints, hw.topic, by dsimp only; omega⟩, ⟨hz.z1, hz.z2, hz.z3, hz.z4, hz.z5, hz.z6, hz.z7, hz.z8, hz.z9⟩, hT.1, by have := hT.2.1; dsimp only; omega⟩
  split
  · have h1 := rdNum_by (n := 1) (b := s.2.2.2) hb
    exact ⟨⟨hw.ints, hw.topic, hw.group⟩, ⟨hz.z1, hz.z2, hz.z3, hz.z4, hz.z5, hz.z6, hz.z7, hz.z8, hz.z9⟩, h1.1, by have := h1.2; dsimp only; omega⟩
  split
  · have h1 := rdList_by (one := rdRec) (fun l b h => rdRec_by h) (b := s.2.2.2) hb
    exact ⟨hw, hz, h1.1, by have := h1.2; dsimp only; omega⟩
  · have h1 := rdNum_by (n := 8) (b := s.2.2.2) hb
    have h2 := put_same s.1 f (rdInt s.2.2.1 s.2.2.2).1 h14 h15
    refine ⟨⟨fun y hy => ?_, by dsimp only; rw [h2.1]; exact hw.topic, by dsimp only; rw [h2.2.1]; exact hw.group⟩, h2.2.2 hz, h1.1, by have := h1.2; dsimp only [rdInt]; omega⟩
    rcases put_ints _ _ _ y hy with rfl | hy
    · exact rdNum_wf _ _ _
    · exact hw.ints y hy
theorem rqFs_ok : ∀ (L : List Int) (s : Msg × List S98 × List Int × Bool), RqOk s → (∀ f ∈ L, f ≠ 14 ∧ f ≠ 15) → RqOk (rqFs L s)
  | [], _, h, _ => h
  | f :: L, s, h, hL => rqFs_ok L (rqF f s) (rqF_ok f s h (hL f List.mem_cons_self).1 (hL f List.mem_cons_self).2) (fun x hx => hL x (List.mem_cons_of_mem _ hx))
theorem fields_req2 {k : Int} : ∀ x ∈ (codec_fields.f 0 k).getD [], x ≠ 14 ∧ x ≠ 15 := by
  intro x hx
  cases h : codec_fields.f 0 k with
  | none => rw [h] at hx; cases hx
  | some L =>
    rw [h] at hx
    obtain ⟨e, h1, h2, _, rfl⟩ := fields_mem h
    exact (by decide : ∀ e ∈ wayT, e.1 = 0 → ∀ x ∈ e.2.2, x ≠ 14 ∧ x ≠ 15) e h1 h2 x hx
theorem msg0_ok : msg0.Wf ∧ msg0.Z := ⟨⟨by intro x hx; simp [Msg.ints, msg0] at hx; subst hx; decide, by decide, by decide⟩, ⟨rfl, rfl, rfl, rfl, rfl, rfl, rfl, rfl, rfl⟩⟩
theorem rqRaw_ok (l : List Int) (hb : Bp.Bytes l) (hl : l.length ≤ 4611686018427387904) : RqOk (rqRaw l) := by
  have h1 := rdNum_by (n := 1) (b := false) hb
  have h2 := rdNum_by (n := 4) (b := (rdNum 1 l false).2.2) h1.1
  refine rqFs_ok _ _ ⟨⟨?_, msg0_ok.1.topic, msg0_ok.1.group⟩, ⟨rfl, rfl, rfl, rfl, rfl, rfl, rfl, rfl, rfl⟩, h2.1, by have := h1.2; have := h2.2; dsimp only; omega⟩ fields_req2
  intro x hx
  simp only [Msg.ints, msg0, List.mem_cons, List.not_mem_nil, or_false] at hx
  rcases hx with rfl | rfl | hx
  · exact rdNum_wf _ _ _
  · exact rdNum_wf _ _ _
  · have : x = 0 := by omega
    subst this
    decide
theorem parse_ok (l : List Int) (hb : Bp.Bytes l) (hl : l.length ≤ 4611686018427387904) : (codec_ParseRequest.f l).1.Wf ∧ (codec_ParseRequest.f l).1.Z := by
  unfold codec_ParseRequest.f
  split
  · exact msg0_ok
  · exact ⟨(rqRaw_ok l hb hl).1, (rqRaw_ok l hb hl).2.1⟩

end Go.Proofs.Ytncfofnikmfjbaa.PCi

namespace Go.Proofs.Ytncfofnikmfjbaa.PCi
open Go.RowKit Go.Proofs.YtncfofnikmfjbaaW.PrintWords Go.Proofs.YtncfofnikmfjbaaW.PrintLast Go.Proofs.YtncfofnikmfjbaaW.PrintMore
attribute [local go_sem] max2_int min2_int max_two min_two max_three min_three max_four min_four
set_option linter.unusedVariables false
set_option linter.unusedSimpArgs false

structure QqSt (w W : World) (g h : Nat) (s : List Int × Bool) (m : Msg) : Prop where
  wr : Wr W g w.heap.size s.1 s.2
  ms : MsAt W h m
  below : Below w.heap.size w W
theorem QqSt.step {w W W2 : World} {g h : Nat} {s s2 : List Int × Bool} {m : Msg} (q : QqSt w W g h s m) (hgh : h ≠ g) (hw : Wr W2 g w.heap.size s2.1 s2.2) (hk : KeepW W W2 g w.heap.size) : QqSt w W2 g h s2 m := ⟨hw, q.ms.keep hk hgh, q.below.trans hk.below⟩
theorem QqSt.under {w W W2 : World} {g h : Nat} {s : List Int × Bool} {m : Msg} (q : QqSt w W g h s m) (hb : Below W.heap.size W W2) : QqSt w W2 g h s m := ⟨q.wr.below hb, blk_below q.ms hb, below_step q.below hb⟩
theorem rqm_cells {m : Msg} (z : m.Z) : m.cells = #[.int .i64 m.kind, .int .i64 m.id, .string m.topic, .int .i64 m.part, .int .i64 m.parts, .int .i64 m.seg, .int .i64 m.byt, .int .i64 m.age, .bool m.comp, .int .i64 m.delay, .int .i64 m.prod, .int .i64 m.seq, m.u1, .int .i64 m.off, .int .i64 m.max, .int .i64 m.time, .string m.group, .int .i64 0, .int .i64 0, .int .i64 0, .int .i64 0, .int .i64 0, .int .i64 0, .slice none 0 0, .slice none 0 0, .slice none 0 0] := by unfold Msg.cells; rw [z.z1, z.z2, z.z3, z.z4, z.z5, z.z6, z.z7, z.z8, z.z9]
theorem writer_new {w W : World} (hb : Below w.heap.size w W) : Wr (W.alloc (.cells #[.slice none 0 0, .bool false] 64)) W.heap.size w.heap.size [] false ∧ Below w.heap.size w (W.alloc (.cells #[.slice none 0 0, .bool false] 64)) := ⟨⟨none, 0, heap_alloc_new W _, Kd.R_nil _ _ _ _ _⟩, hb.alloc hb.size _⟩
theorem all26m (m : Msg) {A : Option Addr} {n c : Nat} (h : m.u1 = .slice A n c) : (#[.int .i64 m.kind, .int .i64 m.id, .string m.topic, .int .i64 m.part, .int .i64 m.parts, .int .i64 m.seg, .int .i64 m.byt, .int .i64 m.age, .bool m.comp, .int .i64 m.delay, .int .i64 m.prod, .int .i64 m.seq, m.u1, .int .i64 m.off, .int .i64 m.max, .int .i64 m.time, .string m.group, .int .i64 0, .int .i64 0, .int .i64 0, .int .i64 0, .int .i64 0, .int .i64 0, .slice none 0 0, .slice none 0 0, .slice none 0 0] : Array Value).all (·.oneCell') = true := by
  rw [← Array.all_toList]
  simp [h, Value.oneCell']
set_option maxHeartbeats 4000000 in
set_option maxRecDepth 100000 in
theorem codec_Request.calls (m : Msg) (A : Option Addr) (c : Nat) (rs : List S98) (w : World) (hE : EqOk) (hwf : m.Wf) (hz : m.Z) (hid : (Lit.int .i64 m.kind).wf = true) (hu : m.u1 = .slice A rs.length c) (hr : Kd.C k98 w A rs.length rs) (hc : rs.length ≤ c) (hn : rqN m rs ≤ 50000000) (hby : Bp.Bytes (rqWr m rs).1) :
    Calls Try.prog 13 #[.agg #[.int .i64 m.kind, .int .i64 m.id, .string m.topic, .int .i64 m.part, .int .i64 m.parts, .int .i64 m.seg, .int .i64 m.byt, .int .i64 m.age, .bool m.comp, .int .i64 m.delay, .int .i64 m.prod, .int .i64 m.seq, m.u1, .int .i64 m.off, .int .i64 m.max, .int .i64 m.time, .string m.group]] w fun e w' => (∃ v b n, e = .returned (.tuple #[v, .int .i64 n]) ∧ Kd.R (Kd.int .u8) 5 w' w.heap.size (fun _ => True) v b ∧ RqOut m rs b n) ∧ Below w.heap.size w w' := by
  have HE := Aside0.mk hE
  have HWF := Aside0.mk hwf
  have HZ := Aside0.mk hz
  have HID := Aside0.mk hid
  have HU := Aside0.mk hu
  have HR := Aside0.mk hr
  have HC := Aside0.mk hc
  have HN := Aside0.mk hn
  have HBY := Aside0.mk hby
  clear hE hwf hz hid hu hr hc hn hby
  go_enter Try.func13, Try.ntmps13
  go_upto_region 1 with (fail)
  (try simp only [Act.put, List.setIfInBounds_toArray, List.set_cons_zero, List.set_cons_succ])
  have P0 := Aside0.mk (And.intro (heap_alloc_new w (.cells #[.int .i64 m.kind, .int .i64 m.id, .string m.topic, .int .i64 m.part, .int .i64 m.parts, .int .i64 m.seg, .int .i64 m.byt, .int .i64 m.age, .bool m.comp, .int .i64 m.delay, .int .i64 m.prod, .int .i64 m.seq, m.u1, .int .i64 m.off, .int .i64 m.max, .int .i64 m.time, .string m.group] 26)) (below_alloc (Below.refl w.heap.size w) (.cells #[.int .i64 m.kind, .int .i64 m.id, .string m.topic, .int .i64 m.part, .int .i64 m.parts, .int .i64 m.seg, .int .i64 m.byt, .int .i64 m.age, .bool m.comp, .int .i64 m.delay, .int .i64 m.prod, .int .i64 m.seq, m.u1, .int .i64 m.off, .int .i64 m.max, .int .i64 m.time, .string m.group] 26)))
  generalize w.alloc (.cells #[.int .i64 m.kind, .int .i64 m.id, .string m.topic, .int .i64 m.part, .int .i64 m.parts, .int .i64 m.seg, .int .i64 m.byt, .int .i64 m.age, .bool m.comp, .int .i64 m.delay, .int .i64 m.prod, .int .i64 m.seq, m.u1, .int .i64 m.off, .int .i64 m.max, .int .i64 m.time, .string m.group] 26) = w0 at P0 ⊢
  have q0 : w0.cell? ⟨w.heap.size, 0, none⟩ = some (.int .i64 m.kind) := (blk_cell P0.out.1 0).trans rfl
  go_wp2_with fail
  refine (codec_fields.calls 0 m.kind w0 (by decide) HID.out).mono ?_
  rintro e w1 ⟨hp, hb⟩
  obtain ⟨ok, Al, L, rfl, hok, hL, hL7, hC⟩ := fds_out2 hp
  have HOK := Aside0.mk hok
  have HLL := Aside0.mk hL
  have HL7 := Aside0.mk hL7
  have P1 := Aside0.mk (And.intro (blk_below P0.out.1 hb) (below_step P0.out.2 hb))
  have HCL := Aside0.mk (show ∀ g W', w1.heap.size ≤ g → KeepW w1 W' g w.heap.size → Kd.C (Kd.int .i64) W' Al L.length L from fun g W' hg hW => hC g _ W' hg hW)
  have HX := Aside0.mk (show ∀ x ∈ L, x ≠ 17 ∧ x ≠ 18 ∧ x ≠ 19 from fun x hx => by cases hq : codec_fields.f 0 m.kind with | none => rw [hq] at hL; subst hL; cases hx | some L' => rw [hq] at hL; subst hL; exact fields_req hq x hx)
  clear hp hok hL hL7 hC hb q0 P0
  obtain ⟨eb, heb⟩ : ∃ b, b = rqBad1 m := ⟨_, rfl⟩
  have HEB := Aside0.mk (show eb = (!ok || (decide (m.id < 0) || decide (4294967295 < m.id))) from by rw [heb]; unfold rqBad1; rw [HOK.out])
  have HEB0 := Aside0.mk heb
  clear heb
  have q1 : w1.cell? ⟨w.heap.size, 1, none⟩ = some (.int .i64 m.id) := (blk_cell P1.out.1 1).trans rfl
  go_upto_region 2 with (fail)
  (try simp only [Act.put, List.setIfInBounds_toArray, List.set_cons_zero, List.set_cons_succ])
  go_cut [5, 29] (fun v5 v29 wc => v29 = .bool eb ∧ wc = w1)
  case first =>
    go_wp2
    all_goals
      go_meet
      case rel => exact ⟨congrArg Value.bool (by rw [HEB.out]; first | (simp [*]; done) | (simp [*, Bool.or_assoc]; done)), rfl⟩
  obtain ⟨rfl, rfl⟩ := hcut
  clear q1
  cases eb with
  | true =>
    go_wp2_with fail
    refine bodyPost_ret (v := .tuple #[.slice none 0 0, .int .i64 1]) (by simp [results, Try.results13, go_sem]) rfl ?_
    exact ⟨⟨_, [], 1, rfl, Kd.R_nil _ _ _ _ _, .inr ⟨rfl, rfl, fun h_ => by have h1 := HEB0.out; rw [h_.1] at h1; cases h1⟩⟩, P1.out.2⟩
  | false =>
    go_upto_region 5 with (fail)
    (try simp only [Act.put, List.setIfInBounds_toArray, List.set_cons_zero, List.set_cons_succ])
    obtain ⟨g, hg⟩ : ∃ g, g = wc.heap.size := ⟨_, rfl⟩
    have HG := Aside0.mk hg
    have P2 := Aside0.mk (writer_new P1.out.2)
    have B2 := Aside0.mk (blk_alloc P1.out.1 (.cells #[.slice none 0 0, .bool false] 64))
    have K2 := Aside0.mk (KeepW.of_below (g := wc.heap.size) (base := w.heap.size) (below_alloc (Below.refl wc.heap.size wc) (.cells #[.slice none 0 0, .bool false] 64)) P1.out.2.size)
    generalize wc.alloc (.cells #[.slice none 0 0, .bool false] 64) = w2 at P2 B2 K2 ⊢
    rw [← hg] at P2 K2 ⊢
    clear hg
    have HGE := Aside0.mk (show w.heap.size < g from by rw [HG.out]; exact blk_lt P1.out.1)
    have q0 : w2.cell? ⟨w.heap.size, 0, none⟩ = some (.int .i64 m.kind) := (blk_cell B2.out 0).trans rfl
    go_wp2_with fail
    refine (wr_number g w.heap.size [] false m.kind 1 w2 P2.out.1 (Nat.le_of_lt HGE.out) P2.out.2.size (by decide) (by decide) (by decide)).mono ?_
    rintro e w3 ⟨rfl, h1, h2⟩
    have P3 := Aside0.mk (And.intro h1 (P2.out.2.trans h2.below))
    have B3 := Aside0.mk (h2.blk B2.out (by have := HGE.out; omega) (by decide))
    have K3 := Aside0.mk (K2.out.trans h2)
    clear h1 h2 P2 B2 K2 q0
    have q1 : w3.cell? ⟨w.heap.size, 1, none⟩ = some (.int .i64 m.id) := (blk_cell B3.out 1).trans rfl
    go_wp2_with fail
    refine (wr_number g w.heap.size ([] ++ nb m.kind 1) false m.id 4 w3 P3.out.1 (Nat.le_of_lt HGE.out) P3.out.2.size (by decide) (by decide) (by rw [List.length_append, nb_len]; decide)).mono ?_
    rintro e w4 ⟨rfl, h1, h2⟩
    rw [List.nil_append] at h1
    have P4 := Aside0.mk (And.intro h1 (P3.out.2.trans h2.below))
    have B4 := Aside0.mk (h2.blk B3.out (by have := HGE.out; omega) (by decide))
    have K4 := Aside0.mk (K3.out.trans h2)
    clear h1 h2 P3 B3 K3 q1
    go_wp2_with (first | (refine wpl_loadG (by rfl) 26 (.tmp 1) rfl _ rfl B4.out Try.underlying26 rfl info17 ?_) | (refine wpList_store_row rfl 67 (.tmp 7) (.tmp 41) rfl w4.heap.size #[.int .i64 m.kind, .int .i64 m.id, .string m.topic, .int .i64 m.part, .int .i64 m.parts, .int .i64 m.seg, .int .i64 m.byt, .int .i64 m.age, .bool m.comp, .int .i64 m.delay, .int .i64 m.prod, .int .i64 m.seq, m.u1, .int .i64 m.off, .int .i64 m.max, .int .i64 m.time, .string m.group, .int .i64 0, .int .i64 0, .int .i64 0, .int .i64 0, .int .i64 0, .int .i64 0, .slice none 0 0, .slice none 0 0, .slice none 0 0] rfl rfl 67 #[.int .i64 0, .int .i64 0, .string ⟨#[]⟩, .int .i64 0, .int .i64 0, .int .i64 0, .int .i64 0, .int .i64 0, .bool false, .int .i64 0, .int .i64 0, .int .i64 0, .slice none 0 0, .int .i64 0, .int .i64 0, .int .i64 0, .string ⟨#[]⟩, .int .i64 0, .int .i64 0, .int .i64 0, .int .i64 0, .int .i64 0, .int .i64 0, .slice none 0 0, .slice none 0 0, .slice none 0 0] (heap_alloc_new w4 _) info26 rfl (all26m m HU.out) ?_))
    have HH := Aside0.mk (show g < w4.heap.size from P4.out.1.lt)
    have S5 := Aside0.mk (show QqSt w ((w4.alloc (.cells #[.int .i64 0, .int .i64 0, .string ⟨#[]⟩, .int .i64 0, .int .i64 0, .int .i64 0, .int .i64 0, .int .i64 0, .bool false, .int .i64 0, .int .i64 0, .int .i64 0, .slice none 0 0, .int .i64 0, .int .i64 0, .int .i64 0, .string ⟨#[]⟩, .int .i64 0, .int .i64 0, .int .i64 0, .int .i64 0, .int .i64 0, .int .i64 0, .slice none 0 0, .slice none 0 0, .slice none 0 0] 67)).setRow w4.heap.size #[.int .i64 m.kind, .int .i64 m.id, .string m.topic, .int .i64 m.part, .int .i64 m.parts, .int .i64 m.seg, .int .i64 m.byt, .int .i64 m.age, .bool m.comp, .int .i64 m.delay, .int .i64 m.prod, .int .i64 m.seq, m.u1, .int .i64 m.off, .int .i64 m.max, .int .i64 m.time, .string m.group, .int .i64 0, .int .i64 0, .int .i64 0, .int .i64 0, .int .i64 0, .int .i64 0, .slice none 0 0, .slice none 0 0, .slice none 0 0]) g w4.heap.size (nb m.kind 1 ++ nb m.id 4, false) m from have hb := below_row (below_alloc (Below.refl w4.heap.size w4) (.cells #[.int .i64 0, .int .i64 0, .string ⟨#[]⟩, .int .i64 0, .int .i64 0, .int .i64 0, .int .i64 0, .int .i64 0, .bool false, .int .i64 0, .int .i64 0, .int .i64 0, .slice none 0 0, .int .i64 0, .int .i64 0, .int .i64 0, .string ⟨#[]⟩, .int .i64 0, .int .i64 0, .int .i64 0, .int .i64 0, .int .i64 0, .int .i64 0, .slice none 0 0, .slice none 0 0, .slice none 0 0] 67)) (Nat.le_refl _) #[.int .i64 m.kind, .int .i64 m.id, .string m.topic, .int .i64 m.part, .int .i64 m.parts, .int .i64 m.seg, .int .i64 m.byt, .int .i64 m.age, .bool m.comp, .int .i64 m.delay, .int .i64 m.prod, .int .i64 m.seq, m.u1, .int .i64 m.off, .int .i64 m.max, .int .i64 m.time, .string m.group, .int .i64 0, .int .i64 0, .int .i64 0, .int .i64 0, .int .i64 0, .int .i64 0, .slice none 0 0, .slice none 0 0, .slice none 0 0]; ⟨P4.out.1.below hb, by unfold MsAt; rw [rqm_cells HZ.out]; exact setRow_heap _ _ _ _ _ _ (heap_alloc_new w4 _), below_step P4.out.2 hb⟩)
    have K5 := Aside0.mk (show KeepW wc ((w4.alloc (.cells #[.int .i64 0, .int .i64 0, .string ⟨#[]⟩, .int .i64 0, .int .i64 0, .int .i64 0, .int .i64 0, .int .i64 0, .bool false, .int .i64 0, .int .i64 0, .int .i64 0, .slice none 0 0, .int .i64 0, .int .i64 0, .int .i64 0, .string ⟨#[]⟩, .int .i64 0, .int .i64 0, .int .i64 0, .int .i64 0, .int .i64 0, .int .i64 0, .slice none 0 0, .slice none 0 0, .slice none 0 0] 67)).setRow w4.heap.size #[.int .i64 m.kind, .int .i64 m.id, .string m.topic, .int .i64 m.part, .int .i64 m.parts, .int .i64 m.seg, .int .i64 m.byt, .int .i64 m.age, .bool m.comp, .int .i64 m.delay, .int .i64 m.prod, .int .i64 m.seq, m.u1, .int .i64 m.off, .int .i64 m.max, .int .i64 m.time, .string m.group, .int .i64 0, .int .i64 0, .int .i64 0, .int .i64 0, .int .i64 0, .int .i64 0, .slice none 0 0, .slice none 0 0, .slice none 0 0]) g w.heap.size from K4.out.trans (KeepW.of_below (below_row (below_alloc (Below.refl w4.heap.size w4) (.cells #[.int .i64 0, .int .i64 0, .string ⟨#[]⟩, .int .i64 0, .int .i64 0, .int .i64 0, .int .i64 0, .int .i64 0, .bool false, .int .i64 0, .int .i64 0, .int .i64 0, .slice none 0 0, .int .i64 0, .int .i64 0, .int .i64 0, .string ⟨#[]⟩, .int .i64 0, .int .i64 0, .int .i64 0, .int .i64 0, .int .i64 0, .int .i64 0, .slice none 0 0, .slice none 0 0, .slice none 0 0] 67)) (Nat.le_refl _) #[.int .i64 m.kind, .int .i64 m.id, .string m.topic, .int .i64 m.part, .int .i64 m.parts, .int .i64 m.seg, .int .i64 m.byt, .int .i64 m.age, .bool m.comp, .int .i64 m.delay, .int .i64 m.prod, .int .i64 m.seq, m.u1, .int .i64 m.off, .int .i64 m.max, .int .i64 m.time, .string m.group, .int .i64 0, .int .i64 0, .int .i64 0, .int .i64 0, .int .i64 0, .int .i64 0, .slice none 0 0, .slice none 0 0, .slice none 0 0]) P4.out.2.size))
    generalize (w4.alloc (.cells #[.int .i64 0, .int .i64 0, .string ⟨#[]⟩, .int .i64 0, .int .i64 0, .int .i64 0, .int .i64 0, .int .i64 0, .bool false, .int .i64 0, .int .i64 0, .int .i64 0, .slice none 0 0, .int .i64 0, .int .i64 0, .int .i64 0, .string ⟨#[]⟩, .int .i64 0, .int .i64 0, .int .i64 0, .int .i64 0, .int .i64 0, .int .i64 0, .slice none 0 0, .slice none 0 0, .slice none 0 0] 67)).setRow w4.heap.size #[.int .i64 m.kind, .int .i64 m.id, .string m.topic, .int .i64 m.part, .int .i64 m.parts, .int .i64 m.seg, .int .i64 m.byt, .int .i64 m.age, .bool m.comp, .int .i64 m.delay, .int .i64 m.prod, .int .i64 m.seq, m.u1, .int .i64 m.off, .int .i64 m.max, .int .i64 m.time, .string m.group, .int .i64 0, .int .i64 0, .int .i64 0, .int .i64 0, .int .i64 0, .int .i64 0, .slice none 0 0, .slice none 0 0, .slice none 0 0] = w5 at S5 K5 ⊢
    obtain ⟨h, hh⟩ : ∃ h, h = w4.heap.size := ⟨_, rfl⟩
    rw [← hh] at S5 HH ⊢
    have HGH := Aside0.mk (show h ≠ g from by have := HH.out; omega)
    clear P4 B4 K4 hh
    obtain ⟨S_, hS_⟩ : ∃ s, s = rqWr m rs := ⟨_, rfl⟩
    have HS_ := Aside0.mk hS_
    have HS2 := Aside0.mk (show wFs m rs L (nb m.kind 1 ++ nb m.id 4, false) = S_ from by rw [hS_]; unfold rqWr; rw [HLL.out])
    clear hS_
    have HLR := Aside0.mk (show ∀ W, Below w.heap.size w W → Kd.C k98 W A rs.length rs from fun W hW => Kd.C_below HR.out hW)
    have HWC := Aside0.mk (show wc.heap.size ≤ g from by rw [HG.out]; exact Nat.le_refl _)
    go_loopg [44] (L.length + 1) (fun kq v44 w' => ∃ (i : Int) (s : List Int × Bool), v44 = .int .i64 i ∧ Aside0 (kq + i.toNat = L.length + 1 ∧ 0 ≤ i ∧ i ≤ (L.length : Int)) ∧ Aside0 (wFs m rs (L.drop i.toNat) s = S_) ∧ Aside0 (QqSt w w' g h s m) ∧ Aside0 (KeepW wc w' g w.heap.size) ∧ Aside0 (s.1.length ≤ 5 + i.toNat * 50000008))
    case atStart => exact ⟨0, _, rfl, ⟨by simp, by omega, by omega⟩, HS2, S5, K5, ⟨by rw [List.length_append, nb_len, nb_len]; simp⟩⟩
    case round =>
      obtain ⟨i, s, rfl, HI, HA, HQ, HK, HLn⟩ := hrel
      clear S5 K5 HS2
      by_cases hi : i < (L.length : Int)
      · have d1 : decide (i < (L.length : Int)) = true := decide_eq_true hi
        have h0 := HI.out.2.1
        obtain ⟨ad, ea, x0⟩ := Kd.at_int (HCL.out g wr HWC.out HK.out) i h0 hi
        cases ea
        have p1 := eq_true h0
        have p2 := eq_true hi
        have HE2 := Aside0.mk (show wFs m rs (rd L i :: L.drop (i + 1).toNat) s = S_ from by have h_ := drop_rd (0 : Int) h0 hi; rw [← HA.out, h_]; rfl)
        have e1 : IntKind.i64.wrap (i + 1) = i + 1 := (i64_w _).trans (by have := HL7.out; unfold wrap64; omega)
        have hx := HX.out (rd L i) (List.mem_of_mem_drop (i := i.toNat) (by have h_ := drop_rd (0 : Int) h0 hi; rw [h_]; exact List.mem_cons_self))
        have HX2 := Aside0.mk hx
        have HI2 := Aside0.mk hi
        clear hx hi h0
        go_wp2_with fail
        refine (rq_wfield g w.heap.size h (rd L i) s m A c rs wr HQ.out.wr (Nat.le_of_lt HGE.out) HQ.out.below.size HQ.out.ms HU.out (fun W hW => HLR.out W (HQ.out.below.trans hW)) (by have := HLn.out; have := HN.out; have := HI.out; have := HI2.out; have := HL7.out; have : i.toNat ≤ 6 := (by omega); have : i.toNat * 50000008 ≤ 6 * 50000008 := Nat.mul_le_mul_right _ this; omega) HX2.out.1 HX2.out.2.1 HX2.out.2.2).mono ?_
        rintro e w9 ⟨rfl, h3, h4⟩
        have Q2 := Aside0.mk (HQ.out.step HGH.out h3 h4)
        have K2 := Aside0.mk (HK.out.trans h4)
        have N2 := Aside0.mk (show (wF m rs (rd L i) s).1.length ≤ 5 + (i + 1).toNat * 50000008 from by have := wF_len m rs (rd L i) s; have := HLn.out; have := HN.out; rw [show (i + 1).toNat = i.toNat + 1 from by have := HI.out; omega]; omega)
        clear h3 h4 HQ HK HLn x0
        go_wp2_with fail
        go_roundg (L.length + 1 - (i + 1).toNat)
        case measure => have := HI.out; have := HI2.out; omega
        case rel => exact ⟨i + 1, wF m rs (rd L i) s, by first | rfl | (rw [e1]), ⟨by have := HI.out; have := HI2.out; omega, by have := HI.out; omega, by have := HI2.out; omega⟩, ⟨HE2.out⟩, Q2, K2, N2⟩
      · have d1 : decide (i < (L.length : Int)) = false := decide_eq_false hi
        have hs := HA.out
        rw [List.drop_eq_nil_of_le (by have := HI.out; omega)] at hs
        change s = S_ at hs
        subst hs
        have HSL := Aside0.mk (show s.1.length ≤ 400000000 from by have := HLn.out; have := HI.out; have := HL7.out; have : i.toNat ≤ 7 := (by omega); have : i.toNat * 50000008 ≤ 7 * 50000008 := Nat.mul_le_mul_right _ this; omega)
        clear hi HA HK HLn HX HCL HI
        obtain ⟨b, sb⟩ := s
        dsimp only at HSL
        obtain ⟨Aw, cw, hgw, hRw⟩ := HQ.out.wr
        have q0 : wr.cell? ⟨g, 0, none⟩ = some (.slice Aw b.length cw) := (blk_cell hgw 0).trans rfl
        have q1 : wr.cell? ⟨g, 1, none⟩ = some (.bool sb) := (blk_cell hgw 1).trans rfl
        have HRw := Aside0.mk hRw
        have HGw := Aside0.mk hgw
        clear hgw hRw
        cases sb with
        | true =>
          go_wp2_with fail
          refine bodyPost_ret (v := .tuple #[.slice none 0 0, .int .i64 1]) (by simp [results, Try.results13, go_sem]) rfl ?_
          exact ⟨⟨_, [], 1, rfl, Kd.R_nil _ _ _ _ _, .inr ⟨rfl, rfl, fun h_ => by have h1 := HS_.out; rw [← h1] at h_; exact absurd h_.2.1 (by simp)⟩⟩, HQ.out.below⟩
        | false =>
          go_wp2_with fail
          have HBb := Aside0.mk (show Bp.Bytes b from by have h1 := HBY.out; rw [← HS_.out] at h1; exact h1)
          refine (codec_ParseRequest.calls Aw cw b wr (Kd.R_reads' HRw.out).2.2 (Kd.R_reads' HRw.out).2.1 HBb.out).mono ?_
          rintro e w6 ⟨⟨v, rfl, hv⟩, hb⟩
          obtain ⟨⟨n, rs', er⟩, hp⟩ : ∃ p, p = codec_ParseRequest.f b := ⟨_, rfl⟩
          have HP := Aside0.mk hp
          have hok := parse_ok b HBb.out (by have := HSL.out; omega)
          rw [← hp] at hok hv ⊢
          dsimp only at hok hv ⊢
          have HOK2 := Aside0.mk hok
          obtain ⟨Av, cv, ev⟩ := Kd.R_slice hv
          subst ev
          have HV := Aside0.mk hv
          have Q6 := Aside0.mk (HQ.out.under hb)
          have G6 := Aside0.mk (blk_below HGw.out hb)
          have R6 := Aside0.mk (Kd.R_below HRw.out hb)
          clear hp hok hv hb HQ HGw HRw q0 q1
          go_upto_region 16 with (refine wpList_store_row rfl 26 (.tmp 10) (.tmp 62) rfl w6.heap.size #[.int .i64 n.kind, .int .i64 n.id, .string n.topic, .int .i64 n.part, .int .i64 n.parts, .int .i64 n.seg, .int .i64 n.byt, .int .i64 n.age, .bool n.comp, .int .i64 n.delay, .int .i64 n.prod, .int .i64 n.seq, .slice Av rs'.length cv, .int .i64 n.off, .int .i64 n.max, .int .i64 n.time, .string n.group] rfl rfl 26 #[.int .i64 0, .int .i64 0, .string ⟨#[]⟩, .int .i64 0, .int .i64 0, .int .i64 0, .int .i64 0, .int .i64 0, .bool false, .int .i64 0, .int .i64 0, .int .i64 0, .slice none 0 0, .int .i64 0, .int .i64 0, .int .i64 0, .string ⟨#[]⟩] (heap_alloc_new w6 _) info17 rfl (req_all { n with u1 := .slice Av rs'.length cv } rfl) ?_)
          (try simp only [Act.put, List.setIfInBounds_toArray, List.set_cons_zero, List.set_cons_succ])
          have hb7 := below_row (below_alloc (Below.refl w6.heap.size w6) (.cells #[.int .i64 0, .int .i64 0, .string ⟨#[]⟩, .int .i64 0, .int .i64 0, .int .i64 0, .int .i64 0, .int .i64 0, .bool false, .int .i64 0, .int .i64 0, .int .i64 0, .slice none 0 0, .int .i64 0, .int .i64 0, .int .i64 0, .string ⟨#[]⟩] 26)) (Nat.le_refl _) #[.int .i64 n.kind, .int .i64 n.id, .string n.topic, .int .i64 n.part, .int .i64 n.parts, .int .i64 n.seg, .int .i64 n.byt, .int .i64 n.age, .bool n.comp, .int .i64 n.delay, .int .i64 n.prod, .int .i64 n.seq, .slice Av rs'.length cv, .int .i64 n.off, .int .i64 n.max, .int .i64 n.time, .string n.group]
          have Q7 := Aside0.mk (Q6.out.under hb7)
          have G7 := Aside0.mk (blk_below G6.out hb7)
          have R7 := Aside0.mk (Kd.R_below R6.out hb7)
          have V7 := Aside0.mk (Kd.R_below HV.out hb7)
          have T7 := Aside0.mk (setRow_heap _ _ _ #[.int .i64 n.kind, .int .i64 n.id, .string n.topic, .int .i64 n.part, .int .i64 n.parts, .int .i64 n.seg, .int .i64 n.byt, .int .i64 n.age, .bool n.comp, .int .i64 n.delay, .int .i64 n.prod, .int .i64 n.seq, .slice Av rs'.length cv, .int .i64 n.off, .int .i64 n.max, .int .i64 n.time, .string n.group] _ _ (heap_alloc_new w6 (.cells #[.int .i64 0, .int .i64 0, .string ⟨#[]⟩, .int .i64 0, .int .i64 0, .int .i64 0, .int .i64 0, .int .i64 0, .bool false, .int .i64 0, .int .i64 0, .int .i64 0, .slice none 0 0, .int .i64 0, .int .i64 0, .int .i64 0, .string ⟨#[]⟩] 26)))
          generalize (w6.alloc (.cells #[.int .i64 0, .int .i64 0, .string ⟨#[]⟩, .int .i64 0, .int .i64 0, .int .i64 0, .int .i64 0, .int .i64 0, .bool false, .int .i64 0, .int .i64 0, .int .i64 0, .slice none 0 0, .int .i64 0, .int .i64 0, .int .i64 0, .string ⟨#[]⟩] 26)).setRow w6.heap.size #[.int .i64 n.kind, .int .i64 n.id, .string n.topic, .int .i64 n.part, .int .i64 n.parts, .int .i64 n.seg, .int .i64 n.byt, .int .i64 n.age, .bool n.comp, .int .i64 n.delay, .int .i64 n.prod, .int .i64 n.seq, .slice Av rs'.length cv, .int .i64 n.off, .int .i64 n.max, .int .i64 n.time, .string n.group] = w7 at Q7 G7 R7 V7 T7 ⊢
          clear hb7 Q6 G6 R6 HV
          by_cases he : er = 0
          case neg =>
            have d2 : (er == 0) = false := beq_eq_false_iff_ne.2 he
            have d3 : (er != 0) = true := by simpa using he
            have HER := Aside0.mk he
            clear he
            go_wp2_with fail
            refine bodyPost_ret (v := .tuple #[.slice none 0 0, .int .i64 1]) (by simp [results, Try.results13, go_sem]) rfl ?_
            exact ⟨⟨_, [], 1, rfl, Kd.R_nil _ _ _ _ _, .inr ⟨rfl, rfl, fun h_ => by have h1 := HS_.out; rw [← h1, ← HP.out] at h_; exact HER.out h_.2.2.1⟩⟩, Q7.out.below⟩
          subst he
          go_wp2_with (first | (refine wpl_loadG (by rfl) 67 (.tmp 7) rfl _ rfl Q7.out.ms Try.underlying67 rfl info26 ?_) | (refine wpl_loadG (by rfl) 26 (.tmp 10) rfl _ rfl T7.out Try.underlying26 rfl info17 ?_))
          have hsm := same_rq m { n with u1 := .slice Av rs'.length cv } A Av c cv rs rs' w7 HE.out HWF.out ⟨HOK2.out.1.ints, HOK2.out.1.topic, HOK2.out.1.group⟩ HZ.out ⟨HOK2.out.2.z1, HOK2.out.2.z2, HOK2.out.2.z3, HOK2.out.2.z4, HOK2.out.2.z5, HOK2.out.2.z6, HOK2.out.2.z7, HOK2.out.2.z8, HOK2.out.2.z9⟩ HU.out rfl (HLR.out w7 Q7.out.below) HC.out (Kd.R_reads' V7.out).2.2 (Kd.R_reads' V7.out).2.1 HR.out.2.1
          rw [rqm_cells (m := { n with u1 := .slice Av rs'.length cv }) ⟨HOK2.out.2.z1, HOK2.out.2.z2, HOK2.out.2.z3, HOK2.out.2.z4, HOK2.out.2.z5, HOK2.out.2.z6, HOK2.out.2.z7, HOK2.out.2.z8, HOK2.out.2.z9⟩] at hsm
          refine hsm.mono ?_
          clear hsm
          rintro e w8 ⟨⟨r, rfl, hr⟩, hb⟩
          have HRR := Aside0.mk hr
          have Q8 := Aside0.mk (Q7.out.under hb)
          have G8 := Aside0.mk (blk_below G7.out hb)
          have R8 := Aside0.mk (Kd.R_below R7.out hb)
          clear hr hb Q7 G7 R7 V7 T7
          cases r with
          | false =>
            go_wp2_with fail
            refine bodyPost_ret (v := .tuple #[.slice none 0 0, .int .i64 1]) (by simp [results, Try.results13, go_sem]) rfl ?_
            exact ⟨⟨_, [], 1, rfl, Kd.R_nil _ _ _ _ _, .inr ⟨rfl, rfl, fun h_ => by have h1 := HS_.out; rw [← h1, ← HP.out] at h_; have h2 := HRR.out.2 h_.2.2.2; cases h2⟩⟩, Q8.out.below⟩
          | true =>
            have q0 : w8.cell? ⟨g, 0, none⟩ = some (.slice Aw b.length cw) := (blk_cell G8.out 0).trans rfl
            go_wp2_with fail
            refine bodyPost_ret (v := .tuple #[.slice Aw b.length cw, .int .i64 0]) (by simp [results, Try.results13, go_sem]) rfl ?_
            exact ⟨⟨_, b, 0, rfl, R8.out, .inl (by have h1 := HS_.out; rw [← h1, ← HP.out]; exact ⟨rfl, rfl, HEB0.out.symm, rfl, rfl, HRR.out.1 (by first | rfl | trivial)⟩)⟩, Q8.out.below⟩

end Go.Proofs.Ytncfofnikmfjbaa.PCi
