/- What the program's Decode comes to. -/
import Derived.Test.YtnfoknnbolgfjaaPLbx3
import Derived.Test.YtnfoknnbolgfjaaLaySb
import Derived.Test.YtnfoknnbolgfjaaStrNum
namespace Go.Proofs.Ytnfoknnbolgfjaa.Lay
open Go Go.RowKit Go.Proofs.Ytnfoknnbolgfjaa.PLb Go.Proofs.YtnfoknnbolgfjaaW.PrintWords Go.Proofs.YtnfoknnbolgfjaaW.PrintLast Go.Proofs.YtnfoknnbolgfjaaW.PrintMore
set_option linter.unusedVariables false
set_option linter.unusedSimpArgs false

/-- The superblock of so many blocks and inodes. -/
def sbOf (n i : Int) : List Int := sb n i 246 (246 + (i + 4095) / 4096) (246 + (i + 4095) / 4096 + mkBlocks (mkRest n i)) (246 + (i + 4095) / 4096 + mkBlocks (mkRest n i) + (i + 7) / 8) (room n i)
/-- The plan of so many blocks and inodes. -/
def plOf (n i : Int) : Int × Int × Int × Int × Int × Int × Int × Int := (n, i, 246, 246 + (i + 4095) / 4096, 246 + (i + 4095) / 4096 + mkBlocks (mkRest n i), 246 + (i + 4095) / 4096 + mkBlocks (mkRest n i) + (i + 7) / 8, room n i, 0)
def noPl : Int × Int × Int × Int × Int × Int × Int × Int := (0, 0, 0, 0, 0, 0, 0, 10)
def Good (n i : Int) : Prop := Fits n i ∧ 1 ≤ room n i
theorem sbOf_bytes (n i : Int) : Bp.Bytes (sbOf n i) := sb_bytes _ _ _ _ _ _ _
theorem make_pl {n i : Int} (h : Good n i) : layout_Make.f n i = some (plOf n i) := make_good h.1 h.2
theorem make_no {n i : Int} (h : ¬ Good n i) : ∃ e, e ≠ 0 ∧ layout_Make.f n i = some (0, 0, 0, 0, 0, 0, 0, e) := by
  by_cases f : Fits n i
  · exact ⟨3, by decide, make_full f (Int.not_le.1 fun g => h ⟨f, g⟩)⟩
  · exact ⟨1, by decide, make_bad f⟩
def nOf (b : List Int) : Int := if 12 ≤ b.length then Bp.get b 8 4 false else 0
def iOf (b : List Int) : Int := if 16 ≤ b.length then Bp.get b 12 4 false else 0
open Classical in
noncomputable def dec (b : List Int) : Int × Int × Int × Int × Int × Int × Int × Int := if Good (nOf b) (iOf b) ∧ sbOf (nOf b) (iOf b) = b then plOf (nOf b) (iOf b) else noPl
theorem get_n (b : List Int) (hb : Bp.Bytes b) (hl : b.length ≤ 4000) (k : Nat) (hk : 9 ≤ k) : ∃ x, bits_Get.f k b 8 4 false = some (nOf b, x) ∧ 0 ≤ nOf b ∧ nOf b < 4294967296 := by
  unfold nOf
  by_cases h : 12 ≤ b.length
  · rw [if_pos h]
    have r := Bp.get_range hb 8 4 false
    exact ⟨true, Bp.get_f b hb (by omega) 8 4 false (by decide) (by decide) h k hk, r.1, (by have := r.2; rwa [show (256 : Int) ^ 4 = 4294967296 from by decide] at this)⟩
  · rw [if_neg h]
    exact ⟨false, Bp.get_none b (by omega) 8 4 false (by omega) k, by omega, by omega⟩
theorem get_i (b : List Int) (hb : Bp.Bytes b) (hl : b.length ≤ 4000) (k : Nat) (hk : 9 ≤ k) : ∃ x, bits_Get.f k b 12 4 false = some (iOf b, x) ∧ 0 ≤ iOf b ∧ iOf b < 4294967296 := by
  unfold iOf
  by_cases h : 16 ≤ b.length
  · rw [if_pos h]
    have r := Bp.get_range hb 12 4 false
    exact ⟨true, Bp.get_f b hb (by omega) 12 4 false (by decide) (by decide) h k hk, r.1, (by have := r.2; rwa [show (256 : Int) ^ 4 = 4294967296 from by decide] at this)⟩
  · rw [if_neg h]
    exact ⟨false, Bp.get_none b (by omega) 12 4 false (by omega) k, by omega, by omega⟩
theorem decode_f (b : List Int) (hb : Bp.Bytes b) (hl : b.length ≤ 4000) (k : Nat) (hk : 400 ≤ k) : layout_Decode.f k b = some (dec b) := by
  obtain ⟨x, hx, n0, n1⟩ := get_n b hb hl k (by omega)
  obtain ⟨y, hy, i0, i1⟩ := get_i b hb hl k (by omega)
  unfold layout_Decode.f
  rw [hx, Option.bind_some, hy, Option.bind_some]
  dsimp only
  rw [w64 (x := nOf b) (by omega) (by omega), w64 (x := iOf b) (by omega) (by omega)]
  unfold dec
  generalize nOf b = n at *
  generalize iOf b = i at *
  by_cases g : Good n i
  · rw [make_pl g, Option.bind_some]
    unfold plOf
    dsimp only
    rw [if_pos rfl, encode_f _ _ _ _ _ _ _ k hk, Option.bind_some]
    have es : sb n i 246 (246 + (i + 4095) / 4096) (246 + (i + 4095) / 4096 + mkBlocks (mkRest n i)) (246 + (i + 4095) / 4096 + mkBlocks (mkRest n i) + (i + 7) / 8) (room n i) = sbOf n i := rfl
    rw [es]
    unfold bytes_Equal.f
    rw [Option.bind_some, Bp.strs_beq (sbOf_bytes n i) hb]
    by_cases c : sbOf n i = b
    · rw [decide_eq_true c, if_pos rfl, if_pos ⟨g, c⟩]
    · rw [decide_eq_false c, if_neg (by simp), if_neg (fun h => c h.2)]
      rfl
  · obtain ⟨e, he, hm⟩ := make_no g
    rw [hm, Option.bind_some]
    dsimp only
    rw [if_neg he, if_neg (fun h => g h.1)]
    rfl

end Go.Proofs.Ytnfoknnbolgfjaa.Lay
