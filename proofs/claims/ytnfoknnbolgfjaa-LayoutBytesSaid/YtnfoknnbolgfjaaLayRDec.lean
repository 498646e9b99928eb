/- What the document's Decode comes to: the same. -/
import Derived.Test.YtnfoknnbolgfjaaPLbx6
import Derived.Test.YtnfoknnbolgfjaaLayDec
import Derived.Test.YtnfoknnbolgfjaaLayRef
import Derived.Test.YtnfoknnbolgfjaaRGet
namespace Go.Proofs.Ytnfoknnbolgfjaa.Lay
open Go Go.RowKit Go.Proofs.Ytnfoknnbolgfjaa.PLb Go.Proofs.YtnfoknnbolgfjaaW.PrintWords Go.Proofs.YtnfoknnbolgfjaaW.PrintLast Go.Proofs.YtnfoknnbolgfjaaW.PrintMore
set_option linter.unusedVariables false
set_option linter.unusedSimpArgs false

theorem rdecode_f (b : List Int) (hb : Bp.Bytes b) (hl : b.length ≤ 4000) (k : Nat) (hk : 700 ≤ k) : bollardref6_Decode.f k b = some (dec b) := by
  obtain ⟨K, rfl⟩ : ∃ K, k = K + 1 := ⟨k - 1, by omega⟩
  have hbad : ∀ n i, bollardref6_Decode.j0 (K + 1) b n i true = some noPl := by
    intro n i
    simp only [bollardref6_Decode.j0]
    rw [if_pos (by trivial)]
    rfl
  have nog : b.length < 16 → dec b = noPl := by
    intro h
    unfold dec
    rw [if_neg]
    rintro ⟨⟨f, _⟩, _⟩
    unfold Fits iOf at f
    rw [if_neg (by omega)] at f
    omega
  unfold bollardref6_Decode.f
  by_cases h : 12 ≤ b.length
  · have g8 := Bp.rget_f b hb (by omega) 8 4 false (by decide) (by decide) (by omega) (K + 1) (by omega)
    rw [show ((8 : Nat) : Int) = 8 from rfl, show ((4 : Nat) : Int) = 4 from rfl] at g8
    rw [g8, Option.bind_some]
    by_cases h2 : 16 ≤ b.length
    · have g12 := Bp.rget_f b hb (by omega) 12 4 false (by decide) (by decide) (by omega) (K + 1) (by omega)
      rw [show ((12 : Nat) : Int) = 12 from rfl, show ((4 : Nat) : Int) = 4 from rfl] at g12
      rw [g12, Option.bind_some]
      dsimp only
      rw [if_pos rfl]
      simp only [bollardref6_Decode.j0]
      rw [if_neg (by simp)]
      have e1 : Bp.get b 8 4 false = nOf b := by unfold nOf; rw [if_pos h]
      have e2 : Bp.get b 12 4 false = iOf b := by unfold iOf; rw [if_pos h2]
      obtain ⟨x, hx, n0, n1⟩ := get_n b hb hl 9 (by omega)
      obtain ⟨y, hy, i0, i1⟩ := get_i b hb hl 9 (by omega)
      clear hx hy
      rw [e1, e2, w64 (x := nOf b) (by omega) (by omega), w64 (x := iOf b) (by omega) (by omega), rmake_f _ _ K (by omega)]
      unfold dec
      generalize nOf b = n at *
      generalize iOf b = i at *
      by_cases g : Good n i
      · rw [make_pl g, Option.bind_some]
        unfold plOf
        dsimp only
        rw [if_pos rfl, rencode_f _ _ _ _ _ _ _ K (by omega), Option.bind_some]
        have es : sb n i 246 (246 + (i + 4095) / 4096) (246 + (i + 4095) / 4096 + mkBlocks (mkRest n i)) (246 + (i + 4095) / 4096 + mkBlocks (mkRest n i) + (i + 7) / 8) (room n i) = sbOf n i := rfl
        rw [es]
        by_cases c : sbOf n i = b
        · rw [if_pos ((Bp.strs_eq (sbOf_bytes n i) hb).2 c), if_pos ⟨g, c⟩]
        · rw [if_neg (fun h => c ((Bp.strs_eq (sbOf_bytes n i) hb).1 h)), if_neg (fun h => c h.2)]
          rfl
      · obtain ⟨e, he, hm⟩ := make_no g
        rw [hm, Option.bind_some]
        dsimp only
        rw [if_neg he, if_neg (fun h => g h.1)]
        rfl
    · rw [Bp.rget_none b (by omega) 12 4 false (by omega) (K + 1) (by omega), Option.bind_some]
      dsimp only
      rw [if_pos rfl, nog (by omega)]
      exact hbad _ _
  · rw [Bp.rget_none b (by omega) 8 4 false (by omega) (K + 1) (by omega), Option.bind_some, Bp.rget_none b (by omega) 12 4 false (by omega) (K + 1) (by omega), Option.bind_some]
    dsimp only
    rw [if_neg (by simp), nog (by omega)]
    exact hbad _ _

end Go.Proofs.Ytnfoknnbolgfjaa.Lay
