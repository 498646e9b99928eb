/- A superblock that is too short, or too long, is none. -/
import Derived.Test.YtnfoknnbolgfjaaPLbx10
import Derived.Test.YtnfoknnbolgfjaaLayTurn
namespace Go.Proofs.Ytnfoknnbolgfjaa.Pure
open Go Go.RowKit Go.Proofs.Ytnfoknnbolgfjaa.PLb Go.Proofs.YtnfoknnbolgfjaaW.PrintWords Go.Proofs.YtnfoknnbolgfjaaW.PrintLast Go.Proofs.YtnfoknnbolgfjaaW.PrintMore Go.Proofs.Ytnfoknnbolgfjaa.Lay
set_option linter.unusedVariables false
set_option linter.unusedSimpArgs false

theorem LayoutCuts : bollardlaw6_LayoutCuts.Pure := by
  intro n i size hn hi hs
  refine ⟨1000, ?_⟩
  unfold bollardlaw6_LayoutCuts.f
  by_cases h0 : size < 0
  · rw [if_pos h0, awake_f]
  rw [if_neg h0]
  by_cases h1 : 600 < size
  · rw [if_pos h1, awake_f]
  rw [if_neg h1]
  by_cases g : Lay.Good n i
  · have hl := sbOf_length n i
    rw [make_pl g, Option.bind_some]
    unfold plOf
    dsimp only
    rw [if_pos rfl, encode_f _ _ _ _ _ _ _ 1000 (by decide), Option.bind_some]
    have es : sb n i 246 (246 + (i + 4095) / 4096) (246 + (i + 4095) / 4096 + mkBlocks (mkRest n i)) (246 + (i + 4095) / 4096 + mkBlocks (mkRest n i) + (i + 7) / 8) (room n i) = sbOf n i := rfl
    rw [es, if_pos hl]
    have hb : Bp.Bytes ((sbOf n i ++ List.replicate (Int.toNat 100) 0).take size.toNat) := fun x hx => app_bytes (sbOf_bytes n i) (zeros_bytes _) x (List.mem_of_mem_take hx)
    have hlen : ((sbOf n i ++ List.replicate (Int.toNat 100) 0).take size.toNat).length = size.toNat := by
      rw [List.length_take, List.length_append, List.length_replicate, hl]
      omega
    rw [decode_f _ hb (by rw [hlen]; omega) 1000 (by decide), Option.bind_some]
    by_cases c : size = 512
    · have e : (sbOf n i ++ List.replicate (Int.toNat 100) 0).take size.toNat = sbOf n i := by
        have := List.take_left (l₁ := sbOf n i) (l₂ := List.replicate (Int.toNat 100) (0 : Int))
        rw [hl] at this
        rw [c]
        exact this
      rw [e, dec_sb g, if_pos c]
      unfold plOf
      dsimp only
      rw [if_pos ⟨rfl, rfl, rfl, rfl, rfl, rfl, rfl, rfl⟩, awake_f]
    · have e : dec ((sbOf n i ++ List.replicate (Int.toNat 100) 0).take size.toNat) = noPl := by
        unfold dec
        rw [if_neg]
        rintro ⟨_, e⟩
        have := congrArg List.length e
        rw [hlen, sbOf_length] at this
        omega
      rw [e, if_neg c]
      unfold noPl
      dsimp only
      rw [if_neg (by decide), awake_f]
  · obtain ⟨e, he, hm⟩ := make_no g
    rw [hm, Option.bind_some]
    dsimp only
    rw [if_neg he, awake_f]

end Go.Proofs.Ytnfoknnbolgfjaa.Pure
