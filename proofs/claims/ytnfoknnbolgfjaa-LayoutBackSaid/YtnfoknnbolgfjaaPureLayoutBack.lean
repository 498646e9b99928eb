/- What is planned, written and read is the plan; with any byte of it changed it is refused. -/
import Derived.Test.YtnfoknnbolgfjaaPLbx9
import Derived.Test.YtnfoknnbolgfjaaLayTurn
namespace Go.Proofs.Ytnfoknnbolgfjaa.Pure
open Go Go.RowKit Go.Proofs.Ytnfoknnbolgfjaa.PLb Go.Proofs.YtnfoknnbolgfjaaW.PrintWords Go.Proofs.YtnfoknnbolgfjaaW.PrintLast Go.Proofs.YtnfoknnbolgfjaaW.PrintMore Go.Proofs.Ytnfoknnbolgfjaa.Lay
set_option linter.unusedVariables false
set_option linter.unusedSimpArgs false

theorem round_f (x n : Int) (h : 0 < n) (hn : n ≤ 1000000000000) (hx : -9223372036854775808 ≤ x ∧ x ≤ 9223372036854775807) : ∃ j, bollardalike_Round.f x n = some j ∧ 0 ≤ j ∧ j < n := by
  unfold bollardalike_Round.f
  have h1 : Int.tmod x n < n := Int.tmod_lt_of_pos x h
  have h2 : -n < Int.tmod x n := by
    have h3 := Int.tmod_lt_of_pos (-x) h
    rw [Int.neg_tmod] at h3
    omega
  rw [if_neg (by omega)]
  by_cases c : Int.tmod x n < 0
  · rw [if_pos c]
    exact ⟨_, rfl, by rw [w64 (by omega) (by omega)]; omega, by rw [w64 (by omega) (by omega)]; omega⟩
  · rw [if_neg c]
    exact ⟨_, rfl, by omega, h1⟩
theorem LayoutBack : bollardlaw6_LayoutBack.Pure := by
  intro n i a x hn hi ha hx
  refine ⟨1000, ?_⟩
  unfold bollardlaw6_LayoutBack.f
  by_cases g : Lay.Good n i
  · have hl := sbOf_length n i
    obtain ⟨j, hj, j0, j1⟩ := round_f a 512 (by decide) (by decide) (wfi ha)
    obtain ⟨t, ht, t0, t1⟩ := round_f x 255 (by decide) (by decide) (wfi hx)
    rw [make_pl g, Option.bind_some]
    unfold plOf
    dsimp only
    rw [if_pos rfl, encode_f _ _ _ _ _ _ _ 1000 (by decide), Option.bind_some]
    have es : sb n i 246 (246 + (i + 4095) / 4096) (246 + (i + 4095) / 4096 + mkBlocks (mkRest n i)) (246 + (i + 4095) / 4096 + mkBlocks (mkRest n i) + (i + 7) / 8) (room n i) = sbOf n i := rfl
    rw [es, decode_f _ (sbOf_bytes n i) (by rw [hl]; decide) 1000 (by decide), Option.bind_some, dec_sb g]
    unfold plOf
    dsimp only
    rw [if_pos rfl, if_neg (by simp), hl]
    simp only [bollardlaw6_LayoutBack.j0]
    obtain ⟨J, rfl⟩ := Int.eq_ofNat_of_zero_le j0
    have hJ : J < (sbOf n i).length := by rw [hl]; omega
    have hrd : rd (sbOf n i) ((J : Nat) : Int) = (sbOf n i)[J] := by
      unfold rd
      rw [Int.toNat_natCast, List.getD_eq_getElem?_getD, List.getElem?_eq_getElem hJ, Option.getD_some]
    have hb := sbOf_bytes n i _ (List.getElem_mem hJ)
    rw [if_neg (by decide), hj, Option.bind_some, Option.bind_some, hl, if_pos (by omega), if_pos (by omega), ht, Option.bind_some, if_pos (by omega), if_pos (by omega), w64 (by omega) (by omega), hrd, Int.toNat_natCast,
      show (t + 1) % 256 = t + 1 by omega]
    have hbs : Bp.Bytes ((sbOf n i).set J (Go.bits .xor .u8 (sbOf n i)[J] (t + 1))) := by
      intro y hy
      rcases List.mem_or_eq_of_mem_set hy with h | rfl
      · exact sbOf_bytes n i y h
      · exact Crc.one_range hb ⟨by omega, by omega⟩
    rw [decode_f _ hbs (by rw [List.length_set, hl]; decide) 999 (by decide), Option.bind_some, dec_turn g J hJ (t + 1) ⟨by omega, by omega⟩]
    unfold noPl
    dsimp only
    rw [if_pos rfl, awake_f]
    rfl
  · obtain ⟨e, he, hm⟩ := make_no g
    rw [hm, Option.bind_some]
    dsimp only
    rw [if_neg he, if_pos (by decide), awake_f]
    rfl

end Go.Proofs.Ytnfoknnbolgfjaa.Pure
