/- Any plan is written right; any bytes are read as the plan that they are, or refused. -/
import Derived.Test.YtnfoknnbolgfjaaPLbx8
import Derived.Test.YtnfoknnbolgfjaaLayRDec
import Derived.Test.YtnfoknnbolgfjaaEqF
namespace Go.Proofs.Ytnfoknnbolgfjaa.Pure
open Go Go.RowKit Go.Proofs.Ytnfoknnbolgfjaa.PLb Go.Proofs.YtnfoknnbolgfjaaW.PrintWords Go.Proofs.YtnfoknnbolgfjaaW.PrintLast Go.Proofs.YtnfoknnbolgfjaaW.PrintMore Go.Proofs.Ytnfoknnbolgfjaa.Lay
set_option linter.unusedVariables false

theorem LayoutBytes : bollardlaw6_LayoutBytes.Pure := by
  intro p0 p1 p2 p3 p4 p5 p6 b _ _ _ _ _ _ _ hb
  have hB : Bp.Bytes b := Bp.bytes_of hb.2
  refine ⟨1000, ?_⟩
  unfold bollardlaw6_LayoutBytes.f
  by_cases h : (b.length : Int) > 2000
  · rw [if_pos h, awake_f]
    rfl
  rw [if_neg h, decode_f b hB (by omega) 1000 (by decide), Option.bind_some, rdecode_f b hB (by omega) 1000 (by decide), Option.bind_some, encode_f _ _ _ _ _ _ _ 1000 (by decide), Option.bind_some, rencode_f _ _ _ _ _ _ _ 1000 (by decide), Option.bind_some,
    Bp.bytes_f _ _ (by rw [sb_length]; decide) 1000 (by rw [sb_length]; decide), Option.bind_some, decide_eq_true rfl, if_pos rfl]
  rw [if_pos (by simp), if_pos rfl, awake_f]
  rfl

end Go.Proofs.Ytnfoknnbolgfjaa.Pure
