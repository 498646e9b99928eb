/- Any bit of any bytes is told and set right, the first free one found, all counted. -/
import Derived.Test.YtlpbgknpgogaaaaPBnx5
import Derived.Test.YtlpbgknpgogaaaaBitsMapR
import Derived.Test.YtlpbgknpgogaaaaEqF
import Derived.Test.YtlpbgknpgogaaaaBitsAwake
namespace Go.Proofs.Ytlpbgknpgogaaaa.Pure
open Go Go.RowKit Go.Proofs.Ytlpbgknpgogaaaa.PBn Go.Proofs.YtlpbgknpgogaaaaW.PrintWords Go.Proofs.YtlpbgknpgogaaaaW.PrintLast Go.Proofs.YtlpbgknpgogaaaaW.PrintMore Go.Proofs.Ytlpbgknpgogaaaa.Bp
set_option linter.unusedVariables false
set_option linter.unusedSimpArgs false

theorem maps_rest (l : List Int) (hb : Bytes l) (hl : l.length ≤ 2000) (a : Int) (on : Bool) (n : Int) (c : List Int) (t : Bool) (hc : c.length = l.length) (h1 : bits_Set.f 50000 l a on = some c) (h2 : bits_Test.f l a = some t) (h3 : bollardref1_Test.f l a = some t) (h4 : bollardref1_Set.f 50000 l a on = some c) :
    bollardlaw1_BitsMaps.f 50000 l a on n = some true := by
  obtain ⟨r, f1, g1⟩ := first_f l hb (by omega) n 50000 (by omega)
  obtain ⟨s, f2, g2⟩ := rfirst_f l hb (by omega) n 50000 (by omega)
  obtain rfl := isFirst_one g1 g2
  unfold bollardlaw1_BitsMaps.f
  rw [if_neg (by omega), h1, Option.bind_some, h2, Option.bind_some, h3, Option.bind_some, h4, Option.bind_some, bytes_f _ _ (by omega) _ (by omega), Option.bind_some, f1, Option.bind_some, f2, Option.bind_some, count_f l hb (by omega) n 50000 (by omega), Option.bind_some, rcount_f l hb (by omega) n 50000 (by omega), Option.bind_some, bytes_f _ _ (by omega) _ (by omega), Option.bind_some, if_pos ⟨rfl, decide_eq_true rfl, rfl, rfl, decide_eq_true rfl, by omega⟩, awake_f _ (by omega)]
  rfl
theorem BitsMaps : bollardlaw1_BitsMaps.Pure := by
  intro l a on n hw ha hn
  have hb := bytes_of hw.2
  have ha := wfi ha
  refine ⟨50000, ?_⟩
  by_cases c : 2000 < l.length
  · unfold bollardlaw1_BitsMaps.f
    rw [if_pos c, awake_f _ (by omega)]
    rfl
  · by_cases d : a < 0
    · exact maps_rest l hb (by omega) a on n l false rfl (set_neg l (by omega) a d on 50000 (by omega)) (test_neg l a d) (rtest_neg l a d) (rset_neg l (by omega) a d on 50000 (by omega))
    · obtain ⟨A, rfl⟩ := Int.eq_ofNat_of_zero_le (show 0 ≤ a by omega)
      exact maps_rest l hb (by omega) A on n (setb l A on) (tb l A) (setb_length l A on) (set_f l (by omega) A (by omega) on 50000 (by omega)) (test_f l hb A (by omega)) (rtest_f l hb A (by omega)) (rset_f l (by omega) A (by omega) on 50000 (by omega))
end Go.Proofs.Ytlpbgknpgogaaaa.Pure
