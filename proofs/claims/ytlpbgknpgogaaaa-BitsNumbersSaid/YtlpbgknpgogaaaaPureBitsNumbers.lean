/- Any number is read from and laid into any bytes right, in either order, or refused. -/
import Derived.Test.YtlpbgknpgogaaaaPBnx3
import Derived.Test.YtlpbgknpgogaaaaBitsPutF
import Derived.Test.YtlpbgknpgogaaaaRGet
import Derived.Test.YtlpbgknpgogaaaaRPut
import Derived.Test.YtlpbgknpgogaaaaEqF
import Derived.Test.YtlpbgknpgogaaaaBitsAwake
namespace Go.Proofs.Ytlpbgknpgogaaaa.Pure
open Go Go.RowKit Go.Proofs.Ytlpbgknpgogaaaa.PBn Go.Proofs.YtlpbgknpgogaaaaW.PrintWords Go.Proofs.YtlpbgknpgogaaaaW.PrintLast Go.Proofs.YtlpbgknpgogaaaaW.PrintMore Go.Proofs.Ytlpbgknpgogaaaa.Bp
set_option linter.unusedVariables false
set_option linter.unusedSimpArgs false

theorem BitsNumbers : bollardlaw1_BitsNumbers.Pure := by
  intro l a n big v hw ha hn hv
  have hb := bytes_of hw.2
  have hv := wf64 hv
  obtain ⟨V, rfl⟩ := Int.eq_ofNat_of_zero_le hv.1
  refine ⟨5000, ?_⟩
  unfold bollardlaw1_BitsNumbers.f
  by_cases c : 2000 < l.length
  · rw [if_pos c, awake_f _ (by omega)]
    rfl
  · rw [if_neg c]
    by_cases h : 1 ≤ n ∧ n ≤ 8 ∧ 0 ≤ a ∧ a ≤ (l.length : Int) - n
    · obtain ⟨N, rfl⟩ := Int.eq_ofNat_of_zero_le (show 0 ≤ n by omega)
      obtain ⟨A, rfl⟩ := Int.eq_ofNat_of_zero_le (show 0 ≤ a by omega)
      rw [get_f l hb (by omega) A N big (by omega) (by omega) (by omega) 5000 (by omega), Option.bind_some, rget_f l hb (by omega) A N big (by omega) (by omega) (by omega) 5000 (by omega), Option.bind_some,
        put_f l (by omega) A N V big (by omega) (by omega) (by omega) 5000 (by omega), Option.bind_some, rput_f l hb (by omega) A N V big (by omega) (by omega) (by omega) 5000 (by omega), Option.bind_some, if_pos ⟨rfl, rfl⟩]
      have hlen : (lay l A N (fun p => dg V (wh N big p))).length = l.length := by
        unfold lay
        simp only [List.length_append, List.length_take, List.length_map, List.length_range, List.length_drop]
        omega
      dsimp only
      rw [bytes_f _ _ (by omega) _ (by omega), Option.bind_some, bytes_f _ _ (by omega) _ (by omega), Option.bind_some, if_pos ⟨decide_eq_true rfl, decide_eq_true rfl⟩, awake_f _ (by omega)]
      rfl
    · rw [get_none l (by omega) a n big h, Option.bind_some, rget_none l (by omega) a n big h 5000 (by omega), Option.bind_some, put_none l (by omega) a n V big h, Option.bind_some, rput_none l (by omega) a n V big h 5000 (by omega), Option.bind_some, if_pos ⟨rfl, rfl⟩]
      dsimp only
      rw [bytes_f _ _ (by simp) _ (by simp), Option.bind_some, bytes_f _ _ (by omega) _ (by omega), Option.bind_some, if_pos ⟨decide_eq_true rfl, decide_eq_true rfl⟩, awake_f _ (by omega)]
      rfl
end Go.Proofs.Ytlpbgknpgogaaaa.Pure
