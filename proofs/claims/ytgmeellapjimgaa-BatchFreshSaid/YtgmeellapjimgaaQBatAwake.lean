/- What chapter 13's awake comes to. -/
import Derived.Test.YtgmeellapjimgaaQPBax6
import Derived.Test.YtgmeellapjimgaaQPBax5
import Derived.Test.YtgmeellapjimgaaQBatRef
namespace Go.Proofs.Ytgmeellapjimgaa.Bp
open Go Go.RowKit Go.Proofs.Ytgmeellapjimgaa.PBa Go.Proofs.YtgmeellapjimgaaW.PrintWords Go.Proofs.YtgmeellapjimgaaW.PrintLast Go.Proofs.YtgmeellapjimgaaW.PrintMore
set_option linter.unusedVariables false
set_option linter.unusedSimpArgs false

theorem bcheck_f (b s p q : Int) (l : List S45) (hl : l.length ≤ 300) (k : Nat) (hk : 20000000 ≤ k) : batch_Check.f k b s p q l = some (chkB b s p q l) := by
  unfold batch_Check.f
  rw [encode_f2 b s p q l hl k hk, Option.bind_some]
  unfold encB
  split
  · rename_i h; rw [h]
  · rfl
def recA : S45 := ⟨false, (⟨#[]⟩ : ByteArray), true, (⟨#[97]⟩ : ByteArray), 0, 0⟩
theorem recA_ok : chkS recA = 0 := by
  unfold chkS chk recA
  rw [if_neg, if_neg]
  · decide
  · unfold odd
    rintro (⟨_, h⟩ | ⟨h, _⟩ | h | h | h | h)
    · exact h (by decide +kernel)
    · cases h
    · exact absurd h (by decide)
    · exact absurd h (by decide)
    · exact absurd h (by decide)
    · exact absurd h (by decide)
theorem flatA_len : (flat 0 [recA]).length = 5 := by
  unfold flat encS enc recA
  simp only [List.map_cons, List.map_nil, List.flatten_cons, List.flatten_nil, List.append_nil, List.length_cons, List.length_append, if_true, show (false = true) = False from by simp, if_false, List.length_nil, txt, bytesOf_len]
  rw [vr_small (by decide), vr_small (by decide), vr_small (by decide)]
  decide +kernel
theorem offA : offsOk 7 1 0 0 [recA] := by
  refine ⟨by omega, by omega, by omega, by omega, by omega, by omega, by simp, fun i hi => ?_⟩
  have : i = 0 := by simpa using hi
  subst this
  exact ⟨by decide, fun h => absurd h (by omega)⟩
theorem awakeB : chkB 7 1 0 0 [recA] = 0 ∧ (bytesB 7 1 0 0 [recA]).length = 53 := by
  have hl : (bodyB 1 0 0 [recA]).length = 37 := by rw [bodyB_len, show (rd_T45 [recA] 0).f4 = 0 from rfl, flatA_len]
  refine ⟨?_, by rw [bytesB_len, hl]⟩
  unfold chkB big
  rw [if_neg (not_not_intro offA), if_pos (by rw [ferr, recA_ok, if_pos rfl]; rfl), if_neg (by rw [hl]; omega)]
theorem awake_f (k : Nat) (hk : 20000010 ≤ k) : bollardlaw13_awake.f k = some true := by
  obtain ⟨K, rfl⟩ : ∃ K, k = K + 1 + 1 := ⟨k - 2, by omega⟩
  have hF : batch_Fresh.f (K + 1 + 1) 7 0 0 [recA] = some (7, 1, 0, 0, [recA], 0) := by
    unfold batch_Fresh.f api_Record.f
    rw [Option.bind_some, if_pos (by simp), Option.bind_some]
    show batch_Fresh.l0 (K + 1 + 1) 7 0 0 [recA] 1 0 = _
    rw [batch_Fresh.l0, if_pos (by omega), if_pos (by omega), if_pos (by simp), show wrap64 ((0 : Int) + 1) = 1 from by unfold wrap64; omega]
    show batch_Fresh.l0 (K + 1) 7 0 0 [recA] 1 1 = _
    rw [batch_Fresh.l0, if_neg (by omega), show mx (([recA].length : Nat) : Int) 1 = 1 from rfl, bcheck_f 7 1 0 0 [recA] (by simp) K (by omega), Option.bind_some, awakeB.1, if_pos rfl]
  unfold bollardlaw13_awake.f
  rw [show batch_Fresh.f (K + 1 + 1) 7 0 0 [(⟨false, (⟨#[]⟩ : ByteArray), true, (⟨#[97]⟩ : ByteArray), 0, 0⟩ : S45)] = some (7, 1, 0, 0, [recA], 0) from hF, Option.bind_some]
  dsimp only
  rw [encode_f2 7 1 0 0 [recA] (by simp) _ (by omega), Option.bind_some]
  unfold encB
  rw [if_pos awakeB.1]
  dsimp only
  rw [if_pos rfl, if_pos rfl, if_pos (by rw [awakeB.2]; rfl)]
  rfl
end Go.Proofs.Ytgmeellapjimgaa.Bp
