/- Any batch is written right, or refused. -/
import Derived.Test.YtgmeellapjimgaaQPBax11
import Derived.Test.YtgmeellapjimgaaQBatAwake
import Derived.Test.YtgmeellapjimgaaQEqF
namespace Go.Proofs.Ytgmeellapjimgaa.Pure
open Go Go.RowKit Go.Proofs.Ytgmeellapjimgaa.PBa Go.Proofs.YtgmeellapjimgaaW.PrintWords Go.Proofs.YtgmeellapjimgaaW.PrintLast Go.Proofs.YtgmeellapjimgaaW.PrintMore Go.Proofs.Ytgmeellapjimgaa.Bp
set_option linter.unusedVariables false
set_option linter.unusedSimpArgs false

theorem small_l0 (l : List S45) (hl : l.length ≤ 4000000000000000000) (n : Nat) : ∀ (k i : Nat) (sum : Int), i + n = l.length → n + 1 ≤ k → ∃ r, bollardalike_Small.l0 k l sum (i : Int) = some r ∧ (r = true → l.length ≤ 300) := by
  induction n with
  | zero =>
    intro k i sum hi hk
    obtain ⟨K, rfl⟩ : ∃ K, k = K + 1 := ⟨k - 1, by omega⟩
    simp only [bollardalike_Small.l0]
    rw [if_neg (by omega)]
    by_cases c : sum ≤ 20000
    · rw [if_pos c]
      exact ⟨_, rfl, fun h => by have := of_decide_eq_true h; omega⟩
    · rw [if_neg c]
      exact ⟨_, rfl, fun h => by cases h⟩
  | succ n ih =>
    intro k i sum hi hk
    obtain ⟨K, rfl⟩ : ∃ K, k = K + 1 := ⟨k - 1, by omega⟩
    simp only [bollardalike_Small.l0]
    rw [if_pos (by omega)]
    by_cases c : sum ≤ 20000
    · rw [if_pos c, if_pos (by omega), show wrap64 ((i : Int) + 1) = ((i + 1 : Nat) : Int) from by unfold wrap64; omega]
      exact ih K (i + 1) _ (by omega) (by omega)
    · rw [if_neg c]
      exact ⟨_, rfl, fun h => by cases h⟩
theorem BatchEncodes : bollardlaw13_BatchEncodes.Pure := by
  intro b s p q l hb hs hp hq hl
  have hlen : l.length ≤ 140737488351232 := by omega
  obtain ⟨r, hr, hr2⟩ := small_l0 l (by omega) l.length (l.length + 40000000) 0 (l.length : Int) (by omega) (by omega)
  refine ⟨l.length + 40000000, ?_⟩
  unfold bollardlaw13_BatchEncodes.f bollardalike_Small.f
  rw [show bollardalike_Small.l0 (l.length + 40000000) l (l.length : Int) 0 = some r from hr, Option.bind_some]
  cases r
  · rw [if_neg (by simp), awake_f _ (by omega), Option.bind_some]
  · have h300 := hr2 rfl
    rw [if_pos rfl, encode_f2 b s p q l h300 _ (by omega), Option.bind_some, rencodeB_f b s p q l h300 _ (by omega), Option.bind_some]
    have hbl : (encB b s p q l).1.length ≤ 30000000 := by
      unfold encB
      split
      · rename_i hc
        have hoff : offsOk b s p q l := Classical.byContradiction fun hn => by unfold chkB at hc; rw [if_pos hn] at hc; omega
        have hfe : ferr l = 0 := Classical.byContradiction fun hn => by unfold chkB at hc; rw [if_neg (not_not_intro hoff), if_neg hn] at hc; exact hn hc
        have hall := ferr_all hfe
        have h0 : 0 < l.length := Nat.pos_of_ne_zero hoff.2.2.2.2.2.2.1
        have hfl := flat_len _ (first_ok h0 hall) l hall
        have hbl := bodyB_len s p q l
        rw [bytesB_len]
        omega
      · simp
    have he2 : (encB b s p q l).2 = chkB b s p q l := by
      unfold encB
      split
      · rename_i h; rw [h]
      · rfl
    rw [bytes_f _ _ (by omega) _ (by omega), Option.bind_some, if_pos (decide_eq_true rfl), if_pos rfl, bcheck_f b s p q l h300 _ (by omega), Option.bind_some, checkB_f b s p q l h300 _ (by omega), Option.bind_some, if_pos rfl, awake_f _ (by omega), Option.bind_some]

end Go.Proofs.Ytgmeellapjimgaa.Pure
