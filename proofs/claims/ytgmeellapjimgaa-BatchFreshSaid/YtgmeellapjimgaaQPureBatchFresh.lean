/- Any records are made a batch, numbered as they stand, or refused. -/
import Derived.Test.YtgmeellapjimgaaQPBax12
import Derived.Test.YtgmeellapjimgaaQBatFresh
import Derived.Test.YtgmeellapjimgaaQBatRecs
import Derived.Test.YtgmeellapjimgaaQBatSmall
namespace Go.Proofs.Ytgmeellapjimgaa.Pure
open Go Go.RowKit Go.Proofs.Ytgmeellapjimgaa.PBa Go.Proofs.YtgmeellapjimgaaW.PrintWords Go.Proofs.YtgmeellapjimgaaW.PrintLast Go.Proofs.YtgmeellapjimgaaW.PrintMore Go.Proofs.Ytgmeellapjimgaa.Bp
set_option linter.unusedVariables false
set_option linter.unusedSimpArgs false

theorem numFrom_append : ∀ (a b : List S45) (i : Nat), numFrom i (a ++ b) = numFrom i a ++ numFrom (i + a.length) b
  | [], b, i => rfl
  | x :: a, b, i => by
    rw [List.cons_append, numFrom, numFrom, numFrom_append a b (i + 1), List.cons_append, List.length_cons, show i + 1 + a.length = i + (a.length + 1) by omega]
theorem rfresh_l0 (b p q : Int) (l : List S45) (hl : l.length ≤ 300) (d : Nat) : ∀ (k i : Nat), i + d = l.length → d + 4000 ≤ k →
    bollardref12_Fresh.l0 k l (i : Int) b (mx (l.length : Int) 1) p q (numFrom 0 (l.take i)) = some (freshT b p q l) := by
  induction d with
  | zero =>
    intro k i hi hk
    obtain ⟨K, rfl⟩ : ∃ K, k = K + 1 := ⟨k - 1, by omega⟩
    rw [bollardref12_Fresh.l0, if_neg (by omega), List.take_of_length_le (by omega), checkB_f b _ p q _ (by rw [numFrom_len]; exact hl) K (by omega), Option.bind_some]
    unfold freshT
    split <;> rfl
  | succ d ih =>
    intro k i hi hk
    obtain ⟨K, rfl⟩ : ∃ K, k = K + 1 := ⟨k - 1, by omega⟩
    have hlt : i < l.length := by omega
    rw [bollardref12_Fresh.l0, if_pos (by omega), if_pos (by omega), if_pos (by rw [numFrom_len, List.length_take]; omega), show wrap64 ((i : Int) + 1) = ((i + 1 : Nat) : Int) from by unfold wrap64; omega]
    have hst : l.take (i + 1) = l.take i ++ [rd_T45 l (i : Int)] := by
      rw [List.take_add_one, List.getElem?_eq_getElem hlt]
      congr 1
      unfold rd_T45
      rw [Int.toNat_natCast, List.getD_eq_getElem?_getD, List.getElem?_eq_getElem hlt]
      rfl
    have := ih K (i + 1) (by omega) (by omega)
    rw [hst, numFrom_append] at this
    refine Eq.trans ?_ this
    have hz : 0 + (l.take i).length = i := by rw [List.length_take]; omega
    rw [hz]
    rfl
theorem rfresh_f (b p q : Int) (l : List S45) (hl : l.length ≤ 300) (k : Nat) (hk : 5000 ≤ k) : bollardref12_Fresh.f k b p q l = some (freshT b p q l) := by
  unfold bollardref12_Fresh.f
  exact rfresh_l0 b p q l hl l.length k 0 (by omega) (by omega)
theorem freshT_len (b p q : Int) (l : List S45) : (freshT b p q l).2.2.2.2.1.length ≤ l.length := by
  unfold freshT
  split
  · dsimp only; rw [numFrom_len]; omega
  · simp
theorem BatchFresh : bollardlaw13_BatchFresh.Pure := by
  intro b p q l hb hp hq hl
  have hlen : l.length ≤ 140737488351232 := by omega
  obtain ⟨r, hr, hr2⟩ := small_l0 l (by omega) l.length (l.length + 40000000) 0 (l.length : Int) (by omega) (by omega)
  refine ⟨l.length + 40000000, ?_⟩
  unfold bollardlaw13_BatchFresh.f bollardalike_Small.f
  rw [show bollardalike_Small.l0 (l.length + 40000000) l (l.length : Int) 0 = some r from hr, Option.bind_some]
  cases r
  · rw [if_neg (by simp), awake_f _ (by omega), Option.bind_some]
  · have h300 := hr2 rfl
    have hfl := freshT_len b p q l
    rw [if_pos rfl, if_pos (by simp only [List.length_nil]; omega), Option.bind_some, List.nil_append, fresh_f b p q l h300 _ (by omega), Option.bind_some, rfresh_f b p q l h300 _ (by omega), Option.bind_some,
      same_f _ _ _ _ _ (by omega) _ (by omega), Option.bind_some, if_pos rfl, if_pos rfl, recs_f l (by omega) _ (by omega), Option.bind_some, if_pos rfl, awake_f _ (by omega), Option.bind_some]
end Go.Proofs.Ytgmeellapjimgaa.Pure
