/- A fresh batch: its records numbered as they stand. -/
import Derived.Test.YtgmeellapjimgaaQPBax6
import Derived.Test.YtgmeellapjimgaaQPBax5
import Derived.Test.YtgmeellapjimgaaQBatAwake
namespace Go.Proofs.Ytgmeellapjimgaa.Bp
open Go Go.RowKit Go.Proofs.Ytgmeellapjimgaa.PBa Go.Proofs.YtgmeellapjimgaaW.PrintWords Go.Proofs.YtgmeellapjimgaaW.PrintLast Go.Proofs.YtgmeellapjimgaaW.PrintMore
set_option linter.unusedVariables false
set_option linter.unusedSimpArgs false

/-- A record with another offset. -/
def atOff (x : S45) (i : Int) : S45 := ⟨x.f0, x.f1, x.f2, x.f3, x.f4, i⟩
def numFrom : Nat → List S45 → List S45
  | _, [] => []
  | i, x :: l => atOff x (i : Int) :: numFrom (i + 1) l
theorem numFrom_len : ∀ (l : List S45) (i : Nat), (numFrom i l).length = l.length
  | [], _ => rfl
  | x :: l, i => by rw [numFrom, List.length_cons, List.length_cons, numFrom_len l]
theorem numFrom_rd : ∀ (l : List S45) (i j : Nat), j < l.length → rd_T45 (numFrom i l) (j : Int) = atOff (rd_T45 l (j : Int)) ((i + j : Nat) : Int)
  | [], _, j, h => by simp at h
  | x :: l, i, 0, h => rfl
  | x :: l, i, j + 1, h => by
    have rs : ∀ (y : S45) (m : List S45) (j : Nat), rd_T45 (y :: m) ((j + 1 : Nat) : Int) = rd_T45 m (j : Int) := fun y m j => by unfold rd_T45; rw [Int.toNat_natCast, Int.toNat_natCast]; rfl
    rw [numFrom, rs, rs, numFrom_rd l (i + 1) j (by simpa using h), show i + 1 + j = i + (j + 1) by omega]
/-- What Fresh comes to. -/
def freshT (b p q : Int) (l : List S45) : Int × Int × Int × Int × List S45 × Int :=
  if chkB b (mx (l.length : Int) 1) p q (numFrom 0 l) = 0 then (b, mx (l.length : Int) 1, p, q, numFrom 0 l, 0) else (0, 0, 0, 0, [], chkB b (mx (l.length : Int) 1) p q (numFrom 0 l))
theorem fresh_l0 (b p q : Int) (rest : List S45) : ∀ (pre : List S45) (k : Nat), pre.length + rest.length ≤ 300 → rest.length + 20000001 ≤ k →
    batch_Fresh.l0 k b p q (pre ++ rest) ((pre.length + rest.length : Nat) : Int) (pre.length : Int) =
      (if chkB b (mx ((pre.length + rest.length : Nat) : Int) 1) p q (pre ++ numFrom pre.length rest) = 0 then some (b, mx ((pre.length + rest.length : Nat) : Int) 1, p, q, pre ++ numFrom pre.length rest, 0)
        else some (0, 0, 0, 0, [], chkB b (mx ((pre.length + rest.length : Nat) : Int) 1) p q (pre ++ numFrom pre.length rest))) := by
  induction rest with
  | nil =>
    intro pre k hl hk
    obtain ⟨K, rfl⟩ : ∃ K, k = K + 1 := ⟨k - 1, by omega⟩
    simp only [List.length_nil, Nat.add_zero] at hl hk ⊢
    rw [List.append_nil, show pre ++ numFrom pre.length [] = pre from List.append_nil _]
    rw [batch_Fresh.l0, if_neg (by omega), bcheck_f b _ p q pre hl K (by omega), Option.bind_some]
  | cons x rest ih =>
    intro pre k hl hk
    obtain ⟨K, rfl⟩ : ∃ K, k = K + 1 := ⟨k - 1, by omega⟩
    simp only [List.length_cons] at hl hk ⊢
    have hrd : rd_T45 (pre ++ x :: rest) (pre.length : Int) = x := by
      unfold rd_T45
      rw [Int.toNat_natCast]
      simp
    have hset : (pre ++ x :: rest).set pre.length (atOff x (pre.length : Int)) = (pre ++ [atOff x (pre.length : Int)]) ++ rest := by simp
    rw [batch_Fresh.l0, if_pos (by omega), if_pos (by omega), if_pos (by simp only [List.length_append, List.length_cons]; omega), hrd, Int.toNat_natCast, show wrap64 ((pre.length : Int) + 1) = ((pre ++ [atOff x (pre.length : Int)]).length : Int) from by simp only [List.length_append, List.length_cons, List.length_nil]; unfold wrap64; omega]
    rw [show (⟨x.f0, x.f1, x.f2, x.f3, x.f4, (pre.length : Int)⟩ : S45) = atOff x (pre.length : Int) from rfl, hset]
    have := ih (pre ++ [atOff x (pre.length : Int)]) K (by simp only [List.length_append, List.length_cons, List.length_nil]; omega) (by omega)
    rw [show (pre ++ [atOff x (pre.length : Int)]).length + rest.length = pre.length + (rest.length + 1) from by simp only [List.length_append, List.length_cons, List.length_nil]; omega] at this
    rw [this]
    rw [show (pre ++ [atOff x (pre.length : Int)]) ++ numFrom (pre ++ [atOff x (pre.length : Int)]).length rest = pre ++ numFrom pre.length (x :: rest) from by
      rw [numFrom, List.append_assoc]; simp]
theorem fresh_f (b p q : Int) (l : List S45) (hl : l.length ≤ 300) (k : Nat) (hk : 20001000 ≤ k) : batch_Fresh.f k b p q l = some (freshT b p q l) := by
  unfold batch_Fresh.f api_Record.f
  rw [Option.bind_some, if_pos (by simp only [List.length_nil]; omega), Option.bind_some, List.nil_append]
  have := fresh_l0 b p q l [] k (by simp only [List.length_nil]; omega) (by omega)
  simp only [List.length_nil, Nat.zero_add, List.nil_append] at this
  refine this.trans ?_
  unfold freshT
  split <;> rfl
end Go.Proofs.Ytgmeellapjimgaa.Bp
