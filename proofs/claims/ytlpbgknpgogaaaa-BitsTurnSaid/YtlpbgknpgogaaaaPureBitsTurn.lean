/- A number laid with its greatest byte first is, read from behind, the one that is laid with its least byte first: of any number and size. No condition. -/
import Derived.Test.YtlpbgknpgogaaaaPBitsx7
import Derived.Test.YtlpbgknpgogaaaaBitsPutF
import Derived.Test.YtlpbgknpgogaaaaBitsAwake
namespace Go.Proofs.Ytlpbgknpgogaaaa.Pure
open Go Go.RowKit Go.Proofs.Ytlpbgknpgogaaaa.PBits Go.Proofs.YtlpbgknpgogaaaaW.PrintWords Go.Proofs.YtlpbgknpgogaaaaW.PrintLast Go.Proofs.YtlpbgknpgogaaaaW.PrintMore Go.Proofs.Ytlpbgknpgogaaaa.Bp
set_option linter.unusedVariables false
set_option linter.unusedSimpArgs false

theorem whole_get (n v : Nat) (big : Bool) (i : Nat) (h : i < n) : rd (lay (List.replicate n 0) 0 n (fun p => dg v (wh n big p))) (i : Int) = dg v (wh n big i) := by
  rw [rd_at (by rw [lay_length _ _ _ _ (by simp)]; simpa using h)]
  have := lay_get (List.replicate n 0) 0 n (fun p => dg v (wh n big p)) (by simp) i
  rw [if_pos (by omega), List.getElem?_eq_getElem (by rw [lay_length _ _ _ _ (by simp)]; simpa using h)] at this
  exact Option.some.inj this

theorem turn_l0 (n v : Nat) (h8 : n ≤ 8) (m : Nat) : ∀ (k i : Nat), i + m = n → m + 70 ≤ k →
    bollardlaw1_BitsTurn.l0 k (n : Int) (lay (List.replicate n 0) 0 n (fun p => dg v (wh n true p))) (lay (List.replicate n 0) 0 n (fun p => dg v (wh n false p))) (i : Int) = some true := by
  induction m with
  | zero =>
    intro k i hi hk
    obtain ⟨K, rfl⟩ : ∃ K, k = K + 1 := ⟨k - 1, by omega⟩
    simp only [bollardlaw1_BitsTurn.l0]
    rw [if_neg (by omega), awake_f K (by omega)]
    rfl
  | succ m ih =>
    intro k i hi hk
    obtain ⟨K, rfl⟩ : ∃ K, k = K + 1 := ⟨k - 1, by omega⟩
    simp only [bollardlaw1_BitsTurn.l0]
    have e : ∀ b, (lay (List.replicate n 0) 0 n (fun p => dg v (wh n b p))).length = n := fun b => by rw [lay_length _ _ _ _ (by simp)]; simp
    rw [if_pos (by omega), if_pos (by omega), e, e, if_pos (by omega), w64 (x := (n : Int) - 1) (by omega) (by omega), w64 (by omega) (by omega), if_pos (by omega), if_pos (by omega)]
    have e2 : (n : Int) - 1 - (i : Int) = ((n - 1 - i : Nat) : Int) := by omega
    rw [e2, whole_get n v true i (by omega), whole_get n v false (n - 1 - i) (by omega), up64 i (by omega)]
    rw [if_pos (show dg v (wh n true i) = dg v (wh n false (n - 1 - i)) from rfl)]
    exact ih K (i + 1) (by omega) (by omega)

theorem BitsTurn : bollardlaw1_BitsTurn.Pure := by
  intro a0 a1 h0 h1
  have r0 := wf64 h0
  have r1 := wfi h1
  obtain ⟨v, rfl⟩ := Int.eq_ofNat_of_zero_le r0.1
  refine ⟨103, ?_⟩
  have et : bollardlaw1_BitsTurn.j0 103 (v : Int) a1 true = some true := by
    simp only [bollardlaw1_BitsTurn.j0]
    rw [if_pos (by trivial), awake_f 102 (by omega)]
    rfl
  unfold bollardlaw1_BitsTurn.f
  by_cases c1 : a1 < 1
  · rw [if_pos c1]; exact et
  rw [if_neg c1]
  by_cases c2 : a1 > 8
  · rw [decide_eq_true c2]; exact et
  rw [decide_eq_false c2]
  obtain ⟨n, rfl⟩ := Int.eq_ofNat_of_zero_le (show 0 ≤ a1 from by omega)
  simp only [bollardlaw1_BitsTurn.j0]
  have p := fun big => put_f (List.replicate n 0) (by simp; omega) 0 n v big (by omega) (by omega) (by simp) 102 (by omega)
  have e : ∀ b, (lay (List.replicate n 0) 0 n (fun p => dg v (wh n b p))).length = n := fun b => by rw [lay_length _ _ _ _ (by simp)]; simp
  rw [if_neg (by simp), if_pos (by omega), Int.toNat_natCast, if_pos (by omega)]
  have pt := p true
  have pf := p false
  rw [show ((0 : Nat) : Int) = 0 from rfl] at pt pf
  rw [pt]
  simp only [Option.bind_some]
  rw [pf]
  simp only [Option.bind_some]
  rw [if_pos (by trivial), if_pos (by trivial), e, e, if_pos (by trivial)]
  rw [show (((n : Nat) : Int) != (n : Int)) = false from by simp]
  simp only [bollardlaw1_BitsTurn.j1]
  rw [if_neg (by simp)]
  exact turn_l0 n v (by omega) n 101 0 (by omega) (by omega)

end Go.Proofs.Ytlpbgknpgogaaaa.Pure
