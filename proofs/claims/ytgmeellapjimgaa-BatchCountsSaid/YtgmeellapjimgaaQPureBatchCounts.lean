/- A batch has up to so many records, and so many bytes, and no more. -/
import Derived.Test.YtgmeellapjimgaaQPBax13
import Derived.Test.YtgmeellapjimgaaQBatFresh
namespace Go.Proofs.Ytgmeellapjimgaa.Pure
open Go Go.RowKit Go.Proofs.Ytgmeellapjimgaa.PBa Go.Proofs.YtgmeellapjimgaaW.PrintWords Go.Proofs.YtgmeellapjimgaaW.PrintLast Go.Proofs.YtgmeellapjimgaaW.PrintMore Go.Proofs.Ytgmeellapjimgaa.Bp
set_option linter.unusedVariables false
set_option linter.unusedSimpArgs false

/-- The record of so many zero bytes. -/
def recZ (s : Nat) : S45 := ⟨false, (⟨#[]⟩ : ByteArray), true, strOfNums (List.replicate s 0), 0, 0⟩
def eachZ (s : Nat) : Nat := 4 + s + if s < 128 then 0 else 1
theorem encZ_len (s : Nat) (hs : s ≤ 2000) (i : Nat) (hi : i < 128) : (encS 0 (atOff (recZ s) (i : Int))).length = eachZ s := by
  unfold encS enc atOff recZ eachZ txt
  dsimp only
  rw [Int.toNat_natCast, vr_small hi, show (zig (0 - 0)).toNat = 0 from rfl, vr_small (by omega), if_neg (by simp), if_pos rfl, strOfNums_size, List.length_replicate]
  simp only [List.length_cons, List.length_append, List.length_nil, bytesOf_len, strOfNums_size, List.length_replicate]
  by_cases c : s < 128
  · rw [vr_small c, if_pos c]; simp only [List.length_cons, List.length_nil]; omega
  · rw [vr_big c, if_neg c, vr_small (by omega)]; simp only [List.length_cons, List.length_nil]; omega
theorem chkZ (s : Nat) (hs : s ≤ 2000) (i : Nat) (hi : i < 100) : chkS (atOff (recZ s) (i : Int)) = 0 := by
  unfold chkS chk atOff recZ
  dsimp only
  rw [if_neg, if_neg]
  · rw [strOfNums_size, List.length_replicate]
    rintro (h | h)
    · exact absurd h (by decide)
    · omega
  · unfold odd
    rintro (⟨_, h⟩ | ⟨h, _⟩ | h | h | h | h)
    · exact h (by decide +kernel)
    · cases h
    · omega
    · omega
    · omega
    · omega
theorem ferrZ (s : Nat) (hs : s ≤ 2000) : ∀ (m i : Nat), i + m ≤ 100 → ferr (numFrom i (List.replicate m (recZ s))) = 0
  | 0, i, _ => rfl
  | m + 1, i, h => by
    rw [List.replicate_succ, numFrom, ferr, if_pos (chkZ s hs i (by omega)), ferrZ s hs m (i + 1) (by omega)]
theorem flatZ (s : Nat) (hs : s ≤ 2000) : ∀ (m i : Nat), i + m ≤ 100 → (flat 0 (numFrom i (List.replicate m (recZ s)))).length = m * eachZ s
  | 0, i, _ => by simp [numFrom, flat]
  | m + 1, i, h => by
    rw [List.replicate_succ, numFrom, flat_cons, List.length_append, encZ_len s hs i (by omega), flatZ s hs m (i + 1) (by omega), Nat.succ_mul]
    omega
theorem repZ_rd (s m j : Nat) (h : j < m) : rd_T45 (List.replicate m (recZ s)) (j : Int) = recZ s := by
  unfold rd_T45
  rw [Int.toNat_natCast, List.getD_eq_getElem?_getD, List.getElem?_replicate, if_pos h]
  rfl
theorem offZ (s m : Nat) (h1 : 1 ≤ m) (h2 : m ≤ 100) : offsOk 0 (m : Int) 0 0 (numFrom 0 (List.replicate m (recZ s))) := by
  refine ⟨by omega, by omega, by omega, by omega, by omega, by omega, by rw [numFrom_len, List.length_replicate]; omega, fun i hi => ?_⟩
  rw [numFrom_len, List.length_replicate] at hi
  unfold offAt
  rw [numFrom_rd _ 0 i (by rw [List.length_replicate]; exact hi), repZ_rd s m i hi]
  refine ⟨by show ((0 + i : Nat) : Int) < (m : Int); omega, fun hp => ?_⟩
  rw [show (i : Int) - 1 = ((i - 1 : Nat) : Int) by omega, numFrom_rd _ 0 (i - 1) (by rw [List.length_replicate]; omega)]
  show ((0 + (i - 1) : Nat) : Int) < ((0 + i : Nat) : Int)
  omega
theorem bodyZ_len (s m : Nat) (hs : s ≤ 2000) (h1 : 1 ≤ m) (h2 : m ≤ 100) : (bodyB (m : Int) 0 0 (numFrom 0 (List.replicate m (recZ s)))).length = 32 + m * eachZ s := by
  have := numFrom_rd (List.replicate m (recZ s)) 0 0 (by rw [List.length_replicate]; omega)
  rw [bodyB_len, show rd_T45 (numFrom 0 (List.replicate m (recZ s))) 0 = atOff (rd_T45 (List.replicate m (recZ s)) ((0 : Nat) : Int)) ((0 + 0 : Nat) : Int) from this, repZ_rd s m 0 (by omega)]
  rw [show (atOff (recZ s) ((0 + 0 : Nat) : Int)).f4 = 0 from rfl, flatZ s hs m 0 (by omega)]
theorem mx1 (m : Nat) : mx (m : Int) 1 = if m = 0 then 1 else (m : Int) := by
  unfold mx
  split <;> split <;> omega
theorem freshZ (s m : Nat) (hs : s ≤ 2000) : freshT 0 0 0 (List.replicate m (recZ s)) =
    if m = 0 ∨ 100 < m then (0, 0, 0, 0, [], 1) else if 48 + m * eachZ s > 6000 then (0, 0, 0, 0, [], 2) else (0, (m : Int), 0, 0, numFrom 0 (List.replicate m (recZ s)), 0) := by
  unfold freshT
  rw [List.length_replicate, mx1]
  by_cases c0 : m = 0
  · subst c0
    rw [if_pos rfl, if_pos (Or.inl rfl)]
    have : chkB 0 1 0 0 (numFrom 0 (List.replicate 0 (recZ s))) = 1 := by
      unfold chkB
      rw [if_pos (fun h => h.2.2.2.2.2.2.1 rfl)]
    rw [this, if_neg (by omega)]
  rw [if_neg c0]
  by_cases c1 : 100 < m
  · rw [if_pos (Or.inr c1)]
    have : chkB 0 (m : Int) 0 0 (numFrom 0 (List.replicate m (recZ s))) = 1 := by
      unfold chkB
      rw [if_pos (fun h => h.2.2.2.1 (by omega))]
    rw [this, if_neg (by omega)]
  rw [if_neg (show ¬ (m = 0 ∨ 100 < m) from by omega)]
  have : chkB 0 (m : Int) 0 0 (numFrom 0 (List.replicate m (recZ s))) = if 48 + m * eachZ s > 6000 then 2 else 0 := by
    unfold chkB big
    rw [if_neg (not_not_intro (offZ s m (by omega) (by omega))), if_pos (ferrZ s hs m 0 (by omega)), bodyZ_len s m hs (by omega) (by omega)]
    by_cases c2 : 48 + m * eachZ s > 6000
    · rw [if_pos (by omega), if_pos c2]
    · rw [if_neg (by omega), if_neg c2]
  rw [this]
  by_cases c2 : 48 + m * eachZ s > 6000
  · rw [if_pos c2, if_pos c2, if_neg (by omega)]
  · rw [if_neg c2, if_neg c2, if_pos rfl]
theorem counts_l0 (s n : Nat) (hs : s ≤ 2000) (hn : n ≤ 110) (d : Nat) : ∀ (k i : Nat), i + d = n → d + 20002000 ≤ k → bollardlaw13_BatchCounts.l0 k (n : Int) (s : Int) (List.replicate i (recZ s)) (i : Int) = some true := by
  induction d with
  | zero =>
    intro k i hi hk
    obtain ⟨K, rfl⟩ : ∃ K, k = K + 1 + 1 + 1 := ⟨k - 3, by omega⟩
    obtain rfl : i = n := by omega
    rw [bollardlaw13_BatchCounts.l0, if_neg (by omega), fresh_f 0 0 0 _ (by rw [List.length_replicate]; omega) _ (by omega), Option.bind_some, freshZ s i hs]
    have hw : (if (s : Int) ≥ 128 then wrap64 (wrap64 (4 + (s : Int)) + 1) else wrap64 (4 + (s : Int))) = ((eachZ s : Nat) : Int) := by
      unfold eachZ wrap64
      split <;> split <;> omega
    have key : ∀ t : Int × Int × Int × Int × List S45 × Int, (if (s : Int) ≥ 128 then bollardlaw13_BatchCounts.j2 (K + 1 + 1) (i : Int) t.2.2.2.2.2 (wrap64 (wrap64 (4 + (s : Int)) + 1)) t.1 t.2.1 t.2.2.1 t.2.2.2.1 t.2.2.2.2.1 else bollardlaw13_BatchCounts.j2 (K + 1 + 1) (i : Int) t.2.2.2.2.2 (wrap64 (4 + (s : Int))) t.1 t.2.1 t.2.2.1 t.2.2.2.1 t.2.2.2.2.1)
        = bollardlaw13_BatchCounts.j2 (K + 1 + 1) (i : Int) t.2.2.2.2.2 ((eachZ s : Nat) : Int) t.1 t.2.1 t.2.2.1 t.2.2.2.1 t.2.2.2.2.1 := fun t => by
      rw [← hw]
      split <;> rfl
    rw [key]
    have hes : eachZ s ≤ 2005 := by unfold eachZ; split <;> omega
    have hie : i * eachZ s ≤ 110 * 2005 := Nat.mul_le_mul hn hes
    have hcast : ((i * eachZ s : Nat) : Int) = (i : Int) * (eachZ s : Int) := Int.natCast_mul _ _
    have hwm : wrap64 (48 + wrap64 ((i : Int) * ((eachZ s : Nat) : Int))) = ((48 + i * eachZ s : Nat) : Int) := by
      rw [← hcast]
      unfold wrap64
      omega
    by_cases c : i = 0 ∨ 100 < i
    · rw [if_pos c]
      dsimp only
      have : bollardlaw13_BatchCounts.j2 (K + 1 + 1) (i : Int) 1 ((eachZ s : Nat) : Int) 0 0 0 0 [] = bollardlaw13_BatchCounts.j3 (K + 1) (i : Int) 1 ((eachZ s : Nat) : Int) true 0 0 0 0 [] := by
        rw [bollardlaw13_BatchCounts.j2]
        by_cases c0 : i = 0
        · rw [if_pos (by omega)]
        · rw [if_neg (by omega), decide_eq_true (by omega)]
      rw [this, bollardlaw13_BatchCounts.j3, if_pos rfl, if_pos rfl, awake_f K (by omega), Option.bind_some]
    · rw [if_neg c]
      have : ∀ (e b1 b2 b3 b4 : Int) (l : List S45), bollardlaw13_BatchCounts.j2 (K + 1 + 1) (i : Int) e ((eachZ s : Nat) : Int) b1 b2 b3 b4 l = bollardlaw13_BatchCounts.j3 (K + 1) (i : Int) e ((eachZ s : Nat) : Int) false b1 b2 b3 b4 l := fun _ _ _ _ _ _ => by
        rw [bollardlaw13_BatchCounts.j2, if_neg (by omega), decide_eq_false (by omega)]
      rw [this, bollardlaw13_BatchCounts.j3, if_neg (by simp), hwm]
      by_cases c2 : 48 + i * eachZ s > 6000
      · rw [if_pos c2, if_pos (by omega), if_pos rfl, awake_f K (by omega), Option.bind_some]
      · rw [if_neg c2, if_neg (by omega)]
        dsimp only
        rw [encode_f2 0 (i : Int) 0 0 _ (by rw [numFrom_len, List.length_replicate]; omega) K (by omega), Option.bind_some]
        have hc : chkB 0 (i : Int) 0 0 (numFrom 0 (List.replicate i (recZ s))) = 0 := by
          unfold chkB big
          rw [if_neg (not_not_intro (offZ s i (by omega) (by omega))), if_pos (ferrZ s hs i 0 (by omega)), bodyZ_len s i hs (by omega) (by omega), if_neg (by omega)]
        unfold encB
        rw [if_pos hc]
        dsimp only
        rw [if_pos rfl, if_pos rfl, if_pos (by rw [bytesB_len, bodyZ_len s i hs (by omega) (by omega)]; omega), if_pos rfl, awake_f K (by omega), Option.bind_some]
  | succ d ih =>
    intro k i hi hk
    obtain ⟨K, rfl⟩ : ∃ K, k = K + 1 := ⟨k - 1, by omega⟩
    rw [bollardlaw13_BatchCounts.l0, if_pos (by omega), if_pos (by omega), Int.toNat_natCast, if_pos (by omega), if_pos (by rw [List.length_replicate]; omega), show wrap64 ((i : Int) + 1) = ((i + 1 : Nat) : Int) from by unfold wrap64; omega]
    refine Eq.trans ?_ (ih K (i + 1) (by omega) (by omega))
    rw [List.replicate_succ' (n := i)]
    rfl
theorem BatchCounts : bollardlaw13_BatchCounts.Pure := by
  intro n s hn hs
  refine ⟨20003000, ?_⟩
  have one : bollardlaw13_BatchCounts.j0 20003000 n s true = some true := by
    rw [show 20003000 = 20002999 + 1 from rfl, bollardlaw13_BatchCounts.j0, if_pos rfl, awake_f _ (by omega), Option.bind_some]
  unfold bollardlaw13_BatchCounts.f
  by_cases c0 : n < 0
  · rw [if_pos c0, one]
  rw [if_neg c0]
  by_cases c1 : n > 110
  · rw [if_pos c1, one]
  rw [if_neg c1]
  by_cases c2 : s < 0
  · rw [if_pos c2, one]
  rw [if_neg c2]
  by_cases c3 : s > 2000
  · rw [decide_eq_true c3, one]
  rw [decide_eq_false c3, show 20003000 = 20002999 + 1 from rfl, bollardlaw13_BatchCounts.j0, if_neg (by simp)]
  obtain ⟨N, rfl⟩ : ∃ N : Nat, n = (N : Int) := ⟨n.toNat, by omega⟩
  obtain ⟨M, rfl⟩ : ∃ M : Nat, s = (M : Int) := ⟨s.toNat, by omega⟩
  exact counts_l0 M N (by omega) (by omega) N 20002999 0 (by omega) (by omega)
end Go.Proofs.Ytgmeellapjimgaa.Pure
