/- All bits ahead of the first free one are set, and setting it counts one more; where none is free all are counted. No condition. -/
import Derived.Test.YtlpbgknpgogaaaaPBitsx9
import Derived.Test.YtlpbgknpgogaaaaBitsMap
import Derived.Test.YtlpbgknpgogaaaaBitsAwake
namespace Go.Proofs.Ytlpbgknpgogaaaa.Pure
open Go Go.RowKit Go.Proofs.Ytlpbgknpgogaaaa.PBits Go.Proofs.YtlpbgknpgogaaaaW.PrintWords Go.Proofs.YtlpbgknpgogaaaaW.PrintLast Go.Proofs.YtlpbgknpgogaaaaW.PrintMore Go.Proofs.Ytlpbgknpgogaaaa.Bp
set_option linter.unusedVariables false
set_option linter.unusedSimpArgs false

theorem first_l0 (l : List Int) (hb : Bytes l) (hl : l.length ≤ 2000) (n : Int) (r : Nat) (h1 : (r : Int) < n) (h2 : r < 8 * l.length) (h3 : tb l r = false) (h4 : ∀ j, j < r → tb l j = true) (m : Nat) :
    ∀ (k i : Nat), i + m = r → m + 20 * l.length + 100 ≤ k → bollardlaw1_BitsFirst.l0 k l n (r : Int) (i : Int) = some true := by
  induction m with
  | zero =>
    intro k i hi hk
    obtain ⟨K, rfl⟩ : ∃ K, k = K + 1 := ⟨k - 1, by omega⟩
    obtain rfl : i = r := by omega
    simp only [bollardlaw1_BitsFirst.l0]
    have hs := setb_bytes hb i true
    have ht : ∀ j, tb (setb l i true) j = if j = i then true else tb l j := fun j => tb_setb hb i true (by omega) j
    rw [if_neg (by omega), set_f l (by omega) i (by omega) true K (by omega), test_f l hb i (by omega)]
    simp only [Option.bind_some]
    rw [h3, if_neg (by simp), test_f _ hs i (by omega)]
    simp only [Option.bind_some]
    rw [ht i, if_pos rfl, if_pos rfl, count_f _ hs (by rw [setb_length]; omega) n K (by rw [setb_length]; omega), count_f l hb (by omega) n K (by omega), Option.bind_some, Option.bind_some]
    have hu : upto (setb l i true) n (8 * (setb l i true).length) = upto l n (8 * l.length) := by unfold upto; rw [setb_length]
    have hc := cn_one l (setb l i true) i (upto l n (8 * l.length)) (by unfold upto; omega) ht h3
    have hle := cn_le l (upto l n (8 * l.length))
    have hu2 : upto l n (8 * l.length) ≤ 8 * l.length := by unfold upto; omega
    rw [hu, hc, up64 _ (by omega), if_pos rfl, awake_f K (by omega)]
    rfl
  | succ m ih =>
    intro k i hi hk
    obtain ⟨K, rfl⟩ : ∃ K, k = K + 1 := ⟨k - 1, by omega⟩
    simp only [bollardlaw1_BitsFirst.l0]
    rw [if_pos (by omega), test_f l hb i (by omega)]
    simp only [Option.bind_some]
    rw [h4 i (by omega), if_pos rfl, up64 i (by omega)]
    exact ih K (i + 1) (by omega) (by omega)

theorem BitsFirst : bollardlaw1_BitsFirst.Pure := by
  intro l n _ hl hb hn
  have b := bytes_of hb
  have r := wfi hn
  obtain ⟨K, hK⟩ : ∃ K, K = 30 * l.length + 17000 := ⟨_, rfl⟩
  refine ⟨K + 1, ?_⟩
  have et : bollardlaw1_BitsFirst.j0 (K + 1) l n true = some true := by
    simp only [bollardlaw1_BitsFirst.j0]
    rw [if_pos (by trivial), awake_f K (by omega)]
    rfl
  unfold bollardlaw1_BitsFirst.f
  by_cases c1 : (l.length : Int) > 2000
  · rw [if_pos c1]; exact et
  rw [if_neg c1]
  by_cases c2 : n < 0
  · rw [if_pos c2]; exact et
  rw [if_neg c2]
  by_cases c3 : n > 16000
  · rw [decide_eq_true c3]; exact et
  rw [decide_eq_false c3]
  simp only [bollardlaw1_BitsFirst.j0]
  obtain ⟨q, hq, hf⟩ := first_f l b (by omega) n K (by omega)
  rw [if_neg (by simp), hq]
  simp only [Option.bind_some]
  rcases hf with ⟨rfl, h⟩ | ⟨p, rfl, h1, h2, h3, h4⟩
  · rw [if_pos (by omega), count_f l b (by omega) n K (by omega), Option.bind_some]
    have e : mn n (wrap64 (8 * (l.length : Int))) = ((cn l (upto l n (8 * l.length)) : Nat) : Int) := by
      rw [cn_all l _ (fun j hj => h j (by unfold upto at hj; omega) (by unfold upto at hj; omega)), w64 (by omega) (by omega)]
      unfold mn upto
      split <;> omega
    rw [e, if_pos (by trivial), awake_f K (by omega)]
    rfl
  · rw [if_neg (by omega)]
    exact first_l0 l b (by omega) n p h1 h2 h3 h4 p K 0 (by omega) (by omega)

end Go.Proofs.Ytlpbgknpgogaaaa.Pure
