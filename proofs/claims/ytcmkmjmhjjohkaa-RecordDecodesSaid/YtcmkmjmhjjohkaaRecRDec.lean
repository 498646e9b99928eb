/- What the document's Decode of a record comes to, as printed: the same. -/
import Derived.Test.YtcmkmjmhjjohkaaPRecx11
import Derived.Test.YtcmkmjmhjjohkaaRecDec
import Derived.Test.YtcmkmjmhjjohkaaRvrF
namespace Go.Proofs.Ytcmkmjmhjjohkaa.Bp
open Go Go.RowKit Go.Proofs.Ytcmkmjmhjjohkaa.PRec Go.Proofs.YtcmkmjmhjjohkaaW.PrintWords Go.Proofs.YtcmkmjmhjjohkaaW.PrintLast Go.Proofs.YtcmkmjmhjjohkaaW.PrintMore
set_option linter.unusedVariables false
set_option linter.unusedSimpArgs false

theorem rtext_f {l : List Int} (hb : Bytes l) (hl : l.length ≤ 1000000000000000) {p : Int} (h0 : 0 ≤ p) (h1 : p ≤ (l.length : Int)) (k : Nat) (hk : 3 * l.length + 2 ≤ k) :
    (bollardref12_text.f k l p = some (⟨#[]⟩, -1) ∧ (txR l p true = none ∨ ∃ s q, txR l p true = some (s, q) ∧ 2000 < s.size)) ∨ (∃ s q, bollardref12_text.f k l p = some (s, q) ∧ txR l p true = some (s, q) ∧ s.size ≤ 2000) := by
  have hr := unv0_range (hb.drop p.toNat)
  have hd : (l.drop p.toNat).length = l.length - p.toNat := List.length_drop
  rw [hd] at hr
  unfold bollardref12_text.f txR
  rw [if_pos ⟨hl, h0, h1⟩, runvarint_f _ (hb.drop _) (by omega) k (by omega), Option.bind_some, if_pos (by omega), if_pos rfl]
  generalize unv (l.drop p.toNat) 0 0 = a at hr ⊢
  by_cases c1 : a.2 = 0
  · rw [if_pos c1, if_pos c1]
    exact .inl ⟨rfl, .inl rfl⟩
  rw [if_neg c1, if_neg c1]
  by_cases c3 : (l.length : Int) - (p + a.2) < a.1
  · rw [if_pos c3]
    left
    refine ⟨?_, .inl rfl⟩
    by_cases c2 : 2000 < a.1
    · rw [if_pos c2]
    · rw [if_neg c2, if_pos (by omega)]
  · rw [if_neg c3]
    have hsz : (strOfNums ((l.take (p + a.2 + a.1).toNat).drop (p + a.2).toNat)).size = a.1.toNat := by
      rw [strOfNums_size, List.length_drop, List.length_take]
      omega
    by_cases c2 : 2000 < a.1
    · rw [if_pos c2]
      exact .inl ⟨rfl, .inr ⟨_, _, rfl, by rw [hsz]; omega⟩⟩
    · rw [if_neg c2, if_neg (by omega)]
      exact .inr ⟨_, _, rfl, rfl, by rw [hsz]; omega⟩

theorem and2 {x : Int} (h : 0 ≤ x ∧ x ≤ 3) : (Go.bits BinOp.and IntKind.u8 x 2 == 2) = decide (2 ≤ x) := by
  have : x = 0 ∨ x = 1 ∨ x = 2 ∨ x = 3 := by omega
  rcases this with e | e | e | e <;> subst e <;> decide
theorem and1 {x : Int} (h : 0 ≤ x ∧ x ≤ 3) : (Go.bits BinOp.and IntKind.u8 x 1 == 1) = decide (x % 2 = 1) := by
  have : x = 0 ∨ x = 1 ∨ x = 2 ∨ x = 3 := by omega
  rcases this with e | e | e | e <;> subst e <;> decide

theorem rdecode_f {l : List Int} (hb : Bytes l) (hl : l.length ≤ 1000000000000000) (first : Int) (hf : -9223372036854775808 ≤ first ∧ first ≤ 9223372036854775807) (k : Nat) (hk : 3 * l.length + 20 ≤ k) : bollardref12_Decode.f k l first = some (outR (decS l first)) := by
  obtain ⟨K, rfl⟩ : ∃ K, k = K + 5 := ⟨k - 5, by omega⟩
  have bad0 : bollardref12_Decode.j0 (K + 5) l first true false ⟨#[]⟩ false ⟨#[]⟩ 0 0 = some (outR none) := by
    simp only [bollardref12_Decode.j0]
    rw [if_pos (by trivial)]
    rfl
  have bad1 : ∀ x8 x9, bollardref12_Decode.j1 (K + 4) l first x8 x9 true false ⟨#[]⟩ false ⟨#[]⟩ 0 0 = some (outR none) := by
    intro x8 x9
    simp only [bollardref12_Decode.j1]
    rw [if_pos (by trivial)]
    rfl
  have bad2 : ∀ x8 x9 x10 x12, bollardref12_Decode.j2 (K + 3) l first x8 x9 x10 x12 true false ⟨#[]⟩ false ⟨#[]⟩ 0 0 = some (outR none) := by
    intro x8 x9 x10 x12
    simp only [bollardref12_Decode.j2]
    rw [if_pos (by trivial)]
    rfl
  unfold bollardref12_Decode.f decS
  by_cases c2 : first < 0
  · rw [if_pos c2, if_pos (Or.inr (Or.inr (Or.inl c2)))]; exact bad0
  rw [if_neg c2]
  by_cases c3 : first > 1125899906842624
  · rw [if_pos c3, if_pos (Or.inr (Or.inr (Or.inr (by omega))))]; exact bad0
  rw [if_neg c3]
  by_cases c0 : l.length = 0
  · rw [if_pos (show (l.length : Int) = 0 by omega), if_pos (Or.inl c0)]; exact bad0
  rw [if_neg (show ¬ (l.length : Int) = 0 by omega), if_pos (show 0 < (l.length : Int) by omega)]
  by_cases c1 : 3 < rd l 0
  · rw [decide_eq_true c1, if_pos (Or.inr (Or.inl c1))]; exact bad0
  rw [decide_eq_false c1, if_neg (show ¬ (l.length = 0 ∨ 3 < rd l 0 ∨ first < 0 ∨ 1125899906842624 < first) by omega)]
  have r0 := rd_byte hb 0
  have ra := unv0_range (hb.drop 1)
  have hd : (l.drop 1).length = l.length - 1 := List.length_drop
  rw [hd] at ra
  simp only [bollardref12_Decode.j0]
  rw [if_neg (by simp), if_pos (by omega), runvarint_f _ (hb.drop 1) (by omega) (K + 4) (by omega), Option.bind_some]
  generalize unv (l.drop 1) 0 0 = a at ra ⊢
  by_cases c4 : a.2 = 0
  · rw [if_pos c4, if_pos (Or.inl c4)]; exact bad1 _ _
  rw [if_neg c4]
  by_cases c6 : 100 ≤ a.1
  · rw [decide_eq_true (show a.1 ≥ 100 from c6), if_pos (Or.inr c6)]; exact bad1 _ _
  rw [decide_eq_false (show ¬ a.1 ≥ 100 by omega), if_neg (show ¬ (a.2 = 0 ∨ 100 ≤ a.1) by omega)]
  have rb := unv0_range (hb.drop ((1 + a.2).toNat))
  have hd2 : (l.drop ((1 + a.2).toNat)).length = l.length - (1 + a.2).toNat := List.length_drop
  rw [hd2] at rb
  simp only [bollardref12_Decode.j1]
  rw [if_neg (by simp), w64 (x := 1 + a.2) (by omega) (by omega), if_pos (by omega), if_pos (by omega), runvarint_f _ (hb.drop _) (by omega) (K + 3) (by omega), Option.bind_some]
  generalize unv (l.drop (1 + a.2).toNat) 0 0 = b at rb ⊢
  have ez : bollardref1_Zag.f b.1 = some (zag b.1) := zag_f (by omega)
  have hz := zag_range (u := b.1) (by omega)
  rw [ez, Option.bind_some, w64 (x := -first) (by omega) (by omega), w64 (x := 1125899906842624 - first) (by omega) (by omega)]
  by_cases c5 : b.2 = 0
  · rw [if_pos c5, if_pos (Or.inl c5)]; exact bad2 _ _ _ _
  rw [if_neg c5]
  by_cases c7 : zag b.1 < -first
  · rw [if_pos c7, if_pos (Or.inr (Or.inl c7))]; exact bad2 _ _ _ _
  rw [if_neg c7]
  by_cases c8 : 1125899906842624 - first < zag b.1
  · rw [decide_eq_true (show zag b.1 > 1125899906842624 - first from c8), if_pos (Or.inr (Or.inr c8))]; exact bad2 _ _ _ _
  rw [decide_eq_false (show ¬ zag b.1 > 1125899906842624 - first by omega), if_neg (show ¬ (b.2 = 0 ∨ zag b.1 < -first ∨ 1125899906842624 - first < zag b.1) by omega)]
  simp only [bollardref12_Decode.j2]
  rw [if_neg (by simp), if_pos (by omega), w64 (x := 1 + a.2 + b.2) (by omega) (by omega), w64 (x := first + zag b.1) (by omega) (by omega), w64 (x := a.1) (by omega) (by omega), and1 (by omega), and2 (by omega)]
  have c1eq : (Go.bits BinOp.and IntKind.u8 (rd l 0) 1 = 1) ↔ decide (rd l 0 % 2 = 1) = true := by
    rw [← and1 (by omega)]
    simp
  generalize hK : decide (rd l 0 % 2 = 1) = hk at c1eq ⊢
  generalize hV : decide (2 ≤ rd l 0) = hv
  -- behind the key
  have behind : ∀ (key : ByteArray) (q : Int), 0 ≤ q → q ≤ (l.length : Int) → key.size ≤ 2000 →
      bollardref12_Decode.j3 (K + 2) l q false ⟨#[]⟩ false ⟨#[]⟩ 0 0 hk key hv ⟨#[]⟩ (first + zag b.1) a.1 = some (outR ((txR l q hv).bind fun y => if 2000 < key.size ∨ 2000 < y.1.size then none else some (hk, key, hv, y.1, first + zag b.1, a.1, y.2))) := by
    intro key q q0 q1 hs
    simp only [bollardref12_Decode.j3]
    rw [if_pos (by omega)]
    simp only [bollardref12_Decode.j4]
    by_cases d : hv = true
    · rw [if_pos d, d]
      rcases rtext_f hb hl q0 q1 K (by omega) with ⟨e1, e2⟩ | ⟨s, p, e1, e2, e3⟩
      · rw [e1, Option.bind_some, if_pos (by decide)]
        rcases e2 with e2 | ⟨s, p, e2, e3⟩
        · rw [e2]; rfl
        · rw [e2, Option.bind_some, if_pos (Or.inr e3)]; rfl
      · have hrg := txR_range hb q0 q1 e2
        rw [e1, e2, Option.bind_some, Option.bind_some, if_neg (by simp only; omega), if_neg (by simp only; omega)]
        rfl
    · have hvf : hv = false := by simpa using d
      have e2 : txR l q hv = some (⟨#[]⟩, q) := by unfold txR; rw [if_neg d]
      rw [if_neg d, if_neg (by omega), e2, Option.bind_some, if_neg (by simp only; show ¬ (2000 < key.size ∨ 2000 < 0); omega)]
      rfl
  by_cases d : hk = true
  · rw [if_pos (c1eq.2 d), d]
    rw [d] at behind
    rcases rtext_f hb hl (p := 1 + a.2 + b.2) (by omega) (by omega) (K + 2) (by omega) with ⟨e1, e2⟩ | ⟨s, p, e1, e2, e3⟩
    · rw [e1, Option.bind_some]
      simp only [bollardref12_Decode.j3, bollardref12_Decode.j4]
      rw [if_neg (by decide), if_neg (by simp), if_pos (by decide)]
      rcases e2 with e2 | ⟨s, p, e2, e3⟩
      · rw [e2]; rfl
      · rw [e2, Option.bind_some]
        cases txR l (s, p).2 hv with
        | none => rfl
        | some y => rw [Option.bind_some, if_pos (Or.inl e3)]; rfl
    · have hrg := txR_range hb (by omega) (by omega) e2
      rw [e1, e2, Option.bind_some, Option.bind_some]
      exact behind s p (by omega) (by omega) e3
  · have e2 : txR l (1 + a.2 + b.2) hk = some (⟨#[]⟩, 1 + a.2 + b.2) := by unfold txR; rw [if_neg d]
    rw [if_neg (fun h => d (c1eq.1 h)), e2, Option.bind_some]
    exact behind ⟨#[]⟩ _ (by omega) (by omega) (by decide)

end Go.Proofs.Ytcmkmjmhjjohkaa.Bp
