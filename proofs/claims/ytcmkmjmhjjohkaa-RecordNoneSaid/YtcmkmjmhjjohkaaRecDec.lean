/- What the program's Decode of a record comes to: a plain function on bytes. -/
import Derived.Test.YtcmkmjmhjjohkaaPDecx5
import Derived.Test.YtcmkmjmhjjohkaaPDecx2
import Derived.Test.YtcmkmjmhjjohkaaRecEnc
import Derived.Test.YtcmkmjmhjjohkaaUnvF
import Derived.Test.YtcmkmjmhjjohkaaZagF
import Derived.Test.YtcmkmjmhjjohkaaUnvMore
namespace Go.Proofs.Ytcmkmjmhjjohkaa.Bp
open Go Go.RowKit Go.Proofs.Ytcmkmjmhjjohkaa.PDec Go.Proofs.YtcmkmjmhjjohkaaW.PrintWords Go.Proofs.YtcmkmjmhjjohkaaW.PrintLast Go.Proofs.YtcmkmjmhjjohkaaW.PrintMore
set_option linter.unusedVariables false
set_option linter.unusedSimpArgs false

/-- A text with its length ahead, from place p on, if there is to be one: the text, and the place behind it. -/
def txR (l : List Int) (p : Int) (is : Bool) : Option (ByteArray × Int) :=
  if is = true then
    if (unv (l.drop p.toNat) 0 0).2 = 0 then none
    else if (l.length : Int) - (p + (unv (l.drop p.toNat) 0 0).2) < (unv (l.drop p.toNat) 0 0).1 then none
    else some (strOfNums ((l.take (p + (unv (l.drop p.toNat) 0 0).2 + (unv (l.drop p.toNat) 0 0).1).toNat).drop (p + (unv (l.drop p.toNat) 0 0).2).toNat), p + (unv (l.drop p.toNat) 0 0).2 + (unv (l.drop p.toNat) 0 0).1)
  else some (⟨#[]⟩, p)
/-- The record that bytes begin with, by a first time: its fields, and how many bytes it takes. -/
def decS (l : List Int) (first : Int) : Option (Bool × ByteArray × Bool × ByteArray × Int × Int × Int) :=
  if l.length = 0 ∨ 3 < rd l 0 ∨ first < 0 ∨ 1125899906842624 < first then none
  else if (unv (l.drop 1) 0 0).2 = 0 ∨ 100 ≤ (unv (l.drop 1) 0 0).1 then none
  else if (unv (l.drop (1 + (unv (l.drop 1) 0 0).2).toNat) 0 0).2 = 0 ∨ zag (unv (l.drop (1 + (unv (l.drop 1) 0 0).2).toNat) 0 0).1 < -first ∨ 1125899906842624 - first < zag (unv (l.drop (1 + (unv (l.drop 1) 0 0).2).toNat) 0 0).1 then none
  else (txR l (1 + (unv (l.drop 1) 0 0).2 + (unv (l.drop (1 + (unv (l.drop 1) 0 0).2).toNat) 0 0).2) (decide (rd l 0 % 2 = 1))).bind fun x => (txR l x.2 (decide (2 ≤ rd l 0))).bind fun y =>
    if 2000 < x.1.size ∨ 2000 < y.1.size then none
    else some (decide (rd l 0 % 2 = 1), x.1, decide (2 ≤ rd l 0), y.1, first + zag (unv (l.drop (1 + (unv (l.drop 1) 0 0).2).toNat) 0 0).1, (unv (l.drop 1) 0 0).1, y.2)
def outR : Option (Bool × ByteArray × Bool × ByteArray × Int × Int × Int) → Bool × ByteArray × Bool × ByteArray × Int × Int × Int × Int
  | none => (false, ⟨#[]⟩, false, ⟨#[]⟩, 0, 0, 0, 10)
  | some (hk, key, hv, val, t, o, n) => (hk, key, hv, val, t, o, n, 0)

theorem txR_range {l : List Int} (hb : Bytes l) {p : Int} {is : Bool} {s : ByteArray} {q : Int} (h0 : 0 ≤ p) (h1 : p ≤ (l.length : Int)) (h : txR l p is = some (s, q)) : p ≤ q ∧ q ≤ (l.length : Int) ∧ (s.size : Int) ≤ q - p := by
  have hr := unv0_range (hb.drop p.toNat)
  rw [List.length_drop] at hr
  unfold txR at h
  by_cases c : is = true
  · rw [if_pos c] at h
    by_cases d : (unv (l.drop p.toNat) 0 0).2 = 0
    · rw [if_pos d] at h; cases h
    rw [if_neg d] at h
    by_cases e : (l.length : Int) - (p + (unv (l.drop p.toNat) 0 0).2) < (unv (l.drop p.toNat) 0 0).1
    · rw [if_pos e] at h; cases h
    rw [if_neg e] at h
    obtain ⟨rfl, rfl⟩ := Prod.mk.inj (Option.some.inj h)
    rw [strOfNums_size, List.length_drop, List.length_take]
    omega
  · rw [if_neg c] at h
    obtain ⟨rfl, rfl⟩ := Prod.mk.inj (Option.some.inj h)
    refine ⟨Int.le_refl _, h1, ?_⟩
    show ((0 : Nat) : Int) ≤ _
    omega

theorem rdNum_f {l : List Int} (hb : Bytes l) (hl : l.length ≤ 1000000000000000) {p : Int} (h0 : 0 ≤ p) (h1 : p ≤ (l.length : Int)) (k : Nat) (hk : 2 * l.length + 1 ≤ k) : rdNum k l p = some (unv (l.drop p.toNat) 0 0) := by
  have hr := unv0_range (hb.drop p.toNat)
  have hd : (l.drop p.toNat).length = l.length - p.toNat := List.length_drop
  rw [hd] at hr
  unfold rdNum
  rw [unvarint_f _ (by omega) k (by omega), Option.bind_some, if_pos (by omega)]

/-- A text as the reader tells it. -/
theorem rdText_f {l : List Int} (hb : Bytes l) (hl : l.length ≤ 1000000000000000) {p : Int} (h0 : 0 ≤ p) (h1 : p ≤ (l.length : Int)) (is : Bool) (k : Nat) (hk : 2 * l.length + 1 ≤ k) :
    (∃ q, rdText k l p is false = some (⟨#[]⟩, q, true) ∧ txR l p is = none) ∨ (∃ s q, rdText k l p is false = some (s, q, false) ∧ txR l p is = some (s, q)) := by
  unfold rdText txR
  by_cases c : is = true
  · rw [if_neg (by simp [c]), if_pos c, rdNum_f hb hl h0 h1 k hk, Option.bind_some]
    by_cases d : (unv (l.drop p.toNat) 0 0).2 = 0
    · rw [if_pos d, if_pos d]
      exact .inl ⟨_, rfl, rfl⟩
    rw [if_neg d, if_neg d]
    by_cases e : (l.length : Int) - (p + (unv (l.drop p.toNat) 0 0).2) < (unv (l.drop p.toNat) 0 0).1
    · rw [if_pos e, if_pos e]
      exact .inl ⟨_, rfl, rfl⟩
    · rw [if_neg e, if_neg e]
      exact .inr ⟨_, _, rfl, rfl⟩
  · have hi : is = false := by simpa using c
    rw [if_pos (by simp [hi]), if_neg c]
    exact .inr ⟨_, _, rfl, rfl⟩

theorem flag1 {x : Int} (h : 0 ≤ x ∧ x ≤ 3) : decide (0 < Go.bits BinOp.and IntKind.u8 x 1) = decide (x % 2 = 1) := by
  have : x = 0 ∨ x = 1 ∨ x = 2 ∨ x = 3 := by omega
  rcases this with e | e | e | e <;> subst e <;> decide
theorem flag2 {x : Int} (h : 0 ≤ x ∧ x ≤ 3) : decide (0 < Go.bits BinOp.and IntKind.u8 x 2) = decide (2 ≤ x) := by
  have : x = 0 ∨ x = 1 ∨ x = 2 ∨ x = 3 := by omega
  rcases this with e | e | e | e <;> subst e <;> decide

theorem txR_none {l : List Int} {p : Int} {is : Bool} {s : ByteArray} {q : Int} (h : txR l p is = some (s, q)) : is = false → s.toList = [] := by
  intro e
  unfold txR at h
  rw [if_neg (by simp [e])] at h
  obtain ⟨rfl, _⟩ := Prod.mk.inj (Option.some.inj h)
  decide +kernel

theorem chk_sizes {hk : Bool} {key : ByteArray} {hv : Bool} {val : ByteArray} {t o : Int} (h1 : hk = false → key.toList = []) (h2 : hv = false → val.toList = []) (h3 : 0 ≤ t) (h4 : t ≤ 1125899906842624) (h5 : 0 ≤ o) (h6 : o < 100) :
    chk hk key hv val t o = if 2000 < key.size ∨ 2000 < val.size then 2 else 0 := by
  have : ¬ odd hk key hv val t o := by
    unfold odd
    rintro (⟨a, b⟩ | ⟨a, b⟩ | h)
    · exact b (h1 a)
    · exact b (h2 a)
    · omega
  unfold chk
  rw [if_neg this]

theorem decode_f {l : List Int} (hb : Bytes l) (hl : l.length ≤ 1000000000000000) (first : Int) (k : Nat) (hk : 2 * l.length + 10 ≤ k) : record_Decode.f k l first = some (outR (decS l first)) := by
  have hbad : record_Decode.bad = some (outR none) := rfl
  unfold record_Decode.f
  rw [if_neg (not_not_intro hl)]
  unfold decS
  by_cases c0 : l.length = 0
  · rw [if_pos c0, if_pos (Or.inl c0), hbad]
  rw [if_neg c0]
  by_cases c1 : 3 < rd l 0
  · rw [if_pos c1, if_pos (Or.inr (Or.inl c1)), hbad]
  rw [if_neg c1]
  by_cases c2 : first < 0
  · rw [if_pos c2, if_pos (Or.inr (Or.inr (Or.inl c2))), hbad]
  rw [if_neg c2]
  by_cases c3 : 1125899906842624 < first
  · rw [if_pos c3, if_pos (Or.inr (Or.inr (Or.inr c3))), hbad]
  rw [if_neg c3, if_neg (by omega), rdNum_f hb hl (by omega) (by omega) k (by omega), Option.bind_some]
  have r0 := rd_byte hb 0
  have ra := unv0_range (hb.drop ((1 : Int).toNat))
  have hd : (l.drop ((1 : Int).toNat)).length = l.length - 1 := List.length_drop
  rw [hd] at ra
  rw [show ((1 : Int)).toNat = 1 from rfl] at ra ⊢
  generalize unv (l.drop 1) 0 0 = a at ra ⊢
  by_cases c4 : a.2 = 0
  · rw [if_pos c4, if_pos (Or.inl c4), hbad]
  rw [if_neg c4, rdNum_f hb hl (by omega) (by omega) k (by omega), Option.bind_some]
  have rb := unv0_range (hb.drop ((1 + a.2).toNat))
  have hd2 : (l.drop ((1 + a.2).toNat)).length = l.length - (1 + a.2).toNat := List.length_drop
  rw [hd2] at rb
  generalize unv (l.drop (1 + a.2).toNat) 0 0 = b at rb ⊢
  rw [zag_f (by omega), Option.bind_some]
  by_cases c5 : b.2 = 0
  · rw [if_pos c5]
    by_cases c6 : 100 ≤ a.1
    · rw [if_pos (Or.inr c6), hbad]
    · rw [if_neg (show ¬ (a.2 = 0 ∨ 100 ≤ a.1) by omega), if_pos (Or.inl c5), hbad]
  rw [if_neg c5]
  by_cases c6 : 100 ≤ a.1
  · rw [if_pos c6, if_pos (Or.inr c6), hbad]
  rw [if_neg c6, if_neg (show ¬ (a.2 = 0 ∨ 100 ≤ a.1) by omega)]
  by_cases c7 : zag b.1 < -first
  · rw [if_pos c7, if_pos (Or.inr (Or.inl c7)), hbad]
  rw [if_neg c7]
  by_cases c8 : 1125899906842624 - first < zag b.1
  · rw [if_pos c8, if_pos (Or.inr (Or.inr c8)), hbad]
  rw [if_neg c8, if_neg (show ¬ (b.2 = 0 ∨ zag b.1 < -first ∨ 1125899906842624 - first < zag b.1) by omega), flag1 (by omega), flag2 (by omega)]
  generalize hK : decide (rd l 0 % 2 = 1) = hk
  generalize hV : decide (2 ≤ rd l 0) = hv
  rcases rdText_f hb hl (p := 1 + a.2 + b.2) (by omega) (by omega) hk k (by omega) with ⟨q, e1, e2⟩ | ⟨s, q, e1, e2⟩
  · rw [e1, e2, Option.bind_some]
    have : rdText k l q hv true = some (⟨#[]⟩, q, true) := by unfold rdText; rw [if_pos (by simp)]
    rw [this, Option.bind_some, if_pos rfl, hbad]
    rfl
  · rw [e1, e2, Option.bind_some, Option.bind_some]
    have rq := txR_range hb (by omega) (by omega) e2
    rcases rdText_f hb hl (p := q) (by omega) (by omega) hv k (by omega) with ⟨q2, f1, f2⟩ | ⟨s2, q2, f1, f2⟩
    · rw [f1, f2, Option.bind_some, if_pos rfl, hbad]
      rfl
    · rw [f1, f2, Option.bind_some, Option.bind_some, if_neg (by simp), check_f k _ _ _ _ _ _ (by omega), Option.bind_some, chk_sizes (txR_none e2) (txR_none f2) (by omega) (by omega) (by omega) (by omega)]
      by_cases c9 : 2000 < s.size ∨ 2000 < s2.size
      · rw [if_pos c9, if_pos c9, if_neg (by decide), hbad]
      · rw [if_neg c9, if_neg c9, if_pos rfl]
        rfl

end Go.Proofs.Ytcmkmjmhjjohkaa.Bp
