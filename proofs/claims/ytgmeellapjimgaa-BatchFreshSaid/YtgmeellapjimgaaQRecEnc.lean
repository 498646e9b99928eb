/- What the program's Check and Encode of a record come to, as printed. -/
import Derived.Test.YtgmeellapjimgaaQPBax3
import Derived.Test.YtgmeellapjimgaaQPBax4
import Derived.Test.YtgmeellapjimgaaQVrF
import Derived.Test.YtgmeellapjimgaaQZigF
namespace Go.Proofs.Ytgmeellapjimgaa.Bp
open Go Go.RowKit Go.Proofs.Ytgmeellapjimgaa.PBa Go.Proofs.YtgmeellapjimgaaW.PrintWords Go.Proofs.YtgmeellapjimgaaW.PrintLast Go.Proofs.YtgmeellapjimgaaW.PrintMore
set_option linter.unusedVariables false
set_option linter.unusedSimpArgs false

/-- May a record be? 0: it may. -/
def odd (hk : Bool) (key : ByteArray) (hv : Bool) (val : ByteArray) (t o : Int) : Prop := (hk = false ∧ key.toList ≠ []) ∨ (hv = false ∧ val.toList ≠ []) ∨ t < 0 ∨ t > 1125899906842624 ∨ o < 0 ∨ o ≥ 100
instance (hk : Bool) (key : ByteArray) (hv : Bool) (val : ByteArray) (t o : Int) : Decidable (odd hk key hv val t o) := by unfold odd; infer_instance
def chk (hk : Bool) (key : ByteArray) (hv : Bool) (val : ByteArray) (t o : Int) : Int := if odd hk key hv val t o then 1 else if key.size > 2000 ∨ val.size > 2000 then 2 else 0

theorem check_j2 (k : Nat) (x hk : Bool) (key : ByteArray) (hv : Bool) (val : ByteArray) (t o : Int) (hx : x = true ↔ odd hk key hv val t o) (h : 1 ≤ k) : record_Check.j2 k x hk key hv val t o = some (chk hk key hv val t o) := by
  obtain ⟨K, rfl⟩ : ∃ K, k = K + 1 := ⟨k - 1, by omega⟩
  simp only [record_Check.j2]
  unfold chk
  by_cases c : x = true
  · rw [if_pos c, if_pos (hx.1 c)]
  · rw [if_neg c, if_neg (fun q => c (hx.2 q))]
    by_cases d : (key.size : Int) > 2000
    · rw [if_pos d, if_pos (Or.inl (by omega))]
    · rw [if_neg d]
      by_cases e : (val.size : Int) > 2000
      · rw [if_pos e, if_pos (Or.inr (by omega))]
      · rw [if_neg e, if_neg (by omega)]

theorem check_j1 (k : Nat) (x hk : Bool) (key : ByteArray) (hv : Bool) (val : ByteArray) (t o : Int) (hx : x = true ↔ ((hk = false ∧ key.toList ≠ []) ∨ (hv = false ∧ val.toList ≠ []))) (h : 2 ≤ k) : record_Check.j1 k x hk key hv val t o = some (chk hk key hv val t o) := by
  obtain ⟨K, rfl⟩ : ∃ K, k = K + 1 := ⟨k - 1, by omega⟩
  simp only [record_Check.j1]
  by_cases c : x = true
  · rw [if_pos c]
    exact check_j2 K x hk key hv val t o ⟨fun _ => (by unfold odd; rcases hx.1 c with q | q; exact Or.inl q; exact Or.inr (Or.inl q)), fun _ => c⟩ (by omega)
  · have nx : ¬ ((hk = false ∧ key.toList ≠ []) ∨ (hv = false ∧ val.toList ≠ [])) := fun q => c (hx.2 q)
    have e : odd hk key hv val t o ↔ (t < 0 ∨ t > 1125899906842624 ∨ o < 0 ∨ o ≥ 100) := by
      unfold odd
      constructor
      · rintro (q | q | q)
        · exact absurd (Or.inl q) nx
        · exact absurd (Or.inr q) nx
        · exact q
      · intro q; exact Or.inr (Or.inr q)
    rw [if_neg c]
    by_cases c1 : t < 0
    · rw [if_pos c1]; exact check_j2 K _ hk key hv val t o (by rw [e]; simp; omega) (by omega)
    rw [if_neg c1]
    by_cases c2 : t > 1125899906842624
    · rw [if_pos c2]; exact check_j2 K _ hk key hv val t o (by rw [e]; simp; omega) (by omega)
    rw [if_neg c2]
    by_cases c3 : o < 0
    · rw [if_pos c3]; exact check_j2 K _ hk key hv val t o (by rw [e]; simp; omega) (by omega)
    rw [if_neg c3]
    exact check_j2 K _ hk key hv val t o (by rw [e]; simp; omega) (by omega)

theorem check_j0 (k : Nat) (x hk : Bool) (key : ByteArray) (hv : Bool) (val : ByteArray) (t o : Int) (hx : x = true ↔ (hk = false ∧ key.toList ≠ [])) (h : 3 ≤ k) : record_Check.j0 k x hk key hv val t o = some (chk hk key hv val t o) := by
  obtain ⟨K, rfl⟩ : ∃ K, k = K + 1 := ⟨k - 1, by omega⟩
  simp only [record_Check.j0]
  by_cases c : x = true
  · rw [if_pos c]
    exact check_j2 K x hk key hv val t o ⟨fun _ => Or.inl (hx.1 c), fun _ => c⟩ (by omega)
  · have nx : ¬ (hk = false ∧ key.toList ≠ []) := fun q => c (hx.2 q)
    rw [if_neg c]
    by_cases d : hv = true
    · rw [if_pos d]
      refine check_j1 K false hk key hv val t o ⟨fun q => (by cases q), fun q => ?_⟩ (by omega)
      rcases q with q | q
      · exact absurd q nx
      · rw [d] at q; exact absurd q.1 (by simp)
    · have dv : hv = false := by simpa using d
      rw [if_neg d]
      refine check_j1 K _ hk key hv val t o ⟨fun q => Or.inr ⟨dv, by simpa using q⟩, fun q => ?_⟩ (by omega)
      rcases q with q | q
      · exact absurd q nx
      · simpa using q.2

theorem check_f (k : Nat) (hk : Bool) (key : ByteArray) (hv : Bool) (val : ByteArray) (t o : Int) (h : 3 ≤ k) : record_Check.f k hk key hv val t o = some (chk hk key hv val t o) := by
  unfold record_Check.f
  by_cases c : hk = true
  · rw [if_pos c]
    exact check_j0 k false hk key hv val t o ⟨fun q => (by cases q), fun q => (by rw [c] at q; exact absurd q.1 (by simp))⟩ h
  · have ck : hk = false := by simpa using c
    rw [if_neg c]
    exact check_j0 k _ hk key hv val t o ⟨fun q => ⟨ck, by simpa using q⟩, fun q => by simpa using q.2⟩ h

/-- A text with its length ahead. -/
def txt (s : ByteArray) : List Int := vr s.size ++ bytesOf s
theorem bytesOf_len (s : ByteArray) : (bytesOf s).length = s.size := by unfold bytesOf; simp
theorem text_f (s : ByteArray) (hs : s.size ≤ 140737488351232) (k : Nat) (hk : 10 ≤ k) : record_text.f k s = some (txt s) := by
  unfold record_text.f
  have hv := vr_len 9 s.size (by omega)
  rw [u64_id (by omega) (by omega), varint_f s.size (by omega) k hk, Option.bind_some, if_pos (by omega)]
  rfl
/-- Pieces, one behind the other. -/
theorem rd_L1_at {l : List (List Int)} {i : Nat} (h : i < l.length) : rd_L5 l (i : Int) = l[i] := by
  unfold rd_L5
  rw [Int.toNat_natCast, List.getD_eq_getElem?_getD, List.getElem?_eq_getElem h]
  rfl
theorem join_l0 (l : List (List Int)) (hl : l.length ≤ 1000) (n : Nat) : ∀ (k i : Nat) (acc : List Int), i + n = l.length → n + 1 ≤ k → acc.length + (l.drop i).flatten.length < 140737488355328 →
    record_join.l0 k acc l (l.length : Int) (i : Int) = some (acc ++ (l.drop i).flatten) := by
  induction n with
  | zero =>
    intro k i acc hi hk ha
    obtain ⟨K, rfl⟩ : ∃ K, k = K + 1 := ⟨k - 1, by omega⟩
    simp only [record_join.l0]
    rw [if_neg (by omega), List.drop_eq_nil_of_le (by omega)]
    simp
  | succ n ih =>
    intro k i acc hi hk ha
    obtain ⟨K, rfl⟩ : ∃ K, k = K + 1 := ⟨k - 1, by omega⟩
    simp only [record_join.l0]
    have hd : l.drop i = l[i] :: l.drop (i + 1) := List.drop_eq_getElem_cons (by omega)
    rw [hd, List.flatten_cons, List.length_append] at ha
    rw [if_pos (by omega), if_pos (by omega), if_pos (by omega), rd_L1_at (by omega), if_pos (by omega), up64 i (by omega), ih K (i + 1) _ (by omega) (by omega) (by rw [List.length_append]; omega), hd, List.flatten_cons, List.append_assoc]
theorem join_f (l : List (List Int)) (hl : l.length ≤ 1000) (k : Nat) (hk : l.length + 1 ≤ k) (ha : l.flatten.length < 140737488355328) : record_join.f k l = some l.flatten := by
  unfold record_join.f
  have := join_l0 l hl l.length k 0 [] (by omega) hk (by simpa using ha)
  simpa using this

def flags (hk hv : Bool) : Int := (if hk = true then 1 else 0) + (if hv = true then 2 else 0)
/-- A record's bytes. -/
def enc (hk : Bool) (key : ByteArray) (hv : Bool) (val : ByteArray) (t o first : Int) : List Int :=
  flags hk hv :: (vr o.toNat ++ (vr (zig (t - first)).toNat ++ ((if hk = true then txt key else []) ++ (if hv = true then txt val else []))))
theorem or01 : Go.bits .or .u8 0 1 = 1 := by decide
theorem or02 : Go.bits .or .u8 0 2 = 2 := by decide
theorem or12 : Go.bits .or .u8 1 2 = 3 := by decide

theorem txt_len (b : Bool) (s : ByteArray) (hs : s.size ≤ 140737488351232) : (if b = true then txt s else []).length ≤ 20 + s.size := by
  have := vr_len 9 s.size (by omega)
  split
  · unfold txt
    rw [List.length_append, bytesOf_len]; omega
  · simp
theorem enc_len (hk : Bool) (key : ByteArray) (hv : Bool) (val : ByteArray) (t o first : Int) (ho : o < 1000) (ht : -9223372036854775808 ≤ t - first ∧ t - first ≤ 9223372036854775807) (h1 : key.size ≤ 140737488351232) (h2 : val.size ≤ 140737488351232) :
    (enc hk key hv val t o first).length ≤ 80 + key.size + val.size := by
  have v1 := vr_len 9 o.toNat (by omega)
  have hz := zig_range ht
  have v2 := vr_len 9 (zig (t - first)).toNat (by omega)
  have a := txt_len hk key h1
  have b := txt_len hv val h2
  unfold enc
  simp only [List.length_cons, List.length_append]
  omega

theorem encode_j3 (l : List (List Int)) (hk : Bool) (key : ByteArray) (hv : Bool) (val : ByteArray) (t o : Int) (k : Nat) (h : 20 ≤ k) (hl : l.length ≤ 10) (hf : l.flatten.length ≤ 1000000) (hs : val.size ≤ 1000000) :
    record_Encode.j3 k l hk key hv val t o = some (l.flatten ++ (if hv = true then txt val else []), 0) := by
  obtain ⟨K, rfl⟩ : ∃ K, k = K + 1 := ⟨k - 1, by omega⟩
  simp only [record_Encode.j3]
  have b := txt_len true val (by omega)
  rw [if_pos rfl] at b
  by_cases c : hv = true
  · rw [if_pos c, if_pos c, text_f val (by omega) K (by omega), Option.bind_some, if_pos (by omega), join_f _ (by simp; omega) K (by simp; omega) (by simp only [List.flatten_append, List.length_append, List.flatten_cons, List.flatten_nil, List.append_nil]; omega), Option.bind_some]
    simp
  · rw [if_neg c, if_neg c, join_f _ (by omega) K (by omega) (by omega), Option.bind_some, List.append_nil]

theorem encode_j2 (x first : Int) (hk : Bool) (key : ByteArray) (hv : Bool) (val : ByteArray) (t o : Int) (k : Nat) (h : 30 ≤ k) (ho : 0 ≤ o ∧ o < 1000) (ht : -9223372036854775808 ≤ t - first ∧ t - first ≤ 9223372036854775807) (h1 : key.size ≤ 100000) (h2 : val.size ≤ 100000) :
    record_Encode.j2 k first x hk key hv val t o = some (x :: (vr o.toNat ++ (vr (zig (t - first)).toNat ++ ((if hk = true then txt key else []) ++ (if hv = true then txt val else [])))), 0) := by
  obtain ⟨K, rfl⟩ : ∃ K, k = K + 1 := ⟨k - 1, by omega⟩
  simp only [record_Encode.j2]
  have hz := zig_range ht
  have v1 := vr_len 9 o.toNat (by omega)
  have v2 := vr_len 9 (zig (t - first)).toNat (by omega)
  have a := txt_len true key (by omega)
  rw [if_pos rfl] at a
  have e1 : bits_Varint.f K (IntKind.u64.wrap o) = some (vr o.toNat) := by
    rw [u64_id (by omega) (by omega)]
    have := varint_f o.toNat (by omega) K (by omega)
    rw [Int.toNat_of_nonneg ho.1] at this
    exact this
  have e2 : bits_Varint.f K (zig (t - first)) = some (vr (zig (t - first)).toNat) := by
    have := varint_f (zig (t - first)).toNat (by omega) K (by omega)
    rw [Int.toNat_of_nonneg hz.1] at this
    exact this
  rw [e1, Option.bind_some, w64 (x := t - first) ht.1 ht.2, zig_f ht, Option.bind_some, e2, Option.bind_some, Option.bind_some]
  by_cases c : hk = true
  · rw [if_pos c, if_pos c, text_f key (by omega) K (by omega), Option.bind_some, if_pos (by simp), encode_j3 _ hk key hv val t o K (by omega) (by simp) (by simp; omega) (by omega)]
    simp
  · rw [if_neg c, if_neg c, encode_j3 _ hk key hv val t o K (by omega) (by simp) (by simp; omega) (by omega)]
    simp

theorem encode_f (hk : Bool) (key : ByteArray) (hv : Bool) (val : ByteArray) (t o first : Int) (k : Nat) (h : 40 ≤ k) (h0 : chk hk key hv val t o = 0) (hf : 0 ≤ first ∧ first ≤ 1125899906842624) :
    record_Encode.f k hk key hv val t o first = some (enc hk key hv val t o first, 0) := by
  obtain ⟨K, rfl⟩ : ∃ K, k = K + 1 + 1 := ⟨k - 2, by omega⟩
  have hc : ¬ odd hk key hv val t o ∧ ¬ (key.size > 2000 ∨ val.size > 2000) := by
    unfold chk at h0
    by_cases q : odd hk key hv val t o
    · rw [if_pos q] at h0; omega
    · rw [if_neg q] at h0
      refine ⟨q, fun r => ?_⟩
      rw [if_pos r] at h0; omega
  obtain ⟨ho, hs⟩ := hc
  unfold odd at ho
  have hh : 0 ≤ t ∧ t ≤ 1125899906842624 ∧ 0 ≤ o ∧ o < 100 := by omega
  unfold record_Encode.f
  rw [check_f _ hk key hv val t o (by omega), h0, Option.bind_some, if_pos rfl, if_neg (by omega), decide_eq_false (by omega)]
  simp only [record_Encode.j0]
  rw [if_neg (by simp)]
  have j := fun x => encode_j2 x first hk key hv val t o K (by omega) (by omega) (by omega) (by omega) (by omega)
  have g : ∀ x, record_Encode.j1 (K + 1) first x hk key hv val t o = some ((if hv = true then Go.bits .or .u8 x 2 else x) :: (vr o.toNat ++ (vr (zig (t - first)).toNat ++ ((if hk = true then txt key else []) ++ (if hv = true then txt val else [])))), 0) := by
    intro x
    simp only [record_Encode.j1]
    by_cases c : hv = true
    · rw [if_pos c, j]
      simp only [c, if_true]
    · rw [if_neg c, j]
      simp [c]
  rw [g, g, or01]
  unfold enc flags
  cases hk <;> cases hv <;> simp [or02, or12]

theorem encode_odd (hk : Bool) (key : ByteArray) (hv : Bool) (val : ByteArray) (t o first : Int) (k : Nat) (h : 40 ≤ k) (h0 : chk hk key hv val t o ≠ 0) :
    record_Encode.f k hk key hv val t o first = some ([], chk hk key hv val t o) := by
  unfold record_Encode.f
  rw [check_f _ hk key hv val t o (by omega), Option.bind_some, if_neg h0]
theorem encode_first (hk : Bool) (key : ByteArray) (hv : Bool) (val : ByteArray) (t o first : Int) (k : Nat) (h : 40 ≤ k) (h0 : chk hk key hv val t o = 0) (hf : ¬ (0 ≤ first ∧ first ≤ 1125899906842624)) :
    record_Encode.f k hk key hv val t o first = some ([], 1) := by
  obtain ⟨K, rfl⟩ : ∃ K, k = K + 1 := ⟨k - 1, by omega⟩
  unfold record_Encode.f
  rw [check_f _ hk key hv val t o (by omega), h0, Option.bind_some, if_pos rfl]
  have e : record_Encode.j0 (K + 1) first true hk key hv val t o = some ([], 1) := by
    simp only [record_Encode.j0]
    rw [if_pos (by trivial)]
  by_cases c : first < 0
  · rw [if_pos c]; exact e
  · rw [if_neg c, decide_eq_true (by omega)]; exact e

end Go.Proofs.Ytgmeellapjimgaa.Bp
