/- What is written is read, whatever stands behind; a record that is cut off is none; by another first time its time is moved. -/
import Derived.Test.YtcmkmjmhjjohkaaRecDec
import Derived.Test.YtcmkmjmhjjohkaaRecEncR
namespace Go.Proofs.Ytcmkmjmhjjohkaa.Bp
open Go Go.RowKit Go.Proofs.Ytcmkmjmhjjohkaa.PDec Go.Proofs.YtcmkmjmhjjohkaaW.PrintWords Go.Proofs.YtcmkmjmhjjohkaaW.PrintLast Go.Proofs.YtcmkmjmhjjohkaaW.PrintMore
set_option linter.unusedVariables false
set_option linter.unusedSimpArgs false

theorem strOfNums_bytesOf (s : ByteArray) : strOfNums (bytesOf s) = s := by
  cases s with
  | mk d =>
    unfold strOfNums bytesOf
    congr 1
    simp only [List.map_map]
    have : (d.toList.map ((fun n : Int => UInt8.ofNat n.toNat) ∘ fun b : UInt8 => (b.toNat : Int))) = d.toList := by
      conv => rhs; rw [← List.map_id d.toList]
      refine List.map_congr_left fun b _ => ?_
      simp
    rw [this]
theorem bytesOf_bytes (s : ByteArray) : Bytes (bytesOf s) := by
  intro x hx
  unfold bytesOf at hx
  obtain ⟨b, _, rfl⟩ := List.mem_map.1 hx
  have := b.toNat_lt
  omega
theorem toList_loop (bs : ByteArray) : ∀ (n i : Nat) (r : List UInt8), bs.size - i = n → ByteArray.toList.loop bs i r = r.reverse ++ bs.data.toList.drop i
  | 0, i, r, h => by
    rw [ByteArray.toList.loop, if_neg (by omega)]
    have : bs.data.toList.drop i = [] := List.drop_eq_nil_of_le (by rw [Array.length_toList]; show bs.size ≤ i; omega)
    rw [this, List.append_nil]
  | n + 1, i, r, h => by
    have hi : i < bs.data.size := by show i < bs.size; omega
    have e : bs.data.toList.drop i = bs.data[i] :: bs.data.toList.drop (i + 1) := List.drop_eq_getElem_cons (by rw [Array.length_toList]; exact hi)
    rw [ByteArray.toList.loop, if_pos (by omega), toList_loop bs n (i + 1) _ (by omega), List.reverse_cons, List.append_assoc, e]
    have e2 : bs.get! i = bs.data[i] := by unfold ByteArray.get!; exact getElem!_pos bs.data i hi
    rw [e2]
    rfl
theorem toList_data (bs : ByteArray) : bs.toList = bs.data.toList := by
  have := toList_loop bs _ 0 [] rfl
  simpa [ByteArray.toList] using this
theorem toList_nil {s : ByteArray} (h : s.toList = []) : s = ⟨#[]⟩ := by
  rw [toList_data] at h
  cases s with
  | mk d =>
    cases d with
    | mk l =>
      have : l = [] := h
      rw [this]
theorem toList_inj {a b : ByteArray} (h : a.toList = b.toList) : a = b := by
  rw [toList_data, toList_data] at h
  cases a with
  | mk x =>
    cases b with
    | mk y =>
      cases x with
      | mk x =>
        cases y with
        | mk y =>
          have : x = y := h
          rw [this]

/-- Drops at the end of a known beginning. -/
theorem drop_at {a b : List Int} {n : Nat} (h : n = a.length) : (a ++ b).drop n = b := by rw [h, List.drop_left]

theorem txR_there (pre rest : List Int) (s : ByteArray) (hs : s.size ≤ 1000000) (p : Int) (hp : p = (pre.length : Int)) : txR (pre ++ (txt s ++ rest)) p true = some (s, p + (txt s).length) := by
  subst hp
  have hv := unv_varint s.size (by omega) (bytesOf s ++ rest)
  have e : (pre ++ (txt s ++ rest)).drop ((pre.length : Int)).toNat = vr s.size ++ (bytesOf s ++ rest) := by
    rw [Int.toNat_natCast, List.drop_left]
    unfold txt
    rw [List.append_assoc]
  have hne : (vr s.size).length ≠ 0 := fun h => vr_ne s.size (List.eq_nil_of_length_eq_zero h)
  have hlt : (txt s).length = (vr s.size).length + s.size := by unfold txt; rw [List.length_append, bytesOf_len]
  unfold txR
  rw [e, hv, if_pos rfl]
  simp only
  rw [if_neg (by omega), if_neg (by simp only [List.length_append]; omega)]
  have e2 : (((pre ++ (txt s ++ rest)).take ((pre.length : Int) + ((vr s.size).length : Int) + (s.size : Int)).toNat).drop ((pre.length : Int) + ((vr s.size).length : Int)).toNat) = bytesOf s := by
    have h1 : ((pre.length : Int) + ((vr s.size).length : Int) + (s.size : Int)).toNat = (pre ++ txt s).length := by rw [List.length_append]; omega
    have h2 : ((pre.length : Int) + ((vr s.size).length : Int)).toNat = (pre ++ vr s.size).length := by rw [List.length_append]; omega
    rw [← List.append_assoc, h1, List.take_left, h2]
    unfold txt
    rw [← List.append_assoc, List.drop_left]
  rw [e2, strOfNums_bytesOf]
  congr 2
  omega
theorem txR_off (l : List Int) (p : Int) : txR l p false = some (⟨#[]⟩, p) := by unfold txR; rw [if_neg (by simp)]

theorem flags_range (hk hv : Bool) : 0 ≤ flags hk hv ∧ flags hk hv ≤ 3 := by cases hk <;> cases hv <;> decide
theorem flags_1 (hk hv : Bool) : decide (flags hk hv % 2 = 1) = hk := by cases hk <;> cases hv <;> decide
theorem flags_2 (hk hv : Bool) : decide (2 ≤ flags hk hv) = hv := by cases hk <;> cases hv <;> decide
theorem rd_cons0 (x : Int) (xs : List Int) : rd (x :: xs) 0 = x := rfl

/-- By any first time. -/
theorem dec_enc {hk : Bool} {key : ByteArray} {hv : Bool} {val : ByteArray} {t o first : Int} (h0 : chk hk key hv val t o = 0) (hf : 0 ≤ first ∧ first ≤ 1125899906842624) (other : Int) (hg : 0 ≤ other ∧ other ≤ 1125899906842624) (rest : List Int) :
    decS (enc hk key hv val t o first ++ rest) other = if t - first + other < 0 ∨ 1125899906842624 < t - first + other then none else some (hk, key, hv, val, t - first + other, o, ((enc hk key hv val t o first).length : Int)) := by
  have hc := chk_ok h0
  obtain ⟨c1, c2, c3, c4, c5, c6, c7, c8⟩ := hc
  have hz := zig_range (n := t - first) (by omega)
  have u1 := unv_varint o.toNat (by omega)
  have u2 := unv_varint (zig (t - first)).toNat (by omega)
  have n1 : (vr o.toNat).length ≠ 0 := fun h => vr_ne o.toNat (List.eq_nil_of_length_eq_zero h)
  have n2 : (vr (zig (t - first)).toNat).length ≠ 0 := fun h => vr_ne _ (List.eq_nil_of_length_eq_zero h)
  have l1 := vr_len 9 o.toNat (by omega)
  have l2 := vr_len 9 (zig (t - first)).toNat (by omega)
  have fr := flags_range hk hv
  generalize hA : vr o.toNat = A at u1 n1 l1
  generalize hB : vr (zig (t - first)).toNat = B at u2 n2 l2
  -- the bytes
  have hl : enc hk key hv val t o first ++ rest = flags hk hv :: (A ++ (B ++ ((if hk = true then txt key else []) ++ ((if hv = true then txt val else []) ++ rest)))) := by
    unfold enc
    rw [hA, hB]
    simp
  have hlen : (enc hk key hv val t o first).length = 1 + A.length + B.length + (if hk = true then txt key else []).length + (if hv = true then txt val else []).length := by
    unfold enc
    rw [hA, hB]
    simp only [List.length_cons, List.length_append]
    omega
  rw [hl, hlen]
  generalize hT : (if hk = true then txt key else []) = T
  generalize hU : (if hv = true then txt val else []) = U
  generalize hL : flags hk hv :: (A ++ (B ++ (T ++ (U ++ rest)))) = L
  have e0 : rd L 0 = flags hk hv := by rw [← hL]; rfl
  have d1 : L.drop 1 = A ++ (B ++ (T ++ (U ++ rest))) := by rw [← hL]; rfl
  have d2 : L.drop (1 + (A.length : Int)).toNat = B ++ (T ++ (U ++ rest)) := by
    rw [← hL, show (1 + (A.length : Int)).toNat = A.length + 1 from by omega, List.drop_succ_cons, List.drop_left]
  have hL0 : L.length ≠ 0 := by rw [← hL]; simp
  unfold decS
  rw [e0, if_neg (by omega), d1, u1]
  simp only
  rw [if_neg (by omega), d2, u2]
  simp only
  have ez : zag ((zig (t - first)).toNat : Int) = t - first := by rw [Int.toNat_of_nonneg hz.1, zag_zig]
  rw [ez]
  by_cases q : t - first + other < 0 ∨ 1125899906842624 < t - first + other
  · rw [if_pos q, if_pos (by omega)]
  · rw [if_neg q, if_neg (by omega), flags_1, flags_2]
    have x1 : txR L (1 + (A.length : Int) + (B.length : Int)) hk = some (key, 1 + (A.length : Int) + (B.length : Int) + (T.length : Int)) := by
      cases hk with
      | false =>
        rw [if_neg (by simp)] at hT
        rw [txR_off, ← hT, toList_nil (c1 rfl)]
        simp
      | true =>
        rw [if_pos rfl] at hT
        have := txR_there (flags true hv :: (A ++ B)) (U ++ rest) key (by omega) (1 + (A.length : Int) + (B.length : Int)) (by simp only [List.length_cons, List.length_append]; omega)
        rw [← hL, ← hT]
        simpa using this
    have x2 : txR L (1 + (A.length : Int) + (B.length : Int) + (T.length : Int)) hv = some (val, 1 + (A.length : Int) + (B.length : Int) + (T.length : Int) + (U.length : Int)) := by
      cases hv with
      | false =>
        rw [if_neg (by simp)] at hU
        rw [txR_off, ← hU, toList_nil (c2 rfl)]
        simp
      | true =>
        rw [if_pos rfl] at hU
        have := txR_there (flags hk true :: (A ++ (B ++ T))) rest val (by omega) (1 + (A.length : Int) + (B.length : Int) + (T.length : Int)) (by simp only [List.length_cons, List.length_append]; omega)
        rw [← hL, ← hU]
        simpa using this
    rw [x1, Option.bind_some, x2, Option.bind_some, if_neg (by simp only; omega), Int.toNat_of_nonneg c5]
    congr 6
    omega

/-- More bytes behind a record do not matter. -/
theorem txR_app {l : List Int} (hb : Bytes l) (rest : List Int) {p : Int} (h0 : 0 ≤ p) (h1 : p ≤ (l.length : Int)) {is : Bool} {s : ByteArray} {q : Int} (h : txR l p is = some (s, q)) : txR (l ++ rest) p is = some (s, q) := by
  have hr := txR_range hb h0 h1 h
  have hu := unv0_range (hb.drop p.toNat)
  unfold txR at h ⊢
  by_cases c : is = true
  · rw [if_pos c] at h ⊢
    rw [List.drop_append_of_le_length (by omega)]
    by_cases d : (unv (l.drop p.toNat) 0 0).2 = 0
    · rw [if_pos d] at h; cases h
    rw [unv_app rest _ 0 0 d]
    rw [if_neg d] at h ⊢
    by_cases e : (l.length : Int) - (p + (unv (l.drop p.toNat) 0 0).2) < (unv (l.drop p.toNat) 0 0).1
    · rw [if_pos e] at h; cases h
    rw [if_neg e] at h
    rw [if_neg (by rw [List.length_append]; omega), List.take_append_of_le_length (by omega)]
    exact h
  · rw [if_neg c] at h ⊢
    exact h
theorem decS_range {l : List Int} (hb : Bytes l) {first : Int} {hk : Bool} {key : ByteArray} {hv : Bool} {val : ByteArray} {t o n : Int} (h : decS l first = some (hk, key, hv, val, t, o, n)) : 3 ≤ n ∧ n ≤ (l.length : Int) := by
  unfold decS at h
  split at h
  · cases h
  rename_i c0
  split at h
  · cases h
  rename_i c1
  split at h
  · cases h
  rename_i c2
  have ra := unv0_range (hb.drop 1)
  rw [List.length_drop] at ra
  have rb := unv0_range (hb.drop ((1 + (unv (l.drop 1) 0 0).2).toNat))
  rw [List.length_drop] at rb
  obtain ⟨⟨x, p⟩, e1, h⟩ := Option.bind_eq_some_iff.mp h
  obtain ⟨⟨y, q⟩, e2, h⟩ := Option.bind_eq_some_iff.mp h
  have r1 := txR_range hb (by omega) (by omega) e1
  have r2 := txR_range hb (by omega) (by omega) e2
  split at h
  · cases h
  simp only [Option.some.injEq, Prod.mk.injEq] at h
  omega
theorem decS_app {l : List Int} (hb : Bytes l) (rest : List Int) {first : Int} {r : Bool × ByteArray × Bool × ByteArray × Int × Int × Int} (h : decS l first = some r) : decS (l ++ rest) first = some r := by
  unfold decS at h ⊢
  by_cases c0 : l.length = 0 ∨ 3 < rd l 0 ∨ first < 0 ∨ 1125899906842624 < first
  · rw [if_pos c0] at h; cases h
  rw [if_neg c0] at h
  have er : rd (l ++ rest) 0 = rd l 0 := by
    cases l with
    | nil => simp at c0
    | cons x xs => rfl
  have ra := unv0_range (hb.drop 1)
  rw [List.length_drop] at ra
  rw [er, if_neg (by rw [List.length_append]; omega), List.drop_append_of_le_length (by omega)]
  by_cases c1 : (unv (l.drop 1) 0 0).2 = 0 ∨ 100 ≤ (unv (l.drop 1) 0 0).1
  · rw [if_pos c1] at h; cases h
  rw [if_neg c1] at h
  have rb := unv0_range (hb.drop ((1 + (unv (l.drop 1) 0 0).2).toNat))
  rw [List.length_drop] at rb
  rw [unv_app rest _ 0 0 (by omega), if_neg c1, List.drop_append_of_le_length (by omega)]
  split at h
  · cases h
  rename_i c2
  rw [unv_app rest _ 0 0 (by omega), if_neg c2]
  obtain ⟨⟨x, p⟩, e1, h⟩ := Option.bind_eq_some_iff.mp h
  obtain ⟨⟨y, q⟩, e2, h⟩ := Option.bind_eq_some_iff.mp h
  have r1 := txR_range hb (by omega) (by omega) e1
  rw [txR_app hb rest (by omega) (by omega) e1, Option.bind_some, txR_app hb rest (by omega) (by omega) e2, Option.bind_some]
  exact h
/-- A record that is cut off is none. -/
theorem dec_cut {hk : Bool} {key : ByteArray} {hv : Bool} {val : ByteArray} {t o first : Int} (h0 : chk hk key hv val t o = 0) (hf : 0 ≤ first ∧ first ≤ 1125899906842624) (j : Nat) (hj : j < (enc hk key hv val t o first).length) (hb : Bytes (enc hk key hv val t o first)) :
    decS ((enc hk key hv val t o first).take j) first = none := by
  cases e : decS ((enc hk key hv val t o first).take j) first with
  | none => rfl
  | some r =>
    exfalso
    have e2 := decS_app (hb.take j) ((enc hk key hv val t o first).drop j) e
    rw [List.take_append_drop] at e2
    have e3 := dec_enc h0 hf first hf []
    rw [List.append_nil, e2] at e3
    have hc := chk_ok h0
    rw [if_neg (by omega)] at e3
    obtain ⟨hk', key', hv', val', t', o', n'⟩ := r
    have hr := decS_range (hb.take j) e
    rw [List.length_take] at hr
    simp only [Option.some.injEq, Prod.mk.injEq] at e3
    omega
theorem txt_bytes (s : ByteArray) : Bytes (txt s) := (vr_bytes _).append (bytesOf_bytes s)
theorem enc_bytes (hk : Bool) (key : ByteArray) (hv : Bool) (val : ByteArray) (t o first : Int) : Bytes (enc hk key hv val t o first) := by
  have h1 : Bytes (if hk = true then txt key else []) := by split; exact txt_bytes _; intro x hx; simp at hx
  have h2 : Bytes (if hv = true then txt val else []) := by split; exact txt_bytes _; intro x hx; simp at hx
  have := flags_range hk hv
  intro x hx
  rcases List.mem_cons.1 hx with rfl | hx
  · omega
  · exact ((vr_bytes _).append ((vr_bytes _).append (h1.append h2))) x hx

end Go.Proofs.Ytcmkmjmhjjohkaa.Bp
