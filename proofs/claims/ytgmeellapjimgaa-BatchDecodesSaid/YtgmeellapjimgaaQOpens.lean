/- What the document's Decode of a batch comes to: the batch that the bytes begin with, or none. -/
import Derived.Test.YtgmeellapjimgaaQRvrO
import Derived.Test.YtgmeellapjimgaaQPBdx14
import Derived.Test.YtgmeellapjimgaaQRecRDecO
import Derived.ChangeArms
import Derived.Deep.Slices
import Derived.DataReads
import Derived.SizedLaws
import Derived.WideShapes
import Derived.Test.YtgmeellapjimgaaQWMore
namespace Go.Proofs.Ytgmeellapjimgaa.Bp
open Go Go.RowKit Go.Proofs.Ytgmeellapjimgaa.PBd Go.Proofs.YtgmeellapjimgaaW.PrintWords Go.Proofs.YtgmeellapjimgaaW.PrintLast Go.Proofs.YtgmeellapjimgaaW.PrintMore
set_option linter.unusedVariables false
set_option linter.unusedSimpArgs false

theorem rfin_back {l : List Int} {b s p q : Int} {x : List S45} {n : Int} (h : IsB l b s p q x n) (k : Nat) (hk : 20000000 ≤ k) : bollardref12_DecodeG.fin k l n n b s p q x = some (b, s, p, q, x, n, 0) := by
  have hc := off_count (chkB_ok h.ok).1 (chkB_ok h.ok).2.1
  unfold bollardref12_DecodeG.fin
  rw [rencodeB_f b s p q x (by omega) k hk, Option.bind_some]
  unfold encB
  rw [if_pos h.ok]
  dsimp only
  rw [if_pos rfl, if_pos rfl, h.eq, if_pos rfl]
theorem rloop_back {l : List Int} (hl : l.length ≤ 1000000) {b s p q : Int} {x : List S45} {n : Int} (h : IsB l b s p q x n) : ∀ (suf pre : List S45) (k : Nat), x = pre ++ suf → 20020000 + suf.length ≤ k →
    bollardref12_DecodeG.l0 k l n (x.length : Int) (rd_T45 x 0).f4 b s p q (48 + ((flat (rd_T45 x 0).f4 pre).length : Int)) (pre.length : Int) pre = some (b, s, p, q, x, n, 0) := by
  obtain ⟨ho, hall, hbig⟩ := chkB_ok h.ok
  have hcount := off_count ho hall
  have h0 : 0 < x.length := Nat.pos_of_ne_zero ho.2.2.2.2.2.2.1
  have hf := first_ok h0 hall
  have hn := isB_len h
  intro suf
  induction suf with
  | nil =>
    intro pre k hx hk
    obtain ⟨K, rfl⟩ : ∃ K, k = K + 1 := ⟨k - 1, by omega⟩
    rw [List.append_nil] at hx
    subst hx
    rw [bollardref12_DecodeG.l0, if_neg (by omega), show 48 + ((flat (rd_T45 x 0).f4 x).length : Int) = n by omega]
    exact rfin_back h K (by omega)
  | cons y suf ih =>
    intro pre k hx hk
    obtain ⟨K, rfl⟩ : ∃ K, k = K + 1 := ⟨k - 1, by omega⟩
    have hy : chkS y = 0 := hall y (by rw [hx]; simp)
    have hbe := behind h hx
    have hfx : (flat (rd_T45 x 0).f4 x).length = (flat (rd_T45 x 0).f4 pre).length + ((encS (rd_T45 x 0).f4 y).length + (flat (rd_T45 x 0).f4 suf).length) := by
      have e_ : flat (rd_T45 x 0).f4 x = flat (rd_T45 x 0).f4 pre ++ (encS (rd_T45 x 0).f4 y ++ flat (rd_T45 x 0).f4 suf) := by rw [← flat_cons, ← flat_append, ← hx]
      rw [e_, List.length_append, List.length_append]
    have hxl : x.length = pre.length + (suf.length + 1) := by rw [hx, List.length_append, List.length_cons]
    simp only [List.length_cons] at hk
    rw [bollardref12_DecodeG.l0, if_pos (by omega), if_pos (by omega), show (48 + ((flat (rd_T45 x 0).f4 pre).length : Int)).toNat = 48 + (flat (rd_T45 x 0).f4 pre).length by omega, hbe, flat_cons,
      rdecode_f (app_bytes (encS_bytes _ _) (flat_bytes _ _)) (by rw [List.length_append]; omega) _ (by omega) K (by rw [List.length_append]; omega), rec_next hf hy, Option.bind_some]
    unfold outR
    dsimp only
    rw [if_pos rfl, if_pos (by omega)]
    have e : wrap64 (48 + ((flat (rd_T45 x 0).f4 pre).length : Int) + ((encS (rd_T45 x 0).f4 y).length : Int)) = 48 + ((flat (rd_T45 x 0).f4 (pre ++ [y])).length : Int) := by
      rw [flat_append, show flat (rd_T45 x 0).f4 [y] = encS (rd_T45 x 0).f4 y from by unfold flat; simp, List.length_append]
      unfold wrap64
      omega
    have e2 : wrap64 ((pre.length : Int) + 1) = (((pre ++ [y]).length : Nat) : Int) := by
      rw [List.length_append, List.length_cons, List.length_nil]
      unfold wrap64
      omega
    rw [e, e2]
    exact ih (pre ++ [y]) K (by rw [hx]; simp) (by omega)
theorem rfin_good {l : List Int} (hb : Bytes l) {b s p q : Int} {x : List S45} {n i : Int} (hx : x.length ≤ 3000) (h0 : 0 ≤ n) (h1 : n ≤ (l.length : Int)) (hp : p ≤ 9223372036854775807) (hq : q ≤ 9223372036854775807) (k : Nat) (hk : 20000000 ≤ k) : ∃ r, bollardref12_DecodeG.fin k l n i b s p q x = some r ∧ GoodB l r := by
  unfold bollardref12_DecodeG.fin
  rw [rencodeB_f b s p q x hx k hk, Option.bind_some]
  unfold encB
  by_cases hc : chkB b s p q x = 0
  · rw [if_pos hc]
    dsimp only
    rw [if_pos rfl]
    by_cases hi : i = n
    · rw [if_pos hi]
      by_cases he : (strOfNums (bytesB b s p q x)).toList = (strOfNums (l.take n.toNat)).toList
      · rw [if_pos he]
        have he := (strs_eq (bytesB_bytes _ _ _ _ _) (take_bytes hb _)).1 he
        refine ⟨_, rfl, .inr ⟨rfl, ⟨hc, ?_, h1, he.symm, hp, hq⟩⟩⟩
        show n = _
        rw [he, List.length_take]
        omega
      · rw [if_neg he]
        exact ⟨_, rfl, .inl rfl⟩
    · rw [if_neg hi]
      exact ⟨_, rfl, .inl rfl⟩
  · rw [if_neg hc]
    dsimp only
    rw [if_neg hc]
    exact ⟨_, rfl, .inl rfl⟩
theorem rloop_good {l : List Int} (hb : Bytes l) {b s p q n first : Int} {cn : Nat} (h1 : n ≤ (l.length : Int)) (h2 : n ≤ 6012) (hc : cn ≤ 100) (hf : 0 ≤ first ∧ first ≤ 1125899906842624) (hp : p ≤ 9223372036854775807) (hq : q ≤ 9223372036854775807) (d : Nat) : ∀ (k j : Nat) (i : Int) (x : List S45), j + d = cn → x.length = j → 48 ≤ i → i ≤ n → 20010000 + d ≤ k →
    ∃ r, bollardref12_DecodeG.l0 k l n (cn : Int) first b s p q i (j : Int) x = some r ∧ GoodB l r := by
  induction d with
  | zero =>
    intro k j i x hj hx ha hn hk
    obtain ⟨K, rfl⟩ : ∃ K, k = K + 1 := ⟨k - 1, by omega⟩
    rw [bollardref12_DecodeG.l0, if_neg (by omega)]
    exact rfin_good hb (by omega) (by omega) h1 hp hq K (by omega)
  | succ d ih =>
    intro k j i x hj hx ha hn hk
    obtain ⟨K, rfl⟩ : ∃ K, k = K + 1 := ⟨k - 1, by omega⟩
    have hseg : ((l.take n.toNat).drop i.toNat).length = (n - i).toNat := by rw [List.length_drop, List.length_take]; omega
    have hsb := drop_bytes (take_bytes hb n.toNat) i.toNat
    rw [bollardref12_DecodeG.l0, if_pos (by omega), if_pos (by omega), rdecode_f hsb (by omega) _ (by omega) K (by omega), Option.bind_some]
    cases hd_ : decS ((l.take n.toNat).drop i.toNat) first with
    | none => exact ⟨_, rfl, .inl rfl⟩
    | some r =>
      obtain ⟨hk_, key, hv, val, t, o, m⟩ := r
      have hr := decS_range hsb hd_
      unfold outR
      dsimp only
      rw [if_pos rfl, if_pos (by omega), w64 (x := i + m) (by omega) (by omega), show wrap64 ((j : Int) + 1) = ((j + 1 : Nat) : Int) from by unfold wrap64; omega]
      exact ih K (j + 1) _ _ (by omega) (by rw [List.length_append, hx]; rfl) (by omega) (by omega) (by omega)
/-- What huge may tell of bytes. -/
def GoodH (H_ : Nat → List Int → Int → Int → Int → Int → Option RB) (l : List Int) : Prop := ∀ k, 20040000 ≤ k → 48 ≤ l.length → ∃ r, H_ k l (get l 0 8 true) (get l 8 4 true) (get l 16 8 true) (get l 24 8 true) = some r ∧ GoodB l r
def BackH (H_ : Nat → List Int → Int → Int → Int → Int → Option RB) (l : List Int) : Prop := ∀ k, 20040000 ≤ k → ∀ b s p q x n, IsB l b s p q x n → 4611686018427387904 < p ∨ 4611686018427387904 < q → H_ k l b (n - 12) p q = some (b, s, p, q, x, n, 0)
theorem rgets {l : List Int} (hb : Bytes l) (hl : l.length ≤ 1000000) (h : 48 ≤ l.length) (H_ : Nat → List Int → Int → Int → Int → Int → Option RB) (k : Nat) (hk : 20040000 ≤ k) : bollardref12_DecodeG.f H_ k l =
    if bollardref12_DecodeG.early l (get l 0 8 true) (get l 8 4 true) (get l 16 8 true) (get l 24 8 true) (get l 32 4 true) (get l 36 4 true) (get l 40 8 true) then H_ k l (get l 0 8 true) (get l 8 4 true) (get l 16 8 true) (get l 24 8 true)
    else bollardref12_DecodeG.l0 k l (12 + get l 8 4 true) (get l 36 4 true) (get l 40 8 true) (get l 0 8 true) (get l 32 4 true) (get l 16 8 true) (get l 24 8 true) 48 0 [] := by
  have G := fun (a w : Nat) (h1 : 1 ≤ w) (h8 : w ≤ 8) (h : a + w ≤ l.length) => rget_f l hb (by omega) a w true h1 h8 h k (by omega)
  have r0 := get_range hb 0 8 true
  have r8 := get_range hb 8 4 true
  have r16 := get_range hb 16 8 true
  have r24 := get_range hb 24 8 true
  have r32 := get_range hb 32 4 true
  have r36 := get_range hb 36 4 true
  have r40 := get_range hb 40 8 true
  unfold bollardref12_DecodeG.f
  rw [if_neg (by omega), show bollardref1_Get.f k l 0 8 true = _ from G 0 8 (by omega) (by omega) (by omega), Option.bind_some, show bollardref1_Get.f k l 8 4 true = _ from G 8 4 (by omega) (by omega) (by omega), Option.bind_some, show bollardref1_Get.f k l 16 8 true = _ from G 16 8 (by omega) (by omega) (by omega), Option.bind_some, show bollardref1_Get.f k l 24 8 true = _ from G 24 8 (by omega) (by omega) (by omega), Option.bind_some,
    show bollardref1_Get.f k l 32 4 true = _ from G 32 4 (by omega) (by omega) (by omega), Option.bind_some, show bollardref1_Get.f k l 36 4 true = _ from G 36 4 (by omega) (by omega) (by omega), Option.bind_some, show bollardref1_Get.f k l 40 8 true = _ from G 40 8 (by omega) (by omega) (by omega), Option.bind_some]
  dsimp only
  rw [if_pos ⟨r0.1, r8.1, r16.1, r24.1, r32.1, r36.1, r40.1⟩]
theorem rdec_good {l : List Int} (hb : Bytes l) (hl : l.length ≤ 1000000) {H_ : Nat → List Int → Int → Int → Int → Int → Option RB} (HG : GoodH H_ l) (k : Nat) (hk : 20040000 ≤ k) : ∃ r, bollardref12_DecodeG.f H_ k l = some r ∧ GoodB l r := by
  by_cases c0 : (l.length : Int) < 48
  · unfold bollardref12_DecodeG.f
    rw [if_pos c0]
    exact ⟨_, rfl, .inl rfl⟩
  rw [rgets hb hl (by omega) H_ k hk]
  by_cases c1 : bollardref12_DecodeG.early l (get l 0 8 true) (get l 8 4 true) (get l 16 8 true) (get l 24 8 true) (get l 32 4 true) (get l 36 4 true) (get l 40 8 true)
  · rw [if_pos c1]
    exact HG k hk (by omega)
  · rw [if_neg c1]
    have r40 := get_range hb 40 8 true
    unfold bollardref12_DecodeG.early at c1
    obtain ⟨cn, hcn⟩ : ∃ cn : Nat, get l 36 4 true = (cn : Int) := ⟨(get l 36 4 true).toNat, by omega⟩
    rw [hcn]
    exact rloop_good hb (cn := cn) (by omega) (by omega) (by omega) (by omega) (by omega) (by omega) cn k 0 48 [] (by omega) rfl (by omega) (by omega) (by omega)
theorem rdec_back {l : List Int} (hb : Bytes l) (hl : l.length ≤ 1000000) {H_ : Nat → List Int → Int → Int → Int → Int → Option RB} (HB : BackH H_ l) {b s p q : Int} {x : List S45} {n : Int} (h : IsB l b s p q x n) (k : Nat) (hk : 20040000 ≤ k) : bollardref12_DecodeG.f H_ k l = some (b, s, p, q, x, n, 0) := by
  obtain ⟨ho, hall, hbig⟩ := chkB_ok h.ok
  have hcount := off_count ho hall
  have h0 : 0 < x.length := Nat.pos_of_ne_zero ho.2.2.2.2.2.2.1
  have hf := first_ok h0 hall
  have hn := isB_len h
  have hle := h.le
  obtain ⟨g0, g8, g16, g24, g32, g36, g40⟩ := isB_gets h
  obtain ⟨o1, o2, o3, o4, o5, o6, -, -⟩ := ho
  rw [rgets hb hl (by omega) H_ k hk, g0, g8, g16, g24, g32, g36, g40]
  by_cases c1 : 4611686018427387904 < p ∨ 4611686018427387904 < q
  · rw [if_pos (by unfold bollardref12_DecodeG.early; omega)]
    have := HB k hk b s p q x n h c1
    rw [show n - 12 = ((bodyB s p q x).length : Int) + 4 by omega] at this
    exact this
  · rw [if_neg (by unfold bollardref12_DecodeG.early; omega), show 12 + (((bodyB s p q x).length : Int) + 4) = n by omega]
    exact rloop_back hl h x [] k rfl (by omega)
/-- Without a great producer or Seq huge refuses. -/
theorem huge_small (S_ : Nat → List Int → Int → Option RB) {l : List Int} (hl : 48 ≤ l.length) {a n p q : Int} (hn : 0 ≤ n) (hp : 0 ≤ p ∧ p ≤ 4611686018427387904) (hq : 0 ≤ q ∧ q ≤ 4611686018427387904) (k : Nat) : bollardref12_hugeG.f S_ k l a n p q = some badB := by
  unfold bollardref12_hugeG.f
  rw [if_pos (by omega), if_pos (by unfold bollardref12_hugeG.no; omega)]
  rfl
theorem zset_get (l : List Int) : ∀ (m p : Nat), 16 + m ≤ l.length → (zset l m)[p]? = if 16 ≤ p ∧ p < 16 + m then some 0 else l[p]?
  | 0, p, h => by rw [if_neg (by omega)]; rfl
  | m + 1, p, h => by
    rw [zset, List.getElem?_set]
    by_cases e : 16 + m = p
    · subst e
      rw [if_pos rfl, if_pos (by rw [zset_len]; omega), if_pos (by omega)]
    · rw [if_neg e, zset_get l m p (by omega)]
      by_cases d : 16 ≤ p ∧ p < 16 + m
      · rw [if_pos d, if_pos (by omega)]
      · rw [if_neg d, if_neg (by omega)]
theorem zset_16 {A B C : List Int} (hA : A.length = 16) (hB : B.length = 16) : zset (A ++ (B ++ C)) 16 = A ++ (Z 16 ++ C) := by
  refine List.ext_getElem? fun p => ?_
  rw [zset_get _ _ _ (by simp only [List.length_append]; omega)]
  by_cases c : p < 16
  · rw [if_neg (by omega), List.getElem?_append_left (by omega), List.getElem?_append_left (by omega)]
  · have e1 : (A ++ (B ++ C))[p]? = (B ++ C)[p - 16]? := by rw [List.getElem?_append_right (by omega), hA]
    have e2 : (A ++ (Z 16 ++ C))[p]? = (Z 16 ++ C)[p - 16]? := by rw [List.getElem?_append_right (by omega), hA]
    rw [e1, e2]
    by_cases d : p - 16 < 16
    · rw [if_pos (by omega), List.getElem?_append_left (by rw [Z_len]; exact d)]
      unfold Z
      rw [List.getElem?_replicate, if_pos d]
    · rw [if_neg (by omega), List.getElem?_append_right (by omega), List.getElem?_append_right (by rw [Z_len]; omega), hB, Z_len]
/-- The bytes that smaller reads. -/
def smz (l : List Int) : List Int := lay (zset l 16) 12 4 (fun j => dg (Crc.crc ((zset l 16).drop 16)).toNat (wh 4 true j))
theorem parts {l : List Int} (h : 32 ≤ l.length) : ∃ A B C, l = A ++ (B ++ C) ∧ A.length = 16 ∧ B.length = 16 :=
  ⟨l.take 16, (l.drop 16).take 16, (l.drop 16).drop 16, by rw [List.take_append_drop, List.take_append_drop], by rw [List.length_take]; omega, by rw [List.length_take, List.length_drop]; omega⟩
theorem zset_bytes {l : List Int} (hb : Bytes l) (h : 32 ≤ l.length) : Bytes (zset l 16) := by
  obtain ⟨A, B, C, rfl, hA, hB⟩ := parts h
  rw [zset_16 hA hB]
  refine app_bytes (fun x hx => hb x (by simp [hx])) (app_bytes (fun x hx => ?_) (fun x hx => hb x (by simp [hx])))
  unfold Z at hx
  obtain rfl := List.eq_of_mem_replicate hx
  omega
theorem smaller_f {l : List Int} (hb : Bytes l) (hl : l.length ≤ 1000000) {n : Int} (h0 : 36 ≤ n) (h1 : 12 + n ≤ (l.length : Int)) (k : Nat) (hk : 20000000 ≤ k) : bollardref12_smaller.f k l n = bollardref12_DecodeBatch0.f k (smz (l.take (12 + n).toNat)) := by
  have htl : (l.take (12 + n).toNat).length = (12 + n).toNat := by rw [List.length_take]; omega
  have hzb := zset_bytes (take_bytes hb (12 + n).toNat) (by omega)
  have hzl := zset_len (l.take (12 + n).toNat) 16
  have hc := crc_rng ((zset (l.take (12 + n).toNat) 16).drop 16)
  unfold bollardref12_smaller.f
  rw [if_pos (by omega), Crc.rsum_f _ (by rw [List.length_drop]; omega) k (by rw [List.length_drop]; omega), Option.bind_some, if_pos hc]
  have hp := rput_f (zset (l.take (12 + n).toNat) 16) hzb (by omega) 12 4 (Crc.crc ((zset (l.take (12 + n).toNat) 16).drop 16)).toNat true (by omega) (by omega) (by omega) k (by omega)
  rw [show (((Crc.crc ((zset (l.take (12 + n).toNat) 16).drop 16)).toNat : Nat) : Int) = Crc.crc ((zset (l.take (12 + n).toNat) 16).drop 16) by omega] at hp
  rw [show bollardref1_Put.f k (zset (l.take (12 + n).toNat) 16) 12 4 true _ = _ from hp, Option.bind_some]
  rfl
theorem smz_len {l : List Int} (h : 32 ≤ l.length) : (smz l).length = l.length := by
  unfold smz
  rw [lay_length _ _ _ _ (by rw [zset_len]; omega), zset_len]
theorem smz_bytes {l : List Int} (hb : Bytes l) (h : 32 ≤ l.length) : Bytes (smz l) := lay_bytes _ _ _ _ (zset_bytes hb h) (fun _ => dg_byte _ _)
theorem smz_eq {A4 S4 B C : List Int} (hA : A4.length = 12) (hS : S4.length = 4) (hB : B.length = 16) : smz (A4 ++ (S4 ++ (B ++ C))) = A4 ++ (beL (Crc.crc (Z 16 ++ C)).toNat 4 ++ (Z 16 ++ C)) := by
  have e : zset (A4 ++ (S4 ++ (B ++ C))) 16 = A4 ++ (S4 ++ (Z 16 ++ C)) := by
    have := zset_16 (A := A4 ++ S4) (B := B) (C := C) (by rw [List.length_append]; omega) hB
    simpa [List.append_assoc] using this
  unfold smz
  rw [e, show (A4 ++ (S4 ++ (Z 16 ++ C))).drop 16 = Z 16 ++ C from by rw [← List.append_assoc]; exact drop_all _ _ _ (by rw [List.length_append]; omega)]
  unfold lay
  rw [range_big, take_all _ _ _ hA, show (A4 ++ (S4 ++ (Z 16 ++ C))).drop (12 + 4) = Z 16 ++ C from by rw [← List.append_assoc]; exact drop_all _ _ _ (by rw [List.length_append]; omega)]
theorem smz_gets {l : List Int} (h : 48 ≤ l.length) : get (smz l) 16 8 true = 0 ∧ get (smz l) 24 8 true = 0 := by
  obtain ⟨A, B, C, rfl, hA, hB⟩ := parts (l := l) (by omega)
  have e : A ++ (B ++ C) = A.take 12 ++ (A.drop 12 ++ (B ++ C)) := by rw [← List.append_assoc (A.take 12), List.take_append_drop]
  rw [e, smz_eq (by rw [List.length_take]; omega) (by rw [List.length_drop]; omega) hB]
  have t : A.take 12 ++ (beL (Crc.crc (Z 16 ++ C)).toNat 4 ++ (Z 16 ++ C)) = (A.take 12 ++ beL (Crc.crc (Z 16 ++ C)).toNat 4) ++ (Z 16 ++ C) := by rw [List.append_assoc]
  rw [t]
  have hl : (A.take 12 ++ beL (Crc.crc (Z 16 ++ C)).toNat 4).length = 16 := by rw [List.length_append, beL_length, List.length_take]; omega
  generalize A.take 12 ++ beL (Crc.crc (Z 16 ++ C)).toNat 4 = X at hl
  unfold get
  rw [if_pos rfl, if_pos rfl, drop_all X _ 16 hl, show (X ++ (Z 16 ++ C)).drop 24 = Z 8 ++ C from by rw [show X ++ (Z 16 ++ C) = (X ++ Z 8) ++ (Z 8 ++ C) from by simp [Z]]; exact drop_all _ _ _ (by rw [List.length_append, hl]; rfl)]
  exact ⟨by rw [show Z 16 ++ C = Z 8 ++ (Z 8 ++ C) from by simp [Z], take_all _ _ _ (Z_len 8)]; rfl, by rw [take_all _ _ _ (Z_len 8)]; rfl⟩
theorem decB0_good {l : List Int} (hb : Bytes l) (hl : l.length ≤ 1000000) (hp : get l 16 8 true = 0) (hq : get l 24 8 true = 0) (k : Nat) (hk : 20040000 ≤ k) : ∃ r, bollardref12_DecodeBatch0.f k l = some r ∧ GoodB l r :=
  rdec_good hb hl (fun k hk h48 => ⟨badB, by rw [hp, hq]; exact huge_small _ h48 (get_range hb 8 4 true).1 (by omega) (by omega) k, .inl rfl⟩) k hk
theorem decB0_back {l : List Int} (hb : Bytes l) (hl : l.length ≤ 1000000) {b s : Int} {x : List S45} {n : Int} (h : IsB l b s 0 0 x n) (k : Nat) (hk : 20040000 ≤ k) : bollardref12_DecodeBatch0.f k l = some (b, s, 0, 0, x, n, 0) :=
  rdec_back hb hl (fun k hk b2 s2 p2 q2 x2 n2 h2 hg => by
    have := isB_one hb hl h h2
    simp only [Prod.mk.injEq] at this
    omega) h k hk
theorem beL_zero : ∀ n, beL 0 n = Z n
  | 0 => rfl
  | n + 1 => by
    rw [beL, beL_zero n]
    unfold dg Z
    simp [List.replicate_succ]
theorem smz_batch {l : List Int} {b s p q : Int} {x : List S45} {n : Int} (h : IsB l b s p q x n) : smz (l.take n.toNat) = bytesB b s 0 0 x := by
  rw [h.eq]
  have e : bytesB b s p q x = (beL (U b) 8 ++ beL (U (((bodyB s p q x).length : Int) + 4)) 4) ++ (beL (U (Crc.crc (bodyB s p q x))) 4 ++ ((beL (U p) 8 ++ beL (U q) 8) ++ (beL (U s) 4 ++ (beL (U (x.length : Int)) 4 ++ (beL (U (rd_T45 x 0).f4) 8 ++ flat (rd_T45 x 0).f4 x))))) := by
    unfold bytesB
    rw [show bodyB s p q x = bodyH s p q (x.length : Int) (rd_T45 x 0).f4 ++ flat (rd_T45 x 0).f4 x from rfl]
    unfold bodyH
    simp [List.append_assoc]
  have e0 : bodyB s 0 0 x = Z 16 ++ (beL (U s) 4 ++ (beL (U (x.length : Int)) 4 ++ (beL (U (rd_T45 x 0).f4) 8 ++ flat (rd_T45 x 0).f4 x))) := by
    unfold bodyB bodyH
    rw [show U 0 = 0 from by decide, beL_zero]
    simp [List.append_assoc, Z]
  rw [e, smz_eq (by simp only [List.length_append, beL_length]) (by rw [beL_length]) (by simp only [List.length_append, beL_length]), ← e0]
  unfold bytesB
  have hc := crc_rng (bodyB s 0 0 x)
  have hl : (bodyB s 0 0 x).length = (bodyB s p q x).length := by rw [bodyB_len, bodyB_len]
  rw [hl, show U (Crc.crc (bodyB s 0 0 x)) = (Crc.crc (bodyB s 0 0 x)).toNat from by have := U_id hc.1 (show Crc.crc (bodyB s 0 0 x) < 18446744073709551616 by omega); omega]
  simp [List.append_assoc]
theorem chkB_smaller {b s p q : Int} {x : List S45} (h : chkB b s p q x = 0) : chkB b s 0 0 x = 0 := by
  obtain ⟨ho, hall, hbig⟩ := chkB_ok h
  have hfe : ferr x = 0 := Classical.byContradiction fun hn => by unfold chkB at h; rw [if_neg (not_not_intro ho), if_neg hn] at h; exact hn h
  obtain ⟨o1, o2, o3, o4, o5, o6, o7, o8⟩ := ho
  have hl : (bodyB s 0 0 x).length = (bodyB s p q x).length := by rw [bodyB_len, bodyB_len]
  unfold chkB big
  rw [if_neg (not_not_intro ⟨o1, o2, o3, o4, by omega, by omega, o7, o8⟩), if_pos hfe, if_neg (by omega)]
theorem huge_good {l : List Int} (hb : Bytes l) (hl : l.length ≤ 1000000) : GoodH bollardref12_huge.f l := by
  intro k hk h48
  have r8 := get_range hb 8 4 true
  have r16 := get_range hb 16 8 true
  have r24 := get_range hb 24 8 true
  generalize get l 0 8 true = a
  generalize hn_ : get l 8 4 true = n at r8 ⊢
  generalize get l 16 8 true = p at r16 ⊢
  generalize get l 24 8 true = q at r24 ⊢
  unfold bollardref12_huge.f bollardref12_hugeG.f
  rw [if_pos (by omega)]
  by_cases c : bollardref12_hugeG.no l n p q
  · rw [if_pos c]
    exact ⟨_, rfl, .inl rfl⟩
  rw [if_neg c]
  unfold bollardref12_hugeG.no at c
  have htl : (l.take (12 + n).toNat).length = (12 + n).toNat := by rw [List.length_take]; omega
  have hsl := smz_len (l := l.take (12 + n).toNat) (by omega)
  have hsg := smz_gets (l := l.take (12 + n).toNat) (by omega)
  obtain ⟨r, hr, hg⟩ := decB0_good (smz_bytes (take_bytes hb _) (by omega)) (by omega) hsg.1 hsg.2 k hk
  rw [smaller_f hb hl (by omega) (by omega) k (by omega), hr, Option.bind_some]
  obtain ⟨b, s, p2, q2, x, m, e⟩ := r
  dsimp only
  rcases hg with hg | ⟨he, hi⟩
  · simp only [badB, Prod.mk.injEq] at hg
    rw [if_neg (by omega)]
    exact ⟨_, rfl, .inl rfl⟩
  · dsimp only at he hi
    have hcnt := off_count (chkB_ok hi.ok).1 (chkB_ok hi.ok).2.1
    have hm := hi.le
    have hm2 := hi.len
    rw [if_pos he, rencodeB_f _ _ _ _ x (by omega) k (by omega), Option.bind_some]
    unfold encB
    by_cases hc : chkB b s (wrap64 p) (wrap64 q) x = 0
    · rw [if_pos hc]
      dsimp only
      rw [if_pos rfl, if_pos (by omega)]
      by_cases hs : (strOfNums (bytesB b s (wrap64 p) (wrap64 q) x)).toList = (strOfNums (l.take m.toNat)).toList
      · rw [if_pos hs]
        have hs := (strs_eq (bytesB_bytes _ _ _ _ _) (take_bytes hb _)).1 hs
        refine ⟨_, rfl, .inr ⟨rfl, ⟨hc, ?_, by show m ≤ _; omega, hs.symm, (wrap64_range _).2, (wrap64_range _).2⟩⟩⟩
        show m = _
        rw [hs, List.length_take]
        omega
      · rw [if_neg hs]
        exact ⟨_, rfl, .inl rfl⟩
    · rw [if_neg hc]
      dsimp only
      rw [if_neg hc]
      exact ⟨_, rfl, .inl rfl⟩
theorem huge_back {l : List Int} (hb : Bytes l) (hl : l.length ≤ 1000000) : BackH bollardref12_huge.f l := by
  intro k hk b s p q x n h hg
  obtain ⟨ho, hall, hbig⟩ := chkB_ok h.ok
  have hcount := off_count ho hall
  have hn := isB_len h
  have hle := h.le
  have hp := h.pr
  have hq := h.qr
  obtain ⟨o1, o2, o3, o4, o5, o6, -, -⟩ := ho
  have hsm := smz_batch h
  have h2 : IsB (bytesB b s 0 0 x) b s 0 0 x n := by
    have hl2 : (bytesB b s 0 0 x).length = (bytesB b s p q x).length := by rw [bytesB_len, bytesB_len, bodyB_len, bodyB_len]
    have := h.len
    exact ⟨chkB_smaller h.ok, by omega, by omega, List.take_of_length_le (by omega), by omega, by omega⟩
  unfold bollardref12_huge.f bollardref12_hugeG.f
  rw [if_pos (by omega), if_neg (by unfold bollardref12_hugeG.no; omega), smaller_f hb hl (by omega) (by omega) k (by omega), show 12 + (n - 12) = n by omega, hsm, decB0_back (bytesB_bytes _ _ _ _ _) (by have := h2.len; omega) h2 k hk, Option.bind_some]
  dsimp only
  rw [if_pos rfl, w64 (x := p) (by omega) (by omega), w64 (x := q) (by omega) (by omega), rencodeB_f b s p q x (by omega) k (by omega), Option.bind_some]
  unfold encB
  rw [if_pos h.ok]
  dsimp only
  rw [if_pos rfl, if_pos (by omega), h.eq, if_pos rfl]
/-- The document's Decode: the batch that the bytes begin with, or none. -/
theorem ref_good {l : List Int} (hb : Bytes l) (hl : l.length ≤ 1000000) (k : Nat) (hk : 20040000 ≤ k) : ∃ r, bollardref12_DecodeBatch.f k l = some r ∧ GoodB l r := rdec_good hb hl (huge_good hb hl) k hk
theorem ref_back {l : List Int} (hb : Bytes l) (hl : l.length ≤ 1000000) {b s p q : Int} {x : List S45} {n : Int} (h : IsB l b s p q x n) (k : Nat) (hk : 20040000 ≤ k) : bollardref12_DecodeBatch.f k l = some (b, s, p, q, x, n, 0) := rdec_back hb hl (huge_back hb hl) h k hk
/-- Both are the same. -/
theorem dec_same {l : List Int} (hb : Bytes l) (hl : l.length ≤ 1000000) (k : Nat) (hk : 20040000 ≤ k) : ∃ r, batch_Decode.f k l = some r ∧ bollardref12_DecodeBatch.f k l = some r ∧ GoodB l r := by
  obtain ⟨r, hr, hg⟩ := dec_good hb hl k (by omega)
  obtain ⟨r2, hr2, hg2⟩ := ref_good hb hl k hk
  refine ⟨r, hr, ?_, hg⟩
  obtain ⟨b, s, p, q, x, n, e⟩ := r
  rcases hg with hg | ⟨he, hi⟩
  · rcases hg2 with hg2 | ⟨he2, hi2⟩
    · rw [hr2, hg, hg2]
    · obtain ⟨b2, s2, p2, q2, x2, n2, e2⟩ := r2
      have := dec_back hb hl hi2 k (by omega)
      rw [hr] at this
      dsimp only at he2
      simp only [badB, Prod.mk.injEq, Option.some.injEq] at hg this
      omega
  · dsimp only at he hi
    subst he
    exact ref_back hb hl hi k hk
end Go.Proofs.Ytgmeellapjimgaa.Bp

/- Any bytes are read as the batch that they begin with, or refused. -/
namespace Go.Proofs.Ytgmeellapjimgaa.Pure
open Go Go.RowKit Go.Proofs.Ytgmeellapjimgaa.PBd Go.Proofs.YtgmeellapjimgaaW.PrintWords Go.Proofs.YtgmeellapjimgaaW.PrintLast Go.Proofs.YtgmeellapjimgaaW.PrintMore Go.Proofs.Ytgmeellapjimgaa.Bp
set_option linter.unusedVariables false
set_option linter.unusedSimpArgs false

theorem good_len {l : List Int} {r : RB} (h : GoodB l r) : r.2.2.2.2.1.length ≤ 100 := by
  rcases h with rfl | ⟨_, h⟩
  · exact Nat.zero_le _
  · exact off_count (chkB_ok h.ok).1 (chkB_ok h.ok).2.1
theorem BatchDecodes : bollardlaw13_BatchDecodes.Pure := by
  intro l hw
  have hb := bytes_of hw.2
  refine ⟨20050000, ?_⟩
  unfold bollardlaw13_BatchDecodes.f
  by_cases c : 8000 < (l.length : Int)
  · rw [if_pos c, awake_f _ (by omega)]
  · rw [if_neg c]
    obtain ⟨r, hr, hr2, hg⟩ := dec_same hb (by omega) 20050000 (by omega)
    have hgl := good_len hg
    rw [hr, Option.bind_some, hr2, Option.bind_some, same_f _ _ _ _ _ (by omega) _ (by omega), Option.bind_some, if_pos ⟨rfl, rfl, rfl⟩, awake_f _ (by omega)]
end Go.Proofs.Ytgmeellapjimgaa.Pure

/- What reads as data of a type is of the type's kind: whole numbers, bools, strings, slices, structs, one inside the other. -/
namespace Go.Proofs.Ytgmeellapjimgaa.Op
open Go Go.RowKit Go.ChangeShapes Go.WideShapes Go.Proofs.YtgmeellapjimgaaW.PrintWords Go.Proofs.YtgmeellapjimgaaW.PrintLast Go.Proofs.YtgmeellapjimgaaW.PrintMore
set_option linter.unusedVariables false
set_option linter.unusedSimpArgs false

/-- What reads as data of type t, no heavier than the form lets, is of this kind; Q tells more of it. -/
def Opens {α : Type} (P : Program) (t : TypeId) (d : Kd α) (Q : α → Prop) : Prop :=
  P.cellsOf t = d.sz ∧ ∀ {H : Type} (enc : TypeId × Value → H) (w : World) (base : Nat) (spare : Nat → Bool) (held : Bool) (fuel : Nat) (cs : List Value) (x : DataW H × List MemPlace),
    DataW.trod enc P w base spare held fuel t cs = some x → (∀ n ∈ x.1.weights P t, n ≤ reachBytes) → ∃ a : α, d.K w a cs ∧ Q a

section
variable {P : Program} {t : TypeId}
theorem opens_int {k : IntKind} (ht : P.underlying t = some (.int k)) (hc : P.cellsOf t = 1) : Opens P t (Kd.int k) (fun a => (Lit.int k a).wf = true) := by
  refine ⟨hc, fun enc w base spare held fuel cs x h _ => ?_⟩
  obtain ⟨n, rfl, _, hw⟩ := DataW.trod_int ht h
  exact ⟨n, rfl, hw⟩
theorem opens_bool (ht : P.underlying t = some .bool) (hc : P.cellsOf t = 1) : Opens P t Kd.bool (fun _ => True) := by
  refine ⟨hc, fun enc w base spare held fuel cs x h _ => ?_⟩
  obtain ⟨b, rfl, _⟩ := DataW.trod_bool ht h
  exact ⟨b, rfl, trivial⟩
theorem opens_string (ht : P.underlying t = some .string) (hc : P.cellsOf t = 1) : Opens P t Kd.string (fun s => s.size ≤ 140737488351232) := by
  refine ⟨hc, fun enc w base spare held fuel cs x h hx => ?_⟩
  obtain ⟨s, rfl, rfl, _⟩ := DataW.trod_string ht h
  refine ⟨s, rfl, ?_⟩
  have := hx s.data.toList.length (by simp [DataW.weights])
  rw [Array.length_toList] at this
  exact this
theorem mem_weightsAll {H : Type} {P : Program} {e : TypeId} : ∀ {ds : List (DataW H)} {d : DataW H}, d ∈ ds → ∀ n ∈ d.weights P e, n ∈ DataW.weightsAll P e ds
  | d0 :: ds, d, h, n, hn => by
    simp only [DataW.weightsAll, List.mem_append]
    rcases List.mem_cons.1 h with rfl | h
    · exact .inl hn
    · exact .inr (mem_weightsAll h n hn)
theorem opens_slice {e : TypeId} {α : Type} {d : Kd α} {Q : α → Prop} {B : Nat} (ht : P.underlying t = some (.slice e)) (hc : P.cellsOf t = 1) (hB : P.bytesOf e = B) (hd : Opens P e d Q) :
    Opens P t (Kd.slice e d) (fun xs => xs.length * B ≤ 140737488351232 ∧ ∀ y ∈ xs, Q y) := by
  refine ⟨hc, fun enc w base spare held fuel cs x h hx => ?_⟩
  rcases Go.Deep.open_slice ht h with ⟨rfl, rfl⟩ | ⟨a, len, cap, m, n, D, Pl, rfl, hb, hl, hm, hmm, rfl, hi⟩
  · exact ⟨[], ⟨none, 0, rfl, Nat.le_refl _, ⟨rfl, by simp, fun h => by simp at h⟩⟩, by simp, by simp⟩
  · have hml : len ≤ m := by rw [hmm]; split <;> omega
    simp only [DataW.weights, ht] at hx
    have key : ∀ i, i < len → ∃ (y : α) (cs' : List Value), w.cells? base (a.add (i * P.cellsOf e)) (P.cellsOf e) = some cs' ∧ d.K w y cs' ∧ Q y := by
      intro i hil
      obtain ⟨cs', h1, h2⟩ := hi i (by omega)
      obtain ⟨y, hK, hQ⟩ := hd.2 enc w base spare held n cs' _ h2 (fun q hq => hx q (List.mem_cons_of_mem _ (List.mem_append_left _ (mem_weightsAll (List.mem_map.2 ⟨i, List.mem_range.2 hil, rfl⟩) q hq))))
      exact ⟨y, cs', h1, hK, hQ⟩
    have hne : ∀ i, i < len → Nonempty α := fun i hil => let ⟨y, _⟩ := key i hil; ⟨y⟩
    rcases Nat.eq_zero_or_pos len with h0 | h0
    · subst h0
      exact ⟨[], ⟨some a, cap, rfl, Nat.zero_le _, ⟨rfl, by simp, fun h => by simp at h⟩⟩, by simp, by simp⟩
    · have : Nonempty α := hne 0 h0
      let f : Nat → α := fun i => if hil : i < len then (key i hil).choose else Classical.choice this
      have hf : ∀ i, i < len → ∃ cs', w.cells? base (a.add (i * P.cellsOf e)) (P.cellsOf e) = some cs' ∧ d.K w (f i) cs' ∧ Q (f i) := by
        intro i hil
        have := (key i hil).choose_spec
        simp only [f, dif_pos hil]
        exact this
      have hlen : ((List.range len).map f).length = len := by simp
      refine ⟨(List.range len).map f, ⟨some a, cap, by rw [hlen], by rw [hlen]; exact hl, ⟨rfl, by rw [hlen]; simp only [maxLen] at hm; omega, fun _ => ⟨a, rfl, fun j p hj => ?_⟩⟩⟩, ?_, ?_⟩
      · have hjl : j < len := by
          have := (List.getElem?_eq_some_iff.1 hj).1
          rw [hlen] at this
          exact this
        have hp : f j = p := by
          rw [List.getElem?_map, List.getElem?_range hjl] at hj
          exact Option.some.inj hj
        obtain ⟨cs', h1, hK, _⟩ := hf j hjl
        obtain ⟨_, h2, h3⟩ := World.cells?_some h1
        refine ⟨cs', d.K_len hK, hp ▸ hK, fun i u hu => ?_⟩
        have hil : i < P.cellsOf e := by
          have := (List.getElem?_eq_some_iff.1 hu).1
          omega
        have := h3 i hil
        rw [Go.Deep.add_add, hd.1, hu] at this
        exact this
      · have := hx _ (List.mem_cons_self)
        rw [hB] at this
        simp only [List.length_map, List.length_range] at this
        rw [hlen]
        have h4 : len * B ≤ (len + (m - len)) * B := Nat.mul_le_mul_right _ (by omega)
        simp only [reachBytes] at this
        omega
      · intro y hy
        obtain ⟨i, hir, rfl⟩ := List.mem_map.1 hy
        obtain ⟨_, _, _, hQ⟩ := hf i (List.mem_range.1 hir)
        exact hQ
/-- A struct's fields, from a place on. -/
def OpensF {α : Type} (P : Program) (fl : List Field) (off : Nat) (d : Kd α) (Q : α → Prop) : Prop :=
  ∀ {H : Type} (enc : TypeId × Value → H) (w : World) (base : Nat) (spare : Nat → Bool) (held : Bool) (n : Nat) (cs : List Value) (ys : List (DataW H × List MemPlace)),
    ys.length = fl.length → (∀ (i : Nat) (f : Field), fl[i]? = some f → DataW.trod enc P w base spare held n f.type ((cs.drop f.offset).take (P.cellsOf f.type)) = ys[i]?) →
    (∀ q ∈ DataW.weightsEach P (fl.map (·.type)) (ys.map (·.1)), q ≤ reachBytes) → ∃ a : α, d.K w a ((cs.drop off).take d.sz) ∧ Q a
theorem opensF_one {f : Field} {off : Nat} {α : Type} {d : Kd α} {Q : α → Prop} (ho : f.offset = off) (h : Opens P f.type d Q) : OpensF P [f] off d Q := by
  intro H enc w base spare held n cs ys hl hf hx
  match ys, hl with
  | [y], _ =>
    have := hf 0 f rfl
    rw [ho, h.1] at this
    refine h.2 enc w base spare held n _ y this (fun q hq => hx q ?_)
    simp only [List.map_cons, List.map_nil, DataW.weightsEach, List.append_nil]
    exact hq
theorem opensF_cons {f : Field} {fl : List Field} {off : Nat} {α β : Type} {d : Kd α} {d' : Kd β} {Q : α → Prop} {Q' : β → Prop} (ho : f.offset = off) (h : Opens P f.type d Q) (h' : OpensF P fl (off + d.sz) d' Q') :
    OpensF P (f :: fl) off (Kd.pair d d') (fun x => Q x.1 ∧ Q' x.2) := by
  intro H enc w base spare held n cs ys hl hf hx
  match ys, hl with
  | y :: ys, hl =>
    have h0 := hf 0 f rfl
    rw [ho, h.1] at h0
    simp only [List.map_cons, DataW.weightsEach, List.mem_append] at hx
    obtain ⟨a, hK, hQ⟩ := h.2 enc w base spare held n _ y h0 (fun q hq => hx q (.inl hq))
    obtain ⟨b, hK', hQ'⟩ := h' enc w base spare held n cs ys (by simpa using hl) (fun i f hi => hf (i + 1) f (by simpa using hi)) (fun q hq => hx q (.inr hq))
    refine ⟨(a, b), ⟨_, _, ?_, hK, hK'⟩, hQ, hQ'⟩
    show (cs.drop off).take (d.sz + d'.sz) = _
    rw [List.take_add, List.drop_drop]
theorem opens_struct {fs : Array Field} {fl : List Field} {α β : Type} {d : Kd α} {Q : α → Prop} (f : β → α) (g : α → β) (hg : ∀ a, f (g a) = a) (ht : P.underlying t = some (.struct fs)) (hfl : fs.toList = fl) (hc : P.cellsOf t = d.sz) (h : OpensF P fl 0 d Q) :
    Opens P t (Kd.iso d f) (fun b => Q (f b)) := by
  refine ⟨hc, fun enc w base spare held fuel cs x hx hw => ?_⟩
  obtain ⟨xs, n, _, rfl, hl, hxl, hf⟩ := DataW.trod_struct ht hx
  simp only [DataW.weights, ht] at hw
  have hfl' : fl.length = fs.size := by rw [← hfl, Array.length_toList]
  obtain ⟨a, hK, hQ⟩ := h enc w base spare held n cs xs (by omega) (fun i fd hi => hf i fd (by rw [← hfl] at hi; simpa using hi)) (by rw [← hfl]; exact hw)
  refine ⟨g a, ?_, by show Q (f (g a)); rw [hg]; exact hQ⟩
  show d.K w (f (g a)) cs
  rw [hg]
  have : (cs.drop 0).take d.sz = cs := by rw [List.drop_zero, ← hc, ← hl, List.take_length]
  rw [this] at hK
  exact hK
theorem Opens.imp {α : Type} {d : Kd α} {Q Q' : α → Prop} (h : Opens P t d Q) (hq : ∀ a, Q a → Q' a) : Opens P t d Q' :=
  ⟨h.1, fun enc w base spare held fuel cs x hx hw => let ⟨a, hK, hQ⟩ := h.2 enc w base spare held fuel cs x hx hw; ⟨a, hK, hq a hQ⟩⟩
/-- At a law's own argument. -/
theorem Opens.arg {α : Type} {d : Kd α} {Q : α → Prop} (h : Opens P t d Q) {H : Type} {enc : TypeId × Value → H} {W : World} {spare : Nat → Bool} {held : Bool} {v : Value} {x : DataW H} {p : List MemPlace} {ts : List TypeId} {ds : List (DataW H)} {j : Nat}
    (hsz : (DataW.weightsEach P ts ds).all (· ≤ reachBytes) = true) (hj : ts[j]? = some t) (hx : ds[j]? = some x) (ht : DataW.Trod enc P W 0 spare held t v x p) : ∃ a : α, d.K W a v.cells.toList ∧ Q a := by
  obtain ⟨fuel, hf⟩ := ht
  refine h.2 enc W 0 spare held fuel _ _ hf (fun n hn => ?_)
  have := List.all_eq_true.1 hsz n (DataW.weights_mem_each hj hx n hn)
  simpa using this
end
end Go.Proofs.Ytgmeellapjimgaa.Op
