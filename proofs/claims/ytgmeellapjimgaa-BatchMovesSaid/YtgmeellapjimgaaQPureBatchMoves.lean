/- What the program's Decode of a batch comes to: the batch that the bytes begin with, or none. -/
import Derived.Test.YtgmeellapjimgaaQPBmx7
import Derived.Test.YtgmeellapjimgaaQPBmx4
import Derived.Test.YtgmeellapjimgaaQPBmx6
import Derived.Test.YtgmeellapjimgaaQRecBack
import Derived.Test.YtgmeellapjimgaaQPBmx8
import Derived.Test.YtgmeellapjimgaaQPBmx11
import Derived.Test.YtgmeellapjimgaaQBitsPut
import Derived.Test.YtgmeellapjimgaaQPBmx13
namespace Go.Proofs.Ytgmeellapjimgaa.Bp
open Go Go.RowKit Go.Proofs.Ytgmeellapjimgaa.PBm Go.Proofs.YtgmeellapjimgaaW.PrintWords Go.Proofs.YtgmeellapjimgaaW.PrintLast Go.Proofs.YtgmeellapjimgaaW.PrintMore
set_option linter.unusedVariables false
set_option linter.unusedSimpArgs false

abbrev RB := Int × Int × Int × Int × List S45 × Int × Int
def badB : RB := (0, 0, 0, 0, [], 0, 10)
/-- Bytes that begin with a batch's. -/
structure IsB (l : List Int) (b s p q : Int) (x : List S45) (n : Int) : Prop where
  ok : chkB b s p q x = 0
  len : n = ((bytesB b s p q x).length : Int)
  le : n ≤ (l.length : Int)
  eq : l.take n.toNat = bytesB b s p q x
  pr : p ≤ 9223372036854775807
  qr : q ≤ 9223372036854775807
/-- What a Decode may tell. -/
def GoodB (l : List Int) (r : RB) : Prop := r = badB ∨ (r.2.2.2.2.2.2 = 0 ∧ IsB l r.1 r.2.1 r.2.2.1 r.2.2.2.1 r.2.2.2.2.1 r.2.2.2.2.2.1)
theorem chkB_ok {b s p q : Int} {x : List S45} (h : chkB b s p q x = 0) : offsOk b s p q x ∧ (∀ y ∈ x, chkS y = 0) ∧ 16 + (bodyB s p q x).length ≤ 6000 := by
  have hoff : offsOk b s p q x := Classical.byContradiction fun hn => by unfold chkB at h; rw [if_pos hn] at h; omega
  have hfe : ferr x = 0 := Classical.byContradiction fun hn => by unfold chkB at h; rw [if_neg (not_not_intro hoff), if_neg hn] at h; exact hn h
  refine ⟨hoff, ferr_all hfe, ?_⟩
  unfold chkB at h
  rw [if_neg (not_not_intro hoff), if_pos hfe] at h
  unfold big at h
  split at h
  · omega
  · omega
theorem U_id {v : Int} (h0 : 0 ≤ v) (h1 : v < 18446744073709551616) : ((U v : Nat) : Int) = v := by rw [← U_eq, IntKind.wrap_u64]; omega
theorem take_bytes {l : List Int} (h : Bytes l) (n : Nat) : Bytes (l.take n) := fun x hx => h x (List.mem_of_mem_take hx)
theorem drop_bytes {l : List Int} (h : Bytes l) (n : Nat) : Bytes (l.drop n) := fun x hx => h x (List.mem_of_mem_drop hx)
theorem app_bytes {l m : List Int} (h : Bytes l) (h2 : Bytes m) : Bytes (l ++ m) := fun x hx => (List.mem_append.1 hx).elim (h x) (h2 x)
/-- A number that is laid in bytes is read from what begins with them. -/
theorem get_seg {l A B : List Int} {n v w a : Nat} (h : l.take n = A ++ (beL v w ++ B)) (ha : a = A.length) : get l a w true = ((v % 256 ^ w : Nat) : Int) := by
  subst ha
  have e : (l.drop A.length).take w = beL v w := by
    rw [← List.take_append_drop n l, h, List.append_assoc, List.drop_left, List.append_assoc, List.take_append_of_le_length (Nat.le_of_eq (beL_length v w).symm), List.take_of_length_le (Nat.le_of_eq (beL_length v w))]
  unfold get
  rw [if_pos rfl, e, be_beL]
theorem U_small {v : Int} (w : Nat) (h0 : 0 ≤ v) (h1 : v < 256 ^ w) (h2 : v < 18446744073709551616) : ((U v % 256 ^ w : Nat) : Int) = v := by
  have := U_id h0 h2
  have h3 : U v < 256 ^ w := by
    have : ((U v : Nat) : Int) < ((256 ^ w : Nat) : Int) := by rw [this]; simpa using h1
    omega
  rw [Nat.mod_eq_of_lt h3, this]
theorem isB_gets {l : List Int} {b s p q : Int} {x : List S45} {n : Int} (h : IsB l b s p q x n) :
    get l 0 8 true = b ∧ get l 8 4 true = ((bodyB s p q x).length : Int) + 4 ∧ get l 16 8 true = p ∧ get l 24 8 true = q ∧ get l 32 4 true = s ∧ get l 36 4 true = (x.length : Int) ∧ get l 40 8 true = (rd_T45 x 0).f4 := by
  obtain ⟨ho, hall, hbig⟩ := chkB_ok h.ok
  have hcount := off_count ho hall
  have h0 : 0 < x.length := Nat.pos_of_ne_zero ho.2.2.2.2.2.2.1
  have hf := first_ok h0 hall
  obtain ⟨o1, o2, o3, o4, o5, o6, -, -⟩ := ho
  have hp := h.pr
  have hq := h.qr
  have e := h.eq
  have hlb : (bodyB s p q x).length ≤ 5984 := by omega
  refine ⟨?_, ?_, ?_, ?_, ?_, ?_, ?_⟩
  · rw [get_seg (a := 0) (A := []) (v := U b) (w := 8) (B := beL (U (((bodyB s p q x).length : Int) + 4)) 4 ++ (beL (U (Crc.crc (bodyB s p q x))) 4 ++ bodyB s p q x)) (by rw [e]; unfold bytesB; simp) rfl]
    exact U_small 8 (by omega) (by omega) (by omega)
  · rw [get_seg (A := beL (U b) 8) (v := U (((bodyB s p q x).length : Int) + 4)) (w := 4) (B := beL (U (Crc.crc (bodyB s p q x))) 4 ++ bodyB s p q x) (by rw [e]; unfold bytesB; simp) (by rw [beL_length])]
    exact U_small 4 (by omega) (by omega) (by omega)
  · rw [get_seg (A := beL (U b) 8 ++ (beL (U (((bodyB s p q x).length : Int) + 4)) 4 ++ beL (U (Crc.crc (bodyB s p q x))) 4)) (v := U p) (w := 8) (B := beL (U q) 8 ++ (beL (U s) 4 ++ (beL (U (x.length : Int)) 4 ++ (beL (U (rd_T45 x 0).f4) 8 ++ flat (rd_T45 x 0).f4 x)))) (by rw [e]; unfold bytesB; rw [show bodyB s p q x = bodyH s p q (x.length : Int) (rd_T45 x 0).f4 ++ flat (rd_T45 x 0).f4 x from rfl]; unfold bodyH; simp) (by simp [beL_length])]
    exact U_small 8 (by omega) (by omega) (by omega)
  · rw [get_seg (A := beL (U b) 8 ++ (beL (U (((bodyB s p q x).length : Int) + 4)) 4 ++ (beL (U (Crc.crc (bodyB s p q x))) 4 ++ beL (U p) 8))) (v := U q) (w := 8) (B := beL (U s) 4 ++ (beL (U (x.length : Int)) 4 ++ (beL (U (rd_T45 x 0).f4) 8 ++ flat (rd_T45 x 0).f4 x))) (by rw [e]; unfold bytesB; rw [show bodyB s p q x = bodyH s p q (x.length : Int) (rd_T45 x 0).f4 ++ flat (rd_T45 x 0).f4 x from rfl]; unfold bodyH; simp) (by simp [beL_length])]
    exact U_small 8 (by omega) (by omega) (by omega)
  · rw [get_seg (A := beL (U b) 8 ++ (beL (U (((bodyB s p q x).length : Int) + 4)) 4 ++ (beL (U (Crc.crc (bodyB s p q x))) 4 ++ (beL (U p) 8 ++ beL (U q) 8)))) (v := U s) (w := 4) (B := beL (U (x.length : Int)) 4 ++ (beL (U (rd_T45 x 0).f4) 8 ++ flat (rd_T45 x 0).f4 x)) (by rw [e]; unfold bytesB; rw [show bodyB s p q x = bodyH s p q (x.length : Int) (rd_T45 x 0).f4 ++ flat (rd_T45 x 0).f4 x from rfl]; unfold bodyH; simp) (by simp [beL_length])]
    exact U_small 4 (by omega) (by omega) (by omega)
  · rw [get_seg (A := beL (U b) 8 ++ (beL (U (((bodyB s p q x).length : Int) + 4)) 4 ++ (beL (U (Crc.crc (bodyB s p q x))) 4 ++ (beL (U p) 8 ++ (beL (U q) 8 ++ beL (U s) 4))))) (v := U (x.length : Int)) (w := 4) (B := beL (U (rd_T45 x 0).f4) 8 ++ flat (rd_T45 x 0).f4 x) (by rw [e]; unfold bytesB; rw [show bodyB s p q x = bodyH s p q (x.length : Int) (rd_T45 x 0).f4 ++ flat (rd_T45 x 0).f4 x from rfl]; unfold bodyH; simp) (by simp [beL_length])]
    exact U_small 4 (by omega) (by omega) (by omega)
  · rw [get_seg (A := beL (U b) 8 ++ (beL (U (((bodyB s p q x).length : Int) + 4)) 4 ++ (beL (U (Crc.crc (bodyB s p q x))) 4 ++ (beL (U p) 8 ++ (beL (U q) 8 ++ (beL (U s) 4 ++ beL (U (x.length : Int)) 4)))))) (v := U (rd_T45 x 0).f4) (w := 8) (B := flat (rd_T45 x 0).f4 x) (by rw [e]; unfold bytesB; rw [show bodyB s p q x = bodyH s p q (x.length : Int) (rd_T45 x 0).f4 ++ flat (rd_T45 x 0).f4 x from rfl]; unfold bodyH; simp) (by simp [beL_length])]
    exact U_small 8 (by omega) (by omega) (by omega)
theorem encS_bytes (first : Int) (y : S45) : Bytes (encS first y) := enc_bytes _ _ _ _ _ _ _
theorem flat_bytes (first : Int) (x : List S45) : Bytes (flat first x) := by
  intro y hy
  unfold flat at hy
  obtain ⟨m, hm, hy⟩ := List.mem_flatten.1 hy
  obtain ⟨z, _, rfl⟩ := List.mem_map.1 hm
  exact enc_bytes _ _ _ _ _ _ _ y hy
theorem bytesB_bytes (b s p q : Int) (x : List S45) : Bytes (bytesB b s p q x) := by
  unfold bytesB bodyB bodyH
  repeat' first | exact beL_bytes _ _ | exact flat_bytes _ _ | refine app_bytes ?_ ?_
theorem equal_f {l m : List Int} (hl : Bytes l) (hm : Bytes m) : bytes_Equal.f l m = some (decide (l = m)) := by
  unfold bytes_Equal.f
  rw [strs_beq hl hm]
theorem bget_f (l : List Int) (hb : Bytes l) (hl : l.length ≤ 4000000000000000000) (a n : Nat) (h1 : 1 ≤ n) (h8 : n ≤ 8) (h : a + n ≤ l.length) (k : Nat) (hk : 9 ≤ k) : batch_get.f k l (a : Int) (n : Int) = some (wrap64 (get l a n true)) := by
  unfold batch_get.f
  rw [get_f l hb hl a n true h1 h8 h k hk, Option.bind_some]
/-- One record of those behind one another is read. -/
theorem rec_next {first : Int} (hf : 0 ≤ first ∧ first ≤ 1125899906842624) {y : S45} (hy : chkS y = 0) (rest : List Int) : decS (encS first y ++ rest) first = some (y.f0, y.f1, y.f2, y.f3, y.f4, y.f5, ((encS first y).length : Int)) := by
  have hc := chk_ok hy
  unfold encS
  rw [dec_enc (h0 := hy) hf first hf rest, show y.f4 - first + first = y.f4 by omega, if_neg (by omega)]
theorem flat_append (f : Int) (a c : List S45) : flat f (a ++ c) = flat f a ++ flat f c := by unfold flat; rw [List.map_append, List.flatten_append]
theorem behind {l : List Int} {b s p q : Int} {x pre suf : List S45} {n : Int} (h : IsB l b s p q x n) (hx : x = pre ++ suf) : (l.take n.toNat).drop (48 + (flat (rd_T45 x 0).f4 pre).length) = flat (rd_T45 x 0).f4 suf := by
  rw [h.eq]
  unfold bytesB
  generalize U (Crc.crc (bodyB s p q x)) = C
  generalize U (((bodyB s p q x).length : Int) + 4) = L
  unfold bodyB
  have hh := bodyH_len s p q (x.length : Int) (rd_T45 x 0).f4
  generalize bodyH s p q (x.length : Int) (rd_T45 x 0).f4 = H at hh ⊢
  have e : flat (rd_T45 x 0).f4 x = flat (rd_T45 x 0).f4 pre ++ flat (rd_T45 x 0).f4 suf := by rw [← flat_append, ← hx]
  rw [e]
  generalize flat (rd_T45 x 0).f4 pre = P
  generalize flat (rd_T45 x 0).f4 suf = S
  rw [show beL (U b) 8 ++ (beL L 4 ++ (beL C 4 ++ (H ++ (P ++ S)))) = (beL (U b) 8 ++ (beL L 4 ++ (beL C 4 ++ (H ++ P)))) ++ S from by simp [List.append_assoc]]
  exact drop_all _ _ _ (by simp only [List.length_append, beL_length, hh]; omega)
theorem isB_len {l : List Int} {b s p q : Int} {x : List S45} {n : Int} (h : IsB l b s p q x n) : n = 48 + ((flat (rd_T45 x 0).f4 x).length : Int) ∧ n ≤ 6000 ∧ n = 16 + ((bodyB s p q x).length : Int) := by
  have h1 := h.len
  have h2 := bytesB_len b s p q x
  have h3 := bodyB_len s p q x
  have h4 := (chkB_ok h.ok).2.2
  omega
/-- What is written is the end's word. -/
theorem dfin_back {l : List Int} (hb : Bytes l) {b s p q : Int} {x : List S45} {n : Int} (h : IsB l b s p q x n) (k : Nat) (hk : 20000000 ≤ k) : batch_Decode.fin k l n b s p q x = some (b, s, p, q, x, n, 0) := by
  have hc := off_count (chkB_ok h.ok).1 (chkB_ok h.ok).2.1
  unfold batch_Decode.fin
  rw [encode_f2 b s p q x (by omega) k hk, Option.bind_some]
  unfold encB
  rw [if_pos h.ok]
  dsimp only
  rw [if_pos rfl, h.eq, equal_f (bytesB_bytes _ _ _ _ _) (bytesB_bytes _ _ _ _ _), Option.bind_some, decide_eq_true rfl, if_pos rfl]
theorem dloop_back {l : List Int} (hb : Bytes l) (hl : l.length ≤ 1000000) {b s p q : Int} {x : List S45} {n : Int} (h : IsB l b s p q x n) : ∀ (suf pre : List S45) (k : Nat), x = pre ++ suf → 20020000 + suf.length ≤ k →
    batch_Decode.l0 k l n (rd_T45 x 0).f4 b s p q (48 + ((flat (rd_T45 x 0).f4 pre).length : Int)) pre = some (b, s, p, q, x, n, 0) := by
  obtain ⟨ho, hall, hbig⟩ := chkB_ok h.ok
  have hcount := off_count ho hall
  have h0 : 0 < x.length := Nat.pos_of_ne_zero ho.2.2.2.2.2.2.1
  have hf := first_ok h0 hall
  have hn := isB_len h
  intro suf
  induction suf with
  | nil =>
    intro pre k hx hk
    obtain ⟨K, rfl⟩ : ∃ K, k = K + 1 := ⟨k - 1, by omega⟩
    rw [List.append_nil] at hx
    subst hx
    rw [batch_Decode.l0, if_neg (by omega)]
    exact dfin_back hb h K (by omega)
  | cons y suf ih =>
    intro pre k hx hk
    obtain ⟨K, rfl⟩ : ∃ K, k = K + 1 := ⟨k - 1, by omega⟩
    have hy : chkS y = 0 := hall y (by rw [hx]; simp)
    have hpos : 3 ≤ (encS (rd_T45 x 0).f4 y).length := by
      have hd := rec_next hf hy ([] : List Int)
      rw [List.append_nil] at hd
      have := decS_range (encS_bytes _ _) hd
      omega
    have hbe := behind h hx
    have hfx : (flat (rd_T45 x 0).f4 x).length = (flat (rd_T45 x 0).f4 pre).length + ((encS (rd_T45 x 0).f4 y).length + (flat (rd_T45 x 0).f4 suf).length) := by
      have e_ : flat (rd_T45 x 0).f4 x = flat (rd_T45 x 0).f4 pre ++ (encS (rd_T45 x 0).f4 y ++ flat (rd_T45 x 0).f4 suf) := by rw [← flat_cons, ← flat_append, ← hx]
      rw [e_, List.length_append, List.length_append]
    simp only [List.length_cons] at hk
    rw [batch_Decode.l0, if_pos (by omega), if_pos (by omega), show (48 + ((flat (rd_T45 x 0).f4 pre).length : Int)).toNat = 48 + (flat (rd_T45 x 0).f4 pre).length by omega, hbe, flat_cons,
      decode_f (app_bytes (encS_bytes _ _) (flat_bytes _ _)) (by rw [List.length_append]; omega) _ K (by rw [List.length_append]; omega), rec_next hf hy, Option.bind_some]
    unfold outR
    dsimp only
    have hpl : pre.length ≤ x.length := by rw [hx, List.length_append]; omega
    rw [if_pos rfl, if_pos (by omega)]
    have e : wrap64 (48 + ((flat (rd_T45 x 0).f4 pre).length : Int) + ((encS (rd_T45 x 0).f4 y).length : Int)) = 48 + ((flat (rd_T45 x 0).f4 (pre ++ [y])).length : Int) := by
      rw [flat_append, show flat (rd_T45 x 0).f4 [y] = encS (rd_T45 x 0).f4 y from by unfold flat; simp, List.length_append]
      unfold wrap64
      omega
    rw [e]
    exact ih (pre ++ [y]) K (by rw [hx]; simp) (by omega)
/-- What begins with a batch is read as it. -/
theorem dec_back {l : List Int} (hb : Bytes l) (hl : l.length ≤ 1000000) {b s p q : Int} {x : List S45} {n : Int} (h : IsB l b s p q x n) (k : Nat) (hk : 20030000 ≤ k) : batch_Decode.f k l = some (b, s, p, q, x, n, 0) := by
  obtain ⟨ho, hall, hbig⟩ := chkB_ok h.ok
  have hcount := off_count ho hall
  have h0 : 0 < x.length := Nat.pos_of_ne_zero ho.2.2.2.2.2.2.1
  have hf := first_ok h0 hall
  have hn := isB_len h
  obtain ⟨g0, g8, g16, g24, g32, g36, g40⟩ := isB_gets h
  have hle := h.le
  have hlen : 48 ≤ l.length := by omega
  obtain ⟨o1, o2, o3, o4, o5, o6, -, -⟩ := ho
  have hp := h.pr
  have hq := h.qr
  unfold batch_Decode.f
  have G := fun (a w : Nat) (h1 : 1 ≤ w) (h8 : w ≤ 8) (h : a + w ≤ l.length) => bget_f l hb (by omega) a w h1 h8 h k (by omega)
  have G8 := G 8 4 (by omega) (by omega) (by omega)
  have G16 := G 16 8 (by omega) (by omega) (by omega)
  have G24 := G 24 8 (by omega) (by omega) (by omega)
  have G32 := G 32 4 (by omega) (by omega) (by omega)
  have G36 := G 36 4 (by omega) (by omega) (by omega)
  have G40 := G 40 8 (by omega) (by omega) (by omega)
  have G0 := G 0 8 (by omega) (by omega) (by omega)
  rw [g8, w64 (by omega) (by omega)] at G8
  rw [g16, w64 (by omega) (by omega)] at G16
  rw [g24, w64 (by omega) (by omega)] at G24
  rw [g32, w64 (by omega) (by omega)] at G32
  rw [g40, w64 (by omega) (by omega)] at G40
  rw [g0, w64 (by omega) (by omega)] at G0
  rw [if_neg (by omega), show batch_get.f k l 8 4 = _ from G8, Option.bind_some, if_pos (by omega), if_neg (by omega), if_neg (by omega), if_neg (by omega), show batch_get.f k l 16 8 = _ from G16, Option.bind_some, show batch_get.f k l 24 8 = _ from G24, Option.bind_some, show batch_get.f k l 32 4 = _ from G32, Option.bind_some, show batch_get.f k l 36 4 = _ from G36, Option.bind_some, show batch_get.f k l 40 8 = _ from G40, Option.bind_some, show batch_get.f k l 0 8 = _ from G0, Option.bind_some,
    show 12 + (((bodyB s p q x).length : Int) + 4) = n by omega]
  exact dloop_back hb hl h x [] k rfl (by omega)
/-- The end's word is right. -/
theorem dfin_good {l : List Int} (hb : Bytes l) {b s p q : Int} {x : List S45} {n : Int} (hx : x.length ≤ 3000) (h0 : 0 ≤ n) (h1 : n ≤ (l.length : Int)) (hp : p ≤ 9223372036854775807) (hq : q ≤ 9223372036854775807) (k : Nat) (hk : 20000000 ≤ k) : ∃ r, batch_Decode.fin k l n b s p q x = some r ∧ GoodB l r := by
  unfold batch_Decode.fin
  rw [encode_f2 b s p q x hx k hk, Option.bind_some]
  unfold encB
  by_cases hc : chkB b s p q x = 0
  · rw [if_pos hc]
    dsimp only
    rw [if_pos rfl, equal_f (bytesB_bytes _ _ _ _ _) (take_bytes hb _), Option.bind_some]
    by_cases he : bytesB b s p q x = l.take n.toNat
    · rw [decide_eq_true he, if_pos rfl]
      refine ⟨_, rfl, .inr ⟨rfl, ⟨hc, ?_, h1, he.symm, hp, hq⟩⟩⟩
      show n = _
      rw [he, List.length_take]
      omega
    · rw [decide_eq_false he, if_neg (by simp)]
      exact ⟨_, rfl, .inl rfl⟩
  · rw [if_neg hc]
    dsimp only
    rw [if_neg hc]
    exact ⟨_, rfl, .inl rfl⟩
theorem dloop_good {l : List Int} (hb : Bytes l) {b s p q n first : Int} (h1 : n ≤ (l.length : Int)) (h2 : n ≤ 6000) (hp : p ≤ 9223372036854775807) (hq : q ≤ 9223372036854775807) (d : Nat) : ∀ (k : Nat) (at_ : Int) (x : List S45), 48 ≤ at_ → at_ ≤ n → n - at_ ≤ (d : Int) → 3 * (x.length : Int) ≤ at_ → 20010000 + d ≤ k →
    ∃ r, batch_Decode.l0 k l n first b s p q at_ x = some r ∧ GoodB l r := by
  induction d with
  | zero =>
    intro k at_ x ha hn hd hx hk
    obtain ⟨K, rfl⟩ : ∃ K, k = K + 1 := ⟨k - 1, by omega⟩
    rw [batch_Decode.l0, if_neg (by omega)]
    exact dfin_good hb (by omega) (by omega) h1 hp hq K (by omega)
  | succ d ih =>
    intro k at_ x ha hn hd hx hk
    obtain ⟨K, rfl⟩ : ∃ K, k = K + 1 := ⟨k - 1, by omega⟩
    rw [batch_Decode.l0]
    by_cases c : at_ < n
    · have hseg : ((l.take n.toNat).drop at_.toNat).length = (n - at_).toNat := by rw [List.length_drop, List.length_take]; omega
      have hsb := drop_bytes (take_bytes hb n.toNat) at_.toNat
      rw [if_pos c, if_pos (by omega), decode_f hsb (by omega) _ K (by omega), Option.bind_some]
      cases hd_ : decS ((l.take n.toNat).drop at_.toNat) first with
      | none => exact ⟨_, rfl, .inl rfl⟩
      | some r =>
        obtain ⟨hk_, key, hv, val, t, o, m⟩ := r
        have hr := decS_range hsb hd_
        unfold outR
        dsimp only
        rw [if_pos rfl, if_pos (by omega), w64 (by omega) (by omega)]
        exact ih K _ _ (by omega) (by omega) (by omega) (by rw [List.length_append]; simp only [List.length_cons, List.length_nil]; omega) (by omega)
    · rw [if_neg c]
      exact dfin_good hb (by omega) (by omega) h1 hp hq K (by omega)
theorem wrap64_range (x : Int) : -9223372036854775808 ≤ wrap64 x ∧ wrap64 x ≤ 9223372036854775807 := by unfold wrap64; omega
/-- Any bytes are the batch that they begin with, or none. -/
theorem dec_good {l : List Int} (hb : Bytes l) (hl : l.length ≤ 1000000) (k : Nat) (hk : 20030000 ≤ k) : ∃ r, batch_Decode.f k l = some r ∧ GoodB l r := by
  unfold batch_Decode.f
  by_cases c0 : (l.length : Int) < 48
  · rw [if_pos c0]; exact ⟨_, rfl, .inl rfl⟩
  have G := fun (a w : Nat) (h1 : 1 ≤ w) (h8 : w ≤ 8) (h : a + w ≤ l.length) => bget_f l hb (by omega) a w h1 h8 h k (by omega)
  have hr := get_range hb 8 4 true
  have e : wrap64 (get l 8 4 true) = get l 8 4 true := w64 (by omega) (by omega)
  rw [if_neg c0, show batch_get.f k l 8 4 = _ from G 8 4 (by omega) (by omega) (by omega), Option.bind_some, e, if_pos (by omega)]
  by_cases c1 : 12 + get l 8 4 true < 48
  · rw [if_pos c1]; exact ⟨_, rfl, .inl rfl⟩
  rw [if_neg c1]
  by_cases c2 : 12 + get l 8 4 true > (l.length : Int)
  · rw [if_pos c2]; exact ⟨_, rfl, .inl rfl⟩
  rw [if_neg c2]
  by_cases c3 : 12 + get l 8 4 true > 6000
  · rw [if_pos c3]; exact ⟨_, rfl, .inl rfl⟩
  rw [if_neg c3, show batch_get.f k l 16 8 = _ from G 16 8 (by omega) (by omega) (by omega), Option.bind_some, show batch_get.f k l 24 8 = _ from G 24 8 (by omega) (by omega) (by omega), Option.bind_some, show batch_get.f k l 32 4 = _ from G 32 4 (by omega) (by omega) (by omega), Option.bind_some, show batch_get.f k l 36 4 = _ from G 36 4 (by omega) (by omega) (by omega), Option.bind_some, show batch_get.f k l 40 8 = _ from G 40 8 (by omega) (by omega) (by omega), Option.bind_some, show batch_get.f k l 0 8 = _ from G 0 8 (by omega) (by omega) (by omega), Option.bind_some]
  exact dloop_good hb (by omega) (by omega) (wrap64_range _).2 (wrap64_range _).2 (6000 : Nat) k 48 [] (by omega) (by omega) (by omega) (by simp) (by omega)
/-- Two batches that the same bytes begin with are one. -/
theorem isB_one {l : List Int} (hb : Bytes l) (hl : l.length ≤ 1000000) {b s p q n b2 s2 p2 q2 n2 : Int} {x x2 : List S45} (h : IsB l b s p q x n) (h2 : IsB l b2 s2 p2 q2 x2 n2) : (b, s, p, q, x, n, (0 : Int)) = (b2, s2, p2, q2, x2, n2, 0) :=
  Option.some.inj ((dec_back hb hl h 20030000 (by omega)).symm.trans (dec_back hb hl h2 20030000 (by omega)))
end Go.Proofs.Ytgmeellapjimgaa.Bp

/- Bytes of a batch with another Base. -/
namespace Go.Proofs.Ytgmeellapjimgaa.Bp
open Go Go.RowKit Go.Proofs.Ytgmeellapjimgaa.PBm Go.Proofs.YtgmeellapjimgaaW.PrintWords Go.Proofs.YtgmeellapjimgaaW.PrintLast Go.Proofs.YtgmeellapjimgaaW.PrintMore
set_option linter.unusedVariables false
set_option linter.unusedSimpArgs false

/-- Bytes that are laid are read as what they were laid of, whatever stands behind. -/
theorem isB_self {b s p q : Int} {x : List S45} (h : chkB b s p q x = 0) (hp : p ≤ 9223372036854775807) (hq : q ≤ 9223372036854775807) (rest : List Int) : IsB (bytesB b s p q x ++ rest) b s p q x ((bytesB b s p q x).length : Int) :=
  ⟨h, rfl, by rw [List.length_append]; omega, by rw [Int.toNat_natCast, List.take_left], hp, hq⟩
/-- A batch's bytes with another Base. -/
theorem chkB_base {b s p q : Int} {x : List S45} (h : chkB b s p q x = 0) {a : Int} (ha : 0 ≤ a ∧ a ≤ 1125899906842624) : chkB a s p q x = 0 := by
  obtain ⟨ho, hall, hbig⟩ := chkB_ok h
  have hfe : ferr x = 0 := Classical.byContradiction fun hn => by unfold chkB at h; rw [if_neg (not_not_intro ho), if_neg hn] at h; exact hn h
  obtain ⟨o1, o2, o3⟩ := ho
  unfold chkB big
  rw [if_neg (not_not_intro ⟨by omega, by omega, o3⟩), if_pos hfe, if_neg (by omega)]
/-- What a Move of bytes comes to. -/
def moveR (l : List Int) (r : RB) (a : Int) : List Int × Int := if r.2.2.2.2.2.2 = 0 ∧ r.2.2.2.2.2.1 = (l.length : Int) then (if 0 ≤ a ∧ a ≤ 1125899906842624 then (beL (U a) 8 ++ l.drop 8, 0) else ([], 1)) else ([], 10)
theorem move_f {l : List Int} (hl : l.length ≤ 1000000) {r : RB} {k : Nat} (hk : 20040001 ≤ k) (hr : batch_Decode.f k l = some r) (hg : GoodB l r) (a : Int) : batch_Move.f k l a = some (moveR l r a) := by
  obtain ⟨K, rfl⟩ : ∃ K, k = K + 1 := ⟨k - 1, by omega⟩
  unfold batch_Move.f moveR
  rw [hr, Option.bind_some]
  by_cases c0 : r.2.2.2.2.2.2 = 0
  · rw [if_pos c0, batch_Move.j0]
    by_cases c1 : r.2.2.2.2.2.1 = (l.length : Int)
    · rw [if_pos (show r.2.2.2.2.2.2 = 0 ∧ r.2.2.2.2.2.1 = (l.length : Int) from ⟨c0, c1⟩), bne_eq_false_iff_eq.mpr c1, if_neg (by simp)]
      rcases hg with hg | ⟨_, hi⟩
      · rw [hg] at c0; simp [badB] at c0
      · have h48 := isB_len hi
        by_cases c2 : a < 0
        · rw [if_pos c2, if_neg (by omega)]
        · rw [if_neg c2]
          by_cases c3 : a > 1125899906842624
          · rw [if_pos c3, if_neg (by omega)]
          · rw [if_neg c3, if_pos (by omega), show batch_put.f K l 0 8 a = _ from bput_f l (by omega) 0 8 a (by omega) (by omega) (by omega) K (by omega), Option.bind_some]
            rfl
    · rw [if_neg (show ¬ (r.2.2.2.2.2.2 = 0 ∧ r.2.2.2.2.2.1 = (l.length : Int)) from fun h => c1 h.2), bne_iff_ne.mpr c1, if_pos rfl]
  · rw [if_neg c0, if_neg (show ¬ (r.2.2.2.2.2.2 = 0 ∧ r.2.2.2.2.2.1 = (l.length : Int)) from fun h => c0 h.1), batch_Move.j0, if_pos rfl]
/-- Moved, the bytes are those of the same batch with another Base. -/
theorem move_bytes (b s p q a : Int) (x : List S45) : beL (U a) 8 ++ (bytesB b s p q x).drop 8 = bytesB a s p q x := by
  unfold bytesB
  rw [drop_all _ _ 8 (beL_length _ _)]
end Go.Proofs.Ytgmeellapjimgaa.Bp

/- What the document's Get comes to, as printed. -/
namespace Go.Proofs.Ytgmeellapjimgaa.Bp
open Go Go.RowKit Go.Proofs.Ytgmeellapjimgaa.PBm Go.Proofs.YtgmeellapjimgaaW.PrintWords Go.Proofs.YtgmeellapjimgaaW.PrintLast Go.Proofs.YtgmeellapjimgaaW.PrintMore
set_option linter.unusedVariables false
set_option linter.unusedSimpArgs false

theorem take_next {l : List Int} {i : Nat} {x : Int} (h : l[i]? = some x) : l.take (i + 1) = l.take i ++ [x] := by
  rw [List.take_add_one, h]
  rfl
/-- The bytes read so far. -/
def part (l : List Int) (a i : Nat) (big : Bool) : Int := be (if big = true then (l.drop a).take i else ((l.drop a).take i).reverse)
theorem part_range {l : List Int} (hb : Bytes l) (a i : Nat) (big : Bool) : 0 ≤ part l a i big ∧ part l a i big < 256 ^ i := by
  have h1 : ((l.drop a).take i).length ≤ i := by rw [List.length_take]; omega
  have := pow256_le h1
  unfold part
  split
  · have := be_range _ (seg_bytes hb a i); omega
  · have := be_range _ (rev_bytes (seg_bytes hb a i)); rw [List.length_reverse] at this; omega
theorem u64_or_high (v x : Int) (i : Nat) (h0 : 0 ≤ v) (hv : v < 256 ^ i) (hx : 0 ≤ x ∧ x < 256) (hi : i ≤ 7) : Go.bits .or .u64 v (shl .u64 x (8 * (i : Int))) = x * 256 ^ i + v := by
  obtain ⟨a, rfl⟩ := Int.eq_ofNat_of_zero_le h0
  obtain ⟨b, rfl⟩ := Int.eq_ofNat_of_zero_le hx.1
  have hp : (2 : Int) ^ (8 * i) = 256 ^ i := by rw [Int.pow_mul]; rfl
  have hpn : 2 ^ (8 * i) = 256 ^ i := by rw [Nat.pow_mul]
  have hc : ((256 : Int) ^ i) = ((256 ^ i : Nat) : Int) := by rw [Int.natCast_pow]; rfl
  have ha : a < 2 ^ (8 * i) := by rw [hpn]; rw [hc] at hv; omega
  have h7 : 256 ^ i ≤ 256 ^ 7 := Nat.pow_le_pow_right (by decide) hi
  have hbm : b * 256 ^ i ≤ 255 * 256 ^ i := Nat.mul_le_mul_right _ (by omega)
  have h77 : (256 : Nat) ^ 7 = 72057594037927936 := by decide
  have e : shl .u64 (b : Int) (8 * (i : Int)) = ((2 ^ (8 * i) * b : Nat) : Int) := by
    unfold shl
    rw [show min (8 * (i : Int)).toNat (IntKind.u64).bits = 8 * i from by simp only [IntKind.bits]; omega, hp, hc]
    have : IntKind.u64.wrap ((b : Int) * ((256 ^ i : Nat) : Int)) = (b : Int) * ((256 ^ i : Nat) : Int) := by
      show ((b : Int) * ((256 ^ i : Nat) : Int)) % 18446744073709551616 = _
      have e2 : (b : Int) * ((256 ^ i : Nat) : Int) = ((b * 256 ^ i : Nat) : Int) := (Int.natCast_mul _ _).symm
      rw [e2]
      omega
    rw [this, hpn, Nat.mul_comm, Int.natCast_mul]
  rw [e]
  have hbm2 : 2 ^ (8 * i) * b ≤ 255 * 256 ^ i := by rw [hpn, Nat.mul_comm]; exact hbm
  rw [u64_or_nat _ _ (by omega) (by omega), Nat.or_comm, ← Nat.two_pow_add_eq_or_of_lt ha b, hpn, hc, Int.natCast_add, Int.natCast_mul, Int.mul_comm]
theorem rget_l0 (l : List Int) (hb : Bytes l) (hl : l.length ≤ 4000000000000000000) (a n : Nat) (big : Bool) (h : a + n ≤ l.length) (h8 : n ≤ 8) (m : Nat) : ∀ (k i : Nat), i + m = n → m + 1 ≤ k →
    bollardref1_Get.l0 k l (a : Int) (n : Int) big (part l a i big) (i : Int) = some (get l a n big, true) := by
  induction m with
  | zero =>
    intro k i hi hk
    obtain ⟨K, rfl⟩ : ∃ K, k = K + 1 := ⟨k - 1, by omega⟩
    obtain rfl : i = n := by omega
    simp only [bollardref1_Get.l0]
    rw [if_neg (by omega)]
    rfl
  | succ m ih =>
    intro k i hi hk
    obtain ⟨K, rfl⟩ : ∃ K, k = K + 1 := ⟨k - 1, by omega⟩
    simp only [bollardref1_Get.l0]
    have hr := part_range hb a i big
    have h7 := pow256_le (show i ≤ 7 by omega)
    have hp7 : (256 : Int) ^ 7 = 72057594037927936 := by decide
    have hx := rd_byte hb ((a : Int) + (i : Int))
    have hg : (l.drop a)[i]? = some (rd l ((a : Int) + (i : Int))) := by
      rw [List.getElem?_drop, show (a : Int) + (i : Int) = ((a + i : Nat) : Int) by omega, rd_at (by omega), List.getElem?_eq_getElem (by omega)]
    have hlen : ((l.drop a).take i).length = i := by rw [List.length_take, List.length_drop]; omega
    rw [if_pos (by omega), w64 (x := (a : Int) + (i : Int)) (by omega) (by omega), if_pos (by omega), if_pos (by omega), up64 i (by omega)]
    cases big with
    | true =>
      rw [if_pos (by trivial), u64_id (by omega) (by omega), u64_id (by omega) (by omega), u64_shl_or (by omega) hx (by omega)]
      have e : part l a i true * 256 + rd l ((a : Int) + (i : Int)) = part l a (i + 1) true := by
        unfold part
        rw [if_pos rfl, if_pos rfl, take_next hg, be_snoc]
      rw [e]
      exact ih K (i + 1) (by omega) (by omega)
    | false =>
      rw [if_neg (by simp), w64 (x := 8 * (i : Int)) (by omega) (by omega), if_pos (by omega), u64_id (by omega) (by omega), u64_or_high _ _ i hr.1 hr.2 hx (by omega)]
      have e : rd l ((a : Int) + (i : Int)) * 256 ^ i + part l a i false = part l a (i + 1) false := by
        unfold part
        rw [if_neg (by simp), if_neg (by simp), take_next hg, List.reverse_append, List.reverse_singleton, List.singleton_append, be_cons, List.length_reverse, hlen]
      rw [e]
      exact ih K (i + 1) (by omega) (by omega)
theorem rget_f (l : List Int) (hb : Bytes l) (hl : l.length ≤ 4000000000000000000) (a n : Nat) (big : Bool) (h1 : 1 ≤ n) (h8 : n ≤ 8) (h : a + n ≤ l.length) (k : Nat) (hk : 10 ≤ k) : bollardref1_Get.f k l (a : Int) (n : Int) big = some (get l a n big, true) := by
  obtain ⟨K, rfl⟩ : ∃ K, k = K + 1 := ⟨k - 1, by omega⟩
  unfold bollardref1_Get.f
  rw [if_neg (by omega), if_neg (by omega), if_neg (by omega), if_neg (by omega), w64 (by omega) (by omega), decide_eq_false (by omega)]
  simp only [bollardref1_Get.j0]
  rw [if_neg (by simp)]
  have e : part l a 0 big = 0 := by unfold part; split <;> rfl
  have := rget_l0 l hb hl a n big h h8 n K 0 (by omega) (by omega)
  rw [e] at this
  exact this
theorem rget_none (l : List Int) (hl : l.length ≤ 4000000000000000000) (a n : Int) (big : Bool) (h : ¬ (1 ≤ n ∧ n ≤ 8 ∧ 0 ≤ a ∧ a ≤ (l.length : Int) - n)) (k : Nat) (hk : 1 ≤ k) : bollardref1_Get.f k l a n big = some (0, false) := by
  obtain ⟨K, rfl⟩ : ∃ K, k = K + 1 := ⟨k - 1, by omega⟩
  have hj : bollardref1_Get.j0 (K + 1) l a n big true = some (0, false) := by
    simp only [bollardref1_Get.j0]
    rw [if_pos (by trivial)]
  unfold bollardref1_Get.f
  split
  · exact hj
  split
  · exact hj
  split
  · exact hj
  split
  · exact hj
  rw [w64 (by omega) (by omega), decide_eq_true (by omega)]
  exact hj

end Go.Proofs.Ytgmeellapjimgaa.Bp

/- What the document's Put comes to, as printed. -/
namespace Go.Proofs.Ytgmeellapjimgaa.Bp
open Go Go.RowKit Go.Proofs.Ytgmeellapjimgaa.PBm Go.Proofs.YtgmeellapjimgaaW.PrintWords Go.Proofs.YtgmeellapjimgaaW.PrintLast Go.Proofs.YtgmeellapjimgaaW.PrintMore
set_option linter.unusedVariables false
set_option linter.unusedSimpArgs false

theorem rput_l0 (l : List Int) (hl : l.length ≤ 140737488351232) (a n v : Nat) (big : Bool) (h : a + n ≤ l.length) (h8 : n ≤ 8) (m : Nat) : ∀ (k i : Nat) (c : List Int), i + m = n → m + 1 ≤ k →
    (∀ p, c[p]? = if a ≤ p ∧ p < a + i then some (dg v (wh n big (p - a))) else l[p]?) → c.length = l.length →
    bollardref1_Put.l0 k (a : Int) (n : Int) big (v : Int) c (i : Int) = some (lay l a n (fun p => dg v (wh n big p)), true) := by
  induction m with
  | zero =>
    intro k i c hi hk hc hcl
    obtain ⟨K, rfl⟩ : ∃ K, k = K + 1 := ⟨k - 1, by omega⟩
    simp only [bollardref1_Put.l0]
    rw [if_neg (by omega)]
    congr 2
    refine lay_eq h (fun p => ?_)
    rw [hc p]
    obtain rfl : i = n := by omega
    rfl
  | succ m ih =>
    intro k i c hi hk hc hcl
    obtain ⟨K, rfl⟩ : ∃ K, k = K + 1 := ⟨k - 1, by omega⟩
    simp only [bollardref1_Put.l0]
    have go : ∀ p, (c.set (a + i) (dg v (wh n big i)))[p]? = if a ≤ p ∧ p < a + (i + 1) then some (dg v (wh n big (p - a))) else l[p]? := by
      intro p
      rw [List.getElem?_set]
      by_cases e : a + i = p
      · subst e
        rw [if_pos rfl, if_pos (by omega), if_pos (by omega), show a + i - a = i by omega]
      · rw [if_neg e, hc p]
        by_cases d : a ≤ p ∧ p < a + i
        · rw [if_pos d, if_pos (by omega)]
        · rw [if_neg d, if_neg (by omega)]
    rw [if_pos (by omega), w64 (x := (n : Int) - 1) (by omega) (by omega), w64 (x := (n : Int) - 1 - (i : Int)) (by omega) (by omega), w64 (x := 8 * ((n : Int) - 1 - (i : Int))) (by omega) (by omega), w64 (x := 8 * (i : Int)) (by omega) (by omega), w64 (x := (a : Int) + (i : Int)) (by omega) (by omega), show wrap64 ((i : Int) + 1) = ((i + 1 : Nat) : Int) from by unfold wrap64; omega]
    cases big with
    | true =>
      rw [if_pos rfl, if_pos (by omega), if_pos (by omega), if_pos (by omega), show (n : Int) - 1 - (i : Int) = ((n - 1 - i : Nat) : Int) by omega, dg_shr v _ (by omega), show ((a : Int) + (i : Int)).toNat = a + i by omega]
      have h2 := ih K (i + 1) _ (by omega) (by omega) go (by rw [List.length_set]; exact hcl)
      rw [show wh n true i = n - 1 - i from by unfold wh; rw [if_pos rfl]] at h2
      exact h2
    | false =>
      rw [if_neg (by simp), if_pos (by omega), if_pos (by omega), if_pos (by omega), dg_shr v _ (by omega), show ((a : Int) + (i : Int)).toNat = a + i by omega]
      have h2 := ih K (i + 1) _ (by omega) (by omega) go (by rw [List.length_set]; exact hcl)
      rw [show wh n false i = i from by unfold wh; rw [if_neg (by simp)]] at h2
      exact h2
theorem rput_f (l : List Int) (hb : Bytes l) (hl : l.length ≤ 140737488351232) (a n v : Nat) (big : Bool) (h1 : 1 ≤ n) (h8 : n ≤ 8) (h : a + n ≤ l.length) (k : Nat) (hk : 10 ≤ k) : bollardref1_Put.f k l (a : Int) (n : Int) big (v : Int) = some (lay l a n (fun p => dg v (wh n big p)), true) := by
  unfold bollardref1_Put.f
  rw [rget_f l hb (by omega) a n big h1 h8 h k hk, Option.bind_some]
  dsimp only
  rw [if_pos rfl, if_pos (by simp only [List.length_nil]; omega), List.nil_append]
  refine rput_l0 l hl a n v big h h8 n k 0 l (by omega) (by omega) (fun p => ?_) rfl
  rw [if_neg (by omega)]
theorem rput_none (l : List Int) (hl : l.length ≤ 4000000000000000000) (a n v : Int) (big : Bool) (h : ¬ (1 ≤ n ∧ n ≤ 8 ∧ 0 ≤ a ∧ a ≤ (l.length : Int) - n)) (k : Nat) (hk : 1 ≤ k) : bollardref1_Put.f k l a n big v = some ([], false) := by
  unfold bollardref1_Put.f
  rw [rget_none l hl a n big h k hk, Option.bind_some]
  dsimp only
  rw [if_neg (by simp)]
end Go.Proofs.Ytgmeellapjimgaa.Bp

/- The document's reading of groups, as printed, is the same. -/
namespace Go.Proofs.Ytgmeellapjimgaa.Bp
open Go Go.RowKit Go.Proofs.Ytgmeellapjimgaa.PBm Go.Proofs.YtgmeellapjimgaaW.PrintWords Go.Proofs.YtgmeellapjimgaaW.PrintLast Go.Proofs.YtgmeellapjimgaaW.PrintMore
set_option linter.unusedVariables false
set_option linter.unusedSimpArgs false

theorem runvarint_l0 (l : List Int) (hb : Bytes l) (hl : l.length ≤ 4000000000000000000) (n : Nat) : ∀ (k i : Nat) (v : Int), i + n = l.length → i ≤ 10 → 3 * n + 2 ≤ k →
    bollardref1_Unvarint.l0 k l v (i : Int) = some (unv (l.drop i) i v) := by
  induction n with
  | zero =>
    intro k i v hi h10 hk
    obtain ⟨K, rfl⟩ : ∃ K, k = K + 1 + 1 := ⟨k - 2, by omega⟩
    simp only [bollardref1_Unvarint.l0]
    rw [List.drop_eq_nil_of_le (by omega)]
    have e : bollardref1_Unvarint.j1 (K + 1) l v (i : Int) false = some (unv [] i v) := by
      simp only [bollardref1_Unvarint.j1]
      rw [if_neg (by simp)]
      rfl
    by_cases c : (i : Int) < 10
    · rw [if_pos c, decide_eq_false (by omega)]
      exact e
    · rw [if_neg c]
      exact e
  | succ n ih =>
    intro k i v hi h10 hk
    obtain ⟨K, rfl⟩ : ∃ K, k = K + 1 + 1 + 1 := ⟨k - 3, by omega⟩
    simp only [bollardref1_Unvarint.l0]
    rw [drop_cons (by omega : i < l.length)]
    by_cases c : (i : Int) < 10
    · rw [if_pos c, decide_eq_true (by omega)]
      have hx := rd_byte hb (i : Int)
      have j : ∀ b : Bool, (b = true ↔ (i = 9 ∧ rd l (i : Int) > 1)) → bollardref1_Unvarint.j2 (K + 1) l v (i : Int) b = some (unv (rd l (i : Int) :: l.drop (i + 1)) i v) := by
        intro b hbb
        simp only [bollardref1_Unvarint.j2, unv]
        by_cases d : b = true
        · rw [if_pos d, if_pos (Or.inr (Or.inl (hbb.1 d)))]
        · have hd : ¬ (i = 9 ∧ rd l (i : Int) > 1) := fun h => d (hbb.2 h)
          rw [if_neg d, if_pos (by omega), if_pos (by omega), if_pos (by rw [w64 (by omega) (by omega)]; omega)]
          by_cases q : rd l (i : Int) < 128
          · rw [if_pos q]
            by_cases q0 : rd l (i : Int) = 0
            · rw [if_pos q0]
              by_cases qi : (i : Int) > 0
              · rw [if_pos qi, if_pos (Or.inr (Or.inr ⟨by omega, q0⟩))]
              · rw [if_neg qi, if_neg (by omega), if_pos q, up64 i (by omega)]
                rfl
            · rw [if_neg q0, if_neg (by omega), if_pos q, up64 i (by omega)]
              rfl
          · rw [if_neg q, if_neg (by omega), if_neg q, up64 i (by omega)]
            exact ih K (i + 1) _ (by omega) (by omega) (by omega)
      simp only [bollardref1_Unvarint.j1]
      rw [if_pos (by trivial)]
      by_cases c9 : (i : Int) = 9
      · rw [if_pos c9, if_pos (by omega), if_pos (by omega)]
        exact j _ (by simp; omega)
      · rw [if_neg c9]
        exact j false (by simp; omega)
    · rw [if_neg c]
      simp only [bollardref1_Unvarint.j1, unv]
      rw [if_neg (by simp), if_pos (Or.inl (by omega))]

theorem runvarint_f (l : List Int) (hb : Bytes l) (hl : l.length ≤ 4000000000000000000) (k : Nat) (hk : 3 * l.length + 2 ≤ k) : bollardref1_Unvarint.f k l = some (unv l 0 0) := by
  unfold bollardref1_Unvarint.f
  exact runvarint_l0 l hb hl l.length k 0 0 (by omega) (by omega) hk

end Go.Proofs.Ytgmeellapjimgaa.Bp

/- What the document's Decode of a record comes to, as printed: the same. -/
namespace Go.Proofs.Ytgmeellapjimgaa.Bp
open Go Go.RowKit Go.Proofs.Ytgmeellapjimgaa.PBm Go.Proofs.YtgmeellapjimgaaW.PrintWords Go.Proofs.YtgmeellapjimgaaW.PrintLast Go.Proofs.YtgmeellapjimgaaW.PrintMore
set_option linter.unusedVariables false
set_option linter.unusedSimpArgs false

theorem rtext_f {l : List Int} (hb : Bytes l) (hl : l.length ≤ 1000000000000000) {p : Int} (h0 : 0 ≤ p) (h1 : p ≤ (l.length : Int)) (k : Nat) (hk : 3 * l.length + 2 ≤ k) :
    (bollardref12_text.f k l p = some (⟨#[]⟩, -1) ∧ (txR l p true = none ∨ ∃ s q, txR l p true = some (s, q) ∧ 2000 < s.size)) ∨ (∃ s q, bollardref12_text.f k l p = some (s, q) ∧ txR l p true = some (s, q) ∧ s.size ≤ 2000) := by
  have hr := unv0_range (hb.drop p.toNat)
  have hd : (l.drop p.toNat).length = l.length - p.toNat := List.length_drop
  rw [hd] at hr
  unfold bollardref12_text.f txR
  rw [if_pos ⟨hl, h0, h1⟩, runvarint_f _ (hb.drop _) (by omega) k (by omega), Option.bind_some, if_pos (by omega), if_pos rfl]
  generalize unv (l.drop p.toNat) 0 0 = a at hr ⊢
  by_cases c1 : a.2 = 0
  · rw [if_pos c1, if_pos c1]
    exact .inl ⟨rfl, .inl rfl⟩
  rw [if_neg c1, if_neg c1]
  by_cases c3 : (l.length : Int) - (p + a.2) < a.1
  · rw [if_pos c3]
    left
    refine ⟨?_, .inl rfl⟩
    by_cases c2 : 2000 < a.1
    · rw [if_pos c2]
    · rw [if_neg c2, if_pos (by omega)]
  · rw [if_neg c3]
    have hsz : (strOfNums ((l.take (p + a.2 + a.1).toNat).drop (p + a.2).toNat)).size = a.1.toNat := by
      rw [strOfNums_size, List.length_drop, List.length_take]
      omega
    by_cases c2 : 2000 < a.1
    · rw [if_pos c2]
      exact .inl ⟨rfl, .inr ⟨_, _, rfl, by rw [hsz]; omega⟩⟩
    · rw [if_neg c2, if_neg (by omega)]
      exact .inr ⟨_, _, rfl, rfl, by rw [hsz]; omega⟩

theorem and2 {x : Int} (h : 0 ≤ x ∧ x ≤ 3) : (Go.bits BinOp.and IntKind.u8 x 2 == 2) = decide (2 ≤ x) := by
  have : x = 0 ∨ x = 1 ∨ x = 2 ∨ x = 3 := by omega
  rcases this with e | e | e | e <;> subst e <;> decide
theorem and1 {x : Int} (h : 0 ≤ x ∧ x ≤ 3) : (Go.bits BinOp.and IntKind.u8 x 1 == 1) = decide (x % 2 = 1) := by
  have : x = 0 ∨ x = 1 ∨ x = 2 ∨ x = 3 := by omega
  rcases this with e | e | e | e <;> subst e <;> decide

theorem rnum_f {l : List Int} (hb : Bytes l) (hl : l.length ≤ 1000000000000000) {i : Int} (h0 : 0 ≤ i) (h1 : i ≤ (l.length : Int)) (k : Nat) (hk : 3 * l.length + 2 ≤ k) : bollardref12_Decode.num k l i = some (unv (l.drop i.toNat) 0 0) := by
  have hr := unv0_range (hb.drop i.toNat)
  have hd : (l.drop i.toNat).length = l.length - i.toNat := List.length_drop
  rw [hd] at hr
  unfold bollardref12_Decode.num
  rw [runvarint_f _ (hb.drop _) (by omega) k (by omega), Option.bind_some, if_pos (by omega)]

theorem rtx_f {l : List Int} (hb : Bytes l) (hl : l.length ≤ 1000000000000000) (is : Bool) {p : Int} (h0 : 0 ≤ p) (h1 : p ≤ (l.length : Int)) (k : Nat) (hk : 3 * l.length + 2 ≤ k) :
    (bollardref12_Decode.tx k l is p = some (⟨#[]⟩, -1) ∧ (txR l p is = none ∨ ∃ s q, txR l p is = some (s, q) ∧ 2000 < s.size)) ∨ (∃ s q, bollardref12_Decode.tx k l is p = some (s, q) ∧ txR l p is = some (s, q) ∧ s.size ≤ 2000) := by
  cases is with
  | true => exact rtext_f hb hl h0 h1 k hk
  | false => exact .inr ⟨⟨#[]⟩, p, rfl, rfl, by decide⟩

theorem rdecode_f {l : List Int} (hb : Bytes l) (hl : l.length ≤ 1000000000000000) (first : Int) (hf : -9223372036854775808 ≤ first ∧ first ≤ 9223372036854775807) (k : Nat) (hk : 3 * l.length + 20 ≤ k) : bollardref12_Decode.f k l first = some (outR (decS l first)) := by
  unfold bollardref12_Decode.f decS
  by_cases c : l.length = 0 ∨ 3 < rd l 0 ∨ first < 0 ∨ 1125899906842624 < first
  · rw [if_pos c, if_pos (by unfold bollardref12_Decode.no1; simp only [Bool.or_eq_true, decide_eq_true_eq]; omega)]
    rfl
  rw [if_neg c, if_neg (by unfold bollardref12_Decode.no1; simp only [Bool.or_eq_true, decide_eq_true_eq]; omega)]
  have r0 := rd_byte hb 0
  have ra := unv0_range (hb.drop 1)
  have hd : (l.drop 1).length = l.length - 1 := List.length_drop
  rw [hd] at ra
  rw [rnum_f hb hl (i := 1) (by omega) (by omega) k (by omega), Option.bind_some, show (1 : Int).toNat = 1 from rfl]
  generalize unv (l.drop 1) 0 0 = a at ra ⊢
  by_cases c4 : a.2 = 0 ∨ 100 ≤ a.1
  · rw [if_pos c4, if_pos (by unfold bollardref12_Decode.no2; simp only [Bool.or_eq_true, decide_eq_true_eq]; omega)]
    rfl
  rw [if_neg c4, if_neg (by unfold bollardref12_Decode.no2; simp only [Bool.or_eq_true, decide_eq_true_eq]; omega)]
  have rb := unv0_range (hb.drop ((1 + a.2).toNat))
  have hd2 : (l.drop ((1 + a.2).toNat)).length = l.length - (1 + a.2).toNat := List.length_drop
  rw [hd2] at rb
  rw [rnum_f hb hl (i := 1 + a.2) (by omega) (by omega) k (by omega), Option.bind_some]
  generalize unv (l.drop (1 + a.2).toNat) 0 0 = b at rb ⊢
  have ez : bollardref1_Zag.f b.1 = some (zag b.1) := zag_f (by omega)
  have hz := zag_range (u := b.1) (by omega)
  rw [ez, Option.bind_some]
  by_cases c5 : b.2 = 0 ∨ zag b.1 < -first ∨ 1125899906842624 - first < zag b.1
  · rw [if_pos c5, if_pos (by unfold bollardref12_Decode.no3; simp only [Bool.or_eq_true, decide_eq_true_eq]; omega)]
    rfl
  rw [if_neg c5, if_neg (by unfold bollardref12_Decode.no3; simp only [Bool.or_eq_true, decide_eq_true_eq]; omega), and1 (by omega), and2 (by omega)]
  generalize decide (rd l 0 % 2 = 1) = hk
  generalize decide (2 ≤ rd l 0) = hv
  rcases rtx_f hb hl hk (p := 1 + a.2 + b.2) (by omega) (by omega) k (by omega) with ⟨e1, e2⟩ | ⟨s, p, e1, e2, e3⟩
  · rw [e1, Option.bind_some, show (decide ((0 : Int) ≤ -1) && hv) = false from rfl]
    show some (outR none) = _
    rcases e2 with e2 | ⟨s, p, e2, e3⟩
    · rw [e2]; rfl
    · rw [e2, Option.bind_some]
      cases txR l (s, p).2 hv with
      | none => rfl
      | some y => rw [Option.bind_some, if_pos (Or.inl e3)]
  · have hrg := txR_range hb (by omega) (by omega) e2
    rw [e1, e2, Option.bind_some, Option.bind_some, show (decide (0 ≤ (s, p).2) && hv) = hv by rw [decide_eq_true (show 0 ≤ (s, p).2 from by simp only; omega)]; rfl]
    rcases rtx_f hb hl hv (p := p) (by omega) (by omega) k (by omega) with ⟨f1, f2⟩ | ⟨s2, p2, f1, f2, f3⟩
    · rw [f1, Option.bind_some, if_pos (by decide)]
      rcases f2 with f2 | ⟨s2, p2, f2, f3⟩
      · rw [f2]; rfl
      · rw [f2, Option.bind_some, if_pos (Or.inr f3)]; rfl
    · have hrg2 := txR_range hb (by omega) (by omega) f2
      rw [f1, f2, Option.bind_some, Option.bind_some, if_neg (by simp only; omega), if_neg (by simp only; omega)]
      rfl

end Go.Proofs.Ytgmeellapjimgaa.Bp

/- What the document's Decode of a batch comes to: the batch that the bytes begin with, or none. -/
namespace Go.Proofs.Ytgmeellapjimgaa.Bp
open Go Go.RowKit Go.Proofs.Ytgmeellapjimgaa.PBm Go.Proofs.YtgmeellapjimgaaW.PrintWords Go.Proofs.YtgmeellapjimgaaW.PrintLast Go.Proofs.YtgmeellapjimgaaW.PrintMore
set_option linter.unusedVariables false
set_option linter.unusedSimpArgs false

theorem rfin_back {l : List Int} {b s p q : Int} {x : List S45} {n : Int} (h : IsB l b s p q x n) (k : Nat) (hk : 20000000 ≤ k) : bollardref12_DecodeG.fin k l n n b s p q x = some (b, s, p, q, x, n, 0) := by
  have hc := off_count (chkB_ok h.ok).1 (chkB_ok h.ok).2.1
  unfold bollardref12_DecodeG.fin
  rw [rencodeB_f b s p q x (by omega) k hk, Option.bind_some]
  unfold encB
  rw [if_pos h.ok]
  dsimp only
  rw [if_pos rfl, if_pos rfl, h.eq, if_pos rfl]
theorem rloop_back {l : List Int} (hl : l.length ≤ 1000000) {b s p q : Int} {x : List S45} {n : Int} (h : IsB l b s p q x n) : ∀ (suf pre : List S45) (k : Nat), x = pre ++ suf → 20020000 + suf.length ≤ k →
    bollardref12_DecodeG.l0 k l n (x.length : Int) (rd_T45 x 0).f4 b s p q (48 + ((flat (rd_T45 x 0).f4 pre).length : Int)) (pre.length : Int) pre = some (b, s, p, q, x, n, 0) := by
  obtain ⟨ho, hall, hbig⟩ := chkB_ok h.ok
  have hcount := off_count ho hall
  have h0 : 0 < x.length := Nat.pos_of_ne_zero ho.2.2.2.2.2.2.1
  have hf := first_ok h0 hall
  have hn := isB_len h
  intro suf
  induction suf with
  | nil =>
    intro pre k hx hk
    obtain ⟨K, rfl⟩ : ∃ K, k = K + 1 := ⟨k - 1, by omega⟩
    rw [List.append_nil] at hx
    subst hx
    rw [bollardref12_DecodeG.l0, if_neg (by omega), show 48 + ((flat (rd_T45 x 0).f4 x).length : Int) = n by omega]
    exact rfin_back h K (by omega)
  | cons y suf ih =>
    intro pre k hx hk
    obtain ⟨K, rfl⟩ : ∃ K, k = K + 1 := ⟨k - 1, by omega⟩
    have hy : chkS y = 0 := hall y (by rw [hx]; simp)
    have hbe := behind h hx
    have hfx : (flat (rd_T45 x 0).f4 x).length = (flat (rd_T45 x 0).f4 pre).length + ((encS (rd_T45 x 0).f4 y).length + (flat (rd_T45 x 0).f4 suf).length) := by
      have e_ : flat (rd_T45 x 0).f4 x = flat (rd_T45 x 0).f4 pre ++ (encS (rd_T45 x 0).f4 y ++ flat (rd_T45 x 0).f4 suf) := by rw [← flat_cons, ← flat_append, ← hx]
      rw [e_, List.length_append, List.length_append]
    have hxl : x.length = pre.length + (suf.length + 1) := by rw [hx, List.length_append, List.length_cons]
    simp only [List.length_cons] at hk
    rw [bollardref12_DecodeG.l0, if_pos (by omega), if_pos (by omega), show (48 + ((flat (rd_T45 x 0).f4 pre).length : Int)).toNat = 48 + (flat (rd_T45 x 0).f4 pre).length by omega, hbe, flat_cons,
      rdecode_f (app_bytes (encS_bytes _ _) (flat_bytes _ _)) (by rw [List.length_append]; omega) _ (by omega) K (by rw [List.length_append]; omega), rec_next hf hy, Option.bind_some]
    unfold outR
    dsimp only
    rw [if_pos rfl, if_pos (by omega)]
    have e : wrap64 (48 + ((flat (rd_T45 x 0).f4 pre).length : Int) + ((encS (rd_T45 x 0).f4 y).length : Int)) = 48 + ((flat (rd_T45 x 0).f4 (pre ++ [y])).length : Int) := by
      rw [flat_append, show flat (rd_T45 x 0).f4 [y] = encS (rd_T45 x 0).f4 y from by unfold flat; simp, List.length_append]
      unfold wrap64
      omega
    have e2 : wrap64 ((pre.length : Int) + 1) = (((pre ++ [y]).length : Nat) : Int) := by
      rw [List.length_append, List.length_cons, List.length_nil]
      unfold wrap64
      omega
    rw [e, e2]
    exact ih (pre ++ [y]) K (by rw [hx]; simp) (by omega)
theorem rfin_good {l : List Int} (hb : Bytes l) {b s p q : Int} {x : List S45} {n i : Int} (hx : x.length ≤ 3000) (h0 : 0 ≤ n) (h1 : n ≤ (l.length : Int)) (hp : p ≤ 9223372036854775807) (hq : q ≤ 9223372036854775807) (k : Nat) (hk : 20000000 ≤ k) : ∃ r, bollardref12_DecodeG.fin k l n i b s p q x = some r ∧ GoodB l r := by
  unfold bollardref12_DecodeG.fin
  rw [rencodeB_f b s p q x hx k hk, Option.bind_some]
  unfold encB
  by_cases hc : chkB b s p q x = 0
  · rw [if_pos hc]
    dsimp only
    rw [if_pos rfl]
    by_cases hi : i = n
    · rw [if_pos hi]
      by_cases he : (strOfNums (bytesB b s p q x)).toList = (strOfNums (l.take n.toNat)).toList
      · rw [if_pos he]
        have he := (strs_eq (bytesB_bytes _ _ _ _ _) (take_bytes hb _)).1 he
        refine ⟨_, rfl, .inr ⟨rfl, ⟨hc, ?_, h1, he.symm, hp, hq⟩⟩⟩
        show n = _
        rw [he, List.length_take]
        omega
      · rw [if_neg he]
        exact ⟨_, rfl, .inl rfl⟩
    · rw [if_neg hi]
      exact ⟨_, rfl, .inl rfl⟩
  · rw [if_neg hc]
    dsimp only
    rw [if_neg hc]
    exact ⟨_, rfl, .inl rfl⟩
theorem rloop_good {l : List Int} (hb : Bytes l) {b s p q n first : Int} {cn : Nat} (h1 : n ≤ (l.length : Int)) (h2 : n ≤ 6012) (hc : cn ≤ 100) (hf : 0 ≤ first ∧ first ≤ 1125899906842624) (hp : p ≤ 9223372036854775807) (hq : q ≤ 9223372036854775807) (d : Nat) : ∀ (k j : Nat) (i : Int) (x : List S45), j + d = cn → x.length = j → 48 ≤ i → i ≤ n → 20010000 + d ≤ k →
    ∃ r, bollardref12_DecodeG.l0 k l n (cn : Int) first b s p q i (j : Int) x = some r ∧ GoodB l r := by
  induction d with
  | zero =>
    intro k j i x hj hx ha hn hk
    obtain ⟨K, rfl⟩ : ∃ K, k = K + 1 := ⟨k - 1, by omega⟩
    rw [bollardref12_DecodeG.l0, if_neg (by omega)]
    exact rfin_good hb (by omega) (by omega) h1 hp hq K (by omega)
  | succ d ih =>
    intro k j i x hj hx ha hn hk
    obtain ⟨K, rfl⟩ : ∃ K, k = K + 1 := ⟨k - 1, by omega⟩
    have hseg : ((l.take n.toNat).drop i.toNat).length = (n - i).toNat := by rw [List.length_drop, List.length_take]; omega
    have hsb := drop_bytes (take_bytes hb n.toNat) i.toNat
    rw [bollardref12_DecodeG.l0, if_pos (by omega), if_pos (by omega), rdecode_f hsb (by omega) _ (by omega) K (by omega), Option.bind_some]
    cases hd_ : decS ((l.take n.toNat).drop i.toNat) first with
    | none => exact ⟨_, rfl, .inl rfl⟩
    | some r =>
      obtain ⟨hk_, key, hv, val, t, o, m⟩ := r
      have hr := decS_range hsb hd_
      unfold outR
      dsimp only
      rw [if_pos rfl, if_pos (by omega), w64 (x := i + m) (by omega) (by omega), show wrap64 ((j : Int) + 1) = ((j + 1 : Nat) : Int) from by unfold wrap64; omega]
      exact ih K (j + 1) _ _ (by omega) (by rw [List.length_append, hx]; rfl) (by omega) (by omega) (by omega)
/-- What huge may tell of bytes. -/
def GoodH (H_ : Nat → List Int → Int → Int → Int → Int → Option RB) (l : List Int) : Prop := ∀ k, 20040000 ≤ k → 48 ≤ l.length → ∃ r, H_ k l (get l 0 8 true) (get l 8 4 true) (get l 16 8 true) (get l 24 8 true) = some r ∧ GoodB l r
def BackH (H_ : Nat → List Int → Int → Int → Int → Int → Option RB) (l : List Int) : Prop := ∀ k, 20040000 ≤ k → ∀ b s p q x n, IsB l b s p q x n → 4611686018427387904 < p ∨ 4611686018427387904 < q → H_ k l b (n - 12) p q = some (b, s, p, q, x, n, 0)
theorem rgets {l : List Int} (hb : Bytes l) (hl : l.length ≤ 1000000) (h : 48 ≤ l.length) (H_ : Nat → List Int → Int → Int → Int → Int → Option RB) (k : Nat) (hk : 20040000 ≤ k) : bollardref12_DecodeG.f H_ k l =
    if bollardref12_DecodeG.early l (get l 0 8 true) (get l 8 4 true) (get l 16 8 true) (get l 24 8 true) (get l 32 4 true) (get l 36 4 true) (get l 40 8 true) then H_ k l (get l 0 8 true) (get l 8 4 true) (get l 16 8 true) (get l 24 8 true)
    else bollardref12_DecodeG.l0 k l (12 + get l 8 4 true) (get l 36 4 true) (get l 40 8 true) (get l 0 8 true) (get l 32 4 true) (get l 16 8 true) (get l 24 8 true) 48 0 [] := by
  have G := fun (a w : Nat) (h1 : 1 ≤ w) (h8 : w ≤ 8) (h : a + w ≤ l.length) => rget_f l hb (by omega) a w true h1 h8 h k (by omega)
  have r0 := get_range hb 0 8 true
  have r8 := get_range hb 8 4 true
  have r16 := get_range hb 16 8 true
  have r24 := get_range hb 24 8 true
  have r32 := get_range hb 32 4 true
  have r36 := get_range hb 36 4 true
  have r40 := get_range hb 40 8 true
  unfold bollardref12_DecodeG.f
  rw [if_neg (by omega), show bollardref1_Get.f k l 0 8 true = _ from G 0 8 (by omega) (by omega) (by omega), Option.bind_some, show bollardref1_Get.f k l 8 4 true = _ from G 8 4 (by omega) (by omega) (by omega), Option.bind_some, show bollardref1_Get.f k l 16 8 true = _ from G 16 8 (by omega) (by omega) (by omega), Option.bind_some, show bollardref1_Get.f k l 24 8 true = _ from G 24 8 (by omega) (by omega) (by omega), Option.bind_some,
    show bollardref1_Get.f k l 32 4 true = _ from G 32 4 (by omega) (by omega) (by omega), Option.bind_some, show bollardref1_Get.f k l 36 4 true = _ from G 36 4 (by omega) (by omega) (by omega), Option.bind_some, show bollardref1_Get.f k l 40 8 true = _ from G 40 8 (by omega) (by omega) (by omega), Option.bind_some]
  dsimp only
  rw [if_pos ⟨r0.1, r8.1, r16.1, r24.1, r32.1, r36.1, r40.1⟩]
theorem rdec_good {l : List Int} (hb : Bytes l) (hl : l.length ≤ 1000000) {H_ : Nat → List Int → Int → Int → Int → Int → Option RB} (HG : GoodH H_ l) (k : Nat) (hk : 20040000 ≤ k) : ∃ r, bollardref12_DecodeG.f H_ k l = some r ∧ GoodB l r := by
  by_cases c0 : (l.length : Int) < 48
  · unfold bollardref12_DecodeG.f
    rw [if_pos c0]
    exact ⟨_, rfl, .inl rfl⟩
  rw [rgets hb hl (by omega) H_ k hk]
  by_cases c1 : bollardref12_DecodeG.early l (get l 0 8 true) (get l 8 4 true) (get l 16 8 true) (get l 24 8 true) (get l 32 4 true) (get l 36 4 true) (get l 40 8 true)
  · rw [if_pos c1]
    exact HG k hk (by omega)
  · rw [if_neg c1]
    have r40 := get_range hb 40 8 true
    unfold bollardref12_DecodeG.early at c1
    obtain ⟨cn, hcn⟩ : ∃ cn : Nat, get l 36 4 true = (cn : Int) := ⟨(get l 36 4 true).toNat, by omega⟩
    rw [hcn]
    exact rloop_good hb (cn := cn) (by omega) (by omega) (by omega) (by omega) (by omega) (by omega) cn k 0 48 [] (by omega) rfl (by omega) (by omega) (by omega)
theorem rdec_back {l : List Int} (hb : Bytes l) (hl : l.length ≤ 1000000) {H_ : Nat → List Int → Int → Int → Int → Int → Option RB} (HB : BackH H_ l) {b s p q : Int} {x : List S45} {n : Int} (h : IsB l b s p q x n) (k : Nat) (hk : 20040000 ≤ k) : bollardref12_DecodeG.f H_ k l = some (b, s, p, q, x, n, 0) := by
  obtain ⟨ho, hall, hbig⟩ := chkB_ok h.ok
  have hcount := off_count ho hall
  have h0 : 0 < x.length := Nat.pos_of_ne_zero ho.2.2.2.2.2.2.1
  have hf := first_ok h0 hall
  have hn := isB_len h
  have hle := h.le
  obtain ⟨g0, g8, g16, g24, g32, g36, g40⟩ := isB_gets h
  obtain ⟨o1, o2, o3, o4, o5, o6, -, -⟩ := ho
  rw [rgets hb hl (by omega) H_ k hk, g0, g8, g16, g24, g32, g36, g40]
  by_cases c1 : 4611686018427387904 < p ∨ 4611686018427387904 < q
  · rw [if_pos (by unfold bollardref12_DecodeG.early; omega)]
    have := HB k hk b s p q x n h c1
    rw [show n - 12 = ((bodyB s p q x).length : Int) + 4 by omega] at this
    exact this
  · rw [if_neg (by unfold bollardref12_DecodeG.early; omega), show 12 + (((bodyB s p q x).length : Int) + 4) = n by omega]
    exact rloop_back hl h x [] k rfl (by omega)
/-- Without a great producer or Seq huge refuses. -/
theorem huge_small (S_ : Nat → List Int → Int → Option RB) {l : List Int} (hl : 48 ≤ l.length) {a n p q : Int} (hn : 0 ≤ n) (hp : 0 ≤ p ∧ p ≤ 4611686018427387904) (hq : 0 ≤ q ∧ q ≤ 4611686018427387904) (k : Nat) : bollardref12_hugeG.f S_ k l a n p q = some badB := by
  unfold bollardref12_hugeG.f
  rw [if_pos (by omega), if_pos (by unfold bollardref12_hugeG.no; omega)]
  rfl
theorem zset_get (l : List Int) : ∀ (m p : Nat), 16 + m ≤ l.length → (zset l m)[p]? = if 16 ≤ p ∧ p < 16 + m then some 0 else l[p]?
  | 0, p, h => by rw [if_neg (by omega)]; rfl
  | m + 1, p, h => by
    rw [zset, List.getElem?_set]
    by_cases e : 16 + m = p
    · subst e
      rw [if_pos rfl, if_pos (by rw [zset_len]; omega), if_pos (by omega)]
    · rw [if_neg e, zset_get l m p (by omega)]
      by_cases d : 16 ≤ p ∧ p < 16 + m
      · rw [if_pos d, if_pos (by omega)]
      · rw [if_neg d, if_neg (by omega)]
theorem zset_16 {A B C : List Int} (hA : A.length = 16) (hB : B.length = 16) : zset (A ++ (B ++ C)) 16 = A ++ (Z 16 ++ C) := by
  refine List.ext_getElem? fun p => ?_
  rw [zset_get _ _ _ (by simp only [List.length_append]; omega)]
  by_cases c : p < 16
  · rw [if_neg (by omega), List.getElem?_append_left (by omega), List.getElem?_append_left (by omega)]
  · have e1 : (A ++ (B ++ C))[p]? = (B ++ C)[p - 16]? := by rw [List.getElem?_append_right (by omega), hA]
    have e2 : (A ++ (Z 16 ++ C))[p]? = (Z 16 ++ C)[p - 16]? := by rw [List.getElem?_append_right (by omega), hA]
    rw [e1, e2]
    by_cases d : p - 16 < 16
    · rw [if_pos (by omega), List.getElem?_append_left (by rw [Z_len]; exact d)]
      unfold Z
      rw [List.getElem?_replicate, if_pos d]
    · rw [if_neg (by omega), List.getElem?_append_right (by omega), List.getElem?_append_right (by rw [Z_len]; omega), hB, Z_len]
/-- The bytes that smaller reads. -/
def smz (l : List Int) : List Int := lay (zset l 16) 12 4 (fun j => dg (Crc.crc ((zset l 16).drop 16)).toNat (wh 4 true j))
theorem parts {l : List Int} (h : 32 ≤ l.length) : ∃ A B C, l = A ++ (B ++ C) ∧ A.length = 16 ∧ B.length = 16 :=
  ⟨l.take 16, (l.drop 16).take 16, (l.drop 16).drop 16, by rw [List.take_append_drop, List.take_append_drop], by rw [List.length_take]; omega, by rw [List.length_take, List.length_drop]; omega⟩
theorem zset_bytes {l : List Int} (hb : Bytes l) (h : 32 ≤ l.length) : Bytes (zset l 16) := by
  obtain ⟨A, B, C, rfl, hA, hB⟩ := parts h
  rw [zset_16 hA hB]
  refine app_bytes (fun x hx => hb x (by simp [hx])) (app_bytes (fun x hx => ?_) (fun x hx => hb x (by simp [hx])))
  unfold Z at hx
  obtain rfl := List.eq_of_mem_replicate hx
  omega
theorem smaller_f {l : List Int} (hb : Bytes l) (hl : l.length ≤ 1000000) {n : Int} (h0 : 36 ≤ n) (h1 : 12 + n ≤ (l.length : Int)) (k : Nat) (hk : 20000000 ≤ k) : bollardref12_smaller.f k l n = bollardref12_DecodeBatch0.f k (smz (l.take (12 + n).toNat)) := by
  have htl : (l.take (12 + n).toNat).length = (12 + n).toNat := by rw [List.length_take]; omega
  have hzb := zset_bytes (take_bytes hb (12 + n).toNat) (by omega)
  have hzl := zset_len (l.take (12 + n).toNat) 16
  have hc := crc_rng ((zset (l.take (12 + n).toNat) 16).drop 16)
  unfold bollardref12_smaller.f
  rw [if_pos (by omega), Crc.rsum_f _ (by rw [List.length_drop]; omega) k (by rw [List.length_drop]; omega), Option.bind_some, if_pos hc]
  have hp := rput_f (zset (l.take (12 + n).toNat) 16) hzb (by omega) 12 4 (Crc.crc ((zset (l.take (12 + n).toNat) 16).drop 16)).toNat true (by omega) (by omega) (by omega) k (by omega)
  rw [show (((Crc.crc ((zset (l.take (12 + n).toNat) 16).drop 16)).toNat : Nat) : Int) = Crc.crc ((zset (l.take (12 + n).toNat) 16).drop 16) by omega] at hp
  rw [show bollardref1_Put.f k (zset (l.take (12 + n).toNat) 16) 12 4 true _ = _ from hp, Option.bind_some]
  rfl
theorem smz_len {l : List Int} (h : 32 ≤ l.length) : (smz l).length = l.length := by
  unfold smz
  rw [lay_length _ _ _ _ (by rw [zset_len]; omega), zset_len]
theorem smz_bytes {l : List Int} (hb : Bytes l) (h : 32 ≤ l.length) : Bytes (smz l) := lay_bytes _ _ _ _ (zset_bytes hb h) (fun _ => dg_byte _ _)
theorem smz_eq {A4 S4 B C : List Int} (hA : A4.length = 12) (hS : S4.length = 4) (hB : B.length = 16) : smz (A4 ++ (S4 ++ (B ++ C))) = A4 ++ (beL (Crc.crc (Z 16 ++ C)).toNat 4 ++ (Z 16 ++ C)) := by
  have e : zset (A4 ++ (S4 ++ (B ++ C))) 16 = A4 ++ (S4 ++ (Z 16 ++ C)) := by
    have := zset_16 (A := A4 ++ S4) (B := B) (C := C) (by rw [List.length_append]; omega) hB
    simpa [List.append_assoc] using this
  unfold smz
  rw [e, show (A4 ++ (S4 ++ (Z 16 ++ C))).drop 16 = Z 16 ++ C from by rw [← List.append_assoc]; exact drop_all _ _ _ (by rw [List.length_append]; omega)]
  unfold lay
  rw [range_big, take_all _ _ _ hA, show (A4 ++ (S4 ++ (Z 16 ++ C))).drop (12 + 4) = Z 16 ++ C from by rw [← List.append_assoc]; exact drop_all _ _ _ (by rw [List.length_append]; omega)]
theorem smz_gets {l : List Int} (h : 48 ≤ l.length) : get (smz l) 16 8 true = 0 ∧ get (smz l) 24 8 true = 0 := by
  obtain ⟨A, B, C, rfl, hA, hB⟩ := parts (l := l) (by omega)
  have e : A ++ (B ++ C) = A.take 12 ++ (A.drop 12 ++ (B ++ C)) := by rw [← List.append_assoc (A.take 12), List.take_append_drop]
  rw [e, smz_eq (by rw [List.length_take]; omega) (by rw [List.length_drop]; omega) hB]
  have t : A.take 12 ++ (beL (Crc.crc (Z 16 ++ C)).toNat 4 ++ (Z 16 ++ C)) = (A.take 12 ++ beL (Crc.crc (Z 16 ++ C)).toNat 4) ++ (Z 16 ++ C) := by rw [List.append_assoc]
  rw [t]
  have hl : (A.take 12 ++ beL (Crc.crc (Z 16 ++ C)).toNat 4).length = 16 := by rw [List.length_append, beL_length, List.length_take]; omega
  generalize A.take 12 ++ beL (Crc.crc (Z 16 ++ C)).toNat 4 = X at hl
  unfold get
  rw [if_pos rfl, if_pos rfl, drop_all X _ 16 hl, show (X ++ (Z 16 ++ C)).drop 24 = Z 8 ++ C from by rw [show X ++ (Z 16 ++ C) = (X ++ Z 8) ++ (Z 8 ++ C) from by simp [Z]]; exact drop_all _ _ _ (by rw [List.length_append, hl]; rfl)]
  exact ⟨by rw [show Z 16 ++ C = Z 8 ++ (Z 8 ++ C) from by simp [Z], take_all _ _ _ (Z_len 8)]; rfl, by rw [take_all _ _ _ (Z_len 8)]; rfl⟩
theorem decB0_good {l : List Int} (hb : Bytes l) (hl : l.length ≤ 1000000) (hp : get l 16 8 true = 0) (hq : get l 24 8 true = 0) (k : Nat) (hk : 20040000 ≤ k) : ∃ r, bollardref12_DecodeBatch0.f k l = some r ∧ GoodB l r :=
  rdec_good hb hl (fun k hk h48 => ⟨badB, by rw [hp, hq]; exact huge_small _ h48 (get_range hb 8 4 true).1 (by omega) (by omega) k, .inl rfl⟩) k hk
theorem decB0_back {l : List Int} (hb : Bytes l) (hl : l.length ≤ 1000000) {b s : Int} {x : List S45} {n : Int} (h : IsB l b s 0 0 x n) (k : Nat) (hk : 20040000 ≤ k) : bollardref12_DecodeBatch0.f k l = some (b, s, 0, 0, x, n, 0) :=
  rdec_back hb hl (fun k hk b2 s2 p2 q2 x2 n2 h2 hg => by
    have := isB_one hb hl h h2
    simp only [Prod.mk.injEq] at this
    omega) h k hk
theorem beL_zero : ∀ n, beL 0 n = Z n
  | 0 => rfl
  | n + 1 => by
    rw [beL, beL_zero n]
    unfold dg Z
    simp [List.replicate_succ]
theorem smz_batch {l : List Int} {b s p q : Int} {x : List S45} {n : Int} (h : IsB l b s p q x n) : smz (l.take n.toNat) = bytesB b s 0 0 x := by
  rw [h.eq]
  have e : bytesB b s p q x = (beL (U b) 8 ++ beL (U (((bodyB s p q x).length : Int) + 4)) 4) ++ (beL (U (Crc.crc (bodyB s p q x))) 4 ++ ((beL (U p) 8 ++ beL (U q) 8) ++ (beL (U s) 4 ++ (beL (U (x.length : Int)) 4 ++ (beL (U (rd_T45 x 0).f4) 8 ++ flat (rd_T45 x 0).f4 x))))) := by
    unfold bytesB
    rw [show bodyB s p q x = bodyH s p q (x.length : Int) (rd_T45 x 0).f4 ++ flat (rd_T45 x 0).f4 x from rfl]
    unfold bodyH
    simp [List.append_assoc]
  have e0 : bodyB s 0 0 x = Z 16 ++ (beL (U s) 4 ++ (beL (U (x.length : Int)) 4 ++ (beL (U (rd_T45 x 0).f4) 8 ++ flat (rd_T45 x 0).f4 x))) := by
    unfold bodyB bodyH
    rw [show U 0 = 0 from by decide, beL_zero]
    simp [List.append_assoc, Z]
  rw [e, smz_eq (by simp only [List.length_append, beL_length]) (by rw [beL_length]) (by simp only [List.length_append, beL_length]), ← e0]
  unfold bytesB
  have hc := crc_rng (bodyB s 0 0 x)
  have hl : (bodyB s 0 0 x).length = (bodyB s p q x).length := by rw [bodyB_len, bodyB_len]
  rw [hl, show U (Crc.crc (bodyB s 0 0 x)) = (Crc.crc (bodyB s 0 0 x)).toNat from by have := U_id hc.1 (show Crc.crc (bodyB s 0 0 x) < 18446744073709551616 by omega); omega]
  simp [List.append_assoc]
theorem chkB_smaller {b s p q : Int} {x : List S45} (h : chkB b s p q x = 0) : chkB b s 0 0 x = 0 := by
  obtain ⟨ho, hall, hbig⟩ := chkB_ok h
  have hfe : ferr x = 0 := Classical.byContradiction fun hn => by unfold chkB at h; rw [if_neg (not_not_intro ho), if_neg hn] at h; exact hn h
  obtain ⟨o1, o2, o3, o4, o5, o6, o7, o8⟩ := ho
  have hl : (bodyB s 0 0 x).length = (bodyB s p q x).length := by rw [bodyB_len, bodyB_len]
  unfold chkB big
  rw [if_neg (not_not_intro ⟨o1, o2, o3, o4, by omega, by omega, o7, o8⟩), if_pos hfe, if_neg (by omega)]
theorem huge_good {l : List Int} (hb : Bytes l) (hl : l.length ≤ 1000000) : GoodH bollardref12_huge.f l := by
  intro k hk h48
  have r8 := get_range hb 8 4 true
  have r16 := get_range hb 16 8 true
  have r24 := get_range hb 24 8 true
  generalize get l 0 8 true = a
  generalize hn_ : get l 8 4 true = n at r8 ⊢
  generalize get l 16 8 true = p at r16 ⊢
  generalize get l 24 8 true = q at r24 ⊢
  unfold bollardref12_huge.f bollardref12_hugeG.f
  rw [if_pos (by omega)]
  by_cases c : bollardref12_hugeG.no l n p q
  · rw [if_pos c]
    exact ⟨_, rfl, .inl rfl⟩
  rw [if_neg c]
  unfold bollardref12_hugeG.no at c
  have htl : (l.take (12 + n).toNat).length = (12 + n).toNat := by rw [List.length_take]; omega
  have hsl := smz_len (l := l.take (12 + n).toNat) (by omega)
  have hsg := smz_gets (l := l.take (12 + n).toNat) (by omega)
  obtain ⟨r, hr, hg⟩ := decB0_good (smz_bytes (take_bytes hb _) (by omega)) (by omega) hsg.1 hsg.2 k hk
  rw [smaller_f hb hl (by omega) (by omega) k (by omega), hr, Option.bind_some]
  obtain ⟨b, s, p2, q2, x, m, e⟩ := r
  dsimp only
  rcases hg with hg | ⟨he, hi⟩
  · simp only [badB, Prod.mk.injEq] at hg
    rw [if_neg (by omega)]
    exact ⟨_, rfl, .inl rfl⟩
  · dsimp only at he hi
    have hcnt := off_count (chkB_ok hi.ok).1 (chkB_ok hi.ok).2.1
    have hm := hi.le
    have hm2 := hi.len
    rw [if_pos he, rencodeB_f _ _ _ _ x (by omega) k (by omega), Option.bind_some]
    unfold encB
    by_cases hc : chkB b s (wrap64 p) (wrap64 q) x = 0
    · rw [if_pos hc]
      dsimp only
      rw [if_pos rfl, if_pos (by omega)]
      by_cases hs : (strOfNums (bytesB b s (wrap64 p) (wrap64 q) x)).toList = (strOfNums (l.take m.toNat)).toList
      · rw [if_pos hs]
        have hs := (strs_eq (bytesB_bytes _ _ _ _ _) (take_bytes hb _)).1 hs
        refine ⟨_, rfl, .inr ⟨rfl, ⟨hc, ?_, by show m ≤ _; omega, hs.symm, (wrap64_range _).2, (wrap64_range _).2⟩⟩⟩
        show m = _
        rw [hs, List.length_take]
        omega
      · rw [if_neg hs]
        exact ⟨_, rfl, .inl rfl⟩
    · rw [if_neg hc]
      dsimp only
      rw [if_neg hc]
      exact ⟨_, rfl, .inl rfl⟩
theorem huge_back {l : List Int} (hb : Bytes l) (hl : l.length ≤ 1000000) : BackH bollardref12_huge.f l := by
  intro k hk b s p q x n h hg
  obtain ⟨ho, hall, hbig⟩ := chkB_ok h.ok
  have hcount := off_count ho hall
  have hn := isB_len h
  have hle := h.le
  have hp := h.pr
  have hq := h.qr
  obtain ⟨o1, o2, o3, o4, o5, o6, -, -⟩ := ho
  have hsm := smz_batch h
  have h2 : IsB (bytesB b s 0 0 x) b s 0 0 x n := by
    have hl2 : (bytesB b s 0 0 x).length = (bytesB b s p q x).length := by rw [bytesB_len, bytesB_len, bodyB_len, bodyB_len]
    have := h.len
    exact ⟨chkB_smaller h.ok, by omega, by omega, List.take_of_length_le (by omega), by omega, by omega⟩
  unfold bollardref12_huge.f bollardref12_hugeG.f
  rw [if_pos (by omega), if_neg (by unfold bollardref12_hugeG.no; omega), smaller_f hb hl (by omega) (by omega) k (by omega), show 12 + (n - 12) = n by omega, hsm, decB0_back (bytesB_bytes _ _ _ _ _) (by have := h2.len; omega) h2 k hk, Option.bind_some]
  dsimp only
  rw [if_pos rfl, w64 (x := p) (by omega) (by omega), w64 (x := q) (by omega) (by omega), rencodeB_f b s p q x (by omega) k (by omega), Option.bind_some]
  unfold encB
  rw [if_pos h.ok]
  dsimp only
  rw [if_pos rfl, if_pos (by omega), h.eq, if_pos rfl]
/-- The document's Decode: the batch that the bytes begin with, or none. -/
theorem ref_good {l : List Int} (hb : Bytes l) (hl : l.length ≤ 1000000) (k : Nat) (hk : 20040000 ≤ k) : ∃ r, bollardref12_DecodeBatch.f k l = some r ∧ GoodB l r := rdec_good hb hl (huge_good hb hl) k hk
theorem ref_back {l : List Int} (hb : Bytes l) (hl : l.length ≤ 1000000) {b s p q : Int} {x : List S45} {n : Int} (h : IsB l b s p q x n) (k : Nat) (hk : 20040000 ≤ k) : bollardref12_DecodeBatch.f k l = some (b, s, p, q, x, n, 0) := rdec_back hb hl (huge_back hb hl) h k hk
/-- Both are the same. -/
theorem dec_same {l : List Int} (hb : Bytes l) (hl : l.length ≤ 1000000) (k : Nat) (hk : 20040000 ≤ k) : ∃ r, batch_Decode.f k l = some r ∧ bollardref12_DecodeBatch.f k l = some r ∧ GoodB l r := by
  obtain ⟨r, hr, hg⟩ := dec_good hb hl k (by omega)
  obtain ⟨r2, hr2, hg2⟩ := ref_good hb hl k hk
  refine ⟨r, hr, ?_, hg⟩
  obtain ⟨b, s, p, q, x, n, e⟩ := r
  rcases hg with hg | ⟨he, hi⟩
  · rcases hg2 with hg2 | ⟨he2, hi2⟩
    · rw [hr2, hg, hg2]
    · obtain ⟨b2, s2, p2, q2, x2, n2, e2⟩ := r2
      have := dec_back hb hl hi2 k (by omega)
      rw [hr] at this
      dsimp only at he2
      simp only [badB, Prod.mk.injEq, Option.some.injEq] at hg this
      omega
  · dsimp only at he hi
    subst he
    exact ref_back hb hl hi k hk
end Go.Proofs.Ytgmeellapjimgaa.Bp

/- Two rows of bytes, as printed: are they the same? -/
namespace Go.Proofs.Ytgmeellapjimgaa.Bp
open Go Go.RowKit Go.Proofs.Ytgmeellapjimgaa.PBm Go.Proofs.YtgmeellapjimgaaW.PrintWords Go.Proofs.YtgmeellapjimgaaW.PrintLast Go.Proofs.YtgmeellapjimgaaW.PrintMore
set_option linter.unusedVariables false
set_option linter.unusedSimpArgs false

theorem bytes_l0 (l m : List Int) (hl : l.length ≤ 4000000000000000000) (h : l.length = m.length) (n : Nat) : ∀ (k i : Nat), i + n = l.length → n + 1 ≤ k →
    bollardalike_Bytes.l0 k l m (i : Int) = some (decide (l.drop i = m.drop i)) := by
  induction n with
  | zero =>
    intro k i hi hk
    obtain ⟨K, rfl⟩ : ∃ K, k = K + 1 := ⟨k - 1, by omega⟩
    simp only [bollardalike_Bytes.l0]
    rw [if_neg (by omega), List.drop_eq_nil_of_le (by omega), List.drop_eq_nil_of_le (by omega)]
    simp
  | succ n ih =>
    intro k i hi hk
    obtain ⟨K, rfl⟩ : ∃ K, k = K + 1 := ⟨k - 1, by omega⟩
    simp only [bollardalike_Bytes.l0]
    rw [if_pos (by omega), if_pos (by omega), if_pos (by omega), drop_cons (by omega : i < l.length), drop_cons (by omega : i < m.length)]
    by_cases c : rd l (i : Int) = rd m (i : Int)
    · rw [if_pos c, up64 i (by omega), ih K (i + 1) (by omega) (by omega), c]
      simp
    · rw [if_neg c]
      simp [c]

theorem bytes_f (l m : List Int) (hl : l.length ≤ 4000000000000000000) (k : Nat) (hk : l.length + 1 ≤ k) : bollardalike_Bytes.f k l m = some (decide (l = m)) := by
  unfold bollardalike_Bytes.f
  by_cases c : (l.length : Int) = (m.length : Int)
  · rw [if_pos c]
    have := bytes_l0 l m hl (by omega) l.length k 0 (by omega) hk
    simpa using this
  · rw [if_neg c]
    have : l ≠ m := fun e => c (by rw [e])
    simp [this]


end Go.Proofs.Ytgmeellapjimgaa.Bp

/- Any batch's bytes get another Base, or are refused; nothing handed in is touched. -/
namespace Go.Proofs.Ytgmeellapjimgaa.Pure
open Go Go.RowKit Go.Proofs.Ytgmeellapjimgaa.PBm Go.Proofs.YtgmeellapjimgaaW.PrintWords Go.Proofs.YtgmeellapjimgaaW.PrintLast Go.Proofs.YtgmeellapjimgaaW.PrintMore Go.Proofs.Ytgmeellapjimgaa.Bp
set_option linter.unusedVariables false
set_option linter.unusedSimpArgs false

theorem rmove_f {l : List Int} (hb : Bytes l) (hl : l.length ≤ 1000000) {r : RB} {k : Nat} (hk : 20040001 ≤ k) (hr : bollardref12_DecodeBatch.f k l = some r) (hg : GoodB l r) (a : Int) : bollardref12_Move.f k l a = some (moveR l r a) := by
  obtain ⟨K, rfl⟩ : ∃ K, k = K + 1 := ⟨k - 1, by omega⟩
  unfold bollardref12_Move.f moveR
  rw [hr, Option.bind_some]
  by_cases c0 : r.2.2.2.2.2.2 = 0
  · rw [if_pos c0, bollardref12_Move.j0]
    by_cases c1 : r.2.2.2.2.2.1 = (l.length : Int)
    · rw [if_pos (show r.2.2.2.2.2.2 = 0 ∧ r.2.2.2.2.2.1 = (l.length : Int) from ⟨c0, c1⟩), bne_eq_false_iff_eq.mpr c1, if_neg (by simp)]
      rcases hg with hg | ⟨_, hi⟩
      · rw [hg] at c0; simp [badB] at c0
      · have h48 := isB_len hi
        by_cases c2 : a < 0
        · rw [if_pos c2, if_neg (by omega)]
        · rw [if_neg c2]
          by_cases c3 : a > 1125899906842624
          · rw [if_pos c3, if_neg (by omega)]
          · rw [if_neg c3, if_pos (by omega), U_eq, show bollardref1_Put.f K l 0 8 true ((U a : Nat) : Int) = _ from rput_f l hb (by omega) 0 8 (U a) true (by omega) (by omega) (by omega) K (by omega), Option.bind_some]
            unfold lay
            rw [range_big]
            rfl
    · rw [if_neg (show ¬ (r.2.2.2.2.2.2 = 0 ∧ r.2.2.2.2.2.1 = (l.length : Int)) from fun h => c1 h.2), bne_iff_ne.mpr c1, if_pos rfl]
  · rw [if_neg c0, if_neg (show ¬ (r.2.2.2.2.2.2 = 0 ∧ r.2.2.2.2.2.1 = (l.length : Int)) from fun h => c0 h.1), bollardref12_Move.j0, if_pos rfl]
theorem moveR_len {l : List Int} (hl : l.length ≤ 1000000) (r : RB) (a : Int) : (moveR l r a).1.length ≤ 2000000 := by
  unfold moveR
  split
  · split
    · simp only [List.length_append, beL_length, List.length_drop]; omega
    · simp
  · simp
theorem BatchMoves : bollardlaw13_BatchMoves.Pure := by
  intro l a hm h1 hw ha
  have hb := bytes_of hw
  refine ⟨20050000, ?_⟩
  unfold bollardlaw13_BatchMoves.f
  by_cases c : (l.length : Int) > 8000
  · rw [if_pos c, awake_f _ (by omega), Option.bind_some]
  · obtain ⟨r, hr, hr2, hg⟩ := dec_same hb (by omega) 20050000 (by omega)
    have hml := moveR_len (l := l) (by omega) r a
    rw [if_neg c, if_pos (by simp only [List.length_nil]; omega), Option.bind_some, List.nil_append, move_f (by omega) (by omega) hr hg a, Option.bind_some, rmove_f hb (by omega) (by omega) hr2 hg a, Option.bind_some, bytes_f _ _ (by omega) _ (by omega), Option.bind_some, if_pos (decide_eq_true rfl), if_pos rfl,
      bytes_f _ _ (by omega) _ (by omega), Option.bind_some, if_pos (decide_eq_true rfl), awake_f _ (by omega), Option.bind_some]
end Go.Proofs.Ytgmeellapjimgaa.Pure
