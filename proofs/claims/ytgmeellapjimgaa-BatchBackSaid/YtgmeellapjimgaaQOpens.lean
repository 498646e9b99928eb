/- What the program's Decode of a batch comes to: the batch that the bytes begin with, or none. -/
import Derived.Test.YtgmeellapjimgaaQPBbx1
import Derived.Test.YtgmeellapjimgaaQPBbx7
import Derived.Test.YtgmeellapjimgaaQRecBack
import Derived.Test.YtgmeellapjimgaaQPBbx11
import Derived.Test.YtgmeellapjimgaaQPBbx12
import Derived.ChangeArms
import Derived.Deep.Slices
import Derived.DataReads
import Derived.SizedLaws
import Derived.WideShapes
import Derived.Test.YtgmeellapjimgaaQWMore
namespace Go.Proofs.Ytgmeellapjimgaa.Bp
open Go Go.RowKit Go.Proofs.Ytgmeellapjimgaa.PBb Go.Proofs.YtgmeellapjimgaaW.PrintWords Go.Proofs.YtgmeellapjimgaaW.PrintLast Go.Proofs.YtgmeellapjimgaaW.PrintMore
set_option linter.unusedVariables false
set_option linter.unusedSimpArgs false

abbrev RB := Int × Int × Int × Int × List S45 × Int × Int
def badB : RB := (0, 0, 0, 0, [], 0, 10)
/-- Bytes that begin with a batch's. -/
structure IsB (l : List Int) (b s p q : Int) (x : List S45) (n : Int) : Prop where
  ok : chkB b s p q x = 0
  len : n = ((bytesB b s p q x).length : Int)
  le : n ≤ (l.length : Int)
  eq : l.take n.toNat = bytesB b s p q x
  pr : p ≤ 9223372036854775807
  qr : q ≤ 9223372036854775807
/-- What a Decode may tell. -/
def GoodB (l : List Int) (r : RB) : Prop := r = badB ∨ (r.2.2.2.2.2.2 = 0 ∧ IsB l r.1 r.2.1 r.2.2.1 r.2.2.2.1 r.2.2.2.2.1 r.2.2.2.2.2.1)
theorem chkB_ok {b s p q : Int} {x : List S45} (h : chkB b s p q x = 0) : offsOk b s p q x ∧ (∀ y ∈ x, chkS y = 0) ∧ 16 + (bodyB s p q x).length ≤ 6000 := by
  have hoff : offsOk b s p q x := Classical.byContradiction fun hn => by unfold chkB at h; rw [if_pos hn] at h; omega
  have hfe : ferr x = 0 := Classical.byContradiction fun hn => by unfold chkB at h; rw [if_neg (not_not_intro hoff), if_neg hn] at h; exact hn h
  refine ⟨hoff, ferr_all hfe, ?_⟩
  unfold chkB at h
  rw [if_neg (not_not_intro hoff), if_pos hfe] at h
  unfold big at h
  split at h
  · omega
  · omega
theorem U_id {v : Int} (h0 : 0 ≤ v) (h1 : v < 18446744073709551616) : ((U v : Nat) : Int) = v := by rw [← U_eq, IntKind.wrap_u64]; omega
theorem take_bytes {l : List Int} (h : Bytes l) (n : Nat) : Bytes (l.take n) := fun x hx => h x (List.mem_of_mem_take hx)
theorem drop_bytes {l : List Int} (h : Bytes l) (n : Nat) : Bytes (l.drop n) := fun x hx => h x (List.mem_of_mem_drop hx)
theorem app_bytes {l m : List Int} (h : Bytes l) (h2 : Bytes m) : Bytes (l ++ m) := fun x hx => (List.mem_append.1 hx).elim (h x) (h2 x)
/-- A number that is laid in bytes is read from what begins with them. -/
theorem get_seg {l A B : List Int} {n v w a : Nat} (h : l.take n = A ++ (beL v w ++ B)) (ha : a = A.length) : get l a w true = ((v % 256 ^ w : Nat) : Int) := by
  subst ha
  have e : (l.drop A.length).take w = beL v w := by
    rw [← List.take_append_drop n l, h, List.append_assoc, List.drop_left, List.append_assoc, List.take_append_of_le_length (Nat.le_of_eq (beL_length v w).symm), List.take_of_length_le (Nat.le_of_eq (beL_length v w))]
  unfold get
  rw [if_pos rfl, e, be_beL]
theorem U_small {v : Int} (w : Nat) (h0 : 0 ≤ v) (h1 : v < 256 ^ w) (h2 : v < 18446744073709551616) : ((U v % 256 ^ w : Nat) : Int) = v := by
  have := U_id h0 h2
  have h3 : U v < 256 ^ w := by
    have : ((U v : Nat) : Int) < ((256 ^ w : Nat) : Int) := by rw [this]; simpa using h1
    omega
  rw [Nat.mod_eq_of_lt h3, this]
theorem isB_gets {l : List Int} {b s p q : Int} {x : List S45} {n : Int} (h : IsB l b s p q x n) :
    get l 0 8 true = b ∧ get l 8 4 true = ((bodyB s p q x).length : Int) + 4 ∧ get l 16 8 true = p ∧ get l 24 8 true = q ∧ get l 32 4 true = s ∧ get l 36 4 true = (x.length : Int) ∧ get l 40 8 true = (rd_T45 x 0).f4 := by
  obtain ⟨ho, hall, hbig⟩ := chkB_ok h.ok
  have hcount := off_count ho hall
  have h0 : 0 < x.length := Nat.pos_of_ne_zero ho.2.2.2.2.2.2.1
  have hf := first_ok h0 hall
  obtain ⟨o1, o2, o3, o4, o5, o6, -, -⟩ := ho
  have hp := h.pr
  have hq := h.qr
  have e := h.eq
  have hlb : (bodyB s p q x).length ≤ 5984 := by omega
  refine ⟨?_, ?_, ?_, ?_, ?_, ?_, ?_⟩
  · rw [get_seg (a := 0) (A := []) (v := U b) (w := 8) (B := beL (U (((bodyB s p q x).length : Int) + 4)) 4 ++ (beL (U (Crc.crc (bodyB s p q x))) 4 ++ bodyB s p q x)) (by rw [e]; unfold bytesB; simp) rfl]
    exact U_small 8 (by omega) (by omega) (by omega)
  · rw [get_seg (A := beL (U b) 8) (v := U (((bodyB s p q x).length : Int) + 4)) (w := 4) (B := beL (U (Crc.crc (bodyB s p q x))) 4 ++ bodyB s p q x) (by rw [e]; unfold bytesB; simp) (by rw [beL_length])]
    exact U_small 4 (by omega) (by omega) (by omega)
  · rw [get_seg (A := beL (U b) 8 ++ (beL (U (((bodyB s p q x).length : Int) + 4)) 4 ++ beL (U (Crc.crc (bodyB s p q x))) 4)) (v := U p) (w := 8) (B := beL (U q) 8 ++ (beL (U s) 4 ++ (beL (U (x.length : Int)) 4 ++ (beL (U (rd_T45 x 0).f4) 8 ++ flat (rd_T45 x 0).f4 x)))) (by rw [e]; unfold bytesB; rw [show bodyB s p q x = bodyH s p q (x.length : Int) (rd_T45 x 0).f4 ++ flat (rd_T45 x 0).f4 x from rfl]; unfold bodyH; simp) (by simp [beL_length])]
    exact U_small 8 (by omega) (by omega) (by omega)
  · rw [get_seg (A := beL (U b) 8 ++ (beL (U (((bodyB s p q x).length : Int) + 4)) 4 ++ (beL (U (Crc.crc (bodyB s p q x))) 4 ++ beL (U p) 8))) (v := U q) (w := 8) (B := beL (U s) 4 ++ (beL (U (x.length : Int)) 4 ++ (beL (U (rd_T45 x 0).f4) 8 ++ flat (rd_T45 x 0).f4 x))) (by rw [e]; unfold bytesB; rw [show bodyB s p q x = bodyH s p q (x.length : Int) (rd_T45 x 0).f4 ++ flat (rd_T45 x 0).f4 x from rfl]; unfold bodyH; simp) (by simp [beL_length])]
    exact U_small 8 (by omega) (by omega) (by omega)
  · rw [get_seg (A := beL (U b) 8 ++ (beL (U (((bodyB s p q x).length : Int) + 4)) 4 ++ (beL (U (Crc.crc (bodyB s p q x))) 4 ++ (beL (U p) 8 ++ beL (U q) 8)))) (v := U s) (w := 4) (B := beL (U (x.length : Int)) 4 ++ (beL (U (rd_T45 x 0).f4) 8 ++ flat (rd_T45 x 0).f4 x)) (by rw [e]; unfold bytesB; rw [show bodyB s p q x = bodyH s p q (x.length : Int) (rd_T45 x 0).f4 ++ flat (rd_T45 x 0).f4 x from rfl]; unfold bodyH; simp) (by simp [beL_length])]
    exact U_small 4 (by omega) (by omega) (by omega)
  · rw [get_seg (A := beL (U b) 8 ++ (beL (U (((bodyB s p q x).length : Int) + 4)) 4 ++ (beL (U (Crc.crc (bodyB s p q x))) 4 ++ (beL (U p) 8 ++ (beL (U q) 8 ++ beL (U s) 4))))) (v := U (x.length : Int)) (w := 4) (B := beL (U (rd_T45 x 0).f4) 8 ++ flat (rd_T45 x 0).f4 x) (by rw [e]; unfold bytesB; rw [show bodyB s p q x = bodyH s p q (x.length : Int) (rd_T45 x 0).f4 ++ flat (rd_T45 x 0).f4 x from rfl]; unfold bodyH; simp) (by simp [beL_length])]
    exact U_small 4 (by omega) (by omega) (by omega)
  · rw [get_seg (A := beL (U b) 8 ++ (beL (U (((bodyB s p q x).length : Int) + 4)) 4 ++ (beL (U (Crc.crc (bodyB s p q x))) 4 ++ (beL (U p) 8 ++ (beL (U q) 8 ++ (beL (U s) 4 ++ beL (U (x.length : Int)) 4)))))) (v := U (rd_T45 x 0).f4) (w := 8) (B := flat (rd_T45 x 0).f4 x) (by rw [e]; unfold bytesB; rw [show bodyB s p q x = bodyH s p q (x.length : Int) (rd_T45 x 0).f4 ++ flat (rd_T45 x 0).f4 x from rfl]; unfold bodyH; simp) (by simp [beL_length])]
    exact U_small 8 (by omega) (by omega) (by omega)
theorem encS_bytes (first : Int) (y : S45) : Bytes (encS first y) := enc_bytes _ _ _ _ _ _ _
theorem flat_bytes (first : Int) (x : List S45) : Bytes (flat first x) := by
  intro y hy
  unfold flat at hy
  obtain ⟨m, hm, hy⟩ := List.mem_flatten.1 hy
  obtain ⟨z, _, rfl⟩ := List.mem_map.1 hm
  exact enc_bytes _ _ _ _ _ _ _ y hy
theorem bytesB_bytes (b s p q : Int) (x : List S45) : Bytes (bytesB b s p q x) := by
  unfold bytesB bodyB bodyH
  repeat' first | exact beL_bytes _ _ | exact flat_bytes _ _ | refine app_bytes ?_ ?_
theorem equal_f {l m : List Int} (hl : Bytes l) (hm : Bytes m) : bytes_Equal.f l m = some (decide (l = m)) := by
  unfold bytes_Equal.f
  rw [strs_beq hl hm]
theorem bget_f (l : List Int) (hb : Bytes l) (hl : l.length ≤ 4000000000000000000) (a n : Nat) (h1 : 1 ≤ n) (h8 : n ≤ 8) (h : a + n ≤ l.length) (k : Nat) (hk : 9 ≤ k) : batch_get.f k l (a : Int) (n : Int) = some (wrap64 (get l a n true)) := by
  unfold batch_get.f
  rw [get_f l hb hl a n true h1 h8 h k hk, Option.bind_some]
/-- One record of those behind one another is read. -/
theorem rec_next {first : Int} (hf : 0 ≤ first ∧ first ≤ 1125899906842624) {y : S45} (hy : chkS y = 0) (rest : List Int) : decS (encS first y ++ rest) first = some (y.f0, y.f1, y.f2, y.f3, y.f4, y.f5, ((encS first y).length : Int)) := by
  have hc := chk_ok hy
  unfold encS
  rw [dec_enc (h0 := hy) hf first hf rest, show y.f4 - first + first = y.f4 by omega, if_neg (by omega)]
theorem flat_append (f : Int) (a c : List S45) : flat f (a ++ c) = flat f a ++ flat f c := by unfold flat; rw [List.map_append, List.flatten_append]
theorem behind {l : List Int} {b s p q : Int} {x pre suf : List S45} {n : Int} (h : IsB l b s p q x n) (hx : x = pre ++ suf) : (l.take n.toNat).drop (48 + (flat (rd_T45 x 0).f4 pre).length) = flat (rd_T45 x 0).f4 suf := by
  rw [h.eq]
  unfold bytesB
  generalize U (Crc.crc (bodyB s p q x)) = C
  generalize U (((bodyB s p q x).length : Int) + 4) = L
  unfold bodyB
  have hh := bodyH_len s p q (x.length : Int) (rd_T45 x 0).f4
  generalize bodyH s p q (x.length : Int) (rd_T45 x 0).f4 = H at hh ⊢
  have e : flat (rd_T45 x 0).f4 x = flat (rd_T45 x 0).f4 pre ++ flat (rd_T45 x 0).f4 suf := by rw [← flat_append, ← hx]
  rw [e]
  generalize flat (rd_T45 x 0).f4 pre = P
  generalize flat (rd_T45 x 0).f4 suf = S
  rw [show beL (U b) 8 ++ (beL L 4 ++ (beL C 4 ++ (H ++ (P ++ S)))) = (beL (U b) 8 ++ (beL L 4 ++ (beL C 4 ++ (H ++ P)))) ++ S from by simp [List.append_assoc]]
  exact drop_all _ _ _ (by simp only [List.length_append, beL_length, hh]; omega)
theorem isB_len {l : List Int} {b s p q : Int} {x : List S45} {n : Int} (h : IsB l b s p q x n) : n = 48 + ((flat (rd_T45 x 0).f4 x).length : Int) ∧ n ≤ 6000 ∧ n = 16 + ((bodyB s p q x).length : Int) := by
  have h1 := h.len
  have h2 := bytesB_len b s p q x
  have h3 := bodyB_len s p q x
  have h4 := (chkB_ok h.ok).2.2
  omega
/-- What is written is the end's word. -/
theorem dfin_back {l : List Int} (hb : Bytes l) {b s p q : Int} {x : List S45} {n : Int} (h : IsB l b s p q x n) (k : Nat) (hk : 20000000 ≤ k) : batch_Decode.fin k l n b s p q x = some (b, s, p, q, x, n, 0) := by
  have hc := off_count (chkB_ok h.ok).1 (chkB_ok h.ok).2.1
  unfold batch_Decode.fin
  rw [encode_f2 b s p q x (by omega) k hk, Option.bind_some]
  unfold encB
  rw [if_pos h.ok]
  dsimp only
  rw [if_pos rfl, h.eq, equal_f (bytesB_bytes _ _ _ _ _) (bytesB_bytes _ _ _ _ _), Option.bind_some, decide_eq_true rfl, if_pos rfl]
theorem dloop_back {l : List Int} (hb : Bytes l) (hl : l.length ≤ 1000000) {b s p q : Int} {x : List S45} {n : Int} (h : IsB l b s p q x n) : ∀ (suf pre : List S45) (k : Nat), x = pre ++ suf → 20020000 + suf.length ≤ k →
    batch_Decode.l0 k l n (rd_T45 x 0).f4 b s p q (48 + ((flat (rd_T45 x 0).f4 pre).length : Int)) pre = some (b, s, p, q, x, n, 0) := by
  obtain ⟨ho, hall, hbig⟩ := chkB_ok h.ok
  have hcount := off_count ho hall
  have h0 : 0 < x.length := Nat.pos_of_ne_zero ho.2.2.2.2.2.2.1
  have hf := first_ok h0 hall
  have hn := isB_len h
  intro suf
  induction suf with
  | nil =>
    intro pre k hx hk
    obtain ⟨K, rfl⟩ : ∃ K, k = K + 1 := ⟨k - 1, by omega⟩
    rw [List.append_nil] at hx
    subst hx
    rw [batch_Decode.l0, if_neg (by omega)]
    exact dfin_back hb h K (by omega)
  | cons y suf ih =>
    intro pre k hx hk
    obtain ⟨K, rfl⟩ : ∃ K, k = K + 1 := ⟨k - 1, by omega⟩
    have hy : chkS y = 0 := hall y (by rw [hx]; simp)
    have hpos : 3 ≤ (encS (rd_T45 x 0).f4 y).length := by
      have hd := rec_next hf hy ([] : List Int)
      rw [List.append_nil] at hd
      have := decS_range (encS_bytes _ _) hd
      omega
    have hbe := behind h hx
    have hfx : (flat (rd_T45 x 0).f4 x).length = (flat (rd_T45 x 0).f4 pre).length + ((encS (rd_T45 x 0).f4 y).length + (flat (rd_T45 x 0).f4 suf).length) := by
      have e_ : flat (rd_T45 x 0).f4 x = flat (rd_T45 x 0).f4 pre ++ (encS (rd_T45 x 0).f4 y ++ flat (rd_T45 x 0).f4 suf) := by rw [← flat_cons, ← flat_append, ← hx]
      rw [e_, List.length_append, List.length_append]
    simp only [List.length_cons] at hk
    rw [batch_Decode.l0, if_pos (by omega), if_pos (by omega), show (48 + ((flat (rd_T45 x 0).f4 pre).length : Int)).toNat = 48 + (flat (rd_T45 x 0).f4 pre).length by omega, hbe, flat_cons,
      decode_f (app_bytes (encS_bytes _ _) (flat_bytes _ _)) (by rw [List.length_append]; omega) _ K (by rw [List.length_append]; omega), rec_next hf hy, Option.bind_some]
    unfold outR
    dsimp only
    have hpl : pre.length ≤ x.length := by rw [hx, List.length_append]; omega
    rw [if_pos rfl, if_pos (by omega)]
    have e : wrap64 (48 + ((flat (rd_T45 x 0).f4 pre).length : Int) + ((encS (rd_T45 x 0).f4 y).length : Int)) = 48 + ((flat (rd_T45 x 0).f4 (pre ++ [y])).length : Int) := by
      rw [flat_append, show flat (rd_T45 x 0).f4 [y] = encS (rd_T45 x 0).f4 y from by unfold flat; simp, List.length_append]
      unfold wrap64
      omega
    rw [e]
    exact ih (pre ++ [y]) K (by rw [hx]; simp) (by omega)
/-- What begins with a batch is read as it. -/
theorem dec_back {l : List Int} (hb : Bytes l) (hl : l.length ≤ 1000000) {b s p q : Int} {x : List S45} {n : Int} (h : IsB l b s p q x n) (k : Nat) (hk : 20030000 ≤ k) : batch_Decode.f k l = some (b, s, p, q, x, n, 0) := by
  obtain ⟨ho, hall, hbig⟩ := chkB_ok h.ok
  have hcount := off_count ho hall
  have h0 : 0 < x.length := Nat.pos_of_ne_zero ho.2.2.2.2.2.2.1
  have hf := first_ok h0 hall
  have hn := isB_len h
  obtain ⟨g0, g8, g16, g24, g32, g36, g40⟩ := isB_gets h
  have hle := h.le
  have hlen : 48 ≤ l.length := by omega
  obtain ⟨o1, o2, o3, o4, o5, o6, -, -⟩ := ho
  have hp := h.pr
  have hq := h.qr
  unfold batch_Decode.f
  have G := fun (a w : Nat) (h1 : 1 ≤ w) (h8 : w ≤ 8) (h : a + w ≤ l.length) => bget_f l hb (by omega) a w h1 h8 h k (by omega)
  have G8 := G 8 4 (by omega) (by omega) (by omega)
  have G16 := G 16 8 (by omega) (by omega) (by omega)
  have G24 := G 24 8 (by omega) (by omega) (by omega)
  have G32 := G 32 4 (by omega) (by omega) (by omega)
  have G36 := G 36 4 (by omega) (by omega) (by omega)
  have G40 := G 40 8 (by omega) (by omega) (by omega)
  have G0 := G 0 8 (by omega) (by omega) (by omega)
  rw [g8, w64 (by omega) (by omega)] at G8
  rw [g16, w64 (by omega) (by omega)] at G16
  rw [g24, w64 (by omega) (by omega)] at G24
  rw [g32, w64 (by omega) (by omega)] at G32
  rw [g40, w64 (by omega) (by omega)] at G40
  rw [g0, w64 (by omega) (by omega)] at G0
  rw [if_neg (by omega), show batch_get.f k l 8 4 = _ from G8, Option.bind_some, if_pos (by omega), if_neg (by omega), if_neg (by omega), if_neg (by omega), show batch_get.f k l 16 8 = _ from G16, Option.bind_some, show batch_get.f k l 24 8 = _ from G24, Option.bind_some, show batch_get.f k l 32 4 = _ from G32, Option.bind_some, show batch_get.f k l 36 4 = _ from G36, Option.bind_some, show batch_get.f k l 40 8 = _ from G40, Option.bind_some, show batch_get.f k l 0 8 = _ from G0, Option.bind_some,
    show 12 + (((bodyB s p q x).length : Int) + 4) = n by omega]
  exact dloop_back hb hl h x [] k rfl (by omega)
/-- The end's word is right. -/
theorem dfin_good {l : List Int} (hb : Bytes l) {b s p q : Int} {x : List S45} {n : Int} (hx : x.length ≤ 3000) (h0 : 0 ≤ n) (h1 : n ≤ (l.length : Int)) (hp : p ≤ 9223372036854775807) (hq : q ≤ 9223372036854775807) (k : Nat) (hk : 20000000 ≤ k) : ∃ r, batch_Decode.fin k l n b s p q x = some r ∧ GoodB l r := by
  unfold batch_Decode.fin
  rw [encode_f2 b s p q x hx k hk, Option.bind_some]
  unfold encB
  by_cases hc : chkB b s p q x = 0
  · rw [if_pos hc]
    dsimp only
    rw [if_pos rfl, equal_f (bytesB_bytes _ _ _ _ _) (take_bytes hb _), Option.bind_some]
    by_cases he : bytesB b s p q x = l.take n.toNat
    · rw [decide_eq_true he, if_pos rfl]
      refine ⟨_, rfl, .inr ⟨rfl, ⟨hc, ?_, h1, he.symm, hp, hq⟩⟩⟩
      show n = _
      rw [he, List.length_take]
      omega
    · rw [decide_eq_false he, if_neg (by simp)]
      exact ⟨_, rfl, .inl rfl⟩
  · rw [if_neg hc]
    dsimp only
    rw [if_neg hc]
    exact ⟨_, rfl, .inl rfl⟩
theorem dloop_good {l : List Int} (hb : Bytes l) {b s p q n first : Int} (h1 : n ≤ (l.length : Int)) (h2 : n ≤ 6000) (hp : p ≤ 9223372036854775807) (hq : q ≤ 9223372036854775807) (d : Nat) : ∀ (k : Nat) (at_ : Int) (x : List S45), 48 ≤ at_ → at_ ≤ n → n - at_ ≤ (d : Int) → 3 * (x.length : Int) ≤ at_ → 20010000 + d ≤ k →
    ∃ r, batch_Decode.l0 k l n first b s p q at_ x = some r ∧ GoodB l r := by
  induction d with
  | zero =>
    intro k at_ x ha hn hd hx hk
    obtain ⟨K, rfl⟩ : ∃ K, k = K + 1 := ⟨k - 1, by omega⟩
    rw [batch_Decode.l0, if_neg (by omega)]
    exact dfin_good hb (by omega) (by omega) h1 hp hq K (by omega)
  | succ d ih =>
    intro k at_ x ha hn hd hx hk
    obtain ⟨K, rfl⟩ : ∃ K, k = K + 1 := ⟨k - 1, by omega⟩
    rw [batch_Decode.l0]
    by_cases c : at_ < n
    · have hseg : ((l.take n.toNat).drop at_.toNat).length = (n - at_).toNat := by rw [List.length_drop, List.length_take]; omega
      have hsb := drop_bytes (take_bytes hb n.toNat) at_.toNat
      rw [if_pos c, if_pos (by omega), decode_f hsb (by omega) _ K (by omega), Option.bind_some]
      cases hd_ : decS ((l.take n.toNat).drop at_.toNat) first with
      | none => exact ⟨_, rfl, .inl rfl⟩
      | some r =>
        obtain ⟨hk_, key, hv, val, t, o, m⟩ := r
        have hr := decS_range hsb hd_
        unfold outR
        dsimp only
        rw [if_pos rfl, if_pos (by omega), w64 (by omega) (by omega)]
        exact ih K _ _ (by omega) (by omega) (by omega) (by rw [List.length_append]; simp only [List.length_cons, List.length_nil]; omega) (by omega)
    · rw [if_neg c]
      exact dfin_good hb (by omega) (by omega) h1 hp hq K (by omega)
theorem wrap64_range (x : Int) : -9223372036854775808 ≤ wrap64 x ∧ wrap64 x ≤ 9223372036854775807 := by unfold wrap64; omega
/-- Any bytes are the batch that they begin with, or none. -/
theorem dec_good {l : List Int} (hb : Bytes l) (hl : l.length ≤ 1000000) (k : Nat) (hk : 20030000 ≤ k) : ∃ r, batch_Decode.f k l = some r ∧ GoodB l r := by
  unfold batch_Decode.f
  by_cases c0 : (l.length : Int) < 48
  · rw [if_pos c0]; exact ⟨_, rfl, .inl rfl⟩
  have G := fun (a w : Nat) (h1 : 1 ≤ w) (h8 : w ≤ 8) (h : a + w ≤ l.length) => bget_f l hb (by omega) a w h1 h8 h k (by omega)
  have hr := get_range hb 8 4 true
  have e : wrap64 (get l 8 4 true) = get l 8 4 true := w64 (by omega) (by omega)
  rw [if_neg c0, show batch_get.f k l 8 4 = _ from G 8 4 (by omega) (by omega) (by omega), Option.bind_some, e, if_pos (by omega)]
  by_cases c1 : 12 + get l 8 4 true < 48
  · rw [if_pos c1]; exact ⟨_, rfl, .inl rfl⟩
  rw [if_neg c1]
  by_cases c2 : 12 + get l 8 4 true > (l.length : Int)
  · rw [if_pos c2]; exact ⟨_, rfl, .inl rfl⟩
  rw [if_neg c2]
  by_cases c3 : 12 + get l 8 4 true > 6000
  · rw [if_pos c3]; exact ⟨_, rfl, .inl rfl⟩
  rw [if_neg c3, show batch_get.f k l 16 8 = _ from G 16 8 (by omega) (by omega) (by omega), Option.bind_some, show batch_get.f k l 24 8 = _ from G 24 8 (by omega) (by omega) (by omega), Option.bind_some, show batch_get.f k l 32 4 = _ from G 32 4 (by omega) (by omega) (by omega), Option.bind_some, show batch_get.f k l 36 4 = _ from G 36 4 (by omega) (by omega) (by omega), Option.bind_some, show batch_get.f k l 40 8 = _ from G 40 8 (by omega) (by omega) (by omega), Option.bind_some, show batch_get.f k l 0 8 = _ from G 0 8 (by omega) (by omega) (by omega), Option.bind_some]
  exact dloop_good hb (by omega) (by omega) (wrap64_range _).2 (wrap64_range _).2 (6000 : Nat) k 48 [] (by omega) (by omega) (by omega) (by simp) (by omega)
/-- Two batches that the same bytes begin with are one. -/
theorem isB_one {l : List Int} (hb : Bytes l) (hl : l.length ≤ 1000000) {b s p q n b2 s2 p2 q2 n2 : Int} {x x2 : List S45} (h : IsB l b s p q x n) (h2 : IsB l b2 s2 p2 q2 x2 n2) : (b, s, p, q, x, n, (0 : Int)) = (b2, s2, p2, q2, x2, n2, 0) :=
  Option.some.inj ((dec_back hb hl h 20030000 (by omega)).symm.trans (dec_back hb hl h2 20030000 (by omega)))
end Go.Proofs.Ytgmeellapjimgaa.Bp

/- Bytes of a batch with another Base. -/
namespace Go.Proofs.Ytgmeellapjimgaa.Bp
open Go Go.RowKit Go.Proofs.Ytgmeellapjimgaa.PBb Go.Proofs.YtgmeellapjimgaaW.PrintWords Go.Proofs.YtgmeellapjimgaaW.PrintLast Go.Proofs.YtgmeellapjimgaaW.PrintMore
set_option linter.unusedVariables false
set_option linter.unusedSimpArgs false

/-- Bytes that are laid are read as what they were laid of, whatever stands behind. -/
theorem isB_self {b s p q : Int} {x : List S45} (h : chkB b s p q x = 0) (hp : p ≤ 9223372036854775807) (hq : q ≤ 9223372036854775807) (rest : List Int) : IsB (bytesB b s p q x ++ rest) b s p q x ((bytesB b s p q x).length : Int) :=
  ⟨h, rfl, by rw [List.length_append]; omega, by rw [Int.toNat_natCast, List.take_left], hp, hq⟩
/-- A batch's bytes with another Base. -/
theorem chkB_base {b s p q : Int} {x : List S45} (h : chkB b s p q x = 0) {a : Int} (ha : 0 ≤ a ∧ a ≤ 1125899906842624) : chkB a s p q x = 0 := by
  obtain ⟨ho, hall, hbig⟩ := chkB_ok h
  have hfe : ferr x = 0 := Classical.byContradiction fun hn => by unfold chkB at h; rw [if_neg (not_not_intro ho), if_neg hn] at h; exact hn h
  obtain ⟨o1, o2, o3⟩ := ho
  unfold chkB big
  rw [if_neg (not_not_intro ⟨by omega, by omega, o3⟩), if_pos hfe, if_neg (by omega)]
/-- What a Move of bytes comes to. -/
def moveR (l : List Int) (r : RB) (a : Int) : List Int × Int := if r.2.2.2.2.2.2 = 0 ∧ r.2.2.2.2.2.1 = (l.length : Int) then (if 0 ≤ a ∧ a ≤ 1125899906842624 then (beL (U a) 8 ++ l.drop 8, 0) else ([], 1)) else ([], 10)
theorem move_f {l : List Int} (hl : l.length ≤ 1000000) {r : RB} {k : Nat} (hk : 20040001 ≤ k) (hr : batch_Decode.f k l = some r) (hg : GoodB l r) (a : Int) : batch_Move.f k l a = some (moveR l r a) := by
  obtain ⟨K, rfl⟩ : ∃ K, k = K + 1 := ⟨k - 1, by omega⟩
  unfold batch_Move.f moveR
  rw [hr, Option.bind_some]
  by_cases c0 : r.2.2.2.2.2.2 = 0
  · rw [if_pos c0, batch_Move.j0]
    by_cases c1 : r.2.2.2.2.2.1 = (l.length : Int)
    · rw [if_pos (show r.2.2.2.2.2.2 = 0 ∧ r.2.2.2.2.2.1 = (l.length : Int) from ⟨c0, c1⟩), bne_eq_false_iff_eq.mpr c1, if_neg (by simp)]
      rcases hg with hg | ⟨_, hi⟩
      · rw [hg] at c0; simp [badB] at c0
      · have h48 := isB_len hi
        by_cases c2 : a < 0
        · rw [if_pos c2, if_neg (by omega)]
        · rw [if_neg c2]
          by_cases c3 : a > 1125899906842624
          · rw [if_pos c3, if_neg (by omega)]
          · rw [if_neg c3, if_pos (by omega), show batch_put.f K l 0 8 a = _ from bput_f l (by omega) 0 8 a (by omega) (by omega) (by omega) K (by omega), Option.bind_some]
            rfl
    · rw [if_neg (show ¬ (r.2.2.2.2.2.2 = 0 ∧ r.2.2.2.2.2.1 = (l.length : Int)) from fun h => c1 h.2), bne_iff_ne.mpr c1, if_pos rfl]
  · rw [if_neg c0, if_neg (show ¬ (r.2.2.2.2.2.2 = 0 ∧ r.2.2.2.2.2.1 = (l.length : Int)) from fun h => c0 h.1), batch_Move.j0, if_pos rfl]
/-- Moved, the bytes are those of the same batch with another Base. -/
theorem move_bytes (b s p q a : Int) (x : List S45) : beL (U a) 8 ++ (bytesB b s p q x).drop 8 = bytesB a s p q x := by
  unfold bytesB
  rw [drop_all _ _ 8 (beL_length _ _)]
end Go.Proofs.Ytgmeellapjimgaa.Bp

/- What is written is read, whatever stands behind; moved, it is the same with another Base. -/
namespace Go.Proofs.Ytgmeellapjimgaa.Pure
open Go Go.RowKit Go.Proofs.Ytgmeellapjimgaa.PBb Go.Proofs.YtgmeellapjimgaaW.PrintWords Go.Proofs.YtgmeellapjimgaaW.PrintLast Go.Proofs.YtgmeellapjimgaaW.PrintMore Go.Proofs.Ytgmeellapjimgaa.Bp
set_option linter.unusedVariables false
set_option linter.unusedSimpArgs false

theorem BatchBack : bollardlaw13_BatchBack.Pure := by
  intro b s p q l a rest hb hs hp hq hl ha hrest
  have hlen : l.length ≤ 140737488351232 := by omega
  have hp := wfi hp
  have hq := wfi hq
  have hrb := bytes_of hrest.2
  obtain ⟨r, hr, hr2⟩ := small_l0 l (by omega) l.length (l.length + 40000002) 0 (l.length : Int) (by omega) (by omega)
  refine ⟨l.length + 40000002, ?_⟩
  unfold bollardlaw13_BatchBack.f bollardalike_Small.f
  have aw : ∀ t, bollardlaw13_BatchBack.j0 (l.length + 40000002) a rest true b s p q t = some true := fun t => by
    rw [show l.length + 40000002 = (l.length + 40000001) + 1 from rfl, bollardlaw13_BatchBack.j0, if_pos rfl, awake_f _ (by omega), Option.bind_some]
  rw [show bollardalike_Small.l0 (l.length + 40000002) l (l.length : Int) 0 = some r from hr, Option.bind_some]
  cases r
  · rw [if_neg (by simp)]
    exact aw l
  · have h300 := hr2 rfl
    rw [if_pos rfl]
    by_cases c : (rest.length : Int) > 3000
    · rw [decide_eq_true c]
      exact aw l
    · rw [decide_eq_false c, show l.length + 40000002 = (l.length + 40000001) + 1 from rfl, bollardlaw13_BatchBack.j0, if_neg (by simp), encode_f2 b s p q l (by omega) _ (by omega), Option.bind_some]
      unfold encB
      by_cases hc : chkB b s p q l = 0
      · have hn := isB_len (isB_self hc (by omega) (by omega) [])
        have hn2 := bytesB_len b s p q l
        have hdec := dec_back (app_bytes (bytesB_bytes _ _ _ _ _) hrb) (by rw [List.length_append]; omega) (isB_self hc (by omega) (by omega) rest) (l.length + 40000001) (by omega)
        have hdec2 := dec_back (bytesB_bytes b s p q l) (by omega) (by have := isB_self hc (by omega) (by omega) ([] : List Int); rwa [List.append_nil] at this) (l.length + 40000000) (by omega)
        rw [if_pos hc]
        dsimp only
        rw [if_pos rfl, Option.bind_some, if_pos (by simp only [List.length_nil]; omega), Option.bind_some, List.nil_append, if_pos (by omega), hdec, Option.bind_some]
        dsimp only
        rw [if_pos rfl, same_f _ _ _ _ _ (by omega) _ (by omega), Option.bind_some, if_pos rfl, bne_eq_false_iff_eq.mpr rfl, show l.length + 40000001 = (l.length + 40000000) + 1 from rfl, bollardlaw13_BatchBack.j1, if_neg (by simp)]
        have hg : GoodB (bytesB b s p q l) (b, s, p, q, l, ((bytesB b s p q l).length : Int), 0) := .inr ⟨rfl, by have := isB_self hc (by omega) (by omega) ([] : List Int); rwa [List.append_nil] at this⟩
        have hmv : moveR (bytesB b s p q l) (b, s, p, q, l, ((bytesB b s p q l).length : Int), 0) a = if 0 ≤ a ∧ a ≤ 1125899906842624 then (beL (U a) 8 ++ (bytesB b s p q l).drop 8, 0) else ([], 1) := by
          unfold moveR
          exact if_pos ⟨rfl, rfl⟩
        rw [move_f (by omega) (by omega) hdec2 hg a, Option.bind_some, hmv]
        by_cases ca : 0 ≤ a ∧ a ≤ 1125899906842624
        · have hc2 := chkB_base hc ca
          have hn3 := bytesB_len a s p q l
          rw [if_pos ca, move_bytes]
          dsimp only
          rw [if_pos rfl, dec_back (bytesB_bytes a s p q l) (by omega) (by have := isB_self hc2 (by omega) (by omega) ([] : List Int); rwa [List.append_nil] at this) (l.length + 40000000) (by omega), Option.bind_some]
          dsimp only
          rw [if_pos rfl, same_f _ _ _ _ _ (by omega) _ (by omega), Option.bind_some, if_pos rfl, awake_f _ (by omega), Option.bind_some]
        · rw [if_neg ca]
          dsimp only
          rw [if_neg (by omega)]
          by_cases c2 : a < 0
          · rw [if_pos c2, awake_f _ (by omega), Option.bind_some]
          · rw [if_neg c2, if_pos (by omega), awake_f _ (by omega), Option.bind_some]
      · rw [if_neg hc]
        dsimp only
        rw [if_neg hc, if_pos (by simp), awake_f _ (by omega), Option.bind_some]
end Go.Proofs.Ytgmeellapjimgaa.Pure

/- What reads as data of a type is of the type's kind: whole numbers, bools, strings, slices, structs, one inside the other. -/
namespace Go.Proofs.Ytgmeellapjimgaa.Op
open Go Go.RowKit Go.ChangeShapes Go.WideShapes Go.Proofs.YtgmeellapjimgaaW.PrintWords Go.Proofs.YtgmeellapjimgaaW.PrintLast Go.Proofs.YtgmeellapjimgaaW.PrintMore
set_option linter.unusedVariables false
set_option linter.unusedSimpArgs false

/-- What reads as data of type t, no heavier than the form lets, is of this kind; Q tells more of it. -/
def Opens {α : Type} (P : Program) (t : TypeId) (d : Kd α) (Q : α → Prop) : Prop :=
  P.cellsOf t = d.sz ∧ ∀ {H : Type} (enc : TypeId × Value → H) (w : World) (base : Nat) (spare : Nat → Bool) (held : Bool) (fuel : Nat) (cs : List Value) (x : DataW H × List MemPlace),
    DataW.trod enc P w base spare held fuel t cs = some x → (∀ n ∈ x.1.weights P t, n ≤ reachBytes) → ∃ a : α, d.K w a cs ∧ Q a

section
variable {P : Program} {t : TypeId}
theorem opens_int {k : IntKind} (ht : P.underlying t = some (.int k)) (hc : P.cellsOf t = 1) : Opens P t (Kd.int k) (fun a => (Lit.int k a).wf = true) := by
  refine ⟨hc, fun enc w base spare held fuel cs x h _ => ?_⟩
  obtain ⟨n, rfl, _, hw⟩ := DataW.trod_int ht h
  exact ⟨n, rfl, hw⟩
theorem opens_bool (ht : P.underlying t = some .bool) (hc : P.cellsOf t = 1) : Opens P t Kd.bool (fun _ => True) := by
  refine ⟨hc, fun enc w base spare held fuel cs x h _ => ?_⟩
  obtain ⟨b, rfl, _⟩ := DataW.trod_bool ht h
  exact ⟨b, rfl, trivial⟩
theorem opens_string (ht : P.underlying t = some .string) (hc : P.cellsOf t = 1) : Opens P t Kd.string (fun s => s.size ≤ 140737488351232) := by
  refine ⟨hc, fun enc w base spare held fuel cs x h hx => ?_⟩
  obtain ⟨s, rfl, rfl, _⟩ := DataW.trod_string ht h
  refine ⟨s, rfl, ?_⟩
  have := hx s.data.toList.length (by simp [DataW.weights])
  rw [Array.length_toList] at this
  exact this
theorem mem_weightsAll {H : Type} {P : Program} {e : TypeId} : ∀ {ds : List (DataW H)} {d : DataW H}, d ∈ ds → ∀ n ∈ d.weights P e, n ∈ DataW.weightsAll P e ds
  | d0 :: ds, d, h, n, hn => by
    simp only [DataW.weightsAll, List.mem_append]
    rcases List.mem_cons.1 h with rfl | h
    · exact .inl hn
    · exact .inr (mem_weightsAll h n hn)
theorem opens_slice {e : TypeId} {α : Type} {d : Kd α} {Q : α → Prop} {B : Nat} (ht : P.underlying t = some (.slice e)) (hc : P.cellsOf t = 1) (hB : P.bytesOf e = B) (hd : Opens P e d Q) :
    Opens P t (Kd.slice e d) (fun xs => xs.length * B ≤ 140737488351232 ∧ ∀ y ∈ xs, Q y) := by
  refine ⟨hc, fun enc w base spare held fuel cs x h hx => ?_⟩
  rcases Go.Deep.open_slice ht h with ⟨rfl, rfl⟩ | ⟨a, len, cap, m, n, D, Pl, rfl, hb, hl, hm, hmm, rfl, hi⟩
  · exact ⟨[], ⟨none, 0, rfl, Nat.le_refl _, ⟨rfl, by simp, fun h => by simp at h⟩⟩, by simp, by simp⟩
  · have hml : len ≤ m := by rw [hmm]; split <;> omega
    simp only [DataW.weights, ht] at hx
    have key : ∀ i, i < len → ∃ (y : α) (cs' : List Value), w.cells? base (a.add (i * P.cellsOf e)) (P.cellsOf e) = some cs' ∧ d.K w y cs' ∧ Q y := by
      intro i hil
      obtain ⟨cs', h1, h2⟩ := hi i (by omega)
      obtain ⟨y, hK, hQ⟩ := hd.2 enc w base spare held n cs' _ h2 (fun q hq => hx q (List.mem_cons_of_mem _ (List.mem_append_left _ (mem_weightsAll (List.mem_map.2 ⟨i, List.mem_range.2 hil, rfl⟩) q hq))))
      exact ⟨y, cs', h1, hK, hQ⟩
    have hne : ∀ i, i < len → Nonempty α := fun i hil => let ⟨y, _⟩ := key i hil; ⟨y⟩
    rcases Nat.eq_zero_or_pos len with h0 | h0
    · subst h0
      exact ⟨[], ⟨some a, cap, rfl, Nat.zero_le _, ⟨rfl, by simp, fun h => by simp at h⟩⟩, by simp, by simp⟩
    · have : Nonempty α := hne 0 h0
      let f : Nat → α := fun i => if hil : i < len then (key i hil).choose else Classical.choice this
      have hf : ∀ i, i < len → ∃ cs', w.cells? base (a.add (i * P.cellsOf e)) (P.cellsOf e) = some cs' ∧ d.K w (f i) cs' ∧ Q (f i) := by
        intro i hil
        have := (key i hil).choose_spec
        simp only [f, dif_pos hil]
        exact this
      have hlen : ((List.range len).map f).length = len := by simp
      refine ⟨(List.range len).map f, ⟨some a, cap, by rw [hlen], by rw [hlen]; exact hl, ⟨rfl, by rw [hlen]; simp only [maxLen] at hm; omega, fun _ => ⟨a, rfl, fun j p hj => ?_⟩⟩⟩, ?_, ?_⟩
      · have hjl : j < len := by
          have := (List.getElem?_eq_some_iff.1 hj).1
          rw [hlen] at this
          exact this
        have hp : f j = p := by
          rw [List.getElem?_map, List.getElem?_range hjl] at hj
          exact Option.some.inj hj
        obtain ⟨cs', h1, hK, _⟩ := hf j hjl
        obtain ⟨_, h2, h3⟩ := World.cells?_some h1
        refine ⟨cs', d.K_len hK, hp ▸ hK, fun i u hu => ?_⟩
        have hil : i < P.cellsOf e := by
          have := (List.getElem?_eq_some_iff.1 hu).1
          omega
        have := h3 i hil
        rw [Go.Deep.add_add, hd.1, hu] at this
        exact this
      · have := hx _ (List.mem_cons_self)
        rw [hB] at this
        simp only [List.length_map, List.length_range] at this
        rw [hlen]
        have h4 : len * B ≤ (len + (m - len)) * B := Nat.mul_le_mul_right _ (by omega)
        simp only [reachBytes] at this
        omega
      · intro y hy
        obtain ⟨i, hir, rfl⟩ := List.mem_map.1 hy
        obtain ⟨_, _, _, hQ⟩ := hf i (List.mem_range.1 hir)
        exact hQ
/-- A struct's fields, from a place on. -/
def OpensF {α : Type} (P : Program) (fl : List Field) (off : Nat) (d : Kd α) (Q : α → Prop) : Prop :=
  ∀ {H : Type} (enc : TypeId × Value → H) (w : World) (base : Nat) (spare : Nat → Bool) (held : Bool) (n : Nat) (cs : List Value) (ys : List (DataW H × List MemPlace)),
    ys.length = fl.length → (∀ (i : Nat) (f : Field), fl[i]? = some f → DataW.trod enc P w base spare held n f.type ((cs.drop f.offset).take (P.cellsOf f.type)) = ys[i]?) →
    (∀ q ∈ DataW.weightsEach P (fl.map (·.type)) (ys.map (·.1)), q ≤ reachBytes) → ∃ a : α, d.K w a ((cs.drop off).take d.sz) ∧ Q a
theorem opensF_one {f : Field} {off : Nat} {α : Type} {d : Kd α} {Q : α → Prop} (ho : f.offset = off) (h : Opens P f.type d Q) : OpensF P [f] off d Q := by
  intro H enc w base spare held n cs ys hl hf hx
  match ys, hl with
  | [y], _ =>
    have := hf 0 f rfl
    rw [ho, h.1] at this
    refine h.2 enc w base spare held n _ y this (fun q hq => hx q ?_)
    simp only [List.map_cons, List.map_nil, DataW.weightsEach, List.append_nil]
    exact hq
theorem opensF_cons {f : Field} {fl : List Field} {off : Nat} {α β : Type} {d : Kd α} {d' : Kd β} {Q : α → Prop} {Q' : β → Prop} (ho : f.offset = off) (h : Opens P f.type d Q) (h' : OpensF P fl (off + d.sz) d' Q') :
    OpensF P (f :: fl) off (Kd.pair d d') (fun x => Q x.1 ∧ Q' x.2) := by
  intro H enc w base spare held n cs ys hl hf hx
  match ys, hl with
  | y :: ys, hl =>
    have h0 := hf 0 f rfl
    rw [ho, h.1] at h0
    simp only [List.map_cons, DataW.weightsEach, List.mem_append] at hx
    obtain ⟨a, hK, hQ⟩ := h.2 enc w base spare held n _ y h0 (fun q hq => hx q (.inl hq))
    obtain ⟨b, hK', hQ'⟩ := h' enc w base spare held n cs ys (by simpa using hl) (fun i f hi => hf (i + 1) f (by simpa using hi)) (fun q hq => hx q (.inr hq))
    refine ⟨(a, b), ⟨_, _, ?_, hK, hK'⟩, hQ, hQ'⟩
    show (cs.drop off).take (d.sz + d'.sz) = _
    rw [List.take_add, List.drop_drop]
theorem opens_struct {fs : Array Field} {fl : List Field} {α β : Type} {d : Kd α} {Q : α → Prop} (f : β → α) (g : α → β) (hg : ∀ a, f (g a) = a) (ht : P.underlying t = some (.struct fs)) (hfl : fs.toList = fl) (hc : P.cellsOf t = d.sz) (h : OpensF P fl 0 d Q) :
    Opens P t (Kd.iso d f) (fun b => Q (f b)) := by
  refine ⟨hc, fun enc w base spare held fuel cs x hx hw => ?_⟩
  obtain ⟨xs, n, _, rfl, hl, hxl, hf⟩ := DataW.trod_struct ht hx
  simp only [DataW.weights, ht] at hw
  have hfl' : fl.length = fs.size := by rw [← hfl, Array.length_toList]
  obtain ⟨a, hK, hQ⟩ := h enc w base spare held n cs xs (by omega) (fun i fd hi => hf i fd (by rw [← hfl] at hi; simpa using hi)) (by rw [← hfl]; exact hw)
  refine ⟨g a, ?_, by show Q (f (g a)); rw [hg]; exact hQ⟩
  show d.K w (f (g a)) cs
  rw [hg]
  have : (cs.drop 0).take d.sz = cs := by rw [List.drop_zero, ← hc, ← hl, List.take_length]
  rw [this] at hK
  exact hK
theorem Opens.imp {α : Type} {d : Kd α} {Q Q' : α → Prop} (h : Opens P t d Q) (hq : ∀ a, Q a → Q' a) : Opens P t d Q' :=
  ⟨h.1, fun enc w base spare held fuel cs x hx hw => let ⟨a, hK, hQ⟩ := h.2 enc w base spare held fuel cs x hx hw; ⟨a, hK, hq a hQ⟩⟩
/-- At a law's own argument. -/
theorem Opens.arg {α : Type} {d : Kd α} {Q : α → Prop} (h : Opens P t d Q) {H : Type} {enc : TypeId × Value → H} {W : World} {spare : Nat → Bool} {held : Bool} {v : Value} {x : DataW H} {p : List MemPlace} {ts : List TypeId} {ds : List (DataW H)} {j : Nat}
    (hsz : (DataW.weightsEach P ts ds).all (· ≤ reachBytes) = true) (hj : ts[j]? = some t) (hx : ds[j]? = some x) (ht : DataW.Trod enc P W 0 spare held t v x p) : ∃ a : α, d.K W a v.cells.toList ∧ Q a := by
  obtain ⟨fuel, hf⟩ := ht
  refine h.2 enc W 0 spare held fuel _ _ hf (fun n hn => ?_)
  have := List.all_eq_true.1 hsz n (DataW.weights_mem_each hj hx n hn)
  simpa using this
end
end Go.Proofs.Ytgmeellapjimgaa.Op
