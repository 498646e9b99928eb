/- A batch's bytes: what the program's laid and Encode come to, and the document's. -/
import Derived.Test.YtgmeellapjimgaaQPBax5
import Derived.Test.YtgmeellapjimgaaQPBax10
import Derived.Test.YtgmeellapjimgaaQPBax9
import Derived.Test.YtgmeellapjimgaaQPBax8
import Derived.Test.YtgmeellapjimgaaQPBax6
import Derived.Test.YtgmeellapjimgaaQPBax2
import Derived.Test.YtgmeellapjimgaaQBitsPutO
import Derived.Test.YtgmeellapjimgaaQCrcFun
import Derived.Test.YtgmeellapjimgaaQRecRefO
namespace Go.Proofs.Ytgmeellapjimgaa.Bp
open Go Go.RowKit Go.Proofs.Ytgmeellapjimgaa.PBa Go.Proofs.YtgmeellapjimgaaW.PrintWords Go.Proofs.YtgmeellapjimgaaW.PrintLast Go.Proofs.YtgmeellapjimgaaW.PrintMore
set_option linter.unusedVariables false
set_option linter.unusedSimpArgs false

/-- A number as it is laid. -/
def U (v : Int) : Nat := (IntKind.u64.wrap v).toNat
theorem U_eq (v : Int) : IntKind.u64.wrap v = ((U v : Nat) : Int) := by unfold U; rw [IntKind.wrap_u64]; omega
theorem take_all {α : Type} (A B : List α) (n : Nat) (h : A.length = n) : (A ++ B).take n = A := by rw [← h]; exact List.take_left
theorem drop_all {α : Type} (A B : List α) (n : Nat) (h : A.length = n) : (A ++ B).drop n = B := by rw [← h]; exact List.drop_left
theorem bput_f (l : List Int) (hl : l.length ≤ 140737488351232) (a n : Nat) (v : Int) (h1 : 1 ≤ n) (h8 : n ≤ 8) (h : a + n ≤ l.length) (k : Nat) (hk : 9 ≤ k) :
    batch_put.f k l (a : Int) (n : Int) v = some (l.take a ++ (beL (U v) n ++ l.drop (a + n))) := by
  unfold batch_put.f
  rw [U_eq, put_f l hl a n (U v) true h1 h8 h k hk, Option.bind_some]
  unfold lay
  rw [range_big]
theorem bput_at (A C B : List Int) (a n : Int) (m : Nat) (v : Int) (hA : a = (A.length : Int)) (hn : n = (m : Int)) (hC : C.length = m) (hl : (A ++ (C ++ B)).length ≤ 140737488351232) (h1 : 1 ≤ m) (h8 : m ≤ 8) (k : Nat) (hk : 9 ≤ k) :
    batch_put.f k (A ++ (C ++ B)) a n v = some (A ++ (beL (U v) m ++ B)) := by
  subst hA
  subst hn
  rw [bput_f _ hl A.length m v h1 h8 (by simp only [List.length_append]; omega) k hk, take_all A _ _ rfl, ← List.drop_drop, drop_all A _ _ rfl, drop_all C _ m hC]
/-- The document's Lay. -/
theorem lay_l0 (v : Nat) (n : Nat) (hn : n ≤ 8) : ∀ (k : Nat) (x : List Int), x.length + n ≤ 1000000000 → n + 1 ≤ k → bollardref1_Lay.l0 k x (v : Int) ((n : Int) - 1) = some (x ++ beL v n) := by
  induction n with
  | zero =>
    intro k x hx hk
    obtain ⟨K, rfl⟩ : ∃ K, k = K + 1 := ⟨k - 1, by omega⟩
    simp only [bollardref1_Lay.l0]
    rw [if_neg (by omega)]
    simp [beL]
  | succ n ih =>
    intro k x hx hk
    obtain ⟨K, rfl⟩ : ∃ K, k = K + 1 := ⟨k - 1, by omega⟩
    simp only [bollardref1_Lay.l0]
    have e8 : wrap64 (8 * (((n + 1 : Nat) : Int) - 1)) = 8 * (n : Int) := by unfold wrap64; omega
    have e9 : wrap64 ((((n + 1 : Nat) : Int) - 1) - 1) = (n : Int) - 1 := by unfold wrap64; omega
    rw [if_pos (by omega), e8, if_pos (by omega), if_pos (by omega), e9, dg_shr v n (by omega), ih (by omega) K _ (by simp only [List.length_append, List.length_cons, List.length_nil]; omega) (by omega), List.append_assoc]
    rfl
theorem lay_f (x : List Int) (n : Int) (m : Nat) (hn : n = (m : Int)) (h1 : 1 ≤ m) (h8 : m ≤ 8) (v : Int) (hx : x.length ≤ 100000000) (k : Nat) (hk : 9 ≤ k) : bollardref1_Lay.f k x n (IntKind.u64.wrap v) = some (x ++ beL (U v) m) := by
  subst hn
  unfold bollardref1_Lay.f
  rw [U_eq, show wrap64 ((m : Int) - 1) = (m : Int) - 1 from by unfold wrap64; omega, lay_l0 (U v) m h8 k x (by omega) (by omega)]
def Z (n : Nat) : List Int := List.replicate n 0
theorem Z_len (n : Nat) : (Z n).length = n := List.length_replicate
/-- The head behind the Sum. -/
def bodyH (s p q n first : Int) : List Int := beL (U p) 8 ++ (beL (U q) 8 ++ (beL (U s) 4 ++ (beL (U n) 4 ++ beL (U first) 8)))
theorem bodyH_len (s p q n first : Int) : (bodyH s p q n first).length = 32 := by unfold bodyH; simp only [List.length_append, beL_length]
theorem head_f (b s p q n first : Int) (k : Nat) (hk : 9 ≤ k) : headL k b s p q n first = some (beL (U b) 8 ++ (Z 8 ++ bodyH s p q n first)) := by
  unfold headL
  have e0 : List.replicate 48 (0 : Int) = [] ++ (Z 8 ++ (Z 8 ++ (Z 8 ++ (Z 8 ++ (Z 4 ++ (Z 4 ++ Z 8)))))) := rfl
  rw [e0, bput_at [] (Z 8) (Z 8 ++ (Z 8 ++ (Z 8 ++ (Z 4 ++ (Z 4 ++ Z 8))))) 0 8 8 b rfl rfl rfl (by simp [Z_len]) (by omega) (by omega) k hk, Option.bind_some]
  rw [show ([] : List Int) ++ (beL (U b) 8 ++ (Z 8 ++ (Z 8 ++ (Z 8 ++ (Z 4 ++ (Z 4 ++ Z 8)))))) = (beL (U b) 8 ++ Z 8) ++ (Z 8 ++ (Z 8 ++ (Z 4 ++ (Z 4 ++ Z 8)))) from by simp,
    bput_at (beL (U b) 8 ++ Z 8) (Z 8) (Z 8 ++ (Z 4 ++ (Z 4 ++ Z 8))) 16 8 8 p (by simp [Z_len, beL_length]) rfl rfl (by simp [Z_len, beL_length]) (by omega) (by omega) k hk, Option.bind_some]
  rw [show (beL (U b) 8 ++ Z 8) ++ (beL (U p) 8 ++ (Z 8 ++ (Z 4 ++ (Z 4 ++ Z 8)))) = (beL (U b) 8 ++ Z 8 ++ beL (U p) 8) ++ (Z 8 ++ (Z 4 ++ (Z 4 ++ Z 8))) from by simp,
    bput_at (beL (U b) 8 ++ Z 8 ++ beL (U p) 8) (Z 8) (Z 4 ++ (Z 4 ++ Z 8)) 24 8 8 q (by simp [Z_len, beL_length]) rfl rfl (by simp [Z_len, beL_length]) (by omega) (by omega) k hk, Option.bind_some]
  rw [show (beL (U b) 8 ++ Z 8 ++ beL (U p) 8) ++ (beL (U q) 8 ++ (Z 4 ++ (Z 4 ++ Z 8))) = (beL (U b) 8 ++ Z 8 ++ beL (U p) 8 ++ beL (U q) 8) ++ (Z 4 ++ (Z 4 ++ Z 8)) from by simp,
    bput_at (beL (U b) 8 ++ Z 8 ++ beL (U p) 8 ++ beL (U q) 8) (Z 4) (Z 4 ++ Z 8) 32 4 4 s (by simp [Z_len, beL_length]) rfl rfl (by simp [Z_len, beL_length]) (by omega) (by omega) k hk, Option.bind_some]
  rw [show (beL (U b) 8 ++ Z 8 ++ beL (U p) 8 ++ beL (U q) 8) ++ (beL (U s) 4 ++ (Z 4 ++ Z 8)) = (beL (U b) 8 ++ Z 8 ++ beL (U p) 8 ++ beL (U q) 8 ++ beL (U s) 4) ++ (Z 4 ++ Z 8) from by simp,
    bput_at (beL (U b) 8 ++ Z 8 ++ beL (U p) 8 ++ beL (U q) 8 ++ beL (U s) 4) (Z 4) (Z 8) 36 4 4 n (by simp [Z_len, beL_length]) rfl rfl (by simp [Z_len, beL_length]) (by omega) (by omega) k hk, Option.bind_some]
  rw [show (beL (U b) 8 ++ Z 8 ++ beL (U p) 8 ++ beL (U q) 8 ++ beL (U s) 4) ++ (beL (U n) 4 ++ Z 8) = (beL (U b) 8 ++ Z 8 ++ beL (U p) 8 ++ beL (U q) 8 ++ beL (U s) 4 ++ beL (U n) 4) ++ (Z 8 ++ []) from by simp,
    bput_at (beL (U b) 8 ++ Z 8 ++ beL (U p) 8 ++ beL (U q) 8 ++ beL (U s) 4 ++ beL (U n) 4) (Z 8) [] 40 8 8 first (by simp [Z_len, beL_length]) rfl rfl (by simp [Z_len, beL_length]) (by omega) (by omega) k hk]
  unfold bodyH
  simp

/-- A record's error. -/
def chkS (x : S45) : Int := chk x.f0 x.f1 x.f2 x.f3 x.f4 x.f5
/-- A record's bytes. -/
def encS (first : Int) (x : S45) : List Int := enc x.f0 x.f1 x.f2 x.f3 x.f4 x.f5 first
/-- The first record's error, or none. -/
def ferr : List S45 → Int
  | [] => 0
  | x :: l => if chkS x = 0 then ferr l else chkS x
theorem chkL_f (k : Nat) (hk : 3 ≤ k) : ∀ l, chkL k l = some (ferr l)
  | [] => rfl
  | x :: l => by
    rw [chkL, check_f k _ _ _ _ _ _ hk, Option.bind_some]
    show (if chkS x = 0 then chkL k l else some (chkS x)) = _
    rw [chkL_f k hk l, ferr]
    split <;> rfl
theorem ferr_all : ∀ {l : List S45}, ferr l = 0 → ∀ x ∈ l, chkS x = 0
  | [], _, x, hx => by cases hx
  | y :: l, h, x, hx => by
    rw [ferr] at h
    by_cases c : chkS y = 0
    · rw [if_pos c] at h
      rcases List.mem_cons.1 hx with rfl | hx
      · exact c
      · exact ferr_all h x hx
    · rw [if_neg c] at h; exact absurd h c
def flat (first : Int) (l : List S45) : List Int := (l.map (encS first)).flatten
theorem encS_len {x : S45} {first : Int} (h : chkS x = 0) (hf : 0 ≤ first ∧ first ≤ 1125899906842624) : (encS first x).length ≤ 5000 := by
  have hc := chk_ok h
  have := enc_len x.f0 x.f1 x.f2 x.f3 x.f4 x.f5 first (by omega) (by omega) (by omega) (by omega)
  unfold encS
  omega
theorem flat_len (first : Int) (hf : 0 ≤ first ∧ first ≤ 1125899906842624) : ∀ l : List S45, (∀ x ∈ l, chkS x = 0) → (flat first l).length ≤ 5000 * l.length
  | [], _ => by simp [flat]
  | x :: l, h => by
    have := flat_len first hf l (fun y hy => h y (List.mem_cons_of_mem _ hy))
    have h2 := encS_len (h x List.mem_cons_self) hf
    unfold flat at this ⊢
    rw [List.map_cons, List.flatten_cons, List.length_append, List.length_cons]
    omega
theorem encL_f (k : Nat) (hk : 40 ≤ k) (first : Int) (hf : 0 ≤ first ∧ first ≤ 1125899906842624) : ∀ (l : List S45) (acc : List Int), (∀ x ∈ l, chkS x = 0) → acc.length + 5000 * l.length ≤ 1000000000 → encL k first l acc = some (acc ++ flat first l, 0)
  | [], acc, _, _ => by simp [encL, flat]
  | x :: l, acc, h, hl => by
    have hx := h x List.mem_cons_self
    have h2 := encS_len hx hf
    simp only [List.length_cons] at hl
    rw [encL, encode_R _ _ _ _ _ _ _ k hk, Option.bind_some]
    unfold encR
    rw [if_pos (show chk x.f0 x.f1 x.f2 x.f3 x.f4 x.f5 = 0 from hx), if_pos hf]
    dsimp only
    unfold encS at h2
    rw [if_pos rfl, if_pos (by omega)]
    refine (encL_f k hk first hf l _ (fun y hy => h y (List.mem_cons_of_mem _ hy)) (by rw [List.length_append]; omega)).trans ?_
    rw [List.append_assoc]
    rfl
/-- What stands behind a batch's Sum. -/
def bodyB (s p q : Int) (l : List S45) : List Int := bodyH s p q (l.length : Int) (rd_T45 l 0).f4 ++ flat (rd_T45 l 0).f4 l
/-- A batch's bytes. -/
def bytesB (b s p q : Int) (l : List S45) : List Int := beL (U b) 8 ++ (beL (U (((bodyB s p q l).length : Int) + 4)) 4 ++ (beL (U (Crc.crc (bodyB s p q l))) 4 ++ bodyB s p q l))
theorem crc_rng (l : List Int) : 0 ≤ Crc.crc l ∧ Crc.crc l < 4294967296 := by
  unfold Crc.crc
  have := Crc.toNat_lt (Crc.more 0#32 l)
  omega
theorem tail_f (b s p q : Int) (l : List S45) (hb : (bodyB s p q l).length ≤ 10000000) (k : Nat) (hk : 10 * (bodyB s p q l).length + 100 ≤ k) :
    tailL k (beL (U b) 8 ++ (Z 8 ++ bodyB s p q l)) = some (bytesB b s p q l, 0) := by
  obtain ⟨B, hB⟩ : ∃ B, B = bodyB s p q l := ⟨_, rfl⟩
  rw [← hB] at hb hk ⊢
  have hl : (beL (U b) 8 ++ (Z 8 ++ B)).length = 16 + B.length := by simp only [List.length_append, beL_length, Z_len]; omega
  have hc := crc_rng B
  unfold tailL
  rw [if_neg (by rw [hl]; omega), hl, show ((16 + B.length : Nat) : Int) - 12 = (B.length : Int) + 4 by omega]
  rw [show beL (U b) 8 ++ (Z 8 ++ B) = beL (U b) 8 ++ (Z 4 ++ (Z 4 ++ B)) from by rw [← List.append_assoc (Z 4)]; rfl,
    bput_at (beL (U b) 8) (Z 4) (Z 4 ++ B) 8 4 4 _ (by simp [beL_length]) rfl rfl (by simp only [List.length_append, beL_length, Z_len]; omega) (by omega) (by omega) k (by omega), Option.bind_some]
  have hd : (beL (U b) 8 ++ (beL (U ((B.length : Int) + 4)) 4 ++ (Z 4 ++ B))).drop 16 = B := by
    rw [show beL (U b) 8 ++ (beL (U ((B.length : Int) + 4)) 4 ++ (Z 4 ++ B)) = (beL (U b) 8 ++ beL (U ((B.length : Int) + 4)) 4 ++ Z 4) ++ B from by simp]
    exact drop_all _ _ _ (by simp [beL_length, Z_len])
  rw [if_pos (by simp only [List.length_append, beL_length, Z_len]; omega), hd, Crc.sum_f B (by omega) k (by omega), Option.bind_some, if_pos hc]
  rw [show beL (U b) 8 ++ (beL (U ((B.length : Int) + 4)) 4 ++ (Z 4 ++ B)) = (beL (U b) 8 ++ beL (U ((B.length : Int) + 4)) 4) ++ (Z 4 ++ B) from by simp,
    bput_at (beL (U b) 8 ++ beL (U ((B.length : Int) + 4)) 4) (Z 4) B 12 4 4 _ (by simp [beL_length]) rfl rfl (by simp only [List.length_append, beL_length, Z_len]; omega) (by omega) (by omega) k (by omega), Option.bind_some]
  unfold bytesB
  rw [← hB]
  simp
theorem bytesB_len (b s p q : Int) (l : List S45) : (bytesB b s p q l).length = 16 + (bodyB s p q l).length := by unfold bytesB; simp only [List.length_append, beL_length]; omega
theorem bodyB_len (s p q : Int) (l : List S45) : (bodyB s p q l).length = 32 + (flat (rd_T45 l 0).f4 l).length := by unfold bodyB; rw [List.length_append, bodyH_len]
theorem first_ok {l : List S45} (h0 : 0 < l.length) (h : ∀ x ∈ l, chkS x = 0) : 0 ≤ (rd_T45 l 0).f4 ∧ (rd_T45 l 0).f4 ≤ 1125899906842624 := by
  have hm : rd_T45 l 0 ∈ l := by
    unfold rd_T45
    rw [List.getD_eq_getElem?_getD, List.getElem?_eq_getElem (show (0 : Int).toNat < l.length from h0)]
    exact List.getElem_mem _
  have := chk_ok (h _ hm)
  omega
/-- What a batch comes to, as bytes and an error. -/
def laidR (b s p q : Int) (l : List S45) : List Int × Int := if ¬ offsOk b s p q l then ([], 1) else if ferr l = 0 then (bytesB b s p q l, 0) else ([], ferr l)
theorem laid_f (b s p q : Int) (l : List S45) (hl : l.length ≤ 300) (k : Nat) (hk : 20000000 ≤ k) : batch_laid.f k b s p q l = some (laidR b s p q l) := by
  unfold batch_laid.f laidR
  by_cases ho : offsOk b s p q l
  case neg => rw [if_pos ho, if_pos ho]
  rw [if_neg (not_not_intro ho), if_neg (not_not_intro ho), head_f _ _ _ _ _ _ k (by omega), Option.bind_some, chkL_f k (by omega), Option.bind_some]
  by_cases hf : ferr l = 0
  · have hall := ferr_all hf
    have h0 : 0 < l.length := Nat.pos_of_ne_zero ho.2.2.2.2.2.2.1
    have hfo := first_ok h0 hall
    have hfl := flat_len _ hfo l hall
    have hbl := bodyB_len s p q l
    rw [if_pos hf, if_pos hf, encL_f k (by omega) _ hfo l _ hall (by simp only [List.length_append, beL_length, Z_len, bodyH_len]; omega), Option.bind_some]
    dsimp only
    rw [if_pos rfl, List.append_assoc, List.append_assoc]
    exact tail_f b s p q l (by omega) k (by omega)
  · rw [if_neg hf, if_neg hf]
end Go.Proofs.Ytgmeellapjimgaa.Bp
