/- A superblock: what the program's Encode, and the document's, come to. -/
import Derived.Test.YtnfoknnbolgfjaaPLbx3
import Derived.Test.YtnfoknnbolgfjaaPLbx5
import Derived.Test.YtnfoknnbolgfjaaBitsPutF
import Derived.Test.YtnfoknnbolgfjaaCrcFun
import Derived.Test.YtnfoknnbolgfjaaLayMake
namespace Go.Proofs.Ytnfoknnbolgfjaa.Lay
open Go Go.RowKit Go.Proofs.Ytnfoknnbolgfjaa.PLb Go.Proofs.YtnfoknnbolgfjaaW.PrintWords Go.Proofs.YtnfoknnbolgfjaaW.PrintLast Go.Proofs.YtnfoknnbolgfjaaW.PrintMore
set_option linter.unusedVariables false
set_option linter.unusedSimpArgs false

def le4 (x : Int) : List Int := [x % 256, (x / 256) % 256, (x / 65536) % 256, (x / 16777216) % 256]
def M8 : List Int := [66, 79, 76, 76, 65, 82, 68, 83]
def hd7 (p0 p1 p2 p3 p4 p5 p6 : Int) : List Int := ((((((M8 ++ le4 p0) ++ le4 p1) ++ le4 p2) ++ le4 p3) ++ le4 p4) ++ le4 p5) ++ le4 p6
theorem hd7_length (p0 p1 p2 p3 p4 p5 p6 : Int) : (hd7 p0 p1 p2 p3 p4 p5 p6).length = 36 := rfl
/-- A plan's superblock. -/
def sb (p0 p1 p2 p3 p4 p5 p6 : Int) : List Int := (hd7 p0 p1 p2 p3 p4 p5 p6 ++ le4 (Crc.crc (hd7 p0 p1 p2 p3 p4 p5 p6))) ++ List.replicate 472 0
theorem sb_length (p0 p1 p2 p3 p4 p5 p6 : Int) : (sb p0 p1 p2 p3 p4 p5 p6).length = 512 := by
  unfold sb
  rw [List.length_append, List.length_append, List.length_replicate, hd7_length]
  rfl
theorem le4_bytes (x : Int) : Bp.Bytes (le4 x) := by
  intro y hy
  simp only [le4, List.mem_cons, List.not_mem_nil, or_false] at hy
  omega
theorem app_bytes {l m : List Int} (hl : Bp.Bytes l) (hm : Bp.Bytes m) : Bp.Bytes (l ++ m) := fun x hx => (List.mem_append.1 hx).elim (hl x) (hm x)
theorem M8_bytes : Bp.Bytes M8 := by
  intro y hy
  simp only [M8, List.mem_cons, List.not_mem_nil, or_false] at hy
  omega
theorem hd7_bytes (p0 p1 p2 p3 p4 p5 p6 : Int) : Bp.Bytes (hd7 p0 p1 p2 p3 p4 p5 p6) :=
  app_bytes (app_bytes (app_bytes (app_bytes (app_bytes (app_bytes (app_bytes M8_bytes (le4_bytes _)) (le4_bytes _)) (le4_bytes _)) (le4_bytes _)) (le4_bytes _)) (le4_bytes _)) (le4_bytes _)
theorem zeros_bytes (n : Nat) : Bp.Bytes (List.replicate n 0) := fun x hx => by rw [List.eq_of_mem_replicate hx]; decide
theorem sb_bytes (p0 p1 p2 p3 p4 p5 p6 : Int) : Bp.Bytes (sb p0 p1 p2 p3 p4 p5 p6) := app_bytes (app_bytes (hd7_bytes _ _ _ _ _ _ _) (le4_bytes _)) (zeros_bytes _)
theorem crc_range (l : List Int) : 0 ≤ Crc.crc l ∧ Crc.crc l < 4294967296 := by
  have := (Crc.more 0#32 l).isLt
  unfold Crc.crc
  omega
theorem dg_le4 (x : Int) (v : Nat) (hv : (v : Int) = x % 18446744073709551616) : (List.range 4).map (fun p => Bp.dg v (Bp.wh 4 false p)) = le4 x := by
  have e : (List.range 4) = [0, 1, 2, 3] := rfl
  rw [e]
  simp only [List.map_cons, List.map_nil, Bp.wh, Bool.false_eq_true, if_false, Bp.dg, le4]
  congr 1
  · omega
  congr 1
  · omega
  congr 1
  · omega
  congr 1
  omega
theorem put4 (H : List Int) (n m : Nat) (a x : Int) (k : Nat) (hk : 9 ≤ k) (hn : n = m + 4) (hl : H.length + n ≤ 1000) (ha : a = (H.length : Int)) :
    bits_Put.f k (H ++ List.replicate n 0) a 4 false (IntKind.u64.wrap x) = some ((H ++ le4 x) ++ List.replicate m 0, true) := by
  subst hn
  subst ha
  have e : IntKind.u64.wrap x = x % 18446744073709551616 := rfl
  obtain ⟨v, hv⟩ := Int.eq_ofNat_of_zero_le (show 0 ≤ x % 18446744073709551616 by omega)
  rw [e, hv]
  have hL : (H ++ List.replicate (m + 4) (0 : Int)).length = H.length + (m + 4) := by rw [List.length_append, List.length_replicate]
  have := Bp.put_f (H ++ List.replicate (m + 4) 0) (by omega) H.length 4 v false (by decide) (by decide) (by omega) k hk
  rw [show ((4 : Nat) : Int) = 4 from rfl] at this
  rw [this]
  unfold Bp.lay
  rw [dg_le4 x v hv.symm, List.take_left, List.drop_append, List.drop_eq_nil_of_le (show H.length ≤ H.length + 4 by omega), List.nil_append, show H.length + 4 - H.length = 4 by omega, List.drop_replicate, show m + 4 - 4 = m by omega, List.append_assoc]
theorem encode_f (p0 p1 p2 p3 p4 p5 p6 : Int) (k : Nat) (hk : 400 ≤ k) : layout_Encode.f k p0 p1 p2 p3 p4 p5 p6 = some (sb p0 p1 p2 p3 p4 p5 p6) := by
  have h9 : 9 ≤ k := by omega
  unfold layout_Encode.f
  have e0 : magic512 = M8 ++ List.replicate 504 0 := rfl
  rw [e0, put4 M8 504 500 8 p0 k h9 rfl (by decide) rfl, Option.bind_some]
  dsimp only
  rw [put4 (M8 ++ le4 p0) 500 496 12 p1 k h9 rfl (by rw [show (M8 ++ le4 p0).length = 12 from rfl]; decide) rfl, Option.bind_some]
  dsimp only
  rw [put4 _ 496 492 16 p2 k h9 rfl (by rw [show ((M8 ++ le4 p0) ++ le4 p1).length = 16 from rfl]; decide) rfl, Option.bind_some]
  dsimp only
  rw [put4 _ 492 488 20 p3 k h9 rfl (by rw [show (((M8 ++ le4 p0) ++ le4 p1) ++ le4 p2).length = 20 from rfl]; decide) rfl, Option.bind_some]
  dsimp only
  rw [put4 _ 488 484 24 p4 k h9 rfl (by rw [show ((((M8 ++ le4 p0) ++ le4 p1) ++ le4 p2) ++ le4 p3).length = 24 from rfl]; decide) rfl, Option.bind_some]
  dsimp only
  rw [put4 _ 484 480 28 p5 k h9 rfl (by rw [show (((((M8 ++ le4 p0) ++ le4 p1) ++ le4 p2) ++ le4 p3) ++ le4 p4).length = 28 from rfl]; decide) rfl, Option.bind_some]
  dsimp only
  rw [put4 _ 480 476 32 p6 k h9 rfl (by rw [show ((((((M8 ++ le4 p0) ++ le4 p1) ++ le4 p2) ++ le4 p3) ++ le4 p4) ++ le4 p5).length = 32 from rfl]; decide) rfl, Option.bind_some]
  dsimp only
  have eh : ((((((M8 ++ le4 p0) ++ le4 p1) ++ le4 p2) ++ le4 p3) ++ le4 p4) ++ le4 p5) ++ le4 p6 = hd7 p0 p1 p2 p3 p4 p5 p6 := rfl
  rw [eh]
  have hl := hd7_length p0 p1 p2 p3 p4 p5 p6
  have hlen : (hd7 p0 p1 p2 p3 p4 p5 p6 ++ List.replicate 476 (0 : Int)).length = 512 := by rw [List.length_append, List.length_replicate, hl]
  have ht : (hd7 p0 p1 p2 p3 p4 p5 p6 ++ List.replicate 476 (0 : Int)).take 36 = hd7 p0 p1 p2 p3 p4 p5 p6 := by
    have := List.take_left (l₁ := hd7 p0 p1 p2 p3 p4 p5 p6) (l₂ := List.replicate 476 (0 : Int))
    rw [hl] at this
    exact this
  rw [if_pos (by rw [hlen]; decide), ht, Crc.sum_f _ (by rw [hl]; decide) k (by rw [hl]; omega), Option.bind_some, put4 _ 476 472 36 _ k h9 rfl (by rw [hl]; decide) (by rw [hl]; rfl), Option.bind_some]
  rfl
theorem ref_l1 (n : Nat) : ∀ (k : Nat) (x : List Int), x.length + n = 512 → n + 1 ≤ k → bollardref6_Encode.l1 k x = some (x ++ List.replicate n 0) := by
  induction n with
  | zero =>
    intro k x hx hk
    obtain ⟨K, rfl⟩ : ∃ K, k = K + 1 := ⟨k - 1, by omega⟩
    unfold bollardref6_Encode.l1
    rw [if_neg (by omega), List.replicate_zero, List.append_nil]
  | succ n ih =>
    intro k x hx hk
    obtain ⟨K, rfl⟩ : ∃ K, k = K + 1 := ⟨k - 1, by omega⟩
    unfold bollardref6_Encode.l1
    rw [if_pos (by omega), if_pos (by omega), ih K (x ++ [0]) (by rw [List.length_append, List.length_singleton]; omega) (by omega), List.append_assoc]
    rfl
theorem ref_l0 (k : Nat) (x L : List Int) (i : Int) (h0 : 0 ≤ i) (h7 : i < 7) (hL : L.length = 7) (hx : x.length ≤ 1000) :
    bollardref6_Encode.l0 (k + 1) x L i = bollardref6_Encode.l0 k (x ++ le4 (rd L i)) L (i + 1) := by
  conv => lhs; unfold bollardref6_Encode.l0
  rw [if_pos h7, if_pos h0, if_pos (by omega), Option.bind_some, if_pos (by rw [show ([(rd L i) % 256, ((rd L i) / 256) % 256, ((rd L i) / 65536) % 256, ((rd L i) / 16777216) % 256] : List Int).length = 4 from rfl]; omega), w64 (by omega) (by omega)]
  rfl
theorem rencode_f (p0 p1 p2 p3 p4 p5 p6 : Int) (k : Nat) (hk : 600 ≤ k) : bollardref6_Encode.f k p0 p1 p2 p3 p4 p5 p6 = some (sb p0 p1 p2 p3 p4 p5 p6) := by
  obtain ⟨K, rfl⟩ : ∃ K, k = K + 1 + 1 + 1 + 1 + 1 + 1 + 1 + 1 := ⟨k - 8, by omega⟩
  unfold bollardref6_Encode.f
  have e : ∀ (j : Nat) (x : List Int) (i : Int), 0 ≤ i → i < 7 → x.length ≤ 1000 → bollardref6_Encode.l0 (j + 1) x [p0, p1, p2, p3, p4, p5, p6] i = bollardref6_Encode.l0 j (x ++ le4 (rd [p0, p1, p2, p3, p4, p5, p6] i)) [p0, p1, p2, p3, p4, p5, p6] (i + 1) := fun j x i h0 h7 hx => ref_l0 j x _ i h0 h7 rfl hx
  rw [e _ _ 0 (by decide) (by decide) (by decide), e _ _ (0 + 1) (by decide) (by decide) (by show 12 ≤ 1000; decide), e _ _ (0 + 1 + 1) (by decide) (by decide) (by show 16 ≤ 1000; decide), e _ _ (0 + 1 + 1 + 1) (by decide) (by decide) (by show 20 ≤ 1000; decide), e _ _ (0 + 1 + 1 + 1 + 1) (by decide) (by decide) (by show 24 ≤ 1000; decide),
    e _ _ (0 + 1 + 1 + 1 + 1 + 1) (by decide) (by decide) (by show 28 ≤ 1000; decide), e _ _ (0 + 1 + 1 + 1 + 1 + 1 + 1) (by decide) (by decide) (by show 32 ≤ 1000; decide)]
  have eh : ((((((([66, 79, 76, 76, 65, 82, 68, 83] ++ le4 (rd [p0, p1, p2, p3, p4, p5, p6] 0)) ++ le4 (rd [p0, p1, p2, p3, p4, p5, p6] (0 + 1))) ++ le4 (rd [p0, p1, p2, p3, p4, p5, p6] (0 + 1 + 1))) ++ le4 (rd [p0, p1, p2, p3, p4, p5, p6] (0 + 1 + 1 + 1))) ++ le4 (rd [p0, p1, p2, p3, p4, p5, p6] (0 + 1 + 1 + 1 + 1))) ++ le4 (rd [p0, p1, p2, p3, p4, p5, p6] (0 + 1 + 1 + 1 + 1 + 1))) ++ le4 (rd [p0, p1, p2, p3, p4, p5, p6] (0 + 1 + 1 + 1 + 1 + 1 + 1))) = hd7 p0 p1 p2 p3 p4 p5 p6 := rfl
  rw [eh]
  unfold bollardref6_Encode.l0
  have hl := hd7_length p0 p1 p2 p3 p4 p5 p6
  rw [if_neg (by decide), Crc.rsum_f _ (by rw [hl]; decide) K (by rw [hl]; omega), Option.bind_some, Option.bind_some]
  have e4 : ([Crc.crc (hd7 p0 p1 p2 p3 p4 p5 p6) % 256, Crc.crc (hd7 p0 p1 p2 p3 p4 p5 p6) / 256 % 256, Crc.crc (hd7 p0 p1 p2 p3 p4 p5 p6) / 65536 % 256, Crc.crc (hd7 p0 p1 p2 p3 p4 p5 p6) / 16777216 % 256] : List Int) = le4 (Crc.crc (hd7 p0 p1 p2 p3 p4 p5 p6)) := rfl
  rw [e4]
  have hlen : (hd7 p0 p1 p2 p3 p4 p5 p6 ++ le4 (Crc.crc (hd7 p0 p1 p2 p3 p4 p5 p6))).length = 40 := by rw [List.length_append, hl]; rfl
  rw [if_pos (by rw [hl]; show 36 + 4 < 140737488355328; decide), ref_l1 472 K _ (by rw [hlen]) (by omega)]
  rfl

end Go.Proofs.Ytnfoknnbolgfjaa.Lay
