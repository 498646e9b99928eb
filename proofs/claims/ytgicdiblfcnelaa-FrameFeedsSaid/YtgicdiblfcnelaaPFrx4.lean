-- written by a program of this session (wip/tools/pr.py, over the kit's printer): not by hand
import Derived.Test.YtgicdiblfcnelaaPFrx0
import Derived.Test.YtgicdiblfcnelaaPFrx2
import Derived.Test.YtgicdiblfcnelaaPFrx3
namespace Go.Proofs.Ytgicdiblfcnelaa.PFr
open Go.RowKit Go.Proofs.YtgicdiblfcnelaaW.PrintWords Go.Proofs.YtgicdiblfcnelaaW.PrintLast Go.Proofs.YtgicdiblfcnelaaW.PrintMore
attribute [local go_sem] max2_int min2_int max_two min_two max_three min_three max_four min_four   -- for this text's walks alone
set_option linter.unusedVariables false
set_option linter.unusedSimpArgs false

/-! ### frame: plain laws of what Feed tells -/
theorem bytes_same (l : List Int) (hl : l.length ≤ 4000000000000000000) (n : Nat) : ∀ (k i : Nat), i + n = l.length → n + 1 ≤ k → bollardalike_Bytes.l0 k l l (i : Int) = some true := by
  induction n with
  | zero =>
    intro k i hi hk
    obtain ⟨K, rfl⟩ : ∃ K, k = K + 1 := ⟨k - 1, by omega⟩
    simp only [bollardalike_Bytes.l0]
    rw [if_neg (by omega)]
  | succ n ih =>
    intro k i hi hk
    obtain ⟨K, rfl⟩ : ∃ K, k = K + 1 := ⟨k - 1, by omega⟩
    simp only [bollardalike_Bytes.l0]
    rw [if_pos (by omega), if_pos (by omega), if_pos (by omega), if_pos True.intro, show wrap64 ((i : Int) + 1) = ((i + 1 : Nat) : Int) from by unfold wrap64; omega]
    exact ih K (i + 1) (by omega) (by omega)
theorem same_same (L : List (List Int)) (hL : L.length ≤ 1000000000) (hx : ∀ x ∈ L, x.length ≤ 1000000000) (n : Nat) : ∀ (k i : Nat), i + n = L.length → n + 1000000002 ≤ k → bollardlaw19_same.l0 k L L (i : Int) = some true := by
  induction n with
  | zero =>
    intro k i hi hk
    obtain ⟨K, rfl⟩ : ∃ K, k = K + 1 := ⟨k - 1, by omega⟩
    simp only [bollardlaw19_same.l0]
    rw [if_neg (by omega)]
  | succ n ih =>
    intro k i hi hk
    obtain ⟨K, rfl⟩ : ∃ K, k = K + 1 := ⟨k - 1, by omega⟩
    simp only [bollardlaw19_same.l0]
    have hlt : i < L.length := by omega
    have hm : rd_L1 L (i : Int) ∈ L := by
      unfold rd_L1
      rw [Int.toNat_natCast, List.getD_eq_getElem?_getD, List.getElem?_eq_getElem hlt]
      exact List.getElem_mem hlt
    have h1 := hx _ hm
    have hb : bollardalike_Bytes.f K (rd_L1 L (i : Int)) (rd_L1 L (i : Int)) = some true := by
      unfold bollardalike_Bytes.f
      rw [if_pos rfl]
      exact bytes_same _ (by omega) _ K 0 (Nat.zero_add _) (by omega)
    rw [if_pos (by omega), if_pos (by omega), if_pos (by omega), hb, Option.bind_some, if_pos rfl, show wrap64 ((i : Int) + 1) = ((i + 1 : Nat) : Int) from by unfold wrap64; omega]
    exact ih K (i + 1) (by omega) (by omega)
theorem same_f (L : List (List Int)) (hL : L.length ≤ 1000000000) (hx : ∀ x ∈ L, x.length ≤ 1000000000) : ∃ k, bollardlaw19_same.f k L L = some true := by
  refine ⟨L.length + 1000000002, ?_⟩
  unfold bollardlaw19_same.f
  rw [if_pos rfl]
  exact same_same L hL hx L.length _ 0 (by omega) (Nat.le_refl _)
theorem feedX_cons (P : List Int) (bad : Bool) (x : Int) (l : List Int) : feedX P bad (x :: l) = ((feedX P bad [x]).1 ++ (feedX (feedX P bad [x]).2.1 (feedX P bad [x]).2.2 l).1, (feedX (feedX P bad [x]).2.1 (feedX P bad [x]).2.2 l).2) := by
  cases bad
  · show feedL P (x :: l) = ((feedL P [x]).1 ++ (feedX (feedL P [x]).2.1 (feedL P [x]).2.2 l).1, (feedX (feedL P [x]).2.1 (feedL P [x]).2.2 l).2)
    by_cases h1 : (P ++ [x]).length = 4 ∧ 8192 < lenP (P ++ [x])
    · rw [feed_bad h1, feed_bad h1]
      rfl
    · by_cases h2 : 4 ≤ (P ++ [x]).length ∧ (((P ++ [x]).length - 4 : Nat) : Int) = lenP (P ++ [x])
      · rw [feed_told h1 h2, feed_told h1 h2]
        rfl
      · rw [feed_more h1 h2, feed_more h1 h2]
        rfl
  · rfl
theorem feedX_nil (P : List Int) (bad : Bool) (h : bad = true → P = []) : feedX P bad [] = ([], P, bad) := by
  cases bad
  · rfl
  · rw [h rfl]; rfl
theorem feedX_append (l m : List Int) : ∀ (P : List Int) (bad : Bool), (bad = true → P = []) → feedX P bad (l ++ m) = ((feedX P bad l).1 ++ (feedX (feedX P bad l).2.1 (feedX P bad l).2.2 m).1, (feedX (feedX P bad l).2.1 (feedX P bad l).2.2 m).2) := by
  induction l with
  | nil => intro P bad h; rw [feedX_nil P bad h]; rfl
  | cons x l ih =>
    intro P bad h
    rw [List.cons_append, feedX_cons, feedX_cons P bad x l, ih _ _ (fun h2 => ?_)]
    · simp only [List.append_assoc]
    · cases bad
      · exact feedL_bad _ _ h2
      · rfl
theorem feedL_small (l : List Int) : ∀ P, (feedL P l).1.length ≤ l.length ∧ (∀ x ∈ (feedL P l).1, x.length ≤ P.length + l.length) ∧ (feedL P l).2.1.length ≤ P.length + l.length := by
  induction l with
  | nil => intro P; simp [feedL]
  | cons x l ih =>
    intro P
    by_cases h1 : (P ++ [x]).length = 4 ∧ 8192 < lenP (P ++ [x])
    · rw [feed_bad h1]; simp
    · by_cases h2 : 4 ≤ (P ++ [x]).length ∧ (((P ++ [x]).length - 4 : Nat) : Int) = lenP (P ++ [x])
      · rw [feed_told h1 h2]
        obtain ⟨a, b, c⟩ := ih []
        simp only [List.length_cons, List.length_nil] at a b c ⊢
        refine ⟨by omega, fun y hy => ?_, by omega⟩
        rcases List.mem_cons.1 hy with rfl | hy
        · rw [List.length_drop, List.length_append]
          simp only [List.length_cons, List.length_nil]
          omega
        · have := b y hy
          omega
      · rw [feed_more h1 h2]
        obtain ⟨a, b, c⟩ := ih (P ++ [x])
        simp only [List.length_cons, List.length_append, List.length_nil] at a b c ⊢
        exact ⟨by omega, fun y hy => by have := b y hy; omega, by omega⟩
/-- Rows that were told elsewhere may stand behind those of a row of rows: their blocks are none of its own. -/
theorem told_rows {W : World} {base m c : Nat} {okz oky : Nat → Prop} {A : Option Addr} {vy : Value} {zs ys : List (List Int)} (hz : kRow.R 23 W base okz (.slice A m c) zs) (hy : kRow.R 23 W base oky vy ys) :
    ReadsRow (kRow.M W base (fun k => okz k ∧ some k ≠ vy.ownBlock)) kRow.sz W A m zs ∧ m = zs.length ∧ m ≤ c := by
  obtain ⟨A', c', he, hl, hr⟩ := OwnRow.reads hz.2
  injection he with h1 h2 h3
  subst h1
  subst h2
  subst h3
  refine ⟨hr.imp_ (Below.refl _ _) (fun x cs hp => kRow.M_mono (fun k hk => ⟨hk.1.1, fun e => ?_⟩) (kRow.M_bound hp)), rfl, hl⟩
  obtain ⟨inner, hown⟩ := Kd.R_own hy
  obtain ⟨cells, hc⟩ := own_typed hown k e.symm
  obtain ⟨_, _, _, q, hq, cells', hc'⟩ := hk
  rw [hc] at hc'
  injection hc' with hc'
  injection hc' with _ hc'
  simp [Kd.slice, Kd.int, Kd.scalar] at hq
  subst hq
  exact absurd hc' (by decide)
/-- A row of rows that is apart from a feeder's body, behind a Feed. -/
theorem told_step {W W1 : World} {g base : Nat} {P : List Int} {bad : Bool} {v v' u : Value} {ok : Nat → Prop} {xs : List (List Int)} (h : kRow.R 23 W base (fun k => ok k ∧ some k ≠ v.ownBlock) u xs) (hF : FdX W g base P bad v) (hk : KeepBut W W1 g v.ownBlock) (hv : v'.ownBlock = v.ownBlock ∨ v'.ownBlock = none ∨ ∃ b, v'.ownBlock = some b ∧ W.heap.size ≤ b) :
    kRow.R 23 W1 base (fun k => ok k ∧ some k ≠ v'.ownBlock) u xs := by
  have hb : ∃ cells, W.heap[g]? = some (.cells cells 37 (0, 0)) := by
    cases bad
    · exact ⟨_, (show FdS W g base P v from hF).1⟩
    · exact ⟨_, (show FdAt W g 0 0 0 0 0 v true ∧ v = .slice none 0 0 ∧ P = [] from hF).1⟩
  obtain ⟨cells, hb⟩ := hb
  refine Kd.R_mono (Kd.R_move (Kd.R_bound (Kd.R_types h hb (by decide))) (fun k hk2 => hk.2 k hk2.2.2.1 hk2.1.2 hk2.1.1.2)) (fun k hk2 => ⟨hk2.1.1.1, fun e => ?_⟩)
  rcases hv with hv | hv | ⟨b, hv, hle⟩
  · exact hk2.1.1.2 (e.trans hv)
  · rw [hv] at e; cases e
  · rw [hv] at e
    injection e with e
    have := hk2.2.2.1
    omega
theorem feedX_small (P : List Int) (bad : Bool) (h : bad = true → P = []) (l : List Int) : (feedX P bad l).1.length ≤ l.length ∧ (∀ x ∈ (feedX P bad l).1, x.length ≤ P.length + l.length) ∧ (feedX P bad l).2.1.length ≤ P.length + l.length := by
  cases bad
  · exact feedL_small l P
  · simp [feedX]
theorem FdX.nil {W : World} {g base : Nat} {P : List Int} {bad : Bool} {v : Value} (h : FdX W g base P bad v) : bad = true → P = [] := by
  rintro rfl
  exact (show FdAt W g 0 0 0 0 0 v true ∧ v = .slice none 0 0 ∧ P = [] from h).2.2
theorem FdX.typed {W : World} {g base : Nat} {P : List Int} {bad : Bool} {v : Value} (h : FdX W g base P bad v) : ∃ cells, W.heap[g]? = some (.cells cells 37 (0, 0)) := by
  cases bad
  · exact ⟨_, (show FdS W g base P v from h).1⟩
  · exact ⟨_, (show FdAt W g 0 0 0 0 0 v true ∧ v = .slice none 0 0 ∧ P = [] from h).1⟩
/-- A feeder's body does not lie in another feeder's block. -/
theorem FdX.apart {W : World} {g g2 base : Nat} {P : List Int} {bad : Bool} {v : Value} {cells : Array Value} (h : FdX W g base P bad v) (h2 : W.heap[g2]? = some (.cells cells 37 (0, 0))) : ∀ k, v.ownBlock = some k → k ≠ g2 := by
  rintro k hk rfl
  cases bad
  · exact Kd.R_ne (show FdS W g base P v from h).2 h2 (by decide) hk.symm
  · rw [(show FdAt W g 0 0 0 0 0 v true ∧ v = .slice none 0 0 ∧ P = [] from h).2.1] at hk
    cases hk
/-- A feeder stays as it is while another one is fed. -/
theorem FdX.other {W W1 : World} {g g2 base : Nat} {P : List Int} {bad : Bool} {v : Value} {row : Option Nat} {cells : Array Value} (h : FdX W g base P bad v) (hk : KeepBut W W1 g2 row) (hg : g ≠ g2) (h2 : W.heap[g2]? = some (.cells cells 37 (0, 0))) (hgr : some g ≠ row) (hr : ∀ k, v.ownBlock = some k → some k ≠ row) : FdX W1 g base P bad v :=
  h.step (hk.2 g h.lt hg hgr) (fun k hv => hk.2 k (h.own k hv).2 (h.apart h2 k hv) (hr k hv))
theorem own_C {w W : World} {g e base n c : Nat} {ok : Nat → Prop} {row : Option Nat} {A : Option Addr} {xs : List Int} (h : Kd.R (Kd.int .u8) e w base ok (.slice A n c) xs) (hk : KeepBut w W g row) (hg : g < base) (hr : ∀ k, row = some k → k < base) : Kd.C (Kd.int .u8) W A xs.length xs := by
  have h2 := Kd.R_move (own_only h) (w1 := W) (fun k hv => hk.2 k (Kd.R_lt h k hv) (fun e => by have := Kd.R_base h k hv; omega) (fun e => by have := Kd.R_base h k hv; have := hr k e.symm; omega))
  exact (Kd.R_reads' h2).2.2
theorem zeros_fed (e : Nat) : ∀ p, p < 4 → feedL (List.replicate p 0) (List.replicate e 0) = (List.replicate ((p + e) / 4) [], List.replicate ((p + e) % 4) 0, false) := by
  induction e with
  | zero => intro p hp; rw [show (p + 0) / 4 = 0 by omega, show (p + 0) % 4 = p by omega]; rfl
  | succ e ih =>
    intro p hp
    have hP : List.replicate p (0 : Int) ++ [0] = List.replicate (p + 1) 0 := by rw [← List.replicate_succ']
    by_cases h : p = 3
    · subst h
      rw [List.replicate_succ (n := e), feed_told (by rw [hP]; decide +kernel) (by rw [hP]; decide +kernel)]
      have := ih 0 (by omega)
      rw [show List.replicate 0 (0 : Int) = [] from rfl] at this
      rw [this, hP, show (3 + (e + 1)) / 4 = (0 + e) / 4 + 1 by omega, show (3 + (e + 1)) % 4 = (0 + e) % 4 by omega]
      rfl
    · rw [List.replicate_succ (n := e), feed_more (by rw [hP, List.length_replicate]; omega) (by rw [hP, List.length_replicate]; omega), hP, ih (p + 1) (by omega), show p + 1 + e = p + (e + 1) by omega]
/-! ### frame: plain laws of what was wrapped -/
theorem i64_or_add {v x : Int} (h0 : 0 ≤ v) (h1 : v < 16777216) (h2 : 0 ≤ x ∧ x < 256) : Go.bits .or .i64 (wrap64 (v * 256)) (wrap64 x) = v * 256 + x := by
  have e1 : wrap64 (v * 256) = v * 256 := by unfold wrap64; omega
  have e2 : wrap64 x = x := by unfold wrap64; omega
  rw [e1, e2]
  obtain ⟨a, rfl⟩ := Int.eq_ofNat_of_zero_le h0
  obtain ⟨b, rfl⟩ := Int.eq_ofNat_of_zero_le h2.1
  have e : ((a : Int) * 256) = ((2 ^ 8 * a : Nat) : Int) := by omega
  rw [e]
  show IntKind.i64.wrap ((BitVec.ofInt 64 ((2 ^ 8 * a : Nat) : Int) ||| BitVec.ofInt 64 ((b : Nat) : Int)).toNat : Int) = _
  rw [BitVec.ofInt_natCast, BitVec.ofInt_natCast, BitVec.toNat_or, BitVec.toNat_ofNat, BitVec.toNat_ofNat, Nat.mod_eq_of_lt (by omega), Nat.mod_eq_of_lt (by omega), ← Nat.two_pow_add_eq_or_of_lt (show b < 2 ^ 8 from by omega) a, i64_w]
  unfold wrap64
  omega
theorem lenV_eq {a b c d : Int} (ha : 0 ≤ a ∧ a < 256) (hb : 0 ≤ b ∧ b < 256) (hc : 0 ≤ c ∧ c < 256) (hd : 0 ≤ d ∧ d < 256) : lenV a b c d = ((a * 256 + b) * 256 + c) * 256 + d := by
  unfold lenV
  have h0 : Go.bits .or .i64 0 (wrap64 a) = a := by
    have := i64_or_add (v := 0) (Int.le_refl _) (by decide) ha
    rw [show wrap64 ((0 : Int) * 256) = 0 from by unfold wrap64; omega, show (0 : Int) * 256 + a = a by omega] at this
    exact this
  rw [h0, i64_or_add (by omega) (by omega) hb, i64_or_add (by omega) (by omega) hc, i64_or_add (by omega) (by omega) hd]
/-- A frame's head. -/
def hdL (n : Int) : List Int := [(n / 16777216) % 256, (n / 65536) % 256, (n / 256) % 256, n % 256]
theorem hdL_len (n : Int) (h0 : 0 ≤ n) (h : n < 4294967296) : lenP (hdL n) = n := by
  show lenV _ _ _ _ = n
  simp only [hdL, List.getD_cons_zero, List.getD_cons_succ]
  rw [lenV_eq (by omega) (by omega) (by omega) (by omega)]
  omega
def wrL (x : List Int) : List Int := hdL (x.length : Int) ++ x
theorem lenP_head (a b c d : Int) (Q : List Int) : lenP (a :: b :: c :: d :: Q) = lenP [a, b, c, d] := rfl
/-- What stands behind a head, to the frame's end. -/
theorem feed_body (a b c d : Int) (y : List Int) : ∀ (Q rest : List Int), y ≠ [] → ((Q.length + y.length : Nat) : Int) = lenP [a, b, c, d] → feedL (a :: b :: c :: d :: Q) (y ++ rest) = ((Q ++ y) :: (feedL [] rest).1, (feedL [] rest).2) := by
  induction y with
  | nil => intro Q rest h; exact absurd rfl h
  | cons x y ih =>
    intro Q rest _ hl
    have e : (a :: b :: c :: d :: Q) ++ [x] = a :: b :: c :: d :: (Q ++ [x]) := rfl
    have hlen : (a :: b :: c :: d :: (Q ++ [x])).length = Q.length + 5 := by simp
    rw [List.cons_append]
    by_cases hy : y = []
    · subst hy
      rw [feed_told (by rw [e, hlen]; omega) (by rw [e, hlen, lenP_head]; exact ⟨by omega, by rw [← hl]; simp⟩), e]
      rfl
    · have hyl : 0 < y.length := List.length_pos_iff.mpr hy
      rw [feed_more (by rw [e, hlen]; omega) (by rw [e, hlen, lenP_head, ← hl]; simp only [List.length_cons]; omega), e, ih (Q ++ [x]) rest hy (by rw [← hl]; simp only [List.length_append, List.length_cons, List.length_nil]; omega), List.append_assoc]
      rfl
/-- A part of a frame's body. -/
theorem feed_part (a b c d : Int) (y : List Int) : ∀ Q : List Int, ((Q.length + y.length : Nat) : Int) < lenP [a, b, c, d] → feedL (a :: b :: c :: d :: Q) y = ([], a :: b :: c :: d :: (Q ++ y), false) := by
  induction y with
  | nil => intro Q _; rw [List.append_nil]; rfl
  | cons x y ih =>
    intro Q hl
    have e : (a :: b :: c :: d :: Q) ++ [x] = a :: b :: c :: d :: (Q ++ [x]) := rfl
    have hlen : (a :: b :: c :: d :: (Q ++ [x])).length = Q.length + 5 := by simp
    simp only [List.length_cons] at hl
    rw [feed_more (by rw [e, hlen]; omega) (by rw [e, hlen, lenP_head]; omega), e, ih (Q ++ [x]) (by simp only [List.length_append, List.length_cons, List.length_nil]; omega), List.append_assoc]
    rfl
theorem feed_early (P : List Int) (x : Int) (l : List Int) (h : P.length < 3) : feedL P (x :: l) = feedL (P ++ [x]) l :=
  feed_more (fun h2 => by have := h2.1; rw [List.length_append, List.length_singleton] at this; omega) (fun h2 => by have := h2.1; rw [List.length_append, List.length_singleton] at this; omega)
theorem feed_three (a b c : Int) (l : List Int) : feedL [] (a :: b :: c :: l) = feedL [a, b, c] l := (feed_early [] a _ (by decide)).trans ((feed_early [a] b _ (show 1 < 3 from by decide)).trans (feed_early [a, b] c _ (show 2 < 3 from by decide)))
theorem feed_head (a b c d : Int) (rest : List Int) (h : 0 < lenP [a, b, c, d] ∧ lenP [a, b, c, d] ≤ 8192) : feedL [] (a :: b :: c :: d :: rest) = feedL [a, b, c, d] rest :=
  (feed_three a b c _).trans (feed_more (P := [a, b, c]) (x := d) (fun h2 => absurd (show 8192 < lenP [a, b, c, d] from h2.2) (by omega)) (fun h2 => absurd (show (0 : Int) = lenP [a, b, c, d] from h2.2) (by omega)))
theorem feed_head0 (a b c d : Int) (rest : List Int) (h : lenP [a, b, c, d] = 0) : feedL [] (a :: b :: c :: d :: rest) = ([] :: (feedL [] rest).1, (feedL [] rest).2) :=
  (feed_three a b c _).trans (feed_told (P := [a, b, c]) (x := d) (fun h2 => absurd (show 8192 < lenP [a, b, c, d] from h2.2) (by omega)) ⟨Nat.le_refl 4, h.symm⟩)
theorem feed_over_head (a b c d : Int) (rest : List Int) (h : 8192 < lenP [a, b, c, d]) : feedL [] (a :: b :: c :: d :: rest) = ([], [], true) :=
  (feed_three a b c _).trans (feed_bad (P := [a, b, c]) (x := d) ⟨rfl, h⟩)
theorem feed_wrap (x rest : List Int) (h : x.length ≤ 8192) : feedL [] (wrL x ++ rest) = (x :: (feedL [] rest).1, (feedL [] rest).2) := by
  have hl := hdL_len (x.length : Int) (by omega) (by omega)
  unfold wrL
  rw [List.append_assoc]
  by_cases hx : x = []
  · subst hx
    exact feed_head0 _ _ _ _ _ hl
  · have hxl : 0 < x.length := List.length_pos_iff.mpr hx
    refine (feed_head _ _ _ _ _ (by rw [show lenP [_, _, _, _] = (x.length : Int) from hl]; omega)).trans ?_
    exact feed_body _ _ _ _ x [] rest hx (by rw [show lenP [_, _, _, _] = (x.length : Int) from hl]; simp)
theorem feed_wraps (l : List (List Int)) (rest : List Int) (h : ∀ x ∈ l, x.length ≤ 8192) : feedL [] ((l.map wrL).flatten ++ rest) = (l ++ (feedL [] rest).1, (feedL [] rest).2) := by
  induction l with
  | nil => rfl
  | cons x l ih =>
    rw [List.map_cons, List.flatten_cons, List.append_assoc, feed_wrap x _ (h x List.mem_cons_self), ih (fun y hy => h y (List.mem_cons_of_mem _ hy))]
    rfl
theorem wrL_length (x : List Int) : (wrL x).length = x.length + 4 := by
  unfold wrL hdL
  simp only [List.length_append, List.length_cons, List.length_nil]
  omega
/-- How many bytes there are in all. -/
def sumL (l : List (List Int)) : Nat := l.flatten.length
theorem wraps_length (l : List (List Int)) : ((l.map wrL).flatten).length = sumL l + 4 * l.length := by
  unfold sumL
  induction l with
  | nil => rfl
  | cons x l ih =>
    rw [List.map_cons, List.flatten_cons, List.flatten_cons, List.length_append, List.length_append, ih, wrL_length, List.length_cons]
    omega
theorem wraps_fed (l : List (List Int)) (behind : Nat) (hb : behind ≤ 3) (h : ∀ x ∈ l, x.length ≤ 8192) : feedX [] false ((l.map wrL).flatten ++ List.replicate behind 0) = (l, List.replicate behind 0, false) := by
  show feedL [] _ = _
  have := zeros_fed behind 0 (by omega)
  rw [show List.replicate 0 (0 : Int) = [] from rfl, show (0 + behind) / 4 = 0 by omega, show (0 + behind) % 4 = behind by omega] at this
  rw [feed_wraps l _ h, this]
  simp
theorem wraps_over (l : List (List Int)) (a b c d : Int) (h : ∀ x ∈ l, x.length ≤ 8192) (hn : 8192 < lenP [a, b, c, d]) : feedX [] false ((l.map wrL).flatten ++ [a, b, c, d]) = (l, [], true) := by
  show feedL [] _ = _
  rw [feed_wraps l _ h, feed_over_head _ _ _ _ _ hn]
  simp
theorem sum_take {l : List (List Int)} {i : Nat} (h : i < l.length) : l.take (i + 1) = l.take i ++ [rd_L1 l (i : Int)] := by
  rw [List.take_add_one, List.getElem?_eq_getElem h]
  congr 1
  unfold rd_L1
  rw [Int.toNat_natCast, List.getD_eq_getElem?_getD, List.getElem?_eq_getElem h]
  rfl
theorem own_C2 {w W : World} {g e base n c : Nat} {ok : Nat → Prop} {row : Option Nat} {A : Option Addr} {xs : List Int} (h : Kd.R (Kd.int .u8) e w base ok (.slice A n c) xs) (hk : KeepBut w W g row) (hne : ∀ k, (Value.slice A n c).ownBlock = some k → k ≠ g ∧ some k ≠ row) : Kd.C (Kd.int .u8) W A xs.length xs := by
  have h2 := Kd.R_move (own_only h) (w1 := W) (fun k hv => hk.2 k (Kd.R_lt h k hv) (hne k hv).1 (hne k hv).2)
  exact (Kd.R_reads' h2).2.2
/-! ### frame: plain laws of the document's Feed -/
theorem u64_or_add {v x : Int} (h0 : 0 ≤ v) (h1 : v < 16777216) (h2 : 0 ≤ x ∧ x < 256) : Go.bits .or .u64 (IntKind.u64.wrap (v * 256)) (IntKind.u64.wrap x) = v * 256 + x := by
  rw [IntKind.wrap_u64, IntKind.wrap_u64, Int.emod_eq_of_lt (by omega) (by omega), Int.emod_eq_of_lt (by omega) (by omega)]
  obtain ⟨a, rfl⟩ := Int.eq_ofNat_of_zero_le h0
  obtain ⟨b, rfl⟩ := Int.eq_ofNat_of_zero_le h2.1
  have e : ((a : Int) * 256) = ((2 ^ 8 * a : Nat) : Int) := by omega
  rw [e]
  show IntKind.u64.wrap ((BitVec.ofInt 64 ((2 ^ 8 * a : Nat) : Int) ||| BitVec.ofInt 64 ((b : Nat) : Int)).toNat : Int) = _
  rw [BitVec.ofInt_natCast, BitVec.ofInt_natCast, BitVec.toNat_or, BitVec.toNat_ofNat, BitVec.toNat_ofNat, Nat.mod_eq_of_lt (by omega), Nat.mod_eq_of_lt (by omega), ← Nat.two_pow_add_eq_or_of_lt (show b < 2 ^ 8 from by omega) a, IntKind.wrap_u64]
  omega
theorem get4_f (a b c d : Int) (D : List Int) (ha : 0 ≤ a ∧ a < 256) (hb : 0 ≤ b ∧ b < 256) (hc : 0 ≤ c ∧ c < 256) (hd : 0 ≤ d ∧ d < 256) (hl : D.length ≤ 1000000000) : bollardref1_Get.f 9 (a :: b :: c :: d :: D) 0 4 true = some (lenP (a :: b :: c :: d :: D), true) := by
  have hlen : ((a :: b :: c :: d :: D).length : Int) = (D.length : Int) + 4 := by simp only [List.length_cons]; omega
  have hw : wrap64 (((a :: b :: c :: d :: D).length : Int) - 0) = (D.length : Int) + 4 := by rw [hlen]; unfold wrap64; omega
  unfold bollardref1_Get.f
  rw [if_neg (by omega), if_neg (by omega), if_neg (by omega), if_neg (by omega), hw, decide_eq_false (by omega)]
  simp only [bollardref1_Get.j0]
  rw [if_neg (by simp)]
  have w0 : wrap64 ((0 : Int) + 0) = 0 := by unfold wrap64; omega
  have w1 : wrap64 ((0 : Int) + 1) = 1 := by unfold wrap64; omega
  have w2 : wrap64 ((0 : Int) + 2) = 2 := by unfold wrap64; omega
  have w3 : wrap64 ((0 : Int) + 3) = 3 := by unfold wrap64; omega
  have v2 : wrap64 ((1 : Int) + 1) = 2 := by unfold wrap64; omega
  have v3 : wrap64 ((2 : Int) + 1) = 3 := by unfold wrap64; omega
  have v4 : wrap64 ((3 : Int) + 1) = 4 := by unfold wrap64; omega
  have r0 : rd (a :: b :: c :: d :: D) 0 = a := rfl
  have r1 : rd (a :: b :: c :: d :: D) 1 = b := rfl
  have r2 : rd (a :: b :: c :: d :: D) 2 = c := rfl
  have r3 : rd (a :: b :: c :: d :: D) 3 = d := rfl
  have s0 := u64_or_add (v := 0) (x := a) (by omega) (by omega) ha
  have s1 := u64_or_add (v := 0 * 256 + a) (x := b) (by omega) (by omega) hb
  have s2 := u64_or_add (v := (0 * 256 + a) * 256 + b) (x := c) (by omega) (by omega) hc
  have s3 := u64_or_add (v := ((0 * 256 + a) * 256 + b) * 256 + c) (x := d) (by omega) (by omega) hd
  have hL : lenP (a :: b :: c :: d :: D) = (((0 * 256 + a) * 256 + b) * 256 + c) * 256 + d := by
    show lenV a b c d = _
    rw [lenV_eq ha hb hc hd]
    omega
  rw [bollardref1_Get.l0, if_pos (by decide), w0, if_pos (by decide), if_pos (by omega), if_pos rfl, w1, r0, s0]
  rw [bollardref1_Get.l0, if_pos (by decide), w1, if_pos (by decide), if_pos (by omega), if_pos rfl, v2, r1, s1]
  rw [bollardref1_Get.l0, if_pos (by decide), w2, if_pos (by decide), if_pos (by omega), if_pos rfl, v3, r2, s2]
  rw [bollardref1_Get.l0, if_pos (by decide), w3, if_pos (by decide), if_pos (by omega), if_pos rfl, v4, r3, s3]
  rw [bollardref1_Get.l0, if_neg (by decide), hL]
def Inc (P : List Int) : Prop := feedL [] P = ([], P, false)
theorem inc_nil : Inc [] := rfl
theorem inc_rest (l : List Int) : ∀ P, Inc P → Inc (feedL P l).2.1 := by
  induction l with
  | nil => intro P h; exact h
  | cons x l ih =>
    intro P h
    by_cases h1 : (P ++ [x]).length = 4 ∧ 8192 < lenP (P ++ [x])
    · rw [feed_bad h1]; exact inc_nil
    · by_cases h2 : 4 ≤ (P ++ [x]).length ∧ (((P ++ [x]).length - 4 : Nat) : Int) = lenP (P ++ [x])
      · rw [feed_told h1 h2]; exact ih [] inc_nil
      · rw [feed_more h1 h2]
        refine ih _ ?_
        have := feedX_append P [x] [] false (fun h => by cases h)
        rw [show feedX [] false P = ([], P, false) from h] at this
        have e : feedX P false [x] = ([], P ++ [x], false) := (show feedL P [x] = _ from feed_more h1 h2)
        have h3 : feedX [] false (P ++ [x]) = ([], P ++ [x], false) := this.trans (by rw [show feedX ([], P, false).2.1 ([], P, false).2.2 [x] = ([], P ++ [x], false) from e]; rfl)
        exact h3
theorem rest_mem (l : List Int) : ∀ P, ∀ y ∈ (feedL P l).2.1, y ∈ P ∨ y ∈ l := by
  induction l with
  | nil => intro P y h; exact .inl h
  | cons x l ih =>
    intro P y h
    by_cases h1 : (P ++ [x]).length = 4 ∧ 8192 < lenP (P ++ [x])
    · rw [feed_bad h1] at h; cases h
    · by_cases h2 : 4 ≤ (P ++ [x]).length ∧ (((P ++ [x]).length - 4 : Nat) : Int) = lenP (P ++ [x])
      · rw [feed_told h1 h2] at h
        rcases ih [] y h with h | h
        · cases h
        · exact .inr (List.mem_cons_of_mem _ h)
      · rw [feed_more h1 h2] at h
        rcases ih _ y h with h | h
        · rcases List.mem_append.1 h with h | h
          · exact .inl h
          · rw [List.mem_singleton.1 h]; exact .inr List.mem_cons_self
        · exact .inr (List.mem_cons_of_mem _ h)
theorem feed_join {P : List Int} (h : Inc P) (l : List Int) : feedL P l = feedL [] (P ++ l) := by
  have := feedX_append P l [] false (fun h => by cases h)
  rw [show feedX [] false P = ([], P, false) from h] at this
  have h2 : feedX [] false (P ++ l) = ([] ++ (feedX P false l).1, (feedX P false l).2) := this
  exact (h2.trans rfl : feedL [] (P ++ l) = feedL P l).symm
theorem t_short {D : List Int} (h : D.length < 4) : feedL [] D = ([], D, false) := by
  rcases D with _ | ⟨a, _ | ⟨b, _ | ⟨c, _ | ⟨d, D⟩⟩⟩⟩
  · rfl
  · exact feed_early [] a [] (by decide)
  · exact (feed_early [] a [b] (by decide)).trans (feed_early [a] b [] (show 1 < 3 by decide))
  · exact feed_three a b c []
  · simp only [List.length_cons] at h; omega
theorem t_wait {a b c d : Int} {D : List Int} (h0 : 0 ≤ lenP [a, b, c, d]) (h1 : lenP [a, b, c, d] ≤ 8192) (h2 : (D.length : Int) < lenP [a, b, c, d]) : feedL [] (a :: b :: c :: d :: D) = ([], a :: b :: c :: d :: D, false) := by
  rw [feed_head a b c d D (by omega)]
  exact feed_part a b c d D [] (by simpa using h2)
theorem t_told {a b c d : Int} {D : List Int} (h0 : 0 ≤ lenP [a, b, c, d]) (h1 : lenP [a, b, c, d] ≤ 8192) (h2 : lenP [a, b, c, d] ≤ (D.length : Int)) :
    feedL [] (a :: b :: c :: d :: D) = (D.take (lenP [a, b, c, d]).toNat :: (feedL [] (D.drop (lenP [a, b, c, d]).toNat)).1, (feedL [] (D.drop (lenP [a, b, c, d]).toNat)).2) := by
  by_cases hz : lenP [a, b, c, d] = 0
  · rw [feed_head0 a b c d D hz, hz]
    rfl
  · rw [feed_head a b c d D (by omega)]
    have hl : (D.take (lenP [a, b, c, d]).toNat).length = (lenP [a, b, c, d]).toNat := by rw [List.length_take]; omega
    have := feed_body a b c d (D.take (lenP [a, b, c, d]).toNat) [] (D.drop (lenP [a, b, c, d]).toNat) (fun e => by rw [e] at hl; simp only [List.length_nil] at hl; omega) (by rw [hl]; simp only [List.length_nil]; omega)
    rw [List.take_append_drop] at this
    exact this
theorem lit_R (w : World) (base e : Nat) (xs : List Int) (hb : base ≤ w.heap.size) (hx : xs.length ≤ 9223372036854775807) : Kd.R (Kd.int .u8) e (w.alloc (.cells (xs.map (Value.int .u8)).toArray e (0, 0))) base (fun _ => True) (.slice (some ⟨w.heap.size, 0, none⟩) xs.length xs.length) xs := by
  refine Kd.R_of_own (enc := Value.int .u8) (h1 := fun _ => rfl) ?_ (fun _ _ => trivial)
  have h2 := World.ownsRow_lit (base := base) (e := e) (size := 1) w (xs.map (Value.int .u8)).toArray xs.length hb (by simpa [maxLen] using hx) (by simp)
  simpa [encs] using h2
/-! ### frame: the document's Feed -/
def RfAt (W : World) (r : Nat) (v : Value) (over : Bool) : Prop := W.heap[r]? = some (.cells #[v, .bool over] 29 (0, 0))
theorem RfAt.c0 {W : World} {r : Nat} {v : Value} {o : Bool} (h : RfAt W r v o) : W.cell? ⟨r, 0, none⟩ = some v := (blk_cell h 0).trans rfl
theorem RfAt.c1 {W : World} {r : Nat} {v : Value} {o : Bool} (h : RfAt W r v o) : W.cell? ⟨r, 1, none⟩ = some (.bool o) := (blk_cell h 1).trans rfl
theorem RfAt.set0 {W : World} {r : Nat} {v : Value} {o : Bool} (h : RfAt W r v o) (x : Value) : RfAt (W.setCell ⟨r, 0, none⟩ x) r x o := by simpa [RfAt] using blk_set h 0 x
theorem RfAt.set1 {W : World} {r : Nat} {v : Value} {o : Bool} (h : RfAt W r v o) (x : Bool) : RfAt (W.setCell ⟨r, 1, none⟩ (.bool x)) r v x := by simpa [RfAt] using blk_set h 1 (.bool x)
theorem RfAt.keep {W W1 : World} {r : Nat} {v : Value} {o : Bool} (h : RfAt W r v o) (hk : W1.heap[r]? = W.heap[r]?) : RfAt W1 r v o := hk.trans h
/-- What the document's Feed leaves. -/
def RfPost (r : Nat) (w : World) (oF : List (List Int)) (DF : List Int) (bF : Bool) (e : Ending) (w' : World) : Prop := ∃ vo A' c' Av cv E, e = .returned (.tuple #[vo, .bool (!bF)]) ∧
  kRow.R 23 w' w.heap.size (fun _ => True) vo oF ∧ RfAt w' r (.slice A' DF.length c') bF ∧ DF.length ≤ c' ∧ Kd.R (Kd.int .u8) 5 w' w.heap.size (fun _ => True) (.slice Av E.length cv) E ∧ (∀ W, Kd.C (Kd.int .u8) W Av E.length E → Kd.C (Kd.int .u8) W A' DF.length DF) ∧ KeepBut w w' r none ∧ Below 0 w w'
set_option maxHeartbeats 2000000 in
set_option maxRecDepth 100000 in
theorem rfeed_over (r : Nat) (v vb : Value) (w : World) (h : RfAt w r v true) : Calls Try.prog 13 #[.pointer (some ⟨r, 0, none⟩), vb] w fun e w' => e = .returned (.tuple #[.slice none 0 0, .bool false]) ∧ w' = w := by
  have q1 := h.c1
  clear h
  go_enter Try.func13, Try.ntmps13
  go_wp2
  refine bodyPost_ret (v := .tuple #[.slice none 0 0, .bool false]) (by simp [results, Try.results13, go_sem]) rfl ⟨rfl, rfl⟩
set_option maxHeartbeats 2000000 in
set_option maxRecDepth 100000 in
theorem rfeed_live (r : Nat) (AB : Option Addr) (cB : Nat) (D : List Int) (A : Option Addr) (c : Nat) (l : List Int) (w : World) (oF : List (List Int)) (DF : List Int) (bF : Bool) (hF : RfAt w r (.slice AB D.length cB) false) (hB : Kd.C (Kd.int .u8) w AB D.length D) (hb : Kd.C (Kd.int .u8) w A l.length l)
    (hP : D.length + l.length ≤ 100000000) (hy : ∀ y ∈ D ++ l, 0 ≤ y ∧ y < 256) (hf : feedL [] (D ++ l) = (oF, DF, bF)) :
    Calls Try.prog 13 #[.pointer (some ⟨r, 0, none⟩), .slice A l.length c] w (RfPost r w oF DF bF) := by
  obtain ⟨i0, hi0, -, hsz, -⟩ := info_parts info_u8
  have HI := Aside0.mk (And.intro hi0 hsz)
  have HF := Aside0.mk hF
  have HB := Aside0.mk hB
  have HL := Aside0.mk hb
  have HP := Aside0.mk hP
  have HY := Aside0.mk hy
  have Hf := Aside0.mk hf
  have q1 := hF.c1
  have s0 : ∀ o : Obj, (w.alloc o).cell? ⟨r, 0, none⟩ = some (.slice AB D.length cB) := fun o => (blk_cell (blk_alloc hF o) 0).trans rfl
  obtain ⟨E, hE⟩ : ∃ E, E = D ++ l := ⟨_, rfl⟩
  have HE := Aside0.mk hE
  clear hF hB hb hP hy hf hi0 hsz hE
  go_enter Try.func13, Try.ntmps13
  obtain ⟨W1, hW1⟩ : ∃ W1, W1 = w.alloc (.cells #[] 5 (0, 0)) := ⟨_, rfl⟩
  have HBa := Aside0.mk (show Below w.heap.size w W1 from by rw [hW1]; exact below_alloc (Below.refl _ _) _)
  have HO1 := Aside0.mk (show Kd.R (Kd.int .u8) 5 W1 w.heap.size (fun _ => True) (.slice (some ⟨w.heap.size, 0, none⟩) 0 0) [] from by rw [hW1]; exact lit_R w w.heap.size 5 [] (Nat.le_refl _) (by decide))
  have HW1 := Aside0.mk hW1
  clear hW1
  go_wp2_with (first | (at_builtin; rw [← HW1.out]; refine Kd.R_append_rows (Kd.int .u8) (w0 := w) w.heap.size rfl (.tmp 14) (.tmp 18) 23 5 (.int .u8 0) 1 rfl Try.underlying23 info_u8 rfl (by decide) (by decide) (.slice (some ⟨w.heap.size, 0, none⟩) 0 0) [] D AB D.length cB (fun _ => True) (fun _ => False) rfl rfl HO1.out (Kd.C_below HB.out HBa.out) (fun _ _ h => h) (fun _ h => h.elim) (fun _ _ => trivial) HBa.out HBa.out.size ?aL ?_; (case aL => have := HP.out; simp only [List.length_nil]; omega); intro v2 w2 ho hb hg hat; have HO2 := Aside0.mk (show Kd.R (Kd.int .u8) 5 w2 w.heap.size (fun _ => True) v2 D from ho); have HB2 := Aside0.mk hb; clear ho hb hg hat HO1 HBa HW1) | (at_builtin; refine Kd.R_append_rows (Kd.int .u8) (w0 := w) w.heap.size rfl (.tmp 19) (.tmp 20) 23 5 (.int .u8 0) 1 rfl Try.underlying23 info_u8 rfl (by decide) (by decide) v2 D l A l.length c (fun _ => True) (fun _ => False) rfl rfl HO2.out (Kd.C_below HL.out HB2.out) (fun _ _ h => h) (fun _ h => h.elim) (fun _ _ => trivial) HB2.out HB2.out.size ?aL ?_; (case aL => have := HP.out; omega); intro v3 w3 ho hb hg hat; rw [← HE.out] at ho; obtain ⟨Av, cv, ev⟩ := Kd.R_slice ho; subst ev; have HO3 := Aside0.mk ho; have HB3 := Aside0.mk hb; have HF3 := Aside0.mk (HF.out.keep (hb.block r (blk_lt HF.out))); have HFl := Aside0.mk (blk_lt HF.out); clear ho hb hg hat HO2 HB2 s0 q1; have q0 := HF3.out.c0; have z0 := blk_frozen HF3.out 0))
  have n0_ := Aside0.mk (HF3.out.set0 (.slice Av E.length cv))
  have n1_ := Aside0.mk (Kd.R_set HO3.out HF3.out (by decide) 0 (.slice Av E.length cv))
  have n2_ := Aside0.mk (KeepBut.set_ (KeepBut.of_below HB3.out r none) 0 (.slice Av E.length cv))
  have n3_ := Aside0.mk (Below.setCell (p := ⟨r, 0, none⟩) (⟨HB3.out.os, HB3.out.tape, HB3.out.output, HB3.out.size, fun k hk => absurd hk (by omega)⟩ : Below 0 w w3) (Nat.zero_le _) (.slice Av E.length cv))
  clear HF3 HO3 HB3 q0 z0
  generalize w3.setCell ⟨r, 0, none⟩ (.slice Av E.length cv) = w4 at n0_ n1_ n2_ n3_ ⊢
  have hEb : ∀ y ∈ E, 0 ≤ y ∧ y < 256 := by rw [HE.out]; exact HY.out
  have hEl : E.length ≤ 100000000 := by have := HP.out; rw [HE.out, List.length_append]; omega
  have hEf : feedL [] E = (oF, DF, bF) := by rw [HE.out]; exact Hf.out
  have HEb := Aside0.mk hEb
  have HEl := Aside0.mk hEl
  have HEf := Aside0.mk hEf
  clear HF HB HL HP HY Hf HE hEb hEl hEf
  go_loopg [6] (E.length + 1) (fun kq v6 w' => ∃ (os : List (List Int)) (K : List Int) (A' : Option Addr) (c' : Nat), Aside0 (kq = K.length + 1 ∧ K.length ≤ c' ∧ K.length ≤ E.length ∧ os.length + K.length ≤ E.length) ∧ Aside0 (∀ y ∈ K, 0 ≤ y ∧ y < 256) ∧ Aside0 (RfAt w' r (.slice A' K.length c') false) ∧ Aside0 (Kd.R (Kd.int .u8) 5 w' w.heap.size (fun _ => True) (.slice Av E.length cv) E) ∧
    Aside0 (∀ W, Kd.C (Kd.int .u8) W Av E.length E → Kd.C (Kd.int .u8) W A' K.length K) ∧ Aside0 (kRow.R 23 w' w.heap.size (fun _ => True) v6 os) ∧ Aside0 (KeepBut w w' r none) ∧ Aside0 (Below 0 w w') ∧ Aside0 ((os ++ (feedL [] K).1, (feedL [] K).2) = (oF, DF, bF)))
  case atStart => exact ⟨[], E, Av, cv, ⟨rfl, (Kd.R_reads' n1_.out).2.1, Nat.le_refl _, by simp⟩, HEb, n0_, n1_, ⟨fun _ h => h⟩, ⟨Kd.R_nil _ _ _ _ _⟩, n2_, n3_, ⟨by rw [HEf.out]; rfl⟩⟩
  case round =>
    obtain ⟨os, K, A', c', HN, HB, HF, HV, HC, HO, HK, HB0, HE⟩ := hrel
    clear n0_ n1_ n2_ n3_
    have q0 := HF.out.c0
    by_cases h4 : 4 ≤ K.length
    · have d1 : decide (4 ≤ (K.length : Int)) = true := decide_eq_true (by omega)
      rcases K with _ | ⟨a, _ | ⟨b, _ | ⟨c1, _ | ⟨d, K⟩⟩⟩⟩
      · simp at h4
      · simp at h4
      · simp at h4
      · simp at h4
      obtain ⟨D2, hD2⟩ : ∃ D2, D2 = a :: b :: c1 :: d :: K := ⟨_, rfl⟩
      obtain ⟨n, hn⟩ : ∃ n, n = lenP (a :: b :: c1 :: d :: K) := ⟨_, rfl⟩
      have ba := HB.out a (by simp)
      have bb := HB.out b (by simp)
      have bc := HB.out c1 (by simp)
      have bd := HB.out d (by simp)
      have hnv : n = ((a * 256 + b) * 256 + c1) * 256 + d := by rw [hn]; exact lenV_eq ba bb bc bd
      have HG := Aside0.mk (get4_f a b c1 d K ba bb bc bd (by have h_ := HN.out.2.2.1; have h2_ := HEl.out; simp only [List.length_cons] at h_; omega))
      have HNB := Aside0.mk (show 0 ≤ n ∧ n < 4294967296 from by omega)
      have HND := Aside0.mk (show n = lenP [a, b, c1, d] from hn)
      rw [← hn, ← hD2] at HG
      have HL2 := Aside0.mk (show D2.length = K.length + 4 from by rw [hD2]; rfl)
      rw [← hD2] at HN HB HF HC HE q0 d1
      have HD2 := Aside0.mk hD2
      clear ba bb bc bd hn hnv h4 hD2
      have eL : wrap64 (D2.length : Int) = (D2.length : Int) := by have := HN.out; have := HEl.out; unfold wrap64; omega
      have eN : IntKind.i64.wrap n = n := (i64_w _).trans (by have := HNB.out; unfold wrap64; omega)
      have eN2 : wrap64 n = n := by have := HNB.out; unfold wrap64; omega
      have e6 : IntKind.i64.wrap ((D2.length : Int) - 4) = (K.length : Int) := (i64_w _).trans (by have := HL2.out; have := HN.out; have := HEl.out; unfold wrap64; omega)
      by_cases h8 : 8192 < n
      · have d2 : decide (8192 < n) = true := decide_eq_true h8
        have he := HE.out
        rw [HD2.out, feed_over_head a b c1 d K (by rw [← HND.out]; exact h8)] at he
        simp only [List.append_nil, Prod.mk.injEq] at he
        obtain ⟨rfl, rfl, rfl⟩ := he
        clear h8
        go_wp2_with fail
        refine (bollardref1_Get.calls 9 A' c' D2 0 4 true n true wr (HC.out _ (Kd.R_reads' HV.out).2.2) HN.out.2.1 HG.out).mono ?_
        rintro e w5 ⟨rfl, ⟨q, rfl⟩⟩
        have HF6 := Aside0.mk (show RfAt (wr.drewN q) r (.slice A' D2.length c') false from HF.out)
        have HV6 := Aside0.mk (Kd.R_drewN HV.out q)
        have HO6 := Aside0.mk (Kd.R_drewN HO.out q)
        have HK6 := Aside0.mk (keep_drewN HK.out q)
        have HB6 := Aside0.mk (pw_below_drewN HB0.out q)
        clear HF HV HO HK HB0 q0
        generalize wr.drewN q = w6 at HF6 HV6 HO6 HK6 HB6 ⊢
        have q0 := HF6.out.c0
        have q1 := HF6.out.c1
        have z0 := blk_frozen HF6.out 0
        have z1 := blk_frozen HF6.out 1
        go_wp2_with fail
        refine bodyPost_ret (v := .tuple #[u6, .bool false]) (by simp [results, Try.results13, go_sem]) rfl ?_
        have HS1 := HF6.out.set1 true
        exact ⟨u6, none, 0, Av, cv, E, rfl, Kd.R_set (Kd.R_set HO6.out HF6.out (by decide) 1 _) HS1 (by decide) 0 _, HS1.set0 _, Nat.le_refl _, Kd.R_set (Kd.R_set HV6.out HF6.out (by decide) 1 _) HS1 (by decide) 0 _, fun W _ => Kd.C_nil _ W, KeepBut.set_ (KeepBut.set_ HK6.out 1 _) 0 _, (HB6.out.setCell (p := ⟨r, 1, none⟩) (Nat.zero_le _) _).setCell (p := ⟨r, 0, none⟩) (Nat.zero_le _) _⟩
      have d2 : decide (8192 < n) = false := decide_eq_false h8
      by_cases hw : (K.length : Int) < n
      · have d3 : decide ((K.length : Int) < n) = true := decide_eq_true hw
        have he := HE.out
        rw [HD2.out, t_wait (by rw [← HND.out]; exact HNB.out.1) (by rw [← HND.out]; omega) (by rw [← HND.out]; exact hw), ← HD2.out] at he
        simp only [List.append_nil, Prod.mk.injEq] at he
        obtain ⟨rfl, rfl, rfl⟩ := he
        clear h8 hw
        go_wp2_with fail
        refine (bollardref1_Get.calls 9 A' c' D2 0 4 true n true wr (HC.out _ (Kd.R_reads' HV.out).2.2) HN.out.2.1 HG.out).mono ?_
        rintro e w5 ⟨rfl, ⟨q, rfl⟩⟩
        have HF6 := Aside0.mk (show RfAt (wr.drewN q) r (.slice A' D2.length c') false from HF.out)
        have HV6 := Aside0.mk (Kd.R_drewN HV.out q)
        have HO6 := Aside0.mk (Kd.R_drewN HO.out q)
        have HK6 := Aside0.mk (keep_drewN HK.out q)
        have HB6 := Aside0.mk (pw_below_drewN HB0.out q)
        clear HF HV HO HK HB0 q0
        generalize wr.drewN q = w6 at HF6 HV6 HO6 HK6 HB6 ⊢
        have q0 := HF6.out.c0
        go_wp2_with fail
        refine bodyPost_ret (v := .tuple #[u6, .bool true]) (by simp [results, Try.results13, go_sem]) rfl ?_
        exact ⟨u6, A', c', Av, cv, E, rfl, HO6.out, HF6.out, HN.out.2.1, HV6.out, HC.out, HK6.out, HB6.out⟩
      have d3 : decide ((K.length : Int) < n) = false := decide_eq_false hw
      have hto := t_told (a := a) (b := b) (c := c1) (d := d) (D := K) (by rw [← HND.out]; exact HNB.out.1) (by rw [← HND.out]; omega) (by rw [← HND.out]; omega)
      rw [← HND.out, ← HD2.out] at hto
      have e7 : IntKind.u64.wrap (4 + n) = 4 + n := by have := HNB.out; rw [IntKind.wrap_u64]; omega
      obtain ⟨A5, hcut5, hA5, hC5⟩ := print_mid_of (P := Try.prog) (Value.int .u8) 0 23 5 .i64 .u64 Try.underlying23 HI.out.1 HI.out.2 A' c' D2 4 (4 + n) (by decide) (by have := HNB.out; omega) (by have := HL2.out; omega) HN.out.2.1
      obtain ⟨A6, hcut6, hA6, hC6⟩ := print_drop_of (P := Try.prog) (Value.int .u8) 0 23 5 .u64 Try.underlying23 HI.out.1 HI.out.2 A' c' D2 (4 + n) (by have := HNB.out; omega) (by have := HL2.out; omega) HN.out.2.1
      have hf5 : (D2.take (4 + n).toNat).drop (4 : Int).toNat = K.take n.toNat := by rw [HD2.out, show (4 + n).toNat = n.toNat + 1 + 1 + 1 + 1 from by have := HNB.out; omega]; rfl
      have hf6 : D2.drop (4 + n).toNat = K.drop n.toNat := by rw [HD2.out, show (4 + n).toNat = n.toNat + 1 + 1 + 1 + 1 from by have := HNB.out; omega]; rfl
      rw [hf5] at hcut5 hA5 hC5
      rw [hf6] at hcut6 hA6 hC6
      obtain ⟨f5, hf5e⟩ : ∃ f5, f5 = K.take n.toNat := ⟨_, rfl⟩
      obtain ⟨f6, hf6e⟩ : ∃ f6, f6 = K.drop n.toNat := ⟨_, rfl⟩
      rw [← hf5e] at hcut5 hA5 hC5 hto
      rw [← hf6e] at hcut6 hA6 hC6 hto
      have HT := Aside0.mk hto
      have HA5 := Aside0.mk hA5
      have HA6 := Aside0.mk hA6
      have HC6 := Aside0.mk hC6
      have HL5 := Aside0.mk (show f5.length ≤ 8192 ∧ f6.length + 4 ≤ D2.length from by have := HL2.out; have := HNB.out; rw [hf5e, hf6e, List.length_take, List.length_drop]; omega)
      have HY6 := Aside0.mk (show ∀ y ∈ f6, 0 ≤ y ∧ y < 256 from by rw [hf6e]; exact fun y hy => HB.out y (by rw [HD2.out]; simp [List.mem_of_mem_drop hy]))
      clear h8 hw hto hA5 hC5 hA6 hC6 hf5 hf6 hf5e hf6e
      go_wp2_with fail
      refine (bollardref1_Get.calls 9 A' c' D2 0 4 true n true wr (HC.out _ (Kd.R_reads' HV.out).2.2) HN.out.2.1 HG.out).mono ?_
      rintro e w5 ⟨rfl, ⟨q, rfl⟩⟩
      have HF6 := Aside0.mk (show RfAt (wr.drewN q) r (.slice A' D2.length c') false from HF.out)
      have HV6 := Aside0.mk (Kd.R_drewN HV.out q)
      have HO6 := Aside0.mk (Kd.R_drewN HO.out q)
      have HK6 := Aside0.mk (keep_drewN HK.out q)
      have HB6 := Aside0.mk (pw_below_drewN HB0.out q)
      clear HF HV HO HK HB0 q0
      generalize wr.drewN q = w6 at HF6 HV6 HO6 HK6 HB6 ⊢
      have q0 := HF6.out.c0
      have s0 : ∀ o : Obj, (w6.alloc o).cell? ⟨r, 0, none⟩ = some (.slice A' D2.length c') := fun o => (blk_cell (blk_alloc HF6.out o) 0).trans rfl
      have HZ6 := Aside0.mk (show w.heap.size ≤ w6.heap.size from HK6.out.1)
      obtain ⟨W1, hW1⟩ : ∃ W1, W1 = w6.alloc (.cells #[] 5 (0, 0)) := ⟨_, rfl⟩
      have HBa := Aside0.mk (show Below w6.heap.size w6 W1 from by rw [hW1]; exact below_alloc (Below.refl _ _) _)
      have HO1 := Aside0.mk (show Kd.R (Kd.int .u8) 5 W1 w6.heap.size (fun _ => True) (.slice (some ⟨w6.heap.size, 0, none⟩) 0 0) [] from by rw [hW1]; exact lit_R w6 w6.heap.size 5 [] (Nat.le_refl _) (by decide))
      have HW1 := Aside0.mk hW1
      clear hW1
      go_wp2_with (first | (at_builtin; rw [← HW1.out]; refine Kd.R_append_rows (Kd.int .u8) (w0 := w6) w6.heap.size rfl (.tmp 57) (.tmp 64) 23 5 (.int .u8 0) 1 rfl Try.underlying23 info_u8 rfl (by decide) (by decide) (.slice (some ⟨w6.heap.size, 0, none⟩) 0 0) [] f5 A5 f5.length _ (fun _ => True) (fun _ => False) rfl rfl HO1.out (Kd.C_of_reads (h1 := fun _ => rfl) (HA5.out _ (Kd.reads_of_C (HC.out _ (Kd.C_below (Kd.R_reads' HV6.out).2.2 HBa.out))))) (fun _ _ h => h) (fun _ h => h.elim) (fun _ _ => trivial) HBa.out HBa.out.size ?aL ?_; (case aL => have := HL5.out; simp only [List.length_nil]; omega); intro v7 w7 ho hb hg hat; obtain ⟨A7, c7, ev7⟩ : ∃ A c, v7 = .slice A f5.length c := Kd.R_slice ho; subst ev7; have HR7 := Aside0.mk (show Kd.R (Kd.int .u8) 5 w7 w6.heap.size (fun _ => True) (.slice A7 f5.length c7) f5 from ho); have HB7 := Aside0.mk hb; clear ho hb hg hat HO1 HBa HW1) | (at_builtin; refine Kd.R_append kRow (w0 := w6) w.heap.size rfl (.tmp 56) (.tmp 66) 22 23 (.slice none 0 0) 24 rfl Try.underlying22 info_sb rfl (by decide) (by decide) u6 os f5 [_] (fun _ => True) _ rfl rfl ⟨_, rfl, frame_apart (own_only (Kd.R_lower HR7.out HZ6.out)) (Kd.R_below HO6.out HB7.out)⟩ (fun k hk => ⟨trivial, hk.2⟩) (fun _ _ => trivial) (Kd.R_below HO6.out HB7.out) (show Below w.heap.size w6 w7 from ⟨HB7.out.os, HB7.out.tape, HB7.out.output, HB7.out.size, fun k hk => HB7.out.block k (Nat.lt_of_lt_of_le hk HZ6.out)⟩) (Nat.le_trans HZ6.out HB7.out.size) ?aL ?_; (case aL => have := HN.out; have := HEl.out; omega); intro v8 w8 ho hb hg hat; have HF7 := Aside0.mk (HF6.out.keep (HB7.out.block r (blk_lt HF6.out))); have HF8 := Aside0.mk (HF7.out.keep (hg.block r (blk_lt HF7.out) (Kd.R_ne (Kd.R_below HO6.out HB7.out) HF7.out (by decide)))); have HO8 := Aside0.mk ho; have HV8 := Aside0.mk (Kd.R_over' (Kd.R_below HV6.out HB7.out) (fun k hk => by obtain ⟨inner, hown⟩ := Kd.R_own (Kd.R_below HO6.out HB7.out); exact own_typed hown k hk) (by decide) hg); have HK8 := Aside0.mk (keep_grown (KeepBut.trans HK6.out (KeepBut.of_below HB7.out r none) (.inl rfl)) hg (match hv : u6.ownBlock with | none => .inl rfl | some k => .inr (.inr ⟨k, rfl, Kd.R_base HO6.out k hv⟩))); have HB8 := Aside0.mk (HB6.out.trans (⟨hb.os, hb.tape, hb.output, hb.size, fun k hk => absurd hk (by omega)⟩ : Below 0 w6 w8)); clear ho hb hg hat HF6 HV6 HO6 HK6 HB6 HR7 HB7 HF7 s0 q0; have q0 := HF8.out.c0; have z0 := blk_frozen HF8.out 0))
      go_roundg (f6.length + 1)
      case measure => have := HN.out; have := HL5.out; omega
      case rel => exact ⟨os ++ [f5], f6, A6, _, ⟨rfl, HC6.out, by have := HN.out; have := HL5.out; omega, by have := HN.out; have := HL5.out; simp only [List.length_append, List.length_cons, List.length_nil]; omega⟩, HY6, ⟨HF8.out.set0 _⟩, ⟨Kd.R_set HV8.out HF8.out (by decide) 0 _⟩, ⟨fun W hE => Kd.C_of_reads (h1 := fun _ => rfl) (HA6.out _ (Kd.reads_of_C (HC.out _ hE)))⟩, ⟨Kd.R_set HO8.out HF8.out (by decide) 0 _⟩, ⟨KeepBut.set_ HK8.out 0 _⟩, ⟨HB8.out.setCell (p := ⟨r, 0, none⟩) (Nat.zero_le _) _⟩, ⟨by have h_ := HE.out; rw [HT.out] at h_; rw [← h_]; simp⟩⟩
    · have d1 : decide (4 ≤ (K.length : Int)) = false := decide_eq_false (by omega)
      have he := HE.out
      rw [t_short (by omega)] at he
      simp only [List.append_nil, Prod.mk.injEq] at he
      obtain ⟨rfl, rfl, rfl⟩ := he
      go_wp2_with fail
      refine bodyPost_ret (v := .tuple #[u6, .bool true]) (by simp [results, Try.results13, go_sem]) rfl ?_
      exact ⟨u6, A', c', Av, cv, E, rfl, HO.out, HF.out, HN.out.2.1, HV.out, HC.out, HK.out, HB0.out⟩
/-! ### bollardlaw19_FrameFeeds -/
theorem sum_le (B : Nat) (l : List (List Int)) (h : ∀ x ∈ l, x.length ≤ B) : sumL l ≤ l.length * B := by
  unfold sumL
  induction l with
  | nil => simp
  | cons x l ih =>
    rw [List.flatten_cons, List.length_append, List.length_cons, Nat.succ_mul]
    have := h x List.mem_cons_self
    have := ih (fun y hy => h y (List.mem_cons_of_mem _ hy))
    omega
theorem FdX.apartT {W : World} {g g2 base T : Nat} {P : List Int} {bad : Bool} {v : Value} {cells : Array Value} (h : FdX W g base P bad v) (h2 : W.heap[g2]? = some (.cells cells T (0, 0))) (hT : 5 ≠ T) : ∀ k, v.ownBlock = some k → k ≠ g2 := by
  rintro k hk rfl
  cases bad
  · exact Kd.R_ne (show FdS W g base P v from h).2 h2 hT hk.symm
  · rw [(show FdAt W g 0 0 0 0 0 v true ∧ v = .slice none 0 0 ∧ P = [] from h).2.1] at hk
    cases hk
theorem row_step {W W1 : World} {g base : Nat} {P : List Int} {bad : Bool} {v v' u : Value} {xs : List Int} (h : Kd.R (Kd.int .u8) 5 W base (fun k => some k ≠ v.ownBlock) u xs) (hF : FdX W g base P bad v) (hk : KeepBut W W1 g v.ownBlock) (hv : v'.ownBlock = v.ownBlock ∨ v'.ownBlock = none ∨ ∃ b, v'.ownBlock = some b ∧ W.heap.size ≤ b) :
    Kd.R (Kd.int .u8) 5 W1 base (fun k => some k ≠ v'.ownBlock) u xs := by
  obtain ⟨cells, hb⟩ := hF.typed
  refine Kd.R_mono (Kd.R_move (Kd.R_bound (Kd.R_types h hb (by decide))) (fun k hk2 => hk.2 k hk2.2.2.1 hk2.1.2 hk2.1.1)) (fun k hk2 e => ?_)
  rcases hv with hv | hv | ⟨b, hv, hle⟩
  · exact hk2.1.1 (e.trans hv)
  · rw [hv] at e; cases e
  · rw [hv] at e
    injection e with e
    have := hk2.2.2.1
    omega
theorem below_keep {w w4 w5 : World} {B r : Nat} (h : Below B w w4) (hk : KeepBut w4 w5 r none) (h0 : Below 0 w4 w5) (hr : B ≤ r) (hB : B ≤ w4.heap.size) : Below B w w5 :=
  h.trans ⟨h0.os, h0.tape, h0.output, h0.size, fun k hlt => hk.2 k (by omega) (by omega) (by simp)⟩
/-- The document's Feed, over or not. -/
theorem rfeed_calls (r base : Nat) (A' : Option Addr) (c' : Nat) (P : List Int) (bad : Bool) (A : Option Addr) (c : Nat) (x : List Int) (w : World) (zs : List (List Int)) (P2 : List Int) (bad2 : Bool) (v2 : Value) (Av : Option Addr) (cv : Nat) (E : List Int)
    (hF : RfAt w r (.slice A' P.length c') bad) (hc : P.length ≤ c') (hE : Kd.R (Kd.int .u8) 5 w base (fun k => some k ≠ v2.ownBlock) (.slice Av E.length cv) E) (hC : ∀ W, Kd.C (Kd.int .u8) W Av E.length E → Kd.C (Kd.int .u8) W A' P.length P) (hb : Kd.C (Kd.int .u8) w A x.length x)
    (hI : Inc P) (hP : P.length + x.length ≤ 100000000) (hy : ∀ y ∈ P ++ x, 0 ≤ y ∧ y < 256) (hbad : bad = true → P = []) (hv : ∀ k, v2.ownBlock = some k → k < w.heap.size) (hbs : base ≤ w.heap.size) (hf : feedX P bad x = (zs, P2, bad2)) :
    Calls Try.prog 13 #[.pointer (some ⟨r, 0, none⟩), .slice A x.length c] w fun e w' => ∃ vo A2 c2 Av2 cv2 E2, e = .returned (.tuple #[vo, .bool (!bad2)]) ∧ kRow.R 23 w' w.heap.size (fun _ => True) vo zs ∧ RfAt w' r (.slice A2 P2.length c2) bad2 ∧ P2.length ≤ c2 ∧
      Kd.R (Kd.int .u8) 5 w' base (fun k => some k ≠ v2.ownBlock) (.slice Av2 E2.length cv2) E2 ∧ (∀ W, Kd.C (Kd.int .u8) W Av2 E2.length E2 → Kd.C (Kd.int .u8) W A2 P2.length P2) ∧ KeepBut w w' r none ∧ Below 0 w w' := by
  cases bad
  · have hf' : feedL [] (P ++ x) = (zs, P2, bad2) := (feed_join hI x).symm.trans hf
    refine (rfeed_live r A' c' P A c x w zs P2 bad2 hF (hC w (Kd.R_reads' hE).2.2) hb hP hy hf').mono ?_
    rintro e w' ⟨vo, A2, c2, Av2, cv2, E2, rfl, h1, h2, h3, h4, h5, h6, h7⟩
    exact ⟨vo, A2, c2, Av2, cv2, E2, rfl, h1, h2, h3, Kd.R_lower (Kd.R_mono (Kd.R_bound h4) (fun k hk e => by have := hv k e.symm; have := hk.2.1; omega)) hbs, h5, h6, h7⟩
  · simp only [feedX, if_true, Prod.mk.injEq] at hf
    obtain ⟨rfl, rfl, rfl⟩ := hf
    obtain rfl := hbad rfl
    refine (rfeed_over r _ _ w hF).mono ?_
    rintro e w' ⟨rfl, rfl⟩
    exact ⟨_, A', c', Av, cv, E, rfl, Kd.R_nil _ _ _ _ _, hF, hc, hE, hC, KeepBut.refl _ _ _, Below.refl _ _⟩
set_option maxHeartbeats 4000000 in
set_option maxRecDepth 100000 in
theorem framefeeds_main (A : Option Addr) (c : Nat) (l : List (List Int)) (w : World) (hxs : ∀ x ∈ l, x.length ≤ 140737488351232 ∧ ∀ y ∈ x, 0 ≤ y ∧ y < 256) (hr : kRow.C w A l.length l) (hc : l.length ≤ c) :
    Calls Try.prog 3 #[.slice A l.length c] w fun e w' => e = .returned (.bool true) ∧ Below w.heap.size w w' := by
  have HR := Aside0.mk hr
  have HXS := Aside0.mk hxs
  have HLm := Aside0.mk (show l.length ≤ 9223372036854775807 from hr.2.1)
  clear hr hc hxs
  go_enter Try.func3, Try.ntmps3
  go_wp2_with fail
  go_loopg [3, 4] (l.length + 1) (fun kq v3 v4 w' => ∃ (i : Int) (s : Int), v3 = .int .i64 s ∧ v4 = .int .i64 i ∧ Aside0 (0 ≤ i ∧ i ≤ (l.length : Int) ∧ kq + i.toNat = l.length + 1) ∧ Aside0 (l.length ≤ 100 → s = ((sumL (l.take i.toNat) : Nat) : Int)) ∧ w' = w)
  case atStart => exact ⟨0, 0, rfl, rfl, ⟨by omega, by omega, by simp⟩, ⟨fun _ => by simp [sumL]⟩, rfl⟩
  case round =>
    obtain ⟨i, s, rfl, rfl, HK, HS, hw⟩ := hrel
    rw [hw]
    clear hw
    by_cases hi : i < (l.length : Int)
    · have d1 : decide (i < (l.length : Int)) = true := decide_eq_true hi
      have b0 := HK.out.1
      obtain ⟨ad, A0, c0, rfl, hx, hcx, hCx⟩ := at_L1 HR.out i b0 hi
      obtain ⟨x, hxe⟩ : ∃ x, x = rd_L1 l i := ⟨_, rfl⟩
      rw [← hxe] at hx hcx hCx
      have p1 := eq_true b0
      have p2 := eq_true hi
      have hst := sum_take (l := l) (i := i.toNat) (by omega)
      rw [Int.toNat_of_nonneg b0, ← hxe] at hst
      have HST := Aside0.mk hst
      have HXM := Aside0.mk (show x ∈ l from List.mem_of_mem_take (show x ∈ l.take (i.toNat + 1) from by rw [hst]; simp))
      have e1 : IntKind.i64.wrap (i + 1) = i + 1 := (i64_w _).trans (by have := HLm.out; unfold wrap64; omega)
      have Hi := Aside0.mk hi
      clear b0 hxe hcx hCx hst hi
      go_wp2_with fail
      go_roundg (l.length + 1 - (i + 1).toNat)
      case measure => have := HK.out; have := Hi.out; omega
      case rel => exact ⟨i + 1, wrap64 (s + (x.length : Int)), rfl, rfl, ⟨by have := HK.out; have := Hi.out; omega, by have := Hi.out; omega, by have := HK.out; have := Hi.out; omega⟩, ⟨fun h100 => by
        have h1 := HS.out h100
        have h2 := sum_le 140737488351232 (l.take i.toNat) (fun y hy => (HXS.out y (List.mem_of_mem_take hy)).1)
        have h3 := (HXS.out x HXM.out).1
        have h4 : (l.take i.toNat).length ≤ 100 := by rw [List.length_take]; omega
        have h5 : (l.take i.toNat).length * 140737488351232 ≤ 100 * 140737488351232 := Nat.mul_le_mul_right _ h4
        have h6 : sumL (l.take (i + 1).toNat) = sumL (l.take i.toNat) + x.length := by rw [show (i + 1).toNat = i.toNat + 1 from by have := HK.out; omega, HST.out]; unfold sumL; rw [List.flatten_append, List.length_append]; simp
        rw [h6, h1]
        unfold wrap64
        omega⟩, rfl⟩
    · have d1 : decide (i < (l.length : Int)) = false := decide_eq_false hi
      by_cases h100 : 100 < l.length
      · have d2 : decide (100 < (l.length : Int)) = true := decide_eq_true (by omega)
        clear h100
        go_wp2_with fail
        refine (bollardlaw19_awake.calls _).mono ?_
        rintro e w9 ⟨rfl, hb9⟩
        have HB9 := Aside0.mk (hb9)
        clear hb9
        go_wp2
        go_ret
        exact ⟨rfl, HB9.out⟩
      have d2 : decide (100 < (l.length : Int)) = false := decide_eq_false (by omega)
      have hs := HS.out (by omega)
      rw [List.take_of_length_le (by omega)] at hs
      by_cases h20 : 20000 < s
      · have d3 : decide (20000 < s) = true := decide_eq_true h20
        clear h20 hs
        go_wp2_with fail
        refine (bollardlaw19_awake.calls _).mono ?_
        rintro e w9 ⟨rfl, hb9⟩
        have HB9 := Aside0.mk (hb9)
        clear hb9
        go_wp2
        go_ret
        exact ⟨rfl, HB9.out⟩
      have d3 : decide (20000 < s) = false := decide_eq_false h20
      have HSM := Aside0.mk (show sumL l ≤ 20000 ∧ l.length ≤ 100 from by omega)
      clear h20 hs hi h100 HS HK
      go_wp2_with fail
      refine (frame_New.calls _).mono ?_
      rintro e w1 ⟨rfl, hF, hb⟩
      have HF1 := Aside0.mk (FdX.fresh (base := w.heap.size) hF)
      have HB1 := Aside0.mk hb
      clear hF hb
      have HGG := Aside0.mk HF1.out.lt
      obtain ⟨W2, hW2⟩ : ∃ W2, W2 = w1.alloc (.cells #[.slice none 0 0, .bool false] 29 (0, 0)) := ⟨_, rfl⟩
      have HR2 := Aside0.mk (show RfAt W2 w1.heap.size (.slice none ([] : List Int).length 0) false from by rw [hW2]; exact heap_alloc_new w1 _)
      have HF2 := Aside0.mk (show FdX W2 w.heap.size w.heap.size [] false (.slice none 0 0) from by rw [hW2]; exact HF1.out.below (below_alloc (Below.refl _ _) _))
      have HB2 := Aside0.mk (show Below w.heap.size w W2 from by rw [hW2]; exact below_alloc HB1.out _)
      obtain ⟨r, hr⟩ : ∃ r, r = w1.heap.size := ⟨_, rfl⟩
      have HW2 := Aside0.mk hW2
      have HRL := Aside0.mk (show w.heap.size < r from by rw [hr]; exact HGG.out)
      rw [← hr] at HR2
      have Hr := Aside0.mk hr
      clear hW2 hr HF1 HB1 HGG
      go_wp2_with fail
      rw [← HW2.out, ← Hr.out]
      clear HW2 Hr
      go_loopg [7] (l.length + 1) (fun kq v7 w' => ∃ (i : Int) (P : List Int) (bad : Bool) (vf : Value) (A' : Option Addr) (c' : Nat) (Av : Option Addr) (cv : Nat) (E : List Int), v7 = .int .i64 i ∧ Aside0 (0 ≤ i ∧ i ≤ (l.length : Int) ∧ kq + i.toNat = l.length + 1) ∧ Aside0 (FdX w' w.heap.size w.heap.size P bad vf) ∧ Aside0 (RfAt w' r (.slice A' P.length c') bad ∧ P.length ≤ c') ∧
        Aside0 (Kd.R (Kd.int .u8) 5 w' w.heap.size (fun k => some k ≠ vf.ownBlock) (.slice Av E.length cv) E) ∧ Aside0 (∀ W, Kd.C (Kd.int .u8) W Av E.length E → Kd.C (Kd.int .u8) W A' P.length P) ∧ Aside0 (Inc P ∧ (∀ y ∈ P, 0 ≤ y ∧ y < 256) ∧ P.length ≤ sumL (l.take i.toNat)) ∧ Aside0 (Below w.heap.size w w'))
      case atStart => exact ⟨0, [], false, _, none, 0, none, 0, [], rfl, ⟨by omega, by omega, by simp⟩, HF2, ⟨HR2.out, Nat.le_refl _⟩, ⟨Kd.R_nil _ _ _ _ _⟩, ⟨fun W _ => Kd.C_nil _ W⟩, ⟨inc_nil, by simp, by simp⟩, HB2⟩
      case round =>
        obtain ⟨i, P, bad, vf, A', c', Av, cv, E, rfl, HK, HF, HRf, HV, HC, HP, HB⟩ := hrel
        clear HF2 HR2 HB2
        by_cases hi : i < (l.length : Int)
        · have d4 : decide (i < (l.length : Int)) = true := decide_eq_true hi
          have b0 := HK.out.1
          obtain ⟨ad, A0, c0, rfl, hx, hcx, hCx⟩ := at_L1 HR.out i b0 hi
          obtain ⟨x, hxe⟩ : ∃ x, x = rd_L1 l i := ⟨_, rfl⟩
          rw [← hxe] at hx hcx hCx
          have p1 := eq_true b0
          have p2 := eq_true hi
          have hst := sum_take (l := l) (i := i.toNat) (by omega)
          rw [Int.toNat_of_nonneg b0, ← hxe] at hst
          have h6 : sumL (l.take (i + 1).toNat) = sumL (l.take i.toNat) + x.length := by rw [show (i + 1).toNat = i.toNat + 1 from by omega, hst]; unfold sumL; rw [List.flatten_append, List.length_append]; simp
          have h7 : sumL (l.take (i + 1).toNat) ≤ sumL l := by
            have h_ := List.take_append_drop (i + 1).toNat l
            unfold sumL
            conv => rhs; rw [← h_]
            rw [List.flatten_append, List.length_append]
            omega
          have HS6 := Aside0.mk h6
          have HS7 := Aside0.mk (show sumL (l.take i.toNat) + x.length ≤ 20000 from by have := HSM.out; omega)
          have HXM := Aside0.mk (show x ∈ l from List.mem_of_mem_take (show x ∈ l.take (i.toNat + 1) from by rw [hst]; simp))
          have e1 : IntKind.i64.wrap (i + 1) = i + 1 := (i64_w _).trans (by have := HLm.out; unfold wrap64; omega)
          have Hi := Aside0.mk hi
          have HX := Aside0.mk hCx
          have HXc := Aside0.mk hcx
          have hx1 := pw_cell_below HB.out hx
          obtain ⟨zs, P2, bad2, hz⟩ : ∃ zs P2 bad2, feedX P bad x = (zs, P2, bad2) := ⟨_, _, _, rfl⟩
          have HZ := Aside0.mk hz
          have hsm := feedX_small P bad HF.out.nil x
          rw [hz] at hsm
          have HSM2 := Aside0.mk hsm
          have HI2 := Aside0.mk (show Inc P2 from by
            cases bad
            · have h_ := inc_rest x P HP.out.1
              rw [show feedL P x = (zs, P2, bad2) from hz] at h_
              exact h_
            · simp only [feedX, if_true, Prod.mk.injEq] at hz
              rw [← hz.2.1]
              exact inc_nil)
          have HY2 := Aside0.mk (show ∀ y ∈ P2, 0 ≤ y ∧ y < 256 from by
            cases bad
            · have h_ := rest_mem x P
              rw [show feedL P x = (zs, P2, bad2) from hz] at h_
              intro y hy
              rcases h_ y hy with h | h
              · exact HP.out.2.1 y h
              · exact (HXS.out x HXM.out).2 y h
            · simp only [feedX, if_true, Prod.mk.injEq] at hz
              rw [← hz.2.1]
              simp)
          obtain ⟨ks, hks⟩ := same_f zs (by have h1 := HSM2.out.1; have h2 := HS7.out; exact Nat.le_trans h1 (by omega)) (fun y hy => by have h1 := HSM2.out.2.1 y hy; have h2 := HS7.out; have h3 := HP.out.2.2; omega)
          have HKS := Aside0.mk hks
          clear b0 hxe hst h6 h7 hcx hCx hi hz hsm hks
          go_wp2_with fail
          refine (frame_Feed.calls w.heap.size w.heap.size P bad vf A0 c0 x wr zs P2 bad2 (Nat.le_refl _) HB.out.size HF.out (fun W hk => came_C HX.out HB.out hk (Nat.le_refl _) (fun k h => (HF.out.own k h).1)) HXc.out (by have h2 := HS7.out; have h3 := HP.out.2.2; omega) HZ.out).mono ?_
          rintro e w4 ⟨vz, v2, rfl, hoz, hxg, hug, hbg, hkg⟩
          obtain ⟨Az, cz, ez⟩ := Kd.R_slice hoz
          subst ez
          have HF4 := Aside0.mk hxg
          have HV4 := Aside0.mk (row_step HV.out HF.out hkg hug)
          have HR4 := Aside0.mk (HRf.out.1.keep (hkg.2 r (blk_lt HRf.out.1) (by have := HRL.out; omega) (fun e => HF.out.apartT HRf.out.1 (by decide) r e.symm rfl)))
          have HZ4 := Aside0.mk (Kd.R_types hoz HR4.out (by decide))
          have HB4 := Aside0.mk (HB.out.trans hbg)
          have hx4 := pw_cell_below HB4.out hx
          clear hoz hxg hug hbg hkg hx1
          go_wp2_with fail
          refine (rfeed_calls r w.heap.size A' c' P bad A0 c0 x w4 zs P2 bad2 v2 Av cv E HR4.out HRf.out.2 HV4.out HC.out (Kd.C_below HX.out HB4.out) HP.out.1 (by have h2 := HS7.out; have h3 := HP.out.2.2; omega) (fun y hy => (List.mem_append.1 hy).elim (HP.out.2.1 y) ((HXS.out x HXM.out).2 y)) HF.out.nil (fun k h => (HF4.out.own k h).2) HB4.out.size HZ.out).mono ?_
          rintro e w5 ⟨vo, A2, c2, Av2, cv2, E2, rfl, ho5, hr5, hc5, hv5, hC5, hk5, hb5⟩
          obtain ⟨Ao, co, eo⟩ := Kd.R_slice ho5
          subst eo
          have HF5 := Aside0.mk (HF4.out.step (hk5.2 _ HF4.out.lt (by have := HRL.out; omega) (by simp)) (fun k hv => hk5.2 k (HF4.out.own k hv).2 (HF4.out.apartT HR4.out (by decide) k hv) (by simp)))
          have HZ5 := Aside0.mk (Kd.R_keep HZ4.out hk5 (fun _ h => h.2))
          have HB5 := Aside0.mk (below_keep HB4.out hk5 hb5 (Nat.le_of_lt HRL.out) HB4.out.size)
          have HO5 := Aside0.mk ho5
          have HR5 := Aside0.mk (And.intro hr5 hc5)
          have HV5 := Aside0.mk hv5
          have HC5 := Aside0.mk hC5
          have q0 := hr5.c0
          have HSA := Aside0.mk (show ∀ m, Calls Try.prog 14 #[.slice Az zs.length cz, .slice Ao zs.length co] (w5.drewN m) fun e w' => e = .returned (.bool true) ∧ ∃ q, w' = (w5.drewN m).drewN q from fun m => (bollardlaw19_same.calls ks Az cz zs Ao co zs true _ (Kd.C_drewN (Kd.R_reads' HZ5.out).2.2 m) (Kd.R_reads' HZ5.out).2.1 (Kd.C_drewN (Kd.R_reads' HO5.out).2.2 m) (Kd.R_reads' HO5.out).2.1 HKS.out).mono fun _ _ h => ⟨h.1, h.2.out⟩)
          have HWA := Aside0.mk (show ∀ m, Calls Try.prog 15 #[.pointer (some ⟨w.heap.size, 0, none⟩)] (w5.drewN m) fun e w' => e = .returned (.int .i64 (P2.length : Int)) ∧ ∃ q, w' = (w5.drewN m).drewN q from fun m => (HF5.out.below (pw_below_drewN (Below.refl _ _) m)).waiting (by have h1 := HSM2.out.2.2; have h2 := HS7.out; have h3 := HP.out.2.2; exact Nat.le_trans h1 (by omega)))
          clear ho5 hr5 hc5 hv5 hC5 hk5 hb5 HF4 HV4 HR4 HZ4 HB4 hx4 HZ5 HO5
          go_wp2_with fail
          go_quiet (first | (go_at_call 14; exact Calls.quiet_of (HSA.out _)) | (go_at_call 15; exact Calls.quiet_of (HWA.out _)))
          go_wp2_with fail
          go_roundg (l.length + 1 - (i + 1).toNat)
          case measure => have := HK.out; have := Hi.out; omega
          case rel => exact ⟨i + 1, P2, bad2, v2, A2, c2, Av2, cv2, E2, rfl, ⟨by have := HK.out; omega, by have := Hi.out; omega, by have := HK.out; have := Hi.out; omega⟩, ⟨HF5.out.below (pw_below_drewN (Below.refl _ _) _)⟩, ⟨HR5.out⟩, ⟨Kd.R_drewN HV5.out _⟩, HC5, ⟨HI2.out, HY2.out, by rw [HS6.out]; have h1 := HSM2.out.2.2; have h3 := HP.out.2.2; exact Nat.le_trans h1 (by omega)⟩, ⟨pw_below_drewN HB5.out _⟩⟩
        · have d4 : decide (i < (l.length : Int)) = false := decide_eq_false hi
          go_wp2_with fail
          refine (bollardlaw19_awake.calls _).mono ?_
          rintro e w9 ⟨rfl, hb9⟩
          have HB9 := Aside0.mk (below_step HB.out hb9)
          clear hb9
          go_wp2
          go_ret
          exact ⟨rfl, HB9.out⟩
def bollardlaw19_FrameFeeds.f (l : List (List Int)) : Option Bool := if ∀ x ∈ l, x.length ≤ 140737488351232 ∧ ∀ y ∈ x, 0 ≤ y ∧ y < 256 then some true else none
theorem bollardlaw19_FrameFeeds.calls (A : Option Addr) (c : Nat) (l : List (List Int)) (r : Bool) (w : World) (hr : kRow.C w A l.length l) (hc : l.length ≤ c) (h : bollardlaw19_FrameFeeds.f l = some r) :
    Calls Try.prog 3 #[.slice A l.length c] w fun e w' => e = .returned (.bool r) ∧ Below w.heap.size w w' := by
  unfold bollardlaw19_FrameFeeds.f at h
  split at h
  case isFalse => cases h
  rename_i hb
  obtain rfl := Option.some.inj h
  exact framefeeds_main A c l w hb hr hc

/-- THE ONE PURE STATEMENT of bollardlaw19_FrameFeeds: mine. -/
def bollardlaw19_FrameFeeds.Pure : Prop := ∀ (l0 : List (List Int)), (l0.length * 24 ≤ 140737488351232 ∧ ∀ y0 ∈ l0, (y0.length * 1 ≤ 140737488351232 ∧ ∀ y1 ∈ y0, (Lit.int .u8 y1).wf = true)) → bollardlaw19_FrameFeeds.f l0 = some true

end Go.Proofs.Ytgicdiblfcnelaa.PFr
