/- What the document's batch comes to. -/
import Derived.Test.YtgmeellapjimgaaQBatEnc
import Derived.Test.YtgmeellapjimgaaQStrNum
namespace Go.Proofs.Ytgmeellapjimgaa.Bp
open Go Go.RowKit Go.Proofs.Ytgmeellapjimgaa.PBa Go.Proofs.YtgmeellapjimgaaW.PrintWords Go.Proofs.YtgmeellapjimgaaW.PrintLast Go.Proofs.YtgmeellapjimgaaW.PrintMore
set_option linter.unusedVariables false
set_option linter.unusedSimpArgs false

theorem rd_drop {l : List S45} {i : Nat} (h : i < l.length) : l.drop i = rd_T45 l (i : Int) :: l.drop (i + 1) := by
  rw [List.drop_eq_getElem_cons h]
  congr 1
  unfold rd_T45
  rw [Int.toNat_natCast, List.getD_eq_getElem?_getD, List.getElem?_eq_getElem h]
  rfl
theorem rd_mem {l : List S45} {i : Nat} (h : i < l.length) : rd_T45 l (i : Int) ∈ l := by
  unfold rd_T45
  rw [Int.toNat_natCast, List.getD_eq_getElem?_getD, List.getElem?_eq_getElem h]
  exact List.getElem_mem h
theorem flat_cons (first : Int) (x : S45) (l : List S45) : flat first (x :: l) = encS first x ++ flat first l := by unfold flat; rw [List.map_cons, List.flatten_cons]
theorem body_l0 (b s p q : Int) (l : List S45) (hl : l.length ≤ 300) (hall : ∀ x ∈ l, chkS x = 0) (h0 : 0 < l.length) (n : Nat) : ∀ (k i : Nat) (x : List Int), i + n = l.length → n + 41 ≤ k → x.length + 5000 * n ≤ 100000000 →
    bollardref12_body.l0 k x (i : Int) b s p q l = some (x ++ flat (rd_T45 l 0).f4 (l.drop i)) := by
  have hf := first_ok h0 hall
  induction n with
  | zero =>
    intro k i x hi hk hx
    obtain ⟨K, rfl⟩ : ∃ K, k = K + 1 := ⟨k - 1, by omega⟩
    simp only [bollardref12_body.l0]
    rw [if_neg (by omega), List.drop_eq_nil_of_le (by omega)]
    simp [flat]
  | succ n ih =>
    intro k i x hi hk hx
    obtain ⟨K, rfl⟩ : ∃ K, k = K + 1 := ⟨k - 1, by omega⟩
    simp only [bollardref12_body.l0]
    have hlt : i < l.length := by omega
    have hx0 := hall _ (rd_mem hlt)
    have hel := encS_len hx0 hf
    rw [if_pos (by omega), if_pos (by omega), if_pos (by omega), rencode_R _ _ _ _ _ _ _ K (by omega), Option.bind_some]
    unfold encR
    rw [if_pos (show chk _ _ _ _ _ _ = 0 from hx0), if_pos hf]
    dsimp only
    have e : wrap64 ((i : Int) + 1) = ((i + 1 : Nat) : Int) := by unfold wrap64; omega
    unfold encS at hel
    rw [if_pos (by omega), e]
    refine (ih K (i + 1) _ (by omega) (by omega) (by rw [List.length_append]; omega)).trans ?_
    rw [rd_drop hlt, flat_cons, List.append_assoc]
    rfl
theorem body_f (b s p q : Int) (l : List S45) (hl : l.length ≤ 300) (hall : ∀ x ∈ l, chkS x = 0) (h0 : 0 < l.length) (k : Nat) (hk : 400 ≤ k) : bollardref12_body.f k b s p q l = some (bodyB s p q l) := by
  unfold bollardref12_body.f
  rw [lay_f [] 8 8 rfl (by omega) (by omega) p (by simp) k (by omega), Option.bind_some, lay_f _ 8 8 rfl (by omega) (by omega) q (by simp [beL_length]) k (by omega), Option.bind_some, lay_f _ 4 4 rfl (by omega) (by omega) s (by simp [beL_length]) k (by omega), Option.bind_some,
    lay_f _ 4 4 rfl (by omega) (by omega) _ (by simp [beL_length]) k (by omega), Option.bind_some, if_pos (by omega), lay_f _ 8 8 rfl (by omega) (by omega) _ (by simp [beL_length]) k (by omega), Option.bind_some]
  have := body_l0 b s p q l hl hall h0 l.length k 0 ((((([] ++ beL (U p) 8) ++ beL (U q) 8) ++ beL (U s) 4) ++ beL (U (l.length : Int)) 4) ++ beL (U (rd_T45 l 0).f4) 8) (by omega) (by omega) (by simp [beL_length]; omega)
  refine this.trans ?_
  unfold bodyB bodyH
  simp
theorem enc_ge {x : S45} (first : Int) (h : chkS x = 0) : x.f1.size + x.f3.size ≤ (encS first x).length := by
  have hc := chk_ok h
  have hz : ∀ b : ByteArray, b.toList = [] → b.size = 0 := fun b hb => by
    rw [toList_data_] at hb
    have := congrArg List.length hb
    simpa using this
  have hk : x.f1.size ≤ (if x.f0 = true then txt x.f1 else []).length := by
    cases h0 : x.f0
    · rw [hz _ (hc.1 h0)]; omega
    · simp [txt, bytesOf_len]
  have hv : x.f3.size ≤ (if x.f2 = true then txt x.f3 else []).length := by
    cases h0 : x.f2
    · rw [hz _ (hc.2.1 h0)]; omega
    · simp [txt, bytesOf_len]
  unfold encS enc
  simp only [List.length_cons, List.length_append]
  omega
/-- What the document's check says of records that follow one another rightly. -/
def big (s p q : Int) (l : List S45) : Int := if 16 + (bodyB s p q l).length > 6000 then 2 else 0
theorem cb_l1 (b s p q : Int) (l : List S45) (hl : l.length ≤ 300) (h0 : 0 < l.length) (n : Nat) : ∀ (k i : Nat) (sum : Int), i + n = l.length → n + 500 ≤ k → (∀ x ∈ l.take i, chkS x = 0) → 0 ≤ sum → sum ≤ ((flat (rd_T45 l 0).f4 (l.take i)).length : Int) → sum + 4000 * (n : Int) ≤ 100000000 →
    bollardref12_CheckBatch.l1 k sum (i : Int) b s p q l = some (if ferr (l.drop i) = 0 then big s p q l else ferr (l.drop i)) := by
  induction n with
  | zero =>
    intro k i sum hi hk hpre hs0 hs1 hs2
    obtain ⟨K, rfl⟩ : ∃ K, k = K + 1 := ⟨k - 1, by omega⟩
    simp only [bollardref12_CheckBatch.l1]
    rw [List.take_of_length_le (by omega)] at hpre hs1
    rw [if_neg (by omega), List.drop_eq_nil_of_le (by omega), show ferr [] = 0 from rfl, if_pos rfl]
    have hbl := bodyB_len s p q l
    have hfl := flat_len _ (first_ok h0 hpre) l hpre
    unfold big
    by_cases c : sum > 6000
    · rw [if_pos c, if_pos (by omega)]
    · rw [if_neg c, body_f b s p q l hl hpre h0 K (by omega), Option.bind_some, show wrap64 (((bodyB s p q l).length : Int) + 16) = ((bodyB s p q l).length : Int) + 16 from by unfold wrap64; omega]
      by_cases d : ((bodyB s p q l).length : Int) + 16 > 6000
      · rw [if_pos d, if_pos (by omega)]
      · rw [if_neg d, if_neg (by omega)]
  | succ n ih =>
    intro k i sum hi hk hpre hs0 hs1 hs2
    obtain ⟨K, rfl⟩ : ∃ K, k = K + 1 := ⟨k - 1, by omega⟩
    have hlt : i < l.length := by omega
    simp only [bollardref12_CheckBatch.l1]
    rw [if_pos (by omega), if_pos (by omega), rcheck_f, Option.bind_some, rd_drop hlt, ferr]
    by_cases c : chkS (rd_T45 l (i : Int)) = 0
    · have hc := chk_ok c
      have he := enc_ge (rd_T45 l 0).f4 c
      have hst : l.take (i + 1) = l.take i ++ [rd_T45 l (i : Int)] := by
        rw [List.take_add_one, List.getElem?_eq_getElem hlt]
        congr 1
        unfold rd_T45
        rw [Int.toNat_natCast, List.getD_eq_getElem?_getD, List.getElem?_eq_getElem hlt]
        rfl
      have hfa : (flat (rd_T45 l 0).f4 (l.take (i + 1))).length = (flat (rd_T45 l 0).f4 (l.take i)).length + (encS (rd_T45 l 0).f4 (rd_T45 l (i : Int))).length := by
        rw [hst]; unfold flat; rw [List.map_append, List.flatten_append, List.length_append]; simp
      rw [if_pos (show chk _ _ _ _ _ _ = 0 from c), if_pos c, show wrap64 ((i : Int) + 1) = ((i + 1 : Nat) : Int) from by unfold wrap64; omega,
        show wrap64 (wrap64 (sum + ((rd_T45 l (i : Int)).f1.size : Int)) + ((rd_T45 l (i : Int)).f3.size : Int)) = sum + ((rd_T45 l (i : Int)).f1.size : Int) + ((rd_T45 l (i : Int)).f3.size : Int) from by unfold wrap64; omega]
      refine ih K (i + 1) _ (by omega) (by omega) (fun x hx => ?_) (by omega) (by rw [hfa]; omega) (by omega)
      rw [hst] at hx
      rcases List.mem_append.1 hx with hx | hx
      · exact hpre x hx
      · rw [List.mem_singleton.1 hx]; exact c
    · rw [if_neg (show ¬ chk _ _ _ _ _ _ = 0 from c), if_neg c, if_neg c]
      rfl
/-- The offsets rise, from one on. -/
def okFrom (s : Int) : Int → List S45 → Prop
  | _, [] => True
  | last, x :: l => ¬ x.f5 ≤ last ∧ ¬ x.f5 ≥ s ∧ okFrom s x.f5 l
theorem cb_l0 (b s p q : Int) (l : List S45) (hl : l.length ≤ 300) (r : Int) (hr : ∀ k, 1000 ≤ k → bollardref12_CheckBatch.l1 k 0 0 b s p q l = some r) (n : Nat) : ∀ (k i : Nat) (last : Int), i + n = l.length → n + 1001 ≤ k →
    (okFrom s last (l.drop i) → bollardref12_CheckBatch.l0 k last (i : Int) b s p q l = some r) ∧ (¬ okFrom s last (l.drop i) → bollardref12_CheckBatch.l0 k last (i : Int) b s p q l = some 1) := by
  induction n with
  | zero =>
    intro k i last hi hk
    obtain ⟨K, rfl⟩ : ∃ K, k = K + 1 := ⟨k - 1, by omega⟩
    simp only [bollardref12_CheckBatch.l0]
    rw [if_neg (by omega), List.drop_eq_nil_of_le (by omega)]
    exact ⟨fun _ => hr K (by omega), fun h => absurd trivial h⟩
  | succ n ih =>
    intro k i last hi hk
    obtain ⟨K, rfl⟩ : ∃ K, k = K + 1 := ⟨k - 1, by omega⟩
    have hlt : i < l.length := by omega
    simp only [bollardref12_CheckBatch.l0]
    rw [if_pos (by omega), if_pos (by omega), rd_drop hlt]
    by_cases c : (rd_T45 l (i : Int)).f5 ≤ last
    · rw [if_pos c]
      exact ⟨fun h => absurd c h.1, fun _ => rfl⟩
    · rw [if_neg c]
      by_cases d : (rd_T45 l (i : Int)).f5 ≥ s
      · rw [if_pos d]
        exact ⟨fun h => absurd d h.2.1, fun _ => rfl⟩
      · rw [if_neg d, show wrap64 ((i : Int) + 1) = ((i + 1 : Nat) : Int) from by unfold wrap64; omega]
        have := ih K (i + 1) (rd_T45 l (i : Int)).f5 (by omega) (by omega)
        exact ⟨fun h => this.1 h.2.2, fun h => this.2 (fun h2 => h ⟨c, d, h2⟩)⟩
theorem ok_at (s : Int) : ∀ (l : List S45) (last : Int), okFrom s last l ↔ ∀ i, i < l.length → (rd_T45 l (i : Int)).f5 < s ∧ (if i = 0 then last else (rd_T45 l ((i : Int) - 1)).f5) < (rd_T45 l (i : Int)).f5
  | [], _ => ⟨fun _ i h => by simp at h, fun _ => trivial⟩
  | x :: l, last => by
    have ih := ok_at s l x.f5
    have r0 : rd_T45 (x :: l) ((0 : Nat) : Int) = x := rfl
    have rs : ∀ j : Nat, rd_T45 (x :: l) ((j + 1 : Nat) : Int) = rd_T45 l (j : Int) := fun j => by unfold rd_T45; rw [Int.toNat_natCast, Int.toNat_natCast]; rfl
    constructor
    · rintro ⟨h1, h2, h3⟩ i hi
      cases i with
      | zero => rw [r0, if_pos rfl]; omega
      | succ j =>
        have := (ih.1 h3) j (by simpa using hi)
        rw [rs, if_neg (by omega), show ((j + 1 : Nat) : Int) - 1 = (j : Int) by omega]
        refine ⟨this.1, ?_⟩
        cases j with
        | zero => rw [r0]; simpa using this.2
        | succ j => rw [rs]; have h4 := this.2; rw [if_neg (by omega), show ((j + 1 : Nat) : Int) - 1 = (j : Int) by omega] at h4; exact h4
    · intro h
      have h1 := h 0 (by simp)
      rw [r0, if_pos rfl] at h1
      refine ⟨by omega, by omega, ih.2 (fun j hj => ?_)⟩
      have := h (j + 1) (by simpa using hj)
      rw [rs, if_neg (by omega), show ((j + 1 : Nat) : Int) - 1 = (j : Int) by omega] at this
      refine ⟨this.1, ?_⟩
      cases j with
      | zero => rw [r0] at this; simpa using this.2
      | succ j => rw [rs] at this; rw [if_neg (by omega), show ((j + 1 : Nat) : Int) - 1 = (j : Int) by omega]; exact this.2
/-- A batch's error. -/
def chkB (b s p q : Int) (l : List S45) : Int := if ¬ offsOk b s p q l then 1 else if ferr l = 0 then big s p q l else ferr l
theorem odd_off {x : S45} (h : x.f5 < 0) : chkS x = 1 := by
  unfold chkS chk
  rw [if_pos (by unfold odd; omega)]
theorem checkB_f (b s p q : Int) (l : List S45) (hl : l.length ≤ 300) (k : Nat) (hk : 3000 ≤ k) : bollardref12_CheckBatch.f k b s p q l = some (chkB b s p q l) := by
  obtain ⟨K, rfl⟩ : ∃ K, k = K + 1 := ⟨k - 1, by omega⟩
  have one : bollardref12_CheckBatch.j0 (K + 1) true b s p q l = some 1 := by simp [bollardref12_CheckBatch.j0]
  unfold bollardref12_CheckBatch.f chkB
  by_cases c0 : b < 0
  · rw [if_pos c0, one, if_pos (fun h => h.1 c0)]
  rw [if_neg c0]
  by_cases c1 : b > 1125899906842624
  · rw [if_pos c1, one, if_pos (fun h => h.2.1 c1)]
  rw [if_neg c1]
  by_cases c2 : s < 1
  · rw [if_pos c2, one, if_pos (fun h => h.2.2.1 c2)]
  rw [if_neg c2]
  by_cases c3 : s > 100
  · rw [if_pos c3, one, if_pos (fun h => h.2.2.2.1 c3)]
  rw [if_neg c3]
  by_cases c4 : p < 0
  · rw [if_pos c4, one, if_pos (fun h => h.2.2.2.2.1 c4)]
  rw [if_neg c4]
  by_cases c5 : q < 0
  · rw [if_pos c5, one, if_pos (fun h => h.2.2.2.2.2.1 c5)]
  rw [if_neg c5]
  by_cases c6 : l.length = 0
  · rw [show ((l.length : Int) == 0) = true from by rw [c6]; rfl, one, if_pos (fun h => h.2.2.2.2.2.2.1 c6)]
  rw [show ((l.length : Int) == 0) = false from beq_eq_false_iff_ne.mpr (by omega)]
  simp only [bollardref12_CheckBatch.j0]
  rw [if_neg (by simp)]
  have h0 : 0 < l.length := by omega
  have h1 := fun k (hk : 1000 ≤ k) => cb_l1 b s p q l hl h0 l.length k 0 0 (by omega) (by omega) (by simp) (by omega) (by simp) (by omega)
  have h2 := cb_l0 b s p q l hl _ h1 l.length K 0 (-1) (by omega) (by omega)
  rw [List.drop_zero] at h2
  have hat := ok_at s l (-1)
  by_cases ho : okFrom s (-1) l
  · have hoff : offsOk b s p q l := ⟨c0, c1, c2, c3, c4, c5, c6, fun i hi => ⟨((hat.1 ho) i hi).1, fun hp => by have := ((hat.1 ho) i hi).2; rw [if_neg (by omega)] at this; exact this⟩⟩
    rw [if_neg (not_not_intro hoff)]
    exact h2.1 ho
  · refine (h2.2 ho).trans ?_
    by_cases hoff : offsOk b s p q l
    · rw [if_neg (not_not_intro hoff)]
      have hneg : (rd_T45 l 0).f5 < 0 := by
        refine Classical.byContradiction fun hn => ho (hat.2 (fun i hi => ⟨(hoff.2.2.2.2.2.2.2 i hi).1, ?_⟩))
        by_cases hi0 : i = 0
        · subst hi0
          rw [if_pos rfl, show ((0 : Nat) : Int) = 0 from rfl]
          omega
        · rw [if_neg hi0]
          exact (hoff.2.2.2.2.2.2.2 i hi).2 (by omega)
      have hf : ferr l = 1 := by
        rcases l with _ | ⟨x, l⟩
        · simp at h0
        · rw [ferr, odd_off (show x.f5 < 0 from hneg), if_neg (by omega)]
      rw [hf, if_neg (by omega)]
    · rw [if_pos hoff]
theorem laid_len {b s p q : Int} {l : List S45} : (bytesB b s p q l).length > 6000 ↔ 16 + (bodyB s p q l).length > 6000 := by rw [bytesB_len]
/-- What a batch comes to. -/
def encB (b s p q : Int) (l : List S45) : List Int × Int := if chkB b s p q l = 0 then (bytesB b s p q l, 0) else ([], chkB b s p q l)
theorem ferr_pos : ∀ l : List S45, 0 ≤ ferr l
  | [] => Int.le_refl _
  | x :: l => by
    rw [ferr]
    split
    · exact ferr_pos l
    · unfold chkS chk
      split
      · omega
      · split <;> omega
theorem encode_f2 (b s p q : Int) (l : List S45) (hl : l.length ≤ 300) (k : Nat) (hk : 20000000 ≤ k) : batch_Encode.f k b s p q l = some (encB b s p q l) := by
  unfold batch_Encode.f
  rw [laid_f b s p q l hl k hk, Option.bind_some]
  unfold laidR encB chkB
  by_cases ho : offsOk b s p q l
  · rw [if_neg (not_not_intro ho), if_neg (not_not_intro ho)]
    by_cases hf : ferr l = 0
    · rw [if_pos hf, if_pos hf]
      dsimp only
      rw [if_pos rfl]
      unfold big
      by_cases hb : 16 + (bodyB s p q l).length > 6000
      · rw [if_pos (by rw [bytesB_len]; omega), if_pos hb, if_neg (by omega)]
      · rw [if_neg (by rw [bytesB_len]; omega), if_neg hb, if_pos rfl]
    · rw [if_neg hf, if_neg hf]
      dsimp only
      rw [if_neg hf, if_neg hf]
  · rw [if_pos ho, if_pos ho]
    dsimp only
    rw [if_neg (by omega), if_neg (by omega)]
theorem rencodeB_f (b s p q : Int) (l : List S45) (hl : l.length ≤ 300) (k : Nat) (hk : 20000000 ≤ k) : bollardref12_EncodeBatch.f k b s p q l = some (encB b s p q l) := by
  unfold bollardref12_EncodeBatch.f encB
  rw [checkB_f b s p q l hl k (by omega), Option.bind_some]
  by_cases hc : chkB b s p q l = 0
  · have hoff : offsOk b s p q l := Classical.byContradiction fun hn => by unfold chkB at hc; rw [if_pos hn] at hc; omega
    have hfe : ferr l = 0 := Classical.byContradiction fun hn => by unfold chkB at hc; rw [if_neg (not_not_intro hoff), if_neg hn] at hc; exact hn hc
    have hall := ferr_all hfe
    have h0 : 0 < l.length := Nat.pos_of_ne_zero hoff.2.2.2.2.2.2.1
    have hfl := flat_len _ (first_ok h0 hall) l hall
    have hbl := bodyB_len s p q l
    rw [if_pos hc, if_pos hc, body_f b s p q l hl hall h0 k (by omega), Option.bind_some, lay_f [] 8 8 rfl (by omega) (by omega) b (by simp) k (by omega), Option.bind_some, show wrap64 (((bodyB s p q l).length : Int) + 4) = ((bodyB s p q l).length : Int) + 4 from by unfold wrap64; omega,
      lay_f _ 4 4 rfl (by omega) (by omega) _ (by simp [beL_length]) k (by omega), Option.bind_some, Crc.rsum_f _ (by omega) k (by omega), Option.bind_some, lay_f _ 4 4 rfl (by omega) (by omega) _ (by simp [beL_length]) k (by omega), Option.bind_some,
      if_pos (by simp [beL_length]; omega)]
    unfold bytesB
    simp
  · rw [if_neg hc, if_neg hc]
end Go.Proofs.Ytgmeellapjimgaa.Bp
