import Derived.Test.YtncfofnikmfjbaaQCf5
import Derived.Outline
import Derived.StillTailTactics
import Derived.RegionTactic
import Derived.BigRegion
import Derived.Lib.BufferWrite
namespace Go.Proofs.Ytncfofnikmfjbaa.PCi
open Go.RowKit Go.Proofs.YtncfofnikmfjbaaW.PrintWords Go.Proofs.YtncfofnikmfjbaaW.PrintLast Go.Proofs.YtncfofnikmfjbaaW.PrintMore
attribute [local go_sem] max2_int min2_int max_two min_two max_three min_three max_four min_four
set_option linter.unusedVariables false
set_option linter.unusedSimpArgs false

/-! ### codec: a reader at a block -/
structure KeepR (w w' : World) (g base : Nat) : Prop where
  below : Below base w w'
  keep : ∀ i o, i ≠ g → w.heap[i]? = some o → w'.heap[i]? = some o
theorem KeepR.refl (w : World) (g base : Nat) : KeepR w w g base := ⟨Below.refl _ _, fun _ _ _ h => h⟩
theorem KeepR.trans {w w1 w2 : World} {g base : Nat} (h : KeepR w w1 g base) (k : KeepR w1 w2 g base) : KeepR w w2 g base := ⟨h.below.trans k.below, fun i o hi ho => k.keep i o hi (h.keep i o hi ho)⟩
theorem KeepR.of_below {w w1 : World} {g base : Nat} (h : Below w.heap.size w w1) (hb : base ≤ w.heap.size) : KeepR w w1 g base := ⟨h.mono hb, fun i o _ ho => blk_below ho h⟩
theorem KeepR.drewN {w w1 : World} {g base : Nat} (h : KeepR w w1 g base) (n : Nat) : KeepR w (w1.drewN n) g base := ⟨pw_below_drewN h.below n, h.keep⟩
theorem KeepR.set {w w1 : World} {g base : Nat} (h : KeepR w w1 g base) (hg : base ≤ g) (j : Nat) (u : Value) : KeepR w (w1.setCell ⟨g, j, none⟩ u) g base :=
  ⟨h.below.setCell (p := ⟨g, j, none⟩) hg u, fun i o hi ho => (Below.heap_setCell w1 ⟨g, j, none⟩ u i hi).trans (h.keep i o hi ho)⟩
/-- A reader at block g, and what it has still to read (read at the world u). -/
def Rd (u W : World) (g : Nat) (l : List Int) (bad : Bool) : Prop := ∃ A c, W.heap[g]? = some (.cells #[.slice A l.length c, .bool bad] 88 (0, 0)) ∧ l.length ≤ c ∧ Kd.C (Kd.int .u8) u A l.length l ∧ Bp.Bytes l
theorem Rd.turn {u W : World} {g : Nat} {l : List Int} {bad : Bool} (h : Rd u W g l bad) (b : Bool) : Rd u (W.setCell ⟨g, 1, none⟩ (.bool b)) g l b := by
  obtain ⟨A, c, h1, h2⟩ := h
  exact ⟨A, c, by simpa using blk_set h1 1 (.bool b), h2⟩
theorem Rd.below {u W W1 : World} {g : Nat} {l : List Int} {bad : Bool} (h : Rd u W g l bad) (hb : Below W.heap.size W W1) : Rd u W1 g l bad := by
  obtain ⟨A, c, h1, h2⟩ := h
  exact ⟨A, c, blk_below h1 hb, h2⟩
theorem Rd.drewN {u W : World} {g : Nat} {l : List Int} {bad : Bool} (h : Rd u W g l bad) (n : Nat) : Rd u (W.drewN n) g l bad := h
theorem Rd.lt {u W : World} {g : Nat} {l : List Int} {bad : Bool} (h : Rd u W g l bad) : g < W.heap.size := by
  obtain ⟨A, c, h1, _⟩ := h
  exact blk_lt h1
/-- Some bytes: what is read, what is left, is it over? -/
def rdBytes (n : Int) (l : List Int) (bad : Bool) : List Int × List Int × Bool := if bad = true ∨ (l.length : Int) < n then ([], l, true) else (l.take n.toNat, l.drop n.toNat, false)
set_option maxHeartbeats 4000000 in
set_option maxRecDepth 100000 in
theorem rd_bytes (u : World) (g : Nat) (l : List Int) (bad : Bool) (n : Int) (r l2 : List Int) (bad2 : Bool) (w : World) (hF : Rd u w g l bad) (hg : u.heap.size ≤ g) (hu : Below u.heap.size u w) (hn : 0 ≤ n) (h : rdBytes n l bad = (r, l2, bad2)) :
    Calls Try.prog 63 #[.pointer (some ⟨g, 0, none⟩), .int .i64 n] w fun e w' => (∃ A c, e = .returned (.slice A r.length c) ∧ r.length ≤ c ∧ Kd.C (Kd.int .u8) u A r.length r) ∧ Rd u w' g l2 bad2 ∧ KeepR w w' g u.heap.size := by
  have HF := Aside0.mk hF
  have HGE := Aside0.mk hg
  have HU := Aside0.mk hu
  clear hF hg hu
  unfold rdBytes at h
  obtain ⟨A, c, h1, h2, h3, h4⟩ := HF.out
  have q0 : w.cell? ⟨g, 0, none⟩ = some (.slice A l.length c) := (blk_cell h1 0).trans rfl
  have q1 : w.cell? ⟨g, 1, none⟩ = some (.bool bad) := (blk_cell h1 1).trans rfl
  have z0 : w.frozen? ⟨g, 0, none⟩ = false := blk_frozen h1 0
  have z1 : w.frozen? ⟨g, 1, none⟩ = false := blk_frozen h1 1
  cases bad with
  | true =>
    have hc : (true = true ∨ (l.length : Int) < n) := .inl rfl
    rw [if_pos hc, Prod.mk.injEq, Prod.mk.injEq] at h
    obtain ⟨rfl, rfl, rfl⟩ := h
    clear hn hc h1 h2 h3 h4
    go_enter Try.func63, Try.ntmps63
    go_wp2
    go_ret
    exact ⟨⟨none, 0, rfl, Nat.le_refl _, Kd.C_nil _ _⟩, HF.out.turn true, (KeepR.refl _ _ _).set HGE.out 1 _⟩
  | false =>
    by_cases d : (l.length : Int) < n
    · have d0 : decide ((l.length : Int) < n) = true := decide_eq_true d
      have hc : (false = true ∨ (l.length : Int) < n) := .inr d
      rw [if_pos hc, Prod.mk.injEq, Prod.mk.injEq] at h
      obtain ⟨rfl, rfl, rfl⟩ := h
      clear d hn hc h1 h2 h3 h4
      go_enter Try.func63, Try.ntmps63
      go_wp2
      go_ret
      exact ⟨⟨none, 0, rfl, Nat.le_refl _, Kd.C_nil _ _⟩, HF.out.turn true, (KeepR.refl _ _ _).set HGE.out 1 _⟩
    · have d0 : decide ((l.length : Int) < n) = false := decide_eq_false d
      rw [if_neg (by simp [d]), Prod.mk.injEq, Prod.mk.injEq] at h
      obtain ⟨rfl, rfl, rfl⟩ := h
      obtain ⟨i0, hi0, _, hsz, _⟩ := info_parts info_u8
      obtain ⟨A1, hcut1, hA1, hC1⟩ := print_drop_of (P := Try.prog) (Value.int .u8) 0 29 5 .i64 Try.underlying29 hi0 hsz A c l n hn (by omega) h2
      obtain ⟨hcut2, hA2, hC2⟩ := print_take_of (P := Try.prog) (Value.int .u8) 0 29 5 .i64 Try.underlying29 hi0 hsz A c l n hn (by omega) h2
      have R1 := Aside0.mk (Kd.C_of_reads (h1 := fun _ => rfl) (hA1 _ (Kd.reads_of_C h3)))
      have R2 := Aside0.mk (Kd.C_of_reads (h1 := fun _ => rfl) (hA2 _ (Kd.reads_of_C h3)))
      have C1 := Aside0.mk hC1
      have C2 := Aside0.mk hC2
      have G1 := Aside0.mk h1
      have B4 := Aside0.mk (show Bp.Bytes (l.drop n.toNat) from fun x hx => h4 x (List.mem_of_mem_drop hx))
      obtain ⟨la, hla⟩ : ∃ x, x = l.drop n.toNat := ⟨_, rfl⟩
      obtain ⟨lb, hlb⟩ : ∃ x, x = l.take n.toNat := ⟨_, rfl⟩
      rw [← hla] at hcut1 R1 C1 B4 ⊢
      rw [← hlb] at hcut2 R2 C2 ⊢
      clear hn d hA1 hC1 hA2 hC2 h1 h2 h3 h4 hla hlb hi0 hsz
      go_enter Try.func63, Try.ntmps63
      go_wp2
      go_ret
      exact ⟨⟨A, c, rfl, C2.out, R2.out⟩, ⟨A1, _, by simpa using blk_set G1.out 0 (.slice A1 la.length (c - n.toNat)), C1.out, R1.out, B4.out⟩, (KeepR.refl _ _ _).set HGE.out 0 _⟩
/-- A number of some bytes. -/
def rdNum (n : Nat) (l : List Int) (bad : Bool) : Int × List Int × Bool := if bad = true ∨ l.length < n then (0, l, true) else (wrap64 (Bp.be (l.take n)), l.drop n, false)
/-- A text. -/
def rdText (l : List Int) (bad : Bool) : ByteArray × List Int × Bool := (strOfNums (rdBytes (rdNum 2 l bad).1 (rdNum 2 l bad).2.1 (rdNum 2 l bad).2.2).1, (rdBytes (rdNum 2 l bad).1 (rdNum 2 l bad).2.1 (rdNum 2 l bad).2.2).2)
theorem get_be (l r : List Int) (n : Nat) (h1 : 1 ≤ n) (h8 : n ≤ 8) (hr : r = l.take n ∨ r = []) (hl : Bp.Bytes l) (hlen : r = [] ∨ n ≤ l.length) : ∃ ok, bits_Get.f 9 r 0 (n : Int) true = some ((if r = [] then 0 else Bp.be r), ok) := by
  by_cases he : r = []
  · subst he
    exact ⟨false, by rw [Bp.get_none [] (by simp) 0 n true (by simp; omega) 9]; rfl⟩
  · have hn : n ≤ l.length := hlen.resolve_left he
    have hr' : r = l.take n := hr.resolve_right he
    have hrl : r.length = n := by rw [hr', List.length_take]; omega
    refine ⟨true, ?_⟩
    rw [if_neg he]
    have := Bp.get_f r (fun x hx => hl x (by rw [hr'] at hx; exact List.mem_of_mem_take hx)) (by omega) 0 n true h1 h8 (by omega) 9 (Nat.le_refl _)
    rw [show ((0 : Nat) : Int) = 0 from rfl] at this
    rw [this]
    congr 2
    unfold Bp.get
    rw [if_pos rfl, List.drop_zero, List.take_of_length_le (by omega)]
theorem rdBytes_num {n : Nat} {l r l2 : List Int} {bad bad2 : Bool} (h : rdBytes (n : Int) l bad = (r, l2, bad2)) (h1 : 1 ≤ n) : (r = l.take n ∨ r = []) ∧ (r = [] ∨ n ≤ l.length) ∧ rdNum n l bad = (wrap64 (if r = [] then 0 else Bp.be r), l2, bad2) := by
  unfold rdBytes at h
  unfold rdNum
  by_cases hc : bad = true ∨ l.length < n
  · rw [if_pos (by rcases hc with hc | hc; exact .inl hc; exact .inr (by omega)), Prod.mk.injEq, Prod.mk.injEq] at h
    obtain ⟨rfl, rfl, rfl⟩ := h
    rw [if_pos hc]
    exact ⟨.inr rfl, .inl rfl, by rw [if_pos rfl, show wrap64 0 = 0 from by unfold wrap64; omega]⟩
  · have hn : n ≤ l.length := by
      rcases Nat.lt_or_ge l.length n with h_ | h_
      · exact absurd (.inr h_) hc
      · exact h_
    rw [if_neg (fun h_ => hc (h_.elim .inl (fun h_ => .inr (by omega)))), Prod.mk.injEq, Prod.mk.injEq] at h
    obtain ⟨h3, h4, h5⟩ := h
    rw [Int.toNat_natCast] at h3 h4
    have hne : r ≠ [] := fun e => by
      have : r.length = n := by rw [← h3, List.length_take]; omega
      rw [e] at this
      simp at this
      omega
    rw [if_neg hc, if_neg hne]
    subst h3 h4 h5
    exact ⟨.inl rfl, .inr hn, rfl⟩
theorem Rd.bytes {u W : World} {g : Nat} {l : List Int} {bad : Bool} (h : Rd u W g l bad) : Bp.Bytes l := by
  obtain ⟨A, c, _, _, _, h1⟩ := h
  exact h1
set_option maxHeartbeats 4000000 in
set_option maxRecDepth 100000 in
theorem rd_number (u : World) (g : Nat) (l : List Int) (bad : Bool) (n : Nat) (v : Int) (l2 : List Int) (bad2 : Bool) (w : World) (hF : Rd u w g l bad) (hg : u.heap.size ≤ g) (hu : Below u.heap.size u w) (h1 : 1 ≤ n) (h8 : n ≤ 8) (h : rdNum n l bad = (v, l2, bad2)) :
    Calls Try.prog 36 #[.pointer (some ⟨g, 0, none⟩), .int .i64 (n : Int)] w fun e w' => e = .returned (.int .i64 v) ∧ Rd u w' g l2 bad2 ∧ KeepR w w' g u.heap.size := by
  obtain ⟨⟨r, l3, bad3⟩, hr⟩ : ∃ x, x = rdBytes (n : Int) l bad := ⟨_, rfl⟩
  obtain ⟨k1, k2, k3⟩ := rdBytes_num hr.symm h1
  rw [h, Prod.mk.injEq, Prod.mk.injEq] at k3
  obtain ⟨rfl, rfl, rfl⟩ := k3
  obtain ⟨ok, hget⟩ := get_be l r n h1 h8 k1 hF.bytes k2
  obtain ⟨t, ht⟩ : ∃ t, t = (if r = [] then 0 else Bp.be r) := ⟨_, rfl⟩
  rw [← ht] at hget ⊢
  have HF := Aside0.mk hF
  have HGE := Aside0.mk hg
  have HU := Aside0.mk hu
  have HR := Aside0.mk hr.symm
  have HT := Aside0.mk hget
  clear hF hg hu h1 h8 h hr k1 k2 hget ht
  go_enter Try.func36, Try.ntmps36
  go_wp2_with fail
  refine (rd_bytes u g l bad n r l2 bad2 w HF.out HGE.out HU.out (by omega) HR.out).mono ?_
  rintro e w1 ⟨⟨A, c, rfl, h1, h2⟩, h3, h4⟩
  have H1 := Aside0.mk h1
  have H2 := Aside0.mk h2
  have H3 := Aside0.mk h3
  have H4 := Aside0.mk h4
  clear h1 h2 h3 h4
  go_wp2_with fail
  refine (bits_Get.calls 9 A c r 0 n true t ok w1 (Kd.C_below H2.out (HU.out.trans H4.out.below)) H1.out HT.out).mono ?_
  rintro e w2 ⟨rfl, ⟨m, rfl⟩⟩
  have H5 := Aside0.mk (H3.out.drewN m)
  have H6 := Aside0.mk (H4.out.drewN m)
  clear H3 H4
  go_wp2_with fail
  go_ret
  exact ⟨rfl, H5.out, H6.out⟩
theorem rdNum_le {n : Nat} {l : List Int} {bad : Bool} (hl : Bp.Bytes l) (hn : n ≤ 7) : 0 ≤ (rdNum n l bad).1 ∧ (rdNum n l bad).1 < 256 ^ n := by
  unfold rdNum
  have hp : (0 : Int) < 256 ^ n := Int.pow_pos (by decide)
  split
  · exact ⟨by simp, hp⟩
  · have h1 := Bp.be_range (l.take n) (fun x hx => hl x (List.mem_of_mem_take hx))
    have h2 : (256 : Int) ^ (l.take n).length ≤ 256 ^ n := Bp.pow256_le (by rw [List.length_take]; omega)
    have h3 : (256 : Int) ^ n ≤ 256 ^ 7 := Bp.pow256_le hn
    have h4 : (256 : Int) ^ 7 = 72057594037927936 := by decide
    have e : wrap64 (Bp.be (l.take n)) = Bp.be (l.take n) := by unfold wrap64; omega
    dsimp only
    rw [e]
    omega
set_option maxHeartbeats 4000000 in
set_option maxRecDepth 100000 in
theorem rd_text (u : World) (g : Nat) (l : List Int) (bad : Bool) (s : ByteArray) (l2 : List Int) (bad2 : Bool) (w : World) (hF : Rd u w g l bad) (hg : u.heap.size ≤ g) (hu : Below u.heap.size u w) (h : rdText l bad = (s, l2, bad2)) :
    Calls Try.prog 64 #[.pointer (some ⟨g, 0, none⟩)] w fun e w' => e = .returned (.string s) ∧ Rd u w' g l2 bad2 ∧ KeepR w w' g u.heap.size := by
  obtain ⟨⟨n, l3, bad3⟩, hn⟩ : ∃ x, x = rdNum 2 l bad := ⟨_, rfl⟩
  have hn0 := (rdNum_le (n := 2) (bad := bad) hF.bytes (by decide)).1
  unfold rdText at h
  rw [← hn] at h hn0
  obtain ⟨⟨r, l4, bad4⟩, hr⟩ : ∃ x, x = rdBytes n l3 bad3 := ⟨_, rfl⟩
  dsimp only at h hn0
  rw [← hr, Prod.mk.injEq, Prod.mk.injEq] at h
  obtain ⟨rfl, rfl, rfl⟩ := h
  dsimp only
  have HF := Aside0.mk hF
  have HGE := Aside0.mk hg
  have HU := Aside0.mk hu
  have HN := Aside0.mk hn.symm
  have HR := Aside0.mk hr.symm
  have HN0 := Aside0.mk hn0
  clear hF hg hu hn hr hn0
  go_enter Try.func64, Try.ntmps64
  go_wp2_with fail
  refine (rd_number u g l bad 2 n l3 bad3 w HF.out HGE.out HU.out (by decide) (by decide) HN.out).mono ?_
  rintro e w1 ⟨rfl, h3, h4⟩
  have H3 := Aside0.mk h3
  have H4 := Aside0.mk h4
  clear h3 h4
  go_wp2_with fail
  refine (rd_bytes u g l3 bad3 n r l4 bad4 w1 H3.out HGE.out (HU.out.trans H4.out.below) HN0.out HR.out).mono ?_
  rintro e w2 ⟨⟨A, c, rfl, h1, h2⟩, h3, h4⟩
  have H5 := Aside0.mk h3
  have H6 := Aside0.mk (H4.out.trans h4)
  have hcv := Kd.C_string (P := Try.prog) (A := A) (c := c) Try.underlying29 Try.underlying5 Try.underlying9 (Kd.C_below h2 (HU.out.trans H6.out.below))
  clear h1 h2 h3 h4 H3 H4
  go_wp2_with fail
  go_ret
  exact ⟨rfl, H5.out, H6.out⟩

end Go.Proofs.Ytncfofnikmfjbaa.PCi
