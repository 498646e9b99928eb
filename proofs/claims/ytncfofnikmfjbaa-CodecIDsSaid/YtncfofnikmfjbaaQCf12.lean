import Derived.Test.YtncfofnikmfjbaaQCf3
import Derived.Outline
import Derived.StillTailTactics
import Derived.RegionTactic
import Derived.BigRegion
import Derived.Lib.BufferWrite
import Derived.Test.YtncfofnikmfjbaaQCf10
import Derived.Test.YtncfofnikmfjbaaQCfF
namespace Go.Proofs.Ytncfofnikmfjbaa.PCi
open Go.RowKit Go.Proofs.YtncfofnikmfjbaaW.PrintWords Go.Proofs.YtncfofnikmfjbaaW.PrintLast Go.Proofs.YtncfofnikmfjbaaW.PrintMore
attribute [local go_sem] max2_int min2_int max_two min_two max_three min_three max_four min_four
set_option linter.unusedVariables false
set_option linter.unusedSimpArgs false

def txt1 (s : ByteArray) : List Int := nb (s.size : Nat) 2 ++ bytesOf s
def txt2 (s : ByteArray) : Bool := decide (65535 < s.size)
def txtN (s : ByteArray) : Nat := 2 + s.size
theorem txt_len (s : ByteArray) : (txt1 s).length ≤ txtN s := by unfold txt1 txtN; rw [List.length_append, nb_len, bytesOf_length]; omega
def int1 (v : Int) : List Int := nb v 8
def int2 (_ : Int) : Bool := false
def intN (_ : Int) : Nat := 8
theorem int_len (v : Int) : (int1 v).length ≤ intN v := by unfold int1 intN; rw [nb_len]; omega
set_option maxHeartbeats 4000000 in
set_option maxRecDepth 100000 in
theorem wr_listS (g base : Nat) (xs : List Int) (bad : Bool) (A : Option Addr) (c : Nat) (l : List ByteArray) (ys : List Int) (b2 : Bool) (w : World) (hF : Wr w g base xs bad) (hg : base ≤ g) (hb : base ≤ w.heap.size) (hl : ∀ W, Below base w W → Kd.C Kd.string W A l.length l) (hx : xs.length + (l.map txtN).sum ≤ 700000000) (hs : lw txt1 txt2 l (xs ++ nb (l.length : Nat) 2) (bad || decide (65535 < l.length)) = (ys, b2)) :
    Calls Try.prog 48 #[.pointer (some ⟨g, 0, none⟩), .slice A l.length c, .func (Fn.func 44) #[.pointer (some ⟨g, 0, none⟩)] #[]] w fun e w' => e = .returned (.tuple #[]) ∧ Wr w' g base ys b2 ∧ KeepW w w' g base := by
  have HF := Aside0.mk hF
  have HGE := Aside0.mk hg
  have HB := Aside0.mk hb
  have HX := Aside0.mk hx
  have HL := Aside0.mk hl
  have HS := Aside0.mk hs
  have LM := Aside0.mk (show (l.length : Int) ≤ 9223372036854775807 by have := (hl w (Below.refl _ _)).2.1; omega)
  clear hF hg hb hx hl hs
  go_enter Try.func48, Try.ntmps48
  go_wp2_with fail
  refine (wr_many g base xs bad l.length w HF.out HGE.out HB.out (by have := HX.out; omega)).mono ?_
  rintro e y ⟨rfl, h1, h2⟩
  have H1 := Aside0.mk h1
  have H2 := Aside0.mk h2
  clear h1 h2 HF
  go_wp2_with fail
  go_loopg [14] (l.length + 1) (fun kq v14 w' => ∃ (i : Int) (zs : List Int) (b : Bool), v14 = .int .i64 i ∧ Aside0 (kq + i.toNat = l.length + 1 ∧ 0 ≤ i ∧ i ≤ (l.length : Int)) ∧ Aside0 (lw txt1 txt2 (l.drop i.toNat) zs b = (ys, b2)) ∧ Aside0 (zs.length + ((l.drop i.toNat).map txtN).sum ≤ 700000002) ∧ Aside0 (Wr w' g base zs b) ∧ Aside0 (KeepW w w' g base))
  case atStart => exact ⟨0, _, _, rfl, ⟨by simp, by omega, by omega⟩, HS, ⟨by rw [List.length_append, nb_len]; have := HX.out; simp only [Int.toNat_zero, List.drop_zero]; omega⟩, H1, H2⟩
  case round =>
    obtain ⟨i, zs, b, rfl, HI, HA, HN, HW, HK⟩ := hrel
    clear HS H1 H2 HX
    by_cases hi : i < (l.length : Int)
    · have d1 : decide (i < (l.length : Int)) = true := decide_eq_true hi
      have h0 := HI.out.2.1
      obtain ⟨ad, ea, x0⟩ := Kd.at_string (HL.out wr HK.out.below) i h0 hi
      cases ea
      have p1 := eq_true h0
      have p2 := eq_true hi
      have HE := Aside0.mk (show lw txt1 txt2 (l.getD i.toNat ByteArray.empty :: l.drop (i + 1).toNat) zs b = (ys, b2) from by rw [← drop_rd ByteArray.empty h0 hi]; exact HA.out)
      have HM := Aside0.mk (sum_mem txtN ByteArray.empty h0 hi)
      have e1 : IntKind.i64.wrap (i + 1) = i + 1 := (i64_w _).trans (by have := LM.out; unfold wrap64; omega)
      have HI2 := Aside0.mk hi
      clear hi h0
      obtain ⟨Aw, cw, hgw, hrw⟩ := HW.out
      have qw := (blk_cell hgw 1).trans rfl
      clear hgw hrw
      cases b with
      | true =>
        go_wp2_with fail
        refine bodyPost_ret (v := .tuple #[]) (by simp [results, Try.results48, go_sem]) rfl ?_
        have h_ := HA.out
        rw [lw_bad, Prod.mk.injEq] at h_
        obtain ⟨rfl, rfl⟩ := h_
        exact ⟨rfl, HW.out, HK.out⟩
      | false =>
        go_wp2_with fail
        refine (wr_text g base zs false (rdOf ByteArray.empty l i) wr HW.out HGE.out (Nat.le_trans HB.out HK.out.below.size) (by have := HN.out; rw [HM.out] at this; unfold txtN at this; unfold rdOf; omega)).mono ?_
        rintro e w2 ⟨rfl, h1, h2⟩
        have W2 := Aside0.mk h1
        have K2 := Aside0.mk (HK.out.trans h2)
        clear h1 h2 HW HK
        go_wp2_with fail
        go_roundg (l.length + 1 - (i + 1).toNat)
        case measure => have := HI.out; have := HI2.out; omega
        case rel => exact ⟨i + 1, _, _, by first | rfl | (rw [e1]), ⟨by have := HI.out; have := HI2.out; omega, by have := HI.out; omega, by have := HI2.out; omega⟩, ⟨by have h_ := HE.out; rw [lw, if_neg (by simp)] at h_; exact h_⟩, ⟨by have := HN.out; rw [HM.out] at this; have := txt_len (l.getD i.toNat ByteArray.empty); rw [List.length_append]; change zs.length + (txt1 (l.getD i.toNat ByteArray.empty)).length + _ ≤ _; omega⟩, W2, K2⟩
    · have d1 : decide (i < (l.length : Int)) = false := decide_eq_false hi
      go_wp2_with fail
      refine bodyPost_end (v := .tuple #[]) (by simp [results, Try.results48, go_sem]) rfl ?_
      have h_ := HA.out
      rw [List.drop_eq_nil_of_le (by have := HI.out; omega)] at h_
      simp only [lw, Prod.mk.injEq] at h_
      obtain ⟨rfl, rfl⟩ := h_
      exact ⟨rfl, HW.out, HK.out⟩
set_option maxHeartbeats 4000000 in
set_option maxRecDepth 100000 in
theorem wr_count (q g base : Nat) (xs : List Int) (bad : Bool) (v : Int) (w : World) (hF : Wr w g base xs bad) (hg : base ≤ g) (hb : base ≤ w.heap.size) (hx : xs.length ≤ 1000000000) (hq : w.cell? ⟨q, 0, none⟩ = some (.pointer (some ⟨g, 0, none⟩))) :
    Calls Try.prog 50 #[.int .i64 v, .pointer (some ⟨q, 0, none⟩)] w fun e w' => e = .returned (.tuple #[]) ∧ Wr w' g base (xs ++ int1 v) bad ∧ KeepW w w' g base := by
  have HF := Aside0.mk hF
  have HGE := Aside0.mk hg
  have HB := Aside0.mk hb
  have HX := Aside0.mk hx
  clear hF hg hb hx
  go_enter Try.func50, Try.ntmps50
  go_wp2_with fail
  refine (wr_number g base xs bad v 8 w HF.out HGE.out HB.out (by decide) (by decide) HX.out).mono ?_
  rintro e w2 ⟨rfl, h1, h2⟩
  have H1 := Aside0.mk h1
  have H2 := Aside0.mk h2
  clear h1 h2
  go_wp2_with fail
  refine bodyPost_end (v := .tuple #[]) (by simp [results, Try.results50, go_sem]) rfl ?_
  exact ⟨rfl, H1.out, H2.out⟩
set_option maxHeartbeats 4000000 in
set_option maxRecDepth 100000 in
theorem wr_listI (g base : Nat) (xs : List Int) (bad : Bool) (A : Option Addr) (c : Nat) (l : List Int) (ys : List Int) (b2 : Bool) (w : World) (hF : Wr w g base xs bad) (hg : base ≤ g) (hb : base ≤ w.heap.size) (hl : ∀ W, Below base w W → Kd.C (Kd.int .i64) W A l.length l) (hx : xs.length + (l.map intN).sum ≤ 700000000) (q : Nat) (hq : ∀ W, KeepW w W g base → W.cell? ⟨q, 0, none⟩ = some (.pointer (some ⟨g, 0, none⟩))) (hs : lw int1 int2 l (xs ++ nb (l.length : Nat) 2) (bad || decide (65535 < l.length)) = (ys, b2)) :
    Calls Try.prog 49 #[.pointer (some ⟨g, 0, none⟩), .slice A l.length c, .func (Fn.func 50) #[] #[.pointer (some ⟨q, 0, none⟩)]] w fun e w' => e = .returned (.tuple #[]) ∧ Wr w' g base ys b2 ∧ KeepW w w' g base := by
  have HF := Aside0.mk hF
  have HGE := Aside0.mk hg
  have HB := Aside0.mk hb
  have HX := Aside0.mk hx
  have HQ := Aside0.mk hq
  clear hq
  have HL := Aside0.mk hl
  have HS := Aside0.mk hs
  have LM := Aside0.mk (show (l.length : Int) ≤ 9223372036854775807 by have := (hl w (Below.refl _ _)).2.1; omega)
  clear hF hg hb hx hl hs
  go_enter Try.func49, Try.ntmps49
  go_wp2_with fail
  refine (wr_many g base xs bad l.length w HF.out HGE.out HB.out (by have := HX.out; omega)).mono ?_
  rintro e y ⟨rfl, h1, h2⟩
  have H1 := Aside0.mk h1
  have H2 := Aside0.mk h2
  clear h1 h2 HF
  go_wp2_with fail
  go_loopg [14] (l.length + 1) (fun kq v14 w' => ∃ (i : Int) (zs : List Int) (b : Bool), v14 = .int .i64 i ∧ Aside0 (kq + i.toNat = l.length + 1 ∧ 0 ≤ i ∧ i ≤ (l.length : Int)) ∧ Aside0 (lw int1 int2 (l.drop i.toNat) zs b = (ys, b2)) ∧ Aside0 (zs.length + ((l.drop i.toNat).map intN).sum ≤ 700000002) ∧ Aside0 (Wr w' g base zs b) ∧ Aside0 (KeepW w w' g base))
  case atStart => exact ⟨0, _, _, rfl, ⟨by simp, by omega, by omega⟩, HS, ⟨by rw [List.length_append, nb_len]; have := HX.out; simp only [Int.toNat_zero, List.drop_zero]; omega⟩, H1, H2⟩
  case round =>
    obtain ⟨i, zs, b, rfl, HI, HA, HN, HW, HK⟩ := hrel
    clear HS H1 H2 HX
    by_cases hi : i < (l.length : Int)
    · have d1 : decide (i < (l.length : Int)) = true := decide_eq_true hi
      have h0 := HI.out.2.1
      obtain ⟨ad, ea, x0⟩ := Kd.at_int (HL.out wr HK.out.below) i h0 hi
      cases ea
      have hq := HQ.out wr HK.out
      have p1 := eq_true h0
      have p2 := eq_true hi
      have HE := Aside0.mk (show lw int1 int2 (l.getD i.toNat (0 : Int) :: l.drop (i + 1).toNat) zs b = (ys, b2) from by rw [← drop_rd (0 : Int) h0 hi]; exact HA.out)
      have HM := Aside0.mk (sum_mem intN (0 : Int) h0 hi)
      have e1 : IntKind.i64.wrap (i + 1) = i + 1 := (i64_w _).trans (by have := LM.out; unfold wrap64; omega)
      have HI2 := Aside0.mk hi
      clear hi h0
      obtain ⟨Aw, cw, hgw, hrw⟩ := HW.out
      have qw := (blk_cell hgw 1).trans rfl
      clear hgw hrw
      cases b with
      | true =>
        go_wp2_with fail
        refine bodyPost_ret (v := .tuple #[]) (by simp [results, Try.results49, go_sem]) rfl ?_
        have h_ := HA.out
        rw [lw_bad, Prod.mk.injEq] at h_
        obtain ⟨rfl, rfl⟩ := h_
        exact ⟨rfl, HW.out, HK.out⟩
      | false =>
        go_wp2_with fail
        refine (wr_count q g base zs false (rd l i) wr HW.out HGE.out (Nat.le_trans HB.out HK.out.below.size) (by have := HN.out; omega) hq).mono ?_
        rintro e w2 ⟨rfl, h1, h2⟩
        have W2 := Aside0.mk h1
        have K2 := Aside0.mk (HK.out.trans h2)
        clear h1 h2 HW HK hq
        go_wp2_with fail
        go_roundg (l.length + 1 - (i + 1).toNat)
        case measure => have := HI.out; have := HI2.out; omega
        case rel => exact ⟨i + 1, _, _, by first | rfl | (rw [e1]), ⟨by have := HI.out; have := HI2.out; omega, by have := HI.out; omega, by have := HI2.out; omega⟩, ⟨by have h_ := HE.out; rw [lw, if_neg (by simp)] at h_; exact h_⟩, ⟨by have := HN.out; rw [HM.out] at this; have := int_len (l.getD i.toNat (0 : Int)); rw [List.length_append]; change zs.length + (int1 (l.getD i.toNat (0 : Int))).length + _ ≤ _; omega⟩, W2, K2⟩
    · have d1 : decide (i < (l.length : Int)) = false := decide_eq_false hi
      go_wp2_with fail
      refine bodyPost_end (v := .tuple #[]) (by simp [results, Try.results49, go_sem]) rfl ?_
      have h_ := HA.out
      rw [List.drop_eq_nil_of_le (by have := HI.out; omega)] at h_
      simp only [lw, Prod.mk.injEq] at h_
      obtain ⟨rfl, rfl⟩ := h_
      exact ⟨rfl, HW.out, HK.out⟩

end Go.Proofs.Ytncfofnikmfjbaa.PCi

namespace Go.Proofs.Ytncfofnikmfjbaa.PCi
open Go.RowKit Go.Proofs.YtncfofnikmfjbaaW.PrintWords Go.Proofs.YtncfofnikmfjbaaW.PrintLast Go.Proofs.YtncfofnikmfjbaaW.PrintMore
attribute [local go_sem] max2_int min2_int max_two min_two max_three min_three max_four min_four
set_option linter.unusedVariables false
set_option linter.unusedSimpArgs false

/-! ### codec.ParseRequest -/
def msg0 : Msg := ⟨0, 0, ⟨#[]⟩, 0, 0, 0, 0, 0, false, 0, 0, 0, .slice none 0 0, 0, 0, 0, ⟨#[]⟩, 0, 0, 0, 0, 0, 0, .slice none 0 0, .slice none 0 0, .slice none 0 0⟩
/-- A request's part of the cells. -/
def Msg.req (m : Msg) : Array Value := #[.int .i64 m.kind, .int .i64 m.id, .string m.topic, .int .i64 m.part, .int .i64 m.parts, .int .i64 m.seg, .int .i64 m.byt, .int .i64 m.age, .bool m.comp, .int .i64 m.delay, .int .i64 m.prod, .int .i64 m.seq, m.u1, .int .i64 m.off, .int .i64 m.max, .int .i64 m.time, .string m.group]
/-- One field of a request is read. -/
def rqF (f : Int) (s : Msg × List S98 × List Int × Bool) : Msg × List S98 × List Int × Bool :=
  if f = 0 then ({ s.1 with topic := (rdText s.2.2.1 s.2.2.2).1 }, s.2.1, (rdText s.2.2.1 s.2.2.2).2)
  else if f = 1 then ({ s.1 with group := (rdText s.2.2.1 s.2.2.2).1 }, s.2.1, (rdText s.2.2.1 s.2.2.2).2)
  else if f = 7 then ({ s.1 with comp := (rdNum 1 s.2.2.1 s.2.2.2).1 == 1 }, s.2.1, (rdNum 1 s.2.2.1 s.2.2.2).2.1, (rdNum 1 s.2.2.1 s.2.2.2).2.2 || decide (1 < (rdNum 1 s.2.2.1 s.2.2.2).1))
  else if f = 16 then (s.1, (rdList rdRec s.2.2.1 s.2.2.2).1, (rdList rdRec s.2.2.1 s.2.2.2).2)
  else (s.1.put 0 f (rdInt s.2.2.1 s.2.2.2).1, s.2.1, (rdInt s.2.2.1 s.2.2.2).2)
def rqFs (L : List Int) (s : Msg × List S98 × List Int × Bool) : Msg × List S98 × List Int × Bool := L.foldl (fun s f => rqF f s) s
theorem Msg.put_u1 (m : Msg) (f x : Int) (v : Value) : Msg.put { m with u1 := v } 0 f x = { Msg.put m 0 f x with u1 := v } := by
  unfold Msg.put
  by_cases h2 : f = 2
  · simp only [if_pos h2]
  simp only [if_neg h2]
  by_cases h3 : f = 3
  · simp only [if_pos h3]
  simp only [if_neg h3]
  by_cases h4 : f = 4
  · simp only [if_pos h4]
  simp only [if_neg h4]
  by_cases h5 : f = 5
  · simp only [if_pos h5]
  simp only [if_neg h5]
  by_cases h6 : f = 6
  · simp only [if_pos h6]
  simp only [if_neg h6]
  by_cases h8 : f = 8
  · simp only [if_pos h8]
  simp only [if_neg h8]
  by_cases h9 : f = 9
  · simp only [if_pos h9]
  simp only [if_neg h9]
  by_cases h10 : f = 10
  · simp only [if_pos h10]
  simp only [if_neg h10]
  by_cases h12 : f = 12
  · simp only [if_pos h12]
  simp only [if_neg h12]
  by_cases h13 : f = 13
  · simp only [if_pos h13]
  simp only [if_neg h13]
  by_cases h14 : f = 14
  · simp only [if_pos h14]
  simp only [if_neg h14]
  by_cases h15 : f = 15
  · simp only [if_pos h15]
  simp only [if_neg h15]
  simp only [if_true]
/-- Where the reading of a request stands. -/
def RqSt (u w W : World) (g h : Nat) (s : Msg × List S98 × List Int × Bool) : Prop := Rd u W g s.2.2.1 s.2.2.2 ∧ (∃ v, MsAt W h { s.1 with u1 := v } ∧ Kd.R k98 98 W u.heap.size (fun k => k ≠ g ∧ k ≠ h) v s.2.1) ∧ KeepM w W g h u.heap.size
set_option maxHeartbeats 4000000 in
theorem rq_field (u : World) (g h : Nat) (f : Int) (s : Msg × List S98 × List Int × Bool) (w0 w : World) (hs : RqSt u w0 w g h s) (hg : u.heap.size ≤ g) (hh : u.heap.size ≤ h) (hgh : g ≠ h) (hu : Below u.heap.size u w0) (hf17 : f ≠ 17) (hf18 : f ≠ 18) (hf19 : f ≠ 19) :
    Calls Try.prog 37 #[.pointer (some ⟨g, 0, none⟩), .pointer (some ⟨h, 0, none⟩), .int .i64 0, .int .i64 f] w fun e w' => e = .returned (.tuple #[]) ∧ RqSt u w0 w' g h (rqF f s) := by
  obtain ⟨m, rs, l, bad⟩ := s
  obtain ⟨hr, ⟨v, hm, hv⟩, hk⟩ := hs
  have hu2 := hu.trans hk.below
  unfold rqF
  by_cases h0 : f = 0
  · subst h0
    refine (rf_text0 u g h 0 l bad _ _ _ w hr hg hh hgh hu2 hm _ rfl).mono ?_
    rintro e w' ⟨rfl, h1, h2, h3⟩
    exact ⟨rfl, h1, ⟨v, h2, KeepM.R hv h3⟩, hk.trans h3⟩
  rw [if_neg h0]
  by_cases h1 : f = 1
  · subst h1
    refine (rf_text1 u g h 0 l bad _ _ _ w hr hg hh hgh hu2 hm _ rfl).mono ?_
    rintro e w' ⟨rfl, h1, h2, h3⟩
    exact ⟨rfl, h1, ⟨v, h2, KeepM.R hv h3⟩, hk.trans h3⟩
  rw [if_neg h1]
  by_cases h7 : f = 7
  · subst h7
    rw [if_pos rfl]
    cases hb : (rdNum 1 l bad).2.2 with
    | true =>
      refine (rf_flag_true u g h 0 l bad _ _ _ w hr hg hh hgh hu2 hm (rdNum 1 l bad).1 (rdNum 1 l bad).2.1 (by rw [← hb]) rfl rfl).mono ?_
      rintro e w' ⟨rfl, h1, h2, h3⟩
      exact ⟨rfl, by simpa [hb] using h1, ⟨v, h2, KeepM.R hv h3⟩, hk.trans h3⟩
    | false =>
      refine (rf_flag_false u g h 0 l bad _ _ _ w hr hg hh hgh hu2 hm (rdNum 1 l bad).1 (rdNum 1 l bad).2.1 (by rw [← hb]) rfl rfl).mono ?_
      rintro e w' ⟨rfl, h1, h2, h3⟩
      exact ⟨rfl, by simpa [hb] using h1, ⟨v, h2, KeepM.R hv h3⟩, hk.trans h3⟩
  rw [if_neg h7]
  by_cases h16 : f = 16
  · subst h16
    rw [if_pos rfl]
    refine (rf_recs u g h 0 l bad _ _ _ w hr hg hh hgh hu2 hm _ rfl).mono ?_
    rintro e w' ⟨rfl, h1, ⟨v2, h2, h4⟩, h3⟩
    exact ⟨rfl, h1, ⟨v2, h2, Kd.R_lower h4 hu2.size⟩, hk.trans h3⟩
  rw [if_neg h16]
  refine (rf_num u g h 0 f l bad _ _ _ w hr hg hh hgh hu2 hm h0 h1 h7 h16 hf17 hf18 hf19 _ rfl).mono ?_
  rintro e w' ⟨rfl, h1, h2, h3⟩
  rw [Msg.put_u1] at h2
  exact ⟨rfl, h1, ⟨v, h2, KeepM.R hv h3⟩, hk.trans h3⟩
/-- Bytes as a request. -/
def rqRaw (l : List Int) : Msg × List S98 × List Int × Bool := rqFs ((codec_fields.f 0 (rdNum 1 l false).1).getD []) ({ msg0 with kind := (rdNum 1 l false).1, id := (rdNum 4 (rdNum 1 l false).2.1 (rdNum 1 l false).2.2).1 }, [], (rdNum 4 (rdNum 1 l false).2.1 (rdNum 1 l false).2.2).2)
def rqBad (l : List Int) : Bool := !(codec_fields.f 0 (rdNum 1 l false).1).isSome || ((rqRaw l).2.2.2 || decide (0 < (rqRaw l).2.2.1.length))
def codec_ParseRequest.f (l : List Int) : Msg × List S98 × Int := if rqBad l = true then (msg0, [], 13) else ((rqRaw l).1, (rqRaw l).2.1, 0)

end Go.Proofs.Ytncfofnikmfjbaa.PCi

namespace Go.Proofs.Ytncfofnikmfjbaa.PCi
open Go.RowKit Go.Proofs.YtncfofnikmfjbaaW.PrintWords Go.Proofs.YtncfofnikmfjbaaW.PrintLast Go.Proofs.YtncfofnikmfjbaaW.PrintMore
attribute [local go_sem] max2_int min2_int max_two min_two max_three min_three max_four min_four
set_option linter.unusedVariables false
set_option linter.unusedSimpArgs false

theorem row_C {W : World} {q : Nat} {L : List Int} {T : TypeId} {fz : Nat × Nat} (hb : W.heap[q]? = some (.cells (L.map (Value.int .i64)).toArray T fz)) (hx : L.length ≤ 9223372036854775807) : Kd.C (Kd.int .i64) W (some ⟨q, 0, none⟩) L.length L := by
  refine Kd.C_of_reads (d := (0 : Int)) (h1 := fun _ => rfl) ⟨rfl, hx, fun _ => ⟨_, rfl, fun j hj => ?_⟩⟩
  have ha : (⟨q, 0, none⟩ : Addr).add j = ⟨q, j, none⟩ := by unfold Addr.add; split <;> simp_all
  rw [ha]
  unfold World.cell?
  simp only [hb]
  simp [List.getElem?_eq_getElem hj, List.getD_eq_getElem?_getD]
theorem RqSt.read {u w0 w w1 : World} {g h : Nat} {m : Msg} {rs : List S98} {l l1 : List Int} {b b1 : Bool} (hs : RqSt u w0 w g h (m, rs, l, b)) (hgh : g ≠ h) (h3 : Rd u w1 g l1 b1) (h4 : KeepR w w1 g u.heap.size) : RqSt u w0 w1 g h (m, rs, l1, b1) := by
  obtain ⟨_, ⟨v, hm, hv⟩, hk⟩ := hs
  exact ⟨h3, ⟨v, h4.keep _ _ (Ne.symm hgh) hm, KeepM.R hv (h4.M h)⟩, hk.trans (h4.M h)⟩
theorem RqSt.set {u w0 w : World} {g h : Nat} {m m2 : Msg} {rs : List S98} {l : List Int} {b : Bool} (hs : RqSt u w0 w g h (m, rs, l, b)) (hgh : g ≠ h) (hh : u.heap.size ≤ h) (j : Nat) (x : Value) (e : ∀ v, Array.setIfInBounds (Msg.cells { m with u1 := v }) j x = Msg.cells { m2 with u1 := v }) : RqSt u w0 (w.setCell ⟨h, j, none⟩ x) g h (m2, rs, l, b) := by
  obtain ⟨hr, ⟨v, hm, hv⟩, hk⟩ := hs
  exact ⟨hr.far hgh _ _, ⟨v, hm.set (e v), Kd.R_set hv hm (by decide) j x⟩, hk.setH hh _ _⟩
theorem RqSt.again {u w0 w : World} {g h : Nat} {s : Msg × List S98 × List Int × Bool} (hs : RqSt u w0 w g h s) : RqSt u w w g h s := ⟨hs.1, hs.2.1, KeepM.refl _ _ _ _⟩
theorem RqSt.cell {u w0 w : World} {g h : Nat} {s : Msg × List S98 × List Int × Bool} (hs : RqSt u w0 w g h s) (j : Nat) (hj : j ≠ 12) : w.cell? ⟨h, j, none⟩ = s.1.cells[j]? ∧ w.frozen? ⟨h, j, none⟩ = false := by
  obtain ⟨_, ⟨v, hm, _⟩, _⟩ := hs
  refine ⟨(hm.cell j).trans ?_, hm.free j⟩
  have : Msg.cells { s.1 with u1 := v } = s.1.cells.setIfInBounds 12 v := rfl
  rw [this, Array.getElem?_setIfInBounds_ne (Ne.symm hj)]
theorem wf64 {f : Int} (h : -9223372036854775808 ≤ f ∧ f < 9223372036854775808) : (Lit.int .i64 f).wf = true := by
  simp [Lit.wf, IntKind.min, IntKind.max, IntKind.signed, IntKind.bits]
  omega
theorem below_row {B g : Nat} {w0 w : World} (hb : Below B w0 w) (hg : B ≤ g) (cs : Array Value) : Below B w0 (w.setRow g cs) := ⟨hb.os, hb.tape, hb.output, by simpa using hb.size, fun k hk => (setRow_other w g k cs (by omega)).trans (hb.block k hk)⟩
theorem fields_mem {a k : Int} {L : List Int} (h : codec_fields.f a k = some L) : ∃ e ∈ wayT, e.1 = a ∧ e.2.1 = k ∧ e.2.2 = L := by
  unfold codec_fields.f at h
  obtain ⟨e, h1, h2⟩ := Option.map_eq_some_iff.1 h
  have h3 := List.find?_some h1
  simp only [decide_eq_true_eq] at h3
  exact ⟨e, List.mem_of_find?_eq_some h1, h3.1, h3.2, h2⟩
theorem fields_req {k : Int} {L : List Int} (h : codec_fields.f 0 k = some L) : ∀ x ∈ L, x ≠ 17 ∧ x ≠ 18 ∧ x ≠ 19 := by
  obtain ⟨e, h1, h2, _, rfl⟩ := fields_mem h
  exact (by decide : ∀ e ∈ wayT, e.1 = 0 → ∀ x ∈ e.2.2, x ≠ 17 ∧ x ≠ 18 ∧ x ≠ 19) e h1 h2
theorem fields_len {a k : Int} {L : List Int} (h : codec_fields.f a k = some L) : L.length ≤ 7 := by
  obtain ⟨e, h1, _, _, rfl⟩ := fields_mem h
  exact (by decide : ∀ e ∈ wayT, e.2.2.length ≤ 7) e h1
theorem fds_out {B : Nat} {a f : Int} {e : Ending} {w' : World} (hp : FdsPost B (codec_fields.f a f) e w') : ∃ ok A L, e = .returned (.tuple #[.slice A L.length L.length, .bool ok]) ∧ (codec_fields.f a f).isSome = ok ∧ (codec_fields.f a f).getD [] = L ∧ L.length ≤ 7 ∧ ∀ W', (∀ i o, B ≤ i → w'.heap[i]? = some o → W'.heap[i]? = some o) → Kd.C (Kd.int .i64) W' A L.length L := by
  rcases hp with ⟨h1, rfl⟩ | ⟨L, v, h1, rfl, g, rfl, h2, h3⟩
  · exact ⟨false, none, [], rfl, by rw [h1]; rfl, by rw [h1]; rfl, by simp, fun _ _ => Kd.C_nil _ _⟩
  · exact ⟨true, _, L, rfl, by rw [h1]; rfl, by rw [h1]; rfl, fields_len h1, fun W' hW => row_C (hW g _ h2 h3) (by have := fields_len h1; omega)⟩
theorem all26 : (#[.int .i64 0, .int .i64 0, .string ⟨#[]⟩, .int .i64 0, .int .i64 0, .int .i64 0, .int .i64 0, .int .i64 0, .bool false, .int .i64 0, .int .i64 0, .int .i64 0, .slice none 0 0, .int .i64 0, .int .i64 0, .int .i64 0, .string ⟨#[]⟩, .int .i64 0, .int .i64 0, .int .i64 0, .int .i64 0, .int .i64 0, .int .i64 0, .slice none 0 0, .slice none 0 0, .slice none 0 0] : Array Value).all (·.oneCell') = true := by rw [← Array.all_toList]; rfl
theorem all17 : (#[.int .i64 0, .int .i64 0, .string ⟨#[]⟩, .int .i64 0, .int .i64 0, .int .i64 0, .int .i64 0, .int .i64 0, .bool false, .int .i64 0, .int .i64 0, .int .i64 0, .slice none 0 0, .int .i64 0, .int .i64 0, .int .i64 0, .string ⟨#[]⟩] : Array Value).all (·.oneCell') = true := by rw [← Array.all_toList]; rfl
theorem info26 : (Try.prog.info? 67).map (·.size) = some 26 := by kernel_rfl
theorem info17 : (Try.prog.info? 26).map (·.size) = some 17 := by kernel_rfl
theorem req_all (m : Msg) {A : Option Addr} {n c : Nat} (h : m.u1 = .slice A n c) : m.req.all (·.oneCell') = true := by
  rw [← Array.all_toList]
  simp [Msg.req, h, Value.oneCell']
theorem pr_new (w : World) (A : Option Addr) (c : Nat) (l : List Int) (hr : Kd.C (Kd.int .u8) w A l.length l) (hc : l.length ≤ c) (hby : Bp.Bytes l) : Below w.heap.size w ((w.alloc (.cells #[.int .i64 0, .int .i64 0, .string ⟨#[]⟩, .int .i64 0, .int .i64 0, .int .i64 0, .int .i64 0, .int .i64 0, .bool false, .int .i64 0, .int .i64 0, .int .i64 0, .slice none 0 0, .int .i64 0, .int .i64 0, .int .i64 0, .string ⟨#[]⟩] 26)).alloc (.cells #[.slice A l.length c, .bool false] 88)) ∧ ((w.alloc (.cells #[.int .i64 0, .int .i64 0, .string ⟨#[]⟩, .int .i64 0, .int .i64 0, .int .i64 0, .int .i64 0, .int .i64 0, .bool false, .int .i64 0, .int .i64 0, .int .i64 0, .slice none 0 0, .int .i64 0, .int .i64 0, .int .i64 0, .string ⟨#[]⟩] 26)).alloc (.cells #[.slice A l.length c, .bool false] 88)).heap.size = w.heap.size + 2 ∧ ((w.alloc (.cells #[.int .i64 0, .int .i64 0, .string ⟨#[]⟩, .int .i64 0, .int .i64 0, .int .i64 0, .int .i64 0, .int .i64 0, .bool false, .int .i64 0, .int .i64 0, .int .i64 0, .slice none 0 0, .int .i64 0, .int .i64 0, .int .i64 0, .string ⟨#[]⟩] 26)).alloc (.cells #[.slice A l.length c, .bool false] 88)).heap[w.heap.size]? = some (.cells #[.int .i64 0, .int .i64 0, .string ⟨#[]⟩, .int .i64 0, .int .i64 0, .int .i64 0, .int .i64 0, .int .i64 0, .bool false, .int .i64 0, .int .i64 0, .int .i64 0, .slice none 0 0, .int .i64 0, .int .i64 0, .int .i64 0, .string ⟨#[]⟩] 26 (0, 0)) ∧ Rd w ((w.alloc (.cells #[.int .i64 0, .int .i64 0, .string ⟨#[]⟩, .int .i64 0, .int .i64 0, .int .i64 0, .int .i64 0, .int .i64 0, .bool false, .int .i64 0, .int .i64 0, .int .i64 0, .slice none 0 0, .int .i64 0, .int .i64 0, .int .i64 0, .string ⟨#[]⟩] 26)).alloc (.cells #[.slice A l.length c, .bool false] 88)) (w.heap.size + 1) l false := by
  refine ⟨below_alloc (below_alloc (Below.refl _ _) _) _, by simp, blk_alloc (heap_alloc_new w _) _, A, c, ?_, hc, hr, hby⟩
  have := heap_alloc_new (w.alloc (.cells #[.int .i64 0, .int .i64 0, .string ⟨#[]⟩, .int .i64 0, .int .i64 0, .int .i64 0, .int .i64 0, .int .i64 0, .bool false, .int .i64 0, .int .i64 0, .int .i64 0, .slice none 0 0, .int .i64 0, .int .i64 0, .int .i64 0, .string ⟨#[]⟩] 26)) (.cells #[.slice A l.length c, .bool false] 88)
  simpa using this
set_option maxHeartbeats 4000000 in
set_option maxRecDepth 100000 in
theorem codec_ParseRequest.calls (A : Option Addr) (c : Nat) (l : List Int) (w : World) (hr : Kd.C (Kd.int .u8) w A l.length l) (hc : l.length ≤ c) (hby : Bp.Bytes l) :
    Calls Try.prog 16 #[.slice A l.length c] w fun e w' => (∃ v, e = .returned (.tuple #[.agg (Msg.req { (codec_ParseRequest.f l).1 with u1 := v }), .int .i64 (codec_ParseRequest.f l).2.2]) ∧ Kd.R k98 98 w' w.heap.size (fun _ => True) v (codec_ParseRequest.f l).2.1) ∧ Below w.heap.size w w' := by
  obtain ⟨F_, hF_⟩ : ∃ F, F = codec_ParseRequest.f l := ⟨_, rfl⟩
  rw [← hF_]
  have HF_ := Aside0.mk hF_
  obtain ⟨⟨f, l1, b1⟩, hn1⟩ : ∃ x, x = rdNum 1 l false := ⟨_, rfl⟩
  obtain ⟨⟨i2, l2, b2⟩, hn2⟩ : ∃ x, x = rdNum 4 l1 b1 := ⟨_, rfl⟩
  have hf0 := rdNum_le (n := 1) (bad := false) hby (by decide)
  rw [← hn1] at hf0
  have HF0 := Aside0.mk (show 0 ≤ f ∧ f < 256 from hf0)
  have HN1 := Aside0.mk hn1.symm
  have HN2 := Aside0.mk hn2.symm
  have hs : ∀ s, Rd w s (w.heap.size + 1) l false → True := fun _ _ => trivial
  clear hs
  have HR := Aside0.mk hr
  have HC := Aside0.mk hc
  have HBY := Aside0.mk hby
  clear hr hc hby hF_ hf0 hn1 hn2
  go_enter Try.func16, Try.ntmps16
  go_upto_region 2 with (fail)
  (try simp only [Act.put, List.setIfInBounds_toArray, List.set_cons_zero, List.set_cons_succ])
  have P0 := Aside0.mk (pr_new w A c l HR.out HC.out HBY.out)
  generalize ((w.alloc (.cells #[.int .i64 0, .int .i64 0, .string ⟨#[]⟩, .int .i64 0, .int .i64 0, .int .i64 0, .int .i64 0, .int .i64 0, .bool false, .int .i64 0, .int .i64 0, .int .i64 0, .slice none 0 0, .int .i64 0, .int .i64 0, .int .i64 0, .string ⟨#[]⟩] 26)).alloc (.cells #[.slice A l.length c, .bool false] 88)) = W0 at P0 ⊢
  rw [show w.heap.size + 1 = w.heap.size + 1 from rfl]
  go_wp2_with (refine wpList_store_row rfl 67 (.tmp 5) (.tmp 13) rfl W0.heap.size #[.int .i64 0, .int .i64 0, .string ⟨#[]⟩, .int .i64 0, .int .i64 0, .int .i64 0, .int .i64 0, .int .i64 0, .bool false, .int .i64 0, .int .i64 0, .int .i64 0, .slice none 0 0, .int .i64 0, .int .i64 0, .int .i64 0, .string ⟨#[]⟩, .int .i64 0, .int .i64 0, .int .i64 0, .int .i64 0, .int .i64 0, .int .i64 0, .slice none 0 0, .slice none 0 0, .slice none 0 0] rfl rfl 67 #[.int .i64 0, .int .i64 0, .string ⟨#[]⟩, .int .i64 0, .int .i64 0, .int .i64 0, .int .i64 0, .int .i64 0, .bool false, .int .i64 0, .int .i64 0, .int .i64 0, .slice none 0 0, .int .i64 0, .int .i64 0, .int .i64 0, .string ⟨#[]⟩, .int .i64 0, .int .i64 0, .int .i64 0, .int .i64 0, .int .i64 0, .int .i64 0, .slice none 0 0, .slice none 0 0, .slice none 0 0] (heap_alloc_new W0 _) info26 rfl all26 ?_; rw [setRow_self _ _ _ _ _ (heap_alloc_new W0 _)])
  have S2 := Aside0.mk (show RqSt w (W0.alloc (.cells #[.int .i64 0, .int .i64 0, .string ⟨#[]⟩, .int .i64 0, .int .i64 0, .int .i64 0, .int .i64 0, .int .i64 0, .bool false, .int .i64 0, .int .i64 0, .int .i64 0, .slice none 0 0, .int .i64 0, .int .i64 0, .int .i64 0, .string ⟨#[]⟩, .int .i64 0, .int .i64 0, .int .i64 0, .int .i64 0, .int .i64 0, .int .i64 0, .slice none 0 0, .slice none 0 0, .slice none 0 0] 67)) (W0.alloc (.cells #[.int .i64 0, .int .i64 0, .string ⟨#[]⟩, .int .i64 0, .int .i64 0, .int .i64 0, .int .i64 0, .int .i64 0, .bool false, .int .i64 0, .int .i64 0, .int .i64 0, .slice none 0 0, .int .i64 0, .int .i64 0, .int .i64 0, .string ⟨#[]⟩, .int .i64 0, .int .i64 0, .int .i64 0, .int .i64 0, .int .i64 0, .int .i64 0, .slice none 0 0, .slice none 0 0, .slice none 0 0] 67)) (w.heap.size + 1) (w.heap.size + 2) (msg0, [], l, false) from ⟨P0.out.2.2.2.below (below_alloc (Below.refl _ _) _), ⟨.slice none 0 0, by rw [← P0.out.2.1]; exact heap_alloc_new W0 _, Kd.R_nil _ _ _ _ _⟩, KeepM.refl _ _ _ _⟩)
  have HB2 := Aside0.mk (show Below w.heap.size w (W0.alloc (.cells #[.int .i64 0, .int .i64 0, .string ⟨#[]⟩, .int .i64 0, .int .i64 0, .int .i64 0, .int .i64 0, .int .i64 0, .bool false, .int .i64 0, .int .i64 0, .int .i64 0, .slice none 0 0, .int .i64 0, .int .i64 0, .int .i64 0, .string ⟨#[]⟩, .int .i64 0, .int .i64 0, .int .i64 0, .int .i64 0, .int .i64 0, .int .i64 0, .slice none 0 0, .slice none 0 0, .slice none 0 0] 67)) from P0.out.1.alloc P0.out.1.size _)
  have RT2 := Aside0.mk (show (W0.alloc (.cells #[.int .i64 0, .int .i64 0, .string ⟨#[]⟩, .int .i64 0, .int .i64 0, .int .i64 0, .int .i64 0, .int .i64 0, .bool false, .int .i64 0, .int .i64 0, .int .i64 0, .slice none 0 0, .int .i64 0, .int .i64 0, .int .i64 0, .string ⟨#[]⟩, .int .i64 0, .int .i64 0, .int .i64 0, .int .i64 0, .int .i64 0, .int .i64 0, .slice none 0 0, .slice none 0 0, .slice none 0 0] 67)).heap[w.heap.size]? = some (.cells #[.int .i64 0, .int .i64 0, .string ⟨#[]⟩, .int .i64 0, .int .i64 0, .int .i64 0, .int .i64 0, .int .i64 0, .bool false, .int .i64 0, .int .i64 0, .int .i64 0, .slice none 0 0, .int .i64 0, .int .i64 0, .int .i64 0, .string ⟨#[]⟩] 26 (0, 0)) from blk_alloc P0.out.2.2.1 _)
  have HGE := Aside0.mk (show w.heap.size ≤ w.heap.size + 1 by omega)
  have HH := Aside0.mk (show w.heap.size ≤ w.heap.size + 2 by omega)
  have HGH := Aside0.mk (show w.heap.size + 1 ≠ w.heap.size + 2 by omega)
  rw [P0.out.2.1]
  generalize W0.alloc (.cells #[.int .i64 0, .int .i64 0, .string ⟨#[]⟩, .int .i64 0, .int .i64 0, .int .i64 0, .int .i64 0, .int .i64 0, .bool false, .int .i64 0, .int .i64 0, .int .i64 0, .slice none 0 0, .int .i64 0, .int .i64 0, .int .i64 0, .string ⟨#[]⟩, .int .i64 0, .int .i64 0, .int .i64 0, .int .i64 0, .int .i64 0, .int .i64 0, .slice none 0 0, .slice none 0 0, .slice none 0 0] 67) = W2 at S2 HB2 RT2 ⊢
  clear P0
  refine (rd_number w (w.heap.size + 1) l false 1 f l1 b1 W2 S2.out.1 HGE.out HB2.out (by decide) (by decide) HN1.out).mono ?_
  rintro e w3 ⟨rfl, h3, h4⟩
  have S3 := Aside0.mk (S2.out.read HGH.out h3 h4)
  clear h3 h4 S2
  obtain ⟨q0, z0⟩ := S3.out.cell 0 (by decide)
  change w3.cell? _ = some (.int .i64 0) at q0
  go_upto_region 4 with (fail)
  (try simp only [Act.put, List.setIfInBounds_toArray, List.set_cons_zero, List.set_cons_succ])
  have S4 := Aside0.mk (S3.out.set (m2 := { msg0 with kind := f }) HGH.out HH.out 0 (.int .i64 f) (fun _ => rfl))
  generalize World.setCell w3 ⟨w.heap.size + 2, 0, none⟩ (.int .i64 f) = w4 at S4 ⊢
  clear S3 q0 z0
  go_wp2_with fail
  refine (rd_number w (w.heap.size + 1) l1 b1 4 i2 l2 b2 w4 S4.out.1 HGE.out (HB2.out.trans S4.out.2.2.below) (by decide) (by decide) HN2.out).mono ?_
  rintro e w5 ⟨rfl, h3, h4⟩
  have S5 := Aside0.mk (S4.out.read HGH.out h3 h4)
  clear h3 h4 S4
  obtain ⟨q1, z1⟩ := S5.out.cell 1 (by decide)
  change w5.cell? _ = some (.int .i64 0) at q1
  go_upto_region 5 with (fail)
  (try simp only [Act.put, List.setIfInBounds_toArray, List.set_cons_zero, List.set_cons_succ])
  have S6 := Aside0.mk (S5.out.set (m2 := { msg0 with kind := f, id := i2 }) HGH.out HH.out 1 (.int .i64 i2) (fun _ => rfl))
  generalize World.setCell w5 ⟨w.heap.size + 2, 1, none⟩ (.int .i64 i2) = w6 at S6 ⊢
  clear S5 q1 z1
  obtain ⟨q0, z0⟩ := S6.out.cell 0 (by decide)
  change w6.cell? _ = some (.int .i64 f) at q0
  go_wp2_with fail
  refine (codec_fields.calls 0 f w6 (by decide) (wf64 (by have := HF0.out; omega))).mono ?_
  rintro e w7 ⟨hp, hb⟩
  have S7 := Aside0.mk (S6.out.read HGH.out (S6.out.1.below hb) (KeepR.of_below hb (Nat.le_trans HB2.out.size S6.out.2.2.below.size)))
  obtain ⟨ok, Al, L, rfl, hok, hL, hL7, hC⟩ := fds_out hp
  have HOK := Aside0.mk hok
  have HLL := Aside0.mk hL
  have HL7 := Aside0.mk hL7
  have RT7 := Aside0.mk ((S7.out.2.2.keep _ _ (by omega) (by omega) RT2.out))
  have HB7 := Aside0.mk (HB2.out.trans S7.out.2.2.below)
  have HCL := Aside0.mk (show ∀ W', KeepM w7 W' (w.heap.size + 1) (w.heap.size + 2) w.heap.size → Kd.C (Kd.int .i64) W' Al L.length L from fun W' hW => hC W' (fun i o hi ho => hW.keep i o (by have := S6.out.1.lt; omega) (by obtain ⟨_, ⟨_, hm_, _⟩, _⟩ := S6.out; have := blk_lt hm_; omega) ho))
  have HX := Aside0.mk (show ∀ x ∈ L, x ≠ 17 ∧ x ≠ 18 ∧ x ≠ 19 from fun x hx => by cases hq : codec_fields.f 0 f with | none => rw [hq] at hL; subst hL; cases hx | some L' => rw [hq] at hL; subst hL; exact fields_req hq x hx)
  have S8 := Aside0.mk S7.out.again
  clear hp q0 z0 hok hL hL7 hC hb S6 S7 RT2 HB2
  obtain ⟨S_, hS_⟩ : ∃ s, s = rqFs L ({ msg0 with kind := f, id := i2 }, [], l2, b2) := ⟨_, rfl⟩
  have HS_ := Aside0.mk hS_
  clear hS_
  go_wp2_with fail
  go_loopg [31] (L.length + 1) (fun kq v31 w' => ∃ (i : Int) (s : Msg × List S98 × List Int × Bool), v31 = .int .i64 i ∧ Aside0 (kq + i.toNat = L.length + 1 ∧ 0 ≤ i ∧ i ≤ (L.length : Int)) ∧ Aside0 (rqFs (L.drop i.toNat) s = S_) ∧ Aside0 (RqSt w w7 w' (w.heap.size + 1) (w.heap.size + 2) s))
  case atStart => exact ⟨0, _, rfl, ⟨by simp, by omega, by omega⟩, ⟨HS_.out.symm⟩, S8⟩
  case round =>
    obtain ⟨i, s, rfl, HI, HA, HQ⟩ := hrel
    by_cases hi : i < (L.length : Int)
    · have d1 : decide (i < (L.length : Int)) = true := decide_eq_true hi
      have h0 := HI.out.2.1
      obtain ⟨ad, ea, x0⟩ := Kd.at_int (HCL.out wr HQ.out.2.2) i h0 hi
      cases ea
      have p1 := eq_true h0
      have p2 := eq_true hi
      have HE := Aside0.mk (show rqFs (rd L i :: L.drop (i + 1).toNat) s = S_ from by have h_ := drop_rd (0 : Int) h0 hi; rw [← HA.out, h_]; rfl)
      have e1 : IntKind.i64.wrap (i + 1) = i + 1 := (i64_w _).trans (by have := HL7.out; unfold wrap64; omega)
      have hx := HX.out (rd L i) (List.mem_of_mem_drop (i := i.toNat) (by have h_ := drop_rd (0 : Int) h0 hi; rw [h_]; exact List.mem_cons_self))
      have HX2 := Aside0.mk hx
      have HI2 := Aside0.mk hi
      clear hx hi h0
      go_wp2_with fail
      refine (rq_field w (w.heap.size + 1) (w.heap.size + 2) (rd L i) s w7 wr HQ.out HGE.out HH.out HGH.out HB7.out HX2.out.1 HX2.out.2.1 HX2.out.2.2).mono ?_
      rintro e w9 ⟨rfl, h3⟩
      have Q2 := Aside0.mk h3
      clear h3 HQ x0
      go_wp2_with fail
      go_roundg (L.length + 1 - (i + 1).toNat)
      case measure => have := HI.out; have := HI2.out; omega
      case rel => exact ⟨i + 1, rqF (rd L i) s, by first | rfl | (rw [e1]), ⟨by have := HI.out; have := HI2.out; omega, by have := HI.out; omega, by have := HI2.out; omega⟩, ⟨HE.out⟩, Q2⟩
    · have d1 : decide (i < (L.length : Int)) = false := decide_eq_false hi
      have hs := HA.out
      rw [List.drop_eq_nil_of_le (by have := HI.out; omega)] at hs
      change s = S_ at hs
      subst hs
      have hraw : rqRaw l = s := by unfold rqRaw; rw [HN1.out]; dsimp only; rw [HN2.out, HLL.out]; exact HS_.out.symm
      have hbad : rqBad l = (!ok || (s.2.2.2 || decide (0 < s.2.2.1.length))) := by unfold rqBad; rw [HN1.out, HOK.out, hraw]
      have hF := HF_.out
      unfold codec_ParseRequest.f at hF
      rw [hraw] at hF
      obtain ⟨m, rs, lx, bx⟩ := s
      dsimp only at hF hbad
      obtain ⟨eb, heb⟩ : ∃ b, b = rqBad l := ⟨_, rfl⟩
      rw [← heb] at hF hbad
      have HEB := Aside0.mk hbad
      have HFF := Aside0.mk hF
      have RT9 := Aside0.mk (HQ.out.2.2.keep _ _ (by omega) (by omega) RT7.out)
      have HB9 := Aside0.mk (HB7.out.trans HQ.out.2.2.below)
      obtain ⟨v, hm, hv⟩ := HQ.out.2.1
      obtain ⟨Av, cv, ev⟩ := Kd.R_slice hv
      subst ev
      obtain ⟨Ax, cx, hgx, _⟩ := HQ.out.1
      have q0 : wr.cell? ⟨w.heap.size + 1, 0, none⟩ = some (.slice Ax lx.length cx) := (blk_cell hgx 0).trans rfl
      have q1 : wr.cell? ⟨w.heap.size + 1, 1, none⟩ = some (.bool bx) := (blk_cell hgx 1).trans rfl
      have HM := Aside0.mk hm
      have HV := Aside0.mk (Kd.R_mono hv (ok' := fun _ => True) (fun _ _ => trivial))
      clear hraw hbad hF heb hm hv hgx hi HA HS_ HX HCL
      go_upto_region 11 with (fail)
      (try simp only [Act.put, List.setIfInBounds_toArray, List.set_cons_zero, List.set_cons_succ])
      go_cut [7, 54] (fun v7 v54 wc => v54 = .bool eb ∧ wc = wr)
      case first =>
        by_cases hl0 : 0 < (lx.length : Int)
        · have d2 : decide (0 < (lx.length : Int)) = true := decide_eq_true hl0
          have d3 : decide (0 < lx.length) = true := decide_eq_true (by omega)
          clear hl0
          go_wp2
          all_goals
            go_meet
            case rel => exact ⟨congrArg Value.bool (by rw [HEB.out]; simp [*]), rfl⟩
        · have d2 : decide (0 < (lx.length : Int)) = false := decide_eq_false hl0
          have d3 : decide (0 < lx.length) = false := decide_eq_false (by omega)
          clear hl0
          go_wp2
          all_goals
            go_meet
            case rel => exact ⟨congrArg Value.bool (by rw [HEB.out]; simp [*]), rfl⟩
      obtain ⟨rfl, rfl⟩ := hcut
      clear q0 q1
      cases eb with
      | true =>
        have hF := HFF.out
        rw [if_pos rfl] at hF
        subst hF
        go_wp2_with (refine wpList_store_row rfl 26 (.tmp 2) (.tmp 55) rfl w.heap.size #[.int .i64 0, .int .i64 0, .string ⟨#[]⟩, .int .i64 0, .int .i64 0, .int .i64 0, .int .i64 0, .int .i64 0, .bool false, .int .i64 0, .int .i64 0, .int .i64 0, .slice none 0 0, .int .i64 0, .int .i64 0, .int .i64 0, .string ⟨#[]⟩] rfl rfl 26 #[.int .i64 0, .int .i64 0, .string ⟨#[]⟩, .int .i64 0, .int .i64 0, .int .i64 0, .int .i64 0, .int .i64 0, .bool false, .int .i64 0, .int .i64 0, .int .i64 0, .slice none 0 0, .int .i64 0, .int .i64 0, .int .i64 0, .string ⟨#[]⟩] RT9.out info17 rfl all17 ?_; rw [setRow_self _ _ _ _ _ RT9.out])
        refine bodyPost_ret (results_ct rfl _ _ w.heap.size 26 #[.int .i64 0, .int .i64 0, .string ⟨#[]⟩, .int .i64 0, .int .i64 0, .int .i64 0, .int .i64 0, .int .i64 0, .bool false, .int .i64 0, .int .i64 0, .int .i64 0, .slice none 0 0, .int .i64 0, .int .i64 0, .int .i64 0, .string ⟨#[]⟩] (0, 0) _ rfl RT9.out Try.underlying26 rfl (by kernel_rfl)) rfl ?_
        exact ⟨⟨.slice none 0 0, rfl, Kd.R_nil _ _ _ _ _⟩, HB9.out⟩
      | false =>
        have hF := HFF.out
        rw [if_neg (by simp)] at hF
        subst hF
        have y0 : wc.cell? ⟨w.heap.size + 2, 0, none⟩ = some (.int .i64 m.kind) := (HM.out.cell 0).trans rfl
        have y1 : wc.cell? ⟨w.heap.size + 2, 1, none⟩ = some (.int .i64 m.id) := (HM.out.cell 1).trans rfl
        have y2 : wc.cell? ⟨w.heap.size + 2, 2, none⟩ = some (.string m.topic) := (HM.out.cell 2).trans rfl
        have y3 : wc.cell? ⟨w.heap.size + 2, 3, none⟩ = some (.int .i64 m.part) := (HM.out.cell 3).trans rfl
        have y4 : wc.cell? ⟨w.heap.size + 2, 4, none⟩ = some (.int .i64 m.parts) := (HM.out.cell 4).trans rfl
        have y5 : wc.cell? ⟨w.heap.size + 2, 5, none⟩ = some (.int .i64 m.seg) := (HM.out.cell 5).trans rfl
        have y6 : wc.cell? ⟨w.heap.size + 2, 6, none⟩ = some (.int .i64 m.byt) := (HM.out.cell 6).trans rfl
        have y7 : wc.cell? ⟨w.heap.size + 2, 7, none⟩ = some (.int .i64 m.age) := (HM.out.cell 7).trans rfl
        have y8 : wc.cell? ⟨w.heap.size + 2, 8, none⟩ = some (.bool m.comp) := (HM.out.cell 8).trans rfl
        have y9 : wc.cell? ⟨w.heap.size + 2, 9, none⟩ = some (.int .i64 m.delay) := (HM.out.cell 9).trans rfl
        have y10 : wc.cell? ⟨w.heap.size + 2, 10, none⟩ = some (.int .i64 m.prod) := (HM.out.cell 10).trans rfl
        have y11 : wc.cell? ⟨w.heap.size + 2, 11, none⟩ = some (.int .i64 m.seq) := (HM.out.cell 11).trans rfl
        have y12 : wc.cell? ⟨w.heap.size + 2, 12, none⟩ = some (.slice Av rs.length cv) := (HM.out.cell 12).trans rfl
        have y13 : wc.cell? ⟨w.heap.size + 2, 13, none⟩ = some (.int .i64 m.off) := (HM.out.cell 13).trans rfl
        have y14 : wc.cell? ⟨w.heap.size + 2, 14, none⟩ = some (.int .i64 m.max) := (HM.out.cell 14).trans rfl
        have y15 : wc.cell? ⟨w.heap.size + 2, 15, none⟩ = some (.int .i64 m.time) := (HM.out.cell 15).trans rfl
        have y16 : wc.cell? ⟨w.heap.size + 2, 16, none⟩ = some (.string m.group) := (HM.out.cell 16).trans rfl
        go_wp2_with (refine wpList_store_row rfl 26 (.tmp 2) (.tmp 57) rfl w.heap.size #[.int .i64 m.kind, .int .i64 m.id, .string m.topic, .int .i64 m.part, .int .i64 m.parts, .int .i64 m.seg, .int .i64 m.byt, .int .i64 m.age, .bool m.comp, .int .i64 m.delay, .int .i64 m.prod, .int .i64 m.seq, .slice Av rs.length cv, .int .i64 m.off, .int .i64 m.max, .int .i64 m.time, .string m.group] rfl rfl 26 #[.int .i64 0, .int .i64 0, .string ⟨#[]⟩, .int .i64 0, .int .i64 0, .int .i64 0, .int .i64 0, .int .i64 0, .bool false, .int .i64 0, .int .i64 0, .int .i64 0, .slice none 0 0, .int .i64 0, .int .i64 0, .int .i64 0, .string ⟨#[]⟩] RT9.out info17 rfl (req_all { m with u1 := .slice Av rs.length cv } rfl) ?_)
        refine bodyPost_ret (results_ct rfl _ _ w.heap.size 26 #[.int .i64 m.kind, .int .i64 m.id, .string m.topic, .int .i64 m.part, .int .i64 m.parts, .int .i64 m.seg, .int .i64 m.byt, .int .i64 m.age, .bool m.comp, .int .i64 m.delay, .int .i64 m.prod, .int .i64 m.seq, .slice Av rs.length cv, .int .i64 m.off, .int .i64 m.max, .int .i64 m.time, .string m.group] (0, 0) _ rfl (setRow_heap _ _ _ _ _ _ RT9.out) Try.underlying26 rfl (by kernel_rfl)) rfl ?_
        exact ⟨⟨.slice Av rs.length cv, rfl, Kd.R_mono (Kd.R_move (Kd.R_bound (Kd.R_types HV.out RT9.out (by decide))) (fun k hk => setRow_other _ _ _ _ hk.1.2)) (fun _ _ => trivial)⟩, below_row HB9.out (Nat.le_refl _) _⟩

end Go.Proofs.Ytncfofnikmfjbaa.PCi
