import Derived.Test.YtncfofnikmfjbaaQCfPen
import Derived.Outline
import Derived.StillTailTactics
import Derived.RegionTactic
import Derived.BigRegion
import Derived.Lib.BufferWrite
namespace Go.Proofs.Ytncfofnikmfjbaa.PCi
open Go.RowKit Go.Proofs.YtncfofnikmfjbaaW.PrintWords Go.Proofs.YtncfofnikmfjbaaW.PrintLast Go.Proofs.YtncfofnikmfjbaaW.PrintMore
attribute [local go_sem] max2_int min2_int max_two min_two max_three min_three max_four min_four
set_option linter.unusedVariables false
set_option linter.unusedSimpArgs false

/-- A pen's cells as they are, two blocks. -/
def LySt (w y : World) (g base q1 q2 : Nat) (A : Option Addr) (n c : Nat) (bad : Bool) (c1 : Array Value) (t1 : Nat) (c2 : Array Value) (t2 : Nat) : Prop := y.heap[g]? = some (.cells #[.slice A n c, .bool bad] 82 (0, 0)) ∧ y.heap[q1]? = some (.cells c1 t1 (0, 0)) ∧ y.heap[q2]? = some (.cells c2 t2 (0, 0)) ∧ KeepW w y g base
section
variable {w y y2 : World} {g base q1 q2 : Nat} {A : Option Addr} {n c : Nat} {bad : Bool} {c1 : Array Value} {t1 : Nat} {c2 : Array Value} {t2 : Nat}
theorem LySt.drewN (h : LySt w y g base q1 q2 A n c bad c1 t1 c2 t2) (k : Nat) : LySt w (y.drewN k) g base q1 q2 A n c bad c1 t1 c2 t2 := ⟨h.1, h.2.1, h.2.2.1, h.2.2.2.drewN k⟩
theorem LySt.call (h : LySt w y g base q1 q2 A n c bad c1 t1 c2 t2) (hg : y2.heap[g]? = some (.cells #[.slice A n c, .bool bad] 82 (0, 0))) (hk : KeepW y y2 g base) (h1 : q1 ≠ g) (h2 : q2 ≠ g) (e1 : t1 ≠ 5) (e2 : t2 ≠ 5) : LySt w y2 g base q1 q2 A n c bad c1 t1 c2 t2 := ⟨hg, hk.blk h.2.1 h1 e1, hk.blk h.2.2.1 h2 e2, h.2.2.2.trans hk⟩
end
/-- A pen, a record's copy at block q. -/
def PpSt (w y : World) (g q base : Nat) (xs : List Int) (bad : Bool) (hk : Bool) (key : ByteArray) (hv : Bool) (val : ByteArray) (t o : Int) : Prop := Pn y g base xs bad ∧ y.heap[q]? = some (.cells #[.bool hk, .string key, .bool hv, .string val, .int .i64 t, .int .i64 o] 98 (0, 0)) ∧ KeepW w y g base
section
variable {w y y2 : World} {g q base : Nat} {xs ys : List Int} {bad b2 : Bool} {hk : Bool} {key : ByteArray} {hv : Bool} {val : ByteArray} {t o : Int}
theorem PpSt.cells (h : PpSt w y g q base xs bad hk key hv val t o) : y.cell? ⟨q, 0, none⟩ = some (.bool hk) ∧ y.cell? ⟨q, 1, none⟩ = some (.string key) ∧ y.cell? ⟨q, 2, none⟩ = some (.bool hv) ∧ y.cell? ⟨q, 3, none⟩ = some (.string val) ∧ y.cell? ⟨q, 4, none⟩ = some (.int .i64 t) ∧ y.cell? ⟨q, 5, none⟩ = some (.int .i64 o) :=
  ⟨(blk_cell h.2.1 0).trans rfl, (blk_cell h.2.1 1).trans rfl, (blk_cell h.2.1 2).trans rfl, (blk_cell h.2.1 3).trans rfl, (blk_cell h.2.1 4).trans rfl, (blk_cell h.2.1 5).trans rfl⟩
theorem PpSt.step (h : PpSt w y g q base xs bad hk key hv val t o) (hq : q ≠ g) (hw : Pn y2 g base ys b2) (hk2 : KeepW y y2 g base) : PpSt w y2 g q base ys b2 hk key hv val t o :=
  ⟨hw, hk2.blk h.2.1 hq (by decide), h.2.2.trans hk2⟩
theorem PpSt.turn2 (h : PpSt w y g q base xs bad hk key hv val t o) (hq : q ≠ g) (hb : base ≤ g) (b : Bool) (e : b = b2) : PpSt w (y.setCell ⟨g, 1, none⟩ (.bool b)) g q base xs b2 hk key hv val t o := e ▸ h.step hq (h.1.bad b) ((KeepW.refl _ _ _).set hb 1 _)
theorem PpSt.stay (h : PpSt w y g q base xs bad hk key hv val t o) (e : bad = b2) : PpSt w y g q base xs b2 hk key hv val t o := e ▸ h
theorem PpSt.setB {A A2 : Option Addr} {n c c2 : Nat} (h1 : y.heap[g]? = some (.cells #[.slice A n c, .bool bad] 82 (0, 0))) (h2 : y.heap[q]? = some (.cells #[.bool hk, .string key, .bool hv, .string val, .int .i64 t, .int .i64 o] 98 (0, 0))) (h3 : KeepW w y g base) (hr : Kd.R (Kd.int .u8) 5 y base (fun _ => True) (.slice A2 xs.length c2) xs) (hq : q ≠ g) (hg : base ≤ g) : PpSt w (y.setCell ⟨g, 0, none⟩ (.slice A2 xs.length c2)) g q base xs bad hk key hv val t o :=
  ⟨Pn.mk' (by simpa using blk_set h1 0 (.slice A2 xs.length c2)) (Kd.R_set hr h1 (by decide) 0 _), (Below.heap_setCell _ ⟨g, 0, none⟩ _ q hq).trans h2, h3.set hg 0 _⟩
end
theorem PpSt.new {w1 w : World} {g base : Nat} {xs : List Int} {bad : Bool} (hk1 : KeepW w1 w g base) (h : Pn w g base xs bad) (hb : base ≤ w.heap.size) (hk : Bool) (key : ByteArray) (hv : Bool) (val : ByteArray) (t o : Int) : PpSt w1 (w.alloc (.cells #[.bool hk, .string key, .bool hv, .string val, .int .i64 t, .int .i64 o] 98)) g w.heap.size base xs bad hk key hv val t o :=
  ⟨h.below (below_alloc (Below.refl _ _) _), heap_alloc_new w _, hk1.trans (KeepW.of_below (below_alloc (Below.refl _ _) _) hb)⟩

theorem lw_to {α : Type} {one : α → List Int} {ob : α → Bool} {x : α} {l : List α} {xs ys : List Int} {c : Bool} {r : List Int × Bool} (h : lw one ob (x :: l) xs false = r) (e1 : ys = xs ++ one x) (e2 : c = (false || ob x)) : lw one ob l ys c = r := by
  rw [e1, e2, ← h, lw, if_neg (by simp)]
theorem nb1 : nb 0 1 = [0] ∧ nb 1 1 = [1] ∧ nb 2 1 = [2] ∧ nb 3 1 = [3] := by decide
set_option maxHeartbeats 4000000 in
set_option maxRecDepth 100000 in
theorem pn_records (w0 : World) (g : Nat) (xs : List Int) (bad : Bool) (A : Option Addr) (c : Nat) (l : List S98) (ys : List Int) (b2 : Bool) (w : World) (hF : Pn w g w0.heap.size xs bad) (hg : w0.heap.size ≤ g) (hB : Below w0.heap.size w0 w) (hl : ∀ W, Below w0.heap.size w W → Kd.C k98 W A l.length l) (hx : xs.length + (l.map recN).sum ≤ 700000000) (hs : lw rec1 rec2 l (xs ++ nb (l.length : Nat) 2) (bad || decide (65535 < l.length)) = (ys, b2)) :
    Calls Try.prog 59 #[.pointer (some ⟨g, 0, none⟩), .slice A l.length c] w fun e w' => e = .returned (.tuple #[]) ∧ Pn w' g w0.heap.size ys b2 ∧ KeepW w w' g w0.heap.size := by
  have HF := Aside0.mk hF
  have HGE := Aside0.mk hg
  have HB := Aside0.mk hB
  have HX := Aside0.mk hx
  have HL := Aside0.mk hl
  have HS := Aside0.mk hs
  have LM := Aside0.mk (show (l.length : Int) ≤ 9223372036854775807 by have := (hl w (Below.refl _ _)).2.1; omega)
  clear hF hg hB hx hl hs
  go_enter Try.func59, Try.ntmps59
  go_wp2_with fail
  refine (pn_short w0 g xs bad l.length w HF.out HGE.out HB.out (by have := HX.out; omega)).mono ?_
  rintro e y ⟨rfl, h1, h2⟩
  have H1 := Aside0.mk h1
  have H2 := Aside0.mk h2
  clear h1 h2 HF
  go_wp2_with fail
  go_loopg [4] (l.length + 1) (fun kq v4 w' => ∃ (i : Int) (zs : List Int) (b : Bool), v4 = .int .i64 i ∧ Aside0 (kq + i.toNat = l.length + 1 ∧ 0 ≤ i ∧ i ≤ (l.length : Int)) ∧ Aside0 (lw rec1 rec2 (l.drop i.toNat) zs b = (ys, b2)) ∧ Aside0 (zs.length + ((l.drop i.toNat).map recN).sum ≤ 700000002) ∧ Aside0 (Pn w' g w0.heap.size zs b) ∧ Aside0 (KeepW w w' g w0.heap.size))
  case atStart => exact ⟨0, _, _, rfl, ⟨by simp, by omega, by omega⟩, HS, ⟨by rw [List.length_append, nb_len]; have := HX.out; simp only [Int.toNat_zero, List.drop_zero]; omega⟩, H1, H2⟩
  case round =>
    obtain ⟨i, zs, b, rfl, HI, HA, HN, HW, HK⟩ := hrel
    clear HS H1 H2 HX
    obtain ⟨Aw, cw, hgw, hrw⟩ := HW.out
    have ql1 : wr.cell? ⟨g, 1, none⟩ = some (.bool b) := (blk_cell hgw 1).trans rfl
    clear hgw hrw
    by_cases hi : i < (l.length : Int)
    case neg =>
      have d1 : decide (i < (l.length : Int)) = false := decide_eq_false hi
      go_wp2_with fail
      refine bodyPost_end (v := .tuple #[]) (by simp [results, Try.results59, go_sem]) rfl ?_
      have h_ := HA.out
      rw [List.drop_eq_nil_of_le (by have := HI.out; omega)] at h_
      simp only [lw, Prod.mk.injEq] at h_
      obtain ⟨rfl, rfl⟩ := h_
      exact ⟨rfl, HW.out, HK.out⟩
    have d1 : decide (i < (l.length : Int)) = true := decide_eq_true hi
    cases b with
    | true =>
      go_wp2_with fail
      refine bodyPost_end (v := .tuple #[]) (by simp [results, Try.results59, go_sem]) rfl ?_
      have h_ := HA.out
      rw [lw_bad, Prod.mk.injEq] at h_
      obtain ⟨rfl, rfl⟩ := h_
      exact ⟨rfl, HW.out, HK.out⟩
    | false =>
      have h0 := HI.out.2.1
      obtain ⟨ad, ea, x0, x1, x2, x3, x4, x5⟩ := at_T98 (HL.out wr HK.out.below) i h0 hi
      cases ea
      have p1 := eq_true h0
      have p2 := eq_true hi
      have HE := Aside0.mk (show lw rec1 rec2 (rd_T98 l i :: l.drop (i + 1).toNat) zs false = (ys, b2) from by rw [show rd_T98 l i = l.getD i.toNat z98 from rfl, ← drop_rd z98 h0 hi]; exact HA.out)
      have HNR := Aside0.mk (show ((l.drop i.toNat).map recN).sum = recN (rd_T98 l i) + ((l.drop (i + 1).toNat).map recN).sum from sum_mem recN z98 h0 hi)
      have e1 : IntKind.i64.wrap (i + 1) = i + 1 := (i64_w _).trans (by have := LM.out; unfold wrap64; omega)
      have HI2 := Aside0.mk hi
      clear hi h0 HA
      generalize hS_ : rd_T98 l i = Rc at x0 x1 x2 x3 x4 x5 HE HNR
      clear hS_
      obtain ⟨f0, f1, f2, f3, f4, f5⟩ := Rc
      dsimp only at x0 x1 x2 x3 x4 x5
      cases f0
      · cases f2
        · have S0 := Aside0.mk (PpSt.new HK.out HW.out (Nat.le_trans HB.out.size HK.out.below.size) false f1 false f3 f4 f5)
          have HQ := Aside0.mk (show wr.heap.size ≠ g from by have := HW.out.lt; omega)
          obtain ⟨q, hq⟩ : ∃ q, q = wr.heap.size := ⟨_, rfl⟩
          go_upto_region 5 with (fail)
          (try simp only [Act.put, List.setIfInBounds_toArray, List.set_cons_zero, List.set_cons_succ])
          generalize wr.alloc (.cells #[.bool false, .string f1, .bool false, .string f3, .int .i64 f4, .int .i64 f5] 98) = y0 at S0 ⊢
          rw [← hq] at S0 HQ ⊢
          clear HW HK hq x0 x1 x2 x3 x4 x5 ql1
          obtain ⟨n0_, n1_, n2_, n3_, n4_, n5_⟩ := S0.out.cells
          obtain ⟨A1, c1, hg1, hr1⟩ := S0.out.1
          have HR1 := Aside0.mk hr1
          have HG1 := Aside0.mk hg1
          have HS1 := Aside0.mk (Nat.le_trans HB.out.size S0.out.2.2.below.size)
          have q0 : y0.cell? ⟨g, 0, none⟩ = some (.slice A1 zs.length c1) := (blk_cell hg1 0).trans rfl
          clear hg1 hr1
          obtain ⟨z1, hz1⟩ : ∃ x, x = zs ++ [(0 : Int)] := ⟨_, rfl⟩
          have Z1 := Aside0.mk hz1
          have N1 := Aside0.mk (show z1.length = zs.length + 1 from by rw [hz1, List.length_append]; rfl)
          clear hz1
          go_upto_region 11 with ((with_reducible refine gate_builtin (b := .append) (xs := #[.tmp 38, .tmp 40]) rfl ?_); at_builtin; refine Kd.R_append (Kd.int .u8) (w0 := y0) w0.heap.size rfl (.tmp 38) (.tmp 40) 29 5 (.int .u8 0) 1 rfl Try.underlying29 info_u8 rfl (by decide) (by omega) (.slice A1 zs.length c1) zs 0 [.int .u8 0] (fun _ => True) (fun _ => False) rfl rfl ?aP (fun _ hk => hk.elim) ?aF ?aO ?aB ?aS ?aL ?_; (case aP => exact rfl); (case aF => exact (fun _ _ => trivial)); (case aO => exact HR1.out); (case aB => exact Below.refl _ _); (case aS => exact HS1.out); (case aL => have := HN.out; omega); intro v2 w2 ho hb hg_ hat; rw [← Z1.out] at ho; obtain ⟨A2, c2, e2⟩ := Kd.R_slice ho; subst e2; have HO2 := Aside0.mk ho; have HK2 := Aside0.mk ((KeepW.refl y0 g w0.heap.size).grown HR1.out hg_ hb); have hG2 := hg_.block g (blk_lt HG1.out) (Kd.R_ne HR1.out HG1.out (by decide)); rw [HG1.out] at hG2; have HG2 := Aside0.mk hG2; have z0 : w2.frozen? ⟨g, 0, none⟩ = false := blk_frozen hG2 0; have q0 : w2.cell? ⟨g, 0, none⟩ = some (.slice A1 zs.length c1) := (blk_cell hG2 0).trans rfl; clear ho hb hg_ hat hG2)
          (try simp only [Act.put, List.setIfInBounds_toArray, List.set_cons_zero, List.set_cons_succ])
          have S1 := Aside0.mk (S0.out.step HQ.out (Pn.mk' (by simpa using blk_set HG2.out 0 (.slice A2 z1.length c2)) (Kd.R_set HO2.out HG2.out (by decide) 0 _)) (HK2.out.set HGE.out 0 _))
          generalize w2.setCell ⟨g, 0, none⟩ (.slice A2 z1.length c2) = y1 at S1 ⊢
          clear n0_ n1_ n2_ n3_ n4_ n5_ q0 z0 HR1 HG1 HS1 HO2 HK2 HG2 S0
          obtain ⟨n0_, n1_, n2_, n3_, n4_, n5_⟩ := S1.out.cells
          obtain ⟨A5, c5, hg5, hr5⟩ := S1.out.1
          have HR5 := Aside0.mk hr5
          have HG5 := Aside0.mk hg5
          clear hg5 hr5
          have L5 := Aside0.mk (show LySt w y1 g w0.heap.size q q A5 z1.length c5 false #[.bool false, .string f1, .bool false, .string f3, .int .i64 f4, .int .i64 f5] 98 #[.bool false, .string f1, .bool false, .string f3, .int .i64 f4, .int .i64 f5] 98 from ⟨HG5.out, S1.out.2.1, S1.out.2.1, S1.out.2.2⟩)
          go_upto_region 15 with (fail)
          rename_i K_ hK_
          clear n0_ n1_ n2_ n3_ n4_ n5_
          (try simp only [Act.put, List.setIfInBounds_toArray, List.set_cons_zero, List.set_cons_succ])
          obtain ⟨z8, hz⟩ : ∃ x, x = z1 ++ nb f4 8 := ⟨_, rfl⟩
          have Z8 := Aside0.mk hz
          have N8 := Aside0.mk (show z8.length = z1.length + 8 from by rw [hz]; rw [List.length_append, nb_len])
          clear hz
          refine start_ (n := 12) (S := fun w' => LySt w w' g w0.heap.size q q A5 z1.length c5 false #[.bool false, .string f1, .bool false, .string f3, .int .i64 f4, .int .i64 f5] 98 #[.bool false, .string f1, .bool false, .string f3, .int .i64 f4, .int .i64 f5] 98) (ds := [11]) #[false, false, false, false, false, false, false, false, false, false, false, false] (by kernel_rfl) rfl rfl (L5.out.drewN 1) (fun hHeld => ?_)
          refine pure_ (i := 0) (N := (some 56)) (v := ?_) (a' := ?_) #[true, false, false, false, false, false, false, false, false, false, false, false] rfl rfl (by kernel_rfl) (fun _ _ _ h => h) (Or.inl ⟨by rfl, ?_⟩) ?_ ?_
          rotate_left
          · intro w'
            go_simp
            with_reducible rfl
          rotate_left
          · simp only [Act.put, List.setIfInBounds_toArray, List.set_cons_zero, List.set_cons_succ, i64_w, i32_w]
            rfl
          refine pure_ (i := 1) (N := (some 57)) (v := ?_) (a' := ?_) #[true, true, false, false, false, false, false, false, false, false, false, false] rfl rfl (by kernel_rfl) (fun _ _ _ h => h) (Or.inl ⟨by rfl, ?_⟩) ?_ ?_
          rotate_left
          · intro w'
            go_simp
            with_reducible rfl
          rotate_left
          · simp only [Act.put, List.setIfInBounds_toArray, List.set_cons_zero, List.set_cons_succ, i64_w, i32_w]
            rfl
          refine pure_ (i := 2) (N := (some 58)) (v := ?_) (a' := ?_) #[true, true, true, false, false, false, false, false, false, false, false, false] rfl rfl (by kernel_rfl) (fun _ _ _ h => h) (Or.inl ⟨by rfl, ?_⟩) ?_ ?_
          rotate_left
          · intro w'
            go_simp
            with_reducible rfl
          rotate_left
          · simp only [Act.put, List.setIfInBounds_toArray, List.set_cons_zero, List.set_cons_succ, i64_w, i32_w]
            rfl
          refine pure_ (i := 3) (N := (some 59)) (v := ?_) (a' := ?_) #[true, true, true, true, false, false, false, false, false, false, false, false] rfl rfl (by kernel_rfl) (fun _ _ _ h => h) (Or.inl ⟨by rfl, ?_⟩) ?_ ?_
          rotate_left
          · intro w'
            go_simp
            with_reducible rfl
          rotate_left
          · simp only [Act.put, List.setIfInBounds_toArray, List.set_cons_zero, List.set_cons_succ, i64_w, i32_w]
            rfl
          refine take_ (i := 4) (N := (some 60)) (v := ?_) (a' := ?_) #[true, true, true, true, true, false, false, false, false, false, false, false] rfl rfl (by kernel_rfl) (fun _ _ _ h => h) (Or.inl ⟨by rfl, ?_⟩) hHeld ?_ ?_
          rotate_left
          · rintro w' s
            have q0 : w'.cell? ⟨g, 0, none⟩ = some (.slice A5 z1.length c5) := (blk_cell s.1 0).trans rfl
            go_simp
            with_reducible rfl
          rotate_left
          · simp only [Act.put, List.setIfInBounds_toArray, List.set_cons_zero, List.set_cons_succ, i64_w, i32_w]
            rfl
          refine pure_ (i := 5) (N := (some 61)) (v := ?_) (a' := ?_) #[true, true, true, true, true, true, false, false, false, false, false, false] rfl rfl (by kernel_rfl) (fun _ _ _ h => h) (Or.inl ⟨by rfl, ?_⟩) ?_ ?_
          rotate_left
          · intro w'
            go_simp
            with_reducible rfl
          rotate_left
          · simp only [Act.put, List.setIfInBounds_toArray, List.set_cons_zero, List.set_cons_succ, i64_w, i32_w]
            rfl
          refine take_ (i := 6) (N := (some 62)) (v := ?_) (a' := ?_) #[true, true, true, true, true, true, true, false, false, false, false, false] rfl rfl (by kernel_rfl) (fun _ _ _ h => h) (Or.inl ⟨by rfl, ?_⟩) hHeld ?_ ?_
          rotate_left
          · rintro w' s
            have q0 : w'.cell? ⟨q, 4, none⟩ = some (.int .i64 f4) := (blk_cell s.2.1 4).trans rfl
            go_simp
            with_reducible rfl
          rotate_left
          · simp only [Act.put, List.setIfInBounds_toArray, List.set_cons_zero, List.set_cons_succ, i64_w, i32_w]
            rfl
          refine pure_ (i := 7) (N := (some 63)) (v := ?_) (a' := ?_) #[true, true, true, true, true, true, true, true, false, false, false, false] rfl rfl (by kernel_rfl) (fun _ _ _ h => h) (Or.inl ⟨by rfl, ?_⟩) ?_ ?_
          rotate_left
          · intro w'
            go_simp
            with_reducible rfl
          rotate_left
          · simp only [Act.put, List.setIfInBounds_toArray, List.set_cons_zero, List.set_cons_succ, i64_w, i32_w]
            rfl
          refine one_ (i := 8) (N := (some 64)) #[true, true, true, true, true, true, true, true, true, false, false, false] rfl rfl (by kernel_rfl) (by decide) (fun K hK => ?_)
          refine goes_ Try.func33 (by kernel_rfl) rfl #[.slice A5 z1.length c5, .int .i64 (8 : Nat), .int .u64 (IntKind.u64.wrap f4)] (by rfl) rfl rfl (by (try simp only [List.map_toArray, List.map_cons, List.map_nil]); first | done | rfl) ?_
          refine (pn_lay w0 g z1 false f4 8 _ A5 c5 (HB.out.trans hHeld.2.2.2.below) hHeld.1 (Kd.R_drewN HR5.out 1) (by decide) (by decide) (by have := HN.out; have := HNR.out; have := N1.out; unfold recN at *; dsimp only at *; omega)).mono ?_
          rintro e w8 ⟨⟨A6, c6, rfl, hr⟩, hg2, hk⟩
          refine ⟨_, rfl, ?_⟩
          rw [← Z8.out] at hr ⊢
          have HR8 := Aside0.mk hr
          clear hr
          refine hK.out _ _ (hHeld.call hg2 hk HQ.out HQ.out (by decide) (by decide)) (fun hHeld => ?_)
          clear hK K
          refine norm_ (a' := ?_) ?_ ?_
          rotate_left
          · show Act.put _ (some 64) _ = _
            simp only [Act.put, List.setIfInBounds_toArray, List.set_cons_zero, List.set_cons_succ, i64_w, i32_w]
            rfl
          refine pure_ (i := 9) (N := (some 65)) (v := ?_) (a' := ?_) #[true, true, true, true, true, true, true, true, true, true, false, false] rfl rfl (by kernel_rfl) (fun _ _ _ h => h) (Or.inl ⟨by rfl, ?_⟩) ?_ ?_
          rotate_left
          · intro w'
            go_simp
            with_reducible rfl
          rotate_left
          · simp only [Act.put, List.setIfInBounds_toArray, List.set_cons_zero, List.set_cons_succ, i64_w, i32_w]
            rfl
          refine pure_ (i := 10) (N := (some 66)) (v := ?_) (a' := ?_) #[true, true, true, true, true, true, true, true, true, true, true, false] rfl rfl (by kernel_rfl) (fun _ _ _ h => h) (Or.inl ⟨by rfl, ?_⟩) ?_ ?_
          rotate_left
          · intro w'
            go_simp
            with_reducible rfl
          rotate_left
          · simp only [Act.put, List.setIfInBounds_toArray, List.set_cons_zero, List.set_cons_succ, i64_w, i32_w]
            rfl
          refine last_ (i := 11) (N := none) #[true, true, true, true, true, true, true, true, true, true, true, true] rfl rfl (by kernel_rfl) (by decide) (fun K hK => ?_)
          have z0 : w8.frozen? ⟨g, 0, none⟩ = false := blk_frozen hHeld.1 0
          have q0 : w8.cell? ⟨g, 0, none⟩ = some (.slice A5 z1.length c5) := (blk_cell hHeld.1 0).trans rfl
          have T8 := Aside0.mk (show PpSt w (w8.setCell ⟨g, 0, none⟩ (.slice A6 z8.length c6)) g q w0.heap.size z8 false false f1 false f3 f4 f5 from PpSt.setB hHeld.1 hHeld.2.1 hHeld.2.2.2 HR8.out HQ.out HGE.out)
          clear HR8
          refine skip_ (w1 := ?_) (by rfl) rfl ?_ ?_
          rotate_left
          · go_simp
            rfl
          refine hK.out _ _ ?_
          clear hK K
          refine done_ (by kernel_rfl) ?_
          clear hHeld
          show K_ _ _
          refine hK_ _ _ ?_
          clear hK_
          generalize w8.setCell ⟨g, 0, none⟩ (.slice A6 z8.length c6) = y8 at T8 ⊢
          clear q0 z0 HR5 HG5 S1
          obtain ⟨n0_, n1_, n2_, n3_, n4_, n5_⟩ := T8.out.cells
          obtain ⟨A9, c9, hg9, _⟩ := T8.out.1
          have z1 : y8.frozen? ⟨g, 1, none⟩ = false := blk_frozen hg9 1
          have q1 : y8.cell? ⟨g, 1, none⟩ = some (.bool false) := (blk_cell hg9 1).trans rfl
          clear hg9
          obtain ⟨b9, hb9⟩ : ∃ b, b = (false || recO false f1 false f3 f5) := ⟨_, rfl⟩
          have B9 := Aside0.mk hb9
          clear hb9
          go_wp2_with fail
          all_goals
            go_roundg (l.length + 1 - (i + 1).toNat)
            case measure => have := HI.out; have := HI2.out; omega
            case rel =>
              have E1 := Aside0.mk (show lw rec1 rec2 (l.drop (i + 1).toNat) z8 b9 = (ys, b2) from lw_to HE.out (by rw [Z8.out, Z1.out, rec1]; simp [recW, nb1]) (by rw [B9.out, rec2]; simp [recB, recO, Bool.or_assoc, Bool.or_comm, Bool.or_left_comm]))
              have E2 := Aside0.mk (show z8.length + ((l.drop (i + 1).toNat).map recN).sum ≤ 700000002 from by have := HN.out; have := HNR.out; have := N8.out; have := N1.out; unfold recN at *; dsimp only at *; omega)
              first
                | (have e9 : true = b9 := (by rw [B9.out]; unfold recO; first | rfl | (simp [*]; done) | (have h_ : (f5 != 0) = true := (by assumption); have h2_ : ¬ f5 = 0 := (by simpa using h_); simp [*]; done) | (have h_ : (f5 != 0) = false := (by assumption); have h2_ : f5 = 0 := (by simpa using h_); simp [*]; done)); exact ⟨i + 1, z8, b9, by first | rfl | (rw [e1]), ⟨by have := HI.out; have := HI2.out; omega, by have := HI.out; omega, by have := HI2.out; omega⟩, ⟨E1.out⟩, ⟨E2.out⟩, ⟨(T8.out.turn2 HQ.out HGE.out true e9).1⟩, ⟨(T8.out.turn2 HQ.out HGE.out true e9).2.2⟩⟩)
                | (have e9 : false = b9 := (by rw [B9.out]; unfold recO; first | rfl | (simp [*]; done) | (have h_ : (f5 != 0) = true := (by assumption); have h2_ : ¬ f5 = 0 := (by simpa using h_); simp [*]; done) | (have h_ : (f5 != 0) = false := (by assumption); have h2_ : f5 = 0 := (by simpa using h_); simp [*]; done)); exact ⟨i + 1, z8, b9, by first | rfl | (rw [e1]), ⟨by have := HI.out; have := HI2.out; omega, by have := HI.out; omega, by have := HI2.out; omega⟩, ⟨E1.out⟩, ⟨E2.out⟩, ⟨(T8.out.stay e9).1⟩, ⟨(T8.out.stay e9).2.2⟩⟩)
        · have S0 := Aside0.mk (PpSt.new HK.out HW.out (Nat.le_trans HB.out.size HK.out.below.size) false f1 true f3 f4 f5)
          have HQ := Aside0.mk (show wr.heap.size ≠ g from by have := HW.out.lt; omega)
          obtain ⟨q, hq⟩ : ∃ q, q = wr.heap.size := ⟨_, rfl⟩
          go_upto_region 5 with (fail)
          (try simp only [Act.put, List.setIfInBounds_toArray, List.set_cons_zero, List.set_cons_succ])
          generalize wr.alloc (.cells #[.bool false, .string f1, .bool true, .string f3, .int .i64 f4, .int .i64 f5] 98) = y0 at S0 ⊢
          rw [← hq] at S0 HQ ⊢
          clear HW HK hq x0 x1 x2 x3 x4 x5 ql1
          obtain ⟨n0_, n1_, n2_, n3_, n4_, n5_⟩ := S0.out.cells
          obtain ⟨A1, c1, hg1, hr1⟩ := S0.out.1
          have HR1 := Aside0.mk hr1
          have HG1 := Aside0.mk hg1
          have HS1 := Aside0.mk (Nat.le_trans HB.out.size S0.out.2.2.below.size)
          have q0 : y0.cell? ⟨g, 0, none⟩ = some (.slice A1 zs.length c1) := (blk_cell hg1 0).trans rfl
          clear hg1 hr1
          obtain ⟨z1, hz1⟩ : ∃ x, x = zs ++ [(2 : Int)] := ⟨_, rfl⟩
          have Z1 := Aside0.mk hz1
          have N1 := Aside0.mk (show z1.length = zs.length + 1 from by rw [hz1, List.length_append]; rfl)
          clear hz1
          go_upto_region 11 with ((with_reducible refine gate_builtin (b := .append) (xs := #[.tmp 38, .tmp 40]) rfl ?_); at_builtin; refine Kd.R_append (Kd.int .u8) (w0 := y0) w0.heap.size rfl (.tmp 38) (.tmp 40) 29 5 (.int .u8 0) 1 rfl Try.underlying29 info_u8 rfl (by decide) (by omega) (.slice A1 zs.length c1) zs 2 [.int .u8 2] (fun _ => True) (fun _ => False) rfl rfl ?aP (fun _ hk => hk.elim) ?aF ?aO ?aB ?aS ?aL ?_; (case aP => exact rfl); (case aF => exact (fun _ _ => trivial)); (case aO => exact HR1.out); (case aB => exact Below.refl _ _); (case aS => exact HS1.out); (case aL => have := HN.out; omega); intro v2 w2 ho hb hg_ hat; rw [← Z1.out] at ho; obtain ⟨A2, c2, e2⟩ := Kd.R_slice ho; subst e2; have HO2 := Aside0.mk ho; have HK2 := Aside0.mk ((KeepW.refl y0 g w0.heap.size).grown HR1.out hg_ hb); have hG2 := hg_.block g (blk_lt HG1.out) (Kd.R_ne HR1.out HG1.out (by decide)); rw [HG1.out] at hG2; have HG2 := Aside0.mk hG2; have z0 : w2.frozen? ⟨g, 0, none⟩ = false := blk_frozen hG2 0; have q0 : w2.cell? ⟨g, 0, none⟩ = some (.slice A1 zs.length c1) := (blk_cell hG2 0).trans rfl; clear ho hb hg_ hat hG2)
          (try simp only [Act.put, List.setIfInBounds_toArray, List.set_cons_zero, List.set_cons_succ])
          have S1 := Aside0.mk (S0.out.step HQ.out (Pn.mk' (by simpa using blk_set HG2.out 0 (.slice A2 z1.length c2)) (Kd.R_set HO2.out HG2.out (by decide) 0 _)) (HK2.out.set HGE.out 0 _))
          generalize w2.setCell ⟨g, 0, none⟩ (.slice A2 z1.length c2) = y1 at S1 ⊢
          clear n0_ n1_ n2_ n3_ n4_ n5_ q0 z0 HR1 HG1 HS1 HO2 HK2 HG2 S0
          obtain ⟨n0_, n1_, n2_, n3_, n4_, n5_⟩ := S1.out.cells
          go_wp2_with fail
          refine (pn_text w0 g z1 false f3 _ S1.out.1 HGE.out (HB.out.trans S1.out.2.2.below) (by have := HN.out; have := HNR.out; have := N1.out; unfold recN at *; dsimp only at *; omega)).mono ?_
          rintro e w3 ⟨rfl, h1, h2⟩
          obtain ⟨z2, hz⟩ : ∃ x, x = z1 ++ (nb (f3.size : Nat) 2 ++ bytesOf f3) := ⟨_, rfl⟩
          have Z2 := Aside0.mk hz
          have N2 := Aside0.mk (show z2.length = z1.length + (2 + f3.size) from by rw [hz]; rw [List.length_append, List.length_append, nb_len, bytesOf_length])
          rw [← hz] at h1
          obtain ⟨tb2, hc⟩ : ∃ b, b = (false || decide (65535 < f3.size)) := ⟨_, rfl⟩
          have C2 := Aside0.mk hc
          rw [← hc] at h1
          clear hc hz
          have S2 := Aside0.mk (S1.out.step HQ.out h1 h2)
          clear h1 h2 S1 n0_ n1_ n2_ n3_ n4_ n5_
          obtain ⟨n0_, n1_, n2_, n3_, n4_, n5_⟩ := S2.out.cells
          obtain ⟨A5, c5, hg5, hr5⟩ := S2.out.1
          have HR5 := Aside0.mk hr5
          have HG5 := Aside0.mk hg5
          clear hg5 hr5
          have L5 := Aside0.mk (show LySt w w3 g w0.heap.size q q A5 z2.length c5 tb2 #[.bool false, .string f1, .bool true, .string f3, .int .i64 f4, .int .i64 f5] 98 #[.bool false, .string f1, .bool true, .string f3, .int .i64 f4, .int .i64 f5] 98 from ⟨HG5.out, S2.out.2.1, S2.out.2.1, S2.out.2.2⟩)
          go_upto_region 15 with (fail)
          rename_i K_ hK_
          clear n0_ n1_ n2_ n3_ n4_ n5_
          (try simp only [Act.put, List.setIfInBounds_toArray, List.set_cons_zero, List.set_cons_succ])
          obtain ⟨z8, hz⟩ : ∃ x, x = z2 ++ nb f4 8 := ⟨_, rfl⟩
          have Z8 := Aside0.mk hz
          have N8 := Aside0.mk (show z8.length = z2.length + 8 from by rw [hz]; rw [List.length_append, nb_len])
          clear hz
          refine start_ (n := 12) (S := fun w' => LySt w w' g w0.heap.size q q A5 z2.length c5 tb2 #[.bool false, .string f1, .bool true, .string f3, .int .i64 f4, .int .i64 f5] 98 #[.bool false, .string f1, .bool true, .string f3, .int .i64 f4, .int .i64 f5] 98) (ds := [11]) #[false, false, false, false, false, false, false, false, false, false, false, false] (by kernel_rfl) rfl rfl (L5.out.drewN 1) (fun hHeld => ?_)
          refine pure_ (i := 0) (N := (some 56)) (v := ?_) (a' := ?_) #[true, false, false, false, false, false, false, false, false, false, false, false] rfl rfl (by kernel_rfl) (fun _ _ _ h => h) (Or.inl ⟨by rfl, ?_⟩) ?_ ?_
          rotate_left
          · intro w'
            go_simp
            with_reducible rfl
          rotate_left
          · simp only [Act.put, List.setIfInBounds_toArray, List.set_cons_zero, List.set_cons_succ, i64_w, i32_w]
            rfl
          refine pure_ (i := 1) (N := (some 57)) (v := ?_) (a' := ?_) #[true, true, false, false, false, false, false, false, false, false, false, false] rfl rfl (by kernel_rfl) (fun _ _ _ h => h) (Or.inl ⟨by rfl, ?_⟩) ?_ ?_
          rotate_left
          · intro w'
            go_simp
            with_reducible rfl
          rotate_left
          · simp only [Act.put, List.setIfInBounds_toArray, List.set_cons_zero, List.set_cons_succ, i64_w, i32_w]
            rfl
          refine pure_ (i := 2) (N := (some 58)) (v := ?_) (a' := ?_) #[true, true, true, false, false, false, false, false, false, false, false, false] rfl rfl (by kernel_rfl) (fun _ _ _ h => h) (Or.inl ⟨by rfl, ?_⟩) ?_ ?_
          rotate_left
          · intro w'
            go_simp
            with_reducible rfl
          rotate_left
          · simp only [Act.put, List.setIfInBounds_toArray, List.set_cons_zero, List.set_cons_succ, i64_w, i32_w]
            rfl
          refine pure_ (i := 3) (N := (some 59)) (v := ?_) (a' := ?_) #[true, true, true, true, false, false, false, false, false, false, false, false] rfl rfl (by kernel_rfl) (fun _ _ _ h => h) (Or.inl ⟨by rfl, ?_⟩) ?_ ?_
          rotate_left
          · intro w'
            go_simp
            with_reducible rfl
          rotate_left
          · simp only [Act.put, List.setIfInBounds_toArray, List.set_cons_zero, List.set_cons_succ, i64_w, i32_w]
            rfl
          refine take_ (i := 4) (N := (some 60)) (v := ?_) (a' := ?_) #[true, true, true, true, true, false, false, false, false, false, false, false] rfl rfl (by kernel_rfl) (fun _ _ _ h => h) (Or.inl ⟨by rfl, ?_⟩) hHeld ?_ ?_
          rotate_left
          · rintro w' s
            have q0 : w'.cell? ⟨g, 0, none⟩ = some (.slice A5 z2.length c5) := (blk_cell s.1 0).trans rfl
            go_simp
            with_reducible rfl
          rotate_left
          · simp only [Act.put, List.setIfInBounds_toArray, List.set_cons_zero, List.set_cons_succ, i64_w, i32_w]
            rfl
          refine pure_ (i := 5) (N := (some 61)) (v := ?_) (a' := ?_) #[true, true, true, true, true, true, false, false, false, false, false, false] rfl rfl (by kernel_rfl) (fun _ _ _ h => h) (Or.inl ⟨by rfl, ?_⟩) ?_ ?_
          rotate_left
          · intro w'
            go_simp
            with_reducible rfl
          rotate_left
          · simp only [Act.put, List.setIfInBounds_toArray, List.set_cons_zero, List.set_cons_succ, i64_w, i32_w]
            rfl
          refine take_ (i := 6) (N := (some 62)) (v := ?_) (a' := ?_) #[true, true, true, true, true, true, true, false, false, false, false, false] rfl rfl (by kernel_rfl) (fun _ _ _ h => h) (Or.inl ⟨by rfl, ?_⟩) hHeld ?_ ?_
          rotate_left
          · rintro w' s
            have q0 : w'.cell? ⟨q, 4, none⟩ = some (.int .i64 f4) := (blk_cell s.2.1 4).trans rfl
            go_simp
            with_reducible rfl
          rotate_left
          · simp only [Act.put, List.setIfInBounds_toArray, List.set_cons_zero, List.set_cons_succ, i64_w, i32_w]
            rfl
          refine pure_ (i := 7) (N := (some 63)) (v := ?_) (a' := ?_) #[true, true, true, true, true, true, true, true, false, false, false, false] rfl rfl (by kernel_rfl) (fun _ _ _ h => h) (Or.inl ⟨by rfl, ?_⟩) ?_ ?_
          rotate_left
          · intro w'
            go_simp
            with_reducible rfl
          rotate_left
          · simp only [Act.put, List.setIfInBounds_toArray, List.set_cons_zero, List.set_cons_succ, i64_w, i32_w]
            rfl
          refine one_ (i := 8) (N := (some 64)) #[true, true, true, true, true, true, true, true, true, false, false, false] rfl rfl (by kernel_rfl) (by decide) (fun K hK => ?_)
          refine goes_ Try.func33 (by kernel_rfl) rfl #[.slice A5 z2.length c5, .int .i64 (8 : Nat), .int .u64 (IntKind.u64.wrap f4)] (by rfl) rfl rfl (by (try simp only [List.map_toArray, List.map_cons, List.map_nil]); first | done | rfl) ?_
          refine (pn_lay w0 g z2 tb2 f4 8 _ A5 c5 (HB.out.trans hHeld.2.2.2.below) hHeld.1 (Kd.R_drewN HR5.out 1) (by decide) (by decide) (by have := HN.out; have := HNR.out; have := N1.out; have := N2.out; unfold recN at *; dsimp only at *; omega)).mono ?_
          rintro e w8 ⟨⟨A6, c6, rfl, hr⟩, hg2, hk⟩
          refine ⟨_, rfl, ?_⟩
          rw [← Z8.out] at hr ⊢
          have HR8 := Aside0.mk hr
          clear hr
          refine hK.out _ _ (hHeld.call hg2 hk HQ.out HQ.out (by decide) (by decide)) (fun hHeld => ?_)
          clear hK K
          refine norm_ (a' := ?_) ?_ ?_
          rotate_left
          · show Act.put _ (some 64) _ = _
            simp only [Act.put, List.setIfInBounds_toArray, List.set_cons_zero, List.set_cons_succ, i64_w, i32_w]
            rfl
          refine pure_ (i := 9) (N := (some 65)) (v := ?_) (a' := ?_) #[true, true, true, true, true, true, true, true, true, true, false, false] rfl rfl (by kernel_rfl) (fun _ _ _ h => h) (Or.inl ⟨by rfl, ?_⟩) ?_ ?_
          rotate_left
          · intro w'
            go_simp
            with_reducible rfl
          rotate_left
          · simp only [Act.put, List.setIfInBounds_toArray, List.set_cons_zero, List.set_cons_succ, i64_w, i32_w]
            rfl
          refine pure_ (i := 10) (N := (some 66)) (v := ?_) (a' := ?_) #[true, true, true, true, true, true, true, true, true, true, true, false] rfl rfl (by kernel_rfl) (fun _ _ _ h => h) (Or.inl ⟨by rfl, ?_⟩) ?_ ?_
          rotate_left
          · intro w'
            go_simp
            with_reducible rfl
          rotate_left
          · simp only [Act.put, List.setIfInBounds_toArray, List.set_cons_zero, List.set_cons_succ, i64_w, i32_w]
            rfl
          refine last_ (i := 11) (N := none) #[true, true, true, true, true, true, true, true, true, true, true, true] rfl rfl (by kernel_rfl) (by decide) (fun K hK => ?_)
          have z0 : w8.frozen? ⟨g, 0, none⟩ = false := blk_frozen hHeld.1 0
          have q0 : w8.cell? ⟨g, 0, none⟩ = some (.slice A5 z2.length c5) := (blk_cell hHeld.1 0).trans rfl
          have T8 := Aside0.mk (show PpSt w (w8.setCell ⟨g, 0, none⟩ (.slice A6 z8.length c6)) g q w0.heap.size z8 tb2 false f1 true f3 f4 f5 from PpSt.setB hHeld.1 hHeld.2.1 hHeld.2.2.2 HR8.out HQ.out HGE.out)
          clear HR8
          refine skip_ (w1 := ?_) (by rfl) rfl ?_ ?_
          rotate_left
          · go_simp
            rfl
          refine hK.out _ _ ?_
          clear hK K
          refine done_ (by kernel_rfl) ?_
          clear hHeld
          show K_ _ _
          refine hK_ _ _ ?_
          clear hK_
          generalize w8.setCell ⟨g, 0, none⟩ (.slice A6 z8.length c6) = y8 at T8 ⊢
          clear q0 z0 HR5 HG5 S2
          obtain ⟨n0_, n1_, n2_, n3_, n4_, n5_⟩ := T8.out.cells
          obtain ⟨A9, c9, hg9, _⟩ := T8.out.1
          have z1 : y8.frozen? ⟨g, 1, none⟩ = false := blk_frozen hg9 1
          have q1 : y8.cell? ⟨g, 1, none⟩ = some (.bool tb2) := (blk_cell hg9 1).trans rfl
          clear hg9
          obtain ⟨b9, hb9⟩ : ∃ b, b = (tb2 || recO false f1 true f3 f5) := ⟨_, rfl⟩
          have B9 := Aside0.mk hb9
          clear hb9
          go_wp2_with fail
          all_goals
            go_roundg (l.length + 1 - (i + 1).toNat)
            case measure => have := HI.out; have := HI2.out; omega
            case rel =>
              have E1 := Aside0.mk (show lw rec1 rec2 (l.drop (i + 1).toNat) z8 b9 = (ys, b2) from lw_to HE.out (by rw [Z8.out, Z2.out, Z1.out, rec1]; simp [recW, nb1]) (by rw [B9.out, C2.out, rec2]; simp [recB, recO, Bool.or_assoc, Bool.or_comm, Bool.or_left_comm]))
              have E2 := Aside0.mk (show z8.length + ((l.drop (i + 1).toNat).map recN).sum ≤ 700000002 from by have := HN.out; have := HNR.out; have := N8.out; have := N1.out; have := N2.out; unfold recN at *; dsimp only at *; omega)
              first
                | (have e9 : true = b9 := (by rw [B9.out]; unfold recO; first | rfl | (simp [*]; done) | (have h_ : (f5 != 0) = true := (by assumption); have h2_ : ¬ f5 = 0 := (by simpa using h_); simp [*]; done) | (have h_ : (f5 != 0) = false := (by assumption); have h2_ : f5 = 0 := (by simpa using h_); simp [*]; done)); exact ⟨i + 1, z8, b9, by first | rfl | (rw [e1]), ⟨by have := HI.out; have := HI2.out; omega, by have := HI.out; omega, by have := HI2.out; omega⟩, ⟨E1.out⟩, ⟨E2.out⟩, ⟨(T8.out.turn2 HQ.out HGE.out true e9).1⟩, ⟨(T8.out.turn2 HQ.out HGE.out true e9).2.2⟩⟩)
                | (have e9 : tb2 = b9 := (by rw [B9.out]; unfold recO; first | rfl | (simp [*]; done) | (have h_ : (f5 != 0) = true := (by assumption); have h2_ : ¬ f5 = 0 := (by simpa using h_); simp [*]; done) | (have h_ : (f5 != 0) = false := (by assumption); have h2_ : f5 = 0 := (by simpa using h_); simp [*]; done)); exact ⟨i + 1, z8, b9, by first | rfl | (rw [e1]), ⟨by have := HI.out; have := HI2.out; omega, by have := HI.out; omega, by have := HI2.out; omega⟩, ⟨E1.out⟩, ⟨E2.out⟩, ⟨(T8.out.stay e9).1⟩, ⟨(T8.out.stay e9).2.2⟩⟩)
      · cases f2
        · have S0 := Aside0.mk (PpSt.new HK.out HW.out (Nat.le_trans HB.out.size HK.out.below.size) true f1 false f3 f4 f5)
          have HQ := Aside0.mk (show wr.heap.size ≠ g from by have := HW.out.lt; omega)
          obtain ⟨q, hq⟩ : ∃ q, q = wr.heap.size := ⟨_, rfl⟩
          go_upto_region 5 with (fail)
          (try simp only [Act.put, List.setIfInBounds_toArray, List.set_cons_zero, List.set_cons_succ])
          generalize wr.alloc (.cells #[.bool true, .string f1, .bool false, .string f3, .int .i64 f4, .int .i64 f5] 98) = y0 at S0 ⊢
          rw [← hq] at S0 HQ ⊢
          clear HW HK hq x0 x1 x2 x3 x4 x5 ql1
          obtain ⟨n0_, n1_, n2_, n3_, n4_, n5_⟩ := S0.out.cells
          obtain ⟨A1, c1, hg1, hr1⟩ := S0.out.1
          have HR1 := Aside0.mk hr1
          have HG1 := Aside0.mk hg1
          have HS1 := Aside0.mk (Nat.le_trans HB.out.size S0.out.2.2.below.size)
          have q0 : y0.cell? ⟨g, 0, none⟩ = some (.slice A1 zs.length c1) := (blk_cell hg1 0).trans rfl
          clear hg1 hr1
          obtain ⟨z1, hz1⟩ : ∃ x, x = zs ++ [(1 : Int)] := ⟨_, rfl⟩
          have Z1 := Aside0.mk hz1
          have N1 := Aside0.mk (show z1.length = zs.length + 1 from by rw [hz1, List.length_append]; rfl)
          clear hz1
          go_upto_region 11 with ((with_reducible refine gate_builtin (b := .append) (xs := #[.tmp 38, .tmp 40]) rfl ?_); at_builtin; refine Kd.R_append (Kd.int .u8) (w0 := y0) w0.heap.size rfl (.tmp 38) (.tmp 40) 29 5 (.int .u8 0) 1 rfl Try.underlying29 info_u8 rfl (by decide) (by omega) (.slice A1 zs.length c1) zs 1 [.int .u8 1] (fun _ => True) (fun _ => False) rfl rfl ?aP (fun _ hk => hk.elim) ?aF ?aO ?aB ?aS ?aL ?_; (case aP => exact rfl); (case aF => exact (fun _ _ => trivial)); (case aO => exact HR1.out); (case aB => exact Below.refl _ _); (case aS => exact HS1.out); (case aL => have := HN.out; omega); intro v2 w2 ho hb hg_ hat; rw [← Z1.out] at ho; obtain ⟨A2, c2, e2⟩ := Kd.R_slice ho; subst e2; have HO2 := Aside0.mk ho; have HK2 := Aside0.mk ((KeepW.refl y0 g w0.heap.size).grown HR1.out hg_ hb); have hG2 := hg_.block g (blk_lt HG1.out) (Kd.R_ne HR1.out HG1.out (by decide)); rw [HG1.out] at hG2; have HG2 := Aside0.mk hG2; have z0 : w2.frozen? ⟨g, 0, none⟩ = false := blk_frozen hG2 0; have q0 : w2.cell? ⟨g, 0, none⟩ = some (.slice A1 zs.length c1) := (blk_cell hG2 0).trans rfl; clear ho hb hg_ hat hG2)
          (try simp only [Act.put, List.setIfInBounds_toArray, List.set_cons_zero, List.set_cons_succ])
          have S1 := Aside0.mk (S0.out.step HQ.out (Pn.mk' (by simpa using blk_set HG2.out 0 (.slice A2 z1.length c2)) (Kd.R_set HO2.out HG2.out (by decide) 0 _)) (HK2.out.set HGE.out 0 _))
          generalize w2.setCell ⟨g, 0, none⟩ (.slice A2 z1.length c2) = y1 at S1 ⊢
          clear n0_ n1_ n2_ n3_ n4_ n5_ q0 z0 HR1 HG1 HS1 HO2 HK2 HG2 S0
          obtain ⟨n0_, n1_, n2_, n3_, n4_, n5_⟩ := S1.out.cells
          go_wp2_with fail
          refine (pn_text w0 g z1 false f1 _ S1.out.1 HGE.out (HB.out.trans S1.out.2.2.below) (by have := HN.out; have := HNR.out; have := N1.out; unfold recN at *; dsimp only at *; omega)).mono ?_
          rintro e w3 ⟨rfl, h1, h2⟩
          obtain ⟨z2, hz⟩ : ∃ x, x = z1 ++ (nb (f1.size : Nat) 2 ++ bytesOf f1) := ⟨_, rfl⟩
          have Z2 := Aside0.mk hz
          have N2 := Aside0.mk (show z2.length = z1.length + (2 + f1.size) from by rw [hz]; rw [List.length_append, List.length_append, nb_len, bytesOf_length])
          rw [← hz] at h1
          obtain ⟨tb2, hc⟩ : ∃ b, b = (false || decide (65535 < f1.size)) := ⟨_, rfl⟩
          have C2 := Aside0.mk hc
          rw [← hc] at h1
          clear hc hz
          have S2 := Aside0.mk (S1.out.step HQ.out h1 h2)
          clear h1 h2 S1 n0_ n1_ n2_ n3_ n4_ n5_
          obtain ⟨n0_, n1_, n2_, n3_, n4_, n5_⟩ := S2.out.cells
          obtain ⟨A5, c5, hg5, hr5⟩ := S2.out.1
          have HR5 := Aside0.mk hr5
          have HG5 := Aside0.mk hg5
          clear hg5 hr5
          have L5 := Aside0.mk (show LySt w w3 g w0.heap.size q q A5 z2.length c5 tb2 #[.bool true, .string f1, .bool false, .string f3, .int .i64 f4, .int .i64 f5] 98 #[.bool true, .string f1, .bool false, .string f3, .int .i64 f4, .int .i64 f5] 98 from ⟨HG5.out, S2.out.2.1, S2.out.2.1, S2.out.2.2⟩)
          go_upto_region 15 with (fail)
          rename_i K_ hK_
          clear n0_ n1_ n2_ n3_ n4_ n5_
          (try simp only [Act.put, List.setIfInBounds_toArray, List.set_cons_zero, List.set_cons_succ])
          obtain ⟨z8, hz⟩ : ∃ x, x = z2 ++ nb f4 8 := ⟨_, rfl⟩
          have Z8 := Aside0.mk hz
          have N8 := Aside0.mk (show z8.length = z2.length + 8 from by rw [hz]; rw [List.length_append, nb_len])
          clear hz
          refine start_ (n := 12) (S := fun w' => LySt w w' g w0.heap.size q q A5 z2.length c5 tb2 #[.bool true, .string f1, .bool false, .string f3, .int .i64 f4, .int .i64 f5] 98 #[.bool true, .string f1, .bool false, .string f3, .int .i64 f4, .int .i64 f5] 98) (ds := [11]) #[false, false, false, false, false, false, false, false, false, false, false, false] (by kernel_rfl) rfl rfl (L5.out.drewN 1) (fun hHeld => ?_)
          refine pure_ (i := 0) (N := (some 56)) (v := ?_) (a' := ?_) #[true, false, false, false, false, false, false, false, false, false, false, false] rfl rfl (by kernel_rfl) (fun _ _ _ h => h) (Or.inl ⟨by rfl, ?_⟩) ?_ ?_
          rotate_left
          · intro w'
            go_simp
            with_reducible rfl
          rotate_left
          · simp only [Act.put, List.setIfInBounds_toArray, List.set_cons_zero, List.set_cons_succ, i64_w, i32_w]
            rfl
          refine pure_ (i := 1) (N := (some 57)) (v := ?_) (a' := ?_) #[true, true, false, false, false, false, false, false, false, false, false, false] rfl rfl (by kernel_rfl) (fun _ _ _ h => h) (Or.inl ⟨by rfl, ?_⟩) ?_ ?_
          rotate_left
          · intro w'
            go_simp
            with_reducible rfl
          rotate_left
          · simp only [Act.put, List.setIfInBounds_toArray, List.set_cons_zero, List.set_cons_succ, i64_w, i32_w]
            rfl
          refine pure_ (i := 2) (N := (some 58)) (v := ?_) (a' := ?_) #[true, true, true, false, false, false, false, false, false, false, false, false] rfl rfl (by kernel_rfl) (fun _ _ _ h => h) (Or.inl ⟨by rfl, ?_⟩) ?_ ?_
          rotate_left
          · intro w'
            go_simp
            with_reducible rfl
          rotate_left
          · simp only [Act.put, List.setIfInBounds_toArray, List.set_cons_zero, List.set_cons_succ, i64_w, i32_w]
            rfl
          refine pure_ (i := 3) (N := (some 59)) (v := ?_) (a' := ?_) #[true, true, true, true, false, false, false, false, false, false, false, false] rfl rfl (by kernel_rfl) (fun _ _ _ h => h) (Or.inl ⟨by rfl, ?_⟩) ?_ ?_
          rotate_left
          · intro w'
            go_simp
            with_reducible rfl
          rotate_left
          · simp only [Act.put, List.setIfInBounds_toArray, List.set_cons_zero, List.set_cons_succ, i64_w, i32_w]
            rfl
          refine take_ (i := 4) (N := (some 60)) (v := ?_) (a' := ?_) #[true, true, true, true, true, false, false, false, false, false, false, false] rfl rfl (by kernel_rfl) (fun _ _ _ h => h) (Or.inl ⟨by rfl, ?_⟩) hHeld ?_ ?_
          rotate_left
          · rintro w' s
            have q0 : w'.cell? ⟨g, 0, none⟩ = some (.slice A5 z2.length c5) := (blk_cell s.1 0).trans rfl
            go_simp
            with_reducible rfl
          rotate_left
          · simp only [Act.put, List.setIfInBounds_toArray, List.set_cons_zero, List.set_cons_succ, i64_w, i32_w]
            rfl
          refine pure_ (i := 5) (N := (some 61)) (v := ?_) (a' := ?_) #[true, true, true, true, true, true, false, false, false, false, false, false] rfl rfl (by kernel_rfl) (fun _ _ _ h => h) (Or.inl ⟨by rfl, ?_⟩) ?_ ?_
          rotate_left
          · intro w'
            go_simp
            with_reducible rfl
          rotate_left
          · simp only [Act.put, List.setIfInBounds_toArray, List.set_cons_zero, List.set_cons_succ, i64_w, i32_w]
            rfl
          refine take_ (i := 6) (N := (some 62)) (v := ?_) (a' := ?_) #[true, true, true, true, true, true, true, false, false, false, false, false] rfl rfl (by kernel_rfl) (fun _ _ _ h => h) (Or.inl ⟨by rfl, ?_⟩) hHeld ?_ ?_
          rotate_left
          · rintro w' s
            have q0 : w'.cell? ⟨q, 4, none⟩ = some (.int .i64 f4) := (blk_cell s.2.1 4).trans rfl
            go_simp
            with_reducible rfl
          rotate_left
          · simp only [Act.put, List.setIfInBounds_toArray, List.set_cons_zero, List.set_cons_succ, i64_w, i32_w]
            rfl
          refine pure_ (i := 7) (N := (some 63)) (v := ?_) (a' := ?_) #[true, true, true, true, true, true, true, true, false, false, false, false] rfl rfl (by kernel_rfl) (fun _ _ _ h => h) (Or.inl ⟨by rfl, ?_⟩) ?_ ?_
          rotate_left
          · intro w'
            go_simp
            with_reducible rfl
          rotate_left
          · simp only [Act.put, List.setIfInBounds_toArray, List.set_cons_zero, List.set_cons_succ, i64_w, i32_w]
            rfl
          refine one_ (i := 8) (N := (some 64)) #[true, true, true, true, true, true, true, true, true, false, false, false] rfl rfl (by kernel_rfl) (by decide) (fun K hK => ?_)
          refine goes_ Try.func33 (by kernel_rfl) rfl #[.slice A5 z2.length c5, .int .i64 (8 : Nat), .int .u64 (IntKind.u64.wrap f4)] (by rfl) rfl rfl (by (try simp only [List.map_toArray, List.map_cons, List.map_nil]); first | done | rfl) ?_
          refine (pn_lay w0 g z2 tb2 f4 8 _ A5 c5 (HB.out.trans hHeld.2.2.2.below) hHeld.1 (Kd.R_drewN HR5.out 1) (by decide) (by decide) (by have := HN.out; have := HNR.out; have := N1.out; have := N2.out; unfold recN at *; dsimp only at *; omega)).mono ?_
          rintro e w8 ⟨⟨A6, c6, rfl, hr⟩, hg2, hk⟩
          refine ⟨_, rfl, ?_⟩
          rw [← Z8.out] at hr ⊢
          have HR8 := Aside0.mk hr
          clear hr
          refine hK.out _ _ (hHeld.call hg2 hk HQ.out HQ.out (by decide) (by decide)) (fun hHeld => ?_)
          clear hK K
          refine norm_ (a' := ?_) ?_ ?_
          rotate_left
          · show Act.put _ (some 64) _ = _
            simp only [Act.put, List.setIfInBounds_toArray, List.set_cons_zero, List.set_cons_succ, i64_w, i32_w]
            rfl
          refine pure_ (i := 9) (N := (some 65)) (v := ?_) (a' := ?_) #[true, true, true, true, true, true, true, true, true, true, false, false] rfl rfl (by kernel_rfl) (fun _ _ _ h => h) (Or.inl ⟨by rfl, ?_⟩) ?_ ?_
          rotate_left
          · intro w'
            go_simp
            with_reducible rfl
          rotate_left
          · simp only [Act.put, List.setIfInBounds_toArray, List.set_cons_zero, List.set_cons_succ, i64_w, i32_w]
            rfl
          refine pure_ (i := 10) (N := (some 66)) (v := ?_) (a' := ?_) #[true, true, true, true, true, true, true, true, true, true, true, false] rfl rfl (by kernel_rfl) (fun _ _ _ h => h) (Or.inl ⟨by rfl, ?_⟩) ?_ ?_
          rotate_left
          · intro w'
            go_simp
            with_reducible rfl
          rotate_left
          · simp only [Act.put, List.setIfInBounds_toArray, List.set_cons_zero, List.set_cons_succ, i64_w, i32_w]
            rfl
          refine last_ (i := 11) (N := none) #[true, true, true, true, true, true, true, true, true, true, true, true] rfl rfl (by kernel_rfl) (by decide) (fun K hK => ?_)
          have z0 : w8.frozen? ⟨g, 0, none⟩ = false := blk_frozen hHeld.1 0
          have q0 : w8.cell? ⟨g, 0, none⟩ = some (.slice A5 z2.length c5) := (blk_cell hHeld.1 0).trans rfl
          have T8 := Aside0.mk (show PpSt w (w8.setCell ⟨g, 0, none⟩ (.slice A6 z8.length c6)) g q w0.heap.size z8 tb2 true f1 false f3 f4 f5 from PpSt.setB hHeld.1 hHeld.2.1 hHeld.2.2.2 HR8.out HQ.out HGE.out)
          clear HR8
          refine skip_ (w1 := ?_) (by rfl) rfl ?_ ?_
          rotate_left
          · go_simp
            rfl
          refine hK.out _ _ ?_
          clear hK K
          refine done_ (by kernel_rfl) ?_
          clear hHeld
          show K_ _ _
          refine hK_ _ _ ?_
          clear hK_
          generalize w8.setCell ⟨g, 0, none⟩ (.slice A6 z8.length c6) = y8 at T8 ⊢
          clear q0 z0 HR5 HG5 S2
          obtain ⟨n0_, n1_, n2_, n3_, n4_, n5_⟩ := T8.out.cells
          obtain ⟨A9, c9, hg9, _⟩ := T8.out.1
          have z1 : y8.frozen? ⟨g, 1, none⟩ = false := blk_frozen hg9 1
          have q1 : y8.cell? ⟨g, 1, none⟩ = some (.bool tb2) := (blk_cell hg9 1).trans rfl
          clear hg9
          obtain ⟨b9, hb9⟩ : ∃ b, b = (tb2 || recO true f1 false f3 f5) := ⟨_, rfl⟩
          have B9 := Aside0.mk hb9
          clear hb9
          go_wp2_with fail
          all_goals
            go_roundg (l.length + 1 - (i + 1).toNat)
            case measure => have := HI.out; have := HI2.out; omega
            case rel =>
              have E1 := Aside0.mk (show lw rec1 rec2 (l.drop (i + 1).toNat) z8 b9 = (ys, b2) from lw_to HE.out (by rw [Z8.out, Z2.out, Z1.out, rec1]; simp [recW, nb1]) (by rw [B9.out, C2.out, rec2]; simp [recB, recO, Bool.or_assoc, Bool.or_comm, Bool.or_left_comm]))
              have E2 := Aside0.mk (show z8.length + ((l.drop (i + 1).toNat).map recN).sum ≤ 700000002 from by have := HN.out; have := HNR.out; have := N8.out; have := N1.out; have := N2.out; unfold recN at *; dsimp only at *; omega)
              first
                | (have e9 : true = b9 := (by rw [B9.out]; unfold recO; first | rfl | (simp [*]; done) | (have h_ : (f5 != 0) = true := (by assumption); have h2_ : ¬ f5 = 0 := (by simpa using h_); simp [*]; done) | (have h_ : (f5 != 0) = false := (by assumption); have h2_ : f5 = 0 := (by simpa using h_); simp [*]; done)); exact ⟨i + 1, z8, b9, by first | rfl | (rw [e1]), ⟨by have := HI.out; have := HI2.out; omega, by have := HI.out; omega, by have := HI2.out; omega⟩, ⟨E1.out⟩, ⟨E2.out⟩, ⟨(T8.out.turn2 HQ.out HGE.out true e9).1⟩, ⟨(T8.out.turn2 HQ.out HGE.out true e9).2.2⟩⟩)
                | (have e9 : tb2 = b9 := (by rw [B9.out]; unfold recO; first | rfl | (simp [*]; done) | (have h_ : (f5 != 0) = true := (by assumption); have h2_ : ¬ f5 = 0 := (by simpa using h_); simp [*]; done) | (have h_ : (f5 != 0) = false := (by assumption); have h2_ : f5 = 0 := (by simpa using h_); simp [*]; done)); exact ⟨i + 1, z8, b9, by first | rfl | (rw [e1]), ⟨by have := HI.out; have := HI2.out; omega, by have := HI.out; omega, by have := HI2.out; omega⟩, ⟨E1.out⟩, ⟨E2.out⟩, ⟨(T8.out.stay e9).1⟩, ⟨(T8.out.stay e9).2.2⟩⟩)
        · have S0 := Aside0.mk (PpSt.new HK.out HW.out (Nat.le_trans HB.out.size HK.out.below.size) true f1 true f3 f4 f5)
          have HQ := Aside0.mk (show wr.heap.size ≠ g from by have := HW.out.lt; omega)
          obtain ⟨q, hq⟩ : ∃ q, q = wr.heap.size := ⟨_, rfl⟩
          go_upto_region 5 with (fail)
          (try simp only [Act.put, List.setIfInBounds_toArray, List.set_cons_zero, List.set_cons_succ])
          generalize wr.alloc (.cells #[.bool true, .string f1, .bool true, .string f3, .int .i64 f4, .int .i64 f5] 98) = y0 at S0 ⊢
          rw [← hq] at S0 HQ ⊢
          clear HW HK hq x0 x1 x2 x3 x4 x5 ql1
          obtain ⟨n0_, n1_, n2_, n3_, n4_, n5_⟩ := S0.out.cells
          obtain ⟨A1, c1, hg1, hr1⟩ := S0.out.1
          have HR1 := Aside0.mk hr1
          have HG1 := Aside0.mk hg1
          have HS1 := Aside0.mk (Nat.le_trans HB.out.size S0.out.2.2.below.size)
          have q0 : y0.cell? ⟨g, 0, none⟩ = some (.slice A1 zs.length c1) := (blk_cell hg1 0).trans rfl
          clear hg1 hr1
          obtain ⟨z1, hz1⟩ : ∃ x, x = zs ++ [(3 : Int)] := ⟨_, rfl⟩
          have Z1 := Aside0.mk hz1
          have N1 := Aside0.mk (show z1.length = zs.length + 1 from by rw [hz1, List.length_append]; rfl)
          clear hz1
          go_upto_region 11 with ((with_reducible refine gate_builtin (b := .append) (xs := #[.tmp 38, .tmp 40]) rfl ?_); at_builtin; refine Kd.R_append (Kd.int .u8) (w0 := y0) w0.heap.size rfl (.tmp 38) (.tmp 40) 29 5 (.int .u8 0) 1 rfl Try.underlying29 info_u8 rfl (by decide) (by omega) (.slice A1 zs.length c1) zs 3 [.int .u8 3] (fun _ => True) (fun _ => False) rfl rfl ?aP (fun _ hk => hk.elim) ?aF ?aO ?aB ?aS ?aL ?_; (case aP => exact rfl); (case aF => exact (fun _ _ => trivial)); (case aO => exact HR1.out); (case aB => exact Below.refl _ _); (case aS => exact HS1.out); (case aL => have := HN.out; omega); intro v2 w2 ho hb hg_ hat; rw [← Z1.out] at ho; obtain ⟨A2, c2, e2⟩ := Kd.R_slice ho; subst e2; have HO2 := Aside0.mk ho; have HK2 := Aside0.mk ((KeepW.refl y0 g w0.heap.size).grown HR1.out hg_ hb); have hG2 := hg_.block g (blk_lt HG1.out) (Kd.R_ne HR1.out HG1.out (by decide)); rw [HG1.out] at hG2; have HG2 := Aside0.mk hG2; have z0 : w2.frozen? ⟨g, 0, none⟩ = false := blk_frozen hG2 0; have q0 : w2.cell? ⟨g, 0, none⟩ = some (.slice A1 zs.length c1) := (blk_cell hG2 0).trans rfl; clear ho hb hg_ hat hG2)
          (try simp only [Act.put, List.setIfInBounds_toArray, List.set_cons_zero, List.set_cons_succ])
          have S1 := Aside0.mk (S0.out.step HQ.out (Pn.mk' (by simpa using blk_set HG2.out 0 (.slice A2 z1.length c2)) (Kd.R_set HO2.out HG2.out (by decide) 0 _)) (HK2.out.set HGE.out 0 _))
          generalize w2.setCell ⟨g, 0, none⟩ (.slice A2 z1.length c2) = y1 at S1 ⊢
          clear n0_ n1_ n2_ n3_ n4_ n5_ q0 z0 HR1 HG1 HS1 HO2 HK2 HG2 S0
          obtain ⟨n0_, n1_, n2_, n3_, n4_, n5_⟩ := S1.out.cells
          go_wp2_with fail
          refine (pn_text w0 g z1 false f1 _ S1.out.1 HGE.out (HB.out.trans S1.out.2.2.below) (by have := HN.out; have := HNR.out; have := N1.out; unfold recN at *; dsimp only at *; omega)).mono ?_
          rintro e w3 ⟨rfl, h1, h2⟩
          obtain ⟨z2, hz⟩ : ∃ x, x = z1 ++ (nb (f1.size : Nat) 2 ++ bytesOf f1) := ⟨_, rfl⟩
          have Z2 := Aside0.mk hz
          have N2 := Aside0.mk (show z2.length = z1.length + (2 + f1.size) from by rw [hz]; rw [List.length_append, List.length_append, nb_len, bytesOf_length])
          rw [← hz] at h1
          obtain ⟨tb2, hc⟩ : ∃ b, b = (false || decide (65535 < f1.size)) := ⟨_, rfl⟩
          have C2 := Aside0.mk hc
          rw [← hc] at h1
          clear hc hz
          have S2 := Aside0.mk (S1.out.step HQ.out h1 h2)
          clear h1 h2 S1 n0_ n1_ n2_ n3_ n4_ n5_
          obtain ⟨n0_, n1_, n2_, n3_, n4_, n5_⟩ := S2.out.cells
          go_wp2_with fail
          refine (pn_text w0 g z2 tb2 f3 _ S2.out.1 HGE.out (HB.out.trans S2.out.2.2.below) (by have := HN.out; have := HNR.out; have := N1.out; have := N2.out; unfold recN at *; dsimp only at *; omega)).mono ?_
          rintro e w4 ⟨rfl, h1, h2⟩
          obtain ⟨z3, hz⟩ : ∃ x, x = z2 ++ (nb (f3.size : Nat) 2 ++ bytesOf f3) := ⟨_, rfl⟩
          have Z3 := Aside0.mk hz
          have N3 := Aside0.mk (show z3.length = z2.length + (2 + f3.size) from by rw [hz]; rw [List.length_append, List.length_append, nb_len, bytesOf_length])
          rw [← hz] at h1
          obtain ⟨tb3, hc⟩ : ∃ b, b = (tb2 || decide (65535 < f3.size)) := ⟨_, rfl⟩
          have C3 := Aside0.mk hc
          rw [← hc] at h1
          clear hc hz
          have S3 := Aside0.mk (S2.out.step HQ.out h1 h2)
          clear h1 h2 S2 n0_ n1_ n2_ n3_ n4_ n5_
          obtain ⟨n0_, n1_, n2_, n3_, n4_, n5_⟩ := S3.out.cells
          obtain ⟨A5, c5, hg5, hr5⟩ := S3.out.1
          have HR5 := Aside0.mk hr5
          have HG5 := Aside0.mk hg5
          clear hg5 hr5
          have L5 := Aside0.mk (show LySt w w4 g w0.heap.size q q A5 z3.length c5 tb3 #[.bool true, .string f1, .bool true, .string f3, .int .i64 f4, .int .i64 f5] 98 #[.bool true, .string f1, .bool true, .string f3, .int .i64 f4, .int .i64 f5] 98 from ⟨HG5.out, S3.out.2.1, S3.out.2.1, S3.out.2.2⟩)
          go_upto_region 15 with (fail)
          rename_i K_ hK_
          clear n0_ n1_ n2_ n3_ n4_ n5_
          (try simp only [Act.put, List.setIfInBounds_toArray, List.set_cons_zero, List.set_cons_succ])
          obtain ⟨z8, hz⟩ : ∃ x, x = z3 ++ nb f4 8 := ⟨_, rfl⟩
          have Z8 := Aside0.mk hz
          have N8 := Aside0.mk (show z8.length = z3.length + 8 from by rw [hz]; rw [List.length_append, nb_len])
          clear hz
          refine start_ (n := 12) (S := fun w' => LySt w w' g w0.heap.size q q A5 z3.length c5 tb3 #[.bool true, .string f1, .bool true, .string f3, .int .i64 f4, .int .i64 f5] 98 #[.bool true, .string f1, .bool true, .string f3, .int .i64 f4, .int .i64 f5] 98) (ds := [11]) #[false, false, false, false, false, false, false, false, false, false, false, false] (by kernel_rfl) rfl rfl (L5.out.drewN 1) (fun hHeld => ?_)
          refine pure_ (i := 0) (N := (some 56)) (v := ?_) (a' := ?_) #[true, false, false, false, false, false, false, false, false, false, false, false] rfl rfl (by kernel_rfl) (fun _ _ _ h => h) (Or.inl ⟨by rfl, ?_⟩) ?_ ?_
          rotate_left
          · intro w'
            go_simp
            with_reducible rfl
          rotate_left
          · simp only [Act.put, List.setIfInBounds_toArray, List.set_cons_zero, List.set_cons_succ, i64_w, i32_w]
            rfl
          refine pure_ (i := 1) (N := (some 57)) (v := ?_) (a' := ?_) #[true, true, false, false, false, false, false, false, false, false, false, false] rfl rfl (by kernel_rfl) (fun _ _ _ h => h) (Or.inl ⟨by rfl, ?_⟩) ?_ ?_
          rotate_left
          · intro w'
            go_simp
            with_reducible rfl
          rotate_left
          · simp only [Act.put, List.setIfInBounds_toArray, List.set_cons_zero, List.set_cons_succ, i64_w, i32_w]
            rfl
          refine pure_ (i := 2) (N := (some 58)) (v := ?_) (a' := ?_) #[true, true, true, false, false, false, false, false, false, false, false, false] rfl rfl (by kernel_rfl) (fun _ _ _ h => h) (Or.inl ⟨by rfl, ?_⟩) ?_ ?_
          rotate_left
          · intro w'
            go_simp
            with_reducible rfl
          rotate_left
          · simp only [Act.put, List.setIfInBounds_toArray, List.set_cons_zero, List.set_cons_succ, i64_w, i32_w]
            rfl
          refine pure_ (i := 3) (N := (some 59)) (v := ?_) (a' := ?_) #[true, true, true, true, false, false, false, false, false, false, false, false] rfl rfl (by kernel_rfl) (fun _ _ _ h => h) (Or.inl ⟨by rfl, ?_⟩) ?_ ?_
          rotate_left
          · intro w'
            go_simp
            with_reducible rfl
          rotate_left
          · simp only [Act.put, List.setIfInBounds_toArray, List.set_cons_zero, List.set_cons_succ, i64_w, i32_w]
            rfl
          refine take_ (i := 4) (N := (some 60)) (v := ?_) (a' := ?_) #[true, true, true, true, true, false, false, false, false, false, false, false] rfl rfl (by kernel_rfl) (fun _ _ _ h => h) (Or.inl ⟨by rfl, ?_⟩) hHeld ?_ ?_
          rotate_left
          · rintro w' s
            have q0 : w'.cell? ⟨g, 0, none⟩ = some (.slice A5 z3.length c5) := (blk_cell s.1 0).trans rfl
            go_simp
            with_reducible rfl
          rotate_left
          · simp only [Act.put, List.setIfInBounds_toArray, List.set_cons_zero, List.set_cons_succ, i64_w, i32_w]
            rfl
          refine pure_ (i := 5) (N := (some 61)) (v := ?_) (a' := ?_) #[true, true, true, true, true, true, false, false, false, false, false, false] rfl rfl (by kernel_rfl) (fun _ _ _ h => h) (Or.inl ⟨by rfl, ?_⟩) ?_ ?_
          rotate_left
          · intro w'
            go_simp
            with_reducible rfl
          rotate_left
          · simp only [Act.put, List.setIfInBounds_toArray, List.set_cons_zero, List.set_cons_succ, i64_w, i32_w]
            rfl
          refine take_ (i := 6) (N := (some 62)) (v := ?_) (a' := ?_) #[true, true, true, true, true, true, true, false, false, false, false, false] rfl rfl (by kernel_rfl) (fun _ _ _ h => h) (Or.inl ⟨by rfl, ?_⟩) hHeld ?_ ?_
          rotate_left
          · rintro w' s
            have q0 : w'.cell? ⟨q, 4, none⟩ = some (.int .i64 f4) := (blk_cell s.2.1 4).trans rfl
            go_simp
            with_reducible rfl
          rotate_left
          · simp only [Act.put, List.setIfInBounds_toArray, List.set_cons_zero, List.set_cons_succ, i64_w, i32_w]
            rfl
          refine pure_ (i := 7) (N := (some 63)) (v := ?_) (a' := ?_) #[true, true, true, true, true, true, true, true, false, false, false, false] rfl rfl (by kernel_rfl) (fun _ _ _ h => h) (Or.inl ⟨by rfl, ?_⟩) ?_ ?_
          rotate_left
          · intro w'
            go_simp
            with_reducible rfl
          rotate_left
          · simp only [Act.put, List.setIfInBounds_toArray, List.set_cons_zero, List.set_cons_succ, i64_w, i32_w]
            rfl
          refine one_ (i := 8) (N := (some 64)) #[true, true, true, true, true, true, true, true, true, false, false, false] rfl rfl (by kernel_rfl) (by decide) (fun K hK => ?_)
          refine goes_ Try.func33 (by kernel_rfl) rfl #[.slice A5 z3.length c5, .int .i64 (8 : Nat), .int .u64 (IntKind.u64.wrap f4)] (by rfl) rfl rfl (by (try simp only [List.map_toArray, List.map_cons, List.map_nil]); first | done | rfl) ?_
          refine (pn_lay w0 g z3 tb3 f4 8 _ A5 c5 (HB.out.trans hHeld.2.2.2.below) hHeld.1 (Kd.R_drewN HR5.out 1) (by decide) (by decide) (by have := HN.out; have := HNR.out; have := N1.out; have := N2.out; have := N3.out; unfold recN at *; dsimp only at *; omega)).mono ?_
          rintro e w8 ⟨⟨A6, c6, rfl, hr⟩, hg2, hk⟩
          refine ⟨_, rfl, ?_⟩
          rw [← Z8.out] at hr ⊢
          have HR8 := Aside0.mk hr
          clear hr
          refine hK.out _ _ (hHeld.call hg2 hk HQ.out HQ.out (by decide) (by decide)) (fun hHeld => ?_)
          clear hK K
          refine norm_ (a' := ?_) ?_ ?_
          rotate_left
          · show Act.put _ (some 64) _ = _
            simp only [Act.put, List.setIfInBounds_toArray, List.set_cons_zero, List.set_cons_succ, i64_w, i32_w]
            rfl
          refine pure_ (i := 9) (N := (some 65)) (v := ?_) (a' := ?_) #[true, true, true, true, true, true, true, true, true, true, false, false] rfl rfl (by kernel_rfl) (fun _ _ _ h => h) (Or.inl ⟨by rfl, ?_⟩) ?_ ?_
          rotate_left
          · intro w'
            go_simp
            with_reducible rfl
          rotate_left
          · simp only [Act.put, List.setIfInBounds_toArray, List.set_cons_zero, List.set_cons_succ, i64_w, i32_w]
            rfl
          refine pure_ (i := 10) (N := (some 66)) (v := ?_) (a' := ?_) #[true, true, true, true, true, true, true, true, true, true, true, false] rfl rfl (by kernel_rfl) (fun _ _ _ h => h) (Or.inl ⟨by rfl, ?_⟩) ?_ ?_
          rotate_left
          · intro w'
            go_simp
            with_reducible rfl
          rotate_left
          · simp only [Act.put, List.setIfInBounds_toArray, List.set_cons_zero, List.set_cons_succ, i64_w, i32_w]
            rfl
          refine last_ (i := 11) (N := none) #[true, true, true, true, true, true, true, true, true, true, true, true] rfl rfl (by kernel_rfl) (by decide) (fun K hK => ?_)
          have z0 : w8.frozen? ⟨g, 0, none⟩ = false := blk_frozen hHeld.1 0
          have q0 : w8.cell? ⟨g, 0, none⟩ = some (.slice A5 z3.length c5) := (blk_cell hHeld.1 0).trans rfl
          have T8 := Aside0.mk (show PpSt w (w8.setCell ⟨g, 0, none⟩ (.slice A6 z8.length c6)) g q w0.heap.size z8 tb3 true f1 true f3 f4 f5 from PpSt.setB hHeld.1 hHeld.2.1 hHeld.2.2.2 HR8.out HQ.out HGE.out)
          clear HR8
          refine skip_ (w1 := ?_) (by rfl) rfl ?_ ?_
          rotate_left
          · go_simp
            rfl
          refine hK.out _ _ ?_
          clear hK K
          refine done_ (by kernel_rfl) ?_
          clear hHeld
          show K_ _ _
          refine hK_ _ _ ?_
          clear hK_
          generalize w8.setCell ⟨g, 0, none⟩ (.slice A6 z8.length c6) = y8 at T8 ⊢
          clear q0 z0 HR5 HG5 S3
          obtain ⟨n0_, n1_, n2_, n3_, n4_, n5_⟩ := T8.out.cells
          obtain ⟨A9, c9, hg9, _⟩ := T8.out.1
          have z1 : y8.frozen? ⟨g, 1, none⟩ = false := blk_frozen hg9 1
          have q1 : y8.cell? ⟨g, 1, none⟩ = some (.bool tb3) := (blk_cell hg9 1).trans rfl
          clear hg9
          obtain ⟨b9, hb9⟩ : ∃ b, b = (tb3 || recO true f1 true f3 f5) := ⟨_, rfl⟩
          have B9 := Aside0.mk hb9
          clear hb9
          go_wp2_with fail
          all_goals
            go_roundg (l.length + 1 - (i + 1).toNat)
            case measure => have := HI.out; have := HI2.out; omega
            case rel =>
              have E1 := Aside0.mk (show lw rec1 rec2 (l.drop (i + 1).toNat) z8 b9 = (ys, b2) from lw_to HE.out (by rw [Z8.out, Z3.out, Z2.out, Z1.out, rec1]; simp [recW, nb1]) (by rw [B9.out, C3.out, C2.out, rec2]; simp [recB, recO, Bool.or_assoc, Bool.or_comm, Bool.or_left_comm]))
              have E2 := Aside0.mk (show z8.length + ((l.drop (i + 1).toNat).map recN).sum ≤ 700000002 from by have := HN.out; have := HNR.out; have := N8.out; have := N1.out; have := N2.out; have := N3.out; unfold recN at *; dsimp only at *; omega)
              first
                | (have e9 : true = b9 := (by rw [B9.out]; unfold recO; first | rfl | (simp [*]; done) | (have h_ : (f5 != 0) = true := (by assumption); have h2_ : ¬ f5 = 0 := (by simpa using h_); simp [*]; done) | (have h_ : (f5 != 0) = false := (by assumption); have h2_ : f5 = 0 := (by simpa using h_); simp [*]; done)); exact ⟨i + 1, z8, b9, by first | rfl | (rw [e1]), ⟨by have := HI.out; have := HI2.out; omega, by have := HI.out; omega, by have := HI2.out; omega⟩, ⟨E1.out⟩, ⟨E2.out⟩, ⟨(T8.out.turn2 HQ.out HGE.out true e9).1⟩, ⟨(T8.out.turn2 HQ.out HGE.out true e9).2.2⟩⟩)
                | (have e9 : tb3 = b9 := (by rw [B9.out]; unfold recO; first | rfl | (simp [*]; done) | (have h_ : (f5 != 0) = true := (by assumption); have h2_ : ¬ f5 = 0 := (by simpa using h_); simp [*]; done) | (have h_ : (f5 != 0) = false := (by assumption); have h2_ : f5 = 0 := (by simpa using h_); simp [*]; done)); exact ⟨i + 1, z8, b9, by first | rfl | (rw [e1]), ⟨by have := HI.out; have := HI2.out; omega, by have := HI.out; omega, by have := HI2.out; omega⟩, ⟨E1.out⟩, ⟨E2.out⟩, ⟨(T8.out.stay e9).1⟩, ⟨(T8.out.stay e9).2.2⟩⟩)

end Go.Proofs.Ytncfofnikmfjbaa.PCi
