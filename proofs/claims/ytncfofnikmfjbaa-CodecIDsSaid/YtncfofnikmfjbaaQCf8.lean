import Derived.Test.YtncfofnikmfjbaaQCf7
import Derived.Outline
import Derived.StillTailTactics
import Derived.RegionTactic
import Derived.BigRegion
import Derived.Lib.BufferWrite
namespace Go.Proofs.Ytncfofnikmfjbaa.PCi
open Go.RowKit Go.Proofs.YtncfofnikmfjbaaW.PrintWords Go.Proofs.YtncfofnikmfjbaaW.PrintLast Go.Proofs.YtncfofnikmfjbaaW.PrintMore
attribute [local go_sem] max2_int min2_int max_two min_two max_three min_three max_four min_four
set_option linter.unusedVariables false
set_option linter.unusedSimpArgs false

/-- A record. -/
def rdFl (f : Int) (n : Int) : Bool := decide (0 < Go.bits .and .i64 f n)
def rdOpt (is : Bool) (l : List Int) (bad : Bool) : ByteArray × List Int × Bool := if is = true then rdText l bad else (⟨#[]⟩, l, bad)
def rdRec (l : List Int) (bad : Bool) : S98 × List Int × Bool :=
  let a := rdNum 1 l bad
  let k := rdOpt (rdFl a.1 1) a.2.1 (a.2.2 || decide (3 < a.1))
  let v := rdOpt (rdFl a.1 2) k.2.1 k.2.2
  let t := rdNum 8 v.2.1 v.2.2
  (⟨rdFl a.1 1, k.1, rdFl a.1 2, v.1, t.1, 0⟩, t.2.1, t.2.2)
structure RrSt (u w W : World) (g : Nat) (l : List Int) (bad : Bool) (hk : Bool) (key : ByteArray) (hv : Bool) (val : ByteArray) (t : Int) : Prop where
  rd : Rd u W g l bad
  rb : W.heap[w.heap.size]? = some (.cells #[.bool hk, .string key, .bool hv, .string val, .int .i64 t, .int .i64 0] 98 (0, 0))
  keep : KeepR w W g u.heap.size
section
variable {u w W W2 : World} {g : Nat} {l l2 : List Int} {bad b2 : Bool} {hk : Bool} {key : ByteArray} {hv : Bool} {val : ByteArray} {t : Int}
theorem RrSt.new (hF : Rd u w g l bad) (hu : Below u.heap.size u w) : RrSt u w (w.alloc (.cells #[.bool false, .string ⟨#[]⟩, .bool false, .string ⟨#[]⟩, .int .i64 0, .int .i64 0] 98)) g l bad false ⟨#[]⟩ false ⟨#[]⟩ 0 :=
  ⟨hF.below (below_alloc (Below.refl _ _) _), heap_alloc_new w _, KeepR.of_below (below_alloc (Below.refl _ _) _) hu.size⟩
theorem RrSt.step (s : RrSt u w W g l bad hk key hv val t) (hg : g < w.heap.size) (h : Rd u W2 g l2 b2) (k : KeepR W W2 g u.heap.size) : RrSt u w W2 g l2 b2 hk key hv val t := ⟨h, k.keep _ _ (by omega) s.rb, s.keep.trans k⟩
theorem RrSt.drewN (s : RrSt u w W g l bad hk key hv val t) (n : Nat) : RrSt u w (W.drewN n) g l bad hk key hv val t := ⟨s.rd, s.rb, s.keep.drewN n⟩
theorem RrSt.turn (s : RrSt u w W g l bad hk key hv val t) (hg : g < w.heap.size) (hu : u.heap.size ≤ g) (b : Bool) (e : b = b2) : RrSt u w (W.setCell ⟨g, 1, none⟩ (.bool b)) g l b2 hk key hv val t := e ▸ s.step hg (s.rd.turn b) ((KeepR.refl _ _ _).set hu 1 _)
theorem KeepR.far {g base : Nat} (h : KeepR w W g base) {r : Nat} (hr : w.heap.size ≤ r) (hb : base ≤ r) (j : Nat) (v : Value) : KeepR w (W.setCell ⟨r, j, none⟩ v) g base :=
  ⟨h.below.setCell (p := ⟨r, j, none⟩) hb v, fun i o hi ho => (Below.heap_setCell W ⟨r, j, none⟩ v i (by have := blk_lt ho; show i ≠ r; omega)).trans (h.keep i o hi ho)⟩
theorem Rd.far (h : Rd u W g l bad) {r : Nat} (hr : g ≠ r) (j : Nat) (v : Value) : Rd u (W.setCell ⟨r, j, none⟩ v) g l bad := by
  obtain ⟨A, c, h1, h2⟩ := h
  exact ⟨A, c, blk_far h1 hr v, h2⟩
theorem RrSt.cells (s : RrSt u w W g l bad hk key hv val t) : W.cell? ⟨w.heap.size, 0, none⟩ = some (.bool hk) ∧ W.cell? ⟨w.heap.size, 1, none⟩ = some (.string key) ∧ W.cell? ⟨w.heap.size, 2, none⟩ = some (.bool hv) ∧ W.cell? ⟨w.heap.size, 3, none⟩ = some (.string val) ∧ W.cell? ⟨w.heap.size, 4, none⟩ = some (.int .i64 t) ∧ W.cell? ⟨w.heap.size, 5, none⟩ = some (.int .i64 0) ∧ ∀ j, W.frozen? ⟨w.heap.size, j, none⟩ = false :=
  ⟨(blk_cell s.rb 0).trans rfl, (blk_cell s.rb 1).trans rfl, (blk_cell s.rb 2).trans rfl, (blk_cell s.rb 3).trans rfl, (blk_cell s.rb 4).trans rfl, (blk_cell s.rb 5).trans rfl, fun j => blk_frozen s.rb j⟩
theorem RrSt.set0 (s : RrSt u w W g l bad hk key hv val t) (hg : g < w.heap.size) (hu : u.heap.size ≤ w.heap.size) (x : Bool) : RrSt u w (W.setCell ⟨w.heap.size, 0, none⟩ (.bool x)) g l bad x key hv val t :=
  ⟨s.rd.far (by omega) _ _, by simpa using blk_set s.rb 0 (.bool x), s.keep.far (Nat.le_refl _) hu _ _⟩
theorem RrSt.set1 (s : RrSt u w W g l bad hk key hv val t) (hg : g < w.heap.size) (hu : u.heap.size ≤ w.heap.size) (x : ByteArray) : RrSt u w (W.setCell ⟨w.heap.size, 1, none⟩ (.string x)) g l bad hk x hv val t :=
  ⟨s.rd.far (by omega) _ _, by simpa using blk_set s.rb 1 (.string x), s.keep.far (Nat.le_refl _) hu _ _⟩
theorem RrSt.set2 (s : RrSt u w W g l bad hk key hv val t) (hg : g < w.heap.size) (hu : u.heap.size ≤ w.heap.size) (x : Bool) : RrSt u w (W.setCell ⟨w.heap.size, 2, none⟩ (.bool x)) g l bad hk key x val t :=
  ⟨s.rd.far (by omega) _ _, by simpa using blk_set s.rb 2 (.bool x), s.keep.far (Nat.le_refl _) hu _ _⟩
theorem RrSt.set3 (s : RrSt u w W g l bad hk key hv val t) (hg : g < w.heap.size) (hu : u.heap.size ≤ w.heap.size) (x : ByteArray) : RrSt u w (W.setCell ⟨w.heap.size, 3, none⟩ (.string x)) g l bad hk key hv x t :=
  ⟨s.rd.far (by omega) _ _, by simpa using blk_set s.rb 3 (.string x), s.keep.far (Nat.le_refl _) hu _ _⟩
theorem RrSt.set4 (s : RrSt u w W g l bad hk key hv val t) (hg : g < w.heap.size) (hu : u.heap.size ≤ w.heap.size) (x : Int) : RrSt u w (W.setCell ⟨w.heap.size, 4, none⟩ (.int .i64 x)) g l bad hk key hv val x :=
  ⟨s.rd.far (by omega) _ _, by simpa using blk_set s.rb 4 (.int .i64 x), s.keep.far (Nat.le_refl _) hu _ _⟩
end
theorem results_c1 {P : Program} {fn : Func} {p : Tmp} {ty : TypeId} (h : fn.results = #[.cell p ty]) (tmps : Array Value) (w : World) (g : Nat) (t : TypeId) (cs : Array Value) (fr : Nat × Nat) (d : TypeDesc)
    (hp : tmps.getD p undef = .pointer (some ⟨g, 0, none⟩)) (hg : w.heap[g]? = some (.cells cs t fr))
    (hu : P.underlying ty = some d) (hd : (match d with | .struct _ | .array _ _ => true | _ => false) = true) (hi : (P.info? ty).map (·.size) = some cs.size) :
    (results fn tmps).run P w = .ok (.agg cs) w := by
  have hp' : tmps[p]?.getD undef = .pointer (some ⟨g, 0, none⟩) := by simpa using hp
  simp [results, h, hp', asAddr, run_loadVar_row w g t ty cs fr d hg hu hd hi]
theorem rr_last {u w W : World} {g : Nat} {l : List Int} {bad : Bool} {hk : Bool} {key : ByteArray} {hv : Bool} {val : ByteArray} {t : Int} (s : RrSt u w W g l bad hk key hv val t) (hg : g < w.heap.size) (hu : u.heap.size ≤ w.heap.size) : RrSt u w (W.setCell ⟨w.heap.size, 5, none⟩ (.int .i64 0)) g l bad hk key hv val t :=
  ⟨s.rd.far (by omega) _ _, by simpa using blk_set s.rb 5 (.int .i64 0), s.keep.far (Nat.le_refl _) hu _ _⟩
theorem rdRec_eq0 {l l1 : List Int} {bad b1 b2 : Bool} {f : Int} (ha : (f, l1, b1) = rdNum 1 l bad) (hb2 : b2 = (b1 || decide (3 < f))) (hk1 : rdFl f 1 = false) (hv1 : rdFl f 2 = false) : rdRec l bad = (⟨false, ⟨#[]⟩, false, ⟨#[]⟩, (rdNum 8 l1 b2).1, 0⟩, (rdNum 8 l1 b2).2.1, (rdNum 8 l1 b2).2.2) := by
  unfold rdRec rdOpt
  rw [← ha]
  simp only [hk1, hv1, ← hb2, if_true, Bool.false_eq_true, if_false]
set_option maxHeartbeats 4000000 in
set_option maxRecDepth 100000 in
theorem rd_record0 (u : World) (g : Nat) (l : List Int) (bad : Bool) (x : S98) (l2' : List Int) (bad2 : Bool) (w : World) (hF : Rd u w g l bad) (hg : u.heap.size ≤ g) (hu : Below u.heap.size u w) (hk1 : rdFl (rdNum 1 l bad).1 1 = false) (hv1 : rdFl (rdNum 1 l bad).1 2 = false) (h : rdRec l bad = (x, l2', bad2)) :
    Calls Try.prog 66 #[.pointer (some ⟨g, 0, none⟩)] w fun e w' => e = .returned (.agg #[.bool x.f0, .string x.f1, .bool x.f2, .string x.f3, .int .i64 x.f4, .int .i64 x.f5]) ∧ Rd u w' g l2' bad2 ∧ KeepR w w' g u.heap.size := by
  obtain ⟨⟨f, l1, b1⟩, ha⟩ : ∃ x, x = rdNum 1 l bad := ⟨_, rfl⟩
  rw [← ha] at hk1 hv1
  dsimp only at hk1 hv1
  obtain ⟨b2, hb2⟩ : ∃ x, x = (b1 || decide (3 < f)) := ⟨_, rfl⟩
  have hpost := rdRec_eq0 ha hb2 hk1 hv1
  rw [h] at hpost
  (try dsimp only at hpost)
  (try dsimp only at hpost)
  obtain ⟨⟨t, l9, b9⟩, ht⟩ : ∃ x, x = rdNum 8 l1 b2 := ⟨_, rfl⟩
  rw [← ht] at hpost
  simp only [Prod.mk.injEq] at hpost
  obtain ⟨rfl, rfl, rfl⟩ := hpost
  have HT := Aside0.mk ht.symm
  have HA := Aside0.mk ha.symm
  have HB2 := Aside0.mk hb2
  have f1 : decide (0 < Go.bits .and .i64 f 1) = false := hk1
  have f2 : decide (0 < Go.bits .and .i64 f 2) = false := hv1
  have HF := Aside0.mk hF
  have HGE := Aside0.mk hg
  have HU := Aside0.mk hu
  have HL := Aside0.mk hF.lt
  have HUG := Aside0.mk hu.size
  have S0 := Aside0.mk (RrSt.new hF hu)
  clear hF hg hu h ha hb2 hk1 hv1 ht
  go_enter Try.func66, Try.ntmps66
  go_upto_region 1 with (fail)
  (try simp only [Act.put, List.setIfInBounds_toArray, List.set_cons_zero, List.set_cons_succ])
  generalize w.alloc (.cells #[.bool false, .string ⟨#[]⟩, .bool false, .string ⟨#[]⟩, .int .i64 0, .int .i64 0] 98) = y0 at S0 ⊢
  go_wp2_with fail
  refine (rd_number u g l bad 1 f l1 b1 y0 S0.out.rd HGE.out (HU.out.trans S0.out.keep.below) (by decide) (by decide) HA.out).mono ?_
  rintro e y1 ⟨rfl, h3, h4⟩
  have S1 := Aside0.mk (S0.out.step HL.out h3 h4)
  clear h3 h4 S0
  go_upto_region 2 with (fail)
  (try simp only [Act.put, List.setIfInBounds_toArray, List.set_cons_zero, List.set_cons_succ])
  obtain ⟨A, c, hg_, _⟩ := S1.out.rd
  have q1 : y1.cell? ⟨g, 1, none⟩ = some (.bool b1) := (blk_cell hg_ 1).trans rfl
  have z1 : y1.frozen? ⟨g, 1, none⟩ = false := blk_frozen hg_ 1
  clear hg_
  go_cut [3] (fun v3 wc => v3 = .int .i64 f ∧ Aside0 (RrSt u w wc g l1 b2 false ⟨#[]⟩ false ⟨#[]⟩ 0))
  case first =>
    go_wp2
    all_goals
      go_meet
      case rel => exact ⟨by rfl, ⟨S1.out.turn HL.out HGE.out _ (by rw [HB2.out]; first | rfl | (simp [*]; done))⟩⟩
  clear S1 q1 z1
  obtain ⟨rfl, S2⟩ := hcut
  (try clear n0_ n1_ n2_ n3_ n4_ n5_ nf_ z0_ z1_ z2_ z3_ z4_ z5_)
  obtain ⟨n0_, n1_, n2_, n3_, n4_, n5_, nf_⟩ := S2.out.cells
  have z0_ := nf_ 0
  have z1_ := nf_ 1
  have z2_ := nf_ 2
  have z3_ := nf_ 3
  have z4_ := nf_ 4
  have z5_ := nf_ 5
  go_upto_region 4 with (fail)
  (try simp only [Act.put, List.setIfInBounds_toArray, List.set_cons_zero, List.set_cons_succ])
  have S3 := Aside0.mk ((S2.out.set0 HL.out HUG.out false).set2 HL.out HUG.out false)
  skip
  generalize (World.setCell (World.setCell _ ⟨w.heap.size, 0, none⟩ (.bool false)) ⟨w.heap.size, 2, none⟩ (.bool false)) = y3 at S3 ⊢
  clear S2
  (try clear n0_ n1_ n2_ n3_ n4_ n5_ nf_ z0_ z1_ z2_ z3_ z4_ z5_)
  obtain ⟨n0_, n1_, n2_, n3_, n4_, n5_, nf_⟩ := S3.out.cells
  have z0_ := nf_ 0
  have z1_ := nf_ 1
  have z2_ := nf_ 2
  have z3_ := nf_ 3
  have z4_ := nf_ 4
  have z5_ := nf_ 5
  go_wp2_with fail
  refine (rd_number u g l1 b2 8 t l2' bad2 _ S3.out.rd HGE.out (HU.out.trans S3.out.keep.below) (by decide) (by decide) HT.out).mono ?_
  rintro e y4 ⟨rfl, h3, h4⟩
  have S4 := Aside0.mk (S3.out.step HL.out h3 h4)
  clear h3 h4 S3
  (try clear n0_ n1_ n2_ n3_ n4_ n5_ nf_ z0_ z1_ z2_ z3_ z4_ z5_)
  obtain ⟨n0_, n1_, n2_, n3_, n4_, n5_, nf_⟩ := S4.out.cells
  have z0_ := nf_ 0
  have z1_ := nf_ 1
  have z2_ := nf_ 2
  have z3_ := nf_ 3
  have z4_ := nf_ 4
  have z5_ := nf_ 5
  go_upto_region 9 with (fail)
  (try simp only [Act.put, List.setIfInBounds_toArray, List.set_cons_zero, List.set_cons_succ])
  have S5 := Aside0.mk (S4.out.set4 HL.out HUG.out t)
  generalize (World.setCell y4 ⟨w.heap.size, 4, none⟩ (.int .i64 t)) = y5 at S5 ⊢
  clear S4
  (try clear n0_ n1_ n2_ n3_ n4_ n5_ nf_ z0_ z1_ z2_ z3_ z4_ z5_)
  obtain ⟨n0_, n1_, n2_, n3_, n4_, n5_, nf_⟩ := S5.out.cells
  have z0_ := nf_ 0
  have z1_ := nf_ 1
  have z2_ := nf_ 2
  have z3_ := nf_ 3
  have z4_ := nf_ 4
  have z5_ := nf_ 5
  go_wp2_with fail
  have Z_ := rr_last (((((((S5.out.set0 HL.out HUG.out false).set1 HL.out HUG.out ⟨#[]⟩).set2 HL.out HUG.out false).set3 HL.out HUG.out ⟨#[]⟩).set4 HL.out HUG.out t)))
  refine bodyPost_ret (results_c1 rfl _ _ w.heap.size 98 #[.bool false, .string ⟨#[]⟩, .bool false, .string ⟨#[]⟩, .int .i64 t, .int .i64 0] (0, 0) _ rfl (Z_ HL.out HUG.out).rb Try.underlying98 rfl (by kernel_rfl)) rfl ?_
  exact ⟨rfl, (Z_ HL.out HUG.out).rd, (Z_ HL.out HUG.out).keep⟩
theorem rdRec_eq2 {l l1 : List Int} {bad b1 b2 : Bool} {f : Int} (ha : (f, l1, b1) = rdNum 1 l bad) (hb2 : b2 = (b1 || decide (3 < f))) (hk1 : rdFl f 1 = false) (hv1 : rdFl f 2 = true) : rdRec l bad = (⟨false, ⟨#[]⟩, true, (rdText l1 b2).1, (rdNum 8 (rdText l1 b2).2.1 (rdText l1 b2).2.2).1, 0⟩, (rdNum 8 (rdText l1 b2).2.1 (rdText l1 b2).2.2).2.1, (rdNum 8 (rdText l1 b2).2.1 (rdText l1 b2).2.2).2.2) := by
  unfold rdRec rdOpt
  rw [← ha]
  simp only [hk1, hv1, ← hb2, if_true, Bool.false_eq_true, if_false]
set_option maxHeartbeats 4000000 in
set_option maxRecDepth 100000 in
theorem rd_record2 (u : World) (g : Nat) (l : List Int) (bad : Bool) (x : S98) (l2' : List Int) (bad2 : Bool) (w : World) (hF : Rd u w g l bad) (hg : u.heap.size ≤ g) (hu : Below u.heap.size u w) (hk1 : rdFl (rdNum 1 l bad).1 1 = false) (hv1 : rdFl (rdNum 1 l bad).1 2 = true) (h : rdRec l bad = (x, l2', bad2)) :
    Calls Try.prog 66 #[.pointer (some ⟨g, 0, none⟩)] w fun e w' => e = .returned (.agg #[.bool x.f0, .string x.f1, .bool x.f2, .string x.f3, .int .i64 x.f4, .int .i64 x.f5]) ∧ Rd u w' g l2' bad2 ∧ KeepR w w' g u.heap.size := by
  obtain ⟨⟨f, l1, b1⟩, ha⟩ : ∃ x, x = rdNum 1 l bad := ⟨_, rfl⟩
  rw [← ha] at hk1 hv1
  dsimp only at hk1 hv1
  obtain ⟨b2, hb2⟩ : ∃ x, x = (b1 || decide (3 < f)) := ⟨_, rfl⟩
  have hpost := rdRec_eq2 ha hb2 hk1 hv1
  rw [h] at hpost
  (try dsimp only at hpost)
  obtain ⟨⟨val, l3, b4⟩, hvv⟩ : ∃ x, x = rdText l1 b2 := ⟨_, rfl⟩
  rw [← hvv] at hpost
  have HVV := Aside0.mk hvv.symm
  clear hvv
  (try dsimp only at hpost)
  obtain ⟨⟨t, l9, b9⟩, ht⟩ : ∃ x, x = rdNum 8 l3 b4 := ⟨_, rfl⟩
  rw [← ht] at hpost
  simp only [Prod.mk.injEq] at hpost
  obtain ⟨rfl, rfl, rfl⟩ := hpost
  have HT := Aside0.mk ht.symm
  have HA := Aside0.mk ha.symm
  have HB2 := Aside0.mk hb2
  have f1 : decide (0 < Go.bits .and .i64 f 1) = false := hk1
  have f2 : decide (0 < Go.bits .and .i64 f 2) = true := hv1
  have HF := Aside0.mk hF
  have HGE := Aside0.mk hg
  have HU := Aside0.mk hu
  have HL := Aside0.mk hF.lt
  have HUG := Aside0.mk hu.size
  have S0 := Aside0.mk (RrSt.new hF hu)
  clear hF hg hu h ha hb2 hk1 hv1 ht
  go_enter Try.func66, Try.ntmps66
  go_upto_region 1 with (fail)
  (try simp only [Act.put, List.setIfInBounds_toArray, List.set_cons_zero, List.set_cons_succ])
  generalize w.alloc (.cells #[.bool false, .string ⟨#[]⟩, .bool false, .string ⟨#[]⟩, .int .i64 0, .int .i64 0] 98) = y0 at S0 ⊢
  go_wp2_with fail
  refine (rd_number u g l bad 1 f l1 b1 y0 S0.out.rd HGE.out (HU.out.trans S0.out.keep.below) (by decide) (by decide) HA.out).mono ?_
  rintro e y1 ⟨rfl, h3, h4⟩
  have S1 := Aside0.mk (S0.out.step HL.out h3 h4)
  clear h3 h4 S0
  go_upto_region 2 with (fail)
  (try simp only [Act.put, List.setIfInBounds_toArray, List.set_cons_zero, List.set_cons_succ])
  obtain ⟨A, c, hg_, _⟩ := S1.out.rd
  have q1 : y1.cell? ⟨g, 1, none⟩ = some (.bool b1) := (blk_cell hg_ 1).trans rfl
  have z1 : y1.frozen? ⟨g, 1, none⟩ = false := blk_frozen hg_ 1
  clear hg_
  go_cut [3] (fun v3 wc => v3 = .int .i64 f ∧ Aside0 (RrSt u w wc g l1 b2 false ⟨#[]⟩ false ⟨#[]⟩ 0))
  case first =>
    go_wp2
    all_goals
      go_meet
      case rel => exact ⟨by rfl, ⟨S1.out.turn HL.out HGE.out _ (by rw [HB2.out]; first | rfl | (simp [*]; done))⟩⟩
  clear S1 q1 z1
  obtain ⟨rfl, S2⟩ := hcut
  (try clear n0_ n1_ n2_ n3_ n4_ n5_ nf_ z0_ z1_ z2_ z3_ z4_ z5_)
  obtain ⟨n0_, n1_, n2_, n3_, n4_, n5_, nf_⟩ := S2.out.cells
  have z0_ := nf_ 0
  have z1_ := nf_ 1
  have z2_ := nf_ 2
  have z3_ := nf_ 3
  have z4_ := nf_ 4
  have z5_ := nf_ 5
  go_upto_region 4 with (fail)
  (try simp only [Act.put, List.setIfInBounds_toArray, List.set_cons_zero, List.set_cons_succ])
  have S3 := Aside0.mk ((S2.out.set0 HL.out HUG.out false).set2 HL.out HUG.out true)
  skip
  generalize (World.setCell (World.setCell _ ⟨w.heap.size, 0, none⟩ (.bool false)) ⟨w.heap.size, 2, none⟩ (.bool true)) = y3 at S3 ⊢
  clear S2
  (try clear n0_ n1_ n2_ n3_ n4_ n5_ nf_ z0_ z1_ z2_ z3_ z4_ z5_)
  obtain ⟨n0_, n1_, n2_, n3_, n4_, n5_, nf_⟩ := S3.out.cells
  have z0_ := nf_ 0
  have z1_ := nf_ 1
  have z2_ := nf_ 2
  have z3_ := nf_ 3
  have z4_ := nf_ 4
  have z5_ := nf_ 5
  go_wp2_with fail
  refine (rd_text u g l1 b2 val l3 b4 _ S3.out.rd HGE.out (HU.out.trans S3.out.keep.below) HVV.out).mono ?_
  rintro e y4 ⟨rfl, h3, h4⟩
  have S4 := Aside0.mk (S3.out.step HL.out h3 h4)
  clear h3 h4 S3
  (try clear n0_ n1_ n2_ n3_ n4_ n5_ nf_ z0_ z1_ z2_ z3_ z4_ z5_)
  obtain ⟨n0_, n1_, n2_, n3_, n4_, n5_, nf_⟩ := S4.out.cells
  have z0_ := nf_ 0
  have z1_ := nf_ 1
  have z2_ := nf_ 2
  have z3_ := nf_ 3
  have z4_ := nf_ 4
  have z5_ := nf_ 5
  go_upto_region 8 with (fail)
  (try simp only [Act.put, List.setIfInBounds_toArray, List.set_cons_zero, List.set_cons_succ])
  have S5 := Aside0.mk (S4.out.set3 HL.out HUG.out val)
  generalize (World.setCell y4 ⟨w.heap.size, 3, none⟩ (.string val)) = y5 at S5 ⊢
  clear S4
  (try clear n0_ n1_ n2_ n3_ n4_ n5_ nf_ z0_ z1_ z2_ z3_ z4_ z5_)
  obtain ⟨n0_, n1_, n2_, n3_, n4_, n5_, nf_⟩ := S5.out.cells
  have z0_ := nf_ 0
  have z1_ := nf_ 1
  have z2_ := nf_ 2
  have z3_ := nf_ 3
  have z4_ := nf_ 4
  have z5_ := nf_ 5
  go_wp2_with fail
  refine (rd_number u g l3 b4 8 t l2' bad2 _ S5.out.rd HGE.out (HU.out.trans S5.out.keep.below) (by decide) (by decide) HT.out).mono ?_
  rintro e y6 ⟨rfl, h3, h4⟩
  have S6 := Aside0.mk (S5.out.step HL.out h3 h4)
  clear h3 h4 S5
  (try clear n0_ n1_ n2_ n3_ n4_ n5_ nf_ z0_ z1_ z2_ z3_ z4_ z5_)
  obtain ⟨n0_, n1_, n2_, n3_, n4_, n5_, nf_⟩ := S6.out.cells
  have z0_ := nf_ 0
  have z1_ := nf_ 1
  have z2_ := nf_ 2
  have z3_ := nf_ 3
  have z4_ := nf_ 4
  have z5_ := nf_ 5
  go_upto_region 9 with (fail)
  (try simp only [Act.put, List.setIfInBounds_toArray, List.set_cons_zero, List.set_cons_succ])
  have S7 := Aside0.mk (S6.out.set4 HL.out HUG.out t)
  generalize (World.setCell y6 ⟨w.heap.size, 4, none⟩ (.int .i64 t)) = y7 at S7 ⊢
  clear S6
  (try clear n0_ n1_ n2_ n3_ n4_ n5_ nf_ z0_ z1_ z2_ z3_ z4_ z5_)
  obtain ⟨n0_, n1_, n2_, n3_, n4_, n5_, nf_⟩ := S7.out.cells
  have z0_ := nf_ 0
  have z1_ := nf_ 1
  have z2_ := nf_ 2
  have z3_ := nf_ 3
  have z4_ := nf_ 4
  have z5_ := nf_ 5
  go_wp2_with fail
  have Z_ := rr_last (((((((S7.out.set0 HL.out HUG.out false).set1 HL.out HUG.out ⟨#[]⟩).set2 HL.out HUG.out true).set3 HL.out HUG.out val).set4 HL.out HUG.out t)))
  refine bodyPost_ret (results_c1 rfl _ _ w.heap.size 98 #[.bool false, .string ⟨#[]⟩, .bool true, .string val, .int .i64 t, .int .i64 0] (0, 0) _ rfl (Z_ HL.out HUG.out).rb Try.underlying98 rfl (by kernel_rfl)) rfl ?_
  exact ⟨rfl, (Z_ HL.out HUG.out).rd, (Z_ HL.out HUG.out).keep⟩
theorem rdRec_eq1 {l l1 : List Int} {bad b1 b2 : Bool} {f : Int} (ha : (f, l1, b1) = rdNum 1 l bad) (hb2 : b2 = (b1 || decide (3 < f))) (hk1 : rdFl f 1 = true) (hv1 : rdFl f 2 = false) : rdRec l bad = (⟨true, (rdText l1 b2).1, false, ⟨#[]⟩, (rdNum 8 (rdText l1 b2).2.1 (rdText l1 b2).2.2).1, 0⟩, (rdNum 8 (rdText l1 b2).2.1 (rdText l1 b2).2.2).2.1, (rdNum 8 (rdText l1 b2).2.1 (rdText l1 b2).2.2).2.2) := by
  unfold rdRec rdOpt
  rw [← ha]
  simp only [hk1, hv1, ← hb2, if_true, Bool.false_eq_true, if_false]
set_option maxHeartbeats 4000000 in
set_option maxRecDepth 100000 in
theorem rd_record1 (u : World) (g : Nat) (l : List Int) (bad : Bool) (x : S98) (l2' : List Int) (bad2 : Bool) (w : World) (hF : Rd u w g l bad) (hg : u.heap.size ≤ g) (hu : Below u.heap.size u w) (hk1 : rdFl (rdNum 1 l bad).1 1 = true) (hv1 : rdFl (rdNum 1 l bad).1 2 = false) (h : rdRec l bad = (x, l2', bad2)) :
    Calls Try.prog 66 #[.pointer (some ⟨g, 0, none⟩)] w fun e w' => e = .returned (.agg #[.bool x.f0, .string x.f1, .bool x.f2, .string x.f3, .int .i64 x.f4, .int .i64 x.f5]) ∧ Rd u w' g l2' bad2 ∧ KeepR w w' g u.heap.size := by
  obtain ⟨⟨f, l1, b1⟩, ha⟩ : ∃ x, x = rdNum 1 l bad := ⟨_, rfl⟩
  rw [← ha] at hk1 hv1
  dsimp only at hk1 hv1
  obtain ⟨b2, hb2⟩ : ∃ x, x = (b1 || decide (3 < f)) := ⟨_, rfl⟩
  have hpost := rdRec_eq1 ha hb2 hk1 hv1
  rw [h] at hpost
  obtain ⟨⟨key, l2, b3⟩, hkk⟩ : ∃ x, x = rdText l1 b2 := ⟨_, rfl⟩
  rw [← hkk] at hpost
  have HKK := Aside0.mk hkk.symm
  clear hkk
  (try dsimp only at hpost)
  (try dsimp only at hpost)
  obtain ⟨⟨t, l9, b9⟩, ht⟩ : ∃ x, x = rdNum 8 l2 b3 := ⟨_, rfl⟩
  rw [← ht] at hpost
  simp only [Prod.mk.injEq] at hpost
  obtain ⟨rfl, rfl, rfl⟩ := hpost
  have HT := Aside0.mk ht.symm
  have HA := Aside0.mk ha.symm
  have HB2 := Aside0.mk hb2
  have f1 : decide (0 < Go.bits .and .i64 f 1) = true := hk1
  have f2 : decide (0 < Go.bits .and .i64 f 2) = false := hv1
  have HF := Aside0.mk hF
  have HGE := Aside0.mk hg
  have HU := Aside0.mk hu
  have HL := Aside0.mk hF.lt
  have HUG := Aside0.mk hu.size
  have S0 := Aside0.mk (RrSt.new hF hu)
  clear hF hg hu h ha hb2 hk1 hv1 ht
  go_enter Try.func66, Try.ntmps66
  go_upto_region 1 with (fail)
  (try simp only [Act.put, List.setIfInBounds_toArray, List.set_cons_zero, List.set_cons_succ])
  generalize w.alloc (.cells #[.bool false, .string ⟨#[]⟩, .bool false, .string ⟨#[]⟩, .int .i64 0, .int .i64 0] 98) = y0 at S0 ⊢
  go_wp2_with fail
  refine (rd_number u g l bad 1 f l1 b1 y0 S0.out.rd HGE.out (HU.out.trans S0.out.keep.below) (by decide) (by decide) HA.out).mono ?_
  rintro e y1 ⟨rfl, h3, h4⟩
  have S1 := Aside0.mk (S0.out.step HL.out h3 h4)
  clear h3 h4 S0
  go_upto_region 2 with (fail)
  (try simp only [Act.put, List.setIfInBounds_toArray, List.set_cons_zero, List.set_cons_succ])
  obtain ⟨A, c, hg_, _⟩ := S1.out.rd
  have q1 : y1.cell? ⟨g, 1, none⟩ = some (.bool b1) := (blk_cell hg_ 1).trans rfl
  have z1 : y1.frozen? ⟨g, 1, none⟩ = false := blk_frozen hg_ 1
  clear hg_
  go_cut [3] (fun v3 wc => v3 = .int .i64 f ∧ Aside0 (RrSt u w wc g l1 b2 false ⟨#[]⟩ false ⟨#[]⟩ 0))
  case first =>
    go_wp2
    all_goals
      go_meet
      case rel => exact ⟨by rfl, ⟨S1.out.turn HL.out HGE.out _ (by rw [HB2.out]; first | rfl | (simp [*]; done))⟩⟩
  clear S1 q1 z1
  obtain ⟨rfl, S2⟩ := hcut
  (try clear n0_ n1_ n2_ n3_ n4_ n5_ nf_ z0_ z1_ z2_ z3_ z4_ z5_)
  obtain ⟨n0_, n1_, n2_, n3_, n4_, n5_, nf_⟩ := S2.out.cells
  have z0_ := nf_ 0
  have z1_ := nf_ 1
  have z2_ := nf_ 2
  have z3_ := nf_ 3
  have z4_ := nf_ 4
  have z5_ := nf_ 5
  go_upto_region 4 with (fail)
  (try simp only [Act.put, List.setIfInBounds_toArray, List.set_cons_zero, List.set_cons_succ])
  have S3 := Aside0.mk ((S2.out.set0 HL.out HUG.out true).set2 HL.out HUG.out false)
  skip
  generalize (World.setCell (World.setCell _ ⟨w.heap.size, 0, none⟩ (.bool true)) ⟨w.heap.size, 2, none⟩ (.bool false)) = y3 at S3 ⊢
  clear S2
  (try clear n0_ n1_ n2_ n3_ n4_ n5_ nf_ z0_ z1_ z2_ z3_ z4_ z5_)
  obtain ⟨n0_, n1_, n2_, n3_, n4_, n5_, nf_⟩ := S3.out.cells
  have z0_ := nf_ 0
  have z1_ := nf_ 1
  have z2_ := nf_ 2
  have z3_ := nf_ 3
  have z4_ := nf_ 4
  have z5_ := nf_ 5
  go_wp2_with fail
  refine (rd_text u g l1 b2 key l2 b3 _ S3.out.rd HGE.out (HU.out.trans S3.out.keep.below) HKK.out).mono ?_
  rintro e y4 ⟨rfl, h3, h4⟩
  have S4 := Aside0.mk (S3.out.step HL.out h3 h4)
  clear h3 h4 S3
  (try clear n0_ n1_ n2_ n3_ n4_ n5_ nf_ z0_ z1_ z2_ z3_ z4_ z5_)
  obtain ⟨n0_, n1_, n2_, n3_, n4_, n5_, nf_⟩ := S4.out.cells
  have z0_ := nf_ 0
  have z1_ := nf_ 1
  have z2_ := nf_ 2
  have z3_ := nf_ 3
  have z4_ := nf_ 4
  have z5_ := nf_ 5
  go_upto_region 6 with (fail)
  (try simp only [Act.put, List.setIfInBounds_toArray, List.set_cons_zero, List.set_cons_succ])
  have S5 := Aside0.mk (S4.out.set1 HL.out HUG.out key)
  generalize (World.setCell y4 ⟨w.heap.size, 1, none⟩ (.string key)) = y5 at S5 ⊢
  clear S4
  (try clear n0_ n1_ n2_ n3_ n4_ n5_ nf_ z0_ z1_ z2_ z3_ z4_ z5_)
  obtain ⟨n0_, n1_, n2_, n3_, n4_, n5_, nf_⟩ := S5.out.cells
  have z0_ := nf_ 0
  have z1_ := nf_ 1
  have z2_ := nf_ 2
  have z3_ := nf_ 3
  have z4_ := nf_ 4
  have z5_ := nf_ 5
  go_wp2_with fail
  refine (rd_number u g l2 b3 8 t l2' bad2 _ S5.out.rd HGE.out (HU.out.trans S5.out.keep.below) (by decide) (by decide) HT.out).mono ?_
  rintro e y6 ⟨rfl, h3, h4⟩
  have S6 := Aside0.mk (S5.out.step HL.out h3 h4)
  clear h3 h4 S5
  (try clear n0_ n1_ n2_ n3_ n4_ n5_ nf_ z0_ z1_ z2_ z3_ z4_ z5_)
  obtain ⟨n0_, n1_, n2_, n3_, n4_, n5_, nf_⟩ := S6.out.cells
  have z0_ := nf_ 0
  have z1_ := nf_ 1
  have z2_ := nf_ 2
  have z3_ := nf_ 3
  have z4_ := nf_ 4
  have z5_ := nf_ 5
  go_upto_region 9 with (fail)
  (try simp only [Act.put, List.setIfInBounds_toArray, List.set_cons_zero, List.set_cons_succ])
  have S7 := Aside0.mk (S6.out.set4 HL.out HUG.out t)
  generalize (World.setCell y6 ⟨w.heap.size, 4, none⟩ (.int .i64 t)) = y7 at S7 ⊢
  clear S6
  (try clear n0_ n1_ n2_ n3_ n4_ n5_ nf_ z0_ z1_ z2_ z3_ z4_ z5_)
  obtain ⟨n0_, n1_, n2_, n3_, n4_, n5_, nf_⟩ := S7.out.cells
  have z0_ := nf_ 0
  have z1_ := nf_ 1
  have z2_ := nf_ 2
  have z3_ := nf_ 3
  have z4_ := nf_ 4
  have z5_ := nf_ 5
  go_wp2_with fail
  have Z_ := rr_last (((((((S7.out.set0 HL.out HUG.out true).set1 HL.out HUG.out key).set2 HL.out HUG.out false).set3 HL.out HUG.out ⟨#[]⟩).set4 HL.out HUG.out t)))
  refine bodyPost_ret (results_c1 rfl _ _ w.heap.size 98 #[.bool true, .string key, .bool false, .string ⟨#[]⟩, .int .i64 t, .int .i64 0] (0, 0) _ rfl (Z_ HL.out HUG.out).rb Try.underlying98 rfl (by kernel_rfl)) rfl ?_
  exact ⟨rfl, (Z_ HL.out HUG.out).rd, (Z_ HL.out HUG.out).keep⟩
theorem rdRec_eq3 {l l1 : List Int} {bad b1 b2 : Bool} {f : Int} (ha : (f, l1, b1) = rdNum 1 l bad) (hb2 : b2 = (b1 || decide (3 < f))) (hk1 : rdFl f 1 = true) (hv1 : rdFl f 2 = true) : rdRec l bad = (⟨true, (rdText l1 b2).1, true, (rdText (rdText l1 b2).2.1 (rdText l1 b2).2.2).1, (rdNum 8 (rdText (rdText l1 b2).2.1 (rdText l1 b2).2.2).2.1 (rdText (rdText l1 b2).2.1 (rdText l1 b2).2.2).2.2).1, 0⟩, (rdNum 8 (rdText (rdText l1 b2).2.1 (rdText l1 b2).2.2).2.1 (rdText (rdText l1 b2).2.1 (rdText l1 b2).2.2).2.2).2.1, (rdNum 8 (rdText (rdText l1 b2).2.1 (rdText l1 b2).2.2).2.1 (rdText (rdText l1 b2).2.1 (rdText l1 b2).2.2).2.2).2.2) := by
  unfold rdRec rdOpt
  rw [← ha]
  simp only [hk1, hv1, ← hb2, if_true, Bool.false_eq_true, if_false]
set_option maxHeartbeats 4000000 in
set_option maxRecDepth 100000 in
theorem rd_record3 (u : World) (g : Nat) (l : List Int) (bad : Bool) (x : S98) (l2' : List Int) (bad2 : Bool) (w : World) (hF : Rd u w g l bad) (hg : u.heap.size ≤ g) (hu : Below u.heap.size u w) (hk1 : rdFl (rdNum 1 l bad).1 1 = true) (hv1 : rdFl (rdNum 1 l bad).1 2 = true) (h : rdRec l bad = (x, l2', bad2)) :
    Calls Try.prog 66 #[.pointer (some ⟨g, 0, none⟩)] w fun e w' => e = .returned (.agg #[.bool x.f0, .string x.f1, .bool x.f2, .string x.f3, .int .i64 x.f4, .int .i64 x.f5]) ∧ Rd u w' g l2' bad2 ∧ KeepR w w' g u.heap.size := by
  obtain ⟨⟨f, l1, b1⟩, ha⟩ : ∃ x, x = rdNum 1 l bad := ⟨_, rfl⟩
  rw [← ha] at hk1 hv1
  dsimp only at hk1 hv1
  obtain ⟨b2, hb2⟩ : ∃ x, x = (b1 || decide (3 < f)) := ⟨_, rfl⟩
  have hpost := rdRec_eq3 ha hb2 hk1 hv1
  rw [h] at hpost
  obtain ⟨⟨key, l2, b3⟩, hkk⟩ : ∃ x, x = rdText l1 b2 := ⟨_, rfl⟩
  rw [← hkk] at hpost
  have HKK := Aside0.mk hkk.symm
  clear hkk
  (try dsimp only at hpost)
  obtain ⟨⟨val, l3, b4⟩, hvv⟩ : ∃ x, x = rdText l2 b3 := ⟨_, rfl⟩
  rw [← hvv] at hpost
  have HVV := Aside0.mk hvv.symm
  clear hvv
  (try dsimp only at hpost)
  obtain ⟨⟨t, l9, b9⟩, ht⟩ : ∃ x, x = rdNum 8 l3 b4 := ⟨_, rfl⟩
  rw [← ht] at hpost
  simp only [Prod.mk.injEq] at hpost
  obtain ⟨rfl, rfl, rfl⟩ := hpost
  have HT := Aside0.mk ht.symm
  have HA := Aside0.mk ha.symm
  have HB2 := Aside0.mk hb2
  have f1 : decide (0 < Go.bits .and .i64 f 1) = true := hk1
  have f2 : decide (0 < Go.bits .and .i64 f 2) = true := hv1
  have HF := Aside0.mk hF
  have HGE := Aside0.mk hg
  have HU := Aside0.mk hu
  have HL := Aside0.mk hF.lt
  have HUG := Aside0.mk hu.size
  have S0 := Aside0.mk (RrSt.new hF hu)
  clear hF hg hu h ha hb2 hk1 hv1 ht
  go_enter Try.func66, Try.ntmps66
  go_upto_region 1 with (fail)
  (try simp only [Act.put, List.setIfInBounds_toArray, List.set_cons_zero, List.set_cons_succ])
  generalize w.alloc (.cells #[.bool false, .string ⟨#[]⟩, .bool false, .string ⟨#[]⟩, .int .i64 0, .int .i64 0] 98) = y0 at S0 ⊢
  go_wp2_with fail
  refine (rd_number u g l bad 1 f l1 b1 y0 S0.out.rd HGE.out (HU.out.trans S0.out.keep.below) (by decide) (by decide) HA.out).mono ?_
  rintro e y1 ⟨rfl, h3, h4⟩
  have S1 := Aside0.mk (S0.out.step HL.out h3 h4)
  clear h3 h4 S0
  go_upto_region 2 with (fail)
  (try simp only [Act.put, List.setIfInBounds_toArray, List.set_cons_zero, List.set_cons_succ])
  obtain ⟨A, c, hg_, _⟩ := S1.out.rd
  have q1 : y1.cell? ⟨g, 1, none⟩ = some (.bool b1) := (blk_cell hg_ 1).trans rfl
  have z1 : y1.frozen? ⟨g, 1, none⟩ = false := blk_frozen hg_ 1
  clear hg_
  go_cut [3] (fun v3 wc => v3 = .int .i64 f ∧ Aside0 (RrSt u w wc g l1 b2 false ⟨#[]⟩ false ⟨#[]⟩ 0))
  case first =>
    go_wp2
    all_goals
      go_meet
      case rel => exact ⟨by rfl, ⟨S1.out.turn HL.out HGE.out _ (by rw [HB2.out]; first | rfl | (simp [*]; done))⟩⟩
  clear S1 q1 z1
  obtain ⟨rfl, S2⟩ := hcut
  (try clear n0_ n1_ n2_ n3_ n4_ n5_ nf_ z0_ z1_ z2_ z3_ z4_ z5_)
  obtain ⟨n0_, n1_, n2_, n3_, n4_, n5_, nf_⟩ := S2.out.cells
  have z0_ := nf_ 0
  have z1_ := nf_ 1
  have z2_ := nf_ 2
  have z3_ := nf_ 3
  have z4_ := nf_ 4
  have z5_ := nf_ 5
  go_upto_region 4 with (fail)
  (try simp only [Act.put, List.setIfInBounds_toArray, List.set_cons_zero, List.set_cons_succ])
  have S3 := Aside0.mk ((S2.out.set0 HL.out HUG.out true).set2 HL.out HUG.out true)
  skip
  generalize (World.setCell (World.setCell _ ⟨w.heap.size, 0, none⟩ (.bool true)) ⟨w.heap.size, 2, none⟩ (.bool true)) = y3 at S3 ⊢
  clear S2
  (try clear n0_ n1_ n2_ n3_ n4_ n5_ nf_ z0_ z1_ z2_ z3_ z4_ z5_)
  obtain ⟨n0_, n1_, n2_, n3_, n4_, n5_, nf_⟩ := S3.out.cells
  have z0_ := nf_ 0
  have z1_ := nf_ 1
  have z2_ := nf_ 2
  have z3_ := nf_ 3
  have z4_ := nf_ 4
  have z5_ := nf_ 5
  go_wp2_with fail
  refine (rd_text u g l1 b2 key l2 b3 _ S3.out.rd HGE.out (HU.out.trans S3.out.keep.below) HKK.out).mono ?_
  rintro e y4 ⟨rfl, h3, h4⟩
  have S4 := Aside0.mk (S3.out.step HL.out h3 h4)
  clear h3 h4 S3
  (try clear n0_ n1_ n2_ n3_ n4_ n5_ nf_ z0_ z1_ z2_ z3_ z4_ z5_)
  obtain ⟨n0_, n1_, n2_, n3_, n4_, n5_, nf_⟩ := S4.out.cells
  have z0_ := nf_ 0
  have z1_ := nf_ 1
  have z2_ := nf_ 2
  have z3_ := nf_ 3
  have z4_ := nf_ 4
  have z5_ := nf_ 5
  go_upto_region 6 with (fail)
  (try simp only [Act.put, List.setIfInBounds_toArray, List.set_cons_zero, List.set_cons_succ])
  have S5 := Aside0.mk (S4.out.set1 HL.out HUG.out key)
  generalize (World.setCell y4 ⟨w.heap.size, 1, none⟩ (.string key)) = y5 at S5 ⊢
  clear S4
  (try clear n0_ n1_ n2_ n3_ n4_ n5_ nf_ z0_ z1_ z2_ z3_ z4_ z5_)
  obtain ⟨n0_, n1_, n2_, n3_, n4_, n5_, nf_⟩ := S5.out.cells
  have z0_ := nf_ 0
  have z1_ := nf_ 1
  have z2_ := nf_ 2
  have z3_ := nf_ 3
  have z4_ := nf_ 4
  have z5_ := nf_ 5
  go_wp2_with fail
  refine (rd_text u g l2 b3 val l3 b4 _ S5.out.rd HGE.out (HU.out.trans S5.out.keep.below) HVV.out).mono ?_
  rintro e y6 ⟨rfl, h3, h4⟩
  have S6 := Aside0.mk (S5.out.step HL.out h3 h4)
  clear h3 h4 S5
  (try clear n0_ n1_ n2_ n3_ n4_ n5_ nf_ z0_ z1_ z2_ z3_ z4_ z5_)
  obtain ⟨n0_, n1_, n2_, n3_, n4_, n5_, nf_⟩ := S6.out.cells
  have z0_ := nf_ 0
  have z1_ := nf_ 1
  have z2_ := nf_ 2
  have z3_ := nf_ 3
  have z4_ := nf_ 4
  have z5_ := nf_ 5
  go_upto_region 8 with (fail)
  (try simp only [Act.put, List.setIfInBounds_toArray, List.set_cons_zero, List.set_cons_succ])
  have S7 := Aside0.mk (S6.out.set3 HL.out HUG.out val)
  generalize (World.setCell y6 ⟨w.heap.size, 3, none⟩ (.string val)) = y7 at S7 ⊢
  clear S6
  (try clear n0_ n1_ n2_ n3_ n4_ n5_ nf_ z0_ z1_ z2_ z3_ z4_ z5_)
  obtain ⟨n0_, n1_, n2_, n3_, n4_, n5_, nf_⟩ := S7.out.cells
  have z0_ := nf_ 0
  have z1_ := nf_ 1
  have z2_ := nf_ 2
  have z3_ := nf_ 3
  have z4_ := nf_ 4
  have z5_ := nf_ 5
  go_wp2_with fail
  refine (rd_number u g l3 b4 8 t l2' bad2 _ S7.out.rd HGE.out (HU.out.trans S7.out.keep.below) (by decide) (by decide) HT.out).mono ?_
  rintro e y8 ⟨rfl, h3, h4⟩
  have S8 := Aside0.mk (S7.out.step HL.out h3 h4)
  clear h3 h4 S7
  (try clear n0_ n1_ n2_ n3_ n4_ n5_ nf_ z0_ z1_ z2_ z3_ z4_ z5_)
  obtain ⟨n0_, n1_, n2_, n3_, n4_, n5_, nf_⟩ := S8.out.cells
  have z0_ := nf_ 0
  have z1_ := nf_ 1
  have z2_ := nf_ 2
  have z3_ := nf_ 3
  have z4_ := nf_ 4
  have z5_ := nf_ 5
  go_upto_region 9 with (fail)
  (try simp only [Act.put, List.setIfInBounds_toArray, List.set_cons_zero, List.set_cons_succ])
  have S9 := Aside0.mk (S8.out.set4 HL.out HUG.out t)
  generalize (World.setCell y8 ⟨w.heap.size, 4, none⟩ (.int .i64 t)) = y9 at S9 ⊢
  clear S8
  (try clear n0_ n1_ n2_ n3_ n4_ n5_ nf_ z0_ z1_ z2_ z3_ z4_ z5_)
  obtain ⟨n0_, n1_, n2_, n3_, n4_, n5_, nf_⟩ := S9.out.cells
  have z0_ := nf_ 0
  have z1_ := nf_ 1
  have z2_ := nf_ 2
  have z3_ := nf_ 3
  have z4_ := nf_ 4
  have z5_ := nf_ 5
  go_wp2_with fail
  have Z_ := rr_last (((((((S9.out.set0 HL.out HUG.out true).set1 HL.out HUG.out key).set2 HL.out HUG.out true).set3 HL.out HUG.out val).set4 HL.out HUG.out t)))
  refine bodyPost_ret (results_c1 rfl _ _ w.heap.size 98 #[.bool true, .string key, .bool true, .string val, .int .i64 t, .int .i64 0] (0, 0) _ rfl (Z_ HL.out HUG.out).rb Try.underlying98 rfl (by kernel_rfl)) rfl ?_
  exact ⟨rfl, (Z_ HL.out HUG.out).rd, (Z_ HL.out HUG.out).keep⟩
theorem rd_record (u : World) (g : Nat) (l : List Int) (bad : Bool) (x : S98) (l2 : List Int) (bad2 : Bool) (w : World) (hF : Rd u w g l bad) (hg : u.heap.size ≤ g) (hu : Below u.heap.size u w) (h : rdRec l bad = (x, l2, bad2)) :
    Calls Try.prog 66 #[.pointer (some ⟨g, 0, none⟩)] w fun e w' => e = .returned (.agg #[.bool x.f0, .string x.f1, .bool x.f2, .string x.f3, .int .i64 x.f4, .int .i64 x.f5]) ∧ Rd u w' g l2 bad2 ∧ KeepR w w' g u.heap.size := by
  cases h1 : rdFl (rdNum 1 l bad).1 1 <;> cases h2 : rdFl (rdNum 1 l bad).1 2
  · exact rd_record0 u g l bad x l2 bad2 w hF hg hu h1 h2 h
  · exact rd_record2 u g l bad x l2 bad2 w hF hg hu h1 h2 h
  · exact rd_record1 u g l bad x l2 bad2 w hF hg hu h1 h2 h
  · exact rd_record3 u g l bad x l2 bad2 w hF hg hu h1 h2 h

end Go.Proofs.Ytncfofnikmfjbaa.PCi
