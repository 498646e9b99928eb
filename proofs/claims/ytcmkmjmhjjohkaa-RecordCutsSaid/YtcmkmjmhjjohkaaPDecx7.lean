-- written by a program of this session (wip/tools/pr.py, over the kit's printer): not by hand
import Derived.Test.YtcmkmjmhjjohkaaPDecx0
import Derived.Test.YtcmkmjmhjjohkaaPDecx3
import Derived.Test.YtcmkmjmhjjohkaaPDecx4
import Derived.Test.YtcmkmjmhjjohkaaPDecx5
import Derived.Test.YtcmkmjmhjjohkaaPDecx6
namespace Go.Proofs.Ytcmkmjmhjjohkaa.PDec
open Go.RowKit Go.Proofs.YtcmkmjmhjjohkaaW.PrintWords Go.Proofs.YtcmkmjmhjjohkaaW.PrintLast Go.Proofs.YtcmkmjmhjjohkaaW.PrintMore
attribute [local go_sem] max2_int min2_int max_two min_two max_three min_three max_four min_four   -- for this text's walks alone
set_option linter.unusedVariables false
set_option linter.unusedSimpArgs false

set_option maxHeartbeats 2000000 in
set_option maxRecDepth 100000 in
theorem reccuts_long (k : Nat) (hk : Bool) (key : ByteArray) (hv : Bool) (val : ByteArray) (t o first kk : Int) (r : Bool) (w : World) (b1 : key.size ≤ 140737488351232) (b2 : val.size ≤ 140737488351232) (ha : bollardlaw12_awake.f k = some r) (h1 : 6000 < (key.size : Int) + (val.size : Int)) :
    Calls Try.prog 7 #[.agg #[.bool hk, .string key, .bool hv, .string val, .int .i64 t, .int .i64 o], .int .i64 first, .int .i64 kk] w fun e w' => e = .returned (.bool r) ∧ Below w.heap.size w w' := by
  have HA := Aside0.mk ha
  have f1 : decide (6000 < (key.size : Int) + (val.size : Int)) = true := decide_eq_true h1
  clear ha h1
  go_enter Try.func7, Try.ntmps7
  go_wp2_with fail
  refine (bollardlaw12_awake.calls k r _ HA.out).mono ?_
  rintro e w9 ⟨rfl, hb9⟩
  have HB9 := Aside0.mk (below_step (show Below w.heap.size w _ from below_alloc (Below.refl _ _) _) hb9)
  clear hb9
  go_wp2
  go_ret
  exact ⟨rfl, HB9.out⟩

set_option maxHeartbeats 2000000 in
set_option maxRecDepth 100000 in
theorem reccuts_odd (k : Nat) (hk : Bool) (key : ByteArray) (hv : Bool) (val : ByteArray) (t o first kk : Int) (r : Bool) (w : World) (b1 : key.size ≤ 140737488351232) (b2 : val.size ≤ 140737488351232) (ha : bollardlaw12_awake.f k = some r) (h1 : (key.size : Int) + (val.size : Int) ≤ 6000) (l : List Int) (e : Int) (he : record_Encode.f k hk key hv val t o first = some (l, e)) (h2 : e ≠ 0) :
    Calls Try.prog 7 #[.agg #[.bool hk, .string key, .bool hv, .string val, .int .i64 t, .int .i64 o], .int .i64 first, .int .i64 kk] w fun e w' => e = .returned (.bool r) ∧ Below w.heap.size w w' := by
  have HA := Aside0.mk ha
  have f1 : decide (6000 < (key.size : Int) + (val.size : Int)) = false := decide_eq_false (by omega)
  have HE := Aside0.mk he
  have f2 : (e != 0) = true := bne_iff_ne.mpr h2
  clear ha h1 he h2
  go_enter Try.func7, Try.ntmps7
  go_wp2_with fail
  refine (record_Encode.calls k hk key hv val t o first l e _ HE.out).mono ?_
  rintro e' w1 ⟨v, rfl, hR, hb⟩
  obtain ⟨A, c, rfl, hlc, hC⟩ := Kd.R_reads hR
  have HB1 := Aside0.mk (below_step (show Below w.heap.size w _ from below_alloc (Below.refl _ _) _) hb)
  have HC1 := Aside0.mk hC
  have HL1 := Aside0.mk hlc
  clear hR hb hC hlc
  go_wp2_with fail
  refine (bollardlaw12_awake.calls k r _ HA.out).mono ?_
  rintro e w9 ⟨rfl, hb9⟩
  have HB9 := Aside0.mk (below_step HB1.out hb9)
  clear hb9
  go_wp2
  go_ret
  exact ⟨rfl, HB9.out⟩

set_option maxHeartbeats 2000000 in
set_option maxRecDepth 100000 in
theorem reccuts_cut (k : Nat) (hk : Bool) (key : ByteArray) (hv : Bool) (val : ByteArray) (t o first kk : Int) (r : Bool) (w : World) (b1 : key.size ≤ 140737488351232) (b2 : val.size ≤ 140737488351232) (ha : bollardlaw12_awake.f k = some r) (h1 : (key.size : Int) + (val.size : Int) ≤ 6000) (l : List Int) (he : record_Encode.f k hk key hv val t o first = some (l, 0)) (h2 : 0 < l.length) (j : Int) (hj : bollardalike_Round.f kk (l.length : Int) = some j) (h3 : 0 ≤ j) (h4 : j ≤ (l.length : Int)) (r1 : Bool) (r2 : ByteArray) (r3 : Bool) (r4 : ByteArray) (r5 r6 : Int) (hd : record_Decode.f k (l.take j.toNat) first = some (r1, r2, r3, r4, r5, r6, 0, 10)) :
    Calls Try.prog 7 #[.agg #[.bool hk, .string key, .bool hv, .string val, .int .i64 t, .int .i64 o], .int .i64 first, .int .i64 kk] w fun e w' => e = .returned (.bool r) ∧ Below w.heap.size w w' := by
  have HA := Aside0.mk ha
  have f1 : decide (6000 < (key.size : Int) + (val.size : Int)) = false := decide_eq_false (by omega)
  have HE := Aside0.mk he
  have f3 : ((l.length : Int) == 0) = false := by simpa using (by omega : ¬ l.length = 0)
  have HJ := Aside0.mk hj
  have HD := Aside0.mk hd
  have H3 := Aside0.mk h3
  have H4 := Aside0.mk h4
  clear ha h1 he h2 hj hd
  go_enter Try.func7, Try.ntmps7
  go_wp2_with fail
  refine (record_Encode.calls k hk key hv val t o first l 0 _ HE.out).mono ?_
  rintro e' w1 ⟨v, rfl, hR, hb⟩
  obtain ⟨A, c, rfl, hlc, hC⟩ := Kd.R_reads hR
  have HB1 := Aside0.mk (below_step (show Below w.heap.size w _ from below_alloc (Below.refl _ _) _) hb)
  have HC1 := Aside0.mk hC
  have HL1 := Aside0.mk hlc
  clear hR hb hC hlc
  go_wp2_with fail
  refine (bollardalike_Round.calls kk (l.length : Int) j _ HJ.out).mono ?_
  rintro e w2 ⟨rfl, ⟨q, rfl⟩⟩
  obtain ⟨i0, hi0, _, hsz, _⟩ := info_parts info5
  obtain ⟨hcut, hA2, hC2⟩ := print_take_of (P := Try.prog) (Value.int .u8) 0 25 5 .i64 Try.underlying25 hi0 hsz A c l j H3.out H4.out HL1.out
  have HK2 := Aside0.mk (Kd.C_of_reads (h1 := fun _ => rfl) (hA2 _ (Kd.reads_of_C HC1.out)))
  have HL2 := Aside0.mk hC2
  clear hA2 hC2 hi0 hsz
  go_wp2_with fail
  have hdc := record_Decode.calls k A c (l.take j.toNat) first r1 r2 r3 r4 r5 r6 0 10 _ (Kd.C_drewN HK2.out q) HL2.out HD.out
  have hlen : (l.take j.toNat).length = j.toNat := by rw [List.length_take]; have := H4.out; omega
  rw [hlen] at hdc
  refine hdc.mono ?_
  rintro e w3 ⟨rfl, hb⟩
  have HB3 := Aside0.mk (below_step (pw_below_drewN HB1.out q) hb)
  clear hb hdc hlen hcut
  go_wp2_with fail
  refine (bollardlaw12_awake.calls k r _ HA.out).mono ?_
  rintro e w9 ⟨rfl, hb9⟩
  have HB9 := Aside0.mk (below_step (show Below w.heap.size w _ from by repeat (with_reducible first | exact HB3.out | apply below_alloc | (refine below_set ?_ HB3.out.size))) hb9)
  clear hb9
  go_wp2
  go_ret
  exact ⟨rfl, HB9.out⟩

/-! ### bollardlaw12_RecordCuts -/
def bollardlaw12_RecordCuts.f (k : Nat) (a0_0 : Bool) (a0_1 : ByteArray) (a0_2 : Bool) (a0_3 : ByteArray) (a0_4 a0_5 a1 a2 : Int) : Option Bool :=
  if ¬ (a0_1.size ≤ 140737488351232 ∧ a0_3.size ≤ 140737488351232) then none else if 6000 < (a0_1.size : Int) + (a0_3.size : Int) then bollardlaw12_awake.f k
  else (record_Encode.f k a0_0 a0_1 a0_2 a0_3 a0_4 a0_5 a1).bind fun t => if t.2 ≠ 0 then bollardlaw12_awake.f k else if t.1.length = 0 then none else (bollardalike_Round.f a2 (t.1.length : Int)).bind fun j =>
    if 0 ≤ j ∧ j ≤ (t.1.length : Int) then (record_Decode.f k (t.1.take j.toNat) a1).bind fun d => if d.2.2.2.2.2.2.1 = 0 ∧ d.2.2.2.2.2.2.2 = 10 then bollardlaw12_awake.f k else none else none
theorem bollardlaw12_RecordCuts.calls (k : Nat) (a0_0 : Bool) (a0_1 : ByteArray) (a0_2 : Bool) (a0_3 : ByteArray) (a0_4 a0_5 a1 a2 : Int) (r : Bool) (w : World) (h : bollardlaw12_RecordCuts.f k a0_0 a0_1 a0_2 a0_3 a0_4 a0_5 a1 a2 = some r) :
    Calls Try.prog 7 #[.agg #[.bool a0_0, .string a0_1, .bool a0_2, .string a0_3, .int .i64 a0_4, .int .i64 a0_5], .int .i64 a1, .int .i64 a2] w fun e w' => e = .returned (.bool r) ∧ Below w.heap.size w w' := by
  unfold bollardlaw12_RecordCuts.f at h
  by_cases hb : a0_1.size ≤ 140737488351232 ∧ a0_3.size ≤ 140737488351232
  case neg => rw [if_pos hb] at h; cases h
  rw [if_neg (not_not_intro hb)] at h
  by_cases h1 : 6000 < (a0_1.size : Int) + (a0_3.size : Int)
  · rw [if_pos h1] at h
    exact reccuts_long k _ _ _ _ _ _ _ _ r w hb.1 hb.2 h h1
  rw [if_neg h1] at h
  obtain ⟨⟨l, e⟩, he, h⟩ := Option.bind_eq_some_iff.mp h
  dsimp only at h
  by_cases h2 : e ≠ 0
  · rw [if_pos h2] at h
    exact reccuts_odd k _ _ _ _ _ _ _ _ r w hb.1 hb.2 h (by omega) l e he h2
  rw [if_neg h2] at h
  obtain rfl : e = 0 := by omega
  by_cases h3 : l.length = 0
  · rw [if_pos h3] at h; cases h
  rw [if_neg h3] at h
  obtain ⟨j, hj, h⟩ := Option.bind_eq_some_iff.mp h
  by_cases h4 : 0 ≤ j ∧ j ≤ (l.length : Int)
  case neg => rw [if_neg h4] at h; cases h
  rw [if_pos h4] at h
  obtain ⟨⟨r1, r2, r3, r4, r5, r6, r7, r8⟩, hd, h⟩ := Option.bind_eq_some_iff.mp h
  dsimp only at h
  by_cases h5 : r7 = 0 ∧ r8 = 10
  case neg => rw [if_neg h5] at h; cases h
  rw [if_pos h5] at h
  obtain ⟨rfl, rfl⟩ := h5
  exact reccuts_cut k _ _ _ _ _ _ _ _ r w hb.1 hb.2 h (by omega) l he (by omega) j hj h4.1 h4.2 r1 r2 r3 r4 r5 r6 hd

/-- THE ONE PURE STATEMENT of bollardlaw12_RecordCuts: mine. -/
def bollardlaw12_RecordCuts.Pure : Prop := ∀ (a0_0 : Bool) (a0_1 : ByteArray) (a0_2 : Bool) (a0_3 : ByteArray) (a0_4 : Int) (a0_5 : Int) (a1 : Int) (a2 : Int), a0_1.size ≤ 140737488351232 → a0_3.size ≤ 140737488351232 → (Lit.int .i64 a0_4).wf = true → (Lit.int .i64 a0_5).wf = true → (Lit.int .i64 a1).wf = true → (Lit.int .i64 a2).wf = true → ∃ k, bollardlaw12_RecordCuts.f k a0_0 a0_1 a0_2 a0_3 a0_4 a0_5 a1 a2 = some true

/-- The four records in a row. -/
def NoneAt (W : World) (g : Nat) (key val : ByteArray) (t : Int) : Prop := W.heap[g]? = some (.cells #[.bool true, .string key, .bool true, .string val, .int .i64 t, .int .i64 0, .bool false, .string ⟨#[]⟩, .bool true, .string val, .int .i64 t, .int .i64 0, .bool true, .string key, .bool false, .string ⟨#[]⟩, .int .i64 t, .int .i64 0, .bool false, .string ⟨#[]⟩, .bool false, .string ⟨#[]⟩, .int .i64 t, .int .i64 0] 44 (0, 0))

theorem NoneAt.cells0 {W : World} {g : Nat} {key val : ByteArray} {t : Int} (h : NoneAt W g key val t) : W.cell? ⟨g, 0, none⟩ = some (.bool true) ∧ W.cell? ⟨g, 1, none⟩ = some (.string key) ∧ W.cell? ⟨g, 2, none⟩ = some (.bool true) ∧ W.cell? ⟨g, 3, none⟩ = some (.string val) ∧ W.cell? ⟨g, 4, none⟩ = some (.int .i64 t) ∧ W.cell? ⟨g, 5, none⟩ = some (.int .i64 0) :=
  ⟨(blk_cell h 0).trans rfl, (blk_cell h 1).trans rfl, (blk_cell h 2).trans rfl, (blk_cell h 3).trans rfl, (blk_cell h 4).trans rfl, (blk_cell h 5).trans rfl⟩
theorem NoneAt.alloc0 {W : World} {g : Nat} {key val : ByteArray} {t : Int} (h : NoneAt W g key val t) : (∀ o : Obj, (W.alloc o).cell? ⟨g, 0, none⟩ = some (.bool true)) ∧ (∀ o : Obj, (W.alloc o).cell? ⟨g, 1, none⟩ = some (.string key)) ∧ (∀ o : Obj, (W.alloc o).cell? ⟨g, 2, none⟩ = some (.bool true)) ∧ (∀ o : Obj, (W.alloc o).cell? ⟨g, 3, none⟩ = some (.string val)) ∧ (∀ o : Obj, (W.alloc o).cell? ⟨g, 4, none⟩ = some (.int .i64 t)) ∧ (∀ o : Obj, (W.alloc o).cell? ⟨g, 5, none⟩ = some (.int .i64 0)) :=
  ⟨fun o => (pw_cell_below (below_alloc (Below.refl _ _) o) ((blk_cell h 0).trans rfl)), fun o => (pw_cell_below (below_alloc (Below.refl _ _) o) ((blk_cell h 1).trans rfl)), fun o => (pw_cell_below (below_alloc (Below.refl _ _) o) ((blk_cell h 2).trans rfl)), fun o => (pw_cell_below (below_alloc (Below.refl _ _) o) ((blk_cell h 3).trans rfl)), fun o => (pw_cell_below (below_alloc (Below.refl _ _) o) ((blk_cell h 4).trans rfl)), fun o => (pw_cell_below (below_alloc (Below.refl _ _) o) ((blk_cell h 5).trans rfl))⟩
theorem NoneAt.cells1 {W : World} {g : Nat} {key val : ByteArray} {t : Int} (h : NoneAt W g key val t) : W.cell? ⟨g, 6, none⟩ = some (.bool false) ∧ W.cell? ⟨g, 7, none⟩ = some (.string ⟨#[]⟩) ∧ W.cell? ⟨g, 8, none⟩ = some (.bool true) ∧ W.cell? ⟨g, 9, none⟩ = some (.string val) ∧ W.cell? ⟨g, 10, none⟩ = some (.int .i64 t) ∧ W.cell? ⟨g, 11, none⟩ = some (.int .i64 0) :=
  ⟨(blk_cell h 6).trans rfl, (blk_cell h 7).trans rfl, (blk_cell h 8).trans rfl, (blk_cell h 9).trans rfl, (blk_cell h 10).trans rfl, (blk_cell h 11).trans rfl⟩
theorem NoneAt.alloc1 {W : World} {g : Nat} {key val : ByteArray} {t : Int} (h : NoneAt W g key val t) : (∀ o : Obj, (W.alloc o).cell? ⟨g, 6, none⟩ = some (.bool false)) ∧ (∀ o : Obj, (W.alloc o).cell? ⟨g, 7, none⟩ = some (.string ⟨#[]⟩)) ∧ (∀ o : Obj, (W.alloc o).cell? ⟨g, 8, none⟩ = some (.bool true)) ∧ (∀ o : Obj, (W.alloc o).cell? ⟨g, 9, none⟩ = some (.string val)) ∧ (∀ o : Obj, (W.alloc o).cell? ⟨g, 10, none⟩ = some (.int .i64 t)) ∧ (∀ o : Obj, (W.alloc o).cell? ⟨g, 11, none⟩ = some (.int .i64 0)) :=
  ⟨fun o => (pw_cell_below (below_alloc (Below.refl _ _) o) ((blk_cell h 6).trans rfl)), fun o => (pw_cell_below (below_alloc (Below.refl _ _) o) ((blk_cell h 7).trans rfl)), fun o => (pw_cell_below (below_alloc (Below.refl _ _) o) ((blk_cell h 8).trans rfl)), fun o => (pw_cell_below (below_alloc (Below.refl _ _) o) ((blk_cell h 9).trans rfl)), fun o => (pw_cell_below (below_alloc (Below.refl _ _) o) ((blk_cell h 10).trans rfl)), fun o => (pw_cell_below (below_alloc (Below.refl _ _) o) ((blk_cell h 11).trans rfl))⟩
theorem NoneAt.cells2 {W : World} {g : Nat} {key val : ByteArray} {t : Int} (h : NoneAt W g key val t) : W.cell? ⟨g, 12, none⟩ = some (.bool true) ∧ W.cell? ⟨g, 13, none⟩ = some (.string key) ∧ W.cell? ⟨g, 14, none⟩ = some (.bool false) ∧ W.cell? ⟨g, 15, none⟩ = some (.string ⟨#[]⟩) ∧ W.cell? ⟨g, 16, none⟩ = some (.int .i64 t) ∧ W.cell? ⟨g, 17, none⟩ = some (.int .i64 0) :=
  ⟨(blk_cell h 12).trans rfl, (blk_cell h 13).trans rfl, (blk_cell h 14).trans rfl, (blk_cell h 15).trans rfl, (blk_cell h 16).trans rfl, (blk_cell h 17).trans rfl⟩
theorem NoneAt.alloc2 {W : World} {g : Nat} {key val : ByteArray} {t : Int} (h : NoneAt W g key val t) : (∀ o : Obj, (W.alloc o).cell? ⟨g, 12, none⟩ = some (.bool true)) ∧ (∀ o : Obj, (W.alloc o).cell? ⟨g, 13, none⟩ = some (.string key)) ∧ (∀ o : Obj, (W.alloc o).cell? ⟨g, 14, none⟩ = some (.bool false)) ∧ (∀ o : Obj, (W.alloc o).cell? ⟨g, 15, none⟩ = some (.string ⟨#[]⟩)) ∧ (∀ o : Obj, (W.alloc o).cell? ⟨g, 16, none⟩ = some (.int .i64 t)) ∧ (∀ o : Obj, (W.alloc o).cell? ⟨g, 17, none⟩ = some (.int .i64 0)) :=
  ⟨fun o => (pw_cell_below (below_alloc (Below.refl _ _) o) ((blk_cell h 12).trans rfl)), fun o => (pw_cell_below (below_alloc (Below.refl _ _) o) ((blk_cell h 13).trans rfl)), fun o => (pw_cell_below (below_alloc (Below.refl _ _) o) ((blk_cell h 14).trans rfl)), fun o => (pw_cell_below (below_alloc (Below.refl _ _) o) ((blk_cell h 15).trans rfl)), fun o => (pw_cell_below (below_alloc (Below.refl _ _) o) ((blk_cell h 16).trans rfl)), fun o => (pw_cell_below (below_alloc (Below.refl _ _) o) ((blk_cell h 17).trans rfl))⟩
theorem NoneAt.cells3 {W : World} {g : Nat} {key val : ByteArray} {t : Int} (h : NoneAt W g key val t) : W.cell? ⟨g, 18, none⟩ = some (.bool false) ∧ W.cell? ⟨g, 19, none⟩ = some (.string ⟨#[]⟩) ∧ W.cell? ⟨g, 20, none⟩ = some (.bool false) ∧ W.cell? ⟨g, 21, none⟩ = some (.string ⟨#[]⟩) ∧ W.cell? ⟨g, 22, none⟩ = some (.int .i64 t) ∧ W.cell? ⟨g, 23, none⟩ = some (.int .i64 0) :=
  ⟨(blk_cell h 18).trans rfl, (blk_cell h 19).trans rfl, (blk_cell h 20).trans rfl, (blk_cell h 21).trans rfl, (blk_cell h 22).trans rfl, (blk_cell h 23).trans rfl⟩
theorem NoneAt.alloc3 {W : World} {g : Nat} {key val : ByteArray} {t : Int} (h : NoneAt W g key val t) : (∀ o : Obj, (W.alloc o).cell? ⟨g, 18, none⟩ = some (.bool false)) ∧ (∀ o : Obj, (W.alloc o).cell? ⟨g, 19, none⟩ = some (.string ⟨#[]⟩)) ∧ (∀ o : Obj, (W.alloc o).cell? ⟨g, 20, none⟩ = some (.bool false)) ∧ (∀ o : Obj, (W.alloc o).cell? ⟨g, 21, none⟩ = some (.string ⟨#[]⟩)) ∧ (∀ o : Obj, (W.alloc o).cell? ⟨g, 22, none⟩ = some (.int .i64 t)) ∧ (∀ o : Obj, (W.alloc o).cell? ⟨g, 23, none⟩ = some (.int .i64 0)) :=
  ⟨fun o => (pw_cell_below (below_alloc (Below.refl _ _) o) ((blk_cell h 18).trans rfl)), fun o => (pw_cell_below (below_alloc (Below.refl _ _) o) ((blk_cell h 19).trans rfl)), fun o => (pw_cell_below (below_alloc (Below.refl _ _) o) ((blk_cell h 20).trans rfl)), fun o => (pw_cell_below (below_alloc (Below.refl _ _) o) ((blk_cell h 21).trans rfl)), fun o => (pw_cell_below (below_alloc (Below.refl _ _) o) ((blk_cell h 22).trans rfl)), fun o => (pw_cell_below (below_alloc (Below.refl _ _) o) ((blk_cell h 23).trans rfl))⟩
theorem NoneAt.below {W W2 : World} {g : Nat} {key val : ByteArray} {t : Int} (h : NoneAt W g key val t) (hb : Below W.heap.size W W2) : NoneAt W2 g key val t := (hb.block _ (blk_lt h)).trans h

set_option maxHeartbeats 8000000 in
set_option maxRecDepth 100000 in
theorem recnone_out0 (k : Nat) (key val : ByteArray) (t : Int) (r : Bool) (w : World) (ha : bollardlaw12_awake.f k = some r) (h0 : 2000 < key.size) :
    Calls Try.prog 8 #[.string key, .string val, .int .i64 t] w fun e w' => e = .returned (.bool r) ∧ Below w.heap.size w w' := by
  have HA := Aside0.mk ha
  have f0 : decide (2000 < (key.size : Int)) = true := decide_eq_true (by omega)
  clear ha h0
  go_enter Try.func8, Try.ntmps8
  go_wp2_with fail
  refine (bollardlaw12_awake.calls k r _ HA.out).mono ?_
  rintro e w9 ⟨rfl, hb9⟩
  have HB9 := Aside0.mk hb9
  clear hb9
  go_wp2
  go_ret
  exact ⟨rfl, HB9.out⟩

set_option maxHeartbeats 8000000 in
set_option maxRecDepth 100000 in
theorem recnone_out1 (k : Nat) (key val : ByteArray) (t : Int) (r : Bool) (w : World) (ha : bollardlaw12_awake.f k = some r) (h0 : ¬ 2000 < key.size) (h1 : 2000 < val.size) :
    Calls Try.prog 8 #[.string key, .string val, .int .i64 t] w fun e w' => e = .returned (.bool r) ∧ Below w.heap.size w w' := by
  have HA := Aside0.mk ha
  have f0 : decide (2000 < (key.size : Int)) = false := decide_eq_false (by omega)
  have f1 : decide (2000 < (val.size : Int)) = true := decide_eq_true (by omega)
  clear ha h0 h1
  go_enter Try.func8, Try.ntmps8
  go_wp2_with fail
  refine (bollardlaw12_awake.calls k r _ HA.out).mono ?_
  rintro e w9 ⟨rfl, hb9⟩
  have HB9 := Aside0.mk hb9
  clear hb9
  go_wp2
  go_ret
  exact ⟨rfl, HB9.out⟩

set_option maxHeartbeats 8000000 in
set_option maxRecDepth 100000 in
theorem recnone_out2 (k : Nat) (key val : ByteArray) (t : Int) (r : Bool) (w : World) (ha : bollardlaw12_awake.f k = some r) (h0 : ¬ 2000 < key.size) (h1 : ¬ 2000 < val.size) (h2 : t < 0) :
    Calls Try.prog 8 #[.string key, .string val, .int .i64 t] w fun e w' => e = .returned (.bool r) ∧ Below w.heap.size w w' := by
  have HA := Aside0.mk ha
  have f0 : decide (2000 < (key.size : Int)) = false := decide_eq_false (by omega)
  have f1 : decide (2000 < (val.size : Int)) = false := decide_eq_false (by omega)
  have f2 : decide (t < 0) = true := decide_eq_true (by omega)
  clear ha h0 h1 h2
  go_enter Try.func8, Try.ntmps8
  go_wp2_with fail
  refine (bollardlaw12_awake.calls k r _ HA.out).mono ?_
  rintro e w9 ⟨rfl, hb9⟩
  have HB9 := Aside0.mk hb9
  clear hb9
  go_wp2
  go_ret
  exact ⟨rfl, HB9.out⟩

set_option maxHeartbeats 8000000 in
set_option maxRecDepth 100000 in
theorem recnone_out3 (k : Nat) (key val : ByteArray) (t : Int) (r : Bool) (w : World) (ha : bollardlaw12_awake.f k = some r) (h0 : ¬ 2000 < key.size) (h1 : ¬ 2000 < val.size) (h2 : ¬ t < 0) (h3 : 1125899906842624 < t) :
    Calls Try.prog 8 #[.string key, .string val, .int .i64 t] w fun e w' => e = .returned (.bool r) ∧ Below w.heap.size w w' := by
  have HA := Aside0.mk ha
  have f0 : decide (2000 < (key.size : Int)) = false := decide_eq_false (by omega)
  have f1 : decide (2000 < (val.size : Int)) = false := decide_eq_false (by omega)
  have f2 : decide (t < 0) = false := decide_eq_false (by omega)
  have f3 : decide (1125899906842624 < t) = true := decide_eq_true (by omega)
  clear ha h0 h1 h2 h3
  go_enter Try.func8, Try.ntmps8
  go_wp2_with fail
  refine (bollardlaw12_awake.calls k r _ HA.out).mono ?_
  rintro e w9 ⟨rfl, hb9⟩
  have HB9 := Aside0.mk hb9
  clear hb9
  go_wp2
  go_ret
  exact ⟨rfl, HB9.out⟩

set_option maxHeartbeats 8000000 in
set_option maxRecDepth 100000 in
theorem recnone_in (k : Nat) (key val : ByteArray) (t : Int) (r : Bool) (w : World) (ha : bollardlaw12_awake.f k = some r) (h0 : ¬ 2000 < key.size) (h1 : ¬ 2000 < val.size) (h2 : ¬ t < 0) (h3 : ¬ 1125899906842624 < t) (l0 : List Int) (he0 : record_Encode.f k true key true val t 0 t = some (l0, 0)) (hd0 : ∃ n, record_Decode.f k l0 t = some (true, key, true, val, t, 0, n, 0)) (l1 : List Int) (he1 : record_Encode.f k false ⟨#[]⟩ true val t 0 t = some (l1, 0)) (hd1 : ∃ n, record_Decode.f k l1 t = some (false, ⟨#[]⟩, true, val, t, 0, n, 0)) (l2 : List Int) (he2 : record_Encode.f k true key false ⟨#[]⟩ t 0 t = some (l2, 0)) (hd2 : ∃ n, record_Decode.f k l2 t = some (true, key, false, ⟨#[]⟩, t, 0, n, 0)) (l3 : List Int) (he3 : record_Encode.f k false ⟨#[]⟩ false ⟨#[]⟩ t 0 t = some (l3, 0)) (hd3 : ∃ n, record_Decode.f k l3 t = some (false, ⟨#[]⟩, false, ⟨#[]⟩, t, 0, n, 0)) (hb10 : bollardalike_Bytes.f k l1 l0 = some false) (hb20 : bollardalike_Bytes.f k l2 l0 = some false) (hb21 : bollardalike_Bytes.f k l2 l1 = some false) (hb30 : bollardalike_Bytes.f k l3 l0 = some false) (hb31 : bollardalike_Bytes.f k l3 l1 = some false) (hb32 : bollardalike_Bytes.f k l3 l2 = some false) :
    Calls Try.prog 8 #[.string key, .string val, .int .i64 t] w fun e w' => e = .returned (.bool r) ∧ Below w.heap.size w w' := by
  have HA := Aside0.mk ha
  have f0 : decide (2000 < (key.size : Int)) = false := decide_eq_false (by omega)
  have f1 : decide (2000 < (val.size : Int)) = false := decide_eq_false (by omega)
  have f2 : decide (t < 0) = false := decide_eq_false (by omega)
  have f3 : decide (1125899906842624 < t) = false := decide_eq_false (by omega)
  obtain ⟨n0, hd0⟩ := hd0
  have HE0 := Aside0.mk he0
  have HD0 := Aside0.mk hd0
  obtain ⟨n1, hd1⟩ := hd1
  have HE1 := Aside0.mk he1
  have HD1 := Aside0.mk hd1
  obtain ⟨n2, hd2⟩ := hd2
  have HE2 := Aside0.mk he2
  have HD2 := Aside0.mk hd2
  obtain ⟨n3, hd3⟩ := hd3
  have HE3 := Aside0.mk he3
  have HD3 := Aside0.mk hd3
  have HY10 := Aside0.mk hb10
  have HY20 := Aside0.mk hb20
  have HY21 := Aside0.mk hb21
  have HY30 := Aside0.mk hb30
  have HY31 := Aside0.mk hb31
  have HY32 := Aside0.mk hb32
  clear ha h0 h1 h2 h3 he0 hd0 he1 hd1 he2 hd2 he3 hd3 hb10 hb20 hb21 hb30 hb31 hb32
  have hu44 := Try.underlying44
  go_enter Try.func8, Try.ntmps8
  go_wp2_with fail
  have BK := Aside0.mk (show NoneAt (w.alloc (.cells #[.bool true, .string key, .bool true, .string val, .int .i64 t, .int .i64 0, .bool false, .string ⟨#[]⟩, .bool true, .string val, .int .i64 t, .int .i64 0, .bool true, .string key, .bool false, .string ⟨#[]⟩, .int .i64 t, .int .i64 0, .bool false, .string ⟨#[]⟩, .bool false, .string ⟨#[]⟩, .int .i64 t, .int .i64 0] 44)) w.heap.size key val t from by simpa [NoneAt] using heap_alloc_new w _)
  have HB := Aside0.mk (show Below w.heap.size w (w.alloc (.cells #[.bool true, .string key, .bool true, .string val, .int .i64 t, .int .i64 0, .bool false, .string ⟨#[]⟩, .bool true, .string val, .int .i64 t, .int .i64 0, .bool true, .string key, .bool false, .string ⟨#[]⟩, .int .i64 t, .int .i64 0, .bool false, .string ⟨#[]⟩, .bool false, .string ⟨#[]⟩, .int .i64 t, .int .i64 0] 44)) from below_alloc (Below.refl _ _) _)
  generalize w.alloc (.cells #[.bool true, .string key, .bool true, .string val, .int .i64 t, .int .i64 0, .bool false, .string ⟨#[]⟩, .bool true, .string val, .int .i64 t, .int .i64 0, .bool true, .string key, .bool false, .string ⟨#[]⟩, .int .i64 t, .int .i64 0, .bool false, .string ⟨#[]⟩, .bool false, .string ⟨#[]⟩, .int .i64 t, .int .i64 0] 44) = w0 at BK HB ⊢
  refine wp_loop_rounds 5 ?_
  rw [rounds_succ]
  obtain ⟨q0, q1, q2, q3, q4, q5⟩ := BK.out.cells0
  go_wp2_with fail
  refine (record_Encode.calls k true key true val t 0 t l0 0 _ HE0.out).mono ?_
  rintro e w1 ⟨v, rfl, hR, hb⟩
  obtain ⟨Aa0, ca0, rfl, hlc, hC⟩ := Kd.R_reads hR
  have HCa0 := Aside0.mk hC
  have HLa0 := Aside0.mk hlc
  have BK' := Aside0.mk (BK.out.below hb)
  have HB' := Aside0.mk (below_step HB.out hb)
  clear hR hC hlc q0 q1 q2 q3 q4 q5
  clear BK HB hb
  have BK := BK'
  have HB := HB'
  clear BK' HB'
  go_wp2_with fail
  refine (record_Decode.calls k Aa0 ca0 l0 t true key true val t 0 n0 0 _ HCa0.out HLa0.out HD0.out).mono ?_
  rintro e w2 ⟨rfl, hb⟩
  have HC' := Aside0.mk (Kd.C_below HCa0.out hb)
  clear HCa0
  have HCa0 := HC'
  clear HC'
  have BK' := Aside0.mk (BK.out.below hb)
  have HB' := Aside0.mk (below_step HB.out hb)
  clear BK HB hb
  have BK := BK'
  have HB := HB'
  clear BK' HB'
  obtain ⟨q0, q1, q2, q3, q4, q5⟩ := BK.out.alloc0
  go_wp2
  go_quiet (fail)
  go_wp2
  clear q0 q1 q2 q3 q4 q5
  have hbq : Below w2.heap.size w2 ((w2.alloc (.cells #[.bool true, .string key, .bool true, .string val, .int .i64 t, .int .i64 0] 23)).drewN nq) := pw_below_drewN (below_alloc (Below.refl _ _) _) nq
  have HC' := Aside0.mk (Kd.C_below HCa0.out hbq)
  have BK' := Aside0.mk (BK.out.below hbq)
  have HB' := Aside0.mk (below_step HB.out hbq)
  clear HCa0 BK HB hbq
  have HCa0 := HC'
  have BK := BK'
  have HB := HB'
  clear HC' BK' HB'
  generalize (w2.alloc (.cells #[.bool true, .string key, .bool true, .string val, .int .i64 t, .int .i64 0] 23)).drewN nq = w3 at HCa0 BK HB ⊢
  refine wp_loop_rounds 1 ?_
  rw [rounds_succ]
  go_wp2
  clear HCa0 HLa0
  rw [rounds_succ]
  obtain ⟨q0, q1, q2, q3, q4, q5⟩ := BK.out.cells1
  go_wp2_with fail
  refine (record_Encode.calls k false ⟨#[]⟩ true val t 0 t l1 0 _ HE1.out).mono ?_
  rintro e w1 ⟨v, rfl, hR, hb⟩
  obtain ⟨Aa1, ca1, rfl, hlc, hC⟩ := Kd.R_reads hR
  have HCa1 := Aside0.mk hC
  have HLa1 := Aside0.mk hlc
  have BK' := Aside0.mk (BK.out.below hb)
  have HB' := Aside0.mk (below_step HB.out hb)
  clear hR hC hlc q0 q1 q2 q3 q4 q5
  clear BK HB hb
  have BK := BK'
  have HB := HB'
  clear BK' HB'
  go_wp2_with fail
  refine (record_Decode.calls k Aa1 ca1 l1 t false ⟨#[]⟩ true val t 0 n1 0 _ HCa1.out HLa1.out HD1.out).mono ?_
  rintro e w2 ⟨rfl, hb⟩
  have HC' := Aside0.mk (Kd.C_below HCa1.out hb)
  clear HCa1
  have HCa1 := HC'
  clear HC'
  have BK' := Aside0.mk (BK.out.below hb)
  have HB' := Aside0.mk (below_step HB.out hb)
  clear BK HB hb
  have BK := BK'
  have HB := HB'
  clear BK' HB'
  obtain ⟨q0, q1, q2, q3, q4, q5⟩ := BK.out.alloc1
  go_wp2
  go_quiet (fail)
  go_wp2
  clear q0 q1 q2 q3 q4 q5
  have hbq : Below w2.heap.size w2 ((w2.alloc (.cells #[.bool false, .string ⟨#[]⟩, .bool true, .string val, .int .i64 t, .int .i64 0] 23)).drewN nq) := pw_below_drewN (below_alloc (Below.refl _ _) _) nq
  have HC' := Aside0.mk (Kd.C_below HCa1.out hbq)
  have BK' := Aside0.mk (BK.out.below hbq)
  have HB' := Aside0.mk (below_step HB.out hbq)
  clear HCa1 BK HB hbq
  have HCa1 := HC'
  have BK := BK'
  have HB := HB'
  clear HC' BK' HB'
  generalize (w2.alloc (.cells #[.bool false, .string ⟨#[]⟩, .bool true, .string val, .int .i64 t, .int .i64 0] 23)).drewN nq = w3 at HCa1 BK HB ⊢
  refine wp_loop_rounds 2 ?_
  rw [rounds_succ]
  obtain ⟨q0, q1, q2, q3, q4, q5⟩ := BK.out.cells0
  go_wp2_with fail
  refine (record_Encode.calls k true key true val t 0 t l0 0 _ HE0.out).mono ?_
  rintro e w1 ⟨v, rfl, hR, hb⟩
  obtain ⟨Ax10, cx10, rfl, hlc, hC⟩ := Kd.R_reads hR
  have HCx10 := Aside0.mk hC
  have HLx10 := Aside0.mk hlc
  have BK' := Aside0.mk (BK.out.below hb)
  have HB' := Aside0.mk (below_step HB.out hb)
  have HC' := Aside0.mk (Kd.C_below HCa1.out hb)
  clear HCa1
  have HCa1 := HC'
  clear HC' hR hC hlc q0 q1 q2 q3 q4 q5
  clear BK HB hb
  have BK := BK'
  have HB := HB'
  clear BK' HB'
  go_wp2_with fail
  refine (bollardalike_Bytes.calls k Aa1 ca1 l1 Ax10 cx10 l0 false _ HCa1.out HLa1.out HCx10.out HLx10.out HY10.out).mono ?_
  rintro e w2 ⟨rfl, ⟨qq, rfl⟩⟩
  have hbq : Below w1.heap.size w1 (w1.drewN qq) := pw_below_drewN (Below.refl _ _) qq
  have HC' := Aside0.mk (Kd.C_below HCa1.out hbq)
  have BK' := Aside0.mk (BK.out.below hbq)
  have HB' := Aside0.mk (below_step HB.out hbq)
  clear HCa1 HCx10 HLx10 BK HB hbq
  have HCa1 := HC'
  have BK := BK'
  have HB := HB'
  clear HC' BK' HB'
  generalize w1.drewN qq = w3 at HCa1 BK HB ⊢
  go_wp2
  rw [rounds_succ]
  go_wp2
  clear HCa1 HLa1
  rw [rounds_succ]
  obtain ⟨q0, q1, q2, q3, q4, q5⟩ := BK.out.cells2
  go_wp2_with fail
  refine (record_Encode.calls k true key false ⟨#[]⟩ t 0 t l2 0 _ HE2.out).mono ?_
  rintro e w1 ⟨v, rfl, hR, hb⟩
  obtain ⟨Aa2, ca2, rfl, hlc, hC⟩ := Kd.R_reads hR
  have HCa2 := Aside0.mk hC
  have HLa2 := Aside0.mk hlc
  have BK' := Aside0.mk (BK.out.below hb)
  have HB' := Aside0.mk (below_step HB.out hb)
  clear hR hC hlc q0 q1 q2 q3 q4 q5
  clear BK HB hb
  have BK := BK'
  have HB := HB'
  clear BK' HB'
  go_wp2_with fail
  refine (record_Decode.calls k Aa2 ca2 l2 t true key false ⟨#[]⟩ t 0 n2 0 _ HCa2.out HLa2.out HD2.out).mono ?_
  rintro e w2 ⟨rfl, hb⟩
  have HC' := Aside0.mk (Kd.C_below HCa2.out hb)
  clear HCa2
  have HCa2 := HC'
  clear HC'
  have BK' := Aside0.mk (BK.out.below hb)
  have HB' := Aside0.mk (below_step HB.out hb)
  clear BK HB hb
  have BK := BK'
  have HB := HB'
  clear BK' HB'
  obtain ⟨q0, q1, q2, q3, q4, q5⟩ := BK.out.alloc2
  go_wp2
  go_quiet (fail)
  go_wp2
  clear q0 q1 q2 q3 q4 q5
  have hbq : Below w2.heap.size w2 ((w2.alloc (.cells #[.bool true, .string key, .bool false, .string ⟨#[]⟩, .int .i64 t, .int .i64 0] 23)).drewN nq) := pw_below_drewN (below_alloc (Below.refl _ _) _) nq
  have HC' := Aside0.mk (Kd.C_below HCa2.out hbq)
  have BK' := Aside0.mk (BK.out.below hbq)
  have HB' := Aside0.mk (below_step HB.out hbq)
  clear HCa2 BK HB hbq
  have HCa2 := HC'
  have BK := BK'
  have HB := HB'
  clear HC' BK' HB'
  generalize (w2.alloc (.cells #[.bool true, .string key, .bool false, .string ⟨#[]⟩, .int .i64 t, .int .i64 0] 23)).drewN nq = w3 at HCa2 BK HB ⊢
  refine wp_loop_rounds 3 ?_
  rw [rounds_succ]
  obtain ⟨q0, q1, q2, q3, q4, q5⟩ := BK.out.cells0
  go_wp2_with fail
  refine (record_Encode.calls k true key true val t 0 t l0 0 _ HE0.out).mono ?_
  rintro e w1 ⟨v, rfl, hR, hb⟩
  obtain ⟨Ax20, cx20, rfl, hlc, hC⟩ := Kd.R_reads hR
  have HCx20 := Aside0.mk hC
  have HLx20 := Aside0.mk hlc
  have BK' := Aside0.mk (BK.out.below hb)
  have HB' := Aside0.mk (below_step HB.out hb)
  have HC' := Aside0.mk (Kd.C_below HCa2.out hb)
  clear HCa2
  have HCa2 := HC'
  clear HC' hR hC hlc q0 q1 q2 q3 q4 q5
  clear BK HB hb
  have BK := BK'
  have HB := HB'
  clear BK' HB'
  go_wp2_with fail
  refine (bollardalike_Bytes.calls k Aa2 ca2 l2 Ax20 cx20 l0 false _ HCa2.out HLa2.out HCx20.out HLx20.out HY20.out).mono ?_
  rintro e w2 ⟨rfl, ⟨qq, rfl⟩⟩
  have hbq : Below w1.heap.size w1 (w1.drewN qq) := pw_below_drewN (Below.refl _ _) qq
  have HC' := Aside0.mk (Kd.C_below HCa2.out hbq)
  have BK' := Aside0.mk (BK.out.below hbq)
  have HB' := Aside0.mk (below_step HB.out hbq)
  clear HCa2 HCx20 HLx20 BK HB hbq
  have HCa2 := HC'
  have BK := BK'
  have HB := HB'
  clear HC' BK' HB'
  generalize w1.drewN qq = w3 at HCa2 BK HB ⊢
  go_wp2
  rw [rounds_succ]
  obtain ⟨q0, q1, q2, q3, q4, q5⟩ := BK.out.cells1
  go_wp2_with fail
  refine (record_Encode.calls k false ⟨#[]⟩ true val t 0 t l1 0 _ HE1.out).mono ?_
  rintro e w1 ⟨v, rfl, hR, hb⟩
  obtain ⟨Ax21, cx21, rfl, hlc, hC⟩ := Kd.R_reads hR
  have HCx21 := Aside0.mk hC
  have HLx21 := Aside0.mk hlc
  have BK' := Aside0.mk (BK.out.below hb)
  have HB' := Aside0.mk (below_step HB.out hb)
  have HC' := Aside0.mk (Kd.C_below HCa2.out hb)
  clear HCa2
  have HCa2 := HC'
  clear HC' hR hC hlc q0 q1 q2 q3 q4 q5
  clear BK HB hb
  have BK := BK'
  have HB := HB'
  clear BK' HB'
  go_wp2_with fail
  refine (bollardalike_Bytes.calls k Aa2 ca2 l2 Ax21 cx21 l1 false _ HCa2.out HLa2.out HCx21.out HLx21.out HY21.out).mono ?_
  rintro e w2 ⟨rfl, ⟨qq, rfl⟩⟩
  have hbq : Below w1.heap.size w1 (w1.drewN qq) := pw_below_drewN (Below.refl _ _) qq
  have HC' := Aside0.mk (Kd.C_below HCa2.out hbq)
  have BK' := Aside0.mk (BK.out.below hbq)
  have HB' := Aside0.mk (below_step HB.out hbq)
  clear HCa2 HCx21 HLx21 BK HB hbq
  have HCa2 := HC'
  have BK := BK'
  have HB := HB'
  clear HC' BK' HB'
  generalize w1.drewN qq = w3 at HCa2 BK HB ⊢
  go_wp2
  rw [rounds_succ]
  go_wp2
  clear HCa2 HLa2
  rw [rounds_succ]
  obtain ⟨q0, q1, q2, q3, q4, q5⟩ := BK.out.cells3
  go_wp2_with fail
  refine (record_Encode.calls k false ⟨#[]⟩ false ⟨#[]⟩ t 0 t l3 0 _ HE3.out).mono ?_
  rintro e w1 ⟨v, rfl, hR, hb⟩
  obtain ⟨Aa3, ca3, rfl, hlc, hC⟩ := Kd.R_reads hR
  have HCa3 := Aside0.mk hC
  have HLa3 := Aside0.mk hlc
  have BK' := Aside0.mk (BK.out.below hb)
  have HB' := Aside0.mk (below_step HB.out hb)
  clear hR hC hlc q0 q1 q2 q3 q4 q5
  clear BK HB hb
  have BK := BK'
  have HB := HB'
  clear BK' HB'
  go_wp2_with fail
  refine (record_Decode.calls k Aa3 ca3 l3 t false ⟨#[]⟩ false ⟨#[]⟩ t 0 n3 0 _ HCa3.out HLa3.out HD3.out).mono ?_
  rintro e w2 ⟨rfl, hb⟩
  have HC' := Aside0.mk (Kd.C_below HCa3.out hb)
  clear HCa3
  have HCa3 := HC'
  clear HC'
  have BK' := Aside0.mk (BK.out.below hb)
  have HB' := Aside0.mk (below_step HB.out hb)
  clear BK HB hb
  have BK := BK'
  have HB := HB'
  clear BK' HB'
  obtain ⟨q0, q1, q2, q3, q4, q5⟩ := BK.out.alloc3
  go_wp2
  go_quiet (fail)
  go_wp2
  clear q0 q1 q2 q3 q4 q5
  have hbq : Below w2.heap.size w2 ((w2.alloc (.cells #[.bool false, .string ⟨#[]⟩, .bool false, .string ⟨#[]⟩, .int .i64 t, .int .i64 0] 23)).drewN nq) := pw_below_drewN (below_alloc (Below.refl _ _) _) nq
  have HC' := Aside0.mk (Kd.C_below HCa3.out hbq)
  have BK' := Aside0.mk (BK.out.below hbq)
  have HB' := Aside0.mk (below_step HB.out hbq)
  clear HCa3 BK HB hbq
  have HCa3 := HC'
  have BK := BK'
  have HB := HB'
  clear HC' BK' HB'
  generalize (w2.alloc (.cells #[.bool false, .string ⟨#[]⟩, .bool false, .string ⟨#[]⟩, .int .i64 t, .int .i64 0] 23)).drewN nq = w3 at HCa3 BK HB ⊢
  refine wp_loop_rounds 4 ?_
  rw [rounds_succ]
  obtain ⟨q0, q1, q2, q3, q4, q5⟩ := BK.out.cells0
  go_wp2_with fail
  refine (record_Encode.calls k true key true val t 0 t l0 0 _ HE0.out).mono ?_
  rintro e w1 ⟨v, rfl, hR, hb⟩
  obtain ⟨Ax30, cx30, rfl, hlc, hC⟩ := Kd.R_reads hR
  have HCx30 := Aside0.mk hC
  have HLx30 := Aside0.mk hlc
  have BK' := Aside0.mk (BK.out.below hb)
  have HB' := Aside0.mk (below_step HB.out hb)
  have HC' := Aside0.mk (Kd.C_below HCa3.out hb)
  clear HCa3
  have HCa3 := HC'
  clear HC' hR hC hlc q0 q1 q2 q3 q4 q5
  clear BK HB hb
  have BK := BK'
  have HB := HB'
  clear BK' HB'
  go_wp2_with fail
  refine (bollardalike_Bytes.calls k Aa3 ca3 l3 Ax30 cx30 l0 false _ HCa3.out HLa3.out HCx30.out HLx30.out HY30.out).mono ?_
  rintro e w2 ⟨rfl, ⟨qq, rfl⟩⟩
  have hbq : Below w1.heap.size w1 (w1.drewN qq) := pw_below_drewN (Below.refl _ _) qq
  have HC' := Aside0.mk (Kd.C_below HCa3.out hbq)
  have BK' := Aside0.mk (BK.out.below hbq)
  have HB' := Aside0.mk (below_step HB.out hbq)
  clear HCa3 HCx30 HLx30 BK HB hbq
  have HCa3 := HC'
  have BK := BK'
  have HB := HB'
  clear HC' BK' HB'
  generalize w1.drewN qq = w3 at HCa3 BK HB ⊢
  go_wp2
  rw [rounds_succ]
  obtain ⟨q0, q1, q2, q3, q4, q5⟩ := BK.out.cells1
  go_wp2_with fail
  refine (record_Encode.calls k false ⟨#[]⟩ true val t 0 t l1 0 _ HE1.out).mono ?_
  rintro e w1 ⟨v, rfl, hR, hb⟩
  obtain ⟨Ax31, cx31, rfl, hlc, hC⟩ := Kd.R_reads hR
  have HCx31 := Aside0.mk hC
  have HLx31 := Aside0.mk hlc
  have BK' := Aside0.mk (BK.out.below hb)
  have HB' := Aside0.mk (below_step HB.out hb)
  have HC' := Aside0.mk (Kd.C_below HCa3.out hb)
  clear HCa3
  have HCa3 := HC'
  clear HC' hR hC hlc q0 q1 q2 q3 q4 q5
  clear BK HB hb
  have BK := BK'
  have HB := HB'
  clear BK' HB'
  go_wp2_with fail
  refine (bollardalike_Bytes.calls k Aa3 ca3 l3 Ax31 cx31 l1 false _ HCa3.out HLa3.out HCx31.out HLx31.out HY31.out).mono ?_
  rintro e w2 ⟨rfl, ⟨qq, rfl⟩⟩
  have hbq : Below w1.heap.size w1 (w1.drewN qq) := pw_below_drewN (Below.refl _ _) qq
  have HC' := Aside0.mk (Kd.C_below HCa3.out hbq)
  have BK' := Aside0.mk (BK.out.below hbq)
  have HB' := Aside0.mk (below_step HB.out hbq)
  clear HCa3 HCx31 HLx31 BK HB hbq
  have HCa3 := HC'
  have BK := BK'
  have HB := HB'
  clear HC' BK' HB'
  generalize w1.drewN qq = w3 at HCa3 BK HB ⊢
  go_wp2
  rw [rounds_succ]
  obtain ⟨q0, q1, q2, q3, q4, q5⟩ := BK.out.cells2
  go_wp2_with fail
  refine (record_Encode.calls k true key false ⟨#[]⟩ t 0 t l2 0 _ HE2.out).mono ?_
  rintro e w1 ⟨v, rfl, hR, hb⟩
  obtain ⟨Ax32, cx32, rfl, hlc, hC⟩ := Kd.R_reads hR
  have HCx32 := Aside0.mk hC
  have HLx32 := Aside0.mk hlc
  have BK' := Aside0.mk (BK.out.below hb)
  have HB' := Aside0.mk (below_step HB.out hb)
  have HC' := Aside0.mk (Kd.C_below HCa3.out hb)
  clear HCa3
  have HCa3 := HC'
  clear HC' hR hC hlc q0 q1 q2 q3 q4 q5
  clear BK HB hb
  have BK := BK'
  have HB := HB'
  clear BK' HB'
  go_wp2_with fail
  refine (bollardalike_Bytes.calls k Aa3 ca3 l3 Ax32 cx32 l2 false _ HCa3.out HLa3.out HCx32.out HLx32.out HY32.out).mono ?_
  rintro e w2 ⟨rfl, ⟨qq, rfl⟩⟩
  have hbq : Below w1.heap.size w1 (w1.drewN qq) := pw_below_drewN (Below.refl _ _) qq
  have HC' := Aside0.mk (Kd.C_below HCa3.out hbq)
  have BK' := Aside0.mk (BK.out.below hbq)
  have HB' := Aside0.mk (below_step HB.out hbq)
  clear HCa3 HCx32 HLx32 BK HB hbq
  have HCa3 := HC'
  have BK := BK'
  have HB := HB'
  clear HC' BK' HB'
  generalize w1.drewN qq = w3 at HCa3 BK HB ⊢
  go_wp2
  rw [rounds_succ]
  go_wp2
  clear HCa3 HLa3
  rw [rounds_succ]
  go_wp2_with fail
  refine (bollardlaw12_awake.calls k r _ HA.out).mono ?_
  rintro e w9 ⟨rfl, hb9⟩
  have HB9 := Aside0.mk (below_step HB.out hb9)
  clear hb9
  go_wp2
  go_ret
  exact ⟨rfl, HB9.out⟩

/-! ### bollardlaw12_RecordNone -/
def bollardlaw12_RecordNone.f (k : Nat) (a0 a1 : ByteArray) (a2 : Int) : Option Bool :=
  if 2000 < a0.size then bollardlaw12_awake.f k else if 2000 < a1.size then bollardlaw12_awake.f k else if a2 < 0 then bollardlaw12_awake.f k else if 1125899906842624 < a2 then bollardlaw12_awake.f k else 
  (record_Encode.f k true a0 true a1 a2 0 a2).bind fun b0 => (record_Encode.f k false ⟨#[]⟩ true a1 a2 0 a2).bind fun b1 => (record_Encode.f k true a0 false ⟨#[]⟩ a2 0 a2).bind fun b2 => (record_Encode.f k false ⟨#[]⟩ false ⟨#[]⟩ a2 0 a2).bind fun b3 => 
  (record_Decode.f k b0.1 a2).bind fun d0 => (record_Decode.f k b1.1 a2).bind fun d1 => (record_Decode.f k b2.1 a2).bind fun d2 => (record_Decode.f k b3.1 a2).bind fun d3 => 
  (bollardalike_Bytes.f k b1.1 b0.1).bind fun y10 => (bollardalike_Bytes.f k b2.1 b0.1).bind fun y20 => (bollardalike_Bytes.f k b2.1 b1.1).bind fun y21 => (bollardalike_Bytes.f k b3.1 b0.1).bind fun y30 => (bollardalike_Bytes.f k b3.1 b1.1).bind fun y31 => (bollardalike_Bytes.f k b3.1 b2.1).bind fun y32 => 
  if b0.2 = 0 ∧ b1.2 = 0 ∧ b2.2 = 0 ∧ b3.2 = 0 then if (d0.1 = true ∧ d0.2.1.data = (a0 : ByteArray).data ∧ d0.2.2.1 = true ∧ d0.2.2.2.1.data = (a1 : ByteArray).data ∧ d0.2.2.2.2.1 = a2 ∧ d0.2.2.2.2.2.1 = 0 ∧ d0.2.2.2.2.2.2.2 = 0) ∧ (d1.1 = false ∧ d1.2.1.data = (⟨#[]⟩ : ByteArray).data ∧ d1.2.2.1 = true ∧ d1.2.2.2.1.data = (a1 : ByteArray).data ∧ d1.2.2.2.2.1 = a2 ∧ d1.2.2.2.2.2.1 = 0 ∧ d1.2.2.2.2.2.2.2 = 0) ∧ (d2.1 = true ∧ d2.2.1.data = (a0 : ByteArray).data ∧ d2.2.2.1 = false ∧ d2.2.2.2.1.data = (⟨#[]⟩ : ByteArray).data ∧ d2.2.2.2.2.1 = a2 ∧ d2.2.2.2.2.2.1 = 0 ∧ d2.2.2.2.2.2.2.2 = 0) ∧ (d3.1 = false ∧ d3.2.1.data = (⟨#[]⟩ : ByteArray).data ∧ d3.2.2.1 = false ∧ d3.2.2.2.1.data = (⟨#[]⟩ : ByteArray).data ∧ d3.2.2.2.2.1 = a2 ∧ d3.2.2.2.2.2.1 = 0 ∧ d3.2.2.2.2.2.2.2 = 0) then if y10 = false ∧ y20 = false ∧ y21 = false ∧ y30 = false ∧ y31 = false ∧ y32 = false then bollardlaw12_awake.f k else none else none else none
theorem rec8 {d : Bool × ByteArray × Bool × ByteArray × Int × Int × Int × Int} {a c : Bool} {b e : ByteArray} {t : Int} (h : d.1 = a ∧ d.2.1.data = b.data ∧ d.2.2.1 = c ∧ d.2.2.2.1.data = e.data ∧ d.2.2.2.2.1 = t ∧ d.2.2.2.2.2.1 = 0 ∧ d.2.2.2.2.2.2.2 = 0) : d = (a, b, c, e, t, 0, d.2.2.2.2.2.2.1, 0) := by
  obtain ⟨d1, ⟨d2⟩, d3, ⟨d4⟩, d5, d6, d7, d8⟩ := d
  obtain ⟨b⟩ := b
  obtain ⟨e⟩ := e
  obtain ⟨h1, h2, h3, h4, h5, h6, h7⟩ := h
  dsimp only at h1 h2 h3 h4 h5 h6 h7
  subst h1 h2 h3 h4 h5 h6 h7
  rfl
theorem bollardlaw12_RecordNone.calls (k : Nat) (a0 a1 : ByteArray) (a2 : Int) (r : Bool) (w : World) (h : bollardlaw12_RecordNone.f k a0 a1 a2 = some r) :
    Calls Try.prog 8 #[.string a0, .string a1, .int .i64 a2] w fun e w' => e = .returned (.bool r) ∧ Below w.heap.size w w' := by
  unfold bollardlaw12_RecordNone.f at h
  by_cases h0 : 2000 < a0.size
  · rw [if_pos h0] at h
    exact recnone_out0 k a0 a1 a2 r w h h0
  rw [if_neg h0] at h
  by_cases h1 : 2000 < a1.size
  · rw [if_pos h1] at h
    exact recnone_out1 k a0 a1 a2 r w h h0 h1
  rw [if_neg h1] at h
  by_cases h2 : a2 < 0
  · rw [if_pos h2] at h
    exact recnone_out2 k a0 a1 a2 r w h h0 h1 h2
  rw [if_neg h2] at h
  by_cases h3 : 1125899906842624 < a2
  · rw [if_pos h3] at h
    exact recnone_out3 k a0 a1 a2 r w h h0 h1 h2 h3
  rw [if_neg h3] at h
  obtain ⟨⟨l0, e0⟩, he0, hh1⟩ := Option.bind_eq_some_iff.mp h
  clear h
  dsimp only at hh1
  obtain ⟨⟨l1, e1⟩, he1, hh2⟩ := Option.bind_eq_some_iff.mp hh1
  clear hh1
  dsimp only at hh2
  obtain ⟨⟨l2, e2⟩, he2, hh3⟩ := Option.bind_eq_some_iff.mp hh2
  clear hh2
  dsimp only at hh3
  obtain ⟨⟨l3, e3⟩, he3, hh4⟩ := Option.bind_eq_some_iff.mp hh3
  clear hh3
  dsimp only at hh4
  obtain ⟨d0, hd0, hh5⟩ := Option.bind_eq_some_iff.mp hh4
  clear hh4
  obtain ⟨d1, hd1, hh6⟩ := Option.bind_eq_some_iff.mp hh5
  clear hh5
  obtain ⟨d2, hd2, hh7⟩ := Option.bind_eq_some_iff.mp hh6
  clear hh6
  obtain ⟨d3, hd3, hh8⟩ := Option.bind_eq_some_iff.mp hh7
  clear hh7
  obtain ⟨y10, hb10, hh9⟩ := Option.bind_eq_some_iff.mp hh8
  clear hh8
  obtain ⟨y20, hb20, hh10⟩ := Option.bind_eq_some_iff.mp hh9
  clear hh9
  obtain ⟨y21, hb21, hh11⟩ := Option.bind_eq_some_iff.mp hh10
  clear hh10
  obtain ⟨y30, hb30, hh12⟩ := Option.bind_eq_some_iff.mp hh11
  clear hh11
  obtain ⟨y31, hb31, hh13⟩ := Option.bind_eq_some_iff.mp hh12
  clear hh12
  obtain ⟨y32, hb32, hh14⟩ := Option.bind_eq_some_iff.mp hh13
  clear hh13
  have h := hh14
  clear hh14
  split at h
  case isFalse => cases h
  rename_i g1
  split at h
  case isFalse => cases h
  rename_i g2
  split at h
  case isFalse => cases h
  rename_i g3
  obtain ⟨rfl, rfl, rfl, rfl⟩ := g1
  obtain ⟨g20, g21, g22, g23⟩ := g2
  obtain ⟨rfl, rfl, rfl, rfl, rfl, rfl⟩ := g3
  rw [rec8 g20] at hd0
  rw [rec8 g21] at hd1
  rw [rec8 g22] at hd2
  rw [rec8 g23] at hd3
  exact recnone_in k a0 a1 a2 r w h h0 h1 h2 h3 l0 he0 ⟨_, hd0⟩ l1 he1 ⟨_, hd1⟩ l2 he2 ⟨_, hd2⟩ l3 he3 ⟨_, hd3⟩ hb10 hb20 hb21 hb30 hb31 hb32

/-- THE ONE PURE STATEMENT of bollardlaw12_RecordNone: mine. -/
def bollardlaw12_RecordNone.Pure : Prop := ∀ (a0 : ByteArray) (a1 : ByteArray) (a2 : Int), a0.size ≤ 140737488351232 → a1.size ≤ 140737488351232 → (Lit.int .i64 a2).wf = true → ∃ k, bollardlaw12_RecordNone.f k a0 a1 a2 = some true

end Go.Proofs.Ytcmkmjmhjjohkaa.PDec
