import Derived.Test.YtdlkofmcioalfaaChA
import Derived.Outline
import Derived.StillTailTactics
import Derived.RegionTactic
import Derived.BigRegion
import Derived.Lib.BufferWrite
namespace Go.Proofs.Ytdlkofmcioalfaa.PCk
open Go.RowKit Go.Proofs.YtdlkofmcioalfaaW.PrintWords Go.Proofs.YtdlkofmcioalfaaW.PrintLast Go.Proofs.YtdlkofmcioalfaaW.PrintMore
attribute [local go_sem] max2_int min2_int max_two min_two max_three min_three max_four min_four
set_option linter.unusedVariables false
set_option linter.unusedSimpArgs false

/-! ### maps.Copy and check.own -/
set_option maxHeartbeats 4000000 in
set_option maxRecDepth 100000 in
theorem copyE.calls (b : Nat) (o : Option Nat) (F : Value → Option Value) (w : World) (hb : MapV Try.prog 68 w b (fun _ => none)) (ho : MapO Try.prog 68 w o F) (hs : ShE F) (hne : o ≠ some b) :
    Calls Try.prog 46 #[.map (some b), .map o] w fun e w' => e = .returned (.tuple #[]) ∧ MapV Try.prog 68 w' b F ∧ w.grownBy w' (some b) := by
  obtain ⟨w1, n0, hrun, hR, hb1, hsz⟩ := rangeV_start (P := Try.prog) Try.underlying55 ho
  have HRUN := Aside0.mk hrun
  have HR := Aside0.mk hR
  have HB := Aside0.mk (MapV.move hb (hb1.block b hb.lt))
  have HL := Aside0.mk hb.lt
  have HG := Aside0.mk (below_grown hb1 b)
  have HS := Aside0.mk hs
  have HN := Aside0.mk hne
  clear hrun hR hb1 hsz hb ho hs hne
  go_enter Try.func46, Try.ntmps46
  go_wp2_with (refine wpl_range rfl _ _ rfl rfl HRUN.out ?_)
  go_frame
  go_loopg [8] n0 (fun kq v8 wr => ∃ (L G : Value → Option Value) (n : Nat), Aside0 (RangeV Try.prog 68 wr o w.heap.size F L n ∧ n ≤ kq ∧ MapV Try.prog 68 wr b G ∧ Had F L G ∧ w.grownBy wr (some b)))
  case atStart => exact ⟨F, _, n0, ⟨HR.out, Nat.le_refl _, HB.out, Had.start F, HG.out⟩⟩
  case round =>
    clear HR HB HG
    obtain ⟨L, G, n, HI⟩ := hrel
    rcases rangeV_next HI.out.1 0 with ⟨hl, hrun⟩ | ⟨kk, vv, l, w2, n1, hLk, hFk, hkey, hrun, hen, hR1, hlt, hg1, hs1⟩
    · have HX := Aside0.mk hrun
      have HF := Aside0.mk (HI.out.2.2.2.1.last hl)
      clear hrun hl
      go_wp2_with (refine wpl_next rfl _ rfl rfl HX.out ?_)
      go_end0
      exact ⟨rfl, HF.out ▸ HI.out.2.2.1, HI.out.2.2.2.2⟩
    · obtain ⟨⟨k0, k1, rfl, wk0, wk1⟩, v0, v1, rfl⟩ := HS.out kk vv hFk
      have HX := Aside0.mk hrun
      have HE := Aside0.mk hen
      have HK := Aside0.mk hkey
      have hbr : w.heap.size ≠ b := fun q => by have := HL.out; omega
      have HM := Aside0.mk (And.intro hR1 (And.intro (MapV.move HI.out.2.2.1 (hg1.block b HI.out.2.2.1.lt (fun q => hbr (Option.some.inj q).symm))) (And.intro (Had.step HI.out.2.2.2.1 hLk hFk) (And.intro (grown_new HI.out.2.2.2.2 hg1 (Nat.le_refl _)) (Nat.lt_of_lt_of_le hlt HI.out.2.1)))))
      have HZ := Aside0.mk (show ∀ q, o = some q → q < w2.heap.size ∧ q ≠ b from fun q hq => ⟨by have := HI.out.1; subst hq; obtain ⟨es, clock, since, seen, c0, h1, _⟩ := this; rw [hs1]; exact (Array.getElem?_eq_some_iff.1 h1).1, fun e => HN.out (by rw [hq, e])⟩)
      clear hrun hen hkey hR1 hg1 hs1 hLk hFk hlt
      go_wp2_with (first | refine wpl_next rfl _ rfl rfl HX.out ?_ | refine wpl_entry rfl _ rfl rfl HE.out ?_ | (at_mapUpdate; refine wpl_put rfl _ _ _ _ rfl lawE Try.underlying55 rfl rfl rfl ((HM.out.2.1.all _).all _) HK.out ?_; intro w3 hm3 hg3 hs3; go_frame))
      go_roundg n1
      case measure => exact HM.out.2.2.2.2
      case rel =>
        exact ⟨_, _, n1, ⟨RangeV.move HM.out.1 (old2 hg3 HM.out.1.lt hbr) (fun q hq => old2 hg3 (HZ.out q hq).1 (HZ.out q hq).2), Nat.le_refl _, hm3, HM.out.2.2.1, grown_trans (grown_below HM.out.2.2.2.1 (bel2 _ _ _)) hg3⟩⟩
set_option maxHeartbeats 4000000 in
set_option maxRecDepth 100000 in
theorem ownE.calls (o : Option Nat) (F : Value → Option Value) (w : World) (ho : MapO Try.prog 68 w o F) (hs : ShE F) :
    Calls Try.prog 30 #[.map o] w fun e w' => ∃ b, e = .returned (.map (some b)) ∧ w.heap.size ≤ b ∧ MapV Try.prog 68 w' b F ∧ Below w.heap.size w w' := by
  have HO := Aside0.mk ho
  have HS := Aside0.mk hs
  have hmm := @run_makeMap Try.prog
  clear ho hs
  go_enter Try.func30, Try.ntmps30
  go_wp2_with fail
  have hlt : ∀ q, o = some q → q < w.heap.size := fun q hq => by have := HO.out; subst hq; exact this.lt
  refine (copyE.calls w.heap.size o F _ (mapV_new Try.prog 68 w) (HO.out.move (fun q hq => heap_alloc_old w _ (hlt q hq))) HS.out (fun e => Nat.lt_irrefl _ (hlt _ e))).mono ?_
  rintro e w1 ⟨rfl, hm, hg⟩
  have HM := Aside0.mk (And.intro hm (show Below w.heap.size w w1 from (show Below w.heap.size w (w.alloc (.map #[] 0)) from bel1 w _).trans ⟨hg.os, hg.tape, hg.output, hg.size, fun i hi => hg.block i (Nat.lt_of_lt_of_le hi (bel1 w (.map #[] 0)).size) (fun q => Nat.lt_irrefl _ (Option.some.inj q ▸ hi))⟩))
  clear hm hg
  go_wp2_with fail
  go_ret
  exact ⟨_, rfl, Nat.le_refl _, HM.out.1, HM.out.2⟩
set_option maxHeartbeats 4000000 in
set_option maxRecDepth 100000 in
theorem copyR.calls (b : Nat) (o : Option Nat) (F : Value → Option Value) (w : World) (hb : MapV Try.prog 77 w b (fun _ => none)) (ho : MapO Try.prog 77 w o F) (hs : ShR F) (hne : o ≠ some b) :
    Calls Try.prog 41 #[.map (some b), .map o] w fun e w' => e = .returned (.tuple #[]) ∧ MapV Try.prog 77 w' b F ∧ w.grownBy w' (some b) := by
  obtain ⟨w1, n0, hrun, hR, hb1, hsz⟩ := rangeV_start (P := Try.prog) Try.underlying56 ho
  have HRUN := Aside0.mk hrun
  have HR := Aside0.mk hR
  have HB := Aside0.mk (MapV.move hb (hb1.block b hb.lt))
  have HL := Aside0.mk hb.lt
  have HG := Aside0.mk (below_grown hb1 b)
  have HS := Aside0.mk hs
  have HN := Aside0.mk hne
  clear hrun hR hb1 hsz hb ho hs hne
  go_enter Try.func41, Try.ntmps41
  go_wp2_with (refine wpl_range rfl _ _ rfl rfl HRUN.out ?_)
  go_frame
  go_loopg [8] n0 (fun kq v8 wr => ∃ (L G : Value → Option Value) (n : Nat), Aside0 (RangeV Try.prog 77 wr o w.heap.size F L n ∧ n ≤ kq ∧ MapV Try.prog 77 wr b G ∧ Had F L G ∧ w.grownBy wr (some b)))
  case atStart => exact ⟨F, _, n0, ⟨HR.out, Nat.le_refl _, HB.out, Had.start F, HG.out⟩⟩
  case round =>
    clear HR HB HG
    obtain ⟨L, G, n, HI⟩ := hrel
    rcases rangeV_next HI.out.1 0 with ⟨hl, hrun⟩ | ⟨kk, vv, l, w2, n1, hLk, hFk, hkey, hrun, hen, hR1, hlt, hg1, hs1⟩
    · have HX := Aside0.mk hrun
      have HF := Aside0.mk (HI.out.2.2.2.1.last hl)
      clear hrun hl
      go_wp2_with (refine wpl_next rfl _ rfl rfl HX.out ?_)
      go_end0
      exact ⟨rfl, HF.out ▸ HI.out.2.2.1, HI.out.2.2.2.2⟩
    · obtain ⟨⟨k0, k1, k2, k3, rfl, wk0, wk1, wk2, wk3⟩, v0, v1, v2, v3, v4, v5, rfl⟩ := HS.out kk vv hFk
      have HX := Aside0.mk hrun
      have HE := Aside0.mk hen
      have HK := Aside0.mk hkey
      have hbr : w.heap.size ≠ b := fun q => by have := HL.out; omega
      have HM := Aside0.mk (And.intro hR1 (And.intro (MapV.move HI.out.2.2.1 (hg1.block b HI.out.2.2.1.lt (fun q => hbr (Option.some.inj q).symm))) (And.intro (Had.step HI.out.2.2.2.1 hLk hFk) (And.intro (grown_new HI.out.2.2.2.2 hg1 (Nat.le_refl _)) (Nat.lt_of_lt_of_le hlt HI.out.2.1)))))
      have HZ := Aside0.mk (show ∀ q, o = some q → q < w2.heap.size ∧ q ≠ b from fun q hq => ⟨by have := HI.out.1; subst hq; obtain ⟨es, clock, since, seen, c0, h1, _⟩ := this; rw [hs1]; exact (Array.getElem?_eq_some_iff.1 h1).1, fun e => HN.out (by rw [hq, e])⟩)
      clear hrun hen hkey hR1 hg1 hs1 hLk hFk hlt
      go_wp2_with (first | refine wpl_next rfl _ rfl rfl HX.out ?_ | refine wpl_entry rfl _ rfl rfl HE.out ?_ | (at_mapUpdate; refine wpl_put rfl _ _ _ _ rfl lawR Try.underlying56 rfl rfl rfl ((HM.out.2.1.all _).all _) HK.out ?_; intro w3 hm3 hg3 hs3; go_frame))
      go_roundg n1
      case measure => exact HM.out.2.2.2.2
      case rel =>
        exact ⟨_, _, n1, ⟨RangeV.move HM.out.1 (old2 hg3 HM.out.1.lt hbr) (fun q hq => old2 hg3 (HZ.out q hq).1 (HZ.out q hq).2), Nat.le_refl _, hm3, HM.out.2.2.1, grown_trans (grown_below HM.out.2.2.2.1 (bel2 _ _ _)) hg3⟩⟩
set_option maxHeartbeats 4000000 in
set_option maxRecDepth 100000 in
theorem ownR.calls (o : Option Nat) (F : Value → Option Value) (w : World) (ho : MapO Try.prog 77 w o F) (hs : ShR F) :
    Calls Try.prog 25 #[.map o] w fun e w' => ∃ b, e = .returned (.map (some b)) ∧ w.heap.size ≤ b ∧ MapV Try.prog 77 w' b F ∧ Below w.heap.size w w' := by
  have HO := Aside0.mk ho
  have HS := Aside0.mk hs
  have hmm := @run_makeMap Try.prog
  clear ho hs
  go_enter Try.func25, Try.ntmps25
  go_wp2_with fail
  have hlt : ∀ q, o = some q → q < w.heap.size := fun q hq => by have := HO.out; subst hq; exact this.lt
  refine (copyR.calls w.heap.size o F _ (mapV_new Try.prog 77 w) (HO.out.move (fun q hq => heap_alloc_old w _ (hlt q hq))) HS.out (fun e => Nat.lt_irrefl _ (hlt _ e))).mono ?_
  rintro e w1 ⟨rfl, hm, hg⟩
  have HM := Aside0.mk (And.intro hm (show Below w.heap.size w w1 from (show Below w.heap.size w (w.alloc (.map #[] 0)) from bel1 w _).trans ⟨hg.os, hg.tape, hg.output, hg.size, fun i hi => hg.block i (Nat.lt_of_lt_of_le hi (bel1 w (.map #[] 0)).size) (fun q => Nat.lt_irrefl _ (Option.some.inj q ▸ hi))⟩))
  clear hm hg
  go_wp2_with fail
  go_ret
  exact ⟨_, rfl, Nat.le_refl _, HM.out.1, HM.out.2⟩
set_option maxHeartbeats 4000000 in
set_option maxRecDepth 100000 in
theorem copyS.calls (b : Nat) (o : Option Nat) (F : Value → Option Value) (w : World) (hb : MapV Try.prog 80 w b (fun _ => none)) (ho : MapO Try.prog 80 w o F) (hs : ShS F) (hne : o ≠ some b) :
    Calls Try.prog 42 #[.map (some b), .map o] w fun e w' => e = .returned (.tuple #[]) ∧ MapV Try.prog 80 w' b F ∧ w.grownBy w' (some b) := by
  obtain ⟨w1, n0, hrun, hR, hb1, hsz⟩ := rangeV_start (P := Try.prog) Try.underlying57 ho
  have HRUN := Aside0.mk hrun
  have HR := Aside0.mk hR
  have HB := Aside0.mk (MapV.move hb (hb1.block b hb.lt))
  have HL := Aside0.mk hb.lt
  have HG := Aside0.mk (below_grown hb1 b)
  have HS := Aside0.mk hs
  have HN := Aside0.mk hne
  clear hrun hR hb1 hsz hb ho hs hne
  go_enter Try.func42, Try.ntmps42
  go_wp2_with (refine wpl_range rfl _ _ rfl rfl HRUN.out ?_)
  go_frame
  go_loopg [8] n0 (fun kq v8 wr => ∃ (L G : Value → Option Value) (n : Nat), Aside0 (RangeV Try.prog 80 wr o w.heap.size F L n ∧ n ≤ kq ∧ MapV Try.prog 80 wr b G ∧ Had F L G ∧ w.grownBy wr (some b)))
  case atStart => exact ⟨F, _, n0, ⟨HR.out, Nat.le_refl _, HB.out, Had.start F, HG.out⟩⟩
  case round =>
    clear HR HB HG
    obtain ⟨L, G, n, HI⟩ := hrel
    rcases rangeV_next HI.out.1 0 with ⟨hl, hrun⟩ | ⟨kk, vv, l, w2, n1, hLk, hFk, hkey, hrun, hen, hR1, hlt, hg1, hs1⟩
    · have HX := Aside0.mk hrun
      have HF := Aside0.mk (HI.out.2.2.2.1.last hl)
      clear hrun hl
      go_wp2_with (refine wpl_next rfl _ rfl rfl HX.out ?_)
      go_end0
      exact ⟨rfl, HF.out ▸ HI.out.2.2.1, HI.out.2.2.2.2⟩
    · obtain ⟨⟨k0, k1, k2, k3, rfl, wk0, wk1, wk2, wk3⟩, v0, rfl⟩ := HS.out kk vv hFk
      have HX := Aside0.mk hrun
      have HE := Aside0.mk hen
      have HK := Aside0.mk hkey
      have hbr : w.heap.size ≠ b := fun q => by have := HL.out; omega
      have HM := Aside0.mk (And.intro hR1 (And.intro (MapV.move HI.out.2.2.1 (hg1.block b HI.out.2.2.1.lt (fun q => hbr (Option.some.inj q).symm))) (And.intro (Had.step HI.out.2.2.2.1 hLk hFk) (And.intro (grown_new HI.out.2.2.2.2 hg1 (Nat.le_refl _)) (Nat.lt_of_lt_of_le hlt HI.out.2.1)))))
      have HZ := Aside0.mk (show ∀ q, o = some q → q < w2.heap.size ∧ q ≠ b from fun q hq => ⟨by have := HI.out.1; subst hq; obtain ⟨es, clock, since, seen, c0, h1, _⟩ := this; rw [hs1]; exact (Array.getElem?_eq_some_iff.1 h1).1, fun e => HN.out (by rw [hq, e])⟩)
      clear hrun hen hkey hR1 hg1 hs1 hLk hFk hlt
      go_wp2_with (first | refine wpl_next rfl _ rfl rfl HX.out ?_ | refine wpl_entry rfl _ rfl rfl HE.out ?_ | (at_mapUpdate; refine wpl_put rfl _ _ _ _ rfl lawS Try.underlying57 rfl rfl rfl (HM.out.2.1.all _) HK.out ?_; intro w3 hm3 hg3 hs3; go_frame))
      go_roundg n1
      case measure => exact HM.out.2.2.2.2
      case rel =>
        exact ⟨_, _, n1, ⟨RangeV.move HM.out.1 (old1 hg3 HM.out.1.lt hbr) (fun q hq => old1 hg3 (HZ.out q hq).1 (HZ.out q hq).2), Nat.le_refl _, hm3, HM.out.2.2.1, grown_trans (grown_below HM.out.2.2.2.1 (bel1 _ _)) hg3⟩⟩
set_option maxHeartbeats 4000000 in
set_option maxRecDepth 100000 in
theorem ownS.calls (o : Option Nat) (F : Value → Option Value) (w : World) (ho : MapO Try.prog 80 w o F) (hs : ShS F) :
    Calls Try.prog 26 #[.map o] w fun e w' => ∃ b, e = .returned (.map (some b)) ∧ w.heap.size ≤ b ∧ MapV Try.prog 80 w' b F ∧ Below w.heap.size w w' := by
  have HO := Aside0.mk ho
  have HS := Aside0.mk hs
  have hmm := @run_makeMap Try.prog
  clear ho hs
  go_enter Try.func26, Try.ntmps26
  go_wp2_with fail
  have hlt : ∀ q, o = some q → q < w.heap.size := fun q hq => by have := HO.out; subst hq; exact this.lt
  refine (copyS.calls w.heap.size o F _ (mapV_new Try.prog 80 w) (HO.out.move (fun q hq => heap_alloc_old w _ (hlt q hq))) HS.out (fun e => Nat.lt_irrefl _ (hlt _ e))).mono ?_
  rintro e w1 ⟨rfl, hm, hg⟩
  have HM := Aside0.mk (And.intro hm (show Below w.heap.size w w1 from (show Below w.heap.size w (w.alloc (.map #[] 0)) from bel1 w _).trans ⟨hg.os, hg.tape, hg.output, hg.size, fun i hi => hg.block i (Nat.lt_of_lt_of_le hi (bel1 w (.map #[] 0)).size) (fun q => Nat.lt_irrefl _ (Option.some.inj q ▸ hi))⟩))
  clear hm hg
  go_wp2_with fail
  go_ret
  exact ⟨_, rfl, Nat.le_refl _, HM.out.1, HM.out.2⟩

end Go.Proofs.Ytdlkofmcioalfaa.PCk
