import Derived.Test.YtdlkofmcioalfaaChS
import Derived.Outline
import Derived.StillTailTactics
import Derived.RegionTactic
import Derived.BigRegion
import Derived.Lib.BufferWrite
namespace Go.Proofs.Ytdlkofmcioalfaa.PCk
open Go.RowKit Go.Proofs.YtdlkofmcioalfaaW.PrintWords Go.Proofs.YtdlkofmcioalfaaW.PrintLast Go.Proofs.YtdlkofmcioalfaaW.PrintMore
attribute [local go_sem] max2_int min2_int max_two min_two max_three min_three max_four min_four
set_option linter.unusedVariables false
set_option linter.unusedSimpArgs false

/-! ### chapter 24's awake, plain -/
def N0 : Value → Option Value := fun _ => none
def bx (i : Int) (v : ByteArray) : SB := ⟨i, 1, 0, 0, [(⟨false, (⟨#[]⟩ : ByteArray), true, v, 0, 0⟩ : SR)]⟩
def aT : ByteArray := ⟨#[97]⟩
def aX : ByteArray := ⟨#[120]⟩
def aY : ByteArray := ⟨#[121]⟩
def aZ : ByteArray := ⟨#[122]⟩
noncomputable def awE : Value → Option Value := upd N0 (partV aT 0) (endsV 0 2)
noncomputable def awR : Value → Option Value := upd (upd N0 (placeV aT 0 0) (recV ⟨false, ⟨#[]⟩, true, aX, 0, 0⟩)) (placeV aT 0 1) (recV ⟨false, ⟨#[]⟩, true, aY, 0, 0⟩)
noncomputable def awS : Value → Option Value := upd (upd N0 (sentV aT 0 0 0) (.int .i64 0)) (sentV aT 0 0 0) (.int .i64 1)
theorem place_ne {t : ByteArray} {p a b : Int} (h : a ≠ b) : placeV t p a ≠ placeV t p b := by
  unfold placeV
  simp only [ne_eq, Value.agg.injEq, Array.mk.injEq, List.cons.injEq, Value.int.injEq, true_and, and_true]
  omega
theorem saw1_none {t : ByteArray} {p st nx : Int} {E : Value → Option Value} (h : E (partV t p) = none) : saw1 t p st nx E = decide (nx < st) := by
  rw [saw1_of (s := 0) (n := 0) (ok := false) (fun h => nomatch h) (fun _ => h)]
  simp
theorem saw1_some {t : ByteArray} {p st nx s n : Int} {E : Value → Option Value} (h : E (partV t p) = some (endsV s n)) : saw1 t p st nx E = (decide (nx < st) || (decide (st < s) || decide (nx < n))) := by
  rw [saw1_of (ok := true) (fun _ => h) (fun h => nomatch h)]
  simp
theorem aw1 : sawF aT 0 0 2 0 [bx 0 aX, bx 1 aY] N0 N0 N0 = (0, awE, awR, awS) := by
  unfold sawF
  rw [saw1_none rfl, if_neg (by decide), if_neg (by decide)]
  have h1 : chgB aT 0 [bx 0 aX, bx 1 aY] N0 = some awR := by
    unfold bx
    simp only [chgB, Option.bind_some]
    rw [chgR_ok (.inl rfl)]
    simp only [chgR, Option.bind_some]
    rw [if_pos (.inl (by rw [upd_other _ _ (place_ne (by decide))]; rfl))]
    rfl
  have h2 : agnB aT 0 [bx 0 aX, bx 1 aY] N0 = some awS := by
    unfold bx
    simp only [agnB]
    rw [if_neg (fun h => absurd h.2.2 (by decide)), if_neg (fun h => absurd h.2.2 (by decide))]
    rfl
  rw [h1]
  dsimp only
  rw [h2]
  rfl
theorem aw_ends : awE (partV aT 0) = some (endsV 0 2) := upd_same _ _ _
theorem aw2 : sawF aT 0 0 1 0 [] awE awR awS = (1, awE, awR, awS) := by
  unfold sawF
  rw [saw1_some aw_ends, if_pos (by decide)]
theorem aw3 : sawF aT 0 0 2 0 [bx 1 aY, bx 0 aX] awE awR awS = (2, awE, awR, awS) := by
  unfold sawF
  rw [saw1_some aw_ends, if_neg (by decide), if_pos (by decide)]
theorem aw4 : sawF aT 0 0 2 0 [bx 0 aZ] awE awR awS = (3, awE, awR, awS) := by
  unfold sawF
  rw [saw1_some aw_ends, if_neg (by decide), if_neg (by decide)]
  have h1 : chgB aT 0 [bx 0 aZ] awR = none := by
    unfold bx
    simp only [chgB]
    rw [chgR_no]
    · rfl
    · have hk : awR (placeV aT 0 (0 + 0)) = some (recV ⟨false, ⟨#[]⟩, true, aX, 0, 0⟩) := by
        unfold awR
        rw [show (0 : Int) + 0 = 0 from rfl, upd_other _ _ (place_ne (by decide)), upd_same]
      rw [hk]
      rintro (h | h)
      · cases h
      · unfold recV at h
        simp [aX, aZ] at h
  rw [h1]
theorem bx_arg (i : Int) (hi : (Lit.int .i64 i).wf = true) (v : ByteArray) : (Lit.int .i64 (bx i v).f0).wf = true ∧ (Lit.int .i64 (bx i v).f1).wf = true ∧ (Lit.int .i64 (bx i v).f2).wf = true ∧ (Lit.int .i64 (bx i v).f3).wf = true ∧ (bx i v).f4.length ≤ 140737488355328 ∧ ∀ r ∈ (bx i v).f4, (Lit.int .i64 r.f5).wf = true := by
  refine ⟨hi, show (Lit.int .i64 1).wf = true from by decide, show (Lit.int .i64 0).wf = true from by decide, show (Lit.int .i64 0).wf = true from by decide, show 1 ≤ 140737488355328 from by decide, fun r hr => ?_⟩
  simp only [bx, List.mem_singleton] at hr
  subst hr
  show (Lit.int .i64 0).wf = true
  decide

end Go.Proofs.Ytdlkofmcioalfaa.PCk
