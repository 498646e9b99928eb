/- Plans: plain facts on the closed form that layout.Make comes to, and what the document fixes. -/
import Derived.Test.YtnfoknnbolgfjaaPArex2
import Derived.KernelRfl
namespace Go.Proofs.Ytnfoknnbolgfjaa.Lay
open Go Go.RowKit Go.Proofs.Ytnfoknnbolgfjaa.PAre Go.Proofs.YtnfoknnbolgfjaaW.PrintWords Go.Proofs.YtnfoknnbolgfjaaW.PrintLast Go.Proofs.YtnfoknnbolgfjaaW.PrintMore
set_option linter.unusedVariables false
set_option linter.unusedSimpArgs false

theorem awake_f : bollardlaw6_awake.f = some true := by kernel_rfl
theorem wfi {x : Int} (h : (Lit.int .i64 x).wf = true) : -9223372036854775808 ≤ x ∧ x ≤ 9223372036854775807 := by
  simp only [Lit.wf, IntKind.min, IntKind.max, IntKind.signed, IntKind.bits] at h
  simp at h
  omega
theorem w64 {x : Int} (h : -9223372036854775808 ≤ x) (h2 : x ≤ 9223372036854775807) : wrap64 x = x := by unfold wrap64; omega

/-- May there be a plan of so many blocks and inodes? -/
def Fits (n i : Int) : Prop := 1 ≤ n ∧ n ≤ 65536 ∧ 1 ≤ i ∧ i ≤ 4096
/-- How many data blocks it has. -/
def room (n i : Int) : Int := mkRest n i - mkBlocks (mkRest n i)
theorem make_bad {n i : Int} (h : ¬ Fits n i) : layout_Make.f n i = some (0, 0, 0, 0, 0, 0, 0, 1) := by
  unfold Fits at h
  unfold layout_Make.f
  by_cases c1 : n < 1
  · rw [if_pos c1]
  rw [if_neg c1]
  by_cases c2 : 65536 < n
  · rw [if_pos c2]
  rw [if_neg c2]
  by_cases c3 : i < 1
  · rw [if_pos c3]
  rw [if_neg c3, if_pos (by omega)]
theorem make_full {n i : Int} (h : Fits n i) (g : room n i < 1) : layout_Make.f n i = some (0, 0, 0, 0, 0, 0, 0, 3) := by
  unfold Fits at h
  unfold layout_Make.f
  rw [if_neg (by omega), if_neg (by omega), if_neg (by omega), if_neg (by omega)]
  unfold room at g
  rw [if_pos g]
theorem make_good {n i : Int} (h : Fits n i) (g : 1 ≤ room n i) : layout_Make.f n i = some (n, i, 246, 246 + (i + 4095) / 4096, 246 + (i + 4095) / 4096 + mkBlocks (mkRest n i), 246 + (i + 4095) / 4096 + mkBlocks (mkRest n i) + (i + 7) / 8, room n i, 0) := by
  unfold Fits at h
  unfold room at g ⊢
  unfold layout_Make.f
  rw [if_neg (by omega), if_neg (by omega), if_neg (by omega), if_neg (by omega), if_neg (by omega)]
theorem room_mono {n i n2 i2 : Int} (h : mkRest n i ≤ mkRest n2 i2) : room n i ≤ room n2 i2 := by
  unfold room mkBlocks
  split <;> split <;> omega
theorem rest_n {n i more : Int} (h : 0 ≤ more) : mkRest n i ≤ mkRest (n + more) i := by unfold mkRest; omega
theorem rest_i {n i more : Int} (h : 0 ≤ more) : mkRest n (i + more) ≤ mkRest n i := by unfold mkRest; omega

end Go.Proofs.Ytnfoknnbolgfjaa.Lay
