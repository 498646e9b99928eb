/-
  No cell of these rows narrows 'for every input' (looked for: loops, veiled, ifaces, maps, wideKeys, modest, calm, conditions, laid).
  DERIVED. THE GIVEN ROWS OF THIS SEAT. 10 by the template 'for every input the law returns true; each argument reads behind the call as it read before'; 0 by the template 'total and deterministic' (their statements: YtnfoknnbolgfjaaTotals.lean).
  GIVEN WITH THE SEED: the statements are not yours to turn. If you find one false, say at which input.
  Laid BY PROGRAM, IN A SANDBOX (cutbox-rows.mjs): the forced cells as the released guide's own fill.sh prints them over the translation c00fd7d7ca6bdc56… (all of the seat's roots in one cut). By AI agents, Wed Nov 11 2026. No macro, syntax, notation, axiom, sorry.
-/
import Derived.Test.YtnfoknnbolgfjaaChecked
import GoSem.Claim
import GoSem.ClaimJoined
import GoSem.ClaimMapViews
import Derived.JoinedTies
import Derived.KernelRfl
namespace Go.Proofs.Ytnfoknnbolgfjaa
/- THE CELL 'sum', in the pinned program and in every row, IS THE sha256 OF THE DUMP (.gsa) THAT YtnfoknnbolgfjaaProg.lean LOADS. Nothing in Lean hashes anything: it is a label: what it is worth is what the hold of that sum in a sandbox is worth. -/
noncomputable def Try.pinned : Pinned := { name := "ytnfoknnbolgfjaa", sum := "c00fd7d7ca6bdc564fc682bf9c52c4515341701907641b20fa191e77c767c7cd", checked := Try.checked }
namespace Rows
def none {H : Type} : Left H := { results := [], args := [] }

/-- 'bollardlaw2.CrcSums': WHATEVER THE INPUT: true; the input reads as it did. -/
def crcSumsSpec : ChangeSpec := { name := "crcSums", fn := fun _ => fun
  | [d1, d2, d3] => { results := [.lit (.bool true)], args := [d1, d2, d3] }
  | _ => none }
def crcSumsRow : OpenClaim := { program := "ytnfoknnbolgfjaa", sum := "c00fd7d7ca6bdc564fc682bf9c52c4515341701907641b20fa191e77c767c7cd", func := "bollard/bollardlaw2.CrcSums", spec := "crcSums", apart := false }
def CrcSumsSaid : Prop := crcSumsRow.holds Try.pinned (OpenSpec.ofChange crcSumsSpec)

/-- ITS FALSE NEIGHBOUR: 'it returns false'. Refute it at one input. -/
def crcSumsWrong : ChangeSpec := { name := "crcSums", fn := fun _ => fun
  | [d1, d2, d3] => { results := [.lit (.bool false)], args := [d1, d2, d3] }
  | _ => none }
def CrcSumsWrongFalsely : Prop := crcSumsRow.holds Try.pinned (OpenSpec.ofChange crcSumsWrong)

/-- 'bollardlaw2.CrcFlips': WHATEVER THE INPUT: true; the input reads as it did. -/
def crcFlipsSpec : ChangeSpec := { name := "crcFlips", fn := fun _ => fun
  | [d1, d2, d3] => { results := [.lit (.bool true)], args := [d1, d2, d3] }
  | _ => none }
def crcFlipsRow : OpenClaim := { program := "ytnfoknnbolgfjaa", sum := "c00fd7d7ca6bdc564fc682bf9c52c4515341701907641b20fa191e77c767c7cd", func := "bollard/bollardlaw2.CrcFlips", spec := "crcFlips", apart := false }
def CrcFlipsSaid : Prop := crcFlipsRow.holds Try.pinned (OpenSpec.ofChange crcFlipsSpec)

/-- ITS FALSE NEIGHBOUR: 'it returns false'. Refute it at one input. -/
def crcFlipsWrong : ChangeSpec := { name := "crcFlips", fn := fun _ => fun
  | [d1, d2, d3] => { results := [.lit (.bool false)], args := [d1, d2, d3] }
  | _ => none }
def CrcFlipsWrongFalsely : Prop := crcFlipsRow.holds Try.pinned (OpenSpec.ofChange crcFlipsWrong)

/-- 'bollardlaw2.CrcPieces': WHATEVER THE INPUT: true; the input reads as it did. -/
def crcPiecesSpec : ChangeSpec := { name := "crcPieces", fn := fun _ => fun
  | [d1, d2] => { results := [.lit (.bool true)], args := [d1, d2] }
  | _ => none }
def crcPiecesRow : OpenClaim := { program := "ytnfoknnbolgfjaa", sum := "c00fd7d7ca6bdc564fc682bf9c52c4515341701907641b20fa191e77c767c7cd", func := "bollard/bollardlaw2.CrcPieces", spec := "crcPieces", apart := false }
def CrcPiecesSaid : Prop := crcPiecesRow.holds Try.pinned (OpenSpec.ofChange crcPiecesSpec)

/-- ITS FALSE NEIGHBOUR: 'it returns false'. Refute it at one input. -/
def crcPiecesWrong : ChangeSpec := { name := "crcPieces", fn := fun _ => fun
  | [d1, d2] => { results := [.lit (.bool false)], args := [d1, d2] }
  | _ => none }
def CrcPiecesWrongFalsely : Prop := crcPiecesRow.holds Try.pinned (OpenSpec.ofChange crcPiecesWrong)

/-- 'bollardlaw2.CrcMixes': WHATEVER THE INPUT: true; the input reads as it did. -/
def crcMixesSpec : ChangeSpec := { name := "crcMixes", fn := fun _ => fun
  | [d1, d2, d3] => { results := [.lit (.bool true)], args := [d1, d2, d3] }
  | _ => none }
def crcMixesRow : OpenClaim := { program := "ytnfoknnbolgfjaa", sum := "c00fd7d7ca6bdc564fc682bf9c52c4515341701907641b20fa191e77c767c7cd", func := "bollard/bollardlaw2.CrcMixes", spec := "crcMixes", apart := false }
def CrcMixesSaid : Prop := crcMixesRow.holds Try.pinned (OpenSpec.ofChange crcMixesSpec)

/-- ITS FALSE NEIGHBOUR: 'it returns false'. Refute it at one input. -/
def crcMixesWrong : ChangeSpec := { name := "crcMixes", fn := fun _ => fun
  | [d1, d2, d3] => { results := [.lit (.bool false)], args := [d1, d2, d3] }
  | _ => none }
def CrcMixesWrongFalsely : Prop := crcMixesRow.holds Try.pinned (OpenSpec.ofChange crcMixesWrong)

/-- 'bollardlaw6.LayoutPlans': WHATEVER THE INPUT: true; the input reads as it did. -/
def layoutPlansSpec : ChangeSpec := { name := "layoutPlans", fn := fun _ => fun
  | [d1, d2] => { results := [.lit (.bool true)], args := [d1, d2] }
  | _ => none }
def layoutPlansRow : OpenClaim := { program := "ytnfoknnbolgfjaa", sum := "c00fd7d7ca6bdc564fc682bf9c52c4515341701907641b20fa191e77c767c7cd", func := "bollard/bollardlaw6.LayoutPlans", spec := "layoutPlans", apart := false }
def LayoutPlansSaid : Prop := layoutPlansRow.holds Try.pinned (OpenSpec.ofChange layoutPlansSpec)

/-- ITS FALSE NEIGHBOUR: 'it returns false'. Refute it at one input. -/
def layoutPlansWrong : ChangeSpec := { name := "layoutPlans", fn := fun _ => fun
  | [d1, d2] => { results := [.lit (.bool false)], args := [d1, d2] }
  | _ => none }
def LayoutPlansWrongFalsely : Prop := layoutPlansRow.holds Try.pinned (OpenSpec.ofChange layoutPlansWrong)

/-- 'bollardlaw6.LayoutAreas': WHATEVER THE INPUT: true; the input reads as it did. -/
def layoutAreasSpec : ChangeSpec := { name := "layoutAreas", fn := fun _ => fun
  | [d1, d2] => { results := [.lit (.bool true)], args := [d1, d2] }
  | _ => none }
def layoutAreasRow : OpenClaim := { program := "ytnfoknnbolgfjaa", sum := "c00fd7d7ca6bdc564fc682bf9c52c4515341701907641b20fa191e77c767c7cd", func := "bollard/bollardlaw6.LayoutAreas", spec := "layoutAreas", apart := false }
def LayoutAreasSaid : Prop := layoutAreasRow.holds Try.pinned (OpenSpec.ofChange layoutAreasSpec)

/-- ITS FALSE NEIGHBOUR: 'it returns false'. Refute it at one input. -/
def layoutAreasWrong : ChangeSpec := { name := "layoutAreas", fn := fun _ => fun
  | [d1, d2] => { results := [.lit (.bool false)], args := [d1, d2] }
  | _ => none }
def LayoutAreasWrongFalsely : Prop := layoutAreasRow.holds Try.pinned (OpenSpec.ofChange layoutAreasWrong)

/-- 'bollardlaw6.LayoutGrows': WHATEVER THE INPUT: true; the input reads as it did. -/
def layoutGrowsSpec : ChangeSpec := { name := "layoutGrows", fn := fun _ => fun
  | [d1, d2, d3] => { results := [.lit (.bool true)], args := [d1, d2, d3] }
  | _ => none }
def layoutGrowsRow : OpenClaim := { program := "ytnfoknnbolgfjaa", sum := "c00fd7d7ca6bdc564fc682bf9c52c4515341701907641b20fa191e77c767c7cd", func := "bollard/bollardlaw6.LayoutGrows", spec := "layoutGrows", apart := false }
def LayoutGrowsSaid : Prop := layoutGrowsRow.holds Try.pinned (OpenSpec.ofChange layoutGrowsSpec)

/-- ITS FALSE NEIGHBOUR: 'it returns false'. Refute it at one input. -/
def layoutGrowsWrong : ChangeSpec := { name := "layoutGrows", fn := fun _ => fun
  | [d1, d2, d3] => { results := [.lit (.bool false)], args := [d1, d2, d3] }
  | _ => none }
def LayoutGrowsWrongFalsely : Prop := layoutGrowsRow.holds Try.pinned (OpenSpec.ofChange layoutGrowsWrong)

/-- 'bollardlaw6.LayoutBytes': WHATEVER THE INPUT: true; the input reads as it did. -/
def layoutBytesSpec : ChangeSpec := { name := "layoutBytes", fn := fun _ => fun
  | [d1, d2] => { results := [.lit (.bool true)], args := [d1, d2] }
  | _ => none }
def layoutBytesRow : OpenClaim := { program := "ytnfoknnbolgfjaa", sum := "c00fd7d7ca6bdc564fc682bf9c52c4515341701907641b20fa191e77c767c7cd", func := "bollard/bollardlaw6.LayoutBytes", spec := "layoutBytes", apart := false }
def LayoutBytesSaid : Prop := layoutBytesRow.holds Try.pinned (OpenSpec.ofChange layoutBytesSpec)

/-- ITS FALSE NEIGHBOUR: 'it returns false'. Refute it at one input. -/
def layoutBytesWrong : ChangeSpec := { name := "layoutBytes", fn := fun _ => fun
  | [d1, d2] => { results := [.lit (.bool false)], args := [d1, d2] }
  | _ => none }
def LayoutBytesWrongFalsely : Prop := layoutBytesRow.holds Try.pinned (OpenSpec.ofChange layoutBytesWrong)

/-- 'bollardlaw6.LayoutBack': WHATEVER THE INPUT: true; the input reads as it did. -/
def layoutBackSpec : ChangeSpec := { name := "layoutBack", fn := fun _ => fun
  | [d1, d2, d3, d4] => { results := [.lit (.bool true)], args := [d1, d2, d3, d4] }
  | _ => none }
def layoutBackRow : OpenClaim := { program := "ytnfoknnbolgfjaa", sum := "c00fd7d7ca6bdc564fc682bf9c52c4515341701907641b20fa191e77c767c7cd", func := "bollard/bollardlaw6.LayoutBack", spec := "layoutBack", apart := false }
def LayoutBackSaid : Prop := layoutBackRow.holds Try.pinned (OpenSpec.ofChange layoutBackSpec)

/-- ITS FALSE NEIGHBOUR: 'it returns false'. Refute it at one input. -/
def layoutBackWrong : ChangeSpec := { name := "layoutBack", fn := fun _ => fun
  | [d1, d2, d3, d4] => { results := [.lit (.bool false)], args := [d1, d2, d3, d4] }
  | _ => none }
def LayoutBackWrongFalsely : Prop := layoutBackRow.holds Try.pinned (OpenSpec.ofChange layoutBackWrong)

/-- 'bollardlaw6.LayoutCuts': WHATEVER THE INPUT: true; the input reads as it did. -/
def layoutCutsSpec : ChangeSpec := { name := "layoutCuts", fn := fun _ => fun
  | [d1, d2, d3] => { results := [.lit (.bool true)], args := [d1, d2, d3] }
  | _ => none }
def layoutCutsRow : OpenClaim := { program := "ytnfoknnbolgfjaa", sum := "c00fd7d7ca6bdc564fc682bf9c52c4515341701907641b20fa191e77c767c7cd", func := "bollard/bollardlaw6.LayoutCuts", spec := "layoutCuts", apart := false }
def LayoutCutsSaid : Prop := layoutCutsRow.holds Try.pinned (OpenSpec.ofChange layoutCutsSpec)

/-- ITS FALSE NEIGHBOUR: 'it returns false'. Refute it at one input. -/
def layoutCutsWrong : ChangeSpec := { name := "layoutCuts", fn := fun _ => fun
  | [d1, d2, d3] => { results := [.lit (.bool false)], args := [d1, d2, d3] }
  | _ => none }
def LayoutCutsWrongFalsely : Prop := layoutCutsRow.holds Try.pinned (OpenSpec.ofChange layoutCutsWrong)

/- THE SECOND FORM. 'bulk': how many values and letters a reading holds, each counted each time it is reached (what is shared counts as often as it is met; a slice's spare places count too). A statement '..UptoSaid' is the law's where the arguments, and the package variables that the reading takes, are together of bulk at most 1048576: NARROWER than '..Said'. Prove '..Said' where nothing that the law and all that it calls make is longer than what came in: it says more and counts as full. Else prove '..UptoSaid'. A law counts once. -/
mutual
def uptoBulk {H : Type} : DataW H → Nat
  | .lit (.string bytes) => bytes.length + 1
  | .lit _ => 1
  | .nil => 1
  | .ptr d => uptoBulk d + 1
  | .slice elems spare => uptoBulkAll elems + uptoBulkAll spare + 1
  | .agg parts => uptoBulkAll parts + 1
  | .iface _ d => uptoBulk d + 1
  | .map entries => uptoBulkEntries entries + 1
  | .held _ => 1
def uptoBulkAll {H : Type} : List (DataW H) → Nat
  | [] => 0
  | d :: r => uptoBulk d + uptoBulkAll r
def uptoBulkEntries {H : Type} : List (Lit × DataW H) → Nat
  | [] => 0
  | x :: r => uptoBulkEntry x + uptoBulkEntries r
def uptoBulkEntry {H : Type} : Lit × DataW H → Nat
  | (.string bytes, d) => bytes.length + uptoBulk d + 1
  | (_, d) => uptoBulk d + 1
 end
def uptoSmall : (H : Type) → List (DataW H) → Bool := fun _ ds => decide (uptoBulkAll ds ≤ 1048576)
def OpenSpec.upto (s : _root_.Go.ChangeSpec) : _root_.Go.OpenSpec := { _root_.Go.OpenSpec.ofChange s with cond := some uptoSmall }

/-- 'bollardlaw2.CrcSums', WHERE WHAT IT READS IS OF BULK AT MOST 1048576: true; the input reads as it did. -/
def crcSumsUptoRow : OpenClaim := { program := "ytnfoknnbolgfjaa", sum := "c00fd7d7ca6bdc564fc682bf9c52c4515341701907641b20fa191e77c767c7cd", func := "bollard/bollardlaw2.CrcSums", spec := "crcSums", apart := false, narrowed := true }
def CrcSumsUptoSaid : Prop := crcSumsUptoRow.holds Try.pinned (OpenSpec.upto crcSumsSpec)

/-- 'bollardlaw2.CrcFlips', WHERE WHAT IT READS IS OF BULK AT MOST 1048576: true; the input reads as it did. -/
def crcFlipsUptoRow : OpenClaim := { program := "ytnfoknnbolgfjaa", sum := "c00fd7d7ca6bdc564fc682bf9c52c4515341701907641b20fa191e77c767c7cd", func := "bollard/bollardlaw2.CrcFlips", spec := "crcFlips", apart := false, narrowed := true }
def CrcFlipsUptoSaid : Prop := crcFlipsUptoRow.holds Try.pinned (OpenSpec.upto crcFlipsSpec)

/-- 'bollardlaw2.CrcPieces', WHERE WHAT IT READS IS OF BULK AT MOST 1048576: true; the input reads as it did. -/
def crcPiecesUptoRow : OpenClaim := { program := "ytnfoknnbolgfjaa", sum := "c00fd7d7ca6bdc564fc682bf9c52c4515341701907641b20fa191e77c767c7cd", func := "bollard/bollardlaw2.CrcPieces", spec := "crcPieces", apart := false, narrowed := true }
def CrcPiecesUptoSaid : Prop := crcPiecesUptoRow.holds Try.pinned (OpenSpec.upto crcPiecesSpec)

/-- 'bollardlaw2.CrcMixes', WHERE WHAT IT READS IS OF BULK AT MOST 1048576: true; the input reads as it did. -/
def crcMixesUptoRow : OpenClaim := { program := "ytnfoknnbolgfjaa", sum := "c00fd7d7ca6bdc564fc682bf9c52c4515341701907641b20fa191e77c767c7cd", func := "bollard/bollardlaw2.CrcMixes", spec := "crcMixes", apart := false, narrowed := true }
def CrcMixesUptoSaid : Prop := crcMixesUptoRow.holds Try.pinned (OpenSpec.upto crcMixesSpec)

/-- 'bollardlaw6.LayoutPlans', WHERE WHAT IT READS IS OF BULK AT MOST 1048576: true; the input reads as it did. -/
def layoutPlansUptoRow : OpenClaim := { program := "ytnfoknnbolgfjaa", sum := "c00fd7d7ca6bdc564fc682bf9c52c4515341701907641b20fa191e77c767c7cd", func := "bollard/bollardlaw6.LayoutPlans", spec := "layoutPlans", apart := false, narrowed := true }
def LayoutPlansUptoSaid : Prop := layoutPlansUptoRow.holds Try.pinned (OpenSpec.upto layoutPlansSpec)

/-- 'bollardlaw6.LayoutAreas', WHERE WHAT IT READS IS OF BULK AT MOST 1048576: true; the input reads as it did. -/
def layoutAreasUptoRow : OpenClaim := { program := "ytnfoknnbolgfjaa", sum := "c00fd7d7ca6bdc564fc682bf9c52c4515341701907641b20fa191e77c767c7cd", func := "bollard/bollardlaw6.LayoutAreas", spec := "layoutAreas", apart := false, narrowed := true }
def LayoutAreasUptoSaid : Prop := layoutAreasUptoRow.holds Try.pinned (OpenSpec.upto layoutAreasSpec)

/-- 'bollardlaw6.LayoutGrows', WHERE WHAT IT READS IS OF BULK AT MOST 1048576: true; the input reads as it did. -/
def layoutGrowsUptoRow : OpenClaim := { program := "ytnfoknnbolgfjaa", sum := "c00fd7d7ca6bdc564fc682bf9c52c4515341701907641b20fa191e77c767c7cd", func := "bollard/bollardlaw6.LayoutGrows", spec := "layoutGrows", apart := false, narrowed := true }
def LayoutGrowsUptoSaid : Prop := layoutGrowsUptoRow.holds Try.pinned (OpenSpec.upto layoutGrowsSpec)

/-- 'bollardlaw6.LayoutBytes', WHERE WHAT IT READS IS OF BULK AT MOST 1048576: true; the input reads as it did. -/
def layoutBytesUptoRow : OpenClaim := { program := "ytnfoknnbolgfjaa", sum := "c00fd7d7ca6bdc564fc682bf9c52c4515341701907641b20fa191e77c767c7cd", func := "bollard/bollardlaw6.LayoutBytes", spec := "layoutBytes", apart := false, narrowed := true }
def LayoutBytesUptoSaid : Prop := layoutBytesUptoRow.holds Try.pinned (OpenSpec.upto layoutBytesSpec)

/-- 'bollardlaw6.LayoutBack', WHERE WHAT IT READS IS OF BULK AT MOST 1048576: true; the input reads as it did. -/
def layoutBackUptoRow : OpenClaim := { program := "ytnfoknnbolgfjaa", sum := "c00fd7d7ca6bdc564fc682bf9c52c4515341701907641b20fa191e77c767c7cd", func := "bollard/bollardlaw6.LayoutBack", spec := "layoutBack", apart := false, narrowed := true }
def LayoutBackUptoSaid : Prop := layoutBackUptoRow.holds Try.pinned (OpenSpec.upto layoutBackSpec)

/-- 'bollardlaw6.LayoutCuts', WHERE WHAT IT READS IS OF BULK AT MOST 1048576: true; the input reads as it did. -/
def layoutCutsUptoRow : OpenClaim := { program := "ytnfoknnbolgfjaa", sum := "c00fd7d7ca6bdc564fc682bf9c52c4515341701907641b20fa191e77c767c7cd", func := "bollard/bollardlaw6.LayoutCuts", spec := "layoutCuts", apart := false, narrowed := true }
def LayoutCutsUptoSaid : Prop := layoutCutsUptoRow.holds Try.pinned (OpenSpec.upto layoutCutsSpec)

end Rows
end Go.Proofs.Ytnfoknnbolgfjaa
