/-
  No cell of these rows narrows 'for every input' (looked for: loops, veiled, ifaces, maps, wideKeys, modest, calm, conditions, laid).
  DERIVED. THE GIVEN ROWS OF THIS SEAT. 7 by the template 'for every input the law returns true; each argument reads behind the call as it read before'; 0 by the template 'total and deterministic' (their statements: YtgicdiblfcnelaaTotals.lean).
  GIVEN WITH THE SEED: the statements are not yours to turn. If you find one false, say at which input.
  Laid BY PROGRAM, IN A SANDBOX (cutbox-rows.mjs): the forced cells as the released guide's own fill.sh prints them over the translation d6dcfb925424dbec… (all of the seat's roots in one cut). By AI agents, Wed Nov 11 2026. No macro, syntax, notation, axiom, sorry.
-/
import Derived.Test.YtgicdiblfcnelaaChecked
import GoSem.Claim
import GoSem.ClaimJoined
import GoSem.ClaimMapViews
import Derived.JoinedTies
import Derived.KernelRfl
namespace Go.Proofs.Ytgicdiblfcnelaa
/- THE CELL 'sum', in the pinned program and in every row, IS THE sha256 OF THE DUMP (.gsa) THAT YtgicdiblfcnelaaProg.lean LOADS. Nothing in Lean hashes anything: it is a label: what it is worth is what the hold of that sum in a sandbox is worth. -/
noncomputable def Try.pinned : Pinned := { name := "ytgicdiblfcnelaa", sum := "d6dcfb925424dbecc25f4545c980ab1623867fd193b47ce53d2351271062cb75", checked := Try.checked }
namespace Rows
def none {H : Type} : Left H := { results := [], args := [] }

/-- 'bollardlaw19.FrameFeeds': WHATEVER THE INPUT: true; the input reads as it did. -/
def frameFeedsSpec : ChangeSpec := { name := "frameFeeds", fn := fun _ => fun
  | [d] => { results := [.lit (.bool true)], args := [d] }
  | _ => none }
def frameFeedsRow : OpenClaim := { program := "ytgicdiblfcnelaa", sum := "d6dcfb925424dbecc25f4545c980ab1623867fd193b47ce53d2351271062cb75", func := "bollard/bollardlaw19.FrameFeeds", spec := "frameFeeds", apart := false }
def FrameFeedsSaid : Prop := frameFeedsRow.holds Try.pinned (OpenSpec.ofChange frameFeedsSpec)

/-- ITS FALSE NEIGHBOUR: 'it returns false'. Refute it at one input. -/
def frameFeedsWrong : ChangeSpec := { name := "frameFeeds", fn := fun _ => fun
  | [d] => { results := [.lit (.bool false)], args := [d] }
  | _ => none }
def FrameFeedsWrongFalsely : Prop := frameFeedsRow.holds Try.pinned (OpenSpec.ofChange frameFeedsWrong)

/-- 'bollardlaw19.FrameCuts': WHATEVER THE INPUT: true; the input reads as it did. -/
def frameCutsSpec : ChangeSpec := { name := "frameCuts", fn := fun _ => fun
  | [d1, d2] => { results := [.lit (.bool true)], args := [d1, d2] }
  | _ => none }
def frameCutsRow : OpenClaim := { program := "ytgicdiblfcnelaa", sum := "d6dcfb925424dbecc25f4545c980ab1623867fd193b47ce53d2351271062cb75", func := "bollard/bollardlaw19.FrameCuts", spec := "frameCuts", apart := false }
def FrameCutsSaid : Prop := frameCutsRow.holds Try.pinned (OpenSpec.ofChange frameCutsSpec)

/-- ITS FALSE NEIGHBOUR: 'it returns false'. Refute it at one input. -/
def frameCutsWrong : ChangeSpec := { name := "frameCuts", fn := fun _ => fun
  | [d1, d2] => { results := [.lit (.bool false)], args := [d1, d2] }
  | _ => none }
def FrameCutsWrongFalsely : Prop := frameCutsRow.holds Try.pinned (OpenSpec.ofChange frameCutsWrong)

/-- 'bollardlaw19.FrameApart': WHATEVER THE INPUT: true; the input reads as it did. -/
def frameApartSpec : ChangeSpec := { name := "frameApart", fn := fun _ => fun
  | [d1, d2, d3] => { results := [.lit (.bool true)], args := [d1, d2, d3] }
  | _ => none }
def frameApartRow : OpenClaim := { program := "ytgicdiblfcnelaa", sum := "d6dcfb925424dbecc25f4545c980ab1623867fd193b47ce53d2351271062cb75", func := "bollard/bollardlaw19.FrameApart", spec := "frameApart", apart := false }
def FrameApartSaid : Prop := frameApartRow.holds Try.pinned (OpenSpec.ofChange frameApartSpec)

/-- ITS FALSE NEIGHBOUR: 'it returns false'. Refute it at one input. -/
def frameApartWrong : ChangeSpec := { name := "frameApart", fn := fun _ => fun
  | [d1, d2, d3] => { results := [.lit (.bool false)], args := [d1, d2, d3] }
  | _ => none }
def FrameApartWrongFalsely : Prop := frameApartRow.holds Try.pinned (OpenSpec.ofChange frameApartWrong)

/-- 'bollardlaw19.FrameEmpty': WHATEVER THE INPUT: true; the input reads as it did. -/
def frameEmptySpec : ChangeSpec := { name := "frameEmpty", fn := fun _ => fun
  | [d1, d2] => { results := [.lit (.bool true)], args := [d1, d2] }
  | _ => none }
def frameEmptyRow : OpenClaim := { program := "ytgicdiblfcnelaa", sum := "d6dcfb925424dbecc25f4545c980ab1623867fd193b47ce53d2351271062cb75", func := "bollard/bollardlaw19.FrameEmpty", spec := "frameEmpty", apart := false }
def FrameEmptySaid : Prop := frameEmptyRow.holds Try.pinned (OpenSpec.ofChange frameEmptySpec)

/-- ITS FALSE NEIGHBOUR: 'it returns false'. Refute it at one input. -/
def frameEmptyWrong : ChangeSpec := { name := "frameEmpty", fn := fun _ => fun
  | [d1, d2] => { results := [.lit (.bool false)], args := [d1, d2] }
  | _ => none }
def FrameEmptyWrongFalsely : Prop := frameEmptyRow.holds Try.pinned (OpenSpec.ofChange frameEmptyWrong)

/-- 'bollardlaw19.FrameBack': WHATEVER THE INPUT: true; the input reads as it did. -/
def frameBackSpec : ChangeSpec := { name := "frameBack", fn := fun _ => fun
  | [d1, d2] => { results := [.lit (.bool true)], args := [d1, d2] }
  | _ => none }
def frameBackRow : OpenClaim := { program := "ytgicdiblfcnelaa", sum := "d6dcfb925424dbecc25f4545c980ab1623867fd193b47ce53d2351271062cb75", func := "bollard/bollardlaw19.FrameBack", spec := "frameBack", apart := false }
def FrameBackSaid : Prop := frameBackRow.holds Try.pinned (OpenSpec.ofChange frameBackSpec)

/-- ITS FALSE NEIGHBOUR: 'it returns false'. Refute it at one input. -/
def frameBackWrong : ChangeSpec := { name := "frameBack", fn := fun _ => fun
  | [d1, d2] => { results := [.lit (.bool false)], args := [d1, d2] }
  | _ => none }
def FrameBackWrongFalsely : Prop := frameBackRow.holds Try.pinned (OpenSpec.ofChange frameBackWrong)

/-- 'bollardlaw19.FrameOver': WHATEVER THE INPUT: true; the input reads as it did. -/
def frameOverSpec : ChangeSpec := { name := "frameOver", fn := fun _ => fun
  | [d1, d2, d3] => { results := [.lit (.bool true)], args := [d1, d2, d3] }
  | _ => none }
def frameOverRow : OpenClaim := { program := "ytgicdiblfcnelaa", sum := "d6dcfb925424dbecc25f4545c980ab1623867fd193b47ce53d2351271062cb75", func := "bollard/bollardlaw19.FrameOver", spec := "frameOver", apart := false }
def FrameOverSaid : Prop := frameOverRow.holds Try.pinned (OpenSpec.ofChange frameOverSpec)

/-- ITS FALSE NEIGHBOUR: 'it returns false'. Refute it at one input. -/
def frameOverWrong : ChangeSpec := { name := "frameOver", fn := fun _ => fun
  | [d1, d2, d3] => { results := [.lit (.bool false)], args := [d1, d2, d3] }
  | _ => none }
def FrameOverWrongFalsely : Prop := frameOverRow.holds Try.pinned (OpenSpec.ofChange frameOverWrong)

/-- 'bollardlaw19.FrameSizes': WHATEVER THE INPUT: true; the input reads as it did. -/
def frameSizesSpec : ChangeSpec := { name := "frameSizes", fn := fun _ => fun
  | [d1, d2] => { results := [.lit (.bool true)], args := [d1, d2] }
  | _ => none }
def frameSizesRow : OpenClaim := { program := "ytgicdiblfcnelaa", sum := "d6dcfb925424dbecc25f4545c980ab1623867fd193b47ce53d2351271062cb75", func := "bollard/bollardlaw19.FrameSizes", spec := "frameSizes", apart := false }
def FrameSizesSaid : Prop := frameSizesRow.holds Try.pinned (OpenSpec.ofChange frameSizesSpec)

/-- ITS FALSE NEIGHBOUR: 'it returns false'. Refute it at one input. -/
def frameSizesWrong : ChangeSpec := { name := "frameSizes", fn := fun _ => fun
  | [d1, d2] => { results := [.lit (.bool false)], args := [d1, d2] }
  | _ => none }
def FrameSizesWrongFalsely : Prop := frameSizesRow.holds Try.pinned (OpenSpec.ofChange frameSizesWrong)

/- THE SECOND FORM. 'bulk': how many values and letters a reading holds, each counted each time it is reached (what is shared counts as often as it is met; a slice's spare places count too). A statement '..UptoSaid' is the law's where the arguments, and the package variables that the reading takes, are together of bulk at most 1048576: NARROWER than '..Said'. Prove '..Said' where nothing that the law and all that it calls make is longer than what came in: it says more and counts as full. Else prove '..UptoSaid'. A law counts once. -/
mutual
def uptoBulk {H : Type} : DataW H → Nat
  | .lit (.string bytes) => bytes.length + 1
  | .lit _ => 1
  | .nil => 1
  | .ptr d => uptoBulk d + 1
  | .slice elems spare => uptoBulkAll elems + uptoBulkAll spare + 1
  | .agg parts => uptoBulkAll parts + 1
  | .iface _ d => uptoBulk d + 1
  | .map entries => uptoBulkEntries entries + 1
  | .held _ => 1
def uptoBulkAll {H : Type} : List (DataW H) → Nat
  | [] => 0
  | d :: r => uptoBulk d + uptoBulkAll r
def uptoBulkEntries {H : Type} : List (Lit × DataW H) → Nat
  | [] => 0
  | x :: r => uptoBulkEntry x + uptoBulkEntries r
def uptoBulkEntry {H : Type} : Lit × DataW H → Nat
  | (.string bytes, d) => bytes.length + uptoBulk d + 1
  | (_, d) => uptoBulk d + 1
 end
def uptoSmall : (H : Type) → List (DataW H) → Bool := fun _ ds => decide (uptoBulkAll ds ≤ 1048576)
def OpenSpec.upto (s : _root_.Go.ChangeSpec) : _root_.Go.OpenSpec := { _root_.Go.OpenSpec.ofChange s with cond := some uptoSmall }

/-- 'bollardlaw19.FrameFeeds', WHERE WHAT IT READS IS OF BULK AT MOST 1048576: true; the input reads as it did. -/
def frameFeedsUptoRow : OpenClaim := { program := "ytgicdiblfcnelaa", sum := "d6dcfb925424dbecc25f4545c980ab1623867fd193b47ce53d2351271062cb75", func := "bollard/bollardlaw19.FrameFeeds", spec := "frameFeeds", apart := false, narrowed := true }
def FrameFeedsUptoSaid : Prop := frameFeedsUptoRow.holds Try.pinned (OpenSpec.upto frameFeedsSpec)

/-- 'bollardlaw19.FrameCuts', WHERE WHAT IT READS IS OF BULK AT MOST 1048576: true; the input reads as it did. -/
def frameCutsUptoRow : OpenClaim := { program := "ytgicdiblfcnelaa", sum := "d6dcfb925424dbecc25f4545c980ab1623867fd193b47ce53d2351271062cb75", func := "bollard/bollardlaw19.FrameCuts", spec := "frameCuts", apart := false, narrowed := true }
def FrameCutsUptoSaid : Prop := frameCutsUptoRow.holds Try.pinned (OpenSpec.upto frameCutsSpec)

/-- 'bollardlaw19.FrameApart', WHERE WHAT IT READS IS OF BULK AT MOST 1048576: true; the input reads as it did. -/
def frameApartUptoRow : OpenClaim := { program := "ytgicdiblfcnelaa", sum := "d6dcfb925424dbecc25f4545c980ab1623867fd193b47ce53d2351271062cb75", func := "bollard/bollardlaw19.FrameApart", spec := "frameApart", apart := false, narrowed := true }
def FrameApartUptoSaid : Prop := frameApartUptoRow.holds Try.pinned (OpenSpec.upto frameApartSpec)

/-- 'bollardlaw19.FrameEmpty', WHERE WHAT IT READS IS OF BULK AT MOST 1048576: true; the input reads as it did. -/
def frameEmptyUptoRow : OpenClaim := { program := "ytgicdiblfcnelaa", sum := "d6dcfb925424dbecc25f4545c980ab1623867fd193b47ce53d2351271062cb75", func := "bollard/bollardlaw19.FrameEmpty", spec := "frameEmpty", apart := false, narrowed := true }
def FrameEmptyUptoSaid : Prop := frameEmptyUptoRow.holds Try.pinned (OpenSpec.upto frameEmptySpec)

/-- 'bollardlaw19.FrameBack', WHERE WHAT IT READS IS OF BULK AT MOST 1048576: true; the input reads as it did. -/
def frameBackUptoRow : OpenClaim := { program := "ytgicdiblfcnelaa", sum := "d6dcfb925424dbecc25f4545c980ab1623867fd193b47ce53d2351271062cb75", func := "bollard/bollardlaw19.FrameBack", spec := "frameBack", apart := false, narrowed := true }
def FrameBackUptoSaid : Prop := frameBackUptoRow.holds Try.pinned (OpenSpec.upto frameBackSpec)

/-- 'bollardlaw19.FrameOver', WHERE WHAT IT READS IS OF BULK AT MOST 1048576: true; the input reads as it did. -/
def frameOverUptoRow : OpenClaim := { program := "ytgicdiblfcnelaa", sum := "d6dcfb925424dbecc25f4545c980ab1623867fd193b47ce53d2351271062cb75", func := "bollard/bollardlaw19.FrameOver", spec := "frameOver", apart := false, narrowed := true }
def FrameOverUptoSaid : Prop := frameOverUptoRow.holds Try.pinned (OpenSpec.upto frameOverSpec)

/-- 'bollardlaw19.FrameSizes', WHERE WHAT IT READS IS OF BULK AT MOST 1048576: true; the input reads as it did. -/
def frameSizesUptoRow : OpenClaim := { program := "ytgicdiblfcnelaa", sum := "d6dcfb925424dbecc25f4545c980ab1623867fd193b47ce53d2351271062cb75", func := "bollard/bollardlaw19.FrameSizes", spec := "frameSizes", apart := false, narrowed := true }
def FrameSizesUptoSaid : Prop := frameSizesUptoRow.holds Try.pinned (OpenSpec.upto frameSizesSpec)

end Rows
end Go.Proofs.Ytgicdiblfcnelaa
