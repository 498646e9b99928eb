/-
  No cell of these rows narrows 'for every input' (looked for: loops, veiled, ifaces, maps, wideKeys, modest, calm, conditions, laid).
  DERIVED. THE GIVEN ROWS OF THIS SEAT. 8 by the template 'for every input the law returns true; each argument reads behind the call as it read before'; 0 by the template 'total and deterministic' (their statements: YtgmeellapjimgaaTotals.lean).
  GIVEN WITH THE SEED: the statements are not yours to turn. If you find one false, say at which input.
  Laid BY PROGRAM, IN A SANDBOX (cutbox-rows.mjs): the forced cells as the released guide's own fill.sh prints them over the translation d893a0fe75bc70a4… (all of the seat's roots in one cut). By AI agents, Wed Nov 11 2026. No macro, syntax, notation, axiom, sorry.
-/
import Derived.Test.YtgmeellapjimgaaChecked
import GoSem.Claim
import GoSem.ClaimJoined
import GoSem.ClaimMapViews
import Derived.JoinedTies
import Derived.KernelRfl
namespace Go.Proofs.Ytgmeellapjimgaa
/- THE CELL 'sum', in the pinned program and in every row, IS THE sha256 OF THE DUMP (.gsa) THAT YtgmeellapjimgaaProg.lean LOADS. Nothing in Lean hashes anything: it is a label: what it is worth is what the hold of that sum in a sandbox is worth. -/
noncomputable def Try.pinned : Pinned := { name := "ytgmeellapjimgaa", sum := "d893a0fe75bc70a42e32310da388c253e713e034298d93aa4d3d8963bbbade36", checked := Try.checked }
namespace Rows
def none {H : Type} : Left H := { results := [], args := [] }

/-- 'bollardlaw13.BatchEncodes': WHATEVER THE INPUT: true; the input reads as it did. -/
def batchEncodesSpec : ChangeSpec := { name := "batchEncodes", fn := fun _ => fun
  | [d] => { results := [.lit (.bool true)], args := [d] }
  | _ => none }
def batchEncodesRow : OpenClaim := { program := "ytgmeellapjimgaa", sum := "d893a0fe75bc70a42e32310da388c253e713e034298d93aa4d3d8963bbbade36", func := "bollard/bollardlaw13.BatchEncodes", spec := "batchEncodes", apart := false }
def BatchEncodesSaid : Prop := batchEncodesRow.holds Try.pinned (OpenSpec.ofChange batchEncodesSpec)

/-- ITS FALSE NEIGHBOUR: 'it returns false'. Refute it at one input. -/
def batchEncodesWrong : ChangeSpec := { name := "batchEncodes", fn := fun _ => fun
  | [d] => { results := [.lit (.bool false)], args := [d] }
  | _ => none }
def BatchEncodesWrongFalsely : Prop := batchEncodesRow.holds Try.pinned (OpenSpec.ofChange batchEncodesWrong)

/-- 'bollardlaw13.BatchFresh': WHATEVER THE INPUT: true; the input reads as it did. -/
def batchFreshSpec : ChangeSpec := { name := "batchFresh", fn := fun _ => fun
  | [d1, d2, d3, d4] => { results := [.lit (.bool true)], args := [d1, d2, d3, d4] }
  | _ => none }
def batchFreshRow : OpenClaim := { program := "ytgmeellapjimgaa", sum := "d893a0fe75bc70a42e32310da388c253e713e034298d93aa4d3d8963bbbade36", func := "bollard/bollardlaw13.BatchFresh", spec := "batchFresh", apart := false }
def BatchFreshSaid : Prop := batchFreshRow.holds Try.pinned (OpenSpec.ofChange batchFreshSpec)

/-- ITS FALSE NEIGHBOUR: 'it returns false'. Refute it at one input. -/
def batchFreshWrong : ChangeSpec := { name := "batchFresh", fn := fun _ => fun
  | [d1, d2, d3, d4] => { results := [.lit (.bool false)], args := [d1, d2, d3, d4] }
  | _ => none }
def BatchFreshWrongFalsely : Prop := batchFreshRow.holds Try.pinned (OpenSpec.ofChange batchFreshWrong)

/-- 'bollardlaw13.BatchCounts': WHATEVER THE INPUT: true; the input reads as it did. -/
def batchCountsSpec : ChangeSpec := { name := "batchCounts", fn := fun _ => fun
  | [d1, d2] => { results := [.lit (.bool true)], args := [d1, d2] }
  | _ => none }
def batchCountsRow : OpenClaim := { program := "ytgmeellapjimgaa", sum := "d893a0fe75bc70a42e32310da388c253e713e034298d93aa4d3d8963bbbade36", func := "bollard/bollardlaw13.BatchCounts", spec := "batchCounts", apart := false }
def BatchCountsSaid : Prop := batchCountsRow.holds Try.pinned (OpenSpec.ofChange batchCountsSpec)

/-- ITS FALSE NEIGHBOUR: 'it returns false'. Refute it at one input. -/
def batchCountsWrong : ChangeSpec := { name := "batchCounts", fn := fun _ => fun
  | [d1, d2] => { results := [.lit (.bool false)], args := [d1, d2] }
  | _ => none }
def BatchCountsWrongFalsely : Prop := batchCountsRow.holds Try.pinned (OpenSpec.ofChange batchCountsWrong)

/-- 'bollardlaw13.BatchDecodes': WHATEVER THE INPUT: true; the input reads as it did. -/
def batchDecodesSpec : ChangeSpec := { name := "batchDecodes", fn := fun _ => fun
  | [d] => { results := [.lit (.bool true)], args := [d] }
  | _ => none }
def batchDecodesRow : OpenClaim := { program := "ytgmeellapjimgaa", sum := "d893a0fe75bc70a42e32310da388c253e713e034298d93aa4d3d8963bbbade36", func := "bollard/bollardlaw13.BatchDecodes", spec := "batchDecodes", recurses := true, apart := false }
def BatchDecodesSaid : Prop := batchDecodesRow.holds Try.pinned (OpenSpec.ofChange batchDecodesSpec)

/-- ITS FALSE NEIGHBOUR: 'it returns false'. Refute it at one input. -/
def batchDecodesWrong : ChangeSpec := { name := "batchDecodes", fn := fun _ => fun
  | [d] => { results := [.lit (.bool false)], args := [d] }
  | _ => none }
def BatchDecodesWrongFalsely : Prop := batchDecodesRow.holds Try.pinned (OpenSpec.ofChange batchDecodesWrong)

/-- 'bollardlaw13.BatchFlips': WHATEVER THE INPUT: true; the input reads as it did. -/
def batchFlipsSpec : ChangeSpec := { name := "batchFlips", fn := fun _ => fun
  | [d1, d2, d3, d4] => { results := [.lit (.bool true)], args := [d1, d2, d3, d4] }
  | _ => none }
def batchFlipsRow : OpenClaim := { program := "ytgmeellapjimgaa", sum := "d893a0fe75bc70a42e32310da388c253e713e034298d93aa4d3d8963bbbade36", func := "bollard/bollardlaw13.BatchFlips", spec := "batchFlips", apart := false }
def BatchFlipsSaid : Prop := batchFlipsRow.holds Try.pinned (OpenSpec.ofChange batchFlipsSpec)

/-- ITS FALSE NEIGHBOUR: 'it returns false'. Refute it at one input. -/
def batchFlipsWrong : ChangeSpec := { name := "batchFlips", fn := fun _ => fun
  | [d1, d2, d3, d4] => { results := [.lit (.bool false)], args := [d1, d2, d3, d4] }
  | _ => none }
def BatchFlipsWrongFalsely : Prop := batchFlipsRow.holds Try.pinned (OpenSpec.ofChange batchFlipsWrong)

/-- 'bollardlaw13.BatchRows': WHATEVER THE INPUT: true; the input reads as it did. -/
def batchRowsSpec : ChangeSpec := { name := "batchRows", fn := fun _ => fun
  | [d] => { results := [.lit (.bool true)], args := [d] }
  | _ => none }
def batchRowsRow : OpenClaim := { program := "ytgmeellapjimgaa", sum := "d893a0fe75bc70a42e32310da388c253e713e034298d93aa4d3d8963bbbade36", func := "bollard/bollardlaw13.BatchRows", spec := "batchRows", apart := false }
def BatchRowsSaid : Prop := batchRowsRow.holds Try.pinned (OpenSpec.ofChange batchRowsSpec)

/-- ITS FALSE NEIGHBOUR: 'it returns false'. Refute it at one input. -/
def batchRowsWrong : ChangeSpec := { name := "batchRows", fn := fun _ => fun
  | [d] => { results := [.lit (.bool false)], args := [d] }
  | _ => none }
def BatchRowsWrongFalsely : Prop := batchRowsRow.holds Try.pinned (OpenSpec.ofChange batchRowsWrong)

/-- 'bollardlaw13.BatchMoves': WHATEVER THE INPUT: true; the input reads as it did. -/
def batchMovesSpec : ChangeSpec := { name := "batchMoves", fn := fun _ => fun
  | [d1, d2] => { results := [.lit (.bool true)], args := [d1, d2] }
  | _ => none }
def batchMovesRow : OpenClaim := { program := "ytgmeellapjimgaa", sum := "d893a0fe75bc70a42e32310da388c253e713e034298d93aa4d3d8963bbbade36", func := "bollard/bollardlaw13.BatchMoves", spec := "batchMoves", recurses := true, apart := false }
def BatchMovesSaid : Prop := batchMovesRow.holds Try.pinned (OpenSpec.ofChange batchMovesSpec)

/-- ITS FALSE NEIGHBOUR: 'it returns false'. Refute it at one input. -/
def batchMovesWrong : ChangeSpec := { name := "batchMoves", fn := fun _ => fun
  | [d1, d2] => { results := [.lit (.bool false)], args := [d1, d2] }
  | _ => none }
def BatchMovesWrongFalsely : Prop := batchMovesRow.holds Try.pinned (OpenSpec.ofChange batchMovesWrong)

/-- 'bollardlaw13.BatchBack': WHATEVER THE INPUT: true; the input reads as it did. -/
def batchBackSpec : ChangeSpec := { name := "batchBack", fn := fun _ => fun
  | [d1, d2, d3] => { results := [.lit (.bool true)], args := [d1, d2, d3] }
  | _ => none }
def batchBackRow : OpenClaim := { program := "ytgmeellapjimgaa", sum := "d893a0fe75bc70a42e32310da388c253e713e034298d93aa4d3d8963bbbade36", func := "bollard/bollardlaw13.BatchBack", spec := "batchBack", apart := false }
def BatchBackSaid : Prop := batchBackRow.holds Try.pinned (OpenSpec.ofChange batchBackSpec)

/-- ITS FALSE NEIGHBOUR: 'it returns false'. Refute it at one input. -/
def batchBackWrong : ChangeSpec := { name := "batchBack", fn := fun _ => fun
  | [d1, d2, d3] => { results := [.lit (.bool false)], args := [d1, d2, d3] }
  | _ => none }
def BatchBackWrongFalsely : Prop := batchBackRow.holds Try.pinned (OpenSpec.ofChange batchBackWrong)

/- THE SECOND FORM. 'bulk': how many values and letters a reading holds, each counted each time it is reached (what is shared counts as often as it is met; a slice's spare places count too). A statement '..UptoSaid' is the law's where the arguments, and the package variables that the reading takes, are together of bulk at most 1048576: NARROWER than '..Said'. Prove '..Said' where nothing that the law and all that it calls make is longer than what came in: it says more and counts as full. Else prove '..UptoSaid'. A law counts once. -/
mutual
def uptoBulk {H : Type} : DataW H → Nat
  | .lit (.string bytes) => bytes.length + 1
  | .lit _ => 1
  | .nil => 1
  | .ptr d => uptoBulk d + 1
  | .slice elems spare => uptoBulkAll elems + uptoBulkAll spare + 1
  | .agg parts => uptoBulkAll parts + 1
  | .iface _ d => uptoBulk d + 1
  | .map entries => uptoBulkEntries entries + 1
  | .held _ => 1
def uptoBulkAll {H : Type} : List (DataW H) → Nat
  | [] => 0
  | d :: r => uptoBulk d + uptoBulkAll r
def uptoBulkEntries {H : Type} : List (Lit × DataW H) → Nat
  | [] => 0
  | x :: r => uptoBulkEntry x + uptoBulkEntries r
def uptoBulkEntry {H : Type} : Lit × DataW H → Nat
  | (.string bytes, d) => bytes.length + uptoBulk d + 1
  | (_, d) => uptoBulk d + 1
 end
def uptoSmall : (H : Type) → List (DataW H) → Bool := fun _ ds => decide (uptoBulkAll ds ≤ 1048576)
def OpenSpec.upto (s : _root_.Go.ChangeSpec) : _root_.Go.OpenSpec := { _root_.Go.OpenSpec.ofChange s with cond := some uptoSmall }

/-- 'bollardlaw13.BatchEncodes', WHERE WHAT IT READS IS OF BULK AT MOST 1048576: true; the input reads as it did. -/
def batchEncodesUptoRow : OpenClaim := { program := "ytgmeellapjimgaa", sum := "d893a0fe75bc70a42e32310da388c253e713e034298d93aa4d3d8963bbbade36", func := "bollard/bollardlaw13.BatchEncodes", spec := "batchEncodes", apart := false, narrowed := true }
def BatchEncodesUptoSaid : Prop := batchEncodesUptoRow.holds Try.pinned (OpenSpec.upto batchEncodesSpec)

/-- 'bollardlaw13.BatchFresh', WHERE WHAT IT READS IS OF BULK AT MOST 1048576: true; the input reads as it did. -/
def batchFreshUptoRow : OpenClaim := { program := "ytgmeellapjimgaa", sum := "d893a0fe75bc70a42e32310da388c253e713e034298d93aa4d3d8963bbbade36", func := "bollard/bollardlaw13.BatchFresh", spec := "batchFresh", apart := false, narrowed := true }
def BatchFreshUptoSaid : Prop := batchFreshUptoRow.holds Try.pinned (OpenSpec.upto batchFreshSpec)

/-- 'bollardlaw13.BatchCounts', WHERE WHAT IT READS IS OF BULK AT MOST 1048576: true; the input reads as it did. -/
def batchCountsUptoRow : OpenClaim := { program := "ytgmeellapjimgaa", sum := "d893a0fe75bc70a42e32310da388c253e713e034298d93aa4d3d8963bbbade36", func := "bollard/bollardlaw13.BatchCounts", spec := "batchCounts", apart := false, narrowed := true }
def BatchCountsUptoSaid : Prop := batchCountsUptoRow.holds Try.pinned (OpenSpec.upto batchCountsSpec)

/-- 'bollardlaw13.BatchDecodes', WHERE WHAT IT READS IS OF BULK AT MOST 1048576: true; the input reads as it did. -/
def batchDecodesUptoRow : OpenClaim := { program := "ytgmeellapjimgaa", sum := "d893a0fe75bc70a42e32310da388c253e713e034298d93aa4d3d8963bbbade36", func := "bollard/bollardlaw13.BatchDecodes", spec := "batchDecodes", recurses := true, apart := false, narrowed := true }
def BatchDecodesUptoSaid : Prop := batchDecodesUptoRow.holds Try.pinned (OpenSpec.upto batchDecodesSpec)

/-- 'bollardlaw13.BatchFlips', WHERE WHAT IT READS IS OF BULK AT MOST 1048576: true; the input reads as it did. -/
def batchFlipsUptoRow : OpenClaim := { program := "ytgmeellapjimgaa", sum := "d893a0fe75bc70a42e32310da388c253e713e034298d93aa4d3d8963bbbade36", func := "bollard/bollardlaw13.BatchFlips", spec := "batchFlips", apart := false, narrowed := true }
def BatchFlipsUptoSaid : Prop := batchFlipsUptoRow.holds Try.pinned (OpenSpec.upto batchFlipsSpec)

/-- 'bollardlaw13.BatchRows', WHERE WHAT IT READS IS OF BULK AT MOST 1048576: true; the input reads as it did. -/
def batchRowsUptoRow : OpenClaim := { program := "ytgmeellapjimgaa", sum := "d893a0fe75bc70a42e32310da388c253e713e034298d93aa4d3d8963bbbade36", func := "bollard/bollardlaw13.BatchRows", spec := "batchRows", apart := false, narrowed := true }
def BatchRowsUptoSaid : Prop := batchRowsUptoRow.holds Try.pinned (OpenSpec.upto batchRowsSpec)

/-- 'bollardlaw13.BatchMoves', WHERE WHAT IT READS IS OF BULK AT MOST 1048576: true; the input reads as it did. -/
def batchMovesUptoRow : OpenClaim := { program := "ytgmeellapjimgaa", sum := "d893a0fe75bc70a42e32310da388c253e713e034298d93aa4d3d8963bbbade36", func := "bollard/bollardlaw13.BatchMoves", spec := "batchMoves", recurses := true, apart := false, narrowed := true }
def BatchMovesUptoSaid : Prop := batchMovesUptoRow.holds Try.pinned (OpenSpec.upto batchMovesSpec)

/-- 'bollardlaw13.BatchBack', WHERE WHAT IT READS IS OF BULK AT MOST 1048576: true; the input reads as it did. -/
def batchBackUptoRow : OpenClaim := { program := "ytgmeellapjimgaa", sum := "d893a0fe75bc70a42e32310da388c253e713e034298d93aa4d3d8963bbbade36", func := "bollard/bollardlaw13.BatchBack", spec := "batchBack", apart := false, narrowed := true }
def BatchBackUptoSaid : Prop := batchBackUptoRow.holds Try.pinned (OpenSpec.upto batchBackSpec)

end Rows
end Go.Proofs.Ytgmeellapjimgaa
