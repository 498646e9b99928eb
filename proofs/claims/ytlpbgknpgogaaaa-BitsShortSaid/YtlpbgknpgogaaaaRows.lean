/-
  No cell of these rows narrows 'for every input' (looked for: loops, veiled, ifaces, maps, wideKeys, modest, calm, conditions, laid).
  DERIVED. THE GIVEN ROWS OF THIS SEAT. 11 by the template 'for every input the law returns true; each argument reads behind the call as it read before'; 0 by the template 'total and deterministic' (their statements: YtlpbgknpgogaaaaTotals.lean).
  GIVEN WITH THE SEED: the statements are not yours to turn. If you find one false, say at which input.
  Laid BY PROGRAM, IN A SANDBOX (cutbox-rows.mjs): the forced cells as the released guide's own fill.sh prints them over the translation ac2be70ce0df9f5b… (all of the seat's roots in one cut). By AI agents, Wed Nov 11 2026. No macro, syntax, notation, axiom, sorry.
-/
import Derived.Test.YtlpbgknpgogaaaaChecked
import GoSem.Claim
import GoSem.ClaimJoined
import GoSem.ClaimMapViews
import Derived.JoinedTies
import Derived.KernelRfl
namespace Go.Proofs.Ytlpbgknpgogaaaa
/- THE CELL 'sum', in the pinned program and in every row, IS THE sha256 OF THE DUMP (.gsa) THAT YtlpbgknpgogaaaaProg.lean LOADS. Nothing in Lean hashes anything: it is a label: what it is worth is what the hold of that sum in a sandbox is worth. -/
noncomputable def Try.pinned : Pinned := { name := "ytlpbgknpgogaaaa", sum := "ac2be70ce0df9f5b9ac7de5f4625fc34019359572cac708506eeae97e0f2c30e", checked := Try.checked }
namespace Rows
def none {H : Type} : Left H := { results := [], args := [] }

/-- 'bollardlaw1.BitsShort': WHATEVER THE INPUT: true; the input reads as it did. -/
def bitsShortSpec : ChangeSpec := { name := "bitsShort", fn := fun _ => fun
  | [d1, d2] => { results := [.lit (.bool true)], args := [d1, d2] }
  | _ => none }
def bitsShortRow : OpenClaim := { program := "ytlpbgknpgogaaaa", sum := "ac2be70ce0df9f5b9ac7de5f4625fc34019359572cac708506eeae97e0f2c30e", func := "bollard/bollardlaw1.BitsShort", spec := "bitsShort", apart := false }
def BitsShortSaid : Prop := bitsShortRow.holds Try.pinned (OpenSpec.ofChange bitsShortSpec)

/-- ITS FALSE NEIGHBOUR: 'it returns false'. Refute it at one input. -/
def bitsShortWrong : ChangeSpec := { name := "bitsShort", fn := fun _ => fun
  | [d1, d2] => { results := [.lit (.bool false)], args := [d1, d2] }
  | _ => none }
def BitsShortWrongFalsely : Prop := bitsShortRow.holds Try.pinned (OpenSpec.ofChange bitsShortWrong)

/-- 'bollardlaw1.BitsSigns': WHATEVER THE INPUT: true; the input reads as it did. -/
def bitsSignsSpec : ChangeSpec := { name := "bitsSigns", fn := fun _ => fun
  | [d] => { results := [.lit (.bool true)], args := [d] }
  | _ => none }
def bitsSignsRow : OpenClaim := { program := "ytlpbgknpgogaaaa", sum := "ac2be70ce0df9f5b9ac7de5f4625fc34019359572cac708506eeae97e0f2c30e", func := "bollard/bollardlaw1.BitsSigns", spec := "bitsSigns", apart := false }
def BitsSignsSaid : Prop := bitsSignsRow.holds Try.pinned (OpenSpec.ofChange bitsSignsSpec)

/-- ITS FALSE NEIGHBOUR: 'it returns false'. Refute it at one input. -/
def bitsSignsWrong : ChangeSpec := { name := "bitsSigns", fn := fun _ => fun
  | [d] => { results := [.lit (.bool false)], args := [d] }
  | _ => none }
def BitsSignsWrongFalsely : Prop := bitsSignsRow.holds Try.pinned (OpenSpec.ofChange bitsSignsWrong)

/-- 'bollardlaw1.BitsVarints': WHATEVER THE INPUT: true; the input reads as it did. -/
def bitsVarintsSpec : ChangeSpec := { name := "bitsVarints", fn := fun _ => fun
  | [d1, d2, d3] => { results := [.lit (.bool true)], args := [d1, d2, d3] }
  | _ => none }
def bitsVarintsRow : OpenClaim := { program := "ytlpbgknpgogaaaa", sum := "ac2be70ce0df9f5b9ac7de5f4625fc34019359572cac708506eeae97e0f2c30e", func := "bollard/bollardlaw1.BitsVarints", spec := "bitsVarints", apart := false }
def BitsVarintsSaid : Prop := bitsVarintsRow.holds Try.pinned (OpenSpec.ofChange bitsVarintsSpec)

/-- ITS FALSE NEIGHBOUR: 'it returns false'. Refute it at one input. -/
def bitsVarintsWrong : ChangeSpec := { name := "bitsVarints", fn := fun _ => fun
  | [d1, d2, d3] => { results := [.lit (.bool false)], args := [d1, d2, d3] }
  | _ => none }
def BitsVarintsWrongFalsely : Prop := bitsVarintsRow.holds Try.pinned (OpenSpec.ofChange bitsVarintsWrong)

/-- 'bollardlaw1.BitsNarrow': WHATEVER THE INPUT: true; the input reads as it did. -/
def bitsNarrowSpec : ChangeSpec := { name := "bitsNarrow", fn := fun _ => fun
  | [d1, d2, d3, d4] => { results := [.lit (.bool true)], args := [d1, d2, d3, d4] }
  | _ => none }
def bitsNarrowRow : OpenClaim := { program := "ytlpbgknpgogaaaa", sum := "ac2be70ce0df9f5b9ac7de5f4625fc34019359572cac708506eeae97e0f2c30e", func := "bollard/bollardlaw1.BitsNarrow", spec := "bitsNarrow", apart := false }
def BitsNarrowSaid : Prop := bitsNarrowRow.holds Try.pinned (OpenSpec.ofChange bitsNarrowSpec)

/-- ITS FALSE NEIGHBOUR: 'it returns false'. Refute it at one input. -/
def bitsNarrowWrong : ChangeSpec := { name := "bitsNarrow", fn := fun _ => fun
  | [d1, d2, d3, d4] => { results := [.lit (.bool false)], args := [d1, d2, d3, d4] }
  | _ => none }
def BitsNarrowWrongFalsely : Prop := bitsNarrowRow.holds Try.pinned (OpenSpec.ofChange bitsNarrowWrong)

/-- 'bollardlaw1.BitsEdges': WHATEVER THE INPUT: true; the input reads as it did. -/
def bitsEdgesSpec : ChangeSpec := { name := "bitsEdges", fn := fun _ => fun
  | [d] => { results := [.lit (.bool true)], args := [d] }
  | _ => none }
def bitsEdgesRow : OpenClaim := { program := "ytlpbgknpgogaaaa", sum := "ac2be70ce0df9f5b9ac7de5f4625fc34019359572cac708506eeae97e0f2c30e", func := "bollard/bollardlaw1.BitsEdges", spec := "bitsEdges", apart := false }
def BitsEdgesSaid : Prop := bitsEdgesRow.holds Try.pinned (OpenSpec.ofChange bitsEdgesSpec)

/-- ITS FALSE NEIGHBOUR: 'it returns false'. Refute it at one input. -/
def bitsEdgesWrong : ChangeSpec := { name := "bitsEdges", fn := fun _ => fun
  | [d] => { results := [.lit (.bool false)], args := [d] }
  | _ => none }
def BitsEdgesWrongFalsely : Prop := bitsEdgesRow.holds Try.pinned (OpenSpec.ofChange bitsEdgesWrong)

/-- 'bollardlaw1.BitsSet': WHATEVER THE INPUT: true; the input reads as it did. -/
def bitsSetSpec : ChangeSpec := { name := "bitsSet", fn := fun _ => fun
  | [d1, d2, d3] => { results := [.lit (.bool true)], args := [d1, d2, d3] }
  | _ => none }
def bitsSetRow : OpenClaim := { program := "ytlpbgknpgogaaaa", sum := "ac2be70ce0df9f5b9ac7de5f4625fc34019359572cac708506eeae97e0f2c30e", func := "bollard/bollardlaw1.BitsSet", spec := "bitsSet", apart := false }
def BitsSetSaid : Prop := bitsSetRow.holds Try.pinned (OpenSpec.ofChange bitsSetSpec)

/-- ITS FALSE NEIGHBOUR: 'it returns false'. Refute it at one input. -/
def bitsSetWrong : ChangeSpec := { name := "bitsSet", fn := fun _ => fun
  | [d1, d2, d3] => { results := [.lit (.bool false)], args := [d1, d2, d3] }
  | _ => none }
def BitsSetWrongFalsely : Prop := bitsSetRow.holds Try.pinned (OpenSpec.ofChange bitsSetWrong)

/-- 'bollardlaw1.BitsNumbers': WHATEVER THE INPUT: true; the input reads as it did. -/
def bitsNumbersSpec : ChangeSpec := { name := "bitsNumbers", fn := fun _ => fun
  | [d1, d2, d3, d4, d5] => { results := [.lit (.bool true)], args := [d1, d2, d3, d4, d5] }
  | _ => none }
def bitsNumbersRow : OpenClaim := { program := "ytlpbgknpgogaaaa", sum := "ac2be70ce0df9f5b9ac7de5f4625fc34019359572cac708506eeae97e0f2c30e", func := "bollard/bollardlaw1.BitsNumbers", spec := "bitsNumbers", apart := false }
def BitsNumbersSaid : Prop := bitsNumbersRow.holds Try.pinned (OpenSpec.ofChange bitsNumbersSpec)

/-- ITS FALSE NEIGHBOUR: 'it returns false'. Refute it at one input. -/
def bitsNumbersWrong : ChangeSpec := { name := "bitsNumbers", fn := fun _ => fun
  | [d1, d2, d3, d4, d5] => { results := [.lit (.bool false)], args := [d1, d2, d3, d4, d5] }
  | _ => none }
def BitsNumbersWrongFalsely : Prop := bitsNumbersRow.holds Try.pinned (OpenSpec.ofChange bitsNumbersWrong)

/-- 'bollardlaw1.BitsTurn': WHATEVER THE INPUT: true; the input reads as it did. -/
def bitsTurnSpec : ChangeSpec := { name := "bitsTurn", fn := fun _ => fun
  | [d1, d2] => { results := [.lit (.bool true)], args := [d1, d2] }
  | _ => none }
def bitsTurnRow : OpenClaim := { program := "ytlpbgknpgogaaaa", sum := "ac2be70ce0df9f5b9ac7de5f4625fc34019359572cac708506eeae97e0f2c30e", func := "bollard/bollardlaw1.BitsTurn", spec := "bitsTurn", apart := false }
def BitsTurnSaid : Prop := bitsTurnRow.holds Try.pinned (OpenSpec.ofChange bitsTurnSpec)

/-- ITS FALSE NEIGHBOUR: 'it returns false'. Refute it at one input. -/
def bitsTurnWrong : ChangeSpec := { name := "bitsTurn", fn := fun _ => fun
  | [d1, d2] => { results := [.lit (.bool false)], args := [d1, d2] }
  | _ => none }
def BitsTurnWrongFalsely : Prop := bitsTurnRow.holds Try.pinned (OpenSpec.ofChange bitsTurnWrong)

/-- 'bollardlaw1.BitsMaps': WHATEVER THE INPUT: true; the input reads as it did. -/
def bitsMapsSpec : ChangeSpec := { name := "bitsMaps", fn := fun _ => fun
  | [d1, d2, d3, d4] => { results := [.lit (.bool true)], args := [d1, d2, d3, d4] }
  | _ => none }
def bitsMapsRow : OpenClaim := { program := "ytlpbgknpgogaaaa", sum := "ac2be70ce0df9f5b9ac7de5f4625fc34019359572cac708506eeae97e0f2c30e", func := "bollard/bollardlaw1.BitsMaps", spec := "bitsMaps", apart := false }
def BitsMapsSaid : Prop := bitsMapsRow.holds Try.pinned (OpenSpec.ofChange bitsMapsSpec)

/-- ITS FALSE NEIGHBOUR: 'it returns false'. Refute it at one input. -/
def bitsMapsWrong : ChangeSpec := { name := "bitsMaps", fn := fun _ => fun
  | [d1, d2, d3, d4] => { results := [.lit (.bool false)], args := [d1, d2, d3, d4] }
  | _ => none }
def BitsMapsWrongFalsely : Prop := bitsMapsRow.holds Try.pinned (OpenSpec.ofChange bitsMapsWrong)

/-- 'bollardlaw1.BitsFirst': WHATEVER THE INPUT: true; the input reads as it did. -/
def bitsFirstSpec : ChangeSpec := { name := "bitsFirst", fn := fun _ => fun
  | [d1, d2] => { results := [.lit (.bool true)], args := [d1, d2] }
  | _ => none }
def bitsFirstRow : OpenClaim := { program := "ytlpbgknpgogaaaa", sum := "ac2be70ce0df9f5b9ac7de5f4625fc34019359572cac708506eeae97e0f2c30e", func := "bollard/bollardlaw1.BitsFirst", spec := "bitsFirst", apart := false }
def BitsFirstSaid : Prop := bitsFirstRow.holds Try.pinned (OpenSpec.ofChange bitsFirstSpec)

/-- ITS FALSE NEIGHBOUR: 'it returns false'. Refute it at one input. -/
def bitsFirstWrong : ChangeSpec := { name := "bitsFirst", fn := fun _ => fun
  | [d1, d2] => { results := [.lit (.bool false)], args := [d1, d2] }
  | _ => none }
def BitsFirstWrongFalsely : Prop := bitsFirstRow.holds Try.pinned (OpenSpec.ofChange bitsFirstWrong)

/-- 'bollardlaw1.BitsBack': WHATEVER THE INPUT: true; the input reads as it did. -/
def bitsBackSpec : ChangeSpec := { name := "bitsBack", fn := fun _ => fun
  | [d1, d2, d3, d4, d5, d6, d7, d8] => { results := [.lit (.bool true)], args := [d1, d2, d3, d4, d5, d6, d7, d8] }
  | _ => none }
def bitsBackRow : OpenClaim := { program := "ytlpbgknpgogaaaa", sum := "ac2be70ce0df9f5b9ac7de5f4625fc34019359572cac708506eeae97e0f2c30e", func := "bollard/bollardlaw1.BitsBack", spec := "bitsBack", apart := false }
def BitsBackSaid : Prop := bitsBackRow.holds Try.pinned (OpenSpec.ofChange bitsBackSpec)

/-- ITS FALSE NEIGHBOUR: 'it returns false'. Refute it at one input. -/
def bitsBackWrong : ChangeSpec := { name := "bitsBack", fn := fun _ => fun
  | [d1, d2, d3, d4, d5, d6, d7, d8] => { results := [.lit (.bool false)], args := [d1, d2, d3, d4, d5, d6, d7, d8] }
  | _ => none }
def BitsBackWrongFalsely : Prop := bitsBackRow.holds Try.pinned (OpenSpec.ofChange bitsBackWrong)

/- THE SECOND FORM. 'bulk': how many values and letters a reading holds, each counted each time it is reached (what is shared counts as often as it is met; a slice's spare places count too). A statement '..UptoSaid' is the law's where the arguments, and the package variables that the reading takes, are together of bulk at most 1048576: NARROWER than '..Said'. Prove '..Said' where nothing that the law and all that it calls make is longer than what came in: it says more and counts as full. Else prove '..UptoSaid'. A law counts once. -/
mutual
def uptoBulk {H : Type} : DataW H → Nat
  | .lit (.string bytes) => bytes.length + 1
  | .lit _ => 1
  | .nil => 1
  | .ptr d => uptoBulk d + 1
  | .slice elems spare => uptoBulkAll elems + uptoBulkAll spare + 1
  | .agg parts => uptoBulkAll parts + 1
  | .iface _ d => uptoBulk d + 1
  | .map entries => uptoBulkEntries entries + 1
  | .held _ => 1
def uptoBulkAll {H : Type} : List (DataW H) → Nat
  | [] => 0
  | d :: r => uptoBulk d + uptoBulkAll r
def uptoBulkEntries {H : Type} : List (Lit × DataW H) → Nat
  | [] => 0
  | x :: r => uptoBulkEntry x + uptoBulkEntries r
def uptoBulkEntry {H : Type} : Lit × DataW H → Nat
  | (.string bytes, d) => bytes.length + uptoBulk d + 1
  | (_, d) => uptoBulk d + 1
 end
def uptoSmall : (H : Type) → List (DataW H) → Bool := fun _ ds => decide (uptoBulkAll ds ≤ 1048576)
def OpenSpec.upto (s : _root_.Go.ChangeSpec) : _root_.Go.OpenSpec := { _root_.Go.OpenSpec.ofChange s with cond := some uptoSmall }

/-- 'bollardlaw1.BitsShort', WHERE WHAT IT READS IS OF BULK AT MOST 1048576: true; the input reads as it did. -/
def bitsShortUptoRow : OpenClaim := { program := "ytlpbgknpgogaaaa", sum := "ac2be70ce0df9f5b9ac7de5f4625fc34019359572cac708506eeae97e0f2c30e", func := "bollard/bollardlaw1.BitsShort", spec := "bitsShort", apart := false, narrowed := true }
def BitsShortUptoSaid : Prop := bitsShortUptoRow.holds Try.pinned (OpenSpec.upto bitsShortSpec)

/-- 'bollardlaw1.BitsSigns', WHERE WHAT IT READS IS OF BULK AT MOST 1048576: true; the input reads as it did. -/
def bitsSignsUptoRow : OpenClaim := { program := "ytlpbgknpgogaaaa", sum := "ac2be70ce0df9f5b9ac7de5f4625fc34019359572cac708506eeae97e0f2c30e", func := "bollard/bollardlaw1.BitsSigns", spec := "bitsSigns", apart := false, narrowed := true }
def BitsSignsUptoSaid : Prop := bitsSignsUptoRow.holds Try.pinned (OpenSpec.upto bitsSignsSpec)

/-- 'bollardlaw1.BitsVarints', WHERE WHAT IT READS IS OF BULK AT MOST 1048576: true; the input reads as it did. -/
def bitsVarintsUptoRow : OpenClaim := { program := "ytlpbgknpgogaaaa", sum := "ac2be70ce0df9f5b9ac7de5f4625fc34019359572cac708506eeae97e0f2c30e", func := "bollard/bollardlaw1.BitsVarints", spec := "bitsVarints", apart := false, narrowed := true }
def BitsVarintsUptoSaid : Prop := bitsVarintsUptoRow.holds Try.pinned (OpenSpec.upto bitsVarintsSpec)

/-- 'bollardlaw1.BitsNarrow', WHERE WHAT IT READS IS OF BULK AT MOST 1048576: true; the input reads as it did. -/
def bitsNarrowUptoRow : OpenClaim := { program := "ytlpbgknpgogaaaa", sum := "ac2be70ce0df9f5b9ac7de5f4625fc34019359572cac708506eeae97e0f2c30e", func := "bollard/bollardlaw1.BitsNarrow", spec := "bitsNarrow", apart := false, narrowed := true }
def BitsNarrowUptoSaid : Prop := bitsNarrowUptoRow.holds Try.pinned (OpenSpec.upto bitsNarrowSpec)

/-- 'bollardlaw1.BitsEdges', WHERE WHAT IT READS IS OF BULK AT MOST 1048576: true; the input reads as it did. -/
def bitsEdgesUptoRow : OpenClaim := { program := "ytlpbgknpgogaaaa", sum := "ac2be70ce0df9f5b9ac7de5f4625fc34019359572cac708506eeae97e0f2c30e", func := "bollard/bollardlaw1.BitsEdges", spec := "bitsEdges", apart := false, narrowed := true }
def BitsEdgesUptoSaid : Prop := bitsEdgesUptoRow.holds Try.pinned (OpenSpec.upto bitsEdgesSpec)

/-- 'bollardlaw1.BitsSet', WHERE WHAT IT READS IS OF BULK AT MOST 1048576: true; the input reads as it did. -/
def bitsSetUptoRow : OpenClaim := { program := "ytlpbgknpgogaaaa", sum := "ac2be70ce0df9f5b9ac7de5f4625fc34019359572cac708506eeae97e0f2c30e", func := "bollard/bollardlaw1.BitsSet", spec := "bitsSet", apart := false, narrowed := true }
def BitsSetUptoSaid : Prop := bitsSetUptoRow.holds Try.pinned (OpenSpec.upto bitsSetSpec)

/-- 'bollardlaw1.BitsNumbers', WHERE WHAT IT READS IS OF BULK AT MOST 1048576: true; the input reads as it did. -/
def bitsNumbersUptoRow : OpenClaim := { program := "ytlpbgknpgogaaaa", sum := "ac2be70ce0df9f5b9ac7de5f4625fc34019359572cac708506eeae97e0f2c30e", func := "bollard/bollardlaw1.BitsNumbers", spec := "bitsNumbers", apart := false, narrowed := true }
def BitsNumbersUptoSaid : Prop := bitsNumbersUptoRow.holds Try.pinned (OpenSpec.upto bitsNumbersSpec)

/-- 'bollardlaw1.BitsTurn', WHERE WHAT IT READS IS OF BULK AT MOST 1048576: true; the input reads as it did. -/
def bitsTurnUptoRow : OpenClaim := { program := "ytlpbgknpgogaaaa", sum := "ac2be70ce0df9f5b9ac7de5f4625fc34019359572cac708506eeae97e0f2c30e", func := "bollard/bollardlaw1.BitsTurn", spec := "bitsTurn", apart := false, narrowed := true }
def BitsTurnUptoSaid : Prop := bitsTurnUptoRow.holds Try.pinned (OpenSpec.upto bitsTurnSpec)

/-- 'bollardlaw1.BitsMaps', WHERE WHAT IT READS IS OF BULK AT MOST 1048576: true; the input reads as it did. -/
def bitsMapsUptoRow : OpenClaim := { program := "ytlpbgknpgogaaaa", sum := "ac2be70ce0df9f5b9ac7de5f4625fc34019359572cac708506eeae97e0f2c30e", func := "bollard/bollardlaw1.BitsMaps", spec := "bitsMaps", apart := false, narrowed := true }
def BitsMapsUptoSaid : Prop := bitsMapsUptoRow.holds Try.pinned (OpenSpec.upto bitsMapsSpec)

/-- 'bollardlaw1.BitsFirst', WHERE WHAT IT READS IS OF BULK AT MOST 1048576: true; the input reads as it did. -/
def bitsFirstUptoRow : OpenClaim := { program := "ytlpbgknpgogaaaa", sum := "ac2be70ce0df9f5b9ac7de5f4625fc34019359572cac708506eeae97e0f2c30e", func := "bollard/bollardlaw1.BitsFirst", spec := "bitsFirst", apart := false, narrowed := true }
def BitsFirstUptoSaid : Prop := bitsFirstUptoRow.holds Try.pinned (OpenSpec.upto bitsFirstSpec)

/-- 'bollardlaw1.BitsBack', WHERE WHAT IT READS IS OF BULK AT MOST 1048576: true; the input reads as it did. -/
def bitsBackUptoRow : OpenClaim := { program := "ytlpbgknpgogaaaa", sum := "ac2be70ce0df9f5b9ac7de5f4625fc34019359572cac708506eeae97e0f2c30e", func := "bollard/bollardlaw1.BitsBack", spec := "bitsBack", apart := false, narrowed := true }
def BitsBackUptoSaid : Prop := bitsBackUptoRow.holds Try.pinned (OpenSpec.upto bitsBackSpec)

end Rows
end Go.Proofs.Ytlpbgknpgogaaaa
