/-
  No cell of these rows narrows 'for every input' (looked for: loops, veiled, ifaces, maps, wideKeys, modest, calm, conditions, laid).
  DERIVED. THE GIVEN ROWS OF THIS SEAT. 7 by the template 'for every input the law returns true; each argument reads behind the call as it read before'; 0 by the template 'total and deterministic' (their statements: YtcmkmjmhjjohkaaTotals.lean).
  GIVEN WITH THE SEED: the statements are not yours to turn. If you find one false, say at which input.
  Laid BY PROGRAM, IN A SANDBOX (cutbox-rows.mjs): the forced cells as the released guide's own fill.sh prints them over the translation c7ebbcacd8a9cfea… (all of the seat's roots in one cut). By AI agents, Wed Nov 11 2026. No macro, syntax, notation, axiom, sorry.
-/
import Derived.Test.YtcmkmjmhjjohkaaChecked
import GoSem.Claim
import GoSem.ClaimJoined
import GoSem.ClaimMapViews
import Derived.JoinedTies
import Derived.KernelRfl
namespace Go.Proofs.Ytcmkmjmhjjohkaa
/- THE CELL 'sum', in the pinned program and in every row, IS THE sha256 OF THE DUMP (.gsa) THAT YtcmkmjmhjjohkaaProg.lean LOADS. Nothing in Lean hashes anything: it is a label: what it is worth is what the hold of that sum in a sandbox is worth. -/
noncomputable def Try.pinned : Pinned := { name := "ytcmkmjmhjjohkaa", sum := "c7ebbcacd8a9cfea4921dab1d0bdde197e1fbc9ebb8c81ac552ba74a706f1f12", checked := Try.checked }
namespace Rows
def none {H : Type} : Left H := { results := [], args := [] }

/-- 'bollardlaw12.RecordEncodes': WHATEVER THE INPUT: true; the input reads as it did. -/
def recordEncodesSpec : ChangeSpec := { name := "recordEncodes", fn := fun _ => fun
  | [d1, d2] => { results := [.lit (.bool true)], args := [d1, d2] }
  | _ => none }
def recordEncodesRow : OpenClaim := { program := "ytcmkmjmhjjohkaa", sum := "c7ebbcacd8a9cfea4921dab1d0bdde197e1fbc9ebb8c81ac552ba74a706f1f12", func := "bollard/bollardlaw12.RecordEncodes", spec := "recordEncodes", apart := false }
def RecordEncodesSaid : Prop := recordEncodesRow.holds Try.pinned (OpenSpec.ofChange recordEncodesSpec)

/-- ITS FALSE NEIGHBOUR: 'it returns false'. Refute it at one input. -/
def recordEncodesWrong : ChangeSpec := { name := "recordEncodes", fn := fun _ => fun
  | [d1, d2] => { results := [.lit (.bool false)], args := [d1, d2] }
  | _ => none }
def RecordEncodesWrongFalsely : Prop := recordEncodesRow.holds Try.pinned (OpenSpec.ofChange recordEncodesWrong)

/-- 'bollardlaw12.RecordLimits': WHATEVER THE INPUT: true; the input reads as it did. -/
def recordLimitsSpec : ChangeSpec := { name := "recordLimits", fn := fun _ => fun
  | [d1, d2, d3, d4] => { results := [.lit (.bool true)], args := [d1, d2, d3, d4] }
  | _ => none }
def recordLimitsRow : OpenClaim := { program := "ytcmkmjmhjjohkaa", sum := "c7ebbcacd8a9cfea4921dab1d0bdde197e1fbc9ebb8c81ac552ba74a706f1f12", func := "bollard/bollardlaw12.RecordLimits", spec := "recordLimits", apart := false }
def RecordLimitsSaid : Prop := recordLimitsRow.holds Try.pinned (OpenSpec.ofChange recordLimitsSpec)

/-- ITS FALSE NEIGHBOUR: 'it returns false'. Refute it at one input. -/
def recordLimitsWrong : ChangeSpec := { name := "recordLimits", fn := fun _ => fun
  | [d1, d2, d3, d4] => { results := [.lit (.bool false)], args := [d1, d2, d3, d4] }
  | _ => none }
def RecordLimitsWrongFalsely : Prop := recordLimitsRow.holds Try.pinned (OpenSpec.ofChange recordLimitsWrong)

/-- 'bollardlaw12.RecordDecodes': WHATEVER THE INPUT: true; the input reads as it did. -/
def recordDecodesSpec : ChangeSpec := { name := "recordDecodes", fn := fun _ => fun
  | [d1, d2] => { results := [.lit (.bool true)], args := [d1, d2] }
  | _ => none }
def recordDecodesRow : OpenClaim := { program := "ytcmkmjmhjjohkaa", sum := "c7ebbcacd8a9cfea4921dab1d0bdde197e1fbc9ebb8c81ac552ba74a706f1f12", func := "bollard/bollardlaw12.RecordDecodes", spec := "recordDecodes", apart := false }
def RecordDecodesSaid : Prop := recordDecodesRow.holds Try.pinned (OpenSpec.ofChange recordDecodesSpec)

/-- ITS FALSE NEIGHBOUR: 'it returns false'. Refute it at one input. -/
def recordDecodesWrong : ChangeSpec := { name := "recordDecodes", fn := fun _ => fun
  | [d1, d2] => { results := [.lit (.bool false)], args := [d1, d2] }
  | _ => none }
def RecordDecodesWrongFalsely : Prop := recordDecodesRow.holds Try.pinned (OpenSpec.ofChange recordDecodesWrong)

/-- 'bollardlaw12.RecordBack': WHATEVER THE INPUT: true; the input reads as it did. -/
def recordBackSpec : ChangeSpec := { name := "recordBack", fn := fun _ => fun
  | [d1, d2, d3] => { results := [.lit (.bool true)], args := [d1, d2, d3] }
  | _ => none }
def recordBackRow : OpenClaim := { program := "ytcmkmjmhjjohkaa", sum := "c7ebbcacd8a9cfea4921dab1d0bdde197e1fbc9ebb8c81ac552ba74a706f1f12", func := "bollard/bollardlaw12.RecordBack", spec := "recordBack", apart := false }
def RecordBackSaid : Prop := recordBackRow.holds Try.pinned (OpenSpec.ofChange recordBackSpec)

/-- ITS FALSE NEIGHBOUR: 'it returns false'. Refute it at one input. -/
def recordBackWrong : ChangeSpec := { name := "recordBack", fn := fun _ => fun
  | [d1, d2, d3] => { results := [.lit (.bool false)], args := [d1, d2, d3] }
  | _ => none }
def RecordBackWrongFalsely : Prop := recordBackRow.holds Try.pinned (OpenSpec.ofChange recordBackWrong)

/-- 'bollardlaw12.RecordCuts': WHATEVER THE INPUT: true; the input reads as it did. -/
def recordCutsSpec : ChangeSpec := { name := "recordCuts", fn := fun _ => fun
  | [d1, d2, d3] => { results := [.lit (.bool true)], args := [d1, d2, d3] }
  | _ => none }
def recordCutsRow : OpenClaim := { program := "ytcmkmjmhjjohkaa", sum := "c7ebbcacd8a9cfea4921dab1d0bdde197e1fbc9ebb8c81ac552ba74a706f1f12", func := "bollard/bollardlaw12.RecordCuts", spec := "recordCuts", apart := false }
def RecordCutsSaid : Prop := recordCutsRow.holds Try.pinned (OpenSpec.ofChange recordCutsSpec)

/-- ITS FALSE NEIGHBOUR: 'it returns false'. Refute it at one input. -/
def recordCutsWrong : ChangeSpec := { name := "recordCuts", fn := fun _ => fun
  | [d1, d2, d3] => { results := [.lit (.bool false)], args := [d1, d2, d3] }
  | _ => none }
def RecordCutsWrongFalsely : Prop := recordCutsRow.holds Try.pinned (OpenSpec.ofChange recordCutsWrong)

/-- 'bollardlaw12.RecordNone': WHATEVER THE INPUT: true; the input reads as it did. -/
def recordNoneSpec : ChangeSpec := { name := "recordNone", fn := fun _ => fun
  | [d1, d2, d3] => { results := [.lit (.bool true)], args := [d1, d2, d3] }
  | _ => none }
def recordNoneRow : OpenClaim := { program := "ytcmkmjmhjjohkaa", sum := "c7ebbcacd8a9cfea4921dab1d0bdde197e1fbc9ebb8c81ac552ba74a706f1f12", func := "bollard/bollardlaw12.RecordNone", spec := "recordNone", apart := false }
def RecordNoneSaid : Prop := recordNoneRow.holds Try.pinned (OpenSpec.ofChange recordNoneSpec)

/-- ITS FALSE NEIGHBOUR: 'it returns false'. Refute it at one input. -/
def recordNoneWrong : ChangeSpec := { name := "recordNone", fn := fun _ => fun
  | [d1, d2, d3] => { results := [.lit (.bool false)], args := [d1, d2, d3] }
  | _ => none }
def RecordNoneWrongFalsely : Prop := recordNoneRow.holds Try.pinned (OpenSpec.ofChange recordNoneWrong)

/-- 'bollardlaw12.RecordFirst': WHATEVER THE INPUT: true; the input reads as it did. -/
def recordFirstSpec : ChangeSpec := { name := "recordFirst", fn := fun _ => fun
  | [d1, d2, d3] => { results := [.lit (.bool true)], args := [d1, d2, d3] }
  | _ => none }
def recordFirstRow : OpenClaim := { program := "ytcmkmjmhjjohkaa", sum := "c7ebbcacd8a9cfea4921dab1d0bdde197e1fbc9ebb8c81ac552ba74a706f1f12", func := "bollard/bollardlaw12.RecordFirst", spec := "recordFirst", apart := false }
def RecordFirstSaid : Prop := recordFirstRow.holds Try.pinned (OpenSpec.ofChange recordFirstSpec)

/-- ITS FALSE NEIGHBOUR: 'it returns false'. Refute it at one input. -/
def recordFirstWrong : ChangeSpec := { name := "recordFirst", fn := fun _ => fun
  | [d1, d2, d3] => { results := [.lit (.bool false)], args := [d1, d2, d3] }
  | _ => none }
def RecordFirstWrongFalsely : Prop := recordFirstRow.holds Try.pinned (OpenSpec.ofChange recordFirstWrong)

/- THE SECOND FORM. 'bulk': how many values and letters a reading holds, each counted each time it is reached (what is shared counts as often as it is met; a slice's spare places count too). A statement '..UptoSaid' is the law's where the arguments, and the package variables that the reading takes, are together of bulk at most 1048576: NARROWER than '..Said'. Prove '..Said' where nothing that the law and all that it calls make is longer than what came in: it says more and counts as full. Else prove '..UptoSaid'. A law counts once. -/
mutual
def uptoBulk {H : Type} : DataW H → Nat
  | .lit (.string bytes) => bytes.length + 1
  | .lit _ => 1
  | .nil => 1
  | .ptr d => uptoBulk d + 1
  | .slice elems spare => uptoBulkAll elems + uptoBulkAll spare + 1
  | .agg parts => uptoBulkAll parts + 1
  | .iface _ d => uptoBulk d + 1
  | .map entries => uptoBulkEntries entries + 1
  | .held _ => 1
def uptoBulkAll {H : Type} : List (DataW H) → Nat
  | [] => 0
  | d :: r => uptoBulk d + uptoBulkAll r
def uptoBulkEntries {H : Type} : List (Lit × DataW H) → Nat
  | [] => 0
  | x :: r => uptoBulkEntry x + uptoBulkEntries r
def uptoBulkEntry {H : Type} : Lit × DataW H → Nat
  | (.string bytes, d) => bytes.length + uptoBulk d + 1
  | (_, d) => uptoBulk d + 1
 end
def uptoSmall : (H : Type) → List (DataW H) → Bool := fun _ ds => decide (uptoBulkAll ds ≤ 1048576)
def OpenSpec.upto (s : _root_.Go.ChangeSpec) : _root_.Go.OpenSpec := { _root_.Go.OpenSpec.ofChange s with cond := some uptoSmall }

/-- 'bollardlaw12.RecordEncodes', WHERE WHAT IT READS IS OF BULK AT MOST 1048576: true; the input reads as it did. -/
def recordEncodesUptoRow : OpenClaim := { program := "ytcmkmjmhjjohkaa", sum := "c7ebbcacd8a9cfea4921dab1d0bdde197e1fbc9ebb8c81ac552ba74a706f1f12", func := "bollard/bollardlaw12.RecordEncodes", spec := "recordEncodes", apart := false, narrowed := true }
def RecordEncodesUptoSaid : Prop := recordEncodesUptoRow.holds Try.pinned (OpenSpec.upto recordEncodesSpec)

/-- 'bollardlaw12.RecordLimits', WHERE WHAT IT READS IS OF BULK AT MOST 1048576: true; the input reads as it did. -/
def recordLimitsUptoRow : OpenClaim := { program := "ytcmkmjmhjjohkaa", sum := "c7ebbcacd8a9cfea4921dab1d0bdde197e1fbc9ebb8c81ac552ba74a706f1f12", func := "bollard/bollardlaw12.RecordLimits", spec := "recordLimits", apart := false, narrowed := true }
def RecordLimitsUptoSaid : Prop := recordLimitsUptoRow.holds Try.pinned (OpenSpec.upto recordLimitsSpec)

/-- 'bollardlaw12.RecordDecodes', WHERE WHAT IT READS IS OF BULK AT MOST 1048576: true; the input reads as it did. -/
def recordDecodesUptoRow : OpenClaim := { program := "ytcmkmjmhjjohkaa", sum := "c7ebbcacd8a9cfea4921dab1d0bdde197e1fbc9ebb8c81ac552ba74a706f1f12", func := "bollard/bollardlaw12.RecordDecodes", spec := "recordDecodes", apart := false, narrowed := true }
def RecordDecodesUptoSaid : Prop := recordDecodesUptoRow.holds Try.pinned (OpenSpec.upto recordDecodesSpec)

/-- 'bollardlaw12.RecordBack', WHERE WHAT IT READS IS OF BULK AT MOST 1048576: true; the input reads as it did. -/
def recordBackUptoRow : OpenClaim := { program := "ytcmkmjmhjjohkaa", sum := "c7ebbcacd8a9cfea4921dab1d0bdde197e1fbc9ebb8c81ac552ba74a706f1f12", func := "bollard/bollardlaw12.RecordBack", spec := "recordBack", apart := false, narrowed := true }
def RecordBackUptoSaid : Prop := recordBackUptoRow.holds Try.pinned (OpenSpec.upto recordBackSpec)

/-- 'bollardlaw12.RecordCuts', WHERE WHAT IT READS IS OF BULK AT MOST 1048576: true; the input reads as it did. -/
def recordCutsUptoRow : OpenClaim := { program := "ytcmkmjmhjjohkaa", sum := "c7ebbcacd8a9cfea4921dab1d0bdde197e1fbc9ebb8c81ac552ba74a706f1f12", func := "bollard/bollardlaw12.RecordCuts", spec := "recordCuts", apart := false, narrowed := true }
def RecordCutsUptoSaid : Prop := recordCutsUptoRow.holds Try.pinned (OpenSpec.upto recordCutsSpec)

/-- 'bollardlaw12.RecordNone', WHERE WHAT IT READS IS OF BULK AT MOST 1048576: true; the input reads as it did. -/
def recordNoneUptoRow : OpenClaim := { program := "ytcmkmjmhjjohkaa", sum := "c7ebbcacd8a9cfea4921dab1d0bdde197e1fbc9ebb8c81ac552ba74a706f1f12", func := "bollard/bollardlaw12.RecordNone", spec := "recordNone", apart := false, narrowed := true }
def RecordNoneUptoSaid : Prop := recordNoneUptoRow.holds Try.pinned (OpenSpec.upto recordNoneSpec)

/-- 'bollardlaw12.RecordFirst', WHERE WHAT IT READS IS OF BULK AT MOST 1048576: true; the input reads as it did. -/
def recordFirstUptoRow : OpenClaim := { program := "ytcmkmjmhjjohkaa", sum := "c7ebbcacd8a9cfea4921dab1d0bdde197e1fbc9ebb8c81ac552ba74a706f1f12", func := "bollard/bollardlaw12.RecordFirst", spec := "recordFirst", apart := false, narrowed := true }
def RecordFirstUptoSaid : Prop := recordFirstUptoRow.holds Try.pinned (OpenSpec.upto recordFirstSpec)

end Rows
end Go.Proofs.Ytcmkmjmhjjohkaa
