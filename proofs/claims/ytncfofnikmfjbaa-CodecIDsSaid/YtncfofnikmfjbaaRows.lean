/-
  No cell of these rows narrows 'for every input' (looked for: loops, veiled, ifaces, maps, wideKeys, modest, calm, conditions, laid).
  DERIVED. THE GIVEN ROWS OF THIS SEAT. 8 by the template 'for every input the law returns true; each argument reads behind the call as it read before'; 0 by the template 'total and deterministic' (their statements: YtncfofnikmfjbaaTotals.lean).
  GIVEN WITH THE SEED: the statements are not yours to turn. If you find one false, say at which input.
  Laid BY PROGRAM, IN A SANDBOX (cutbox-rows.mjs): the forced cells as the released guide's own fill.sh prints them over the translation 1626a0e053fddae1… (all of the seat's roots in one cut). By AI agents, Wed Nov 11 2026. No macro, syntax, notation, axiom, sorry.
-/
import Derived.Test.YtncfofnikmfjbaaChecked
import GoSem.Claim
import GoSem.ClaimJoined
import GoSem.ClaimMapViews
import Derived.JoinedTies
import Derived.KernelRfl
namespace Go.Proofs.Ytncfofnikmfjbaa
/- THE CELL 'sum', in the pinned program and in every row, IS THE sha256 OF THE DUMP (.gsa) THAT YtncfofnikmfjbaaProg.lean LOADS. Nothing in Lean hashes anything: it is a label: what it is worth is what the hold of that sum in a sandbox is worth. -/
noncomputable def Try.pinned : Pinned := { name := "ytncfofnikmfjbaa", sum := "1626a0e053fddae1d7009767722fcfaf30476561f5ca1abd41103c2f9c68fbc8", checked := Try.checked }
namespace Rows
def none {H : Type} : Left H := { results := [], args := [] }

/-- 'bollardlaw20.CodecRequests': WHATEVER THE INPUT: true; the input reads as it did. -/
def codecRequestsSpec : ChangeSpec := { name := "codecRequests", fn := fun _ => fun
  | [d] => { results := [.lit (.bool true)], args := [d] }
  | _ => none }
def codecRequestsRow : OpenClaim := { program := "ytncfofnikmfjbaa", sum := "1626a0e053fddae1d7009767722fcfaf30476561f5ca1abd41103c2f9c68fbc8", func := "bollard/bollardlaw20.CodecRequests", spec := "codecRequests", unfollowed := true, recurses := true, plainKeys := false, apart := false }
def CodecRequestsSaid : Prop := codecRequestsRow.holds Try.pinned (OpenSpec.ofChange codecRequestsSpec)

/-- ITS FALSE NEIGHBOUR: 'it returns false'. Refute it at one input. -/
def codecRequestsWrong : ChangeSpec := { name := "codecRequests", fn := fun _ => fun
  | [d] => { results := [.lit (.bool false)], args := [d] }
  | _ => none }
def CodecRequestsWrongFalsely : Prop := codecRequestsRow.holds Try.pinned (OpenSpec.ofChange codecRequestsWrong)

/-- 'bollardlaw20.CodecFields': WHATEVER THE INPUT: true; the input reads as it did. -/
def codecFieldsSpec : ChangeSpec := { name := "codecFields", fn := fun _ => fun
  | [d] => { results := [.lit (.bool true)], args := [d] }
  | _ => none }
def codecFieldsRow : OpenClaim := { program := "ytncfofnikmfjbaa", sum := "1626a0e053fddae1d7009767722fcfaf30476561f5ca1abd41103c2f9c68fbc8", func := "bollard/bollardlaw20.CodecFields", spec := "codecFields", unfollowed := true, recurses := true, plainKeys := false, apart := false }
def CodecFieldsSaid : Prop := codecFieldsRow.holds Try.pinned (OpenSpec.ofChange codecFieldsSpec)

/-- ITS FALSE NEIGHBOUR: 'it returns false'. Refute it at one input. -/
def codecFieldsWrong : ChangeSpec := { name := "codecFields", fn := fun _ => fun
  | [d] => { results := [.lit (.bool false)], args := [d] }
  | _ => none }
def CodecFieldsWrongFalsely : Prop := codecFieldsRow.holds Try.pinned (OpenSpec.ofChange codecFieldsWrong)

/-- 'bollardlaw20.CodecCuts': WHATEVER THE INPUT: true; the input reads as it did. -/
def codecCutsSpec : ChangeSpec := { name := "codecCuts", fn := fun _ => fun
  | [d1, d2] => { results := [.lit (.bool true)], args := [d1, d2] }
  | _ => none }
def codecCutsRow : OpenClaim := { program := "ytncfofnikmfjbaa", sum := "1626a0e053fddae1d7009767722fcfaf30476561f5ca1abd41103c2f9c68fbc8", func := "bollard/bollardlaw20.CodecCuts", spec := "codecCuts", unfollowed := true, recurses := true, plainKeys := false, apart := false }
def CodecCutsSaid : Prop := codecCutsRow.holds Try.pinned (OpenSpec.ofChange codecCutsSpec)

/-- ITS FALSE NEIGHBOUR: 'it returns false'. Refute it at one input. -/
def codecCutsWrong : ChangeSpec := { name := "codecCuts", fn := fun _ => fun
  | [d1, d2] => { results := [.lit (.bool false)], args := [d1, d2] }
  | _ => none }
def CodecCutsWrongFalsely : Prop := codecCutsRow.holds Try.pinned (OpenSpec.ofChange codecCutsWrong)

/-- 'bollardlaw20.CodecParses': WHATEVER THE INPUT: true; the input reads as it did. -/
def codecParsesSpec : ChangeSpec := { name := "codecParses", fn := fun _ => fun
  | [d] => { results := [.lit (.bool true)], args := [d] }
  | _ => none }
def codecParsesRow : OpenClaim := { program := "ytncfofnikmfjbaa", sum := "1626a0e053fddae1d7009767722fcfaf30476561f5ca1abd41103c2f9c68fbc8", func := "bollard/bollardlaw20.CodecParses", spec := "codecParses", unfollowed := true, recurses := true, plainKeys := false, apart := false }
def CodecParsesSaid : Prop := codecParsesRow.holds Try.pinned (OpenSpec.ofChange codecParsesSpec)

/-- ITS FALSE NEIGHBOUR: 'it returns false'. Refute it at one input. -/
def codecParsesWrong : ChangeSpec := { name := "codecParses", fn := fun _ => fun
  | [d] => { results := [.lit (.bool false)], args := [d] }
  | _ => none }
def CodecParsesWrongFalsely : Prop := codecParsesRow.holds Try.pinned (OpenSpec.ofChange codecParsesWrong)

/-- 'bollardlaw20.CodecResponses': WHATEVER THE INPUT: true; the input reads as it did. -/
def codecResponsesSpec : ChangeSpec := { name := "codecResponses", fn := fun _ => fun
  | [d] => { results := [.lit (.bool true)], args := [d] }
  | _ => none }
def codecResponsesRow : OpenClaim := { program := "ytncfofnikmfjbaa", sum := "1626a0e053fddae1d7009767722fcfaf30476561f5ca1abd41103c2f9c68fbc8", func := "bollard/bollardlaw20.CodecResponses", spec := "codecResponses", unfollowed := true, recurses := true, plainKeys := false, apart := false }
def CodecResponsesSaid : Prop := codecResponsesRow.holds Try.pinned (OpenSpec.ofChange codecResponsesSpec)

/-- ITS FALSE NEIGHBOUR: 'it returns false'. Refute it at one input. -/
def codecResponsesWrong : ChangeSpec := { name := "codecResponses", fn := fun _ => fun
  | [d] => { results := [.lit (.bool false)], args := [d] }
  | _ => none }
def CodecResponsesWrongFalsely : Prop := codecResponsesRow.holds Try.pinned (OpenSpec.ofChange codecResponsesWrong)

/-- 'bollardlaw20.CodecBack': WHATEVER THE INPUT: true; the input reads as it did. -/
def codecBackSpec : ChangeSpec := { name := "codecBack", fn := fun _ => fun
  | [d1, d2] => { results := [.lit (.bool true)], args := [d1, d2] }
  | _ => none }
def codecBackRow : OpenClaim := { program := "ytncfofnikmfjbaa", sum := "1626a0e053fddae1d7009767722fcfaf30476561f5ca1abd41103c2f9c68fbc8", func := "bollard/bollardlaw20.CodecBack", spec := "codecBack", unfollowed := true, recurses := true, plainKeys := false, apart := false }
def CodecBackSaid : Prop := codecBackRow.holds Try.pinned (OpenSpec.ofChange codecBackSpec)

/-- ITS FALSE NEIGHBOUR: 'it returns false'. Refute it at one input. -/
def codecBackWrong : ChangeSpec := { name := "codecBack", fn := fun _ => fun
  | [d1, d2] => { results := [.lit (.bool false)], args := [d1, d2] }
  | _ => none }
def CodecBackWrongFalsely : Prop := codecBackRow.holds Try.pinned (OpenSpec.ofChange codecBackWrong)

/-- 'bollardlaw20.CodecOnce': WHATEVER THE INPUT: true; the input reads as it did. -/
def codecOnceSpec : ChangeSpec := { name := "codecOnce", fn := fun _ => fun
  | [d] => { results := [.lit (.bool true)], args := [d] }
  | _ => none }
def codecOnceRow : OpenClaim := { program := "ytncfofnikmfjbaa", sum := "1626a0e053fddae1d7009767722fcfaf30476561f5ca1abd41103c2f9c68fbc8", func := "bollard/bollardlaw20.CodecOnce", spec := "codecOnce", unfollowed := true, recurses := true, plainKeys := false, apart := false }
def CodecOnceSaid : Prop := codecOnceRow.holds Try.pinned (OpenSpec.ofChange codecOnceSpec)

/-- ITS FALSE NEIGHBOUR: 'it returns false'. Refute it at one input. -/
def codecOnceWrong : ChangeSpec := { name := "codecOnce", fn := fun _ => fun
  | [d] => { results := [.lit (.bool false)], args := [d] }
  | _ => none }
def CodecOnceWrongFalsely : Prop := codecOnceRow.holds Try.pinned (OpenSpec.ofChange codecOnceWrong)

/-- 'bollardlaw20.CodecIDs': WHATEVER THE INPUT: true; the input reads as it did. -/
def codecIDsSpec : ChangeSpec := { name := "codecIDs", fn := fun _ => fun
  | [d1, d2, d3] => { results := [.lit (.bool true)], args := [d1, d2, d3] }
  | _ => none }
def codecIDsRow : OpenClaim := { program := "ytncfofnikmfjbaa", sum := "1626a0e053fddae1d7009767722fcfaf30476561f5ca1abd41103c2f9c68fbc8", func := "bollard/bollardlaw20.CodecIDs", spec := "codecIDs", unfollowed := true, recurses := true, plainKeys := false, apart := false }
def CodecIDsSaid : Prop := codecIDsRow.holds Try.pinned (OpenSpec.ofChange codecIDsSpec)

/-- ITS FALSE NEIGHBOUR: 'it returns false'. Refute it at one input. -/
def codecIDsWrong : ChangeSpec := { name := "codecIDs", fn := fun _ => fun
  | [d1, d2, d3] => { results := [.lit (.bool false)], args := [d1, d2, d3] }
  | _ => none }
def CodecIDsWrongFalsely : Prop := codecIDsRow.holds Try.pinned (OpenSpec.ofChange codecIDsWrong)

/- THE SECOND FORM. 'bulk': how many values and letters a reading holds, each counted each time it is reached (what is shared counts as often as it is met; a slice's spare places count too). A statement '..UptoSaid' is the law's where the arguments, and the package variables that the reading takes, are together of bulk at most 1048576: NARROWER than '..Said'. Prove '..Said' where nothing that the law and all that it calls make is longer than what came in: it says more and counts as full. Else prove '..UptoSaid'. A law counts once. -/
mutual
def uptoBulk {H : Type} : DataW H → Nat
  | .lit (.string bytes) => bytes.length + 1
  | .lit _ => 1
  | .nil => 1
  | .ptr d => uptoBulk d + 1
  | .slice elems spare => uptoBulkAll elems + uptoBulkAll spare + 1
  | .agg parts => uptoBulkAll parts + 1
  | .iface _ d => uptoBulk d + 1
  | .map entries => uptoBulkEntries entries + 1
  | .held _ => 1
def uptoBulkAll {H : Type} : List (DataW H) → Nat
  | [] => 0
  | d :: r => uptoBulk d + uptoBulkAll r
def uptoBulkEntries {H : Type} : List (Lit × DataW H) → Nat
  | [] => 0
  | x :: r => uptoBulkEntry x + uptoBulkEntries r
def uptoBulkEntry {H : Type} : Lit × DataW H → Nat
  | (.string bytes, d) => bytes.length + uptoBulk d + 1
  | (_, d) => uptoBulk d + 1
 end
def uptoSmall : (H : Type) → List (DataW H) → Bool := fun _ ds => decide (uptoBulkAll ds ≤ 1048576)
def OpenSpec.upto (s : _root_.Go.ChangeSpec) : _root_.Go.OpenSpec := { _root_.Go.OpenSpec.ofChange s with cond := some uptoSmall }

/-- 'bollardlaw20.CodecRequests', WHERE WHAT IT READS IS OF BULK AT MOST 1048576: true; the input reads as it did. -/
def codecRequestsUptoRow : OpenClaim := { program := "ytncfofnikmfjbaa", sum := "1626a0e053fddae1d7009767722fcfaf30476561f5ca1abd41103c2f9c68fbc8", func := "bollard/bollardlaw20.CodecRequests", spec := "codecRequests", unfollowed := true, recurses := true, plainKeys := false, apart := false, narrowed := true }
def CodecRequestsUptoSaid : Prop := codecRequestsUptoRow.holds Try.pinned (OpenSpec.upto codecRequestsSpec)

/-- 'bollardlaw20.CodecFields', WHERE WHAT IT READS IS OF BULK AT MOST 1048576: true; the input reads as it did. -/
def codecFieldsUptoRow : OpenClaim := { program := "ytncfofnikmfjbaa", sum := "1626a0e053fddae1d7009767722fcfaf30476561f5ca1abd41103c2f9c68fbc8", func := "bollard/bollardlaw20.CodecFields", spec := "codecFields", unfollowed := true, recurses := true, plainKeys := false, apart := false, narrowed := true }
def CodecFieldsUptoSaid : Prop := codecFieldsUptoRow.holds Try.pinned (OpenSpec.upto codecFieldsSpec)

/-- 'bollardlaw20.CodecCuts', WHERE WHAT IT READS IS OF BULK AT MOST 1048576: true; the input reads as it did. -/
def codecCutsUptoRow : OpenClaim := { program := "ytncfofnikmfjbaa", sum := "1626a0e053fddae1d7009767722fcfaf30476561f5ca1abd41103c2f9c68fbc8", func := "bollard/bollardlaw20.CodecCuts", spec := "codecCuts", unfollowed := true, recurses := true, plainKeys := false, apart := false, narrowed := true }
def CodecCutsUptoSaid : Prop := codecCutsUptoRow.holds Try.pinned (OpenSpec.upto codecCutsSpec)

/-- 'bollardlaw20.CodecParses', WHERE WHAT IT READS IS OF BULK AT MOST 1048576: true; the input reads as it did. -/
def codecParsesUptoRow : OpenClaim := { program := "ytncfofnikmfjbaa", sum := "1626a0e053fddae1d7009767722fcfaf30476561f5ca1abd41103c2f9c68fbc8", func := "bollard/bollardlaw20.CodecParses", spec := "codecParses", unfollowed := true, recurses := true, plainKeys := false, apart := false, narrowed := true }
def CodecParsesUptoSaid : Prop := codecParsesUptoRow.holds Try.pinned (OpenSpec.upto codecParsesSpec)

/-- 'bollardlaw20.CodecResponses', WHERE WHAT IT READS IS OF BULK AT MOST 1048576: true; the input reads as it did. -/
def codecResponsesUptoRow : OpenClaim := { program := "ytncfofnikmfjbaa", sum := "1626a0e053fddae1d7009767722fcfaf30476561f5ca1abd41103c2f9c68fbc8", func := "bollard/bollardlaw20.CodecResponses", spec := "codecResponses", unfollowed := true, recurses := true, plainKeys := false, apart := false, narrowed := true }
def CodecResponsesUptoSaid : Prop := codecResponsesUptoRow.holds Try.pinned (OpenSpec.upto codecResponsesSpec)

/-- 'bollardlaw20.CodecBack', WHERE WHAT IT READS IS OF BULK AT MOST 1048576: true; the input reads as it did. -/
def codecBackUptoRow : OpenClaim := { program := "ytncfofnikmfjbaa", sum := "1626a0e053fddae1d7009767722fcfaf30476561f5ca1abd41103c2f9c68fbc8", func := "bollard/bollardlaw20.CodecBack", spec := "codecBack", unfollowed := true, recurses := true, plainKeys := false, apart := false, narrowed := true }
def CodecBackUptoSaid : Prop := codecBackUptoRow.holds Try.pinned (OpenSpec.upto codecBackSpec)

/-- 'bollardlaw20.CodecOnce', WHERE WHAT IT READS IS OF BULK AT MOST 1048576: true; the input reads as it did. -/
def codecOnceUptoRow : OpenClaim := { program := "ytncfofnikmfjbaa", sum := "1626a0e053fddae1d7009767722fcfaf30476561f5ca1abd41103c2f9c68fbc8", func := "bollard/bollardlaw20.CodecOnce", spec := "codecOnce", unfollowed := true, recurses := true, plainKeys := false, apart := false, narrowed := true }
def CodecOnceUptoSaid : Prop := codecOnceUptoRow.holds Try.pinned (OpenSpec.upto codecOnceSpec)

/-- 'bollardlaw20.CodecIDs', WHERE WHAT IT READS IS OF BULK AT MOST 1048576: true; the input reads as it did. -/
def codecIDsUptoRow : OpenClaim := { program := "ytncfofnikmfjbaa", sum := "1626a0e053fddae1d7009767722fcfaf30476561f5ca1abd41103c2f9c68fbc8", func := "bollard/bollardlaw20.CodecIDs", spec := "codecIDs", unfollowed := true, recurses := true, plainKeys := false, apart := false, narrowed := true }
def CodecIDsUptoSaid : Prop := codecIDsUptoRow.holds Try.pinned (OpenSpec.upto codecIDsSpec)

end Rows
end Go.Proofs.Ytncfofnikmfjbaa
