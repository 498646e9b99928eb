/-
  No cell of these rows narrows 'for every input' (looked for: loops, veiled, ifaces, maps, wideKeys, modest, calm, conditions, laid).
  DERIVED. THE GIVEN ROWS OF THIS SEAT. 5 by the template 'for every input the law returns true; each argument reads behind the call as it read before'; 0 by the template 'total and deterministic' (their statements: YtdlkofmcioalfaaTotals.lean).
  GIVEN WITH THE SEED: the statements are not yours to turn. If you find one false, say at which input.
  Laid BY PROGRAM, IN A SANDBOX (cutbox-rows.mjs): the forced cells as the released guide's own fill.sh prints them over the translation 34e2cf3176499419… (all of the seat's roots in one cut). By AI agents, Wed Nov 11 2026. No macro, syntax, notation, axiom, sorry.
-/
import Derived.Test.YtdlkofmcioalfaaChecked
import GoSem.Claim
import GoSem.ClaimJoined
import GoSem.ClaimMapViews
import Derived.JoinedTies
import Derived.KernelRfl
namespace Go.Proofs.Ytdlkofmcioalfaa
/- THE CELL 'sum', in the pinned program and in every row, IS THE sha256 OF THE DUMP (.gsa) THAT YtdlkofmcioalfaaProg.lean LOADS. Nothing in Lean hashes anything: it is a label: what it is worth is what the hold of that sum in a sandbox is worth. -/
noncomputable def Try.pinned : Pinned := { name := "ytdlkofmcioalfaa", sum := "34e2cf317649941967b287597c6494a462ffbb3573e4b2dac9a736168d84e5c6", checked := Try.checked }
namespace Rows
def none {H : Type} : Left H := { results := [], args := [] }

/-- 'bollardlaw24.CheckSaw': WHATEVER THE INPUT: true; the input reads as it did. -/
def checkSawSpec : ChangeSpec := { name := "checkSaw", fn := fun _ => fun
  | [d] => { results := [.lit (.bool true)], args := [d] }
  | _ => none }
def checkSawRow : OpenClaim := { program := "ytdlkofmcioalfaa", sum := "34e2cf317649941967b287597c6494a462ffbb3573e4b2dac9a736168d84e5c6", func := "bollard/bollardlaw24.CheckSaw", spec := "checkSaw", inPlace := ["math/bits.Add64"], plainKeys := false, apart := false }
def CheckSawSaid : Prop := checkSawRow.holds Try.pinned (OpenSpec.ofChange checkSawSpec)

/-- ITS FALSE NEIGHBOUR: 'it returns false'. Refute it at one input. -/
def checkSawWrong : ChangeSpec := { name := "checkSaw", fn := fun _ => fun
  | [d] => { results := [.lit (.bool false)], args := [d] }
  | _ => none }
def CheckSawWrongFalsely : Prop := checkSawRow.holds Try.pinned (OpenSpec.ofChange checkSawWrong)

/-- 'bollardlaw24.CheckRight': WHATEVER THE INPUT: true; the input reads as it did. -/
def checkRightSpec : ChangeSpec := { name := "checkRight", fn := fun _ => fun
  | [d1, d2] => { results := [.lit (.bool true)], args := [d1, d2] }
  | _ => none }
def checkRightRow : OpenClaim := { program := "ytdlkofmcioalfaa", sum := "34e2cf317649941967b287597c6494a462ffbb3573e4b2dac9a736168d84e5c6", func := "bollard/bollardlaw24.CheckRight", spec := "checkRight", inPlace := ["math/bits.Add64"], plainKeys := false, apart := false }
def CheckRightSaid : Prop := checkRightRow.holds Try.pinned (OpenSpec.ofChange checkRightSpec)

/-- ITS FALSE NEIGHBOUR: 'it returns false'. Refute it at one input. -/
def checkRightWrong : ChangeSpec := { name := "checkRight", fn := fun _ => fun
  | [d1, d2] => { results := [.lit (.bool false)], args := [d1, d2] }
  | _ => none }
def CheckRightWrongFalsely : Prop := checkRightRow.holds Try.pinned (OpenSpec.ofChange checkRightWrong)

/-- 'bollardlaw24.CheckAlone': WHATEVER THE INPUT: true; the input reads as it did. -/
def checkAloneSpec : ChangeSpec := { name := "checkAlone", fn := fun _ => fun
  | [d] => { results := [.lit (.bool true)], args := [d] }
  | _ => none }
def checkAloneRow : OpenClaim := { program := "ytdlkofmcioalfaa", sum := "34e2cf317649941967b287597c6494a462ffbb3573e4b2dac9a736168d84e5c6", func := "bollard/bollardlaw24.CheckAlone", spec := "checkAlone", inPlace := ["math/bits.Add64"], plainKeys := false, apart := false }
def CheckAloneSaid : Prop := checkAloneRow.holds Try.pinned (OpenSpec.ofChange checkAloneSpec)

/-- ITS FALSE NEIGHBOUR: 'it returns false'. Refute it at one input. -/
def checkAloneWrong : ChangeSpec := { name := "checkAlone", fn := fun _ => fun
  | [d] => { results := [.lit (.bool false)], args := [d] }
  | _ => none }
def CheckAloneWrongFalsely : Prop := checkAloneRow.holds Try.pinned (OpenSpec.ofChange checkAloneWrong)

/-- 'bollardlaw24.CheckFinds': WHATEVER THE INPUT: true; the input reads as it did. -/
def checkFindsSpec : ChangeSpec := { name := "checkFinds", fn := fun _ => fun
  | [d1, d2] => { results := [.lit (.bool true)], args := [d1, d2] }
  | _ => none }
def checkFindsRow : OpenClaim := { program := "ytdlkofmcioalfaa", sum := "34e2cf317649941967b287597c6494a462ffbb3573e4b2dac9a736168d84e5c6", func := "bollard/bollardlaw24.CheckFinds", spec := "checkFinds", inPlace := ["math/bits.Add64"], plainKeys := false, apart := false }
def CheckFindsSaid : Prop := checkFindsRow.holds Try.pinned (OpenSpec.ofChange checkFindsSpec)

/-- ITS FALSE NEIGHBOUR: 'it returns false'. Refute it at one input. -/
def checkFindsWrong : ChangeSpec := { name := "checkFinds", fn := fun _ => fun
  | [d1, d2] => { results := [.lit (.bool false)], args := [d1, d2] }
  | _ => none }
def CheckFindsWrongFalsely : Prop := checkFindsRow.holds Try.pinned (OpenSpec.ofChange checkFindsWrong)

/-- 'bollardlaw24.CheckAfter': WHATEVER THE INPUT: true; the input reads as it did. -/
def checkAfterSpec : ChangeSpec := { name := "checkAfter", fn := fun _ => fun
  | [d1, d2] => { results := [.lit (.bool true)], args := [d1, d2] }
  | _ => none }
def checkAfterRow : OpenClaim := { program := "ytdlkofmcioalfaa", sum := "34e2cf317649941967b287597c6494a462ffbb3573e4b2dac9a736168d84e5c6", func := "bollard/bollardlaw24.CheckAfter", spec := "checkAfter", inPlace := ["math/bits.Add64"], plainKeys := false, apart := false }
def CheckAfterSaid : Prop := checkAfterRow.holds Try.pinned (OpenSpec.ofChange checkAfterSpec)

/-- ITS FALSE NEIGHBOUR: 'it returns false'. Refute it at one input. -/
def checkAfterWrong : ChangeSpec := { name := "checkAfter", fn := fun _ => fun
  | [d1, d2] => { results := [.lit (.bool false)], args := [d1, d2] }
  | _ => none }
def CheckAfterWrongFalsely : Prop := checkAfterRow.holds Try.pinned (OpenSpec.ofChange checkAfterWrong)

/- THE SECOND FORM. 'bulk': how many values and letters a reading holds, each counted each time it is reached (what is shared counts as often as it is met; a slice's spare places count too). A statement '..UptoSaid' is the law's where the arguments, and the package variables that the reading takes, are together of bulk at most 1048576: NARROWER than '..Said'. Prove '..Said' where nothing that the law and all that it calls make is longer than what came in: it says more and counts as full. Else prove '..UptoSaid'. A law counts once. -/
mutual
def uptoBulk {H : Type} : DataW H → Nat
  | .lit (.string bytes) => bytes.length + 1
  | .lit _ => 1
  | .nil => 1
  | .ptr d => uptoBulk d + 1
  | .slice elems spare => uptoBulkAll elems + uptoBulkAll spare + 1
  | .agg parts => uptoBulkAll parts + 1
  | .iface _ d => uptoBulk d + 1
  | .map entries => uptoBulkEntries entries + 1
  | .held _ => 1
def uptoBulkAll {H : Type} : List (DataW H) → Nat
  | [] => 0
  | d :: r => uptoBulk d + uptoBulkAll r
def uptoBulkEntries {H : Type} : List (Lit × DataW H) → Nat
  | [] => 0
  | x :: r => uptoBulkEntry x + uptoBulkEntries r
def uptoBulkEntry {H : Type} : Lit × DataW H → Nat
  | (.string bytes, d) => bytes.length + uptoBulk d + 1
  | (_, d) => uptoBulk d + 1
 end
def uptoSmall : (H : Type) → List (DataW H) → Bool := fun _ ds => decide (uptoBulkAll ds ≤ 1048576)
def OpenSpec.upto (s : _root_.Go.ChangeSpec) : _root_.Go.OpenSpec := { _root_.Go.OpenSpec.ofChange s with cond := some uptoSmall }

/-- 'bollardlaw24.CheckSaw', WHERE WHAT IT READS IS OF BULK AT MOST 1048576: true; the input reads as it did. -/
def checkSawUptoRow : OpenClaim := { program := "ytdlkofmcioalfaa", sum := "34e2cf317649941967b287597c6494a462ffbb3573e4b2dac9a736168d84e5c6", func := "bollard/bollardlaw24.CheckSaw", spec := "checkSaw", inPlace := ["math/bits.Add64"], plainKeys := false, apart := false, narrowed := true }
def CheckSawUptoSaid : Prop := checkSawUptoRow.holds Try.pinned (OpenSpec.upto checkSawSpec)

/-- 'bollardlaw24.CheckRight', WHERE WHAT IT READS IS OF BULK AT MOST 1048576: true; the input reads as it did. -/
def checkRightUptoRow : OpenClaim := { program := "ytdlkofmcioalfaa", sum := "34e2cf317649941967b287597c6494a462ffbb3573e4b2dac9a736168d84e5c6", func := "bollard/bollardlaw24.CheckRight", spec := "checkRight", inPlace := ["math/bits.Add64"], plainKeys := false, apart := false, narrowed := true }
def CheckRightUptoSaid : Prop := checkRightUptoRow.holds Try.pinned (OpenSpec.upto checkRightSpec)

/-- 'bollardlaw24.CheckAlone', WHERE WHAT IT READS IS OF BULK AT MOST 1048576: true; the input reads as it did. -/
def checkAloneUptoRow : OpenClaim := { program := "ytdlkofmcioalfaa", sum := "34e2cf317649941967b287597c6494a462ffbb3573e4b2dac9a736168d84e5c6", func := "bollard/bollardlaw24.CheckAlone", spec := "checkAlone", inPlace := ["math/bits.Add64"], plainKeys := false, apart := false, narrowed := true }
def CheckAloneUptoSaid : Prop := checkAloneUptoRow.holds Try.pinned (OpenSpec.upto checkAloneSpec)

/-- 'bollardlaw24.CheckFinds', WHERE WHAT IT READS IS OF BULK AT MOST 1048576: true; the input reads as it did. -/
def checkFindsUptoRow : OpenClaim := { program := "ytdlkofmcioalfaa", sum := "34e2cf317649941967b287597c6494a462ffbb3573e4b2dac9a736168d84e5c6", func := "bollard/bollardlaw24.CheckFinds", spec := "checkFinds", inPlace := ["math/bits.Add64"], plainKeys := false, apart := false, narrowed := true }
def CheckFindsUptoSaid : Prop := checkFindsUptoRow.holds Try.pinned (OpenSpec.upto checkFindsSpec)

/-- 'bollardlaw24.CheckAfter', WHERE WHAT IT READS IS OF BULK AT MOST 1048576: true; the input reads as it did. -/
def checkAfterUptoRow : OpenClaim := { program := "ytdlkofmcioalfaa", sum := "34e2cf317649941967b287597c6494a462ffbb3573e4b2dac9a736168d84e5c6", func := "bollard/bollardlaw24.CheckAfter", spec := "checkAfter", inPlace := ["math/bits.Add64"], plainKeys := false, apart := false, narrowed := true }
def CheckAfterUptoSaid : Prop := checkAfterUptoRow.holds Try.pinned (OpenSpec.upto checkAfterSpec)

end Rows
end Go.Proofs.Ytdlkofmcioalfaa
