/-
  No cell of these rows narrows 'for every input' (looked for: loops, veiled, ifaces, maps, wideKeys, modest, calm, conditions, laid).
  DERIVED. THE GIVEN ROWS OF THIS SEAT. 5 by the template 'for every input the law returns true; each argument reads behind the call as it read before'; 0 by the template 'total and deterministic' (their statements: YtbbbcdfagmcfgaaTotals.lean).
  GIVEN WITH THE SEED: the statements are not yours to turn. If you find one false, say at which input.
  Laid BY PROGRAM, IN A SANDBOX (cutbox-rows.mjs): the forced cells as the released guide's own fill.sh prints them over the translation b99d4c0eb12a0312… (all of the seat's roots in one cut). By AI agents, Wed Nov 11 2026. No macro, syntax, notation, axiom, sorry.
-/
import Derived.Test.YtbbbcdfagmcfgaaChecked
import GoSem.Claim
import GoSem.ClaimJoined
import GoSem.ClaimMapViews
import Derived.JoinedTies
import Derived.KernelRfl
namespace Go.Proofs.Ytbbbcdfagmcfgaa
/- THE CELL 'sum', in the pinned program and in every row, IS THE sha256 OF THE DUMP (.gsa) THAT YtbbbcdfagmcfgaaProg.lean LOADS. Nothing in Lean hashes anything: it is a label: what it is worth is what the hold of that sum in a sandbox is worth. -/
noncomputable def Try.pinned : Pinned := { name := "ytbbbcdfagmcfgaa", sum := "b99d4c0eb12a0312aca436ddc341c7f13734710ab0f1e3c2e2fc7478abf8d224", checked := Try.checked }
namespace Rows
def none {H : Type} : Left H := { results := [], args := [] }

/-- 'tattinglaw22.WalkKnown': WHATEVER THE INPUT: true; the input reads as it did. -/
def walkKnownSpec : ChangeSpec := { name := "walkKnown", fn := fun _ => fun
  | [] => { results := [.lit (.bool true)], args := [] }
  | _ => none }
def walkKnownRow : OpenClaim := { program := "ytbbbcdfagmcfgaa", sum := "b99d4c0eb12a0312aca436ddc341c7f13734710ab0f1e3c2e2fc7478abf8d224", func := "tatting/tattinglaw22.WalkKnown", spec := "walkKnown", inPlace := ["math/bits.Add64", "math/bits.Sub64"], recurses := true, apart := false }
def WalkKnownSaid : Prop := walkKnownRow.holds Try.pinned (OpenSpec.ofChange walkKnownSpec)

/-- ITS FALSE NEIGHBOUR: 'it returns false'. Refute it at one input. -/
def walkKnownWrong : ChangeSpec := { name := "walkKnown", fn := fun _ => fun
  | [] => { results := [.lit (.bool false)], args := [] }
  | _ => none }
def WalkKnownWrongFalsely : Prop := walkKnownRow.holds Try.pinned (OpenSpec.ofChange walkKnownWrong)

/-- 'tattinglaw22.WalkRuns': WHATEVER THE INPUT: true; the input reads as it did. -/
def walkRunsSpec : ChangeSpec := { name := "walkRuns", fn := fun _ => fun
  | [d1, d2, d3, d4] => { results := [.lit (.bool true)], args := [d1, d2, d3, d4] }
  | _ => none }
def walkRunsRow : OpenClaim := { program := "ytbbbcdfagmcfgaa", sum := "b99d4c0eb12a0312aca436ddc341c7f13734710ab0f1e3c2e2fc7478abf8d224", func := "tatting/tattinglaw22.WalkRuns", spec := "walkRuns", inPlace := ["math/bits.Add64", "math/bits.Sub64"], recurses := true, apart := false }
def WalkRunsSaid : Prop := walkRunsRow.holds Try.pinned (OpenSpec.ofChange walkRunsSpec)

/-- ITS FALSE NEIGHBOUR: 'it returns false'. Refute it at one input. -/
def walkRunsWrong : ChangeSpec := { name := "walkRuns", fn := fun _ => fun
  | [d1, d2, d3, d4] => { results := [.lit (.bool false)], args := [d1, d2, d3, d4] }
  | _ => none }
def WalkRunsWrongFalsely : Prop := walkRunsRow.holds Try.pinned (OpenSpec.ofChange walkRunsWrong)

/-- 'tattinglaw22.WalkGood': WHATEVER THE INPUT: true; the input reads as it did. -/
def walkGoodSpec : ChangeSpec := { name := "walkGood", fn := fun _ => fun
  | [d1, d2, d3, d4] => { results := [.lit (.bool true)], args := [d1, d2, d3, d4] }
  | _ => none }
def walkGoodRow : OpenClaim := { program := "ytbbbcdfagmcfgaa", sum := "b99d4c0eb12a0312aca436ddc341c7f13734710ab0f1e3c2e2fc7478abf8d224", func := "tatting/tattinglaw22.WalkGood", spec := "walkGood", inPlace := ["math/bits.Add64", "math/bits.Sub64"], recurses := true, apart := false }
def WalkGoodSaid : Prop := walkGoodRow.holds Try.pinned (OpenSpec.ofChange walkGoodSpec)

/-- ITS FALSE NEIGHBOUR: 'it returns false'. Refute it at one input. -/
def walkGoodWrong : ChangeSpec := { name := "walkGood", fn := fun _ => fun
  | [d1, d2, d3, d4] => { results := [.lit (.bool false)], args := [d1, d2, d3, d4] }
  | _ => none }
def WalkGoodWrongFalsely : Prop := walkGoodRow.holds Try.pinned (OpenSpec.ofChange walkGoodWrong)

/-- 'tattinglaw22.WalkKeeps': WHATEVER THE INPUT: true; the input reads as it did. -/
def walkKeepsSpec : ChangeSpec := { name := "walkKeeps", fn := fun _ => fun
  | [d1, d2, d3] => { results := [.lit (.bool true)], args := [d1, d2, d3] }
  | _ => none }
def walkKeepsRow : OpenClaim := { program := "ytbbbcdfagmcfgaa", sum := "b99d4c0eb12a0312aca436ddc341c7f13734710ab0f1e3c2e2fc7478abf8d224", func := "tatting/tattinglaw22.WalkKeeps", spec := "walkKeeps", inPlace := ["math/bits.Add64", "math/bits.Sub64"], recurses := true, apart := false }
def WalkKeepsSaid : Prop := walkKeepsRow.holds Try.pinned (OpenSpec.ofChange walkKeepsSpec)

/-- ITS FALSE NEIGHBOUR: 'it returns false'. Refute it at one input. -/
def walkKeepsWrong : ChangeSpec := { name := "walkKeeps", fn := fun _ => fun
  | [d1, d2, d3] => { results := [.lit (.bool false)], args := [d1, d2, d3] }
  | _ => none }
def WalkKeepsWrongFalsely : Prop := walkKeepsRow.holds Try.pinned (OpenSpec.ofChange walkKeepsWrong)

/-- 'tattinglaw22.WalkLittle': WHATEVER THE INPUT: true; the input reads as it did. -/
def walkLittleSpec : ChangeSpec := { name := "walkLittle", fn := fun _ => fun
  | [d1, d2] => { results := [.lit (.bool true)], args := [d1, d2] }
  | _ => none }
def walkLittleRow : OpenClaim := { program := "ytbbbcdfagmcfgaa", sum := "b99d4c0eb12a0312aca436ddc341c7f13734710ab0f1e3c2e2fc7478abf8d224", func := "tatting/tattinglaw22.WalkLittle", spec := "walkLittle", inPlace := ["math/bits.Add64", "math/bits.Sub64"], recurses := true, apart := false }
def WalkLittleSaid : Prop := walkLittleRow.holds Try.pinned (OpenSpec.ofChange walkLittleSpec)

/-- ITS FALSE NEIGHBOUR: 'it returns false'. Refute it at one input. -/
def walkLittleWrong : ChangeSpec := { name := "walkLittle", fn := fun _ => fun
  | [d1, d2] => { results := [.lit (.bool false)], args := [d1, d2] }
  | _ => none }
def WalkLittleWrongFalsely : Prop := walkLittleRow.holds Try.pinned (OpenSpec.ofChange walkLittleWrong)

/- THE SECOND FORM. 'bulk': how many values and letters a reading holds, each counted each time it is reached (what is shared counts as often as it is met; a slice's spare places count too). A statement '..UptoSaid' is the law's where the arguments, and the package variables that the reading takes, are together of bulk at most 1048576: NARROWER than '..Said'. Prove '..Said' where nothing that the law and all that it calls make is longer than what came in: it says more and counts as full. Else prove '..UptoSaid'. A law counts once. -/
mutual
def uptoBulk {H : Type} : DataW H → Nat
  | .lit (.string bytes) => bytes.length + 1
  | .lit _ => 1
  | .nil => 1
  | .ptr d => uptoBulk d + 1
  | .slice elems spare => uptoBulkAll elems + uptoBulkAll spare + 1
  | .agg parts => uptoBulkAll parts + 1
  | .iface _ d => uptoBulk d + 1
  | .map entries => uptoBulkEntries entries + 1
  | .held _ => 1
def uptoBulkAll {H : Type} : List (DataW H) → Nat
  | [] => 0
  | d :: r => uptoBulk d + uptoBulkAll r
def uptoBulkEntries {H : Type} : List (Lit × DataW H) → Nat
  | [] => 0
  | x :: r => uptoBulkEntry x + uptoBulkEntries r
def uptoBulkEntry {H : Type} : Lit × DataW H → Nat
  | (.string bytes, d) => bytes.length + uptoBulk d + 1
  | (_, d) => uptoBulk d + 1
 end
def uptoSmall : (H : Type) → List (DataW H) → Bool := fun _ ds => decide (uptoBulkAll ds ≤ 1048576)
def OpenSpec.upto (s : _root_.Go.ChangeSpec) : _root_.Go.OpenSpec := { _root_.Go.OpenSpec.ofChange s with cond := some uptoSmall }

/-- 'tattinglaw22.WalkKnown', WHERE WHAT IT READS IS OF BULK AT MOST 1048576: true; the input reads as it did. -/
def walkKnownUptoRow : OpenClaim := { program := "ytbbbcdfagmcfgaa", sum := "b99d4c0eb12a0312aca436ddc341c7f13734710ab0f1e3c2e2fc7478abf8d224", func := "tatting/tattinglaw22.WalkKnown", spec := "walkKnown", inPlace := ["math/bits.Add64", "math/bits.Sub64"], recurses := true, apart := false, narrowed := true }
def WalkKnownUptoSaid : Prop := walkKnownUptoRow.holds Try.pinned (OpenSpec.upto walkKnownSpec)

/-- 'tattinglaw22.WalkRuns', WHERE WHAT IT READS IS OF BULK AT MOST 1048576: true; the input reads as it did. -/
def walkRunsUptoRow : OpenClaim := { program := "ytbbbcdfagmcfgaa", sum := "b99d4c0eb12a0312aca436ddc341c7f13734710ab0f1e3c2e2fc7478abf8d224", func := "tatting/tattinglaw22.WalkRuns", spec := "walkRuns", inPlace := ["math/bits.Add64", "math/bits.Sub64"], recurses := true, apart := false, narrowed := true }
def WalkRunsUptoSaid : Prop := walkRunsUptoRow.holds Try.pinned (OpenSpec.upto walkRunsSpec)

/-- 'tattinglaw22.WalkGood', WHERE WHAT IT READS IS OF BULK AT MOST 1048576: true; the input reads as it did. -/
def walkGoodUptoRow : OpenClaim := { program := "ytbbbcdfagmcfgaa", sum := "b99d4c0eb12a0312aca436ddc341c7f13734710ab0f1e3c2e2fc7478abf8d224", func := "tatting/tattinglaw22.WalkGood", spec := "walkGood", inPlace := ["math/bits.Add64", "math/bits.Sub64"], recurses := true, apart := false, narrowed := true }
def WalkGoodUptoSaid : Prop := walkGoodUptoRow.holds Try.pinned (OpenSpec.upto walkGoodSpec)

/-- 'tattinglaw22.WalkKeeps', WHERE WHAT IT READS IS OF BULK AT MOST 1048576: true; the input reads as it did. -/
def walkKeepsUptoRow : OpenClaim := { program := "ytbbbcdfagmcfgaa", sum := "b99d4c0eb12a0312aca436ddc341c7f13734710ab0f1e3c2e2fc7478abf8d224", func := "tatting/tattinglaw22.WalkKeeps", spec := "walkKeeps", inPlace := ["math/bits.Add64", "math/bits.Sub64"], recurses := true, apart := false, narrowed := true }
def WalkKeepsUptoSaid : Prop := walkKeepsUptoRow.holds Try.pinned (OpenSpec.upto walkKeepsSpec)

/-- 'tattinglaw22.WalkLittle', WHERE WHAT IT READS IS OF BULK AT MOST 1048576: true; the input reads as it did. -/
def walkLittleUptoRow : OpenClaim := { program := "ytbbbcdfagmcfgaa", sum := "b99d4c0eb12a0312aca436ddc341c7f13734710ab0f1e3c2e2fc7478abf8d224", func := "tatting/tattinglaw22.WalkLittle", spec := "walkLittle", inPlace := ["math/bits.Add64", "math/bits.Sub64"], recurses := true, apart := false, narrowed := true }
def WalkLittleUptoSaid : Prop := walkLittleUptoRow.holds Try.pinned (OpenSpec.upto walkLittleSpec)

end Rows
end Go.Proofs.Ytbbbcdfagmcfgaa
