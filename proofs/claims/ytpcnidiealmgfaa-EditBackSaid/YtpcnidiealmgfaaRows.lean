/-
  No cell of these rows narrows 'for every input' (looked for: loops, veiled, ifaces, maps, wideKeys, modest, calm, conditions, laid).
  DERIVED. THE GIVEN ROWS OF THIS SEAT. 5 by the template 'for every input the law returns true; each argument reads behind the call as it read before'; 0 by the template 'total and deterministic' (their statements: YtpcnidiealmgfaaTotals.lean).
  GIVEN WITH THE SEED: the statements are not yours to turn. If you find one false, say at which input.
  Laid BY PROGRAM, IN A SANDBOX (cutbox-rows.mjs): the forced cells as the released guide's own fill.sh prints them over the translation 80573981f650b271… (all of the seat's roots in one cut). By AI agents, Wed Nov 11 2026. No macro, syntax, notation, axiom, sorry.
-/
import Derived.Test.YtpcnidiealmgfaaChecked
import GoSem.Claim
import GoSem.ClaimJoined
import GoSem.ClaimMapViews
import Derived.JoinedTies
import Derived.KernelRfl
namespace Go.Proofs.Ytpcnidiealmgfaa
/- THE CELL 'sum', in the pinned program and in every row, IS THE sha256 OF THE DUMP (.gsa) THAT YtpcnidiealmgfaaProg.lean LOADS. Nothing in Lean hashes anything: it is a label: what it is worth is what the hold of that sum in a sandbox is worth. -/
noncomputable def Try.pinned : Pinned := { name := "ytpcnidiealmgfaa", sum := "80573981f650b271bef2152dd529759534bee8a11a4ea262cb0dd1a15508d135", checked := Try.checked }
namespace Rows
def none {H : Type} : Left H := { results := [], args := [] }

/-- 'tattinglaw24.EditKnown': WHATEVER THE INPUT: true; the input reads as it did. -/
def editKnownSpec : ChangeSpec := { name := "editKnown", fn := fun _ => fun
  | [] => { results := [.lit (.bool true)], args := [] }
  | _ => none }
def editKnownRow : OpenClaim := { program := "ytpcnidiealmgfaa", sum := "80573981f650b271bef2152dd529759534bee8a11a4ea262cb0dd1a15508d135", func := "tatting/tattinglaw24.EditKnown", spec := "editKnown", inPlace := ["internal/bytealg.Compare"], unfollowed := true, recurses := true, apart := false }
def EditKnownSaid : Prop := editKnownRow.holds Try.pinned (OpenSpec.ofChange editKnownSpec)

/-- ITS FALSE NEIGHBOUR: 'it returns false'. Refute it at one input. -/
def editKnownWrong : ChangeSpec := { name := "editKnown", fn := fun _ => fun
  | [] => { results := [.lit (.bool false)], args := [] }
  | _ => none }
def EditKnownWrongFalsely : Prop := editKnownRow.holds Try.pinned (OpenSpec.ofChange editKnownWrong)

/-- 'tattinglaw24.EditMakes': WHATEVER THE INPUT: true; the input reads as it did. -/
def editMakesSpec : ChangeSpec := { name := "editMakes", fn := fun _ => fun
  | [d1, d2, d3] => { results := [.lit (.bool true)], args := [d1, d2, d3] }
  | _ => none }
def editMakesRow : OpenClaim := { program := "ytpcnidiealmgfaa", sum := "80573981f650b271bef2152dd529759534bee8a11a4ea262cb0dd1a15508d135", func := "tatting/tattinglaw24.EditMakes", spec := "editMakes", inPlace := ["internal/bytealg.Compare"], unfollowed := true, recurses := true, apart := false }
def EditMakesSaid : Prop := editMakesRow.holds Try.pinned (OpenSpec.ofChange editMakesSpec)

/-- ITS FALSE NEIGHBOUR: 'it returns false'. Refute it at one input. -/
def editMakesWrong : ChangeSpec := { name := "editMakes", fn := fun _ => fun
  | [d1, d2, d3] => { results := [.lit (.bool false)], args := [d1, d2, d3] }
  | _ => none }
def EditMakesWrongFalsely : Prop := editMakesRow.holds Try.pinned (OpenSpec.ofChange editMakesWrong)

/-- 'tattinglaw24.EditGood': WHATEVER THE INPUT: true; the input reads as it did. -/
def editGoodSpec : ChangeSpec := { name := "editGood", fn := fun _ => fun
  | [d] => { results := [.lit (.bool true)], args := [d] }
  | _ => none }
def editGoodRow : OpenClaim := { program := "ytpcnidiealmgfaa", sum := "80573981f650b271bef2152dd529759534bee8a11a4ea262cb0dd1a15508d135", func := "tatting/tattinglaw24.EditGood", spec := "editGood", inPlace := ["internal/bytealg.Compare"], unfollowed := true, recurses := true, apart := false }
def EditGoodSaid : Prop := editGoodRow.holds Try.pinned (OpenSpec.ofChange editGoodSpec)

/-- ITS FALSE NEIGHBOUR: 'it returns false'. Refute it at one input. -/
def editGoodWrong : ChangeSpec := { name := "editGood", fn := fun _ => fun
  | [d] => { results := [.lit (.bool false)], args := [d] }
  | _ => none }
def EditGoodWrongFalsely : Prop := editGoodRow.holds Try.pinned (OpenSpec.ofChange editGoodWrong)

/-- 'tattinglaw24.EditPairs': WHATEVER THE INPUT: true; the input reads as it did. -/
def editPairsSpec : ChangeSpec := { name := "editPairs", fn := fun _ => fun
  | [d1, d2] => { results := [.lit (.bool true)], args := [d1, d2] }
  | _ => none }
def editPairsRow : OpenClaim := { program := "ytpcnidiealmgfaa", sum := "80573981f650b271bef2152dd529759534bee8a11a4ea262cb0dd1a15508d135", func := "tatting/tattinglaw24.EditPairs", spec := "editPairs", inPlace := ["internal/bytealg.Compare"], unfollowed := true, recurses := true, apart := false }
def EditPairsSaid : Prop := editPairsRow.holds Try.pinned (OpenSpec.ofChange editPairsSpec)

/-- ITS FALSE NEIGHBOUR: 'it returns false'. Refute it at one input. -/
def editPairsWrong : ChangeSpec := { name := "editPairs", fn := fun _ => fun
  | [d1, d2] => { results := [.lit (.bool false)], args := [d1, d2] }
  | _ => none }
def EditPairsWrongFalsely : Prop := editPairsRow.holds Try.pinned (OpenSpec.ofChange editPairsWrong)

/-- 'tattinglaw24.EditBack': WHATEVER THE INPUT: true; the input reads as it did. -/
def editBackSpec : ChangeSpec := { name := "editBack", fn := fun _ => fun
  | [d1, d2, d3] => { results := [.lit (.bool true)], args := [d1, d2, d3] }
  | _ => none }
def editBackRow : OpenClaim := { program := "ytpcnidiealmgfaa", sum := "80573981f650b271bef2152dd529759534bee8a11a4ea262cb0dd1a15508d135", func := "tatting/tattinglaw24.EditBack", spec := "editBack", inPlace := ["internal/bytealg.Compare"], unfollowed := true, recurses := true, apart := false }
def EditBackSaid : Prop := editBackRow.holds Try.pinned (OpenSpec.ofChange editBackSpec)

/-- ITS FALSE NEIGHBOUR: 'it returns false'. Refute it at one input. -/
def editBackWrong : ChangeSpec := { name := "editBack", fn := fun _ => fun
  | [d1, d2, d3] => { results := [.lit (.bool false)], args := [d1, d2, d3] }
  | _ => none }
def EditBackWrongFalsely : Prop := editBackRow.holds Try.pinned (OpenSpec.ofChange editBackWrong)

/- THE SECOND FORM. 'bulk': how many values and letters a reading holds, each counted each time it is reached (what is shared counts as often as it is met; a slice's spare places count too). A statement '..UptoSaid' is the law's where the arguments, and the package variables that the reading takes, are together of bulk at most 1048576: NARROWER than '..Said'. Prove '..Said' where nothing that the law and all that it calls make is longer than what came in: it says more and counts as full. Else prove '..UptoSaid'. A law counts once. -/
mutual
def uptoBulk {H : Type} : DataW H → Nat
  | .lit (.string bytes) => bytes.length + 1
  | .lit _ => 1
  | .nil => 1
  | .ptr d => uptoBulk d + 1
  | .slice elems spare => uptoBulkAll elems + uptoBulkAll spare + 1
  | .agg parts => uptoBulkAll parts + 1
  | .iface _ d => uptoBulk d + 1
  | .map entries => uptoBulkEntries entries + 1
  | .held _ => 1
def uptoBulkAll {H : Type} : List (DataW H) → Nat
  | [] => 0
  | d :: r => uptoBulk d + uptoBulkAll r
def uptoBulkEntries {H : Type} : List (Lit × DataW H) → Nat
  | [] => 0
  | x :: r => uptoBulkEntry x + uptoBulkEntries r
def uptoBulkEntry {H : Type} : Lit × DataW H → Nat
  | (.string bytes, d) => bytes.length + uptoBulk d + 1
  | (_, d) => uptoBulk d + 1
 end
def uptoSmall : (H : Type) → List (DataW H) → Bool := fun _ ds => decide (uptoBulkAll ds ≤ 1048576)
def OpenSpec.upto (s : _root_.Go.ChangeSpec) : _root_.Go.OpenSpec := { _root_.Go.OpenSpec.ofChange s with cond := some uptoSmall }

/-- 'tattinglaw24.EditKnown', WHERE WHAT IT READS IS OF BULK AT MOST 1048576: true; the input reads as it did. -/
def editKnownUptoRow : OpenClaim := { program := "ytpcnidiealmgfaa", sum := "80573981f650b271bef2152dd529759534bee8a11a4ea262cb0dd1a15508d135", func := "tatting/tattinglaw24.EditKnown", spec := "editKnown", inPlace := ["internal/bytealg.Compare"], unfollowed := true, recurses := true, apart := false, narrowed := true }
def EditKnownUptoSaid : Prop := editKnownUptoRow.holds Try.pinned (OpenSpec.upto editKnownSpec)

/-- 'tattinglaw24.EditMakes', WHERE WHAT IT READS IS OF BULK AT MOST 1048576: true; the input reads as it did. -/
def editMakesUptoRow : OpenClaim := { program := "ytpcnidiealmgfaa", sum := "80573981f650b271bef2152dd529759534bee8a11a4ea262cb0dd1a15508d135", func := "tatting/tattinglaw24.EditMakes", spec := "editMakes", inPlace := ["internal/bytealg.Compare"], unfollowed := true, recurses := true, apart := false, narrowed := true }
def EditMakesUptoSaid : Prop := editMakesUptoRow.holds Try.pinned (OpenSpec.upto editMakesSpec)

/-- 'tattinglaw24.EditGood', WHERE WHAT IT READS IS OF BULK AT MOST 1048576: true; the input reads as it did. -/
def editGoodUptoRow : OpenClaim := { program := "ytpcnidiealmgfaa", sum := "80573981f650b271bef2152dd529759534bee8a11a4ea262cb0dd1a15508d135", func := "tatting/tattinglaw24.EditGood", spec := "editGood", inPlace := ["internal/bytealg.Compare"], unfollowed := true, recurses := true, apart := false, narrowed := true }
def EditGoodUptoSaid : Prop := editGoodUptoRow.holds Try.pinned (OpenSpec.upto editGoodSpec)

/-- 'tattinglaw24.EditPairs', WHERE WHAT IT READS IS OF BULK AT MOST 1048576: true; the input reads as it did. -/
def editPairsUptoRow : OpenClaim := { program := "ytpcnidiealmgfaa", sum := "80573981f650b271bef2152dd529759534bee8a11a4ea262cb0dd1a15508d135", func := "tatting/tattinglaw24.EditPairs", spec := "editPairs", inPlace := ["internal/bytealg.Compare"], unfollowed := true, recurses := true, apart := false, narrowed := true }
def EditPairsUptoSaid : Prop := editPairsUptoRow.holds Try.pinned (OpenSpec.upto editPairsSpec)

/-- 'tattinglaw24.EditBack', WHERE WHAT IT READS IS OF BULK AT MOST 1048576: true; the input reads as it did. -/
def editBackUptoRow : OpenClaim := { program := "ytpcnidiealmgfaa", sum := "80573981f650b271bef2152dd529759534bee8a11a4ea262cb0dd1a15508d135", func := "tatting/tattinglaw24.EditBack", spec := "editBack", inPlace := ["internal/bytealg.Compare"], unfollowed := true, recurses := true, apart := false, narrowed := true }
def EditBackUptoSaid : Prop := editBackUptoRow.holds Try.pinned (OpenSpec.upto editBackSpec)

end Rows
end Go.Proofs.Ytpcnidiealmgfaa
