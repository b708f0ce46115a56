/-
  No cell of these rows narrows 'for every input' (looked for: loops, veiled, ifaces, maps, wideKeys, modest, calm, conditions, laid).
  DERIVED. THE GIVEN ROWS OF THIS SEAT. 6 by the template 'for every input the law returns true; each argument reads behind the call as it read before'; 0 by the template 'total and deterministic' (their statements: YtnnihdhjphmohaaTotals.lean).
  GIVEN WITH THE SEED: the statements are not yours to turn. If you find one false, say at which input.
  Laid BY PROGRAM, IN A SANDBOX (cutbox-rows.mjs): the forced cells as the released guide's own fill.sh prints them over the translation e80e750ce12d04e2… (all of the seat's roots in one cut). By AI agents, Wed Nov 11 2026. No macro, syntax, notation, axiom, sorry.
-/
import Derived.Test.YtnnihdhjphmohaaChecked
import GoSem.Claim
import GoSem.ClaimJoined
import GoSem.ClaimMapViews
import Derived.JoinedTies
import Derived.KernelRfl
namespace Go.Proofs.Ytnnihdhjphmohaa
/- THE CELL 'sum', in the pinned program and in every row, IS THE sha256 OF THE DUMP (.gsa) THAT YtnnihdhjphmohaaProg.lean LOADS. Nothing in Lean hashes anything: it is a label: what it is worth is what the hold of that sum in a sandbox is worth. -/
noncomputable def Try.pinned : Pinned := { name := "ytnnihdhjphmohaa", sum := "e80e750ce12d04e2337c3318afcaca138ad9af5a06c4ca68349eeefd269aadef", checked := Try.checked }
namespace Rows
def none {H : Type} : Left H := { results := [], args := [] }

/-- 'tattinglaw20.HyyroKnown': WHATEVER THE INPUT: true; the input reads as it did. -/
def hyyroKnownSpec : ChangeSpec := { name := "hyyroKnown", fn := fun _ => fun
  | [] => { results := [.lit (.bool true)], args := [] }
  | _ => none }
def hyyroKnownRow : OpenClaim := { program := "ytnnihdhjphmohaa", sum := "e80e750ce12d04e2337c3318afcaca138ad9af5a06c4ca68349eeefd269aadef", func := "tatting/tattinglaw20.HyyroKnown", spec := "hyyroKnown", inPlace := ["math/bits.Add64", "math/bits.Sub64"], recurses := true, apart := false }
def HyyroKnownSaid : Prop := hyyroKnownRow.holds Try.pinned (OpenSpec.ofChange hyyroKnownSpec)

/-- ITS FALSE NEIGHBOUR: 'it returns false'. Refute it at one input. -/
def hyyroKnownWrong : ChangeSpec := { name := "hyyroKnown", fn := fun _ => fun
  | [] => { results := [.lit (.bool false)], args := [] }
  | _ => none }
def HyyroKnownWrongFalsely : Prop := hyyroKnownRow.holds Try.pinned (OpenSpec.ofChange hyyroKnownWrong)

/-- 'tattinglaw20.HyyroRow': WHATEVER THE INPUT: true; the input reads as it did. -/
def hyyroRowSpec : ChangeSpec := { name := "hyyroRow", fn := fun _ => fun
  | [d1, d2, d3] => { results := [.lit (.bool true)], args := [d1, d2, d3] }
  | _ => none }
def hyyroRowRow : OpenClaim := { program := "ytnnihdhjphmohaa", sum := "e80e750ce12d04e2337c3318afcaca138ad9af5a06c4ca68349eeefd269aadef", func := "tatting/tattinglaw20.HyyroRow", spec := "hyyroRow", inPlace := ["math/bits.Add64", "math/bits.Sub64"], recurses := true, apart := false }
def HyyroRowSaid : Prop := hyyroRowRow.holds Try.pinned (OpenSpec.ofChange hyyroRowSpec)

/-- ITS FALSE NEIGHBOUR: 'it returns false'. Refute it at one input. -/
def hyyroRowWrong : ChangeSpec := { name := "hyyroRow", fn := fun _ => fun
  | [d1, d2, d3] => { results := [.lit (.bool false)], args := [d1, d2, d3] }
  | _ => none }
def HyyroRowWrongFalsely : Prop := hyyroRowRow.holds Try.pinned (OpenSpec.ofChange hyyroRowWrong)

/-- 'tattinglaw20.HyyroRows': WHATEVER THE INPUT: true; the input reads as it did. -/
def hyyroRowsSpec : ChangeSpec := { name := "hyyroRows", fn := fun _ => fun
  | [d1, d2] => { results := [.lit (.bool true)], args := [d1, d2] }
  | _ => none }
def hyyroRowsRow : OpenClaim := { program := "ytnnihdhjphmohaa", sum := "e80e750ce12d04e2337c3318afcaca138ad9af5a06c4ca68349eeefd269aadef", func := "tatting/tattinglaw20.HyyroRows", spec := "hyyroRows", inPlace := ["math/bits.Add64", "math/bits.Sub64"], recurses := true, apart := false }
def HyyroRowsSaid : Prop := hyyroRowsRow.holds Try.pinned (OpenSpec.ofChange hyyroRowsSpec)

/-- ITS FALSE NEIGHBOUR: 'it returns false'. Refute it at one input. -/
def hyyroRowsWrong : ChangeSpec := { name := "hyyroRows", fn := fun _ => fun
  | [d1, d2] => { results := [.lit (.bool false)], args := [d1, d2] }
  | _ => none }
def HyyroRowsWrongFalsely : Prop := hyyroRowsRow.holds Try.pinned (OpenSpec.ofChange hyyroRowsWrong)

/-- 'tattinglaw20.HyyroLen': WHATEVER THE INPUT: true; the input reads as it did. -/
def hyyroLenSpec : ChangeSpec := { name := "hyyroLen", fn := fun _ => fun
  | [d1, d2] => { results := [.lit (.bool true)], args := [d1, d2] }
  | _ => none }
def hyyroLenRow : OpenClaim := { program := "ytnnihdhjphmohaa", sum := "e80e750ce12d04e2337c3318afcaca138ad9af5a06c4ca68349eeefd269aadef", func := "tatting/tattinglaw20.HyyroLen", spec := "hyyroLen", inPlace := ["math/bits.Add64", "math/bits.Sub64"], recurses := true, apart := false }
def HyyroLenSaid : Prop := hyyroLenRow.holds Try.pinned (OpenSpec.ofChange hyyroLenSpec)

/-- ITS FALSE NEIGHBOUR: 'it returns false'. Refute it at one input. -/
def hyyroLenWrong : ChangeSpec := { name := "hyyroLen", fn := fun _ => fun
  | [d1, d2] => { results := [.lit (.bool false)], args := [d1, d2] }
  | _ => none }
def HyyroLenWrongFalsely : Prop := hyyroLenRow.holds Try.pinned (OpenSpec.ofChange hyyroLenWrong)

/-- 'tattinglaw20.HyyroSteps': WHATEVER THE INPUT: true; the input reads as it did. -/
def hyyroStepsSpec : ChangeSpec := { name := "hyyroSteps", fn := fun _ => fun
  | [d1, d2] => { results := [.lit (.bool true)], args := [d1, d2] }
  | _ => none }
def hyyroStepsRow : OpenClaim := { program := "ytnnihdhjphmohaa", sum := "e80e750ce12d04e2337c3318afcaca138ad9af5a06c4ca68349eeefd269aadef", func := "tatting/tattinglaw20.HyyroSteps", spec := "hyyroSteps", inPlace := ["math/bits.Add64", "math/bits.Sub64"], recurses := true, apart := false }
def HyyroStepsSaid : Prop := hyyroStepsRow.holds Try.pinned (OpenSpec.ofChange hyyroStepsSpec)

/-- ITS FALSE NEIGHBOUR: 'it returns false'. Refute it at one input. -/
def hyyroStepsWrong : ChangeSpec := { name := "hyyroSteps", fn := fun _ => fun
  | [d1, d2] => { results := [.lit (.bool false)], args := [d1, d2] }
  | _ => none }
def HyyroStepsWrongFalsely : Prop := hyyroStepsRow.holds Try.pinned (OpenSpec.ofChange hyyroStepsWrong)

/-- 'tattinglaw20.HyyroGoes': WHATEVER THE INPUT: true; the input reads as it did. -/
def hyyroGoesSpec : ChangeSpec := { name := "hyyroGoes", fn := fun _ => fun
  | [d1, d2, d3] => { results := [.lit (.bool true)], args := [d1, d2, d3] }
  | _ => none }
def hyyroGoesRow : OpenClaim := { program := "ytnnihdhjphmohaa", sum := "e80e750ce12d04e2337c3318afcaca138ad9af5a06c4ca68349eeefd269aadef", func := "tatting/tattinglaw20.HyyroGoes", spec := "hyyroGoes", inPlace := ["math/bits.Add64", "math/bits.Sub64"], recurses := true, apart := false }
def HyyroGoesSaid : Prop := hyyroGoesRow.holds Try.pinned (OpenSpec.ofChange hyyroGoesSpec)

/-- ITS FALSE NEIGHBOUR: 'it returns false'. Refute it at one input. -/
def hyyroGoesWrong : ChangeSpec := { name := "hyyroGoes", fn := fun _ => fun
  | [d1, d2, d3] => { results := [.lit (.bool false)], args := [d1, d2, d3] }
  | _ => none }
def HyyroGoesWrongFalsely : Prop := hyyroGoesRow.holds Try.pinned (OpenSpec.ofChange hyyroGoesWrong)

/- THE SECOND FORM. 'bulk': how many values and letters a reading holds, each counted each time it is reached (what is shared counts as often as it is met; a slice's spare places count too). A statement '..UptoSaid' is the law's where the arguments, and the package variables that the reading takes, are together of bulk at most 1048576: NARROWER than '..Said'. Prove '..Said' where nothing that the law and all that it calls make is longer than what came in: it says more and counts as full. Else prove '..UptoSaid'. A law counts once. -/
mutual
def uptoBulk {H : Type} : DataW H → Nat
  | .lit (.string bytes) => bytes.length + 1
  | .lit _ => 1
  | .nil => 1
  | .ptr d => uptoBulk d + 1
  | .slice elems spare => uptoBulkAll elems + uptoBulkAll spare + 1
  | .agg parts => uptoBulkAll parts + 1
  | .iface _ d => uptoBulk d + 1
  | .map entries => uptoBulkEntries entries + 1
  | .held _ => 1
def uptoBulkAll {H : Type} : List (DataW H) → Nat
  | [] => 0
  | d :: r => uptoBulk d + uptoBulkAll r
def uptoBulkEntries {H : Type} : List (Lit × DataW H) → Nat
  | [] => 0
  | x :: r => uptoBulkEntry x + uptoBulkEntries r
def uptoBulkEntry {H : Type} : Lit × DataW H → Nat
  | (.string bytes, d) => bytes.length + uptoBulk d + 1
  | (_, d) => uptoBulk d + 1
 end
def uptoSmall : (H : Type) → List (DataW H) → Bool := fun _ ds => decide (uptoBulkAll ds ≤ 1048576)
def OpenSpec.upto (s : _root_.Go.ChangeSpec) : _root_.Go.OpenSpec := { _root_.Go.OpenSpec.ofChange s with cond := some uptoSmall }

/-- 'tattinglaw20.HyyroKnown', WHERE WHAT IT READS IS OF BULK AT MOST 1048576: true; the input reads as it did. -/
def hyyroKnownUptoRow : OpenClaim := { program := "ytnnihdhjphmohaa", sum := "e80e750ce12d04e2337c3318afcaca138ad9af5a06c4ca68349eeefd269aadef", func := "tatting/tattinglaw20.HyyroKnown", spec := "hyyroKnown", inPlace := ["math/bits.Add64", "math/bits.Sub64"], recurses := true, apart := false, narrowed := true }
def HyyroKnownUptoSaid : Prop := hyyroKnownUptoRow.holds Try.pinned (OpenSpec.upto hyyroKnownSpec)

/-- 'tattinglaw20.HyyroRow', WHERE WHAT IT READS IS OF BULK AT MOST 1048576: true; the input reads as it did. -/
def hyyroRowUptoRow : OpenClaim := { program := "ytnnihdhjphmohaa", sum := "e80e750ce12d04e2337c3318afcaca138ad9af5a06c4ca68349eeefd269aadef", func := "tatting/tattinglaw20.HyyroRow", spec := "hyyroRow", inPlace := ["math/bits.Add64", "math/bits.Sub64"], recurses := true, apart := false, narrowed := true }
def HyyroRowUptoSaid : Prop := hyyroRowUptoRow.holds Try.pinned (OpenSpec.upto hyyroRowSpec)

/-- 'tattinglaw20.HyyroRows', WHERE WHAT IT READS IS OF BULK AT MOST 1048576: true; the input reads as it did. -/
def hyyroRowsUptoRow : OpenClaim := { program := "ytnnihdhjphmohaa", sum := "e80e750ce12d04e2337c3318afcaca138ad9af5a06c4ca68349eeefd269aadef", func := "tatting/tattinglaw20.HyyroRows", spec := "hyyroRows", inPlace := ["math/bits.Add64", "math/bits.Sub64"], recurses := true, apart := false, narrowed := true }
def HyyroRowsUptoSaid : Prop := hyyroRowsUptoRow.holds Try.pinned (OpenSpec.upto hyyroRowsSpec)

/-- 'tattinglaw20.HyyroLen', WHERE WHAT IT READS IS OF BULK AT MOST 1048576: true; the input reads as it did. -/
def hyyroLenUptoRow : OpenClaim := { program := "ytnnihdhjphmohaa", sum := "e80e750ce12d04e2337c3318afcaca138ad9af5a06c4ca68349eeefd269aadef", func := "tatting/tattinglaw20.HyyroLen", spec := "hyyroLen", inPlace := ["math/bits.Add64", "math/bits.Sub64"], recurses := true, apart := false, narrowed := true }
def HyyroLenUptoSaid : Prop := hyyroLenUptoRow.holds Try.pinned (OpenSpec.upto hyyroLenSpec)

/-- 'tattinglaw20.HyyroSteps', WHERE WHAT IT READS IS OF BULK AT MOST 1048576: true; the input reads as it did. -/
def hyyroStepsUptoRow : OpenClaim := { program := "ytnnihdhjphmohaa", sum := "e80e750ce12d04e2337c3318afcaca138ad9af5a06c4ca68349eeefd269aadef", func := "tatting/tattinglaw20.HyyroSteps", spec := "hyyroSteps", inPlace := ["math/bits.Add64", "math/bits.Sub64"], recurses := true, apart := false, narrowed := true }
def HyyroStepsUptoSaid : Prop := hyyroStepsUptoRow.holds Try.pinned (OpenSpec.upto hyyroStepsSpec)

/-- 'tattinglaw20.HyyroGoes', WHERE WHAT IT READS IS OF BULK AT MOST 1048576: true; the input reads as it did. -/
def hyyroGoesUptoRow : OpenClaim := { program := "ytnnihdhjphmohaa", sum := "e80e750ce12d04e2337c3318afcaca138ad9af5a06c4ca68349eeefd269aadef", func := "tatting/tattinglaw20.HyyroGoes", spec := "hyyroGoes", inPlace := ["math/bits.Add64", "math/bits.Sub64"], recurses := true, apart := false, narrowed := true }
def HyyroGoesUptoSaid : Prop := hyyroGoesUptoRow.holds Try.pinned (OpenSpec.upto hyyroGoesSpec)

end Rows
end Go.Proofs.Ytnnihdhjphmohaa
