/-
  No cell of these rows narrows 'for every input' (looked for: loops, veiled, ifaces, maps, wideKeys, modest, calm, conditions, laid).
  DERIVED. THE GIVEN ROWS OF THIS SEAT. 4 by the template 'for every input the law returns true; each argument reads behind the call as it read before'; 0 by the template 'total and deterministic' (their statements: YtippdbhefcmebaaTotals.lean).
  GIVEN WITH THE SEED: the statements are not yours to turn. If you find one false, say at which input.
  Laid BY PROGRAM, IN A SANDBOX (cutbox-rows.mjs): the forced cells as the released guide's own fill.sh prints them over the translation 451f6c63c18573e6… (all of the seat's roots in one cut). By AI agents, Wed Nov 11 2026. No macro, syntax, notation, axiom, sorry.
-/
import Derived.Test.YtippdbhefcmebaaChecked
import GoSem.Claim
import GoSem.ClaimJoined
import GoSem.ClaimMapViews
import Derived.JoinedTies
import Derived.KernelRfl
namespace Go.Proofs.Ytippdbhefcmebaa
/- THE CELL 'sum', in the pinned program and in every row, IS THE sha256 OF THE DUMP (.gsa) THAT YtippdbhefcmebaaProg.lean LOADS. Nothing in Lean hashes anything: it is a label: what it is worth is what the hold of that sum in a sandbox is worth. -/
noncomputable def Try.pinned : Pinned := { name := "ytippdbhefcmebaa", sum := "451f6c63c18573e620f71b23ac78e4a72f6388576292f14a1d2464c97ea5703e", checked := Try.checked }
namespace Rows
def none {H : Type} : Left H := { results := [], args := [] }

/-- 'tattinglaw6.MaskKnown': WHATEVER THE INPUT: true; the input reads as it did. -/
def maskKnownSpec : ChangeSpec := { name := "maskKnown", fn := fun _ => fun
  | [] => { results := [.lit (.bool true)], args := [] }
  | _ => none }
def maskKnownRow : OpenClaim := { program := "ytippdbhefcmebaa", sum := "451f6c63c18573e620f71b23ac78e4a72f6388576292f14a1d2464c97ea5703e", func := "tatting/tattinglaw6.MaskKnown", spec := "maskKnown", recurses := true, apart := false }
def MaskKnownSaid : Prop := maskKnownRow.holds Try.pinned (OpenSpec.ofChange maskKnownSpec)

/-- ITS FALSE NEIGHBOUR: 'it returns false'. Refute it at one input. -/
def maskKnownWrong : ChangeSpec := { name := "maskKnown", fn := fun _ => fun
  | [] => { results := [.lit (.bool false)], args := [] }
  | _ => none }
def MaskKnownWrongFalsely : Prop := maskKnownRow.holds Try.pinned (OpenSpec.ofChange maskKnownWrong)

/-- 'tattinglaw6.MaskSays': WHATEVER THE INPUT: true; the input reads as it did. -/
def maskSaysSpec : ChangeSpec := { name := "maskSays", fn := fun _ => fun
  | [d1, d2] => { results := [.lit (.bool true)], args := [d1, d2] }
  | _ => none }
def maskSaysRow : OpenClaim := { program := "ytippdbhefcmebaa", sum := "451f6c63c18573e620f71b23ac78e4a72f6388576292f14a1d2464c97ea5703e", func := "tatting/tattinglaw6.MaskSays", spec := "maskSays", recurses := true, apart := false }
def MaskSaysSaid : Prop := maskSaysRow.holds Try.pinned (OpenSpec.ofChange maskSaysSpec)

/-- ITS FALSE NEIGHBOUR: 'it returns false'. Refute it at one input. -/
def maskSaysWrong : ChangeSpec := { name := "maskSays", fn := fun _ => fun
  | [d1, d2] => { results := [.lit (.bool false)], args := [d1, d2] }
  | _ => none }
def MaskSaysWrongFalsely : Prop := maskSaysRow.holds Try.pinned (OpenSpec.ofChange maskSaysWrong)

/-- 'tattinglaw6.MaskApart': WHATEVER THE INPUT: true; the input reads as it did. -/
def maskApartSpec : ChangeSpec := { name := "maskApart", fn := fun _ => fun
  | [d1, d2] => { results := [.lit (.bool true)], args := [d1, d2] }
  | _ => none }
def maskApartRow : OpenClaim := { program := "ytippdbhefcmebaa", sum := "451f6c63c18573e620f71b23ac78e4a72f6388576292f14a1d2464c97ea5703e", func := "tatting/tattinglaw6.MaskApart", spec := "maskApart", recurses := true, apart := false }
def MaskApartSaid : Prop := maskApartRow.holds Try.pinned (OpenSpec.ofChange maskApartSpec)

/-- ITS FALSE NEIGHBOUR: 'it returns false'. Refute it at one input. -/
def maskApartWrong : ChangeSpec := { name := "maskApart", fn := fun _ => fun
  | [d1, d2] => { results := [.lit (.bool false)], args := [d1, d2] }
  | _ => none }
def MaskApartWrongFalsely : Prop := maskApartRow.holds Try.pinned (OpenSpec.ofChange maskApartWrong)

/-- 'tattinglaw6.MaskParts': WHATEVER THE INPUT: true; the input reads as it did. -/
def maskPartsSpec : ChangeSpec := { name := "maskParts", fn := fun _ => fun
  | [d] => { results := [.lit (.bool true)], args := [d] }
  | _ => none }
def maskPartsRow : OpenClaim := { program := "ytippdbhefcmebaa", sum := "451f6c63c18573e620f71b23ac78e4a72f6388576292f14a1d2464c97ea5703e", func := "tatting/tattinglaw6.MaskParts", spec := "maskParts", recurses := true, apart := false }
def MaskPartsSaid : Prop := maskPartsRow.holds Try.pinned (OpenSpec.ofChange maskPartsSpec)

/-- ITS FALSE NEIGHBOUR: 'it returns false'. Refute it at one input. -/
def maskPartsWrong : ChangeSpec := { name := "maskParts", fn := fun _ => fun
  | [d] => { results := [.lit (.bool false)], args := [d] }
  | _ => none }
def MaskPartsWrongFalsely : Prop := maskPartsRow.holds Try.pinned (OpenSpec.ofChange maskPartsWrong)

/- THE SECOND FORM. 'bulk': how many values and letters a reading holds, each counted each time it is reached (what is shared counts as often as it is met; a slice's spare places count too). A statement '..UptoSaid' is the law's where the arguments, and the package variables that the reading takes, are together of bulk at most 1048576: NARROWER than '..Said'. Prove '..Said' where nothing that the law and all that it calls make is longer than what came in: it says more and counts as full. Else prove '..UptoSaid'. A law counts once. -/
mutual
def uptoBulk {H : Type} : DataW H → Nat
  | .lit (.string bytes) => bytes.length + 1
  | .lit _ => 1
  | .nil => 1
  | .ptr d => uptoBulk d + 1
  | .slice elems spare => uptoBulkAll elems + uptoBulkAll spare + 1
  | .agg parts => uptoBulkAll parts + 1
  | .iface _ d => uptoBulk d + 1
  | .map entries => uptoBulkEntries entries + 1
  | .held _ => 1
def uptoBulkAll {H : Type} : List (DataW H) → Nat
  | [] => 0
  | d :: r => uptoBulk d + uptoBulkAll r
def uptoBulkEntries {H : Type} : List (Lit × DataW H) → Nat
  | [] => 0
  | x :: r => uptoBulkEntry x + uptoBulkEntries r
def uptoBulkEntry {H : Type} : Lit × DataW H → Nat
  | (.string bytes, d) => bytes.length + uptoBulk d + 1
  | (_, d) => uptoBulk d + 1
 end
def uptoSmall : (H : Type) → List (DataW H) → Bool := fun _ ds => decide (uptoBulkAll ds ≤ 1048576)
def OpenSpec.upto (s : _root_.Go.ChangeSpec) : _root_.Go.OpenSpec := { _root_.Go.OpenSpec.ofChange s with cond := some uptoSmall }

/-- 'tattinglaw6.MaskKnown', WHERE WHAT IT READS IS OF BULK AT MOST 1048576: true; the input reads as it did. -/
def maskKnownUptoRow : OpenClaim := { program := "ytippdbhefcmebaa", sum := "451f6c63c18573e620f71b23ac78e4a72f6388576292f14a1d2464c97ea5703e", func := "tatting/tattinglaw6.MaskKnown", spec := "maskKnown", recurses := true, apart := false, narrowed := true }
def MaskKnownUptoSaid : Prop := maskKnownUptoRow.holds Try.pinned (OpenSpec.upto maskKnownSpec)

/-- 'tattinglaw6.MaskSays', WHERE WHAT IT READS IS OF BULK AT MOST 1048576: true; the input reads as it did. -/
def maskSaysUptoRow : OpenClaim := { program := "ytippdbhefcmebaa", sum := "451f6c63c18573e620f71b23ac78e4a72f6388576292f14a1d2464c97ea5703e", func := "tatting/tattinglaw6.MaskSays", spec := "maskSays", recurses := true, apart := false, narrowed := true }
def MaskSaysUptoSaid : Prop := maskSaysUptoRow.holds Try.pinned (OpenSpec.upto maskSaysSpec)

/-- 'tattinglaw6.MaskApart', WHERE WHAT IT READS IS OF BULK AT MOST 1048576: true; the input reads as it did. -/
def maskApartUptoRow : OpenClaim := { program := "ytippdbhefcmebaa", sum := "451f6c63c18573e620f71b23ac78e4a72f6388576292f14a1d2464c97ea5703e", func := "tatting/tattinglaw6.MaskApart", spec := "maskApart", recurses := true, apart := false, narrowed := true }
def MaskApartUptoSaid : Prop := maskApartUptoRow.holds Try.pinned (OpenSpec.upto maskApartSpec)

/-- 'tattinglaw6.MaskParts', WHERE WHAT IT READS IS OF BULK AT MOST 1048576: true; the input reads as it did. -/
def maskPartsUptoRow : OpenClaim := { program := "ytippdbhefcmebaa", sum := "451f6c63c18573e620f71b23ac78e4a72f6388576292f14a1d2464c97ea5703e", func := "tatting/tattinglaw6.MaskParts", spec := "maskParts", recurses := true, apart := false, narrowed := true }
def MaskPartsUptoSaid : Prop := maskPartsUptoRow.holds Try.pinned (OpenSpec.upto maskPartsSpec)

end Rows
end Go.Proofs.Ytippdbhefcmebaa
