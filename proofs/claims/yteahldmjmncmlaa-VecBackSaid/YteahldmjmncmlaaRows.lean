/-
  No cell of these rows narrows 'for every input' (looked for: loops, veiled, ifaces, maps, wideKeys, modest, calm, conditions, laid).
  DERIVED. THE GIVEN ROWS OF THIS SEAT. 6 by the template 'for every input the law returns true; each argument reads behind the call as it read before'; 0 by the template 'total and deterministic' (their statements: YteahldmjmncmlaaTotals.lean).
  GIVEN WITH THE SEED: the statements are not yours to turn. If you find one false, say at which input.
  Laid BY PROGRAM, IN A SANDBOX (cutbox-rows.mjs): the forced cells as the released guide's own fill.sh prints them over the translation ba6a91f0c5644682… (all of the seat's roots in one cut). By AI agents, Wed Nov 11 2026. No macro, syntax, notation, axiom, sorry.
-/
import Derived.Test.YteahldmjmncmlaaChecked
import GoSem.Claim
import GoSem.ClaimJoined
import GoSem.ClaimMapViews
import Derived.JoinedTies
import Derived.KernelRfl
namespace Go.Proofs.Yteahldmjmncmlaa
/- THE CELL 'sum', in the pinned program and in every row, IS THE sha256 OF THE DUMP (.gsa) THAT YteahldmjmncmlaaProg.lean LOADS. Nothing in Lean hashes anything: it is a label: what it is worth is what the hold of that sum in a sandbox is worth. -/
noncomputable def Try.pinned : Pinned := { name := "yteahldmjmncmlaa", sum := "ba6a91f0c5644682595285a85b45b352ac5c344bcdbe065a9a1afd377948fa09", checked := Try.checked }
namespace Rows
def none {H : Type} : Left H := { results := [], args := [] }

/-- 'tattinglaw5.VecSums': WHATEVER THE INPUT: true; the input reads as it did. -/
def vecSumsSpec : ChangeSpec := { name := "vecSums", fn := fun _ => fun
  | [d1, d2] => { results := [.lit (.bool true)], args := [d1, d2] }
  | _ => none }
def vecSumsRow : OpenClaim := { program := "yteahldmjmncmlaa", sum := "ba6a91f0c5644682595285a85b45b352ac5c344bcdbe065a9a1afd377948fa09", func := "tatting/tattinglaw5.VecSums", spec := "vecSums", inPlace := ["math/bits.Add64", "math/bits.Sub64"], apart := false }
def VecSumsSaid : Prop := vecSumsRow.holds Try.pinned (OpenSpec.ofChange vecSumsSpec)

/-- ITS FALSE NEIGHBOUR: 'it returns false'. Refute it at one input. -/
def vecSumsWrong : ChangeSpec := { name := "vecSums", fn := fun _ => fun
  | [d1, d2] => { results := [.lit (.bool false)], args := [d1, d2] }
  | _ => none }
def VecSumsWrongFalsely : Prop := vecSumsRow.holds Try.pinned (OpenSpec.ofChange vecSumsWrong)

/-- 'tattinglaw5.VecBoth': WHATEVER THE INPUT: true; the input reads as it did. -/
def vecBothSpec : ChangeSpec := { name := "vecBoth", fn := fun _ => fun
  | [d1, d2] => { results := [.lit (.bool true)], args := [d1, d2] }
  | _ => none }
def vecBothRow : OpenClaim := { program := "yteahldmjmncmlaa", sum := "ba6a91f0c5644682595285a85b45b352ac5c344bcdbe065a9a1afd377948fa09", func := "tatting/tattinglaw5.VecBoth", spec := "vecBoth", inPlace := ["math/bits.Add64"], apart := false }
def VecBothSaid : Prop := vecBothRow.holds Try.pinned (OpenSpec.ofChange vecBothSpec)

/-- ITS FALSE NEIGHBOUR: 'it returns false'. Refute it at one input. -/
def vecBothWrong : ChangeSpec := { name := "vecBoth", fn := fun _ => fun
  | [d1, d2] => { results := [.lit (.bool false)], args := [d1, d2] }
  | _ => none }
def VecBothWrongFalsely : Prop := vecBothRow.holds Try.pinned (OpenSpec.ofChange vecBothWrong)

/-- 'tattinglaw5.VecBits': WHATEVER THE INPUT: true; the input reads as it did. -/
def vecBitsSpec : ChangeSpec := { name := "vecBits", fn := fun _ => fun
  | [d1, d2] => { results := [.lit (.bool true)], args := [d1, d2] }
  | _ => none }
def vecBitsRow : OpenClaim := { program := "yteahldmjmncmlaa", sum := "ba6a91f0c5644682595285a85b45b352ac5c344bcdbe065a9a1afd377948fa09", func := "tatting/tattinglaw5.VecBits", spec := "vecBits", inPlace := ["math/bits.Add64"], apart := false }
def VecBitsSaid : Prop := vecBitsRow.holds Try.pinned (OpenSpec.ofChange vecBitsSpec)

/-- ITS FALSE NEIGHBOUR: 'it returns false'. Refute it at one input. -/
def vecBitsWrong : ChangeSpec := { name := "vecBits", fn := fun _ => fun
  | [d1, d2] => { results := [.lit (.bool false)], args := [d1, d2] }
  | _ => none }
def VecBitsWrongFalsely : Prop := vecBitsRow.holds Try.pinned (OpenSpec.ofChange vecBitsWrong)

/-- 'tattinglaw5.VecWidths': WHATEVER THE INPUT: true; the input reads as it did. -/
def vecWidthsSpec : ChangeSpec := { name := "vecWidths", fn := fun _ => fun
  | [d1, d2] => { results := [.lit (.bool true)], args := [d1, d2] }
  | _ => none }
def vecWidthsRow : OpenClaim := { program := "yteahldmjmncmlaa", sum := "ba6a91f0c5644682595285a85b45b352ac5c344bcdbe065a9a1afd377948fa09", func := "tatting/tattinglaw5.VecWidths", spec := "vecWidths", inPlace := ["math/bits.Add64"], apart := false }
def VecWidthsSaid : Prop := vecWidthsRow.holds Try.pinned (OpenSpec.ofChange vecWidthsSpec)

/-- ITS FALSE NEIGHBOUR: 'it returns false'. Refute it at one input. -/
def vecWidthsWrong : ChangeSpec := { name := "vecWidths", fn := fun _ => fun
  | [d1, d2] => { results := [.lit (.bool false)], args := [d1, d2] }
  | _ => none }
def VecWidthsWrongFalsely : Prop := vecWidthsRow.holds Try.pinned (OpenSpec.ofChange vecWidthsWrong)

/-- 'tattinglaw5.VecBack': WHATEVER THE INPUT: true; the input reads as it did. -/
def vecBackSpec : ChangeSpec := { name := "vecBack", fn := fun _ => fun
  | [d1, d2, d3] => { results := [.lit (.bool true)], args := [d1, d2, d3] }
  | _ => none }
def vecBackRow : OpenClaim := { program := "yteahldmjmncmlaa", sum := "ba6a91f0c5644682595285a85b45b352ac5c344bcdbe065a9a1afd377948fa09", func := "tatting/tattinglaw5.VecBack", spec := "vecBack", inPlace := ["math/bits.Add64", "math/bits.Sub64"], apart := false }
def VecBackSaid : Prop := vecBackRow.holds Try.pinned (OpenSpec.ofChange vecBackSpec)

/-- ITS FALSE NEIGHBOUR: 'it returns false'. Refute it at one input. -/
def vecBackWrong : ChangeSpec := { name := "vecBack", fn := fun _ => fun
  | [d1, d2, d3] => { results := [.lit (.bool false)], args := [d1, d2, d3] }
  | _ => none }
def VecBackWrongFalsely : Prop := vecBackRow.holds Try.pinned (OpenSpec.ofChange vecBackWrong)

/-- 'tattinglaw5.VecKnown': WHATEVER THE INPUT: true; the input reads as it did. -/
def vecKnownSpec : ChangeSpec := { name := "vecKnown", fn := fun _ => fun
  | [] => { results := [.lit (.bool true)], args := [] }
  | _ => none }
def vecKnownRow : OpenClaim := { program := "yteahldmjmncmlaa", sum := "ba6a91f0c5644682595285a85b45b352ac5c344bcdbe065a9a1afd377948fa09", func := "tatting/tattinglaw5.VecKnown", spec := "vecKnown", inPlace := ["math/bits.Add64", "math/bits.Sub64"], apart := false }
def VecKnownSaid : Prop := vecKnownRow.holds Try.pinned (OpenSpec.ofChange vecKnownSpec)

/-- ITS FALSE NEIGHBOUR: 'it returns false'. Refute it at one input. -/
def vecKnownWrong : ChangeSpec := { name := "vecKnown", fn := fun _ => fun
  | [] => { results := [.lit (.bool false)], args := [] }
  | _ => none }
def VecKnownWrongFalsely : Prop := vecKnownRow.holds Try.pinned (OpenSpec.ofChange vecKnownWrong)

/- THE SECOND FORM. 'bulk': how many values and letters a reading holds, each counted each time it is reached (what is shared counts as often as it is met; a slice's spare places count too). A statement '..UptoSaid' is the law's where the arguments, and the package variables that the reading takes, are together of bulk at most 1048576: NARROWER than '..Said'. Prove '..Said' where nothing that the law and all that it calls make is longer than what came in: it says more and counts as full. Else prove '..UptoSaid'. A law counts once. -/
mutual
def uptoBulk {H : Type} : DataW H → Nat
  | .lit (.string bytes) => bytes.length + 1
  | .lit _ => 1
  | .nil => 1
  | .ptr d => uptoBulk d + 1
  | .slice elems spare => uptoBulkAll elems + uptoBulkAll spare + 1
  | .agg parts => uptoBulkAll parts + 1
  | .iface _ d => uptoBulk d + 1
  | .map entries => uptoBulkEntries entries + 1
  | .held _ => 1
def uptoBulkAll {H : Type} : List (DataW H) → Nat
  | [] => 0
  | d :: r => uptoBulk d + uptoBulkAll r
def uptoBulkEntries {H : Type} : List (Lit × DataW H) → Nat
  | [] => 0
  | x :: r => uptoBulkEntry x + uptoBulkEntries r
def uptoBulkEntry {H : Type} : Lit × DataW H → Nat
  | (.string bytes, d) => bytes.length + uptoBulk d + 1
  | (_, d) => uptoBulk d + 1
 end
def uptoSmall : (H : Type) → List (DataW H) → Bool := fun _ ds => decide (uptoBulkAll ds ≤ 1048576)
def OpenSpec.upto (s : _root_.Go.ChangeSpec) : _root_.Go.OpenSpec := { _root_.Go.OpenSpec.ofChange s with cond := some uptoSmall }

/-- 'tattinglaw5.VecSums', WHERE WHAT IT READS IS OF BULK AT MOST 1048576: true; the input reads as it did. -/
def vecSumsUptoRow : OpenClaim := { program := "yteahldmjmncmlaa", sum := "ba6a91f0c5644682595285a85b45b352ac5c344bcdbe065a9a1afd377948fa09", func := "tatting/tattinglaw5.VecSums", spec := "vecSums", inPlace := ["math/bits.Add64", "math/bits.Sub64"], apart := false, narrowed := true }
def VecSumsUptoSaid : Prop := vecSumsUptoRow.holds Try.pinned (OpenSpec.upto vecSumsSpec)

/-- 'tattinglaw5.VecBoth', WHERE WHAT IT READS IS OF BULK AT MOST 1048576: true; the input reads as it did. -/
def vecBothUptoRow : OpenClaim := { program := "yteahldmjmncmlaa", sum := "ba6a91f0c5644682595285a85b45b352ac5c344bcdbe065a9a1afd377948fa09", func := "tatting/tattinglaw5.VecBoth", spec := "vecBoth", inPlace := ["math/bits.Add64"], apart := false, narrowed := true }
def VecBothUptoSaid : Prop := vecBothUptoRow.holds Try.pinned (OpenSpec.upto vecBothSpec)

/-- 'tattinglaw5.VecBits', WHERE WHAT IT READS IS OF BULK AT MOST 1048576: true; the input reads as it did. -/
def vecBitsUptoRow : OpenClaim := { program := "yteahldmjmncmlaa", sum := "ba6a91f0c5644682595285a85b45b352ac5c344bcdbe065a9a1afd377948fa09", func := "tatting/tattinglaw5.VecBits", spec := "vecBits", inPlace := ["math/bits.Add64"], apart := false, narrowed := true }
def VecBitsUptoSaid : Prop := vecBitsUptoRow.holds Try.pinned (OpenSpec.upto vecBitsSpec)

/-- 'tattinglaw5.VecWidths', WHERE WHAT IT READS IS OF BULK AT MOST 1048576: true; the input reads as it did. -/
def vecWidthsUptoRow : OpenClaim := { program := "yteahldmjmncmlaa", sum := "ba6a91f0c5644682595285a85b45b352ac5c344bcdbe065a9a1afd377948fa09", func := "tatting/tattinglaw5.VecWidths", spec := "vecWidths", inPlace := ["math/bits.Add64"], apart := false, narrowed := true }
def VecWidthsUptoSaid : Prop := vecWidthsUptoRow.holds Try.pinned (OpenSpec.upto vecWidthsSpec)

/-- 'tattinglaw5.VecBack', WHERE WHAT IT READS IS OF BULK AT MOST 1048576: true; the input reads as it did. -/
def vecBackUptoRow : OpenClaim := { program := "yteahldmjmncmlaa", sum := "ba6a91f0c5644682595285a85b45b352ac5c344bcdbe065a9a1afd377948fa09", func := "tatting/tattinglaw5.VecBack", spec := "vecBack", inPlace := ["math/bits.Add64", "math/bits.Sub64"], apart := false, narrowed := true }
def VecBackUptoSaid : Prop := vecBackUptoRow.holds Try.pinned (OpenSpec.upto vecBackSpec)

/-- 'tattinglaw5.VecKnown', WHERE WHAT IT READS IS OF BULK AT MOST 1048576: true; the input reads as it did. -/
def vecKnownUptoRow : OpenClaim := { program := "yteahldmjmncmlaa", sum := "ba6a91f0c5644682595285a85b45b352ac5c344bcdbe065a9a1afd377948fa09", func := "tatting/tattinglaw5.VecKnown", spec := "vecKnown", inPlace := ["math/bits.Add64", "math/bits.Sub64"], apart := false, narrowed := true }
def VecKnownUptoSaid : Prop := vecKnownUptoRow.holds Try.pinned (OpenSpec.upto vecKnownSpec)

end Rows
end Go.Proofs.Yteahldmjmncmlaa
