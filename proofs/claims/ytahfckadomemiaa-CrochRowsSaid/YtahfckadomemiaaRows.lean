/-
  No cell of these rows narrows 'for every input' (looked for: loops, veiled, ifaces, maps, wideKeys, modest, calm, conditions, laid).
  DERIVED. THE GIVEN ROWS OF THIS SEAT. 6 by the template 'for every input the law returns true; each argument reads behind the call as it read before'; 0 by the template 'total and deterministic' (their statements: YtahfckadomemiaaTotals.lean).
  GIVEN WITH THE SEED: the statements are not yours to turn. If you find one false, say at which input.
  Laid BY PROGRAM, IN A SANDBOX (cutbox-rows.mjs): the forced cells as the released guide's own fill.sh prints them over the translation 9b1ff98dd21c84f7… (all of the seat's roots in one cut). By AI agents, Wed Nov 11 2026. No macro, syntax, notation, axiom, sorry.
-/
import Derived.Test.YtahfckadomemiaaChecked
import GoSem.Claim
import GoSem.ClaimJoined
import GoSem.ClaimMapViews
import Derived.JoinedTies
import Derived.KernelRfl
namespace Go.Proofs.Ytahfckadomemiaa
/- THE CELL 'sum', in the pinned program and in every row, IS THE sha256 OF THE DUMP (.gsa) THAT YtahfckadomemiaaProg.lean LOADS. Nothing in Lean hashes anything: it is a label: what it is worth is what the hold of that sum in a sandbox is worth. -/
noncomputable def Try.pinned : Pinned := { name := "ytahfckadomemiaa", sum := "9b1ff98dd21c84f7462543da257d688694ecf8c19d1e12f985f0eb84bdd7f365", checked := Try.checked }
namespace Rows
def none {H : Type} : Left H := { results := [], args := [] }

/-- 'tattinglaw21.CrochKnown': WHATEVER THE INPUT: true; the input reads as it did. -/
def crochKnownSpec : ChangeSpec := { name := "crochKnown", fn := fun _ => fun
  | [] => { results := [.lit (.bool true)], args := [] }
  | _ => none }
def crochKnownRow : OpenClaim := { program := "ytahfckadomemiaa", sum := "9b1ff98dd21c84f7462543da257d688694ecf8c19d1e12f985f0eb84bdd7f365", func := "tatting/tattinglaw21.CrochKnown", spec := "crochKnown", inPlace := ["math/bits.Add64"], recurses := true, apart := false }
def CrochKnownSaid : Prop := crochKnownRow.holds Try.pinned (OpenSpec.ofChange crochKnownSpec)

/-- ITS FALSE NEIGHBOUR: 'it returns false'. Refute it at one input. -/
def crochKnownWrong : ChangeSpec := { name := "crochKnown", fn := fun _ => fun
  | [] => { results := [.lit (.bool false)], args := [] }
  | _ => none }
def CrochKnownWrongFalsely : Prop := crochKnownRow.holds Try.pinned (OpenSpec.ofChange crochKnownWrong)

/-- 'tattinglaw21.CrochRow': WHATEVER THE INPUT: true; the input reads as it did. -/
def crochRowSpec : ChangeSpec := { name := "crochRow", fn := fun _ => fun
  | [d1, d2, d3] => { results := [.lit (.bool true)], args := [d1, d2, d3] }
  | _ => none }
def crochRowRow : OpenClaim := { program := "ytahfckadomemiaa", sum := "9b1ff98dd21c84f7462543da257d688694ecf8c19d1e12f985f0eb84bdd7f365", func := "tatting/tattinglaw21.CrochRow", spec := "crochRow", inPlace := ["math/bits.Add64"], recurses := true, apart := false }
def CrochRowSaid : Prop := crochRowRow.holds Try.pinned (OpenSpec.ofChange crochRowSpec)

/-- ITS FALSE NEIGHBOUR: 'it returns false'. Refute it at one input. -/
def crochRowWrong : ChangeSpec := { name := "crochRow", fn := fun _ => fun
  | [d1, d2, d3] => { results := [.lit (.bool false)], args := [d1, d2, d3] }
  | _ => none }
def CrochRowWrongFalsely : Prop := crochRowRow.holds Try.pinned (OpenSpec.ofChange crochRowWrong)

/-- 'tattinglaw21.CrochRows': WHATEVER THE INPUT: true; the input reads as it did. -/
def crochRowsSpec : ChangeSpec := { name := "crochRows", fn := fun _ => fun
  | [d1, d2] => { results := [.lit (.bool true)], args := [d1, d2] }
  | _ => none }
def crochRowsRow : OpenClaim := { program := "ytahfckadomemiaa", sum := "9b1ff98dd21c84f7462543da257d688694ecf8c19d1e12f985f0eb84bdd7f365", func := "tatting/tattinglaw21.CrochRows", spec := "crochRows", inPlace := ["math/bits.Add64"], recurses := true, apart := false }
def CrochRowsSaid : Prop := crochRowsRow.holds Try.pinned (OpenSpec.ofChange crochRowsSpec)

/-- ITS FALSE NEIGHBOUR: 'it returns false'. Refute it at one input. -/
def crochRowsWrong : ChangeSpec := { name := "crochRows", fn := fun _ => fun
  | [d1, d2] => { results := [.lit (.bool false)], args := [d1, d2] }
  | _ => none }
def CrochRowsWrongFalsely : Prop := crochRowsRow.holds Try.pinned (OpenSpec.ofChange crochRowsWrong)

/-- 'tattinglaw21.CrochLen': WHATEVER THE INPUT: true; the input reads as it did. -/
def crochLenSpec : ChangeSpec := { name := "crochLen", fn := fun _ => fun
  | [d1, d2] => { results := [.lit (.bool true)], args := [d1, d2] }
  | _ => none }
def crochLenRow : OpenClaim := { program := "ytahfckadomemiaa", sum := "9b1ff98dd21c84f7462543da257d688694ecf8c19d1e12f985f0eb84bdd7f365", func := "tatting/tattinglaw21.CrochLen", spec := "crochLen", inPlace := ["math/bits.Add64"], recurses := true, apart := false }
def CrochLenSaid : Prop := crochLenRow.holds Try.pinned (OpenSpec.ofChange crochLenSpec)

/-- ITS FALSE NEIGHBOUR: 'it returns false'. Refute it at one input. -/
def crochLenWrong : ChangeSpec := { name := "crochLen", fn := fun _ => fun
  | [d1, d2] => { results := [.lit (.bool false)], args := [d1, d2] }
  | _ => none }
def CrochLenWrongFalsely : Prop := crochLenRow.holds Try.pinned (OpenSpec.ofChange crochLenWrong)

/-- 'tattinglaw21.CrochMonotone': WHATEVER THE INPUT: true; the input reads as it did. -/
def crochMonotoneSpec : ChangeSpec := { name := "crochMonotone", fn := fun _ => fun
  | [d1, d2, d3] => { results := [.lit (.bool true)], args := [d1, d2, d3] }
  | _ => none }
def crochMonotoneRow : OpenClaim := { program := "ytahfckadomemiaa", sum := "9b1ff98dd21c84f7462543da257d688694ecf8c19d1e12f985f0eb84bdd7f365", func := "tatting/tattinglaw21.CrochMonotone", spec := "crochMonotone", inPlace := ["math/bits.Add64"], recurses := true, apart := false }
def CrochMonotoneSaid : Prop := crochMonotoneRow.holds Try.pinned (OpenSpec.ofChange crochMonotoneSpec)

/-- ITS FALSE NEIGHBOUR: 'it returns false'. Refute it at one input. -/
def crochMonotoneWrong : ChangeSpec := { name := "crochMonotone", fn := fun _ => fun
  | [d1, d2, d3] => { results := [.lit (.bool false)], args := [d1, d2, d3] }
  | _ => none }
def CrochMonotoneWrongFalsely : Prop := crochMonotoneRow.holds Try.pinned (OpenSpec.ofChange crochMonotoneWrong)

/-- 'tattinglaw21.CrochSame': WHATEVER THE INPUT: true; the input reads as it did. -/
def crochSameSpec : ChangeSpec := { name := "crochSame", fn := fun _ => fun
  | [d1, d2, d3, d4] => { results := [.lit (.bool true)], args := [d1, d2, d3, d4] }
  | _ => none }
def crochSameRow : OpenClaim := { program := "ytahfckadomemiaa", sum := "9b1ff98dd21c84f7462543da257d688694ecf8c19d1e12f985f0eb84bdd7f365", func := "tatting/tattinglaw21.CrochSame", spec := "crochSame", inPlace := ["math/bits.Add64", "math/bits.Sub64"], recurses := true, apart := false }
def CrochSameSaid : Prop := crochSameRow.holds Try.pinned (OpenSpec.ofChange crochSameSpec)

/-- ITS FALSE NEIGHBOUR: 'it returns false'. Refute it at one input. -/
def crochSameWrong : ChangeSpec := { name := "crochSame", fn := fun _ => fun
  | [d1, d2, d3, d4] => { results := [.lit (.bool false)], args := [d1, d2, d3, d4] }
  | _ => none }
def CrochSameWrongFalsely : Prop := crochSameRow.holds Try.pinned (OpenSpec.ofChange crochSameWrong)

/- THE SECOND FORM. 'bulk': how many values and letters a reading holds, each counted each time it is reached (what is shared counts as often as it is met; a slice's spare places count too). A statement '..UptoSaid' is the law's where the arguments, and the package variables that the reading takes, are together of bulk at most 1048576: NARROWER than '..Said'. Prove '..Said' where nothing that the law and all that it calls make is longer than what came in: it says more and counts as full. Else prove '..UptoSaid'. A law counts once. -/
mutual
def uptoBulk {H : Type} : DataW H → Nat
  | .lit (.string bytes) => bytes.length + 1
  | .lit _ => 1
  | .nil => 1
  | .ptr d => uptoBulk d + 1
  | .slice elems spare => uptoBulkAll elems + uptoBulkAll spare + 1
  | .agg parts => uptoBulkAll parts + 1
  | .iface _ d => uptoBulk d + 1
  | .map entries => uptoBulkEntries entries + 1
  | .held _ => 1
def uptoBulkAll {H : Type} : List (DataW H) → Nat
  | [] => 0
  | d :: r => uptoBulk d + uptoBulkAll r
def uptoBulkEntries {H : Type} : List (Lit × DataW H) → Nat
  | [] => 0
  | x :: r => uptoBulkEntry x + uptoBulkEntries r
def uptoBulkEntry {H : Type} : Lit × DataW H → Nat
  | (.string bytes, d) => bytes.length + uptoBulk d + 1
  | (_, d) => uptoBulk d + 1
 end
def uptoSmall : (H : Type) → List (DataW H) → Bool := fun _ ds => decide (uptoBulkAll ds ≤ 1048576)
def OpenSpec.upto (s : _root_.Go.ChangeSpec) : _root_.Go.OpenSpec := { _root_.Go.OpenSpec.ofChange s with cond := some uptoSmall }

/-- 'tattinglaw21.CrochKnown', WHERE WHAT IT READS IS OF BULK AT MOST 1048576: true; the input reads as it did. -/
def crochKnownUptoRow : OpenClaim := { program := "ytahfckadomemiaa", sum := "9b1ff98dd21c84f7462543da257d688694ecf8c19d1e12f985f0eb84bdd7f365", func := "tatting/tattinglaw21.CrochKnown", spec := "crochKnown", inPlace := ["math/bits.Add64"], recurses := true, apart := false, narrowed := true }
def CrochKnownUptoSaid : Prop := crochKnownUptoRow.holds Try.pinned (OpenSpec.upto crochKnownSpec)

/-- 'tattinglaw21.CrochRow', WHERE WHAT IT READS IS OF BULK AT MOST 1048576: true; the input reads as it did. -/
def crochRowUptoRow : OpenClaim := { program := "ytahfckadomemiaa", sum := "9b1ff98dd21c84f7462543da257d688694ecf8c19d1e12f985f0eb84bdd7f365", func := "tatting/tattinglaw21.CrochRow", spec := "crochRow", inPlace := ["math/bits.Add64"], recurses := true, apart := false, narrowed := true }
def CrochRowUptoSaid : Prop := crochRowUptoRow.holds Try.pinned (OpenSpec.upto crochRowSpec)

/-- 'tattinglaw21.CrochRows', WHERE WHAT IT READS IS OF BULK AT MOST 1048576: true; the input reads as it did. -/
def crochRowsUptoRow : OpenClaim := { program := "ytahfckadomemiaa", sum := "9b1ff98dd21c84f7462543da257d688694ecf8c19d1e12f985f0eb84bdd7f365", func := "tatting/tattinglaw21.CrochRows", spec := "crochRows", inPlace := ["math/bits.Add64"], recurses := true, apart := false, narrowed := true }
def CrochRowsUptoSaid : Prop := crochRowsUptoRow.holds Try.pinned (OpenSpec.upto crochRowsSpec)

/-- 'tattinglaw21.CrochLen', WHERE WHAT IT READS IS OF BULK AT MOST 1048576: true; the input reads as it did. -/
def crochLenUptoRow : OpenClaim := { program := "ytahfckadomemiaa", sum := "9b1ff98dd21c84f7462543da257d688694ecf8c19d1e12f985f0eb84bdd7f365", func := "tatting/tattinglaw21.CrochLen", spec := "crochLen", inPlace := ["math/bits.Add64"], recurses := true, apart := false, narrowed := true }
def CrochLenUptoSaid : Prop := crochLenUptoRow.holds Try.pinned (OpenSpec.upto crochLenSpec)

/-- 'tattinglaw21.CrochMonotone', WHERE WHAT IT READS IS OF BULK AT MOST 1048576: true; the input reads as it did. -/
def crochMonotoneUptoRow : OpenClaim := { program := "ytahfckadomemiaa", sum := "9b1ff98dd21c84f7462543da257d688694ecf8c19d1e12f985f0eb84bdd7f365", func := "tatting/tattinglaw21.CrochMonotone", spec := "crochMonotone", inPlace := ["math/bits.Add64"], recurses := true, apart := false, narrowed := true }
def CrochMonotoneUptoSaid : Prop := crochMonotoneUptoRow.holds Try.pinned (OpenSpec.upto crochMonotoneSpec)

/-- 'tattinglaw21.CrochSame', WHERE WHAT IT READS IS OF BULK AT MOST 1048576: true; the input reads as it did. -/
def crochSameUptoRow : OpenClaim := { program := "ytahfckadomemiaa", sum := "9b1ff98dd21c84f7462543da257d688694ecf8c19d1e12f985f0eb84bdd7f365", func := "tatting/tattinglaw21.CrochSame", spec := "crochSame", inPlace := ["math/bits.Add64", "math/bits.Sub64"], recurses := true, apart := false, narrowed := true }
def CrochSameUptoSaid : Prop := crochSameUptoRow.holds Try.pinned (OpenSpec.upto crochSameSpec)

end Rows
end Go.Proofs.Ytahfckadomemiaa
