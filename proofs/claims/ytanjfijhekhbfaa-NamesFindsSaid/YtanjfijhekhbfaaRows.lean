/-
  No cell of these rows narrows 'for every input' (looked for: loops, veiled, ifaces, maps, wideKeys, modest, calm, conditions, laid).
  DERIVED. THE GIVEN ROWS OF THIS SEAT. 6 by the template 'for every input the law returns true; each argument reads behind the call as it read before'; 0 by the template 'total and deterministic' (their statements: YtanjfijhekhbfaaTotals.lean).
  GIVEN WITH THE SEED: the statements are not yours to turn. If you find one false, say at which input.
  Laid BY PROGRAM, IN A SANDBOX (cutbox-rows.mjs): the forced cells as the released guide's own fill.sh prints them over the translation d918a552cdbd152a… (all of the seat's roots in one cut). By AI agents, Wed Nov 11 2026. No macro, syntax, notation, axiom, sorry.
-/
import Derived.Test.YtanjfijhekhbfaaChecked
import GoSem.Claim
import GoSem.ClaimJoined
import GoSem.ClaimMapViews
import Derived.JoinedTies
import Derived.KernelRfl
namespace Go.Proofs.Ytanjfijhekhbfaa
/- THE CELL 'sum', in the pinned program and in every row, IS THE sha256 OF THE DUMP (.gsa) THAT YtanjfijhekhbfaaProg.lean LOADS. Nothing in Lean hashes anything: it is a label: what it is worth is what the hold of that sum in a sandbox is worth. -/
noncomputable def Try.pinned : Pinned := { name := "ytanjfijhekhbfaa", sum := "d918a552cdbd152a18c063ea88876c7482ff722d1ebc663cb4bfb09aa1f25762", checked := Try.checked }
namespace Rows
def none {H : Type} : Left H := { results := [], args := [] }

/-- 'tattinglaw2.NamesKnown': WHATEVER THE INPUT: true; the input reads as it did. -/
def namesKnownSpec : ChangeSpec := { name := "namesKnown", fn := fun _ => fun
  | [] => { results := [.lit (.bool true)], args := [] }
  | _ => none }
def namesKnownRow : OpenClaim := { program := "ytanjfijhekhbfaa", sum := "d918a552cdbd152a18c063ea88876c7482ff722d1ebc663cb4bfb09aa1f25762", func := "tatting/tattinglaw2.NamesKnown", spec := "namesKnown", inPlace := ["internal/bytealg.Compare"], unfollowed := true, recurses := true, apart := false }
def NamesKnownSaid : Prop := namesKnownRow.holds Try.pinned (OpenSpec.ofChange namesKnownSpec)

/-- ITS FALSE NEIGHBOUR: 'it returns false'. Refute it at one input. -/
def namesKnownWrong : ChangeSpec := { name := "namesKnown", fn := fun _ => fun
  | [] => { results := [.lit (.bool false)], args := [] }
  | _ => none }
def NamesKnownWrongFalsely : Prop := namesKnownRow.holds Try.pinned (OpenSpec.ofChange namesKnownWrong)

/-- 'tattinglaw2.NamesSorts': WHATEVER THE INPUT: true; the input reads as it did. -/
def namesSortsSpec : ChangeSpec := { name := "namesSorts", fn := fun _ => fun
  | [d] => { results := [.lit (.bool true)], args := [d] }
  | _ => none }
def namesSortsRow : OpenClaim := { program := "ytanjfijhekhbfaa", sum := "d918a552cdbd152a18c063ea88876c7482ff722d1ebc663cb4bfb09aa1f25762", func := "tatting/tattinglaw2.NamesSorts", spec := "namesSorts", inPlace := ["internal/bytealg.Compare"], unfollowed := true, recurses := true, apart := false }
def NamesSortsSaid : Prop := namesSortsRow.holds Try.pinned (OpenSpec.ofChange namesSortsSpec)

/-- ITS FALSE NEIGHBOUR: 'it returns false'. Refute it at one input. -/
def namesSortsWrong : ChangeSpec := { name := "namesSorts", fn := fun _ => fun
  | [d] => { results := [.lit (.bool false)], args := [d] }
  | _ => none }
def NamesSortsWrongFalsely : Prop := namesSortsRow.holds Try.pinned (OpenSpec.ofChange namesSortsWrong)

/-- 'tattinglaw2.NamesFinds': WHATEVER THE INPUT: true; the input reads as it did. -/
def namesFindsSpec : ChangeSpec := { name := "namesFinds", fn := fun _ => fun
  | [d1, d2, d3] => { results := [.lit (.bool true)], args := [d1, d2, d3] }
  | _ => none }
def namesFindsRow : OpenClaim := { program := "ytanjfijhekhbfaa", sum := "d918a552cdbd152a18c063ea88876c7482ff722d1ebc663cb4bfb09aa1f25762", func := "tatting/tattinglaw2.NamesFinds", spec := "namesFinds", inPlace := ["internal/bytealg.Compare"], unfollowed := true, recurses := true, apart := false }
def NamesFindsSaid : Prop := namesFindsRow.holds Try.pinned (OpenSpec.ofChange namesFindsSpec)

/-- ITS FALSE NEIGHBOUR: 'it returns false'. Refute it at one input. -/
def namesFindsWrong : ChangeSpec := { name := "namesFinds", fn := fun _ => fun
  | [d1, d2, d3] => { results := [.lit (.bool false)], args := [d1, d2, d3] }
  | _ => none }
def NamesFindsWrongFalsely : Prop := namesFindsRow.holds Try.pinned (OpenSpec.ofChange namesFindsWrong)

/-- 'tattinglaw2.NamesTwo': WHATEVER THE INPUT: true; the input reads as it did. -/
def namesTwoSpec : ChangeSpec := { name := "namesTwo", fn := fun _ => fun
  | [d1, d2] => { results := [.lit (.bool true)], args := [d1, d2] }
  | _ => none }
def namesTwoRow : OpenClaim := { program := "ytanjfijhekhbfaa", sum := "d918a552cdbd152a18c063ea88876c7482ff722d1ebc663cb4bfb09aa1f25762", func := "tatting/tattinglaw2.NamesTwo", spec := "namesTwo", inPlace := ["internal/bytealg.Compare"], unfollowed := true, recurses := true, apart := false }
def NamesTwoSaid : Prop := namesTwoRow.holds Try.pinned (OpenSpec.ofChange namesTwoSpec)

/-- ITS FALSE NEIGHBOUR: 'it returns false'. Refute it at one input. -/
def namesTwoWrong : ChangeSpec := { name := "namesTwo", fn := fun _ => fun
  | [d1, d2] => { results := [.lit (.bool false)], args := [d1, d2] }
  | _ => none }
def NamesTwoWrongFalsely : Prop := namesTwoRow.holds Try.pinned (OpenSpec.ofChange namesTwoWrong)

/-- 'tattinglaw2.NamesOrder': WHATEVER THE INPUT: true; the input reads as it did. -/
def namesOrderSpec : ChangeSpec := { name := "namesOrder", fn := fun _ => fun
  | [d1, d2] => { results := [.lit (.bool true)], args := [d1, d2] }
  | _ => none }
def namesOrderRow : OpenClaim := { program := "ytanjfijhekhbfaa", sum := "d918a552cdbd152a18c063ea88876c7482ff722d1ebc663cb4bfb09aa1f25762", func := "tatting/tattinglaw2.NamesOrder", spec := "namesOrder", inPlace := ["internal/bytealg.Compare"], unfollowed := true, recurses := true, apart := false }
def NamesOrderSaid : Prop := namesOrderRow.holds Try.pinned (OpenSpec.ofChange namesOrderSpec)

/-- ITS FALSE NEIGHBOUR: 'it returns false'. Refute it at one input. -/
def namesOrderWrong : ChangeSpec := { name := "namesOrder", fn := fun _ => fun
  | [d1, d2] => { results := [.lit (.bool false)], args := [d1, d2] }
  | _ => none }
def NamesOrderWrongFalsely : Prop := namesOrderRow.holds Try.pinned (OpenSpec.ofChange namesOrderWrong)

/-- 'tattinglaw2.NamesDense': WHATEVER THE INPUT: true; the input reads as it did. -/
def namesDenseSpec : ChangeSpec := { name := "namesDense", fn := fun _ => fun
  | [d1, d2] => { results := [.lit (.bool true)], args := [d1, d2] }
  | _ => none }
def namesDenseRow : OpenClaim := { program := "ytanjfijhekhbfaa", sum := "d918a552cdbd152a18c063ea88876c7482ff722d1ebc663cb4bfb09aa1f25762", func := "tatting/tattinglaw2.NamesDense", spec := "namesDense", inPlace := ["internal/bytealg.Compare"], unfollowed := true, recurses := true, apart := false }
def NamesDenseSaid : Prop := namesDenseRow.holds Try.pinned (OpenSpec.ofChange namesDenseSpec)

/-- ITS FALSE NEIGHBOUR: 'it returns false'. Refute it at one input. -/
def namesDenseWrong : ChangeSpec := { name := "namesDense", fn := fun _ => fun
  | [d1, d2] => { results := [.lit (.bool false)], args := [d1, d2] }
  | _ => none }
def NamesDenseWrongFalsely : Prop := namesDenseRow.holds Try.pinned (OpenSpec.ofChange namesDenseWrong)

/- THE SECOND FORM. 'bulk': how many values and letters a reading holds, each counted each time it is reached (what is shared counts as often as it is met; a slice's spare places count too). A statement '..UptoSaid' is the law's where the arguments, and the package variables that the reading takes, are together of bulk at most 1048576: NARROWER than '..Said'. Prove '..Said' where nothing that the law and all that it calls make is longer than what came in: it says more and counts as full. Else prove '..UptoSaid'. A law counts once. -/
mutual
def uptoBulk {H : Type} : DataW H → Nat
  | .lit (.string bytes) => bytes.length + 1
  | .lit _ => 1
  | .nil => 1
  | .ptr d => uptoBulk d + 1
  | .slice elems spare => uptoBulkAll elems + uptoBulkAll spare + 1
  | .agg parts => uptoBulkAll parts + 1
  | .iface _ d => uptoBulk d + 1
  | .map entries => uptoBulkEntries entries + 1
  | .held _ => 1
def uptoBulkAll {H : Type} : List (DataW H) → Nat
  | [] => 0
  | d :: r => uptoBulk d + uptoBulkAll r
def uptoBulkEntries {H : Type} : List (Lit × DataW H) → Nat
  | [] => 0
  | x :: r => uptoBulkEntry x + uptoBulkEntries r
def uptoBulkEntry {H : Type} : Lit × DataW H → Nat
  | (.string bytes, d) => bytes.length + uptoBulk d + 1
  | (_, d) => uptoBulk d + 1
 end
def uptoSmall : (H : Type) → List (DataW H) → Bool := fun _ ds => decide (uptoBulkAll ds ≤ 1048576)
def OpenSpec.upto (s : _root_.Go.ChangeSpec) : _root_.Go.OpenSpec := { _root_.Go.OpenSpec.ofChange s with cond := some uptoSmall }

/-- 'tattinglaw2.NamesKnown', WHERE WHAT IT READS IS OF BULK AT MOST 1048576: true; the input reads as it did. -/
def namesKnownUptoRow : OpenClaim := { program := "ytanjfijhekhbfaa", sum := "d918a552cdbd152a18c063ea88876c7482ff722d1ebc663cb4bfb09aa1f25762", func := "tatting/tattinglaw2.NamesKnown", spec := "namesKnown", inPlace := ["internal/bytealg.Compare"], unfollowed := true, recurses := true, apart := false, narrowed := true }
def NamesKnownUptoSaid : Prop := namesKnownUptoRow.holds Try.pinned (OpenSpec.upto namesKnownSpec)

/-- 'tattinglaw2.NamesSorts', WHERE WHAT IT READS IS OF BULK AT MOST 1048576: true; the input reads as it did. -/
def namesSortsUptoRow : OpenClaim := { program := "ytanjfijhekhbfaa", sum := "d918a552cdbd152a18c063ea88876c7482ff722d1ebc663cb4bfb09aa1f25762", func := "tatting/tattinglaw2.NamesSorts", spec := "namesSorts", inPlace := ["internal/bytealg.Compare"], unfollowed := true, recurses := true, apart := false, narrowed := true }
def NamesSortsUptoSaid : Prop := namesSortsUptoRow.holds Try.pinned (OpenSpec.upto namesSortsSpec)

/-- 'tattinglaw2.NamesFinds', WHERE WHAT IT READS IS OF BULK AT MOST 1048576: true; the input reads as it did. -/
def namesFindsUptoRow : OpenClaim := { program := "ytanjfijhekhbfaa", sum := "d918a552cdbd152a18c063ea88876c7482ff722d1ebc663cb4bfb09aa1f25762", func := "tatting/tattinglaw2.NamesFinds", spec := "namesFinds", inPlace := ["internal/bytealg.Compare"], unfollowed := true, recurses := true, apart := false, narrowed := true }
def NamesFindsUptoSaid : Prop := namesFindsUptoRow.holds Try.pinned (OpenSpec.upto namesFindsSpec)

/-- 'tattinglaw2.NamesTwo', WHERE WHAT IT READS IS OF BULK AT MOST 1048576: true; the input reads as it did. -/
def namesTwoUptoRow : OpenClaim := { program := "ytanjfijhekhbfaa", sum := "d918a552cdbd152a18c063ea88876c7482ff722d1ebc663cb4bfb09aa1f25762", func := "tatting/tattinglaw2.NamesTwo", spec := "namesTwo", inPlace := ["internal/bytealg.Compare"], unfollowed := true, recurses := true, apart := false, narrowed := true }
def NamesTwoUptoSaid : Prop := namesTwoUptoRow.holds Try.pinned (OpenSpec.upto namesTwoSpec)

/-- 'tattinglaw2.NamesOrder', WHERE WHAT IT READS IS OF BULK AT MOST 1048576: true; the input reads as it did. -/
def namesOrderUptoRow : OpenClaim := { program := "ytanjfijhekhbfaa", sum := "d918a552cdbd152a18c063ea88876c7482ff722d1ebc663cb4bfb09aa1f25762", func := "tatting/tattinglaw2.NamesOrder", spec := "namesOrder", inPlace := ["internal/bytealg.Compare"], unfollowed := true, recurses := true, apart := false, narrowed := true }
def NamesOrderUptoSaid : Prop := namesOrderUptoRow.holds Try.pinned (OpenSpec.upto namesOrderSpec)

/-- 'tattinglaw2.NamesDense', WHERE WHAT IT READS IS OF BULK AT MOST 1048576: true; the input reads as it did. -/
def namesDenseUptoRow : OpenClaim := { program := "ytanjfijhekhbfaa", sum := "d918a552cdbd152a18c063ea88876c7482ff722d1ebc663cb4bfb09aa1f25762", func := "tatting/tattinglaw2.NamesDense", spec := "namesDense", inPlace := ["internal/bytealg.Compare"], unfollowed := true, recurses := true, apart := false, narrowed := true }
def NamesDenseUptoSaid : Prop := namesDenseUptoRow.holds Try.pinned (OpenSpec.upto namesDenseSpec)

end Rows
end Go.Proofs.Ytanjfijhekhbfaa
