/-
  DERIVED. GIVEN WITH THE SEED: THE CARDS: each row of YtdmmcjefpbbceaaDoorRows.lean that lists a variable, with what it lists TIED to the program's text (the seventh form; the later family's looks); each row that meets fmt, with fmt's text TOLD by the authors' own Lean function (tested against real Go, not proved from fmt's source: count such statements apart). THE CARD IS WHAT COUNTS. Prove the row's statement (the work); the ties are given (YtdmmcjefpbbceaaDoorTie.lean); close each card by the builder's one call (the guide's Derived/Test/ToyasCard.lean, 'card_holds'). Laid BY PROGRAM, IN A SANDBOX (cutbox-door.mjs). By AI agents, Wed Nov 11 2026. No macro, syntax, notation, axiom, sorry.
-/
import Derived.Test.YtdmmcjefpbbceaaDoorRows
import GoSem.ClaimSeven
namespace Go.Proofs.YtdmmcjefpbbceaaDoor
namespace Rows

/-- THE TIED CARD OF 'tattinglaw30.LineKnown'. -/
def lineKnownCard : Claim7 := { stood := { row := lineKnownRow, standIns := [], harness := (true, "c2c7bf4527a8e408dc4c702418d1cc585ef267c6c64bec1bfd058e44bfc7b25c"), looks := false }, kinds := [], alts := [], laidByText := true, laidKinds := [.data, .data, .data, .data, .pinned], laidTests := true, laidLooks := .later }
def LineKnownCardSaid : Prop := Claim7.holds Tryd.pinned (.plain (OpenSpec.ofChange lineKnownSpec)) lineKnownCard

/-- THE TIED CARD OF 'tattinglaw30.LineReads'. -/
def lineReadsCard : Claim7 := { stood := { row := lineReadsRow, standIns := [], harness := (true, "c2c7bf4527a8e408dc4c702418d1cc585ef267c6c64bec1bfd058e44bfc7b25c"), looks := false }, kinds := [], alts := [], laidByText := true, laidKinds := [.data, .data, .data, .data, .pinned], laidTests := true, laidLooks := .later }
def LineReadsCardSaid : Prop := Claim7.holds Tryd.pinned (.plain (OpenSpec.ofChange lineReadsSpec)) lineReadsCard

/-- THE TIED CARD OF 'tattinglaw30.LineWrites'. -/
def lineWritesCard : Claim7 := { stood := { row := lineWritesRow, standIns := [], harness := (true, "c2c7bf4527a8e408dc4c702418d1cc585ef267c6c64bec1bfd058e44bfc7b25c"), looks := false }, kinds := [], alts := [], laidByText := true, laidKinds := [.data, .data, .data, .data, .pinned], laidTests := true, laidLooks := .later }
def LineWritesCardSaid : Prop := Claim7.holds Tryd.pinned (.plain (OpenSpec.ofChange lineWritesSpec)) lineWritesCard

/-- THE TIED CARD OF 'tattinglaw30.LineBack'. -/
def lineBackCard : Claim7 := { stood := { row := lineBackRow, standIns := [], harness := (true, "c2c7bf4527a8e408dc4c702418d1cc585ef267c6c64bec1bfd058e44bfc7b25c"), looks := false }, kinds := [], alts := [], laidByText := true, laidKinds := [.data, .data, .data, .data, .pinned], laidTests := true, laidLooks := .later }
def LineBackCardSaid : Prop := Claim7.holds Tryd.pinned (.plain (OpenSpec.ofChange lineBackSpec)) lineBackCard

/-- THE TIED CARD OF 'tattinglaw30.LineEnds'. -/
def lineEndsCard : Claim7 := { stood := { row := lineEndsRow, standIns := [], harness := (true, "c2c7bf4527a8e408dc4c702418d1cc585ef267c6c64bec1bfd058e44bfc7b25c"), looks := false }, kinds := [], alts := [], laidByText := true, laidKinds := [.data, .data, .data, .data, .pinned], laidTests := true, laidLooks := .later }
def LineEndsCardSaid : Prop := Claim7.holds Tryd.pinned (.plain (OpenSpec.ofChange lineEndsSpec)) lineEndsCard

/-- THE SECOND FORM's CARD OF 'tattinglaw30.LineKnown'. -/
def lineKnownUptoCard : Claim7 := { stood := { row := lineKnownUptoRow, standIns := [], harness := (true, "c2c7bf4527a8e408dc4c702418d1cc585ef267c6c64bec1bfd058e44bfc7b25c"), looks := false }, kinds := [], alts := [], laidByText := true, laidKinds := [.data, .data, .data, .data, .pinned], laidTests := true, laidLooks := .later }
def LineKnownUptoCardSaid : Prop := Claim7.holds Tryd.pinned (.plain (OpenSpec.upto lineKnownSpec)) lineKnownUptoCard

/-- THE SECOND FORM's CARD OF 'tattinglaw30.LineReads'. -/
def lineReadsUptoCard : Claim7 := { stood := { row := lineReadsUptoRow, standIns := [], harness := (true, "c2c7bf4527a8e408dc4c702418d1cc585ef267c6c64bec1bfd058e44bfc7b25c"), looks := false }, kinds := [], alts := [], laidByText := true, laidKinds := [.data, .data, .data, .data, .pinned], laidTests := true, laidLooks := .later }
def LineReadsUptoCardSaid : Prop := Claim7.holds Tryd.pinned (.plain (OpenSpec.upto lineReadsSpec)) lineReadsUptoCard

/-- THE SECOND FORM's CARD OF 'tattinglaw30.LineWrites'. -/
def lineWritesUptoCard : Claim7 := { stood := { row := lineWritesUptoRow, standIns := [], harness := (true, "c2c7bf4527a8e408dc4c702418d1cc585ef267c6c64bec1bfd058e44bfc7b25c"), looks := false }, kinds := [], alts := [], laidByText := true, laidKinds := [.data, .data, .data, .data, .pinned], laidTests := true, laidLooks := .later }
def LineWritesUptoCardSaid : Prop := Claim7.holds Tryd.pinned (.plain (OpenSpec.upto lineWritesSpec)) lineWritesUptoCard

/-- THE SECOND FORM's CARD OF 'tattinglaw30.LineBack'. -/
def lineBackUptoCard : Claim7 := { stood := { row := lineBackUptoRow, standIns := [], harness := (true, "c2c7bf4527a8e408dc4c702418d1cc585ef267c6c64bec1bfd058e44bfc7b25c"), looks := false }, kinds := [], alts := [], laidByText := true, laidKinds := [.data, .data, .data, .data, .pinned], laidTests := true, laidLooks := .later }
def LineBackUptoCardSaid : Prop := Claim7.holds Tryd.pinned (.plain (OpenSpec.upto lineBackSpec)) lineBackUptoCard

/-- THE SECOND FORM's CARD OF 'tattinglaw30.LineEnds'. -/
def lineEndsUptoCard : Claim7 := { stood := { row := lineEndsUptoRow, standIns := [], harness := (true, "c2c7bf4527a8e408dc4c702418d1cc585ef267c6c64bec1bfd058e44bfc7b25c"), looks := false }, kinds := [], alts := [], laidByText := true, laidKinds := [.data, .data, .data, .data, .pinned], laidTests := true, laidLooks := .later }
def LineEndsUptoCardSaid : Prop := Claim7.holds Tryd.pinned (.plain (OpenSpec.upto lineEndsSpec)) lineEndsUptoCard
end Rows
end Go.Proofs.YtdmmcjefpbbceaaDoor
