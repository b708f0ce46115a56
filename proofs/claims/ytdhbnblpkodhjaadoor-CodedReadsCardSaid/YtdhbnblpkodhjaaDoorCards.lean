/-
  DERIVED. GIVEN WITH THE SEED: THE CARDS: each row of YtdhbnblpkodhjaaDoorRows.lean that lists a variable, with what it lists TIED to the program's text (the seventh form; the later family's looks); each row that meets fmt, with fmt's text TOLD by the authors' own Lean function (tested against real Go, not proved from fmt's source: count such statements apart). THE CARD IS WHAT COUNTS. Prove the row's statement (the work); the ties are given (YtdhbnblpkodhjaaDoorTie.lean); close each card by the builder's one call (the guide's Derived/Test/ToyasCard.lean, 'card_holds'). Laid BY PROGRAM, IN A SANDBOX (cutbox-door.mjs). By AI agents, Wed Nov 11 2026. No macro, syntax, notation, axiom, sorry.
-/
import Derived.Test.YtdhbnblpkodhjaaDoorRows
import GoSem.ClaimSeven
namespace Go.Proofs.YtdhbnblpkodhjaaDoor
namespace Rows

/-- THE TIED CARD OF 'tattinglaw26.CodedKnown'. -/
def codedKnownCard : Claim7 := { stood := { row := codedKnownRow, standIns := [], harness := (true, "265e31a86c451368c5feeb3a4b3ad949548b5deaf29c21a769d38c36d82481e4"), looks := false }, kinds := [], alts := [], laidByText := true, laidKinds := [.data, .data, .data], laidTests := true, laidLooks := .later }
def CodedKnownCardSaid : Prop := Claim7.holds Tryd.pinned (.plain (OpenSpec.ofChange codedKnownSpec)) codedKnownCard

/-- THE TIED CARD OF 'tattinglaw26.CodedWrites'. -/
def codedWritesCard : Claim7 := { stood := { row := codedWritesRow, standIns := [], harness := (true, "265e31a86c451368c5feeb3a4b3ad949548b5deaf29c21a769d38c36d82481e4"), looks := false }, kinds := [], alts := [], laidByText := true, laidKinds := [.data, .data, .data], laidTests := true, laidLooks := .later }
def CodedWritesCardSaid : Prop := Claim7.holds Tryd.pinned (.plain (OpenSpec.ofChange codedWritesSpec)) codedWritesCard

/-- THE TIED CARD OF 'tattinglaw26.CodedReads'. -/
def codedReadsCard : Claim7 := { stood := { row := codedReadsRow, standIns := [], harness := (true, "265e31a86c451368c5feeb3a4b3ad949548b5deaf29c21a769d38c36d82481e4"), looks := false }, kinds := [], alts := [], laidByText := true, laidKinds := [.data, .data, .data], laidTests := true, laidLooks := .later }
def CodedReadsCardSaid : Prop := Claim7.holds Tryd.pinned (.plain (OpenSpec.ofChange codedReadsSpec)) codedReadsCard

/-- THE TIED CARD OF 'tattinglaw26.CodedBack'. -/
def codedBackCard : Claim7 := { stood := { row := codedBackRow, standIns := [], harness := (true, "265e31a86c451368c5feeb3a4b3ad949548b5deaf29c21a769d38c36d82481e4"), looks := false }, kinds := [], alts := [], laidByText := true, laidKinds := [.data, .data, .data], laidTests := true, laidLooks := .later }
def CodedBackCardSaid : Prop := Claim7.holds Tryd.pinned (.plain (OpenSpec.ofChange codedBackSpec)) codedBackCard

/-- THE TIED CARD OF 'tattinglaw26.CodedOnce'. -/
def codedOnceCard : Claim7 := { stood := { row := codedOnceRow, standIns := [], harness := (true, "265e31a86c451368c5feeb3a4b3ad949548b5deaf29c21a769d38c36d82481e4"), looks := false }, kinds := [], alts := [], laidByText := true, laidKinds := [.data, .data, .data], laidTests := true, laidLooks := .later }
def CodedOnceCardSaid : Prop := Claim7.holds Tryd.pinned (.plain (OpenSpec.ofChange codedOnceSpec)) codedOnceCard

/-- THE TIED CARD OF 'tattinglaw26.CodedCuts'. -/
def codedCutsCard : Claim7 := { stood := { row := codedCutsRow, standIns := [], harness := (true, "265e31a86c451368c5feeb3a4b3ad949548b5deaf29c21a769d38c36d82481e4"), looks := false }, kinds := [], alts := [], laidByText := true, laidKinds := [.data, .data, .data], laidTests := true, laidLooks := .later }
def CodedCutsCardSaid : Prop := Claim7.holds Tryd.pinned (.plain (OpenSpec.ofChange codedCutsSpec)) codedCutsCard

/-- THE SECOND FORM's CARD OF 'tattinglaw26.CodedKnown'. -/
def codedKnownUptoCard : Claim7 := { stood := { row := codedKnownUptoRow, standIns := [], harness := (true, "265e31a86c451368c5feeb3a4b3ad949548b5deaf29c21a769d38c36d82481e4"), looks := false }, kinds := [], alts := [], laidByText := true, laidKinds := [.data, .data, .data], laidTests := true, laidLooks := .later }
def CodedKnownUptoCardSaid : Prop := Claim7.holds Tryd.pinned (.plain (OpenSpec.upto codedKnownSpec)) codedKnownUptoCard

/-- THE SECOND FORM's CARD OF 'tattinglaw26.CodedWrites'. -/
def codedWritesUptoCard : Claim7 := { stood := { row := codedWritesUptoRow, standIns := [], harness := (true, "265e31a86c451368c5feeb3a4b3ad949548b5deaf29c21a769d38c36d82481e4"), looks := false }, kinds := [], alts := [], laidByText := true, laidKinds := [.data, .data, .data], laidTests := true, laidLooks := .later }
def CodedWritesUptoCardSaid : Prop := Claim7.holds Tryd.pinned (.plain (OpenSpec.upto codedWritesSpec)) codedWritesUptoCard

/-- THE SECOND FORM's CARD OF 'tattinglaw26.CodedReads'. -/
def codedReadsUptoCard : Claim7 := { stood := { row := codedReadsUptoRow, standIns := [], harness := (true, "265e31a86c451368c5feeb3a4b3ad949548b5deaf29c21a769d38c36d82481e4"), looks := false }, kinds := [], alts := [], laidByText := true, laidKinds := [.data, .data, .data], laidTests := true, laidLooks := .later }
def CodedReadsUptoCardSaid : Prop := Claim7.holds Tryd.pinned (.plain (OpenSpec.upto codedReadsSpec)) codedReadsUptoCard

/-- THE SECOND FORM's CARD OF 'tattinglaw26.CodedBack'. -/
def codedBackUptoCard : Claim7 := { stood := { row := codedBackUptoRow, standIns := [], harness := (true, "265e31a86c451368c5feeb3a4b3ad949548b5deaf29c21a769d38c36d82481e4"), looks := false }, kinds := [], alts := [], laidByText := true, laidKinds := [.data, .data, .data], laidTests := true, laidLooks := .later }
def CodedBackUptoCardSaid : Prop := Claim7.holds Tryd.pinned (.plain (OpenSpec.upto codedBackSpec)) codedBackUptoCard

/-- THE SECOND FORM's CARD OF 'tattinglaw26.CodedOnce'. -/
def codedOnceUptoCard : Claim7 := { stood := { row := codedOnceUptoRow, standIns := [], harness := (true, "265e31a86c451368c5feeb3a4b3ad949548b5deaf29c21a769d38c36d82481e4"), looks := false }, kinds := [], alts := [], laidByText := true, laidKinds := [.data, .data, .data], laidTests := true, laidLooks := .later }
def CodedOnceUptoCardSaid : Prop := Claim7.holds Tryd.pinned (.plain (OpenSpec.upto codedOnceSpec)) codedOnceUptoCard

/-- THE SECOND FORM's CARD OF 'tattinglaw26.CodedCuts'. -/
def codedCutsUptoCard : Claim7 := { stood := { row := codedCutsUptoRow, standIns := [], harness := (true, "265e31a86c451368c5feeb3a4b3ad949548b5deaf29c21a769d38c36d82481e4"), looks := false }, kinds := [], alts := [], laidByText := true, laidKinds := [.data, .data, .data], laidTests := true, laidLooks := .later }
def CodedCutsUptoCardSaid : Prop := Claim7.holds Tryd.pinned (.plain (OpenSpec.upto codedCutsSpec)) codedCutsUptoCard
end Rows
end Go.Proofs.YtdhbnblpkodhjaaDoor
