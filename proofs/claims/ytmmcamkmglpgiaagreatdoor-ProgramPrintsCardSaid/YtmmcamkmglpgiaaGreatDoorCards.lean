/-
  DERIVED. GIVEN WITH THE SEED: THE CARDS: each row of YtmmcamkmglpgiaaGreatDoorRows.lean that lists a variable, with what it lists TIED to the program's text (the seventh form; the later family's looks); each row that meets fmt, with fmt's text TOLD by the authors' own Lean function (tested against real Go, not proved from fmt's source: count such statements apart). THE CARD IS WHAT COUNTS. Prove the row's statement (the work); the ties are given (YtmmcamkmglpgiaaGreatDoorTie.lean); close each card by the builder's one call (the guide's Derived/Test/ToyasCard.lean, 'card_holds'). Laid BY PROGRAM, IN A SANDBOX (cutbox-door.mjs). By AI agents, Wed Nov 11 2026. No macro, syntax, notation, axiom, sorry.
-/
import Derived.Test.YtmmcamkmglpgiaaGreatDoorRows
import GoSem.ClaimSeven
namespace Go.Proofs.YtmmcamkmglpgiaaGreatDoor
namespace Rows

/-- THE TIED CARD OF 'parlourlaw19.ProgramWork'. -/
def programWorkCard : Claim7 := { stood := { row := programWorkRow, standIns := [], harness := (true, "963c92daebc072e9a08c3c2864efaa5f89dbd20b29a454dcdb2a4d3b1905e5a1"), looks := true }, kinds := [], alts := [], laidByText := true, laidKinds := [.data, .data, .data, .data, .sentinel, .sentinel, .pinned], laidTests := true, laidLooks := .later }
def ProgramWorkCardSaid : Prop := Claim7.holds Tryz.pinned (.plain (OpenSpec.ofChange programWorkSpec)) programWorkCard

/-- THE TIED CARD OF 'parlourlaw19.ProgramPrints'. -/
def programPrintsCard : Claim7 := { stood := { row := programPrintsRow, standIns := [], harness := (true, "963c92daebc072e9a08c3c2864efaa5f89dbd20b29a454dcdb2a4d3b1905e5a1"), looks := true }, kinds := [], alts := [], laidByText := true, laidKinds := [.data, .data, .data, .data, .sentinel, .sentinel, .pinned], laidTests := true, laidLooks := .later }
def ProgramPrintsCardSaid : Prop := Claim7.holds Tryz.pinned (.plain (OpenSpec.ofChange programPrintsSpec)) programPrintsCard

/-- THE TIED CARD OF 'parlourlaw19.ProgramBack'. -/
def programBackCard : Claim7 := { stood := { row := programBackRow, standIns := [], harness := (true, "963c92daebc072e9a08c3c2864efaa5f89dbd20b29a454dcdb2a4d3b1905e5a1"), looks := true }, kinds := [], alts := [], laidByText := true, laidKinds := [.data, .data, .data, .data, .sentinel, .sentinel, .pinned], laidTests := true, laidLooks := .later }
def ProgramBackCardSaid : Prop := Claim7.holds Tryz.pinned (.plain (OpenSpec.ofChange programBackSpec)) programBackCard

/-- THE SECOND FORM's CARD OF 'parlourlaw19.ProgramWork'. -/
def programWorkUptoCard : Claim7 := { stood := { row := programWorkUptoRow, standIns := [], harness := (true, "963c92daebc072e9a08c3c2864efaa5f89dbd20b29a454dcdb2a4d3b1905e5a1"), looks := true }, kinds := [], alts := [], laidByText := true, laidKinds := [.data, .data, .data, .data, .sentinel, .sentinel, .pinned], laidTests := true, laidLooks := .later }
def ProgramWorkUptoCardSaid : Prop := Claim7.holds Tryz.pinned (.plain (OpenSpec.upto programWorkSpec)) programWorkUptoCard

/-- THE SECOND FORM's CARD OF 'parlourlaw19.ProgramPrints'. -/
def programPrintsUptoCard : Claim7 := { stood := { row := programPrintsUptoRow, standIns := [], harness := (true, "963c92daebc072e9a08c3c2864efaa5f89dbd20b29a454dcdb2a4d3b1905e5a1"), looks := true }, kinds := [], alts := [], laidByText := true, laidKinds := [.data, .data, .data, .data, .sentinel, .sentinel, .pinned], laidTests := true, laidLooks := .later }
def ProgramPrintsUptoCardSaid : Prop := Claim7.holds Tryz.pinned (.plain (OpenSpec.upto programPrintsSpec)) programPrintsUptoCard

/-- THE SECOND FORM's CARD OF 'parlourlaw19.ProgramBack'. -/
def programBackUptoCard : Claim7 := { stood := { row := programBackUptoRow, standIns := [], harness := (true, "963c92daebc072e9a08c3c2864efaa5f89dbd20b29a454dcdb2a4d3b1905e5a1"), looks := true }, kinds := [], alts := [], laidByText := true, laidKinds := [.data, .data, .data, .data, .sentinel, .sentinel, .pinned], laidTests := true, laidLooks := .later }
def ProgramBackUptoCardSaid : Prop := Claim7.holds Tryz.pinned (.plain (OpenSpec.upto programBackSpec)) programBackUptoCard
end Rows
end Go.Proofs.YtmmcamkmglpgiaaGreatDoor
