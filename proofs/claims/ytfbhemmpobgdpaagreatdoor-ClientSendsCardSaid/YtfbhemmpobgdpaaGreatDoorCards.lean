/-
  DERIVED. GIVEN WITH THE SEED: THE CARDS: each row of YtfbhemmpobgdpaaGreatDoorRows.lean that lists a variable, with what it lists TIED to the program's text (the seventh form; the later family's looks); each row that meets fmt, with fmt's text TOLD by the authors' own Lean function (tested against real Go, not proved from fmt's source: count such statements apart). THE CARD IS WHAT COUNTS. Prove the row's statement (the work); the ties are given (YtfbhemmpobgdpaaGreatDoorTie.lean); close each card by the builder's one call (the guide's Derived/Test/ToyasCard.lean, 'card_holds'). Laid BY PROGRAM, IN A SANDBOX (cutbox-door.mjs). By AI agents, Wed Nov 11 2026. No macro, syntax, notation, axiom, sorry.
-/
import Derived.Test.YtfbhemmpobgdpaaGreatDoorRows
import GoSem.ClaimSeven
namespace Go.Proofs.YtfbhemmpobgdpaaGreatDoor
namespace Rows

/-- THE TIED CARD OF 'parlourlaw30.ClientSends'. -/
def clientSendsCard : Claim7 := { stood := { row := clientSendsRow, standIns := [], harness := (true, "066d62dbcceaf92935b35b4fadf9c3c6042742bace7961bf63176e5c75f42020"), looks := false }, kinds := [], alts := [], laidByText := true, laidKinds := [.data, .pinned], laidTests := true, laidLooks := .later }
def ClientSendsCardSaid : Prop := Claim7.holds Tryz.pinned (.plain (OpenSpec.ofChange clientSendsSpec)) clientSendsCard

/-- THE TIED CARD OF 'parlourlaw30.ClientPlays'. -/
def clientPlaysCard : Claim7 := { stood := { row := clientPlaysRow, standIns := [], harness := (true, "066d62dbcceaf92935b35b4fadf9c3c6042742bace7961bf63176e5c75f42020"), looks := false }, kinds := [], alts := [], laidByText := true, laidKinds := [.data, .pinned], laidTests := true, laidLooks := .later }
def ClientPlaysCardSaid : Prop := Claim7.holds Tryz.pinned (.plain (OpenSpec.ofChange clientPlaysSpec)) clientPlaysCard

/-- THE SECOND FORM's CARD OF 'parlourlaw30.ClientSends'. -/
def clientSendsUptoCard : Claim7 := { stood := { row := clientSendsUptoRow, standIns := [], harness := (true, "066d62dbcceaf92935b35b4fadf9c3c6042742bace7961bf63176e5c75f42020"), looks := false }, kinds := [], alts := [], laidByText := true, laidKinds := [.data, .pinned], laidTests := true, laidLooks := .later }
def ClientSendsUptoCardSaid : Prop := Claim7.holds Tryz.pinned (.plain (OpenSpec.upto clientSendsSpec)) clientSendsUptoCard

/-- THE SECOND FORM's CARD OF 'parlourlaw30.ClientPlays'. -/
def clientPlaysUptoCard : Claim7 := { stood := { row := clientPlaysUptoRow, standIns := [], harness := (true, "066d62dbcceaf92935b35b4fadf9c3c6042742bace7961bf63176e5c75f42020"), looks := false }, kinds := [], alts := [], laidByText := true, laidKinds := [.data, .pinned], laidTests := true, laidLooks := .later }
def ClientPlaysUptoCardSaid : Prop := Claim7.holds Tryz.pinned (.plain (OpenSpec.upto clientPlaysSpec)) clientPlaysUptoCard
end Rows
end Go.Proofs.YtfbhemmpobgdpaaGreatDoor
