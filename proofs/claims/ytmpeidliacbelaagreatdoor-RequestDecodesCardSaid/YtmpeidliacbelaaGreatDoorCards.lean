/-
  DERIVED. GIVEN WITH THE SEED: THE CARDS: each row of YtmpeidliacbelaaGreatDoorRows.lean that lists a variable, with what it lists TIED to the program's text (the seventh form; the later family's looks); each row that meets fmt, with fmt's text TOLD by the authors' own Lean function (tested against real Go, not proved from fmt's source: count such statements apart). THE CARD IS WHAT COUNTS. Prove the row's statement (the work); the ties are given (YtmpeidliacbelaaGreatDoorTie.lean); close each card by the builder's one call (the guide's Derived/Test/ToyasCard.lean, 'card_holds'). Laid BY PROGRAM, IN A SANDBOX (cutbox-door.mjs). By AI agents, Wed Nov 11 2026. No macro, syntax, notation, axiom, sorry.
-/
import Derived.Test.YtmpeidliacbelaaGreatDoorRows
import GoSem.ClaimSeven
namespace Go.Proofs.YtmpeidliacbelaaGreatDoor
namespace Rows

/-- THE TIED CARD OF 'parlourlaw04.RequestDecodes'. -/
def requestDecodesCard : Claim7 := { stood := { row := requestDecodesRow, standIns := [], harness := (true, "354fa975cd925e7de3bd5655de4a4660f343580419ec47cdc9de02947a434fe0"), looks := false }, kinds := [], alts := [], laidByText := true, laidKinds := [.data, .pinned], laidTests := true, laidLooks := .later }
def RequestDecodesCardSaid : Prop := Claim7.holds Tryz.pinned (.plain (OpenSpec.ofChange requestDecodesSpec)) requestDecodesCard

/-- THE TIED CARD OF 'parlourlaw04.RequestEncodes'. -/
def requestEncodesCard : Claim7 := { stood := { row := requestEncodesRow, standIns := [], harness := (true, "354fa975cd925e7de3bd5655de4a4660f343580419ec47cdc9de02947a434fe0"), looks := false }, kinds := [], alts := [], laidByText := true, laidKinds := [.data, .pinned], laidTests := true, laidLooks := .later }
def RequestEncodesCardSaid : Prop := Claim7.holds Tryz.pinned (.plain (OpenSpec.ofChange requestEncodesSpec)) requestEncodesCard

/-- THE SECOND FORM's CARD OF 'parlourlaw04.RequestDecodes'. -/
def requestDecodesUptoCard : Claim7 := { stood := { row := requestDecodesUptoRow, standIns := [], harness := (true, "354fa975cd925e7de3bd5655de4a4660f343580419ec47cdc9de02947a434fe0"), looks := false }, kinds := [], alts := [], laidByText := true, laidKinds := [.data, .pinned], laidTests := true, laidLooks := .later }
def RequestDecodesUptoCardSaid : Prop := Claim7.holds Tryz.pinned (.plain (OpenSpec.upto requestDecodesSpec)) requestDecodesUptoCard

/-- THE SECOND FORM's CARD OF 'parlourlaw04.RequestEncodes'. -/
def requestEncodesUptoCard : Claim7 := { stood := { row := requestEncodesUptoRow, standIns := [], harness := (true, "354fa975cd925e7de3bd5655de4a4660f343580419ec47cdc9de02947a434fe0"), looks := false }, kinds := [], alts := [], laidByText := true, laidKinds := [.data, .pinned], laidTests := true, laidLooks := .later }
def RequestEncodesUptoCardSaid : Prop := Claim7.holds Tryz.pinned (.plain (OpenSpec.upto requestEncodesSpec)) requestEncodesUptoCard
end Rows
end Go.Proofs.YtmpeidliacbelaaGreatDoor
