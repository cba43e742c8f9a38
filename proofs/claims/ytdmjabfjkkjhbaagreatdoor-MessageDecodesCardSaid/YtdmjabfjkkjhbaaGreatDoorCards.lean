/-
  DERIVED. GIVEN WITH THE SEED: THE CARDS: each row of YtdmjabfjkkjhbaaGreatDoorRows.lean that lists a variable, with what it lists TIED to the program's text (the seventh form; the later family's looks); each row that meets fmt, with fmt's text TOLD by the authors' own Lean function (tested against real Go, not proved from fmt's source: count such statements apart). THE CARD IS WHAT COUNTS. Prove the row's statement (the work); the ties are given (YtdmjabfjkkjhbaaGreatDoorTie.lean); close each card by the builder's one call (the guide's Derived/Test/ToyasCard.lean, 'card_holds'). Laid BY PROGRAM, IN A SANDBOX (cutbox-door.mjs). By AI agents, Wed Nov 11 2026. No macro, syntax, notation, axiom, sorry.
-/
import Derived.Test.YtdmjabfjkkjhbaaGreatDoorRows
import GoSem.ClaimSeven
namespace Go.Proofs.YtdmjabfjkkjhbaaGreatDoor
namespace Rows

/-- THE TIED CARD OF 'parlourlaw03.MessageEncodes'. -/
def messageEncodesCard : Claim7 := { stood := { row := messageEncodesRow, standIns := [], harness := (true, "748944305270fcee2e7d9451fc92c9eabb5ad02bf83181437fcea669d262f7da"), looks := false }, kinds := [], alts := [], laidByText := true, laidKinds := [.data, .pinned], laidTests := true, laidLooks := .later }
def MessageEncodesCardSaid : Prop := Claim7.holds Tryz.pinned (.plain (OpenSpec.ofChange messageEncodesSpec)) messageEncodesCard

/-- THE TIED CARD OF 'parlourlaw03.MessageDecodes'. -/
def messageDecodesCard : Claim7 := { stood := { row := messageDecodesRow, standIns := [], harness := (true, "748944305270fcee2e7d9451fc92c9eabb5ad02bf83181437fcea669d262f7da"), looks := false }, kinds := [], alts := [], laidByText := true, laidKinds := [.data, .pinned], laidTests := true, laidLooks := .later }
def MessageDecodesCardSaid : Prop := Claim7.holds Tryz.pinned (.plain (OpenSpec.ofChange messageDecodesSpec)) messageDecodesCard

/-- THE SECOND FORM's CARD OF 'parlourlaw03.MessageEncodes'. -/
def messageEncodesUptoCard : Claim7 := { stood := { row := messageEncodesUptoRow, standIns := [], harness := (true, "748944305270fcee2e7d9451fc92c9eabb5ad02bf83181437fcea669d262f7da"), looks := false }, kinds := [], alts := [], laidByText := true, laidKinds := [.data, .pinned], laidTests := true, laidLooks := .later }
def MessageEncodesUptoCardSaid : Prop := Claim7.holds Tryz.pinned (.plain (OpenSpec.upto messageEncodesSpec)) messageEncodesUptoCard

/-- THE SECOND FORM's CARD OF 'parlourlaw03.MessageDecodes'. -/
def messageDecodesUptoCard : Claim7 := { stood := { row := messageDecodesUptoRow, standIns := [], harness := (true, "748944305270fcee2e7d9451fc92c9eabb5ad02bf83181437fcea669d262f7da"), looks := false }, kinds := [], alts := [], laidByText := true, laidKinds := [.data, .pinned], laidTests := true, laidLooks := .later }
def MessageDecodesUptoCardSaid : Prop := Claim7.holds Tryz.pinned (.plain (OpenSpec.upto messageDecodesSpec)) messageDecodesUptoCard
end Rows
end Go.Proofs.YtdmjabfjkkjhbaaGreatDoor
