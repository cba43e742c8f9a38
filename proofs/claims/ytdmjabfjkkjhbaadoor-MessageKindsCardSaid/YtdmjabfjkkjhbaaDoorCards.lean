/-
  DERIVED. GIVEN WITH THE SEED: THE CARDS: each row of YtdmjabfjkkjhbaaDoorRows.lean that lists a variable, with what it lists TIED to the program's text (the seventh form; the later family's looks); each row that meets fmt, with fmt's text TOLD by the authors' own Lean function (tested against real Go, not proved from fmt's source: count such statements apart). THE CARD IS WHAT COUNTS. Prove the row's statement (the work); the ties are given (YtdmjabfjkkjhbaaDoorTie.lean); close each card by the builder's one call (the guide's Derived/Test/ToyasCard.lean, 'card_holds'). Laid BY PROGRAM, IN A SANDBOX (cutbox-door.mjs). By AI agents, Wed Nov 11 2026. No macro, syntax, notation, axiom, sorry.
-/
import Derived.Test.YtdmjabfjkkjhbaaDoorRows
import GoSem.ClaimSeven
namespace Go.Proofs.YtdmjabfjkkjhbaaDoor
namespace Rows

/-- THE TIED CARD OF 'parlourlaw01.OctetReads'. -/
def octetReadsCard : Claim7 := { stood := { row := octetReadsRow, standIns := [], harness := (true, "9ca5a9288dacc4b7a82c1f30f08b8fed368f3e6485138822b6e4b460b2353955"), looks := false }, kinds := [], alts := [], laidByText := true, laidKinds := [.data, .pinned], laidTests := true, laidLooks := .later }
def OctetReadsCardSaid : Prop := Claim7.holds Tryd.pinned (.plain (OpenSpec.ofChange octetReadsSpec)) octetReadsCard

/-- THE TIED CARD OF 'parlourlaw01.OctetJoins'. -/
def octetJoinsCard : Claim7 := { stood := { row := octetJoinsRow, standIns := [], harness := (true, "9ca5a9288dacc4b7a82c1f30f08b8fed368f3e6485138822b6e4b460b2353955"), looks := false }, kinds := [], alts := [], laidByText := true, laidKinds := [.data, .pinned], laidTests := true, laidLooks := .later }
def OctetJoinsCardSaid : Prop := Claim7.holds Tryd.pinned (.plain (OpenSpec.ofChange octetJoinsSpec)) octetJoinsCard

/-- THE TIED CARD OF 'parlourlaw01.OctetWrites'. -/
def octetWritesCard : Claim7 := { stood := { row := octetWritesRow, standIns := [], harness := (true, "9ca5a9288dacc4b7a82c1f30f08b8fed368f3e6485138822b6e4b460b2353955"), looks := false }, kinds := [], alts := [], laidByText := true, laidKinds := [.data, .pinned], laidTests := true, laidLooks := .later }
def OctetWritesCardSaid : Prop := Claim7.holds Tryd.pinned (.plain (OpenSpec.ofChange octetWritesSpec)) octetWritesCard

/-- THE TIED CARD OF 'parlourlaw01.OctetBack'. -/
def octetBackCard : Claim7 := { stood := { row := octetBackRow, standIns := [], harness := (true, "9ca5a9288dacc4b7a82c1f30f08b8fed368f3e6485138822b6e4b460b2353955"), looks := false }, kinds := [], alts := [], laidByText := true, laidKinds := [.data, .pinned], laidTests := true, laidLooks := .later }
def OctetBackCardSaid : Prop := Claim7.holds Tryd.pinned (.plain (OpenSpec.ofChange octetBackSpec)) octetBackCard

/-- THE TIED CARD OF 'parlourlaw01.OctetAgain'. -/
def octetAgainCard : Claim7 := { stood := { row := octetAgainRow, standIns := [], harness := (true, "9ca5a9288dacc4b7a82c1f30f08b8fed368f3e6485138822b6e4b460b2353955"), looks := false }, kinds := [], alts := [], laidByText := true, laidKinds := [.data, .pinned], laidTests := true, laidLooks := .later }
def OctetAgainCardSaid : Prop := Claim7.holds Tryd.pinned (.plain (OpenSpec.ofChange octetAgainSpec)) octetAgainCard

/-- THE TIED CARD OF 'parlourlaw03.MessageBack'. -/
def messageBackCard : Claim7 := { stood := { row := messageBackRow, standIns := [], harness := (true, "9ca5a9288dacc4b7a82c1f30f08b8fed368f3e6485138822b6e4b460b2353955"), looks := false }, kinds := [], alts := [], laidByText := true, laidKinds := [.data, .pinned], laidTests := true, laidLooks := .later }
def MessageBackCardSaid : Prop := Claim7.holds Tryd.pinned (.plain (OpenSpec.ofChange messageBackSpec)) messageBackCard

/-- THE TIED CARD OF 'parlourlaw03.MessageAgain'. -/
def messageAgainCard : Claim7 := { stood := { row := messageAgainRow, standIns := [], harness := (true, "9ca5a9288dacc4b7a82c1f30f08b8fed368f3e6485138822b6e4b460b2353955"), looks := false }, kinds := [], alts := [], laidByText := true, laidKinds := [.data, .pinned], laidTests := true, laidLooks := .later }
def MessageAgainCardSaid : Prop := Claim7.holds Tryd.pinned (.plain (OpenSpec.ofChange messageAgainSpec)) messageAgainCard

/-- THE TIED CARD OF 'parlourlaw03.MessageKinds'. -/
def messageKindsCard : Claim7 := { stood := { row := messageKindsRow, standIns := [], harness := (true, "9ca5a9288dacc4b7a82c1f30f08b8fed368f3e6485138822b6e4b460b2353955"), looks := false }, kinds := [], alts := [], laidByText := true, laidKinds := [.data, .pinned], laidTests := true, laidLooks := .later }
def MessageKindsCardSaid : Prop := Claim7.holds Tryd.pinned (.plain (OpenSpec.ofChange messageKindsSpec)) messageKindsCard

/-- THE SECOND FORM's CARD OF 'parlourlaw01.OctetReads'. -/
def octetReadsUptoCard : Claim7 := { stood := { row := octetReadsUptoRow, standIns := [], harness := (true, "9ca5a9288dacc4b7a82c1f30f08b8fed368f3e6485138822b6e4b460b2353955"), looks := false }, kinds := [], alts := [], laidByText := true, laidKinds := [.data, .pinned], laidTests := true, laidLooks := .later }
def OctetReadsUptoCardSaid : Prop := Claim7.holds Tryd.pinned (.plain (OpenSpec.upto octetReadsSpec)) octetReadsUptoCard

/-- THE SECOND FORM's CARD OF 'parlourlaw01.OctetJoins'. -/
def octetJoinsUptoCard : Claim7 := { stood := { row := octetJoinsUptoRow, standIns := [], harness := (true, "9ca5a9288dacc4b7a82c1f30f08b8fed368f3e6485138822b6e4b460b2353955"), looks := false }, kinds := [], alts := [], laidByText := true, laidKinds := [.data, .pinned], laidTests := true, laidLooks := .later }
def OctetJoinsUptoCardSaid : Prop := Claim7.holds Tryd.pinned (.plain (OpenSpec.upto octetJoinsSpec)) octetJoinsUptoCard

/-- THE SECOND FORM's CARD OF 'parlourlaw01.OctetWrites'. -/
def octetWritesUptoCard : Claim7 := { stood := { row := octetWritesUptoRow, standIns := [], harness := (true, "9ca5a9288dacc4b7a82c1f30f08b8fed368f3e6485138822b6e4b460b2353955"), looks := false }, kinds := [], alts := [], laidByText := true, laidKinds := [.data, .pinned], laidTests := true, laidLooks := .later }
def OctetWritesUptoCardSaid : Prop := Claim7.holds Tryd.pinned (.plain (OpenSpec.upto octetWritesSpec)) octetWritesUptoCard

/-- THE SECOND FORM's CARD OF 'parlourlaw01.OctetBack'. -/
def octetBackUptoCard : Claim7 := { stood := { row := octetBackUptoRow, standIns := [], harness := (true, "9ca5a9288dacc4b7a82c1f30f08b8fed368f3e6485138822b6e4b460b2353955"), looks := false }, kinds := [], alts := [], laidByText := true, laidKinds := [.data, .pinned], laidTests := true, laidLooks := .later }
def OctetBackUptoCardSaid : Prop := Claim7.holds Tryd.pinned (.plain (OpenSpec.upto octetBackSpec)) octetBackUptoCard

/-- THE SECOND FORM's CARD OF 'parlourlaw01.OctetAgain'. -/
def octetAgainUptoCard : Claim7 := { stood := { row := octetAgainUptoRow, standIns := [], harness := (true, "9ca5a9288dacc4b7a82c1f30f08b8fed368f3e6485138822b6e4b460b2353955"), looks := false }, kinds := [], alts := [], laidByText := true, laidKinds := [.data, .pinned], laidTests := true, laidLooks := .later }
def OctetAgainUptoCardSaid : Prop := Claim7.holds Tryd.pinned (.plain (OpenSpec.upto octetAgainSpec)) octetAgainUptoCard

/-- THE SECOND FORM's CARD OF 'parlourlaw03.MessageBack'. -/
def messageBackUptoCard : Claim7 := { stood := { row := messageBackUptoRow, standIns := [], harness := (true, "9ca5a9288dacc4b7a82c1f30f08b8fed368f3e6485138822b6e4b460b2353955"), looks := false }, kinds := [], alts := [], laidByText := true, laidKinds := [.data, .pinned], laidTests := true, laidLooks := .later }
def MessageBackUptoCardSaid : Prop := Claim7.holds Tryd.pinned (.plain (OpenSpec.upto messageBackSpec)) messageBackUptoCard

/-- THE SECOND FORM's CARD OF 'parlourlaw03.MessageAgain'. -/
def messageAgainUptoCard : Claim7 := { stood := { row := messageAgainUptoRow, standIns := [], harness := (true, "9ca5a9288dacc4b7a82c1f30f08b8fed368f3e6485138822b6e4b460b2353955"), looks := false }, kinds := [], alts := [], laidByText := true, laidKinds := [.data, .pinned], laidTests := true, laidLooks := .later }
def MessageAgainUptoCardSaid : Prop := Claim7.holds Tryd.pinned (.plain (OpenSpec.upto messageAgainSpec)) messageAgainUptoCard

/-- THE SECOND FORM's CARD OF 'parlourlaw03.MessageKinds'. -/
def messageKindsUptoCard : Claim7 := { stood := { row := messageKindsUptoRow, standIns := [], harness := (true, "9ca5a9288dacc4b7a82c1f30f08b8fed368f3e6485138822b6e4b460b2353955"), looks := false }, kinds := [], alts := [], laidByText := true, laidKinds := [.data, .pinned], laidTests := true, laidLooks := .later }
def MessageKindsUptoCardSaid : Prop := Claim7.holds Tryd.pinned (.plain (OpenSpec.upto messageKindsSpec)) messageKindsUptoCard
end Rows
end Go.Proofs.YtdmjabfjkkjhbaaDoor
