/-
  DERIVED. GIVEN WITH THE SEED: THE CARDS: each row of YtkgikodiecmakaaGreatDoorRows.lean that lists a variable, with what it lists TIED to the program's text (the seventh form; the later family's looks); each row that meets fmt, with fmt's text TOLD by the authors' own Lean function (tested against real Go, not proved from fmt's source: count such statements apart). THE CARD IS WHAT COUNTS. Prove the row's statement (the work); the ties are given (YtkgikodiecmakaaGreatDoorTie.lean); close each card by the builder's one call (the guide's Derived/Test/ToyasCard.lean, 'card_holds'). Laid BY PROGRAM, IN A SANDBOX (cutbox-door.mjs). By AI agents, Wed Nov 11 2026. No macro, syntax, notation, axiom, sorry.
-/
import Derived.Test.YtkgikodiecmakaaGreatDoorRows
import GoSem.ClaimSeven
namespace Go.Proofs.YtkgikodiecmakaaGreatDoor
namespace Rows

/-- THE TIED CARD OF 'parlourlaw29.TracePlays'. -/
def tracePlaysCard : Claim7 := { stood := { row := tracePlaysRow, standIns := [], harness := (true, "fb102fe8ceb6dea578880ef8d4cd45547afec448ba95d50db9a57b70130a0a87"), looks := false }, kinds := [], alts := [], laidByText := true, laidKinds := [.data, .pinned], laidTests := true, laidLooks := .later }
def TracePlaysCardSaid : Prop := Claim7.holds Tryz.pinned (.plain (OpenSpec.ofChange tracePlaysSpec)) tracePlaysCard

/-- THE TIED CARD OF 'parlourlaw29.TraceErrors'. -/
def traceErrorsCard : Claim7 := { stood := { row := traceErrorsRow, standIns := [], harness := (true, "fb102fe8ceb6dea578880ef8d4cd45547afec448ba95d50db9a57b70130a0a87"), looks := false }, kinds := [], alts := [], laidByText := true, laidKinds := [.data, .pinned], laidTests := true, laidLooks := .later }
def TraceErrorsCardSaid : Prop := Claim7.holds Tryz.pinned (.plain (OpenSpec.ofChange traceErrorsSpec)) traceErrorsCard

/-- THE SECOND FORM's CARD OF 'parlourlaw29.TracePlays'. -/
def tracePlaysUptoCard : Claim7 := { stood := { row := tracePlaysUptoRow, standIns := [], harness := (true, "fb102fe8ceb6dea578880ef8d4cd45547afec448ba95d50db9a57b70130a0a87"), looks := false }, kinds := [], alts := [], laidByText := true, laidKinds := [.data, .pinned], laidTests := true, laidLooks := .later }
def TracePlaysUptoCardSaid : Prop := Claim7.holds Tryz.pinned (.plain (OpenSpec.upto tracePlaysSpec)) tracePlaysUptoCard

/-- THE SECOND FORM's CARD OF 'parlourlaw29.TraceErrors'. -/
def traceErrorsUptoCard : Claim7 := { stood := { row := traceErrorsUptoRow, standIns := [], harness := (true, "fb102fe8ceb6dea578880ef8d4cd45547afec448ba95d50db9a57b70130a0a87"), looks := false }, kinds := [], alts := [], laidByText := true, laidKinds := [.data, .pinned], laidTests := true, laidLooks := .later }
def TraceErrorsUptoCardSaid : Prop := Claim7.holds Tryz.pinned (.plain (OpenSpec.upto traceErrorsSpec)) traceErrorsUptoCard
end Rows
end Go.Proofs.YtkgikodiecmakaaGreatDoor
