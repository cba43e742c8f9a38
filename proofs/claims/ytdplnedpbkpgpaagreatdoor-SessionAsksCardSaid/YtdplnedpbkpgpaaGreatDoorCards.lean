/-
  DERIVED. GIVEN WITH THE SEED: THE CARDS: each row of YtdplnedpbkpgpaaGreatDoorRows.lean that lists a variable, with what it lists TIED to the program's text (the seventh form; the later family's looks); each row that meets fmt, with fmt's text TOLD by the authors' own Lean function (tested against real Go, not proved from fmt's source: count such statements apart). THE CARD IS WHAT COUNTS. Prove the row's statement (the work); the ties are given (YtdplnedpbkpgpaaGreatDoorTie.lean); close each card by the builder's one call (the guide's Derived/Test/ToyasCard.lean, 'card_holds'). Laid BY PROGRAM, IN A SANDBOX (cutbox-door.mjs). By AI agents, Wed Nov 11 2026. No macro, syntax, notation, axiom, sorry.
-/
import Derived.Test.YtdplnedpbkpgpaaGreatDoorRows
import GoSem.ClaimSeven
namespace Go.Proofs.YtdplnedpbkpgpaaGreatDoor
namespace Rows

/-- THE TIED CARD OF 'parlourlaw27.SessionAsks'. -/
def sessionAsksCard : Claim7 := { stood := { row := sessionAsksRow, standIns := [], harness := (true, "831e1b9d03db11ef46bc276ad349ea3949e442ababffba6a2420ade429be72fa"), looks := false }, kinds := [], alts := [], laidByText := true, laidKinds := [.data, .pinned], laidTests := true, laidLooks := .later }
def SessionAsksCardSaid : Prop := Claim7.holds Tryz.pinned (.plain (OpenSpec.ofChange sessionAsksSpec)) sessionAsksCard

/-- THE TIED CARD OF 'parlourlaw27.SessionEnds'. -/
def sessionEndsCard : Claim7 := { stood := { row := sessionEndsRow, standIns := [], harness := (true, "831e1b9d03db11ef46bc276ad349ea3949e442ababffba6a2420ade429be72fa"), looks := false }, kinds := [], alts := [], laidByText := true, laidKinds := [.data, .pinned], laidTests := true, laidLooks := .later }
def SessionEndsCardSaid : Prop := Claim7.holds Tryz.pinned (.plain (OpenSpec.ofChange sessionEndsSpec)) sessionEndsCard

/-- THE TIED CARD OF 'parlourlaw27.SessionOnce'. -/
def sessionOnceCard : Claim7 := { stood := { row := sessionOnceRow, standIns := [], harness := (true, "831e1b9d03db11ef46bc276ad349ea3949e442ababffba6a2420ade429be72fa"), looks := false }, kinds := [], alts := [], laidByText := true, laidKinds := [.data, .pinned], laidTests := true, laidLooks := .later }
def SessionOnceCardSaid : Prop := Claim7.holds Tryz.pinned (.plain (OpenSpec.ofChange sessionOnceSpec)) sessionOnceCard

/-- THE TIED CARD OF 'parlourlaw27.SessionSignals'. -/
def sessionSignalsCard : Claim7 := { stood := { row := sessionSignalsRow, standIns := [], harness := (true, "831e1b9d03db11ef46bc276ad349ea3949e442ababffba6a2420ade429be72fa"), looks := false }, kinds := [], alts := [], laidByText := true, laidKinds := [.data, .pinned], laidTests := true, laidLooks := .later }
def SessionSignalsCardSaid : Prop := Claim7.holds Tryz.pinned (.plain (OpenSpec.ofChange sessionSignalsSpec)) sessionSignalsCard

/-- THE TIED CARD OF 'parlourlaw27.SessionEnv'. -/
def sessionEnvCard : Claim7 := { stood := { row := sessionEnvRow, standIns := [], harness := (true, "831e1b9d03db11ef46bc276ad349ea3949e442ababffba6a2420ade429be72fa"), looks := false }, kinds := [], alts := [], laidByText := true, laidKinds := [.data, .pinned], laidTests := true, laidLooks := .later }
def SessionEnvCardSaid : Prop := Claim7.holds Tryz.pinned (.plain (OpenSpec.ofChange sessionEnvSpec)) sessionEnvCard

/-- THE SECOND FORM's CARD OF 'parlourlaw27.SessionAsks'. -/
def sessionAsksUptoCard : Claim7 := { stood := { row := sessionAsksUptoRow, standIns := [], harness := (true, "831e1b9d03db11ef46bc276ad349ea3949e442ababffba6a2420ade429be72fa"), looks := false }, kinds := [], alts := [], laidByText := true, laidKinds := [.data, .pinned], laidTests := true, laidLooks := .later }
def SessionAsksUptoCardSaid : Prop := Claim7.holds Tryz.pinned (.plain (OpenSpec.upto sessionAsksSpec)) sessionAsksUptoCard

/-- THE SECOND FORM's CARD OF 'parlourlaw27.SessionEnds'. -/
def sessionEndsUptoCard : Claim7 := { stood := { row := sessionEndsUptoRow, standIns := [], harness := (true, "831e1b9d03db11ef46bc276ad349ea3949e442ababffba6a2420ade429be72fa"), looks := false }, kinds := [], alts := [], laidByText := true, laidKinds := [.data, .pinned], laidTests := true, laidLooks := .later }
def SessionEndsUptoCardSaid : Prop := Claim7.holds Tryz.pinned (.plain (OpenSpec.upto sessionEndsSpec)) sessionEndsUptoCard

/-- THE SECOND FORM's CARD OF 'parlourlaw27.SessionOnce'. -/
def sessionOnceUptoCard : Claim7 := { stood := { row := sessionOnceUptoRow, standIns := [], harness := (true, "831e1b9d03db11ef46bc276ad349ea3949e442ababffba6a2420ade429be72fa"), looks := false }, kinds := [], alts := [], laidByText := true, laidKinds := [.data, .pinned], laidTests := true, laidLooks := .later }
def SessionOnceUptoCardSaid : Prop := Claim7.holds Tryz.pinned (.plain (OpenSpec.upto sessionOnceSpec)) sessionOnceUptoCard

/-- THE SECOND FORM's CARD OF 'parlourlaw27.SessionSignals'. -/
def sessionSignalsUptoCard : Claim7 := { stood := { row := sessionSignalsUptoRow, standIns := [], harness := (true, "831e1b9d03db11ef46bc276ad349ea3949e442ababffba6a2420ade429be72fa"), looks := false }, kinds := [], alts := [], laidByText := true, laidKinds := [.data, .pinned], laidTests := true, laidLooks := .later }
def SessionSignalsUptoCardSaid : Prop := Claim7.holds Tryz.pinned (.plain (OpenSpec.upto sessionSignalsSpec)) sessionSignalsUptoCard

/-- THE SECOND FORM's CARD OF 'parlourlaw27.SessionEnv'. -/
def sessionEnvUptoCard : Claim7 := { stood := { row := sessionEnvUptoRow, standIns := [], harness := (true, "831e1b9d03db11ef46bc276ad349ea3949e442ababffba6a2420ade429be72fa"), looks := false }, kinds := [], alts := [], laidByText := true, laidKinds := [.data, .pinned], laidTests := true, laidLooks := .later }
def SessionEnvUptoCardSaid : Prop := Claim7.holds Tryz.pinned (.plain (OpenSpec.upto sessionEnvSpec)) sessionEnvUptoCard
end Rows
end Go.Proofs.YtdplnedpbkpgpaaGreatDoor
