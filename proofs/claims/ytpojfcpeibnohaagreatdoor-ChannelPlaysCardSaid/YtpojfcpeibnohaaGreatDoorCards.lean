/-
  DERIVED. GIVEN WITH THE SEED: THE CARDS: each row of YtpojfcpeibnohaaGreatDoorRows.lean that lists a variable, with what it lists TIED to the program's text (the seventh form; the later family's looks); each row that meets fmt, with fmt's text TOLD by the authors' own Lean function (tested against real Go, not proved from fmt's source: count such statements apart). THE CARD IS WHAT COUNTS. Prove the row's statement (the work); the ties are given (YtpojfcpeibnohaaGreatDoorTie.lean); close each card by the builder's one call (the guide's Derived/Test/ToyasCard.lean, 'card_holds'). Laid BY PROGRAM, IN A SANDBOX (cutbox-door.mjs). By AI agents, Wed Nov 11 2026. No macro, syntax, notation, axiom, sorry.
-/
import Derived.Test.YtpojfcpeibnohaaGreatDoorRows
import GoSem.ClaimSeven
namespace Go.Proofs.YtpojfcpeibnohaaGreatDoor
namespace Rows

/-- THE TIED CARD OF 'parlourlaw25.ChannelTrace'. -/
def channelTraceCard : Claim7 := { stood := { row := channelTraceRow, standIns := [], harness := (true, "405df24f2ac5944519c1d4dd020f7ffed222d7188544125e071bb046a53f3742"), looks := false }, kinds := [], alts := [], laidByText := true, laidKinds := [.data, .pinned], laidTests := true, laidLooks := .later }
def ChannelTraceCardSaid : Prop := Claim7.holds Tryz.pinned (.plain (OpenSpec.ofChange channelTraceSpec)) channelTraceCard

/-- THE TIED CARD OF 'parlourlaw25.ChannelComes'. -/
def channelComesCard : Claim7 := { stood := { row := channelComesRow, standIns := [], harness := (true, "405df24f2ac5944519c1d4dd020f7ffed222d7188544125e071bb046a53f3742"), looks := false }, kinds := [], alts := [], laidByText := true, laidKinds := [.data, .pinned], laidTests := true, laidLooks := .later }
def ChannelComesCardSaid : Prop := Claim7.holds Tryz.pinned (.plain (OpenSpec.ofChange channelComesSpec)) channelComesCard

/-- THE TIED CARD OF 'parlourlaw25.ChannelPlays'. -/
def channelPlaysCard : Claim7 := { stood := { row := channelPlaysRow, standIns := [], harness := (true, "405df24f2ac5944519c1d4dd020f7ffed222d7188544125e071bb046a53f3742"), looks := false }, kinds := [], alts := [], laidByText := true, laidKinds := [.data, .pinned], laidTests := true, laidLooks := .later }
def ChannelPlaysCardSaid : Prop := Claim7.holds Tryz.pinned (.plain (OpenSpec.ofChange channelPlaysSpec)) channelPlaysCard

/-- THE SECOND FORM's CARD OF 'parlourlaw25.ChannelTrace'. -/
def channelTraceUptoCard : Claim7 := { stood := { row := channelTraceUptoRow, standIns := [], harness := (true, "405df24f2ac5944519c1d4dd020f7ffed222d7188544125e071bb046a53f3742"), looks := false }, kinds := [], alts := [], laidByText := true, laidKinds := [.data, .pinned], laidTests := true, laidLooks := .later }
def ChannelTraceUptoCardSaid : Prop := Claim7.holds Tryz.pinned (.plain (OpenSpec.upto channelTraceSpec)) channelTraceUptoCard

/-- THE SECOND FORM's CARD OF 'parlourlaw25.ChannelComes'. -/
def channelComesUptoCard : Claim7 := { stood := { row := channelComesUptoRow, standIns := [], harness := (true, "405df24f2ac5944519c1d4dd020f7ffed222d7188544125e071bb046a53f3742"), looks := false }, kinds := [], alts := [], laidByText := true, laidKinds := [.data, .pinned], laidTests := true, laidLooks := .later }
def ChannelComesUptoCardSaid : Prop := Claim7.holds Tryz.pinned (.plain (OpenSpec.upto channelComesSpec)) channelComesUptoCard

/-- THE SECOND FORM's CARD OF 'parlourlaw25.ChannelPlays'. -/
def channelPlaysUptoCard : Claim7 := { stood := { row := channelPlaysUptoRow, standIns := [], harness := (true, "405df24f2ac5944519c1d4dd020f7ffed222d7188544125e071bb046a53f3742"), looks := false }, kinds := [], alts := [], laidByText := true, laidKinds := [.data, .pinned], laidTests := true, laidLooks := .later }
def ChannelPlaysUptoCardSaid : Prop := Claim7.holds Tryz.pinned (.plain (OpenSpec.upto channelPlaysSpec)) channelPlaysUptoCard
end Rows
end Go.Proofs.YtpojfcpeibnohaaGreatDoor
