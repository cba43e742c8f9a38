/-
  DERIVED. GIVEN WITH THE SEED: THE CARDS: each row of YtmpeidliacbelaaDoorRows.lean that lists a variable, with what it lists TIED to the program's text (the seventh form; the later family's looks); each row that meets fmt, with fmt's text TOLD by the authors' own Lean function (tested against real Go, not proved from fmt's source: count such statements apart). THE CARD IS WHAT COUNTS. Prove the row's statement (the work); the ties are given (YtmpeidliacbelaaDoorTie.lean); close each card by the builder's one call (the guide's Derived/Test/ToyasCard.lean, 'card_holds'). Laid BY PROGRAM, IN A SANDBOX (cutbox-door.mjs). By AI agents, Wed Nov 11 2026. No macro, syntax, notation, axiom, sorry.
-/
import Derived.Test.YtmpeidliacbelaaDoorRows
import GoSem.ClaimSeven
namespace Go.Proofs.YtmpeidliacbelaaDoor
namespace Rows

/-- THE TIED CARD OF 'parlourlaw04.RequestAgain'. -/
def requestAgainCard : Claim7 := { stood := { row := requestAgainRow, standIns := [], harness := (true, "45ca11d350300ed7c4b6c61326bb39e3155c021bb1d4bb7c9a0938a4c00f5bfb"), looks := false }, kinds := [], alts := [], laidByText := true, laidKinds := [.data, .pinned], laidTests := true, laidLooks := .later }
def RequestAgainCardSaid : Prop := Claim7.holds Tryd.pinned (.plain (OpenSpec.ofChange requestAgainSpec)) requestAgainCard

/-- THE TIED CARD OF 'parlourlaw04.RequestBack'. -/
def requestBackCard : Claim7 := { stood := { row := requestBackRow, standIns := [], harness := (true, "45ca11d350300ed7c4b6c61326bb39e3155c021bb1d4bb7c9a0938a4c00f5bfb"), looks := false }, kinds := [], alts := [], laidByText := true, laidKinds := [.data, .pinned], laidTests := true, laidLooks := .later }
def RequestBackCardSaid : Prop := Claim7.holds Tryd.pinned (.plain (OpenSpec.ofChange requestBackSpec)) requestBackCard

/-- THE TIED CARD OF 'parlourlaw04.RequestKinds'. -/
def requestKindsCard : Claim7 := { stood := { row := requestKindsRow, standIns := [], harness := (true, "45ca11d350300ed7c4b6c61326bb39e3155c021bb1d4bb7c9a0938a4c00f5bfb"), looks := false }, kinds := [], alts := [], laidByText := true, laidKinds := [.data, .pinned], laidTests := true, laidLooks := .later }
def RequestKindsCardSaid : Prop := Claim7.holds Tryd.pinned (.plain (OpenSpec.ofChange requestKindsSpec)) requestKindsCard

/-- THE SECOND FORM's CARD OF 'parlourlaw04.RequestAgain'. -/
def requestAgainUptoCard : Claim7 := { stood := { row := requestAgainUptoRow, standIns := [], harness := (true, "45ca11d350300ed7c4b6c61326bb39e3155c021bb1d4bb7c9a0938a4c00f5bfb"), looks := false }, kinds := [], alts := [], laidByText := true, laidKinds := [.data, .pinned], laidTests := true, laidLooks := .later }
def RequestAgainUptoCardSaid : Prop := Claim7.holds Tryd.pinned (.plain (OpenSpec.upto requestAgainSpec)) requestAgainUptoCard

/-- THE SECOND FORM's CARD OF 'parlourlaw04.RequestBack'. -/
def requestBackUptoCard : Claim7 := { stood := { row := requestBackUptoRow, standIns := [], harness := (true, "45ca11d350300ed7c4b6c61326bb39e3155c021bb1d4bb7c9a0938a4c00f5bfb"), looks := false }, kinds := [], alts := [], laidByText := true, laidKinds := [.data, .pinned], laidTests := true, laidLooks := .later }
def RequestBackUptoCardSaid : Prop := Claim7.holds Tryd.pinned (.plain (OpenSpec.upto requestBackSpec)) requestBackUptoCard

/-- THE SECOND FORM's CARD OF 'parlourlaw04.RequestKinds'. -/
def requestKindsUptoCard : Claim7 := { stood := { row := requestKindsUptoRow, standIns := [], harness := (true, "45ca11d350300ed7c4b6c61326bb39e3155c021bb1d4bb7c9a0938a4c00f5bfb"), looks := false }, kinds := [], alts := [], laidByText := true, laidKinds := [.data, .pinned], laidTests := true, laidLooks := .later }
def RequestKindsUptoCardSaid : Prop := Claim7.holds Tryd.pinned (.plain (OpenSpec.upto requestKindsSpec)) requestKindsUptoCard
end Rows
end Go.Proofs.YtmpeidliacbelaaDoor
