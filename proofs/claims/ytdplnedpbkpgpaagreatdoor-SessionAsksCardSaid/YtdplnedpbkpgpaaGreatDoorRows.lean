/-
  NARROWER THAN 'FOR EVERY INPUT', by the rows' own cells (each row's printed sentence says how): SessionAsks: laid · SessionEnds: laid · SessionOnce: laid · SessionSignals: laid · SessionEnv: laid.
  DERIVED. THE GIVEN ROWS OF THIS SEAT. 5 by the template 'for every input the law returns true; each argument reads behind the call as it read before'; 0 by the template 'total and deterministic' (their statements: YtdplnedpbkpgpaaGreatDoorTotals.lean).
  GIVEN WITH THE SEED: the statements are not yours to turn. If you find one false, say at which input.
  Laid BY PROGRAM, IN A SANDBOX (cutbox-rows.mjs): the forced cells as the released guide's own fill.sh prints them over the translation 98ad1c3f24c5c66c… (all of the seat's roots in one cut). By AI agents, Wed Nov 11 2026. No macro, syntax, notation, axiom, sorry.
-/
import Derived.Test.YtdplnedpbkpgpaaGreatDoorChecked
import GoSem.PinnedTables
import GoSem.Claim
import GoSem.ClaimJoined
import GoSem.ClaimMapViews
import Derived.JoinedTies
import Derived.KernelRfl
namespace Go.Proofs.YtdplnedpbkpgpaaGreatDoor
/- THE CELL 'sum', in the pinned program and in every row, IS THE sha256 OF THE DUMP (.gsa) THAT YtdplnedpbkpgpaaGreatDoorProg.lean LOADS. Nothing in Lean hashes anything: it is a label: what it is worth is what the hold of that sum in a sandbox is worth. -/
noncomputable def Tryz.pinned : Pinned := { name := "ytdplnedpbkpgpaagreatdoor", sum := "98ad1c3f24c5c66cc037a3ca6ff90407c69dafb0fa86354d002b436259898e82", checked := Tryz.checked }
namespace Rows
def none {H : Type} : Left H := { results := [], args := [] }

/- WHAT THE LISTED PACKAGE-LEVEL VARIABLES READ AS WHEN THE CALL BEGINS. Each datum BY PROGRAM (the guide's laid-datum.mjs) off the statement by which the dump's own 'gosem.cut.vars' lays the variable. In a bare row this is a premise. The card (YtdplnedpbkpgpaaGreatDoorCards.lean) ties it to the program's text. -/
def laid_unicode_utf8_acceptRanges {H : Type} : DataW H := .agg [.agg [.lit (.int .u8 128), .lit (.int .u8 191)], .agg [.lit (.int .u8 160), .lit (.int .u8 191)], .agg [.lit (.int .u8 128), .lit (.int .u8 159)], .agg [.lit (.int .u8 144), .lit (.int .u8 191)], .agg [.lit (.int .u8 128), .lit (.int .u8 143)], .agg [.lit (.int .u8 0), .lit (.int .u8 0)], .agg [.lit (.int .u8 0), .lit (.int .u8 0)], .agg [.lit (.int .u8 0), .lit (.int .u8 0)], .agg [.lit (.int .u8 0), .lit (.int .u8 0)], .agg [.lit (.int .u8 0), .lit (.int .u8 0)], .agg [.lit (.int .u8 0), .lit (.int .u8 0)], .agg [.lit (.int .u8 0), .lit (.int .u8 0)], .agg [.lit (.int .u8 0), .lit (.int .u8 0)], .agg [.lit (.int .u8 0), .lit (.int .u8 0)], .agg [.lit (.int .u8 0), .lit (.int .u8 0)], .agg [.lit (.int .u8 0), .lit (.int .u8 0)]]
/-- One of Go's own tables, pinned by name: the form's constant. -/
def laid_unicode_utf8_first : DataW Unit := Go.Pinned.utf8First

/-- 'parlourlaw27.SessionAsks': WHATEVER THE INPUT: true; the input reads as it did. -/
def sessionAsksSpec : ChangeSpec := { name := "sessionAsks", fn := fun _ => fun
  | [d1, d2, d3] => { results := [.lit (.bool true)], args := [d1, d2, d3] }
  | _ => none }
def sessionAsksRow : OpenClaim := { program := "ytdplnedpbkpgpaagreatdoor", sum := "98ad1c3f24c5c66cc037a3ca6ff90407c69dafb0fa86354d002b436259898e82", func := "parlour/parlourlaw27.SessionAsks", spec := "sessionAsks", inPlace := ["internal/bytealg.IndexByteString", "internal/bytealg.IndexString", "internal/abi.NoEscape", "internal/bytealg.MakeNoZero", "internal/bytealg.CountString"], unfollowed := true, recurses := true, named := ["internal/bytealg.MaxLen", "unicode/utf8.first", "unicode/utf8.acceptRanges"], apart := false, laid := [("unicode/utf8.acceptRanges", laid_unicode_utf8_acceptRanges), ("unicode/utf8.first", laid_unicode_utf8_first)] }
def SessionAsksSaid : Prop := sessionAsksRow.holds Tryz.pinned (OpenSpec.ofChange sessionAsksSpec)

/-- ITS FALSE NEIGHBOUR: 'it returns false'. Refute it at one input. -/
def sessionAsksWrong : ChangeSpec := { name := "sessionAsks", fn := fun _ => fun
  | [d1, d2, d3] => { results := [.lit (.bool false)], args := [d1, d2, d3] }
  | _ => none }
def SessionAsksWrongFalsely : Prop := sessionAsksRow.holds Tryz.pinned (OpenSpec.ofChange sessionAsksWrong)

/-- 'parlourlaw27.SessionEnds': WHATEVER THE INPUT: true; the input reads as it did. -/
def sessionEndsSpec : ChangeSpec := { name := "sessionEnds", fn := fun _ => fun
  | [d] => { results := [.lit (.bool true)], args := [d] }
  | _ => none }
def sessionEndsRow : OpenClaim := { program := "ytdplnedpbkpgpaagreatdoor", sum := "98ad1c3f24c5c66cc037a3ca6ff90407c69dafb0fa86354d002b436259898e82", func := "parlour/parlourlaw27.SessionEnds", spec := "sessionEnds", inPlace := ["internal/bytealg.IndexByteString", "internal/bytealg.IndexString", "internal/abi.NoEscape", "internal/bytealg.MakeNoZero", "internal/bytealg.CountString"], unfollowed := true, recurses := true, named := ["internal/bytealg.MaxLen", "unicode/utf8.first", "unicode/utf8.acceptRanges"], apart := false, laid := [("unicode/utf8.acceptRanges", laid_unicode_utf8_acceptRanges), ("unicode/utf8.first", laid_unicode_utf8_first)] }
def SessionEndsSaid : Prop := sessionEndsRow.holds Tryz.pinned (OpenSpec.ofChange sessionEndsSpec)

/-- ITS FALSE NEIGHBOUR: 'it returns false'. Refute it at one input. -/
def sessionEndsWrong : ChangeSpec := { name := "sessionEnds", fn := fun _ => fun
  | [d] => { results := [.lit (.bool false)], args := [d] }
  | _ => none }
def SessionEndsWrongFalsely : Prop := sessionEndsRow.holds Tryz.pinned (OpenSpec.ofChange sessionEndsWrong)

/-- 'parlourlaw27.SessionOnce': WHATEVER THE INPUT: true; the input reads as it did. -/
def sessionOnceSpec : ChangeSpec := { name := "sessionOnce", fn := fun _ => fun
  | [d1, d2] => { results := [.lit (.bool true)], args := [d1, d2] }
  | _ => none }
def sessionOnceRow : OpenClaim := { program := "ytdplnedpbkpgpaagreatdoor", sum := "98ad1c3f24c5c66cc037a3ca6ff90407c69dafb0fa86354d002b436259898e82", func := "parlour/parlourlaw27.SessionOnce", spec := "sessionOnce", inPlace := ["internal/bytealg.IndexByteString", "internal/bytealg.IndexString", "internal/abi.NoEscape", "internal/bytealg.MakeNoZero", "internal/bytealg.CountString"], unfollowed := true, recurses := true, named := ["internal/bytealg.MaxLen", "unicode/utf8.first", "unicode/utf8.acceptRanges"], apart := false, laid := [("unicode/utf8.acceptRanges", laid_unicode_utf8_acceptRanges), ("unicode/utf8.first", laid_unicode_utf8_first)] }
def SessionOnceSaid : Prop := sessionOnceRow.holds Tryz.pinned (OpenSpec.ofChange sessionOnceSpec)

/-- ITS FALSE NEIGHBOUR: 'it returns false'. Refute it at one input. -/
def sessionOnceWrong : ChangeSpec := { name := "sessionOnce", fn := fun _ => fun
  | [d1, d2] => { results := [.lit (.bool false)], args := [d1, d2] }
  | _ => none }
def SessionOnceWrongFalsely : Prop := sessionOnceRow.holds Tryz.pinned (OpenSpec.ofChange sessionOnceWrong)

/-- 'parlourlaw27.SessionSignals': WHATEVER THE INPUT: true; the input reads as it did. -/
def sessionSignalsSpec : ChangeSpec := { name := "sessionSignals", fn := fun _ => fun
  | [d1, d2] => { results := [.lit (.bool true)], args := [d1, d2] }
  | _ => none }
def sessionSignalsRow : OpenClaim := { program := "ytdplnedpbkpgpaagreatdoor", sum := "98ad1c3f24c5c66cc037a3ca6ff90407c69dafb0fa86354d002b436259898e82", func := "parlour/parlourlaw27.SessionSignals", spec := "sessionSignals", inPlace := ["internal/bytealg.IndexByteString", "internal/bytealg.IndexString", "internal/abi.NoEscape", "internal/bytealg.MakeNoZero", "internal/bytealg.CountString"], unfollowed := true, recurses := true, named := ["internal/bytealg.MaxLen", "unicode/utf8.first", "unicode/utf8.acceptRanges"], apart := false, laid := [("unicode/utf8.acceptRanges", laid_unicode_utf8_acceptRanges), ("unicode/utf8.first", laid_unicode_utf8_first)] }
def SessionSignalsSaid : Prop := sessionSignalsRow.holds Tryz.pinned (OpenSpec.ofChange sessionSignalsSpec)

/-- ITS FALSE NEIGHBOUR: 'it returns false'. Refute it at one input. -/
def sessionSignalsWrong : ChangeSpec := { name := "sessionSignals", fn := fun _ => fun
  | [d1, d2] => { results := [.lit (.bool false)], args := [d1, d2] }
  | _ => none }
def SessionSignalsWrongFalsely : Prop := sessionSignalsRow.holds Tryz.pinned (OpenSpec.ofChange sessionSignalsWrong)

/-- 'parlourlaw27.SessionEnv': WHATEVER THE INPUT: true; the input reads as it did. -/
def sessionEnvSpec : ChangeSpec := { name := "sessionEnv", fn := fun _ => fun
  | [d] => { results := [.lit (.bool true)], args := [d] }
  | _ => none }
def sessionEnvRow : OpenClaim := { program := "ytdplnedpbkpgpaagreatdoor", sum := "98ad1c3f24c5c66cc037a3ca6ff90407c69dafb0fa86354d002b436259898e82", func := "parlour/parlourlaw27.SessionEnv", spec := "sessionEnv", inPlace := ["internal/bytealg.IndexByteString", "internal/bytealg.IndexString", "internal/abi.NoEscape", "internal/bytealg.MakeNoZero", "internal/bytealg.CountString"], unfollowed := true, recurses := true, named := ["internal/bytealg.MaxLen", "unicode/utf8.first", "unicode/utf8.acceptRanges"], apart := false, laid := [("unicode/utf8.acceptRanges", laid_unicode_utf8_acceptRanges), ("unicode/utf8.first", laid_unicode_utf8_first)] }
def SessionEnvSaid : Prop := sessionEnvRow.holds Tryz.pinned (OpenSpec.ofChange sessionEnvSpec)

/-- ITS FALSE NEIGHBOUR: 'it returns false'. Refute it at one input. -/
def sessionEnvWrong : ChangeSpec := { name := "sessionEnv", fn := fun _ => fun
  | [d] => { results := [.lit (.bool false)], args := [d] }
  | _ => none }
def SessionEnvWrongFalsely : Prop := sessionEnvRow.holds Tryz.pinned (OpenSpec.ofChange sessionEnvWrong)

/- THE SECOND FORM. 'bulk': how many values and letters a reading holds, each counted each time it is reached (what is shared counts as often as it is met; a slice's spare places count too). A statement '..UptoSaid' is the law's where the arguments, and the package variables that the reading takes, are together of bulk at most 1048576: NARROWER than '..Said'. Prove '..Said' where nothing that the law and all that it calls make is longer than what came in: it says more and counts as full. Else prove '..UptoSaid'. A law counts once. -/
mutual
def uptoBulk {H : Type} : DataW H → Nat
  | .lit (.string bytes) => bytes.length + 1
  | .lit _ => 1
  | .nil => 1
  | .ptr d => uptoBulk d + 1
  | .slice elems spare => uptoBulkAll elems + uptoBulkAll spare + 1
  | .agg parts => uptoBulkAll parts + 1
  | .iface _ d => uptoBulk d + 1
  | .map entries => uptoBulkEntries entries + 1
  | .held _ => 1
def uptoBulkAll {H : Type} : List (DataW H) → Nat
  | [] => 0
  | d :: r => uptoBulk d + uptoBulkAll r
def uptoBulkEntries {H : Type} : List (Lit × DataW H) → Nat
  | [] => 0
  | x :: r => uptoBulkEntry x + uptoBulkEntries r
def uptoBulkEntry {H : Type} : Lit × DataW H → Nat
  | (.string bytes, d) => bytes.length + uptoBulk d + 1
  | (_, d) => uptoBulk d + 1
 end
def uptoSmall : (H : Type) → List (DataW H) → Bool := fun _ ds => decide (uptoBulkAll ds ≤ 1048576)
def OpenSpec.upto (s : _root_.Go.ChangeSpec) : _root_.Go.OpenSpec := { _root_.Go.OpenSpec.ofChange s with cond := some uptoSmall }

/-- 'parlourlaw27.SessionAsks', WHERE WHAT IT READS IS OF BULK AT MOST 1048576: true; the input reads as it did. -/
def sessionAsksUptoRow : OpenClaim := { program := "ytdplnedpbkpgpaagreatdoor", sum := "98ad1c3f24c5c66cc037a3ca6ff90407c69dafb0fa86354d002b436259898e82", func := "parlour/parlourlaw27.SessionAsks", spec := "sessionAsks", inPlace := ["internal/bytealg.IndexByteString", "internal/bytealg.IndexString", "internal/abi.NoEscape", "internal/bytealg.MakeNoZero", "internal/bytealg.CountString"], unfollowed := true, recurses := true, named := ["internal/bytealg.MaxLen", "unicode/utf8.first", "unicode/utf8.acceptRanges"], apart := false, laid := [("unicode/utf8.acceptRanges", laid_unicode_utf8_acceptRanges), ("unicode/utf8.first", laid_unicode_utf8_first)], narrowed := true }
def SessionAsksUptoSaid : Prop := sessionAsksUptoRow.holds Tryz.pinned (OpenSpec.upto sessionAsksSpec)

/-- 'parlourlaw27.SessionEnds', WHERE WHAT IT READS IS OF BULK AT MOST 1048576: true; the input reads as it did. -/
def sessionEndsUptoRow : OpenClaim := { program := "ytdplnedpbkpgpaagreatdoor", sum := "98ad1c3f24c5c66cc037a3ca6ff90407c69dafb0fa86354d002b436259898e82", func := "parlour/parlourlaw27.SessionEnds", spec := "sessionEnds", inPlace := ["internal/bytealg.IndexByteString", "internal/bytealg.IndexString", "internal/abi.NoEscape", "internal/bytealg.MakeNoZero", "internal/bytealg.CountString"], unfollowed := true, recurses := true, named := ["internal/bytealg.MaxLen", "unicode/utf8.first", "unicode/utf8.acceptRanges"], apart := false, laid := [("unicode/utf8.acceptRanges", laid_unicode_utf8_acceptRanges), ("unicode/utf8.first", laid_unicode_utf8_first)], narrowed := true }
def SessionEndsUptoSaid : Prop := sessionEndsUptoRow.holds Tryz.pinned (OpenSpec.upto sessionEndsSpec)

/-- 'parlourlaw27.SessionOnce', WHERE WHAT IT READS IS OF BULK AT MOST 1048576: true; the input reads as it did. -/
def sessionOnceUptoRow : OpenClaim := { program := "ytdplnedpbkpgpaagreatdoor", sum := "98ad1c3f24c5c66cc037a3ca6ff90407c69dafb0fa86354d002b436259898e82", func := "parlour/parlourlaw27.SessionOnce", spec := "sessionOnce", inPlace := ["internal/bytealg.IndexByteString", "internal/bytealg.IndexString", "internal/abi.NoEscape", "internal/bytealg.MakeNoZero", "internal/bytealg.CountString"], unfollowed := true, recurses := true, named := ["internal/bytealg.MaxLen", "unicode/utf8.first", "unicode/utf8.acceptRanges"], apart := false, laid := [("unicode/utf8.acceptRanges", laid_unicode_utf8_acceptRanges), ("unicode/utf8.first", laid_unicode_utf8_first)], narrowed := true }
def SessionOnceUptoSaid : Prop := sessionOnceUptoRow.holds Tryz.pinned (OpenSpec.upto sessionOnceSpec)

/-- 'parlourlaw27.SessionSignals', WHERE WHAT IT READS IS OF BULK AT MOST 1048576: true; the input reads as it did. -/
def sessionSignalsUptoRow : OpenClaim := { program := "ytdplnedpbkpgpaagreatdoor", sum := "98ad1c3f24c5c66cc037a3ca6ff90407c69dafb0fa86354d002b436259898e82", func := "parlour/parlourlaw27.SessionSignals", spec := "sessionSignals", inPlace := ["internal/bytealg.IndexByteString", "internal/bytealg.IndexString", "internal/abi.NoEscape", "internal/bytealg.MakeNoZero", "internal/bytealg.CountString"], unfollowed := true, recurses := true, named := ["internal/bytealg.MaxLen", "unicode/utf8.first", "unicode/utf8.acceptRanges"], apart := false, laid := [("unicode/utf8.acceptRanges", laid_unicode_utf8_acceptRanges), ("unicode/utf8.first", laid_unicode_utf8_first)], narrowed := true }
def SessionSignalsUptoSaid : Prop := sessionSignalsUptoRow.holds Tryz.pinned (OpenSpec.upto sessionSignalsSpec)

/-- 'parlourlaw27.SessionEnv', WHERE WHAT IT READS IS OF BULK AT MOST 1048576: true; the input reads as it did. -/
def sessionEnvUptoRow : OpenClaim := { program := "ytdplnedpbkpgpaagreatdoor", sum := "98ad1c3f24c5c66cc037a3ca6ff90407c69dafb0fa86354d002b436259898e82", func := "parlour/parlourlaw27.SessionEnv", spec := "sessionEnv", inPlace := ["internal/bytealg.IndexByteString", "internal/bytealg.IndexString", "internal/abi.NoEscape", "internal/bytealg.MakeNoZero", "internal/bytealg.CountString"], unfollowed := true, recurses := true, named := ["internal/bytealg.MaxLen", "unicode/utf8.first", "unicode/utf8.acceptRanges"], apart := false, laid := [("unicode/utf8.acceptRanges", laid_unicode_utf8_acceptRanges), ("unicode/utf8.first", laid_unicode_utf8_first)], narrowed := true }
def SessionEnvUptoSaid : Prop := sessionEnvUptoRow.holds Tryz.pinned (OpenSpec.upto sessionEnvSpec)

end Rows
end Go.Proofs.YtdplnedpbkpgpaaGreatDoor
