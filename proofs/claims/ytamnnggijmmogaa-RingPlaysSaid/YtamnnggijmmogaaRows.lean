/-
  No cell of these rows narrows 'for every input' (looked for: loops, veiled, ifaces, maps, wideKeys, modest, calm, conditions, laid).
  DERIVED. THE GIVEN ROWS OF THIS SEAT. 11 by the template 'for every input the law returns true; each argument reads behind the call as it read before'; 0 by the template 'total and deterministic' (their statements: YtamnnggijmmogaaTotals.lean).
  GIVEN WITH THE SEED: the statements are not yours to turn. If you find one false, say at which input.
  Laid BY PROGRAM, IN A SANDBOX (cutbox-rows.mjs): the forced cells as the released guide's own fill.sh prints them over the translation 5d09b54ed95c8a74… (all of the seat's roots in one cut). By AI agents, Wed Nov 11 2026. No macro, syntax, notation, axiom, sorry.
-/
import Derived.Test.YtamnnggijmmogaaChecked
import GoSem.Claim
import GoSem.ClaimJoined
import GoSem.ClaimMapViews
import Derived.JoinedTies
import Derived.KernelRfl
namespace Go.Proofs.Ytamnnggijmmogaa
/- THE CELL 'sum', in the pinned program and in every row, IS THE sha256 OF THE DUMP (.gsa) THAT YtamnnggijmmogaaProg.lean LOADS. Nothing in Lean hashes anything: it is a label: what it is worth is what the hold of that sum in a sandbox is worth. -/
noncomputable def Try.pinned : Pinned := { name := "ytamnnggijmmogaa", sum := "5d09b54ed95c8a7477849a397636c4ccc1ad3915d2670b28720b9c72080e9f49", checked := Try.checked }
namespace Rows
def none {H : Type} : Left H := { results := [], args := [] }

/-- 'parlourlaw24.WindowOut': WHATEVER THE INPUT: true; the input reads as it did. -/
def windowOutSpec : ChangeSpec := { name := "windowOut", fn := fun _ => fun
  | [d1, d2, d3] => { results := [.lit (.bool true)], args := [d1, d2, d3] }
  | _ => none }
def windowOutRow : OpenClaim := { program := "ytamnnggijmmogaa", sum := "5d09b54ed95c8a7477849a397636c4ccc1ad3915d2670b28720b9c72080e9f49", func := "parlour/parlourlaw24.WindowOut", spec := "windowOut", apart := false }
def WindowOutSaid : Prop := windowOutRow.holds Try.pinned (OpenSpec.ofChange windowOutSpec)

/-- ITS FALSE NEIGHBOUR: 'it returns false'. Refute it at one input. -/
def windowOutWrong : ChangeSpec := { name := "windowOut", fn := fun _ => fun
  | [d1, d2, d3] => { results := [.lit (.bool false)], args := [d1, d2, d3] }
  | _ => none }
def WindowOutWrongFalsely : Prop := windowOutRow.holds Try.pinned (OpenSpec.ofChange windowOutWrong)

/-- 'parlourlaw24.WindowIn': WHATEVER THE INPUT: true; the input reads as it did. -/
def windowInSpec : ChangeSpec := { name := "windowIn", fn := fun _ => fun
  | [d1, d2, d3] => { results := [.lit (.bool true)], args := [d1, d2, d3] }
  | _ => none }
def windowInRow : OpenClaim := { program := "ytamnnggijmmogaa", sum := "5d09b54ed95c8a7477849a397636c4ccc1ad3915d2670b28720b9c72080e9f49", func := "parlour/parlourlaw24.WindowIn", spec := "windowIn", apart := false }
def WindowInSaid : Prop := windowInRow.holds Try.pinned (OpenSpec.ofChange windowInSpec)

/-- ITS FALSE NEIGHBOUR: 'it returns false'. Refute it at one input. -/
def windowInWrong : ChangeSpec := { name := "windowIn", fn := fun _ => fun
  | [d1, d2, d3] => { results := [.lit (.bool false)], args := [d1, d2, d3] }
  | _ => none }
def WindowInWrongFalsely : Prop := windowInRow.holds Try.pinned (OpenSpec.ofChange windowInWrong)

/-- 'parlourlaw24.WindowSums': WHATEVER THE INPUT: true; the input reads as it did. -/
def windowSumsSpec : ChangeSpec := { name := "windowSums", fn := fun _ => fun
  | [d1, d2] => { results := [.lit (.bool true)], args := [d1, d2] }
  | _ => none }
def windowSumsRow : OpenClaim := { program := "ytamnnggijmmogaa", sum := "5d09b54ed95c8a7477849a397636c4ccc1ad3915d2670b28720b9c72080e9f49", func := "parlour/parlourlaw24.WindowSums", spec := "windowSums", apart := false }
def WindowSumsSaid : Prop := windowSumsRow.holds Try.pinned (OpenSpec.ofChange windowSumsSpec)

/-- ITS FALSE NEIGHBOUR: 'it returns false'. Refute it at one input. -/
def windowSumsWrong : ChangeSpec := { name := "windowSums", fn := fun _ => fun
  | [d1, d2] => { results := [.lit (.bool false)], args := [d1, d2] }
  | _ => none }
def WindowSumsWrongFalsely : Prop := windowSumsRow.holds Try.pinned (OpenSpec.ofChange windowSumsWrong)

/-- 'parlourlaw24.WindowRefills': WHATEVER THE INPUT: true; the input reads as it did. -/
def windowRefillsSpec : ChangeSpec := { name := "windowRefills", fn := fun _ => fun
  | [d1, d2] => { results := [.lit (.bool true)], args := [d1, d2] }
  | _ => none }
def windowRefillsRow : OpenClaim := { program := "ytamnnggijmmogaa", sum := "5d09b54ed95c8a7477849a397636c4ccc1ad3915d2670b28720b9c72080e9f49", func := "parlour/parlourlaw24.WindowRefills", spec := "windowRefills", apart := false }
def WindowRefillsSaid : Prop := windowRefillsRow.holds Try.pinned (OpenSpec.ofChange windowRefillsSpec)

/-- ITS FALSE NEIGHBOUR: 'it returns false'. Refute it at one input. -/
def windowRefillsWrong : ChangeSpec := { name := "windowRefills", fn := fun _ => fun
  | [d1, d2] => { results := [.lit (.bool false)], args := [d1, d2] }
  | _ => none }
def WindowRefillsWrongFalsely : Prop := windowRefillsRow.holds Try.pinned (OpenSpec.ofChange windowRefillsWrong)

/-- 'parlourlaw14.RawReady': WHATEVER THE INPUT: true; the input reads as it did. -/
def rawReadySpec : ChangeSpec := { name := "rawReady", fn := fun _ => fun
  | [d] => { results := [.lit (.bool true)], args := [d] }
  | _ => none }
def rawReadyRow : OpenClaim := { program := "ytamnnggijmmogaa", sum := "5d09b54ed95c8a7477849a397636c4ccc1ad3915d2670b28720b9c72080e9f49", func := "parlour/parlourlaw14.RawReady", spec := "rawReady", unfollowed := true, recurses := true, apart := false }
def RawReadySaid : Prop := rawReadyRow.holds Try.pinned (OpenSpec.ofChange rawReadySpec)

/-- ITS FALSE NEIGHBOUR: 'it returns false'. Refute it at one input. -/
def rawReadyWrong : ChangeSpec := { name := "rawReady", fn := fun _ => fun
  | [d] => { results := [.lit (.bool false)], args := [d] }
  | _ => none }
def RawReadyWrongFalsely : Prop := rawReadyRow.holds Try.pinned (OpenSpec.ofChange rawReadyWrong)

/-- 'parlourlaw14.RawWaits': WHATEVER THE INPUT: true; the input reads as it did. -/
def rawWaitsSpec : ChangeSpec := { name := "rawWaits", fn := fun _ => fun
  | [d] => { results := [.lit (.bool true)], args := [d] }
  | _ => none }
def rawWaitsRow : OpenClaim := { program := "ytamnnggijmmogaa", sum := "5d09b54ed95c8a7477849a397636c4ccc1ad3915d2670b28720b9c72080e9f49", func := "parlour/parlourlaw14.RawWaits", spec := "rawWaits", unfollowed := true, recurses := true, apart := false }
def RawWaitsSaid : Prop := rawWaitsRow.holds Try.pinned (OpenSpec.ofChange rawWaitsSpec)

/-- ITS FALSE NEIGHBOUR: 'it returns false'. Refute it at one input. -/
def rawWaitsWrong : ChangeSpec := { name := "rawWaits", fn := fun _ => fun
  | [d] => { results := [.lit (.bool false)], args := [d] }
  | _ => none }
def RawWaitsWrongFalsely : Prop := rawWaitsRow.holds Try.pinned (OpenSpec.ofChange rawWaitsWrong)

/-- 'parlourlaw14.RawGrows': WHATEVER THE INPUT: true; the input reads as it did. -/
def rawGrowsSpec : ChangeSpec := { name := "rawGrows", fn := fun _ => fun
  | [d1, d2, d3] => { results := [.lit (.bool true)], args := [d1, d2, d3] }
  | _ => none }
def rawGrowsRow : OpenClaim := { program := "ytamnnggijmmogaa", sum := "5d09b54ed95c8a7477849a397636c4ccc1ad3915d2670b28720b9c72080e9f49", func := "parlour/parlourlaw14.RawGrows", spec := "rawGrows", unfollowed := true, recurses := true, apart := false }
def RawGrowsSaid : Prop := rawGrowsRow.holds Try.pinned (OpenSpec.ofChange rawGrowsSpec)

/-- ITS FALSE NEIGHBOUR: 'it returns false'. Refute it at one input. -/
def rawGrowsWrong : ChangeSpec := { name := "rawGrows", fn := fun _ => fun
  | [d1, d2, d3] => { results := [.lit (.bool false)], args := [d1, d2, d3] }
  | _ => none }
def RawGrowsWrongFalsely : Prop := rawGrowsRow.holds Try.pinned (OpenSpec.ofChange rawGrowsWrong)

/-- 'parlourlaw05.RingParts': WHATEVER THE INPUT: true; the input reads as it did. -/
def ringPartsSpec : ChangeSpec := { name := "ringParts", fn := fun _ => fun
  | [d] => { results := [.lit (.bool true)], args := [d] }
  | _ => none }
def ringPartsRow : OpenClaim := { program := "ytamnnggijmmogaa", sum := "5d09b54ed95c8a7477849a397636c4ccc1ad3915d2670b28720b9c72080e9f49", func := "parlour/parlourlaw05.RingParts", spec := "ringParts", apart := false }
def RingPartsSaid : Prop := ringPartsRow.holds Try.pinned (OpenSpec.ofChange ringPartsSpec)

/-- ITS FALSE NEIGHBOUR: 'it returns false'. Refute it at one input. -/
def ringPartsWrong : ChangeSpec := { name := "ringParts", fn := fun _ => fun
  | [d] => { results := [.lit (.bool false)], args := [d] }
  | _ => none }
def RingPartsWrongFalsely : Prop := ringPartsRow.holds Try.pinned (OpenSpec.ofChange ringPartsWrong)

/-- 'parlourlaw05.RingPlays': WHATEVER THE INPUT: true; the input reads as it did. -/
def ringPlaysSpec : ChangeSpec := { name := "ringPlays", fn := fun _ => fun
  | [d1, d2] => { results := [.lit (.bool true)], args := [d1, d2] }
  | _ => none }
def ringPlaysRow : OpenClaim := { program := "ytamnnggijmmogaa", sum := "5d09b54ed95c8a7477849a397636c4ccc1ad3915d2670b28720b9c72080e9f49", func := "parlour/parlourlaw05.RingPlays", spec := "ringPlays", apart := false }
def RingPlaysSaid : Prop := ringPlaysRow.holds Try.pinned (OpenSpec.ofChange ringPlaysSpec)

/-- ITS FALSE NEIGHBOUR: 'it returns false'. Refute it at one input. -/
def ringPlaysWrong : ChangeSpec := { name := "ringPlays", fn := fun _ => fun
  | [d1, d2] => { results := [.lit (.bool false)], args := [d1, d2] }
  | _ => none }
def RingPlaysWrongFalsely : Prop := ringPlaysRow.holds Try.pinned (OpenSpec.ofChange ringPlaysWrong)

/-- 'parlourlaw05.RingKeeps': WHATEVER THE INPUT: true; the input reads as it did. -/
def ringKeepsSpec : ChangeSpec := { name := "ringKeeps", fn := fun _ => fun
  | [d1, d2] => { results := [.lit (.bool true)], args := [d1, d2] }
  | _ => none }
def ringKeepsRow : OpenClaim := { program := "ytamnnggijmmogaa", sum := "5d09b54ed95c8a7477849a397636c4ccc1ad3915d2670b28720b9c72080e9f49", func := "parlour/parlourlaw05.RingKeeps", spec := "ringKeeps", apart := false }
def RingKeepsSaid : Prop := ringKeepsRow.holds Try.pinned (OpenSpec.ofChange ringKeepsSpec)

/-- ITS FALSE NEIGHBOUR: 'it returns false'. Refute it at one input. -/
def ringKeepsWrong : ChangeSpec := { name := "ringKeeps", fn := fun _ => fun
  | [d1, d2] => { results := [.lit (.bool false)], args := [d1, d2] }
  | _ => none }
def RingKeepsWrongFalsely : Prop := ringKeepsRow.holds Try.pinned (OpenSpec.ofChange ringKeepsWrong)

/-- 'parlourlaw05.RingTwo': WHATEVER THE INPUT: true; the input reads as it did. -/
def ringTwoSpec : ChangeSpec := { name := "ringTwo", fn := fun _ => fun
  | [d1, d2, d3] => { results := [.lit (.bool true)], args := [d1, d2, d3] }
  | _ => none }
def ringTwoRow : OpenClaim := { program := "ytamnnggijmmogaa", sum := "5d09b54ed95c8a7477849a397636c4ccc1ad3915d2670b28720b9c72080e9f49", func := "parlour/parlourlaw05.RingTwo", spec := "ringTwo", apart := false }
def RingTwoSaid : Prop := ringTwoRow.holds Try.pinned (OpenSpec.ofChange ringTwoSpec)

/-- ITS FALSE NEIGHBOUR: 'it returns false'. Refute it at one input. -/
def ringTwoWrong : ChangeSpec := { name := "ringTwo", fn := fun _ => fun
  | [d1, d2, d3] => { results := [.lit (.bool false)], args := [d1, d2, d3] }
  | _ => none }
def RingTwoWrongFalsely : Prop := ringTwoRow.holds Try.pinned (OpenSpec.ofChange ringTwoWrong)

/- THE SECOND FORM. 'bulk': how many values and letters a reading holds, each counted each time it is reached (what is shared counts as often as it is met; a slice's spare places count too). A statement '..UptoSaid' is the law's where the arguments, and the package variables that the reading takes, are together of bulk at most 1048576: NARROWER than '..Said'. Prove '..Said' where nothing that the law and all that it calls make is longer than what came in: it says more and counts as full. Else prove '..UptoSaid'. A law counts once. -/
mutual
def uptoBulk {H : Type} : DataW H → Nat
  | .lit (.string bytes) => bytes.length + 1
  | .lit _ => 1
  | .nil => 1
  | .ptr d => uptoBulk d + 1
  | .slice elems spare => uptoBulkAll elems + uptoBulkAll spare + 1
  | .agg parts => uptoBulkAll parts + 1
  | .iface _ d => uptoBulk d + 1
  | .map entries => uptoBulkEntries entries + 1
  | .held _ => 1
def uptoBulkAll {H : Type} : List (DataW H) → Nat
  | [] => 0
  | d :: r => uptoBulk d + uptoBulkAll r
def uptoBulkEntries {H : Type} : List (Lit × DataW H) → Nat
  | [] => 0
  | x :: r => uptoBulkEntry x + uptoBulkEntries r
def uptoBulkEntry {H : Type} : Lit × DataW H → Nat
  | (.string bytes, d) => bytes.length + uptoBulk d + 1
  | (_, d) => uptoBulk d + 1
 end
def uptoSmall : (H : Type) → List (DataW H) → Bool := fun _ ds => decide (uptoBulkAll ds ≤ 1048576)
def OpenSpec.upto (s : _root_.Go.ChangeSpec) : _root_.Go.OpenSpec := { _root_.Go.OpenSpec.ofChange s with cond := some uptoSmall }

/-- 'parlourlaw24.WindowOut', WHERE WHAT IT READS IS OF BULK AT MOST 1048576: true; the input reads as it did. -/
def windowOutUptoRow : OpenClaim := { program := "ytamnnggijmmogaa", sum := "5d09b54ed95c8a7477849a397636c4ccc1ad3915d2670b28720b9c72080e9f49", func := "parlour/parlourlaw24.WindowOut", spec := "windowOut", apart := false, narrowed := true }
def WindowOutUptoSaid : Prop := windowOutUptoRow.holds Try.pinned (OpenSpec.upto windowOutSpec)

/-- 'parlourlaw24.WindowIn', WHERE WHAT IT READS IS OF BULK AT MOST 1048576: true; the input reads as it did. -/
def windowInUptoRow : OpenClaim := { program := "ytamnnggijmmogaa", sum := "5d09b54ed95c8a7477849a397636c4ccc1ad3915d2670b28720b9c72080e9f49", func := "parlour/parlourlaw24.WindowIn", spec := "windowIn", apart := false, narrowed := true }
def WindowInUptoSaid : Prop := windowInUptoRow.holds Try.pinned (OpenSpec.upto windowInSpec)

/-- 'parlourlaw24.WindowSums', WHERE WHAT IT READS IS OF BULK AT MOST 1048576: true; the input reads as it did. -/
def windowSumsUptoRow : OpenClaim := { program := "ytamnnggijmmogaa", sum := "5d09b54ed95c8a7477849a397636c4ccc1ad3915d2670b28720b9c72080e9f49", func := "parlour/parlourlaw24.WindowSums", spec := "windowSums", apart := false, narrowed := true }
def WindowSumsUptoSaid : Prop := windowSumsUptoRow.holds Try.pinned (OpenSpec.upto windowSumsSpec)

/-- 'parlourlaw24.WindowRefills', WHERE WHAT IT READS IS OF BULK AT MOST 1048576: true; the input reads as it did. -/
def windowRefillsUptoRow : OpenClaim := { program := "ytamnnggijmmogaa", sum := "5d09b54ed95c8a7477849a397636c4ccc1ad3915d2670b28720b9c72080e9f49", func := "parlour/parlourlaw24.WindowRefills", spec := "windowRefills", apart := false, narrowed := true }
def WindowRefillsUptoSaid : Prop := windowRefillsUptoRow.holds Try.pinned (OpenSpec.upto windowRefillsSpec)

/-- 'parlourlaw14.RawReady', WHERE WHAT IT READS IS OF BULK AT MOST 1048576: true; the input reads as it did. -/
def rawReadyUptoRow : OpenClaim := { program := "ytamnnggijmmogaa", sum := "5d09b54ed95c8a7477849a397636c4ccc1ad3915d2670b28720b9c72080e9f49", func := "parlour/parlourlaw14.RawReady", spec := "rawReady", unfollowed := true, recurses := true, apart := false, narrowed := true }
def RawReadyUptoSaid : Prop := rawReadyUptoRow.holds Try.pinned (OpenSpec.upto rawReadySpec)

/-- 'parlourlaw14.RawWaits', WHERE WHAT IT READS IS OF BULK AT MOST 1048576: true; the input reads as it did. -/
def rawWaitsUptoRow : OpenClaim := { program := "ytamnnggijmmogaa", sum := "5d09b54ed95c8a7477849a397636c4ccc1ad3915d2670b28720b9c72080e9f49", func := "parlour/parlourlaw14.RawWaits", spec := "rawWaits", unfollowed := true, recurses := true, apart := false, narrowed := true }
def RawWaitsUptoSaid : Prop := rawWaitsUptoRow.holds Try.pinned (OpenSpec.upto rawWaitsSpec)

/-- 'parlourlaw14.RawGrows', WHERE WHAT IT READS IS OF BULK AT MOST 1048576: true; the input reads as it did. -/
def rawGrowsUptoRow : OpenClaim := { program := "ytamnnggijmmogaa", sum := "5d09b54ed95c8a7477849a397636c4ccc1ad3915d2670b28720b9c72080e9f49", func := "parlour/parlourlaw14.RawGrows", spec := "rawGrows", unfollowed := true, recurses := true, apart := false, narrowed := true }
def RawGrowsUptoSaid : Prop := rawGrowsUptoRow.holds Try.pinned (OpenSpec.upto rawGrowsSpec)

/-- 'parlourlaw05.RingParts', WHERE WHAT IT READS IS OF BULK AT MOST 1048576: true; the input reads as it did. -/
def ringPartsUptoRow : OpenClaim := { program := "ytamnnggijmmogaa", sum := "5d09b54ed95c8a7477849a397636c4ccc1ad3915d2670b28720b9c72080e9f49", func := "parlour/parlourlaw05.RingParts", spec := "ringParts", apart := false, narrowed := true }
def RingPartsUptoSaid : Prop := ringPartsUptoRow.holds Try.pinned (OpenSpec.upto ringPartsSpec)

/-- 'parlourlaw05.RingPlays', WHERE WHAT IT READS IS OF BULK AT MOST 1048576: true; the input reads as it did. -/
def ringPlaysUptoRow : OpenClaim := { program := "ytamnnggijmmogaa", sum := "5d09b54ed95c8a7477849a397636c4ccc1ad3915d2670b28720b9c72080e9f49", func := "parlour/parlourlaw05.RingPlays", spec := "ringPlays", apart := false, narrowed := true }
def RingPlaysUptoSaid : Prop := ringPlaysUptoRow.holds Try.pinned (OpenSpec.upto ringPlaysSpec)

/-- 'parlourlaw05.RingKeeps', WHERE WHAT IT READS IS OF BULK AT MOST 1048576: true; the input reads as it did. -/
def ringKeepsUptoRow : OpenClaim := { program := "ytamnnggijmmogaa", sum := "5d09b54ed95c8a7477849a397636c4ccc1ad3915d2670b28720b9c72080e9f49", func := "parlour/parlourlaw05.RingKeeps", spec := "ringKeeps", apart := false, narrowed := true }
def RingKeepsUptoSaid : Prop := ringKeepsUptoRow.holds Try.pinned (OpenSpec.upto ringKeepsSpec)

/-- 'parlourlaw05.RingTwo', WHERE WHAT IT READS IS OF BULK AT MOST 1048576: true; the input reads as it did. -/
def ringTwoUptoRow : OpenClaim := { program := "ytamnnggijmmogaa", sum := "5d09b54ed95c8a7477849a397636c4ccc1ad3915d2670b28720b9c72080e9f49", func := "parlour/parlourlaw05.RingTwo", spec := "ringTwo", apart := false, narrowed := true }
def RingTwoUptoSaid : Prop := ringTwoUptoRow.holds Try.pinned (OpenSpec.upto ringTwoSpec)

end Rows
end Go.Proofs.Ytamnnggijmmogaa
