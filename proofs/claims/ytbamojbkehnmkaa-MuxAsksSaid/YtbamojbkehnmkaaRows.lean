/-
  No cell of these rows narrows 'for every input' (looked for: loops, veiled, ifaces, maps, wideKeys, modest, calm, conditions, laid).
  DERIVED. THE GIVEN ROWS OF THIS SEAT. 3 by the template 'for every input the law returns true; each argument reads behind the call as it read before'; 0 by the template 'total and deterministic' (their statements: YtbamojbkehnmkaaTotals.lean).
  GIVEN WITH THE SEED: the statements are not yours to turn. If you find one false, say at which input.
  Laid BY PROGRAM, IN A SANDBOX (cutbox-rows.mjs): the forced cells as the released guide's own fill.sh prints them over the translation 888b1418a61e77e9… (all of the seat's roots in one cut). By AI agents, Wed Nov 11 2026. No macro, syntax, notation, axiom, sorry.
-/
import Derived.Test.YtbamojbkehnmkaaChecked
import GoSem.Claim
import GoSem.ClaimJoined
import GoSem.ClaimMapViews
import Derived.JoinedTies
import Derived.KernelRfl
namespace Go.Proofs.Ytbamojbkehnmkaa
/- THE CELL 'sum', in the pinned program and in every row, IS THE sha256 OF THE DUMP (.gsa) THAT YtbamojbkehnmkaaProg.lean LOADS. Nothing in Lean hashes anything: it is a label: what it is worth is what the hold of that sum in a sandbox is worth. -/
noncomputable def Try.pinned : Pinned := { name := "ytbamojbkehnmkaa", sum := "888b1418a61e77e977e8b8edf9c063add6dcddc788719e4244a89bf117fa8ac8", checked := Try.checked }
namespace Rows
def none {H : Type} : Left H := { results := [], args := [] }

/-- 'parlourlaw26.MuxApart': WHATEVER THE INPUT: true; the input reads as it did. -/
def muxApartSpec : ChangeSpec := { name := "muxApart", fn := fun _ => fun
  | [d1, d2] => { results := [.lit (.bool true)], args := [d1, d2] }
  | _ => none }
def muxApartRow : OpenClaim := { program := "ytbamojbkehnmkaa", sum := "888b1418a61e77e977e8b8edf9c063add6dcddc788719e4244a89bf117fa8ac8", func := "parlour/parlourlaw26.MuxApart", spec := "muxApart", inPlace := ["slices.overlaps[parlour/channel.Chan]"], unfollowed := true, recurses := true, apart := false }
def MuxApartSaid : Prop := muxApartRow.holds Try.pinned (OpenSpec.ofChange muxApartSpec)

/-- ITS FALSE NEIGHBOUR: 'it returns false'. Refute it at one input. -/
def muxApartWrong : ChangeSpec := { name := "muxApart", fn := fun _ => fun
  | [d1, d2] => { results := [.lit (.bool false)], args := [d1, d2] }
  | _ => none }
def MuxApartWrongFalsely : Prop := muxApartRow.holds Try.pinned (OpenSpec.ofChange muxApartWrong)

/-- 'parlourlaw26.MuxTable': WHATEVER THE INPUT: true; the input reads as it did. -/
def muxTableSpec : ChangeSpec := { name := "muxTable", fn := fun _ => fun
  | [d1, d2] => { results := [.lit (.bool true)], args := [d1, d2] }
  | _ => none }
def muxTableRow : OpenClaim := { program := "ytbamojbkehnmkaa", sum := "888b1418a61e77e977e8b8edf9c063add6dcddc788719e4244a89bf117fa8ac8", func := "parlour/parlourlaw26.MuxTable", spec := "muxTable", inPlace := ["slices.overlaps[parlour/channel.Chan]"], unfollowed := true, recurses := true, apart := false }
def MuxTableSaid : Prop := muxTableRow.holds Try.pinned (OpenSpec.ofChange muxTableSpec)

/-- ITS FALSE NEIGHBOUR: 'it returns false'. Refute it at one input. -/
def muxTableWrong : ChangeSpec := { name := "muxTable", fn := fun _ => fun
  | [d1, d2] => { results := [.lit (.bool false)], args := [d1, d2] }
  | _ => none }
def MuxTableWrongFalsely : Prop := muxTableRow.holds Try.pinned (OpenSpec.ofChange muxTableWrong)

/-- 'parlourlaw26.MuxAsks': WHATEVER THE INPUT: true; the input reads as it did. -/
def muxAsksSpec : ChangeSpec := { name := "muxAsks", fn := fun _ => fun
  | [d1, d2, d3] => { results := [.lit (.bool true)], args := [d1, d2, d3] }
  | _ => none }
def muxAsksRow : OpenClaim := { program := "ytbamojbkehnmkaa", sum := "888b1418a61e77e977e8b8edf9c063add6dcddc788719e4244a89bf117fa8ac8", func := "parlour/parlourlaw26.MuxAsks", spec := "muxAsks", inPlace := ["slices.overlaps[parlour/channel.Chan]"], unfollowed := true, recurses := true, apart := false }
def MuxAsksSaid : Prop := muxAsksRow.holds Try.pinned (OpenSpec.ofChange muxAsksSpec)

/-- ITS FALSE NEIGHBOUR: 'it returns false'. Refute it at one input. -/
def muxAsksWrong : ChangeSpec := { name := "muxAsks", fn := fun _ => fun
  | [d1, d2, d3] => { results := [.lit (.bool false)], args := [d1, d2, d3] }
  | _ => none }
def MuxAsksWrongFalsely : Prop := muxAsksRow.holds Try.pinned (OpenSpec.ofChange muxAsksWrong)

/- THE SECOND FORM. 'bulk': how many values and letters a reading holds, each counted each time it is reached (what is shared counts as often as it is met; a slice's spare places count too). A statement '..UptoSaid' is the law's where the arguments, and the package variables that the reading takes, are together of bulk at most 1048576: NARROWER than '..Said'. Prove '..Said' where nothing that the law and all that it calls make is longer than what came in: it says more and counts as full. Else prove '..UptoSaid'. A law counts once. -/
mutual
def uptoBulk {H : Type} : DataW H → Nat
  | .lit (.string bytes) => bytes.length + 1
  | .lit _ => 1
  | .nil => 1
  | .ptr d => uptoBulk d + 1
  | .slice elems spare => uptoBulkAll elems + uptoBulkAll spare + 1
  | .agg parts => uptoBulkAll parts + 1
  | .iface _ d => uptoBulk d + 1
  | .map entries => uptoBulkEntries entries + 1
  | .held _ => 1
def uptoBulkAll {H : Type} : List (DataW H) → Nat
  | [] => 0
  | d :: r => uptoBulk d + uptoBulkAll r
def uptoBulkEntries {H : Type} : List (Lit × DataW H) → Nat
  | [] => 0
  | x :: r => uptoBulkEntry x + uptoBulkEntries r
def uptoBulkEntry {H : Type} : Lit × DataW H → Nat
  | (.string bytes, d) => bytes.length + uptoBulk d + 1
  | (_, d) => uptoBulk d + 1
 end
def uptoSmall : (H : Type) → List (DataW H) → Bool := fun _ ds => decide (uptoBulkAll ds ≤ 1048576)
def OpenSpec.upto (s : _root_.Go.ChangeSpec) : _root_.Go.OpenSpec := { _root_.Go.OpenSpec.ofChange s with cond := some uptoSmall }

/-- 'parlourlaw26.MuxApart', WHERE WHAT IT READS IS OF BULK AT MOST 1048576: true; the input reads as it did. -/
def muxApartUptoRow : OpenClaim := { program := "ytbamojbkehnmkaa", sum := "888b1418a61e77e977e8b8edf9c063add6dcddc788719e4244a89bf117fa8ac8", func := "parlour/parlourlaw26.MuxApart", spec := "muxApart", inPlace := ["slices.overlaps[parlour/channel.Chan]"], unfollowed := true, recurses := true, apart := false, narrowed := true }
def MuxApartUptoSaid : Prop := muxApartUptoRow.holds Try.pinned (OpenSpec.upto muxApartSpec)

/-- 'parlourlaw26.MuxTable', WHERE WHAT IT READS IS OF BULK AT MOST 1048576: true; the input reads as it did. -/
def muxTableUptoRow : OpenClaim := { program := "ytbamojbkehnmkaa", sum := "888b1418a61e77e977e8b8edf9c063add6dcddc788719e4244a89bf117fa8ac8", func := "parlour/parlourlaw26.MuxTable", spec := "muxTable", inPlace := ["slices.overlaps[parlour/channel.Chan]"], unfollowed := true, recurses := true, apart := false, narrowed := true }
def MuxTableUptoSaid : Prop := muxTableUptoRow.holds Try.pinned (OpenSpec.upto muxTableSpec)

/-- 'parlourlaw26.MuxAsks', WHERE WHAT IT READS IS OF BULK AT MOST 1048576: true; the input reads as it did. -/
def muxAsksUptoRow : OpenClaim := { program := "ytbamojbkehnmkaa", sum := "888b1418a61e77e977e8b8edf9c063add6dcddc788719e4244a89bf117fa8ac8", func := "parlour/parlourlaw26.MuxAsks", spec := "muxAsks", inPlace := ["slices.overlaps[parlour/channel.Chan]"], unfollowed := true, recurses := true, apart := false, narrowed := true }
def MuxAsksUptoSaid : Prop := muxAsksUptoRow.holds Try.pinned (OpenSpec.upto muxAsksSpec)

end Rows
end Go.Proofs.Ytbamojbkehnmkaa
