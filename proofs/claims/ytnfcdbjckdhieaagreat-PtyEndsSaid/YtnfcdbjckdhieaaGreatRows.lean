/-
  No cell of these rows narrows 'for every input' (looked for: loops, veiled, ifaces, maps, wideKeys, modest, calm, conditions, laid).
  DERIVED. THE GIVEN ROWS OF THIS SEAT. 5 by the template 'for every input the law returns true; each argument reads behind the call as it read before'; 0 by the template 'total and deterministic' (their statements: YtnfcdbjckdhieaaGreatTotals.lean).
  GIVEN WITH THE SEED: the statements are not yours to turn. If you find one false, say at which input.
  Laid BY PROGRAM, IN A SANDBOX (cutbox-rows.mjs): the forced cells as the released guide's own fill.sh prints them over the translation ab4b170150df2947… (all of the seat's roots in one cut). By AI agents, Wed Nov 11 2026. No macro, syntax, notation, axiom, sorry.
-/
import Derived.Test.YtnfcdbjckdhieaaGreatChecked
import GoSem.Claim
import GoSem.ClaimJoined
import GoSem.ClaimMapViews
import Derived.JoinedTies
import Derived.KernelRfl
namespace Go.Proofs.YtnfcdbjckdhieaaGreat
/- THE CELL 'sum', in the pinned program and in every row, IS THE sha256 OF THE DUMP (.gsa) THAT YtnfcdbjckdhieaaGreatProg.lean LOADS. Nothing in Lean hashes anything: it is a label: what it is worth is what the hold of that sum in a sandbox is worth. -/
noncomputable def Tryz.pinned : Pinned := { name := "ytnfcdbjckdhieaagreat", sum := "ab4b170150df2947fcec5cef1f4d8ffbbf7498d6689f1e8cddb65fc41519c971", checked := Tryz.checked }
namespace Rows
def none {H : Type} : Left H := { results := [], args := [] }

/-- 'parlourlaw17.PtySizes': WHATEVER THE INPUT: true; the input reads as it did. -/
def ptySizesSpec : ChangeSpec := { name := "ptySizes", fn := fun _ => fun
  | [d1, d2] => { results := [.lit (.bool true)], args := [d1, d2] }
  | _ => none }
def ptySizesRow : OpenClaim := { program := "ytnfcdbjckdhieaagreat", sum := "ab4b170150df2947fcec5cef1f4d8ffbbf7498d6689f1e8cddb65fc41519c971", func := "parlour/parlourlaw17.PtySizes", spec := "ptySizes", inPlace := ["internal/bytealg.MakeNoZero"], unfollowed := true, recurses := true, apart := false }
def PtySizesSaid : Prop := ptySizesRow.holds Tryz.pinned (OpenSpec.ofChange ptySizesSpec)

/-- ITS FALSE NEIGHBOUR: 'it returns false'. Refute it at one input. -/
def ptySizesWrong : ChangeSpec := { name := "ptySizes", fn := fun _ => fun
  | [d1, d2] => { results := [.lit (.bool false)], args := [d1, d2] }
  | _ => none }
def PtySizesWrongFalsely : Prop := ptySizesRow.holds Tryz.pinned (OpenSpec.ofChange ptySizesWrong)

/-- 'parlourlaw17.PtyEnds': WHATEVER THE INPUT: true; the input reads as it did. -/
def ptyEndsSpec : ChangeSpec := { name := "ptyEnds", fn := fun _ => fun
  | [d] => { results := [.lit (.bool true)], args := [d] }
  | _ => none }
def ptyEndsRow : OpenClaim := { program := "ytnfcdbjckdhieaagreat", sum := "ab4b170150df2947fcec5cef1f4d8ffbbf7498d6689f1e8cddb65fc41519c971", func := "parlour/parlourlaw17.PtyEnds", spec := "ptyEnds", inPlace := ["internal/bytealg.MakeNoZero"], unfollowed := true, recurses := true, apart := false }
def PtyEndsSaid : Prop := ptyEndsRow.holds Tryz.pinned (OpenSpec.ofChange ptyEndsSpec)

/-- ITS FALSE NEIGHBOUR: 'it returns false'. Refute it at one input. -/
def ptyEndsWrong : ChangeSpec := { name := "ptyEnds", fn := fun _ => fun
  | [d] => { results := [.lit (.bool false)], args := [d] }
  | _ => none }
def PtyEndsWrongFalsely : Prop := ptyEndsRow.holds Tryz.pinned (OpenSpec.ofChange ptyEndsWrong)

/-- 'parlourlaw17.PtyNone': WHATEVER THE INPUT: true; the input reads as it did. -/
def ptyNoneSpec : ChangeSpec := { name := "ptyNone", fn := fun _ => fun
  | [d1, d2] => { results := [.lit (.bool true)], args := [d1, d2] }
  | _ => none }
def ptyNoneRow : OpenClaim := { program := "ytnfcdbjckdhieaagreat", sum := "ab4b170150df2947fcec5cef1f4d8ffbbf7498d6689f1e8cddb65fc41519c971", func := "parlour/parlourlaw17.PtyNone", spec := "ptyNone", inPlace := ["internal/bytealg.MakeNoZero"], unfollowed := true, recurses := true, apart := false }
def PtyNoneSaid : Prop := ptyNoneRow.holds Tryz.pinned (OpenSpec.ofChange ptyNoneSpec)

/-- ITS FALSE NEIGHBOUR: 'it returns false'. Refute it at one input. -/
def ptyNoneWrong : ChangeSpec := { name := "ptyNone", fn := fun _ => fun
  | [d1, d2] => { results := [.lit (.bool false)], args := [d1, d2] }
  | _ => none }
def PtyNoneWrongFalsely : Prop := ptyNoneRow.holds Tryz.pinned (OpenSpec.ofChange ptyNoneWrong)

/-- 'parlourlaw17.PtyHung': WHATEVER THE INPUT: true; the input reads as it did. -/
def ptyHungSpec : ChangeSpec := { name := "ptyHung", fn := fun _ => fun
  | [d1, d2] => { results := [.lit (.bool true)], args := [d1, d2] }
  | _ => none }
def ptyHungRow : OpenClaim := { program := "ytnfcdbjckdhieaagreat", sum := "ab4b170150df2947fcec5cef1f4d8ffbbf7498d6689f1e8cddb65fc41519c971", func := "parlour/parlourlaw17.PtyHung", spec := "ptyHung", inPlace := ["internal/bytealg.MakeNoZero"], unfollowed := true, recurses := true, apart := false }
def PtyHungSaid : Prop := ptyHungRow.holds Tryz.pinned (OpenSpec.ofChange ptyHungSpec)

/-- ITS FALSE NEIGHBOUR: 'it returns false'. Refute it at one input. -/
def ptyHungWrong : ChangeSpec := { name := "ptyHung", fn := fun _ => fun
  | [d1, d2] => { results := [.lit (.bool false)], args := [d1, d2] }
  | _ => none }
def PtyHungWrongFalsely : Prop := ptyHungRow.holds Tryz.pinned (OpenSpec.ofChange ptyHungWrong)

/-- 'parlourlaw17.PtyEvents': WHATEVER THE INPUT: true; the input reads as it did. -/
def ptyEventsSpec : ChangeSpec := { name := "ptyEvents", fn := fun _ => fun
  | [d1, d2] => { results := [.lit (.bool true)], args := [d1, d2] }
  | _ => none }
def ptyEventsRow : OpenClaim := { program := "ytnfcdbjckdhieaagreat", sum := "ab4b170150df2947fcec5cef1f4d8ffbbf7498d6689f1e8cddb65fc41519c971", func := "parlour/parlourlaw17.PtyEvents", spec := "ptyEvents", inPlace := ["internal/bytealg.MakeNoZero"], unfollowed := true, recurses := true, apart := false }
def PtyEventsSaid : Prop := ptyEventsRow.holds Tryz.pinned (OpenSpec.ofChange ptyEventsSpec)

/-- ITS FALSE NEIGHBOUR: 'it returns false'. Refute it at one input. -/
def ptyEventsWrong : ChangeSpec := { name := "ptyEvents", fn := fun _ => fun
  | [d1, d2] => { results := [.lit (.bool false)], args := [d1, d2] }
  | _ => none }
def PtyEventsWrongFalsely : Prop := ptyEventsRow.holds Tryz.pinned (OpenSpec.ofChange ptyEventsWrong)

/- THE SECOND FORM. 'bulk': how many values and letters a reading holds, each counted each time it is reached (what is shared counts as often as it is met; a slice's spare places count too). A statement '..UptoSaid' is the law's where the arguments, and the package variables that the reading takes, are together of bulk at most 1048576: NARROWER than '..Said'. Prove '..Said' where nothing that the law and all that it calls make is longer than what came in: it says more and counts as full. Else prove '..UptoSaid'. A law counts once. -/
mutual
def uptoBulk {H : Type} : DataW H → Nat
  | .lit (.string bytes) => bytes.length + 1
  | .lit _ => 1
  | .nil => 1
  | .ptr d => uptoBulk d + 1
  | .slice elems spare => uptoBulkAll elems + uptoBulkAll spare + 1
  | .agg parts => uptoBulkAll parts + 1
  | .iface _ d => uptoBulk d + 1
  | .map entries => uptoBulkEntries entries + 1
  | .held _ => 1
def uptoBulkAll {H : Type} : List (DataW H) → Nat
  | [] => 0
  | d :: r => uptoBulk d + uptoBulkAll r
def uptoBulkEntries {H : Type} : List (Lit × DataW H) → Nat
  | [] => 0
  | x :: r => uptoBulkEntry x + uptoBulkEntries r
def uptoBulkEntry {H : Type} : Lit × DataW H → Nat
  | (.string bytes, d) => bytes.length + uptoBulk d + 1
  | (_, d) => uptoBulk d + 1
 end
def uptoSmall : (H : Type) → List (DataW H) → Bool := fun _ ds => decide (uptoBulkAll ds ≤ 1048576)
def OpenSpec.upto (s : _root_.Go.ChangeSpec) : _root_.Go.OpenSpec := { _root_.Go.OpenSpec.ofChange s with cond := some uptoSmall }

/-- 'parlourlaw17.PtySizes', WHERE WHAT IT READS IS OF BULK AT MOST 1048576: true; the input reads as it did. -/
def ptySizesUptoRow : OpenClaim := { program := "ytnfcdbjckdhieaagreat", sum := "ab4b170150df2947fcec5cef1f4d8ffbbf7498d6689f1e8cddb65fc41519c971", func := "parlour/parlourlaw17.PtySizes", spec := "ptySizes", inPlace := ["internal/bytealg.MakeNoZero"], unfollowed := true, recurses := true, apart := false, narrowed := true }
def PtySizesUptoSaid : Prop := ptySizesUptoRow.holds Tryz.pinned (OpenSpec.upto ptySizesSpec)

/-- 'parlourlaw17.PtyEnds', WHERE WHAT IT READS IS OF BULK AT MOST 1048576: true; the input reads as it did. -/
def ptyEndsUptoRow : OpenClaim := { program := "ytnfcdbjckdhieaagreat", sum := "ab4b170150df2947fcec5cef1f4d8ffbbf7498d6689f1e8cddb65fc41519c971", func := "parlour/parlourlaw17.PtyEnds", spec := "ptyEnds", inPlace := ["internal/bytealg.MakeNoZero"], unfollowed := true, recurses := true, apart := false, narrowed := true }
def PtyEndsUptoSaid : Prop := ptyEndsUptoRow.holds Tryz.pinned (OpenSpec.upto ptyEndsSpec)

/-- 'parlourlaw17.PtyNone', WHERE WHAT IT READS IS OF BULK AT MOST 1048576: true; the input reads as it did. -/
def ptyNoneUptoRow : OpenClaim := { program := "ytnfcdbjckdhieaagreat", sum := "ab4b170150df2947fcec5cef1f4d8ffbbf7498d6689f1e8cddb65fc41519c971", func := "parlour/parlourlaw17.PtyNone", spec := "ptyNone", inPlace := ["internal/bytealg.MakeNoZero"], unfollowed := true, recurses := true, apart := false, narrowed := true }
def PtyNoneUptoSaid : Prop := ptyNoneUptoRow.holds Tryz.pinned (OpenSpec.upto ptyNoneSpec)

/-- 'parlourlaw17.PtyHung', WHERE WHAT IT READS IS OF BULK AT MOST 1048576: true; the input reads as it did. -/
def ptyHungUptoRow : OpenClaim := { program := "ytnfcdbjckdhieaagreat", sum := "ab4b170150df2947fcec5cef1f4d8ffbbf7498d6689f1e8cddb65fc41519c971", func := "parlour/parlourlaw17.PtyHung", spec := "ptyHung", inPlace := ["internal/bytealg.MakeNoZero"], unfollowed := true, recurses := true, apart := false, narrowed := true }
def PtyHungUptoSaid : Prop := ptyHungUptoRow.holds Tryz.pinned (OpenSpec.upto ptyHungSpec)

/-- 'parlourlaw17.PtyEvents', WHERE WHAT IT READS IS OF BULK AT MOST 1048576: true; the input reads as it did. -/
def ptyEventsUptoRow : OpenClaim := { program := "ytnfcdbjckdhieaagreat", sum := "ab4b170150df2947fcec5cef1f4d8ffbbf7498d6689f1e8cddb65fc41519c971", func := "parlour/parlourlaw17.PtyEvents", spec := "ptyEvents", inPlace := ["internal/bytealg.MakeNoZero"], unfollowed := true, recurses := true, apart := false, narrowed := true }
def PtyEventsUptoSaid : Prop := ptyEventsUptoRow.holds Tryz.pinned (OpenSpec.upto ptyEventsSpec)

end Rows
end Go.Proofs.YtnfcdbjckdhieaaGreat
