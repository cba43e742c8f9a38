/- Layer 26: what comes of a message, as plain definitions; no condition. -/
import Derived.Test.YtbamojbkehnmkaaMuxD
import Derived.Test.YtbamojbkehnmkaaEngN
namespace Go.Proofs.Ytbamojbkehnmkaa
set_option linter.all false
set_option maxRecDepth 100000
open Go.RowKit

/-- A message's cells. -/
def MD.row (m : MD) : List Value := [.int .i64 m.kind, .int .u32 m.chan, .int .u32 m.sender, .int .u32 m.window, .int .u32 m.packet, .int .u32 m.code, .string m.name, .string m.lang, .bool m.want, .slice m.dA m.data.length m.dc]
theorem mdr_len (m : MD) : m.row.length = 10 := rfl
theorem mdr_one (m : MD) : ∀ u ∈ m.row, u.oneCell' = true := by
  intro u hu
  simp only [MD.row, List.mem_cons, List.not_mem_nil, or_false] at hu
  rcases hu with h | h | h | h | h | h | h | h | h | h <;> subst h <;> rfl
theorem elemMs : ElemT Try.prog 31 28 10 (Try.prog.bytesOf 28) := elemT_of (z := .agg #[.int .i64 0, .int .u32 0, .int .u32 0, .int .u32 0, .int .u32 0, .int .u32 0, .string ⟨#[]⟩, .string ⟨#[]⟩, .bool false, .slice none 0 0]) (by kernel_rfl) (by kernel_rfl) (by decide) (by decide)
/-- An event. -/
structure EV where
  kind : Int
  chan : Int
  code : Int
  name : ByteArray
  want : Bool
  dA : Option Addr
  dn : Nat
  dc : Nat
def EV.row (v : EV) : List Value := [.int .i64 v.kind, .int .u32 v.chan, .int .u32 v.code, .string v.name, .bool v.want, .slice v.dA v.dn v.dc]
def EV.val (v : EV) : Value := .agg #[.int .i64 v.kind, .int .u32 v.chan, .int .u32 v.code, .string v.name, .bool v.want, .slice v.dA v.dn v.dc]
def EV.sc (v : EV) : List SC := [.v (.int .i64 v.kind), .v (.int .u32 v.chan), .v (.int .u32 v.code), .v (.string v.name), .v (.bool v.want), .v (.slice v.dA v.dn v.dc)]
theorem ev_len (v : EV) : v.row.length = 6 := rfl
theorem ev_one (v : EV) : ∀ u ∈ v.row, u.oneCell' = true := by
  intro u hu
  simp only [EV.row, List.mem_cons, List.not_mem_nil, or_false] at hu
  rcases hu with h | h | h | h | h | h <;> subst h <;> rfl
theorem elemEv : ElemT Try.prog 36 77 6 (Try.prog.bytesOf 77) := elemT_of (z := .agg #[.int .i64 0, .int .u32 0, .int .u32 0, .string ⟨#[]⟩, .bool false, .slice none 0 0]) (by kernel_rfl) (by kernel_rfl) (by decide) (by decide)
theorem by_ev : 1 * Try.prog.bytesOf 77 ≤ 140737488355328 := of_decide_eq_true (by kernel_rfl)
theorem by_ms : 1 * Try.prog.bytesOf 28 ≤ 140737488355328 := of_decide_eq_true (by kernel_rfl)
def remP (k : Int) (c : CH) : Bool := c.rem == k
def geP (k : Int) (c : CH) : Bool := decide (c.loc ≥ k)
def session : ByteArray := ⟨#[115, 101, 115, 115, 105, 111, 110]⟩
/-- What comes of a message: channels, dead or not, the kinds and channels of what is sent, the kinds of what is told, an error. -/
structure TR where
  l : List CH
  dead : Bool
  out : List (Int × Int)
  ev : List Int
  err : Int
def wrongR (l : List CH) (e : Int) : TR := ⟨l, true, [(1, 0)], [], e⟩
def newC (l : List CH) (lim : Int) (m : MD) : CH := ⟨freeN l, m.sender, m.window, m.packet, lim, lim, false, false, false, false, 0, false⟩
def atN (c : CH) (l : List CH) : Nat := if ixI (geP c.loc) l < 0 then l.length else (ixI (geP c.loc) l).toNat
theorem atN_le (c : CH) (l : List CH) : atN c l ≤ l.length := by
  have := ixI_lo (geP c.loc) l
  unfold atN
  split <;> omega
def openR (l : List CH) (lim : Int) (m : MD) : TR :=
  if m.name ≠ session then ⟨l, false, [(92, m.sender)], [], 0⟩
  else if 8 ≤ l.length then ⟨l, false, [(92, m.sender)], [], 0⟩
  else if l.any (remP m.sender) then wrongR l 4
  else ⟨insL (atN (newC l lim m) l) (newC l lim m) l, false, [(91, m.sender)], [1], 0⟩
def comesR (l : List CH) (m : MD) (k : Int) : TR := match l[(ixI (locP m.chan) l).toNat]? with
  | none => wrongR l 8
  | some c => if ixI (locP m.chan) l < 0 then wrongR l 8
    else if (recvC c m.kind m.window m.want m.data.length).2 ≠ 0 then wrongR l (recvC c m.kind m.window m.want m.data.length).2
    else ⟨l.set (ixI (locP m.chan) l).toNat (recvC c m.kind m.window m.want m.data.length).1, false, [], [k], 0⟩
def takeR (l : List CH) (lim : Int) (dead : Bool) (m : MD) : TR :=
  if dead then ⟨l, true, [], [], 9⟩
  else if m.kind = 1 then ⟨l, true, [], [7], 0⟩
  else if m.kind = 80 then ⟨l, false, if m.want then [(82, 0)] else [], [], 0⟩
  else if m.kind = 90 then openR l lim m
  else if m.kind = 93 then comesR l m 6
  else if m.kind = 94 then comesR l m 2
  else if m.kind = 95 then comesR l m 2
  else if m.kind = 96 then comesR l m 3
  else if m.kind = 97 then comesR l m 4
  else if m.kind = 98 then comesR l m 5
  else wrongR l 2
/-- How an answer of Take lies. -/
structure MTakeQ (x : MX) (r : TR) (w w' : World) (A : Option Addr) (cap : Nat) (oA : Option Addr) (oC : Nat) (eA : Option Addr) (eC : Nat) : Prop where
  chs : OwnX CH.cells 45 12 w' w.heap.size (.slice A r.l.length cap) r.l
  out : ∃ outs : List MD, outs.map (fun o => (o.kind, o.chan)) = r.out ∧ OwnX MD.row 28 10 w' w.heap.size (.slice oA r.out.length oC) outs
  ev : ∃ evs : List EV, evs.map (·.kind) = r.ev ∧ OwnX EV.row 77 6 w' w.heap.size (.slice eA r.ev.length eC) evs
def MTakeP (x : MX) (r : TR) (w : World) : Ending → World → Prop := fun e w' => ∃ A cap oA oC eA eC, e = .returned (.tuple #[MX.val ⟨A, cap, r.l, x.lim, r.dead⟩, .slice oA r.out.length oC, .slice eA r.ev.length eC, .int .i64 r.err]) ∧ Only [] w w' ∧ MTakeQ x r w w' A cap oA oC eA eC
end Go.Proofs.Ytbamojbkehnmkaa
