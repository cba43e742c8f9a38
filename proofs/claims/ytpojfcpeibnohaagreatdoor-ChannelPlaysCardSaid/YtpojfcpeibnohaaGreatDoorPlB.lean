/- Layer 25: a channel, a message, as they lie in memory; plain definitions; no condition · Layer 25: a message comes; no condition · Layer 25: Recv; no condition · Layer 25: what is sent; no condition · Layer 25: data that goes out, what lets more come; no condition · Layer 25: how a program's end is told; a step; no condition · Layer 25: a step; a channel to and fro; the document's example; no condition · Layer 25: the document's example; no condition · Layer 25: whether steps are more than are looked at; no condition · Layer 25: what holds through any steps; plain law; no condition · A machine of symbols: a struct is equal to itself. Over any program; no condition · The machine: append to an empty literal of bytes; no condition · Layer 25: the reference's channel; no condition · Layer 25: the reference's Recv, Tell, Do; no condition · Layer 25: bytes read and written in place, messages compared; no condition · Layer 25: ChannelPlays: a channel and the reference's, step by step, for all steps; no condition. -/
import Derived.Test.YtpojfcpeibnohaaGreatDoorU
import Derived.Test.YtpojfcpeibnohaaGreatDoorPlA
import Derived.Test.YtpojfcpeibnohaaGreatDoorWinG
import Derived.Test.YtpojfcpeibnohaaGreatDoorReads
import Derived.Test.YtpojfcpeibnohaaGreatDoorOctG
import Derived.Test.YtpojfcpeibnohaaGreatDoorReqH
import Derived.Test.YtpojfcpeibnohaaGreatDoorReqJ
import Derived.Laws.StructEq
import Derived.Test.YtpojfcpeibnohaaGreatDoorReqU
namespace Go.Proofs.YtpojfcpeibnohaaGreatDoor
set_option linter.all false
open Go.RowKit

/-- A message. -/
structure MD where
  kind : Int
  chan : Int
  sender : Int
  window : Int
  packet : Int
  code : Int
  name : ByteArray
  lang : ByteArray
  want : Bool
  dA : Option Addr
  dc : Nat
  data : List Int
def MD.sc (m : MD) : List SC := [.v (.int .i64 m.kind), .v (.int .u32 m.chan), .v (.int .u32 m.sender), .v (.int .u32 m.window), .v (.int .u32 m.packet), .v (.int .u32 m.code), .v (.string m.name), .v (.string m.lang), .v (.bool m.want), .v (.slice m.dA m.data.length m.dc)]
def MD.val (m : MD) : Value := .agg #[.int .i64 m.kind, .int .u32 m.chan, .int .u32 m.sender, .int .u32 m.window, .int .u32 m.packet, .int .u32 m.code, .string m.name, .string m.lang, .bool m.want, .slice m.dA m.data.length m.dc]
structure MD.ok (w : World) (m : MD) : Prop where
  data : RdG (.int .u8) w m.dA m.data
  dle : m.data.length ≤ m.dc
  dmax : m.dc ≤ maxLen
  bytes : ∀ x ∈ m.data, 0 ≤ x ∧ x < 256
  nums : U32 m.chan ∧ U32 m.sender ∧ U32 m.window ∧ U32 m.packet ∧ U32 m.code
  name : m.name.size ≤ maxLen
  lang : m.lang.size ≤ maxLen
/-- A channel. -/
structure CH where
  loc : Int
  rem : Int
  left : Int
  pack : Int
  inl : Int
  lim : Int
  sEof : Bool
  sClose : Bool
  gEof : Bool
  gClose : Bool
  owed : Int
  told : Bool
def CH.sc (c : CH) : List SC := [.v (.int .u32 c.loc), .v (.int .u32 c.rem), .v (.int .u32 c.left), .v (.int .u32 c.pack), .v (.int .u32 c.inl), .v (.int .u32 c.lim), .v (.bool c.sEof), .v (.bool c.sClose), .v (.bool c.gEof), .v (.bool c.gClose), .v (.int .i64 c.owed), .v (.bool c.told)]
def CH.cells (c : CH) : List Value := [.int .u32 c.loc, .int .u32 c.rem, .int .u32 c.left, .int .u32 c.pack, .int .u32 c.inl, .int .u32 c.lim, .bool c.sEof, .bool c.sClose, .bool c.gEof, .bool c.gClose, .int .i64 c.owed, .bool c.told]
def CH.val (c : CH) : Value := .agg #[.int .u32 c.loc, .int .u32 c.rem, .int .u32 c.left, .int .u32 c.pack, .int .u32 c.inl, .int .u32 c.lim, .bool c.sEof, .bool c.sClose, .bool c.gEof, .bool c.gClose, .int .i64 c.owed, .bool c.told]
structure CH.ok (c : CH) : Prop where
  loc : U32 c.loc
  rem : U32 c.rem
  left : U32 c.left
  pack : U32 c.pack
  inl : U32 c.inl
  lim : U32 c.lim
  owed : -9223372036854775808 ≤ c.owed ∧ c.owed ≤ 9223372036854775807
def CH.shut (c : CH) : Bool := c.sEof || c.sClose || c.gClose
/-- A message comes. -/
def recvC (c : CH) (kind win : Int) (want : Bool) (len : Int) : CH × Int :=
  if c.gClose then (c, 9)
  else if kind = 94 ∨ kind = 95 then (if c.gEof then (c, 9) else ({ c with inl := oL c.inl len }, oE c.inl len))
  else if kind = 93 then ({ c with left := gL c.left win }, gE c.left win)
  else if kind = 96 then (if c.gEof then (c, 9) else ({ c with gEof := true }, 0))
  else if kind = 97 then ({ c with gClose := true }, 0)
  else if kind = 98 then (if want then { c with owed := IntKind.i64.wrap (c.owed + 1) } else c, 0)
  else (c, 2)
theorem recvC_err (c : CH) (kind win : Int) (want : Bool) (len : Int) (h : (recvC c kind win want len).2 ≠ 0) : (recvC c kind win want len).1 = c := by
  obtain ⟨x0, x1, x2, x3, x4, x5, b1, b2, b3, b4, x6, b5⟩ := c
  unfold recvC at h ⊢
  unfold oL oE gL gE at *
  repeat' split
  all_goals simp_all
end Go.Proofs.YtpojfcpeibnohaaGreatDoor

namespace Go.Proofs.YtpojfcpeibnohaaGreatDoor
set_option linter.all false
set_option maxRecDepth 100000
open Go.RowKit

/-- A method that takes a message: what it answers, the channel behind it. -/
def TakeP (c : CH) (g : Nat) (w : World) (r : CH × Int) : Ending → World → Prop := fun e w' => e = .returned (.int .i64 r.2) ∧ Only [g] w w' ∧ Blk w' g 31 r.1.cells
section
variable (c : CH) (g : Nat) (w : World) (m : MD)
theorem chStrange_any (hg : Blk w g 31 c.cells) : Calls Tryz.prog 38 #[.pointer (some ⟨g, 0, none⟩), m.val] w (TakeP c g w (c, 2)) := by
  refine Hs.enter Tryz.func38 [g] [g] [.b true 31 c.sc] [.c (.p 0 0), .g m.sc] (Mem.one w g hg) (by kernel_rfl) (by kernel_rfl) ?_
  refine Hs.run1 300 (fun _ => by kernel_rfl) fun b0 => ?_
  refine Hs.ret (v := .int .i64 2) Tryz.func38 (by kernel_rfl) fun w' H => ?_
  exact ⟨rfl, H.only, H.at 0 (wr := true) (cs := c.sc) (by kernel_rfl)⟩
theorem chClosed_any (hg : Blk w g 31 c.cells) : Calls Tryz.prog 42 #[.pointer (some ⟨g, 0, none⟩), m.val] w (TakeP c g w ({ c with gClose := true }, 0)) := by
  refine Hs.enter Tryz.func42 [g] [g] [.b true 31 c.sc] [.c (.p 0 0), .g m.sc] (Mem.one w g hg) (by kernel_rfl) (by kernel_rfl) ?_
  refine Hs.run1 300 (fun _ => by kernel_rfl) fun b0 => ?_
  refine Hs.ret (v := .int .i64 0) Tryz.func42 (by kernel_rfl) fun w' H => ?_
  exact ⟨rfl, H.only, H.at 0 (wr := true) (cs := CH.sc { c with gClose := true }) (by kernel_rfl)⟩
theorem chEof_any (hg : Blk w g 31 c.cells) : Calls Tryz.prog 41 #[.pointer (some ⟨g, 0, none⟩), m.val] w (TakeP c g w (if c.gEof then (c, 9) else ({ c with gEof := true }, 0))) := by
  refine Hs.enter Tryz.func41 [g] [g] [.b true 31 c.sc] [.c (.p 0 0), .g m.sc] (Mem.one w g hg) (by kernel_rfl) (by kernel_rfl) ?_
  refine Hs.run1 300 (fun _ => by kernel_rfl) fun b0 => ?_
  refine Hs.cond c.gEof (by kernel_rfl) (fun h => ?_) (fun h => ?_)
  · rw [if_pos h]
    refine Hs.run0 300 (fun _ => by kernel_rfl) ?_
    refine Hs.ret (v := .int .i64 9) Tryz.func41 (by kernel_rfl) fun w' H => ?_
    exact ⟨rfl, H.only, H.at 0 (wr := true) (cs := c.sc) (by kernel_rfl)⟩
  · rw [if_neg (by simp [h])]
    refine Hs.run0 300 (fun _ => by kernel_rfl) ?_
    refine Hs.ret (v := .int .i64 0) Tryz.func41 (by kernel_rfl) fun w' H => ?_
    exact ⟨rfl, H.only, H.at 0 (wr := true) (cs := CH.sc { c with gEof := true }) (by kernel_rfl)⟩
theorem chAsked_any (hg : Blk w g 31 c.cells) : Calls Tryz.prog 43 #[.pointer (some ⟨g, 0, none⟩), m.val] w (TakeP c g w (if m.want then { c with owed := IntKind.i64.wrap (c.owed + 1) } else c, 0)) := by
  refine Hs.enter Tryz.func43 [g] [g] [.b true 31 c.sc] [.c (.p 0 0), .g m.sc] (Mem.one w g hg) (by kernel_rfl) (by kernel_rfl) ?_
  refine Hs.run1 300 (fun _ => by kernel_rfl) fun b0 => ?_
  refine Hs.cond m.want (by kernel_rfl) (fun h => ?_) (fun h => ?_)
  · rw [if_pos h]
    refine Hs.run0 300 (fun _ => by kernel_rfl) ?_
    refine Hs.ret (v := .int .i64 0) Tryz.func43 (by kernel_rfl) fun w' H => ?_
    exact ⟨rfl, H.only, H.at 0 (wr := true) (cs := CH.sc { c with owed := IntKind.i64.wrap (c.owed + 1) }) (by kernel_rfl)⟩
  · rw [if_neg (by simp [h])]
    refine Hs.run0 300 (fun _ => by kernel_rfl) ?_
    refine Hs.ret (v := .int .i64 0) Tryz.func43 (by kernel_rfl) fun w' H => ?_
    exact ⟨rfl, H.only, H.at 0 (wr := true) (cs := c.sc) (by kernel_rfl)⟩
theorem chData_any (hc : c.ok) (hm : m.data.length ≤ maxLen) (hg : Blk w g 31 c.cells) : Calls Tryz.prog 39 #[.pointer (some ⟨g, 0, none⟩), m.val] w (TakeP c g w (if c.gEof then (c, 9) else ({ c with inl := oL c.inl m.data.length }, oE c.inl m.data.length))) := by
  refine Hs.enter Tryz.func39 [g] [g] [.b true 31 c.sc] [.c (.p 0 0), .g m.sc] (Mem.one w g hg) (by kernel_rfl) (by kernel_rfl) ?_
  refine Hs.run1 300 (fun _ => by kernel_rfl) fun b0 => ?_
  refine Hs.cond c.gEof (by kernel_rfl) (fun h => ?_) (fun h => ?_)
  · rw [if_pos h]
    refine Hs.run0 300 (fun _ => by kernel_rfl) ?_
    refine Hs.ret (v := .int .i64 9) Tryz.func39 (by kernel_rfl) fun w' H => ?_
    exact ⟨rfl, H.only, H.at 0 (wr := true) (cs := c.sc) (by kernel_rfl)⟩
  · rw [if_neg (by simp [h])]
    refine Hs.run0 300 (fun _ => by kernel_rfl) ?_
    refine Hs.any [1] (by kernel_rfl) ?_
    refine Hs.run0 300 (fun _ => by kernel_rfl) ?_
    refine Hs.callV (fun w _ => (got_any c.inl c.lim m.data.length w hc.inl (by unfold maxLen at hm; omega)).mono fun e w' h => ⟨h.1, only_of_below h.2⟩) (by kernel_rfl) ?_
    refine Hs.run0 300 (fun _ => by kernel_rfl) ?_
    refine Hs.ret (v := .int .i64 (oE c.inl m.data.length)) Tryz.func39 (by kernel_rfl) fun w' H => ?_
    exact ⟨rfl, H.only, H.at 0 (wr := true) (cs := CH.sc { c with inl := oL c.inl m.data.length }) (by kernel_rfl)⟩
theorem chAdjust_any (hc : c.ok) (hm : U32 m.window) (hg : Blk w g 31 c.cells) : Calls Tryz.prog 40 #[.pointer (some ⟨g, 0, none⟩), m.val] w (TakeP c g w ({ c with left := gL c.left m.window }, gE c.left m.window)) := by
  refine Hs.enter Tryz.func40 [g] [g] [.b true 31 c.sc] [.c (.p 0 0), .g m.sc] (Mem.one w g hg) (by kernel_rfl) (by kernel_rfl) ?_
  refine Hs.run1 300 (fun _ => by kernel_rfl) fun b0 => ?_
  refine Hs.any [1] (by kernel_rfl) ?_
  refine Hs.run0 300 (fun _ => by kernel_rfl) ?_
  refine Hs.callV (fun w _ => (grant_any c.left c.pack m.window w hc.left hm).mono fun e w' h => ⟨h.1, only_of_below h.2⟩) (by kernel_rfl) ?_
  refine Hs.run0 300 (fun _ => by kernel_rfl) ?_
  refine Hs.ret (v := .int .i64 (gE c.left m.window)) Tryz.func40 (by kernel_rfl) fun w' H => ?_
  exact ⟨rfl, H.only, H.at 0 (wr := true) (cs := CH.sc { c with left := gL c.left m.window }) (by kernel_rfl)⟩
end
end Go.Proofs.YtpojfcpeibnohaaGreatDoor

namespace Go.Proofs.YtpojfcpeibnohaaGreatDoor
set_option linter.all false
set_option maxRecDepth 100000
open Go.RowKit

theorem chRecv_any (c : CH) (m : MD) (w : World) (hc : c.ok) (hw : U32 m.window) (hl : m.data.length ≤ maxLen) : Calls Tryz.prog 18 #[c.val, m.val] w fun e w' => e = .returned (.tuple #[(recvC c m.kind m.window m.want m.data.length).1.val, .int .i64 (recvC c m.kind m.window m.want m.data.length).2]) ∧ Only [] w w' := by
  have hret := recvC_err c m.kind m.window m.want m.data.length
  obtain ⟨r, e⟩ : ∃ r, r = recvC c m.kind m.window m.want m.data.length := ⟨_, rfl⟩
  rw [← e] at hret ⊢
  obtain ⟨d, E⟩ := r
  dsimp only at hret ⊢
  refine Hs.enter Tryz.func18 [] [] [] [.g c.sc, .g m.sc] (Mem.start0 w) (by kernel_rfl) (by kernel_rfl) ?_
  refine Hs.run3 300 (fun _ => by kernel_rfl) fun b0 b1 b2 => ?_
  refine Hs.cond c.gClose (by kernel_rfl) (fun h => ?_) (fun h => ?_)
  · have e : (d, E) = (c, 9) := by rw [e]; unfold recvC; rw [if_pos h]
    injection e with e1 e2
    subst e1; subst e2
    refine Hs.run0 300 (fun _ => by kernel_rfl) ?_
    exact Hs.ret (v := .tuple #[d.val, .int .i64 9]) Tryz.func18 (by kernel_rfl) fun w' H => ⟨rfl, H.only⟩
  refine Hs.run1 300 (fun _ => by kernel_rfl) fun b3 => ?_
  refine Hs.cond (m.kind == 94) (by kernel_rfl) (fun hk => ?_) (fun hk => ?_)
  · have hk : m.kind = 94 := by simpa using hk
    have e : (d, E) = if c.gEof then (c, 9) else ({ c with inl := oL c.inl m.data.length }, oE c.inl m.data.length) := by rw [e]; unfold recvC; rw [if_neg (by rw [h]; decide), if_pos (.inl hk)]
    refine Hs.run0 300 (fun _ => by kernel_rfl) ?_
    refine Hs.cond (m.kind == 94) (by kernel_rfl) (fun _ => ?_) (fun hx => absurd hk (by simpa using hx))
    refine Hs.run0 300 (fun _ => by kernel_rfl) ?_
    refine Hs.callP 0 31 d.sc (v := .int .i64 E) (fun w H => (by have := chData_any c _ w m hc hl (H.at 0 (wr := true) (cs := c.sc) (by kernel_rfl)); rw [← e] at this; exact this)) (by kernel_rfl) (by kernel_rfl) ?_
    refine Hs.run0 300 (fun _ => by kernel_rfl) ?_
    refine Hs.cond (E != 0) (by kernel_rfl) (fun h0 => ?_) (fun h0 => ?_)
    · have hd : c = d := (hret (by simpa using h0)).symm
      subst hd
      refine Hs.run0 300 (fun _ => by kernel_rfl) ?_
      exact Hs.ret (v := .tuple #[c.val, .int .i64 E]) Tryz.func18 (by kernel_rfl) fun w' H => ⟨rfl, H.only⟩
    · have hE : E = 0 := by simpa using h0
      subst hE
      refine Hs.run0 300 (fun _ => by kernel_rfl) ?_
      exact Hs.ret (v := .tuple #[d.val, .int .i64 0]) Tryz.func18 (by kernel_rfl) fun w' H => ⟨rfl, H.only⟩
  have n94 : ¬ m.kind = 94 := by simpa using hk
  clear hk
  refine Hs.run0 300 (fun _ => by kernel_rfl) ?_
  refine Hs.cond (m.kind == 95) (by kernel_rfl) (fun hk => ?_) (fun hk => ?_)
  · have hk : m.kind = 95 := by simpa using hk
    have e : (d, E) = if c.gEof then (c, 9) else ({ c with inl := oL c.inl m.data.length }, oE c.inl m.data.length) := by rw [e]; unfold recvC; rw [if_neg (by rw [h]; decide), if_pos (.inr hk)]
    refine Hs.run0 300 (fun _ => by kernel_rfl) ?_
    refine Hs.callP 0 31 d.sc (v := .int .i64 E) (fun w H => (by have := chData_any c _ w m hc hl (H.at 0 (wr := true) (cs := c.sc) (by kernel_rfl)); rw [← e] at this; exact this)) (by kernel_rfl) (by kernel_rfl) ?_
    refine Hs.run0 300 (fun _ => by kernel_rfl) ?_
    refine Hs.cond (E != 0) (by kernel_rfl) (fun h0 => ?_) (fun h0 => ?_)
    · have hd : c = d := (hret (by simpa using h0)).symm
      subst hd
      refine Hs.run0 300 (fun _ => by kernel_rfl) ?_
      exact Hs.ret (v := .tuple #[c.val, .int .i64 E]) Tryz.func18 (by kernel_rfl) fun w' H => ⟨rfl, H.only⟩
    · have hE : E = 0 := by simpa using h0
      subst hE
      refine Hs.run0 300 (fun _ => by kernel_rfl) ?_
      exact Hs.ret (v := .tuple #[d.val, .int .i64 0]) Tryz.func18 (by kernel_rfl) fun w' H => ⟨rfl, H.only⟩
  have n95 : ¬ m.kind = 95 := by simpa using hk
  clear hk
  refine Hs.run0 300 (fun _ => by kernel_rfl) ?_
  refine Hs.cond (m.kind == 93) (by kernel_rfl) (fun hk => ?_) (fun hk => ?_)
  · have hk : m.kind = 93 := by simpa using hk
    have e : (d, E) = ({ c with left := gL c.left m.window }, gE c.left m.window) := by rw [e]; unfold recvC; rw [if_neg (by rw [h]; decide), if_neg (by omega), if_pos hk]
    refine Hs.run0 300 (fun _ => by kernel_rfl) ?_
    refine Hs.callP 0 31 d.sc (v := .int .i64 E) (fun w H => (by have := chAdjust_any c _ w m hc hw (H.at 0 (wr := true) (cs := c.sc) (by kernel_rfl)); rw [← e] at this; exact this)) (by kernel_rfl) (by kernel_rfl) ?_
    refine Hs.run0 300 (fun _ => by kernel_rfl) ?_
    refine Hs.cond (E != 0) (by kernel_rfl) (fun h0 => ?_) (fun h0 => ?_)
    · have hd : c = d := (hret (by simpa using h0)).symm
      subst hd
      refine Hs.run0 300 (fun _ => by kernel_rfl) ?_
      exact Hs.ret (v := .tuple #[c.val, .int .i64 E]) Tryz.func18 (by kernel_rfl) fun w' H => ⟨rfl, H.only⟩
    · have hE : E = 0 := by simpa using h0
      subst hE
      refine Hs.run0 300 (fun _ => by kernel_rfl) ?_
      exact Hs.ret (v := .tuple #[d.val, .int .i64 0]) Tryz.func18 (by kernel_rfl) fun w' H => ⟨rfl, H.only⟩
  have n93 : ¬ m.kind = 93 := by simpa using hk
  clear hk
  refine Hs.run0 300 (fun _ => by kernel_rfl) ?_
  refine Hs.cond (m.kind == 96) (by kernel_rfl) (fun hk => ?_) (fun hk => ?_)
  · have hk : m.kind = 96 := by simpa using hk
    have e : (d, E) = if c.gEof then (c, 9) else ({ c with gEof := true }, 0) := by rw [e]; unfold recvC; rw [if_neg (by rw [h]; decide), if_neg (by omega), if_neg (by omega), if_pos hk]
    refine Hs.run0 300 (fun _ => by kernel_rfl) ?_
    refine Hs.callP 0 31 d.sc (v := .int .i64 E) (fun w H => (by have := chEof_any c _ w m (H.at 0 (wr := true) (cs := c.sc) (by kernel_rfl)); rw [← e] at this; exact this)) (by kernel_rfl) (by kernel_rfl) ?_
    refine Hs.run0 300 (fun _ => by kernel_rfl) ?_
    refine Hs.cond (E != 0) (by kernel_rfl) (fun h0 => ?_) (fun h0 => ?_)
    · have hd : c = d := (hret (by simpa using h0)).symm
      subst hd
      refine Hs.run0 300 (fun _ => by kernel_rfl) ?_
      exact Hs.ret (v := .tuple #[c.val, .int .i64 E]) Tryz.func18 (by kernel_rfl) fun w' H => ⟨rfl, H.only⟩
    · have hE : E = 0 := by simpa using h0
      subst hE
      refine Hs.run0 300 (fun _ => by kernel_rfl) ?_
      exact Hs.ret (v := .tuple #[d.val, .int .i64 0]) Tryz.func18 (by kernel_rfl) fun w' H => ⟨rfl, H.only⟩
  have n96 : ¬ m.kind = 96 := by simpa using hk
  clear hk
  refine Hs.run0 300 (fun _ => by kernel_rfl) ?_
  refine Hs.cond (m.kind == 97) (by kernel_rfl) (fun hk => ?_) (fun hk => ?_)
  · have hk : m.kind = 97 := by simpa using hk
    have e : (d, E) = ({ c with gClose := true }, 0) := by rw [e]; unfold recvC; rw [if_neg (by rw [h]; decide), if_neg (by omega), if_neg (by omega), if_neg (by omega), if_pos hk]
    refine Hs.run0 300 (fun _ => by kernel_rfl) ?_
    refine Hs.callP 0 31 d.sc (v := .int .i64 E) (fun w H => (by have := chClosed_any c _ w m (H.at 0 (wr := true) (cs := c.sc) (by kernel_rfl)); rw [← e] at this; exact this)) (by kernel_rfl) (by kernel_rfl) ?_
    refine Hs.run0 300 (fun _ => by kernel_rfl) ?_
    refine Hs.cond (E != 0) (by kernel_rfl) (fun h0 => ?_) (fun h0 => ?_)
    · have hd : c = d := (hret (by simpa using h0)).symm
      subst hd
      refine Hs.run0 300 (fun _ => by kernel_rfl) ?_
      exact Hs.ret (v := .tuple #[c.val, .int .i64 E]) Tryz.func18 (by kernel_rfl) fun w' H => ⟨rfl, H.only⟩
    · have hE : E = 0 := by simpa using h0
      subst hE
      refine Hs.run0 300 (fun _ => by kernel_rfl) ?_
      exact Hs.ret (v := .tuple #[d.val, .int .i64 0]) Tryz.func18 (by kernel_rfl) fun w' H => ⟨rfl, H.only⟩
  have n97 : ¬ m.kind = 97 := by simpa using hk
  clear hk
  refine Hs.run0 300 (fun _ => by kernel_rfl) ?_
  refine Hs.cond (m.kind == 98) (by kernel_rfl) (fun hk => ?_) (fun hk => ?_)
  · have hk : m.kind = 98 := by simpa using hk
    have e : (d, E) = (if m.want then { c with owed := IntKind.i64.wrap (c.owed + 1) } else c, 0) := by rw [e]; unfold recvC; rw [if_neg (by rw [h]; decide), if_neg (by omega), if_neg (by omega), if_neg (by omega), if_neg (by omega), if_pos hk]
    refine Hs.run0 300 (fun _ => by kernel_rfl) ?_
    refine Hs.callP 0 31 d.sc (v := .int .i64 E) (fun w H => (by have := chAsked_any c _ w m (H.at 0 (wr := true) (cs := c.sc) (by kernel_rfl)); rw [← e] at this; exact this)) (by kernel_rfl) (by kernel_rfl) ?_
    refine Hs.run0 300 (fun _ => by kernel_rfl) ?_
    refine Hs.cond (E != 0) (by kernel_rfl) (fun h0 => ?_) (fun h0 => ?_)
    · have hd : c = d := (hret (by simpa using h0)).symm
      subst hd
      refine Hs.run0 300 (fun _ => by kernel_rfl) ?_
      exact Hs.ret (v := .tuple #[c.val, .int .i64 E]) Tryz.func18 (by kernel_rfl) fun w' H => ⟨rfl, H.only⟩
    · have hE : E = 0 := by simpa using h0
      subst hE
      refine Hs.run0 300 (fun _ => by kernel_rfl) ?_
      exact Hs.ret (v := .tuple #[d.val, .int .i64 0]) Tryz.func18 (by kernel_rfl) fun w' H => ⟨rfl, H.only⟩
  have n98 : ¬ m.kind = 98 := by simpa using hk
  clear hk
  have e : (d, E) = (c, 2) := by rw [e]; unfold recvC; rw [if_neg (by rw [h]; decide), if_neg (by omega), if_neg (by omega), if_neg (by omega), if_neg (by omega), if_neg (by omega)]
  refine Hs.run0 300 (fun _ => by kernel_rfl) ?_
  refine Hs.callP 0 31 d.sc (v := .int .i64 E) (fun w H => (by have := chStrange_any c _ w m (H.at 0 (wr := true) (cs := c.sc) (by kernel_rfl)); rw [← e] at this; exact this)) (by kernel_rfl) (by kernel_rfl) ?_
  refine Hs.run0 300 (fun _ => by kernel_rfl) ?_
  refine Hs.cond (E != 0) (by kernel_rfl) (fun h0 => ?_) (fun h0 => ?_)
  · have hd : c = d := (hret (by simpa using h0)).symm
    subst hd
    refine Hs.run0 300 (fun _ => by kernel_rfl) ?_
    exact Hs.ret (v := .tuple #[c.val, .int .i64 E]) Tryz.func18 (by kernel_rfl) fun w' H => ⟨rfl, H.only⟩
  · have hE : E = 0 := by simpa using h0
    subst hE
    refine Hs.run0 300 (fun _ => by kernel_rfl) ?_
    exact Hs.ret (v := .tuple #[d.val, .int .i64 0]) Tryz.func18 (by kernel_rfl) fun w' H => ⟨rfl, H.only⟩
end Go.Proofs.YtpojfcpeibnohaaGreatDoor

namespace Go.Proofs.YtpojfcpeibnohaaGreatDoor
set_option linter.all false
set_option maxRecDepth 100000
open Go.RowKit

/-- What is sent. -/
structure OM where
  kind : Int
  chan : Int
  window : Int
  code : Int
  name : ByteArray
  data : List Int
def om0 : OM := ⟨0, 0, 0, 0, ⟨#[]⟩, []⟩
def omK (c : CH) (k : Int) : OM := ⟨k, c.rem, 0, 0, ⟨#[]⟩, []⟩
def omV (o : OM) (A : Option Addr) (cap : Nat) : Value := .agg #[.int .i64 o.kind, .int .u32 o.chan, .int .u32 0, .int .u32 o.window, .int .u32 0, .int .u32 o.code, .string o.name, .string ⟨#[]⟩, .bool false, .slice A o.data.length cap]
def roomC (c : CH) (n : Int) : Int := if c.shut then 0 else fT c.left c.pack n
def dataC (c : CH) (code : Int) (b : List Int) : CH × OM × Int :=
  if c.shut then (c, om0, 9)
  else if sE c.left c.pack b.length ≠ 0 then (c, om0, sE c.left c.pack b.length)
  else ({ c with left := sL c.left c.pack b.length }, ⟨if code ≠ 0 then 95 else 94, c.rem, 0, code, ⟨#[]⟩, b⟩, 0)
def replyC (c : CH) (ok : Bool) : CH × OM × Int :=
  if c.owed ≤ 0 ∨ c.sClose = true then (c, om0, 9) else ({ c with owed := IntKind.i64.wrap (c.owed - 1) }, omK c (if ok then 99 else 100), 0)
def grantC (c : CH) (n : Int) : CH × OM × Int :=
  if fR c.inl c.lim n = 0 ∨ c.gEof = true ∨ c.sClose = true ∨ c.gClose = true then (c, om0, 1)
  else ({ c with inl := fL c.inl c.lim n }, ⟨93, c.rem, fR c.inl c.lim n, 0, ⟨#[]⟩, []⟩, 0)
def eofC (c : CH) : CH × OM × Int := if c.sEof = true ∨ c.sClose = true then (c, om0, 9) else ({ c with sEof := true }, omK c 96, 0)
def closeC (c : CH) : CH × OM × Int := if c.sClose = true ∨ 0 < c.owed then (c, om0, 9) else ({ c with sClose := true }, omK c 97, 0)
/-- What a step answers. -/
def StepO (w : World) (r : CH × OM × Int) : Ending → World → Prop := fun e w' => Only [] w w' ∧ ∃ A cap, e = .returned (.tuple #[r.1.val, omV r.2.1 A cap, .int .i64 r.2.2]) ∧ Bs w' w.heap.size A r.2.1.data cap
theorem Bs.none (w : World) (B : Nat) : Bs w B none [] 0 := ⟨fun h => absurd h (Nat.lt_irrefl _), Nat.le_refl _, Nat.zero_le _, fun a h => (by cases h), fun a h => (by cases h)⟩
theorem Bs.stable {B : Nat} {A : Option Addr} {l : List Int} {c : Nat} {w w' : World} (h1 : ∀ a, A = some a → w'.heap[a.block]? = w.heap[a.block]?) (h2 : w.heap.size ≤ w'.heap.size) (h : Bs w B A l c) : Bs w' B A l c := by
  refine ⟨fun h0 => ?_, h.le, h.max, h.new, fun a ha i hi => ?_⟩
  · obtain ⟨b, off, rfl, hlt, hc⟩ := h.rd h0
    exact ⟨b, off, rfl, by omega, fun i v hi => (World.cell?_of_block (w := w) (show w'.heap[b]? = w.heap[b]? from h1 _ rfl)).trans (hc i v hi)⟩
  · have := h.soft a ha i hi
    unfold World.frozen? at this ⊢
    have e : (a.add i).block = a.block := by unfold Addr.add; split <;> rfl
    rw [e] at this ⊢
    rw [h1 a ha]
    exact this
theorem Bs.mono {w : World} {B B' : Nat} {A : Option Addr} {l : List Int} {c : Nat} (h : Bs w B A l c) (hb : B' ≤ B) : Bs w B' A l c := ⟨h.rd, h.le, h.max, fun a ha => Nat.le_trans hb (h.new a ha), h.soft⟩
theorem chShut_any (c : CH) (w : World) : Calls Tryz.prog 23 #[c.val] w fun e w' => e = .returned (.bool c.shut) ∧ Only [] w w' := by
  refine Hs.enter Tryz.func23 [] [] [] [.g c.sc] (Mem.start0 w) (by kernel_rfl) (by kernel_rfl) ?_
  refine Hs.run1 300 (fun _ => by kernel_rfl) fun b0 => ?_
  have fin : ∀ b : Bool, c.shut = b → c.shut = b := fun _ h => h
  refine Hs.bool 5 c.sEof (by kernel_rfl) (fun h1 => ?_) (fun h1 => ?_)
  · refine Hs.rung0 [2] 300 (fun _ => by kernel_rfl) ?_
    refine Hs.bool 9 true (by kernel_rfl) (fun _ => ?_) (fun h => by cases h)
    refine Hs.rung0 [2, 6] 300 (fun _ => by kernel_rfl) ?_
    exact Hs.ret (v := .bool true) Tryz.func23 (by kernel_rfl) fun w' H => ⟨by simp [CH.shut, h1], H.only⟩
  · refine Hs.rung0 [2] 300 (fun _ => by kernel_rfl) ?_
    refine Hs.bool 9 c.sClose (by kernel_rfl) (fun h2 => ?_) (fun h2 => ?_)
    · refine Hs.rung0 [2, 6] 300 (fun _ => by kernel_rfl) ?_
      exact Hs.ret (v := .bool true) Tryz.func23 (by kernel_rfl) fun w' H => ⟨by simp [CH.shut, h2], H.only⟩
    · refine Hs.rung0 [2, 6] 300 (fun _ => by kernel_rfl) ?_
      exact Hs.ret (v := .bool c.gClose) Tryz.func23 (by kernel_rfl) fun w' H => ⟨by simp [CH.shut, h1, h2], H.only⟩
theorem chMsg_any (c : CH) (k : Int) (w : World) : Calls Tryz.prog 36 #[c.val, .int .i64 k] w fun e w' => e = .returned (omV (omK c k) none 0) ∧ Only [] w w' := by
  refine Hs.enter Tryz.func36 [] [] [] [.g c.sc, .c (.v (.int .i64 k))] (Mem.start0 w) (by kernel_rfl) (by kernel_rfl) ?_
  refine Hs.run2 300 (fun _ => by kernel_rfl) fun b0 b1 => ?_
  exact Hs.ret (v := omV (omK c k) none 0) Tryz.func36 (by kernel_rfl) fun w' H => ⟨rfl, H.only⟩
theorem chRoom_any (c : CH) (k : Int) (w : World) (hc : c.ok) : Calls Tryz.prog 11 #[c.val, .int .i64 k] w fun e w' => e = .returned (.int .i64 (roomC c k)) ∧ Only [] w w' := by
  refine Hs.enter Tryz.func11 [] [] [] [.g c.sc, .c (.v (.int .i64 k))] (Mem.start0 w) (by kernel_rfl) (by kernel_rfl) ?_
  refine Hs.run1 300 (fun _ => by kernel_rfl) fun b0 => ?_
  refine Hs.callV (fun w _ => chShut_any c w) (by kernel_rfl) ?_
  refine Hs.run0 300 (fun _ => by kernel_rfl) ?_
  refine Hs.cond c.shut (by kernel_rfl) (fun h => ?_) (fun h => ?_)
  · refine Hs.run0 300 (fun _ => by kernel_rfl) ?_
    exact Hs.ret (v := .int .i64 0) Tryz.func11 (by kernel_rfl) fun w' H => ⟨by unfold roomC; rw [if_pos h], H.only⟩
  · refine Hs.run0 300 (fun _ => by kernel_rfl) ?_
    refine Hs.callV (fun w _ => (fit_any c.left c.pack k w hc.left hc.pack).mono fun e w' h => ⟨h.1, only_of_below h.2⟩) (by kernel_rfl) ?_
    refine Hs.run0 300 (fun _ => by kernel_rfl) ?_
    exact Hs.ret (v := .int .i64 (fT c.left c.pack k)) Tryz.func11 (by kernel_rfl) fun w' H => ⟨by unfold roomC; rw [if_neg (by simp [h])], H.only⟩
theorem chSendEof_any (c : CH) (w : World) : Calls Tryz.prog 16 #[c.val] w (StepO w (eofC c)) := by
  refine Hs.enter Tryz.func16 [] [] [] [.g c.sc] (Mem.start0 w) (by kernel_rfl) (by kernel_rfl) ?_
  refine Hs.run3 300 (fun _ => by kernel_rfl) fun b0 b1 b2 => ?_
  refine Hs.bool 7 c.sEof (by kernel_rfl) (fun h1 => ?_) (fun h1 => ?_)
  · refine Hs.rung0 [2] 300 (fun _ => by kernel_rfl) ?_
    refine Hs.cond true (by kernel_rfl) (fun _ => ?_) (fun h => by cases h)
    refine Hs.run0 300 (fun _ => by kernel_rfl) ?_
    exact Hs.ret (v := .tuple #[c.val, omV om0 none 0, .int .i64 9]) Tryz.func16 (by kernel_rfl) fun w' H => by rw [show eofC c = _ from if_pos (.inl h1)]; exact ⟨H.only, none, 0, rfl, Bs.none _ _⟩
  · refine Hs.rung0 [2] 300 (fun _ => by kernel_rfl) ?_
    refine Hs.cond c.sClose (by kernel_rfl) (fun h2 => ?_) (fun h2 => ?_)
    · refine Hs.run0 300 (fun _ => by kernel_rfl) ?_
      exact Hs.ret (v := .tuple #[c.val, omV om0 none 0, .int .i64 9]) Tryz.func16 (by kernel_rfl) fun w' H => by rw [show eofC c = _ from if_pos (.inr h2)]; exact ⟨H.only, none, 0, rfl, Bs.none _ _⟩
    · refine Hs.run0 300 (fun _ => by kernel_rfl) ?_
      refine Hs.any [0] (by kernel_rfl) ?_
      refine Hs.run0 300 (fun _ => by kernel_rfl) ?_
      refine Hs.callV (fun w _ => chMsg_any { c with sEof := true } 96 w) (by kernel_rfl) ?_
      refine Hs.run0 300 (fun _ => by kernel_rfl) ?_
      exact Hs.ret (v := .tuple #[CH.val { c with sEof := true }, omV (omK c 96) none 0, .int .i64 0]) Tryz.func16 (by kernel_rfl) fun w' H => by rw [show eofC c = _ from if_neg (by simp [h1, h2]; try omega)]; exact ⟨H.only, none, 0, rfl, Bs.none _ _⟩
theorem chSendClose_any (c : CH) (w : World) : Calls Tryz.prog 22 #[c.val] w (StepO w (closeC c)) := by
  refine Hs.enter Tryz.func22 [] [] [] [.g c.sc] (Mem.start0 w) (by kernel_rfl) (by kernel_rfl) ?_
  refine Hs.run3 300 (fun _ => by kernel_rfl) fun b0 b1 b2 => ?_
  refine Hs.bool 7 c.sClose (by kernel_rfl) (fun h1 => ?_) (fun h1 => ?_)
  · refine Hs.rung0 [2] 300 (fun _ => by kernel_rfl) ?_
    refine Hs.cond true (by kernel_rfl) (fun _ => ?_) (fun h => by cases h)
    refine Hs.run0 300 (fun _ => by kernel_rfl) ?_
    exact Hs.ret (v := .tuple #[c.val, omV om0 none 0, .int .i64 9]) Tryz.func22 (by kernel_rfl) fun w' H => by rw [show closeC c = _ from if_pos (.inl h1)]; exact ⟨H.only, none, 0, rfl, Bs.none _ _⟩
  · refine Hs.rung0 [2] 300 (fun _ => by kernel_rfl) ?_
    refine Hs.condP (0 < c.owed) (by kernel_rfl) (fun h2 => ?_) (fun h2 => ?_)
    · refine Hs.run0 300 (fun _ => by kernel_rfl) ?_
      exact Hs.ret (v := .tuple #[c.val, omV om0 none 0, .int .i64 9]) Tryz.func22 (by kernel_rfl) fun w' H => by rw [show closeC c = _ from if_pos (.inr h2)]; exact ⟨H.only, none, 0, rfl, Bs.none _ _⟩
    · refine Hs.run0 300 (fun _ => by kernel_rfl) ?_
      refine Hs.any [0] (by kernel_rfl) ?_
      refine Hs.run0 300 (fun _ => by kernel_rfl) ?_
      refine Hs.callV (fun w _ => chMsg_any { c with sClose := true } 97 w) (by kernel_rfl) ?_
      refine Hs.run0 300 (fun _ => by kernel_rfl) ?_
      exact Hs.ret (v := .tuple #[CH.val { c with sClose := true }, omV (omK c 97) none 0, .int .i64 0]) Tryz.func22 (by kernel_rfl) fun w' H => by rw [show closeC c = _ from if_neg (by simp [h1, h2]; try omega)]; exact ⟨H.only, none, 0, rfl, Bs.none _ _⟩
theorem chReply_any (c : CH) (ok : Bool) (w : World) : Calls Tryz.prog 19 #[c.val, .bool ok] w (StepO w (replyC c ok)) := by
  refine Hs.enter Tryz.func19 [] [] [] [.g c.sc, .c (.v (.bool ok))] (Mem.start0 w) (by kernel_rfl) (by kernel_rfl) ?_
  refine Hs.run3 300 (fun _ => by kernel_rfl) fun b0 b1 b2 => ?_
  refine Hs.bool 11 (decide (c.owed ≤ 0)) (by kernel_rfl) (fun h1 => ?_) (fun h1 => ?_)
  · refine Hs.rung0 [3] 300 (fun _ => by kernel_rfl) ?_
    refine Hs.cond true (by kernel_rfl) (fun _ => ?_) (fun h => by cases h)
    refine Hs.run0 300 (fun _ => by kernel_rfl) ?_
    exact Hs.ret (v := .tuple #[c.val, omV om0 none 0, .int .i64 9]) Tryz.func19 (by kernel_rfl) fun w' H => by rw [show replyC c ok = _ from if_pos (.inl (of_decide_eq_true h1))]; exact ⟨H.only, none, 0, rfl, Bs.none _ _⟩
  · refine Hs.rung0 [3] 300 (fun _ => by kernel_rfl) ?_
    refine Hs.cond c.sClose (by kernel_rfl) (fun h2 => ?_) (fun h2 => ?_)
    · refine Hs.run0 300 (fun _ => by kernel_rfl) ?_
      exact Hs.ret (v := .tuple #[c.val, omV om0 none 0, .int .i64 9]) Tryz.func19 (by kernel_rfl) fun w' H => by rw [show replyC c ok = _ from if_pos (.inr h2)]; exact ⟨H.only, none, 0, rfl, Bs.none _ _⟩
    · refine Hs.run0 300 (fun _ => by kernel_rfl) ?_
      refine Hs.cond ok (by kernel_rfl) (fun h3 => ?_) (fun h3 => ?_)
      · refine Hs.run0 300 (fun _ => by kernel_rfl) ?_
        refine Hs.any [0] (by kernel_rfl) ?_
        refine Hs.run0 300 (fun _ => by kernel_rfl) ?_
        refine Hs.callV (fun w _ => chMsg_any { c with owed := IntKind.i64.wrap (c.owed - 1) } 99 w) (by kernel_rfl) ?_
        refine Hs.run0 300 (fun _ => by kernel_rfl) ?_
        exact Hs.ret (v := .tuple #[CH.val { c with owed := IntKind.i64.wrap (c.owed - 1) }, omV (omK c 99) none 0, .int .i64 0]) Tryz.func19 (by kernel_rfl) fun w' H => by rw [show replyC c ok = _ from if_neg (by have := of_decide_eq_false h1; simp [h2]; omega), h3]; exact ⟨H.only, none, 0, rfl, Bs.none _ _⟩
      · refine Hs.run0 300 (fun _ => by kernel_rfl) ?_
        refine Hs.any [0] (by kernel_rfl) ?_
        refine Hs.run0 300 (fun _ => by kernel_rfl) ?_
        refine Hs.callV (fun w _ => chMsg_any { c with owed := IntKind.i64.wrap (c.owed - 1) } 100 w) (by kernel_rfl) ?_
        refine Hs.run0 300 (fun _ => by kernel_rfl) ?_
        exact Hs.ret (v := .tuple #[CH.val { c with owed := IntKind.i64.wrap (c.owed - 1) }, omV (omK c 100) none 0, .int .i64 0]) Tryz.func19 (by kernel_rfl) fun w' H => by rw [show replyC c ok = _ from if_neg (by have := of_decide_eq_false h1; simp [h2]; omega), h3]; exact ⟨H.only, none, 0, rfl, Bs.none _ _⟩
end Go.Proofs.YtpojfcpeibnohaaGreatDoor

namespace Go.Proofs.YtpojfcpeibnohaaGreatDoor
set_option linter.all false
set_option maxRecDepth 100000
open Go.RowKit

/-- Bytes of a call's making, held by a fact. -/
def aoB (l : List Int) (A : Option Addr) : Option Addr := if l.length = 0 then none else A
theorem bs_st {B : Nat} {A : Option Addr} {l : List Int} {c : Nat} (w w' : World) (h1 : ∀ a, aoB l A = some a → w'.heap[a.block]? = w.heap[a.block]?) (h2 : w.heap.size ≤ w'.heap.size) (h : Bs w B A l c) : Bs w' B A l c := by
  by_cases h0 : l.length = 0
  · exact ⟨fun h3 => by omega, h.le, h.max, h.new, fun a _ i hi => by omega⟩
  · refine Bs.stable (fun a ha => h1 a ?_) h2 h
    unfold aoB
    rw [if_neg h0]; exact ha
theorem bs_new {w w' : World} {A : Option Addr} {l : List Int} {c : Nat} (h : Bs w' w.heap.size A l c) : ∀ a, aoB l A = some a → w.heap.size ≤ a.block ∧ a.block < w'.heap.size := by
  intro a ha
  unfold aoB at ha
  split at ha
  · cases ha
  · rename_i h0
    refine ⟨h.new a ha, ?_⟩
    obtain ⟨b, off, e, hlt, _⟩ := h.rd (by omega)
    rw [ha] at e; injection e with e; subst e; exact hlt
theorem ownB_bs {w : World} {base : Nat} {v : Value} {l : List Int} (h : OwnB w base v l) (hb : base ≤ w.heap.size) : ∃ A cap, v = .slice A l.length cap ∧ Bs w base A l cap := by
  have hs := h
  rcases h with ⟨h1, ⟨rfl, hn⟩ | ⟨g, cap, cur, rfl, hg, hh, hc, hm, hz, ht⟩⟩
  · exact ⟨none, 0, by rw [hn], ⟨fun h3 => by omega, by omega, by simp [maxLen], fun a ha => (by cases ha), fun a ha => (by cases ha)⟩⟩
  · refine ⟨_, cap, rfl, ⟨?_, hc, hm, fun a ha => (by injection ha with ha; subst ha; exact hg), hs.soft⟩⟩
    obtain ⟨A', c', e, hr, _⟩ := hs.rd
    injection e with e1 e2 e3
    subst e1
    exact hr
theorem chData2_any (c : CH) (code : Int) (bA : Option Addr) (b : List Int) (bc : Nat) (w : World) (hc : c.ok) (hr : Rd w bA b) : Calls Tryz.prog 15 #[c.val, .int .u32 code, .slice bA b.length bc] w (StepO w (dataC c code b)) := by
  refine Hs.enter Tryz.func15 [] [] [] [.g c.sc, .c (.v (.int .u32 code)), .c (.v (.slice bA b.length bc))] (Mem.start0 w) (by kernel_rfl) (by kernel_rfl) ?_
  refine Hs.run3 300 (fun _ => by kernel_rfl) fun b0 b1 b2 => ?_
  refine Hs.callV (fun w _ => chShut_any c w) (by kernel_rfl) ?_
  refine Hs.run0 300 (fun _ => by kernel_rfl) ?_
  refine Hs.cond c.shut (by kernel_rfl) (fun h => ?_) (fun h => ?_)
  · refine Hs.run0 300 (fun _ => by kernel_rfl) ?_
    exact Hs.ret (v := .tuple #[c.val, omV om0 none 0, .int .i64 9]) Tryz.func15 (by kernel_rfl) fun w' H => by rw [show dataC c code b = _ from if_pos h]; exact ⟨H.only, none, 0, rfl, Bs.none _ _⟩
  refine Hs.run0 300 (fun _ => by kernel_rfl) ?_
  refine Hs.callV (fun w _ => (sent_any c.left c.pack b.length w hc.left hc.pack).mono fun e w' h => ⟨h.1, only_of_below h.2⟩) (by kernel_rfl) ?_
  refine Hs.run1 300 (fun _ => by kernel_rfl) fun b0 => ?_
  refine Hs.cond (sE c.left c.pack b.length != 0) (by kernel_rfl) (fun h2 => ?_) (fun h2 => ?_)
  · refine Hs.run0 300 (fun _ => by kernel_rfl) ?_
    exact Hs.ret (v := .tuple #[c.val, omV om0 none 0, .int .i64 (sE c.left c.pack b.length)]) Tryz.func15 (by kernel_rfl) fun w' H => by rw [show dataC c code b = _ from (if_neg (by simp [h])).trans (if_pos (by simpa using h2))]; exact ⟨H.only, none, 0, rfl, Bs.none _ _⟩
  have hb : b.length ≤ 140737488355000 := by
    have h2 : sE c.left c.pack b.length = 0 := by simpa using h2
    unfold sE at h2
    split at h2
    · rename_i h3
      have := once_rng c.left c.pack hc.left.1 hc.pack.1
      omega
    · cases h2
  refine Hs.run0 300 (fun _ => by kernel_rfl) ?_
  refine Hs.callV (fun w _ => chMsg_any { c with left := sL c.left c.pack b.length } 94 w) (by kernel_rfl) ?_
  refine Hs.run1 300 (fun _ => by kernel_rfl) fun b0 => ?_
  refine Hs.cond (code != 0) (by kernel_rfl) (fun h3 => ?_) (fun h3 => ?_)
  · refine Hs.run0 300 (fun _ => by kernel_rfl) ?_
    refine Hs.callV (fun w _ => chMsg_any { c with left := sL c.left c.pack b.length } 95 w) (by kernel_rfl) ?_
    have hd : dataC c code b = ({ c with left := sL c.left c.pack b.length }, ⟨95, c.rem, 0, code, ⟨#[]⟩, b⟩, 0) := by
      refine (if_neg (by simp [h])).trans ((if_neg (by simpa using h2)).trans ?_)
      rw [if_pos (by simpa using h3)]
    refine Hs.run0 300 (fun _ => by kernel_rfl) ?_
    refine Hs.callQ (X := Option Addr × Nat) (fun x => aoB b x.1) (fun x => .slice x.1 b.length x.2) (fun x w' => Bs w' w.heap.size x.1 b x.2) (fun x => bs_st) (fun w' H => (clone_any w' bA b bc (hr.only H.only) hb).mono (by
      rintro e w2 ⟨O, A', c', rfl, hB⟩
      exact ⟨(A', c'), rfl, O, hB.mono H.only.size, bs_new hB⟩)) (by kernel_rfl) (by kernel_rfl) fun x => ?_
    refine Hs.run0 300 (fun _ => by kernel_rfl) ?_
    refine Hs.any [0, 4] (by kernel_rfl) ?_
    refine Hs.run0 300 (fun _ => by kernel_rfl) ?_
    refine Hs.ret (v := .tuple #[CH.val { c with left := sL c.left c.pack b.length }, omV ⟨95, c.rem, 0, code, ⟨#[]⟩, b⟩ x.1 x.2, .int .i64 0]) Tryz.func15 (by kernel_rfl) fun w' H => ?_
    rw [hd]
    exact ⟨H.only, x.1, x.2, rfl, H.atQ 5 (wr := true) (A := aoB b x.1) (Q := fun w' => Bs w' w.heap.size x.1 b x.2) (st := bs_st) (by kernel_rfl)⟩
  · have hd : dataC c code b = ({ c with left := sL c.left c.pack b.length }, ⟨94, c.rem, 0, code, ⟨#[]⟩, b⟩, 0) := by
      refine (if_neg (by simp [h])).trans ((if_neg (by simpa using h2)).trans ?_)
      rw [if_neg (by simpa using h3)]
    refine Hs.run0 300 (fun _ => by kernel_rfl) ?_
    refine Hs.callQ (X := Option Addr × Nat) (fun x => aoB b x.1) (fun x => .slice x.1 b.length x.2) (fun x w' => Bs w' w.heap.size x.1 b x.2) (fun x => bs_st) (fun w' H => (clone_any w' bA b bc (hr.only H.only) hb).mono (by
      rintro e w2 ⟨O, A', c', rfl, hB⟩
      exact ⟨(A', c'), rfl, O, hB.mono H.only.size, bs_new hB⟩)) (by kernel_rfl) (by kernel_rfl) fun x => ?_
    refine Hs.run0 300 (fun _ => by kernel_rfl) ?_
    refine Hs.any [0, 4] (by kernel_rfl) ?_
    refine Hs.run0 300 (fun _ => by kernel_rfl) ?_
    refine Hs.ret (v := .tuple #[CH.val { c with left := sL c.left c.pack b.length }, omV ⟨94, c.rem, 0, code, ⟨#[]⟩, b⟩ x.1 x.2, .int .i64 0]) Tryz.func15 (by kernel_rfl) fun w' H => ?_
    rw [hd]
    exact ⟨H.only, x.1, x.2, rfl, H.atQ 5 (wr := true) (A := aoB b x.1) (Q := fun w' => Bs w' w.heap.size x.1 b x.2) (st := bs_st) (by kernel_rfl)⟩
theorem chGrant_any (c : CH) (k : Int) (w : World) (hc : c.ok) (hk : -9223372036854775808 ≤ k ∧ k ≤ 9223372036854775807) : Calls Tryz.prog 20 #[c.val, .int .i64 k] w fun e w' => e = .returned (.tuple #[(grantC c k).1.val, omV (grantC c k).2.1 none 0, .bool (decide ((grantC c k).2.2 = 0))]) ∧ Only [] w w' := by
  refine Hs.enter Tryz.func20 [] [] [] [.g c.sc, .c (.v (.int .i64 k))] (Mem.start0 w) (by kernel_rfl) (by kernel_rfl) ?_
  refine Hs.run3 300 (fun _ => by kernel_rfl) fun b0 b1 b2 => ?_
  refine Hs.callV (fun w _ => (refill_any c.inl c.lim k w hc.inl hc.lim hk).mono fun e w' h => ⟨h.1, only_of_below h.2⟩) (by kernel_rfl) ?_
  refine Hs.run1 300 (fun _ => by kernel_rfl) fun b0 => ?_
  refine Hs.bool 19 (fR c.inl c.lim k == 0) (by kernel_rfl) (fun h1 => ?_) (fun h1 => ?_)
  · refine Hs.rung0 [2] 300 (fun _ => by kernel_rfl) ?_
    refine Hs.bool 23 true (by kernel_rfl) (fun _ => ?_) (fun h => by cases h)
    refine Hs.rung0 [2, 6] 300 (fun _ => by kernel_rfl) ?_
    refine Hs.bool 27 true (by kernel_rfl) (fun _ => ?_) (fun h => by cases h)
    refine Hs.rung0 [2, 6, 10] 300 (fun _ => by kernel_rfl) ?_
    refine Hs.cond true (by kernel_rfl) (fun _ => ?_) (fun h => by cases h)
    refine Hs.run0 300 (fun _ => by kernel_rfl) ?_
    exact Hs.ret (v := .tuple #[c.val, omV om0 none 0, .bool false]) Tryz.func20 (by kernel_rfl) fun w' H => by rw [show grantC c k = _ from if_pos (.inl (by simpa using h1))]; exact ⟨rfl, H.only⟩
  refine Hs.rung0 [2] 300 (fun _ => by kernel_rfl) ?_
  refine Hs.bool 23 c.gEof (by kernel_rfl) (fun h2 => ?_) (fun h2 => ?_)
  · refine Hs.rung0 [2, 6] 300 (fun _ => by kernel_rfl) ?_
    refine Hs.bool 27 true (by kernel_rfl) (fun _ => ?_) (fun h => by cases h)
    refine Hs.rung0 [2, 6, 10] 300 (fun _ => by kernel_rfl) ?_
    refine Hs.cond true (by kernel_rfl) (fun _ => ?_) (fun h => by cases h)
    refine Hs.run0 300 (fun _ => by kernel_rfl) ?_
    exact Hs.ret (v := .tuple #[c.val, omV om0 none 0, .bool false]) Tryz.func20 (by kernel_rfl) fun w' H => by rw [show grantC c k = _ from if_pos (.inr (.inl h2))]; exact ⟨rfl, H.only⟩
  refine Hs.rung0 [2, 6] 300 (fun _ => by kernel_rfl) ?_
  refine Hs.bool 27 c.sClose (by kernel_rfl) (fun h3 => ?_) (fun h3 => ?_)
  · refine Hs.rung0 [2, 6, 10] 300 (fun _ => by kernel_rfl) ?_
    refine Hs.cond true (by kernel_rfl) (fun _ => ?_) (fun h => by cases h)
    refine Hs.run0 300 (fun _ => by kernel_rfl) ?_
    exact Hs.ret (v := .tuple #[c.val, omV om0 none 0, .bool false]) Tryz.func20 (by kernel_rfl) fun w' H => by rw [show grantC c k = _ from if_pos (.inr (.inr (.inl h3)))]; exact ⟨rfl, H.only⟩
  refine Hs.rung0 [2, 6, 10] 300 (fun _ => by kernel_rfl) ?_
  refine Hs.cond c.gClose (by kernel_rfl) (fun h4 => ?_) (fun h4 => ?_)
  · refine Hs.run0 300 (fun _ => by kernel_rfl) ?_
    exact Hs.ret (v := .tuple #[c.val, omV om0 none 0, .bool false]) Tryz.func20 (by kernel_rfl) fun w' H => by rw [show grantC c k = _ from if_pos (.inr (.inr (.inr h4)))]; exact ⟨rfl, H.only⟩
  refine Hs.run0 300 (fun _ => by kernel_rfl) ?_
  refine Hs.callV (fun w _ => chMsg_any { c with inl := fL c.inl c.lim k } 93 w) (by kernel_rfl) ?_
  refine Hs.run1 300 (fun _ => by kernel_rfl) fun b0 => ?_
  refine Hs.any [0, 4] (by kernel_rfl) ?_
  refine Hs.run0 300 (fun _ => by kernel_rfl) ?_
  exact Hs.ret (v := .tuple #[CH.val { c with inl := fL c.inl c.lim k }, omV ⟨93, c.rem, fR c.inl c.lim k, 0, ⟨#[]⟩, []⟩ none 0, .bool true]) Tryz.func20 (by kernel_rfl) fun w' H => by rw [show grantC c k = _ from if_neg (by simp [h2, h3, h4]; simpa using h1)]; exact ⟨rfl, H.only⟩
end Go.Proofs.YtpojfcpeibnohaaGreatDoor

namespace Go.Proofs.YtpojfcpeibnohaaGreatDoor
set_option linter.all false
set_option maxRecDepth 100000
open Go.RowKit

def RQ.sc (m : RQ) : List SC := [.v (.int .i64 m.kind), .v (.string m.text), .v (.string m.value), .v (.string m.lang), .v (.int .u32 m.cols), .v (.int .u32 m.rows), .v (.int .u32 m.width), .v (.int .u32 m.height), .v (.slice m.mA m.modes.length m.mc), .v (.bool m.on), .v (.int .u32 m.code)]
def tellC (c : CH) (r : RQ) : CH × OM × Int :=
  if r.kind ≠ 9 ∧ r.kind ≠ 10 then (c, om0, 2)
  else if c.told = true ∨ c.sClose = true then (c, om0, 9)
  else if (encR r).1 ≠ 0 then (c, om0, (encR r).1)
  else ({ c with told := true }, ⟨98, c.rem, 0, 0, encName r, (encR r).2⟩, 0)
theorem chTell_any (c : CH) (r : RQ) (w : World) (hr : r.ok w) (hs : r.text.size ≤ 140737488355328) (hv : r.value.size ≤ 140737488355328) (hl : r.lang.size ≤ 140737488355328) : Calls Tryz.prog 21 #[c.val, r.val] w (StepO w (tellC c r)) := by
  refine Hs.enter Tryz.func21 [] [] [] [.g c.sc, .g r.sc] (Mem.start0 w) (by kernel_rfl) (by kernel_rfl) ?_
  refine Hs.run4 300 (fun _ => by kernel_rfl) fun b0 b1 b2 b3 => ?_
  refine Hs.bool 15 (r.kind != 9) (by kernel_rfl) (fun k1 => ?_) (fun k1 => ?_)
  · have k1 : r.kind ≠ 9 := by simpa using k1
    refine Hs.rung0 [3] 300 (fun _ => by kernel_rfl) ?_
    refine Hs.cond (r.kind != 10) (by kernel_rfl) (fun k2 => ?_) (fun k2 => ?_)
    · have k2 : r.kind ≠ 10 := by simpa using k2
      refine Hs.run0 300 (fun _ => by kernel_rfl) ?_
      exact Hs.ret (v := .tuple #[c.val, omV om0 none 0, .int .i64 2]) Tryz.func21 (by kernel_rfl) fun w' H => by rw [show tellC c r = _ from if_pos ⟨k1, k2⟩]; exact ⟨H.only, none, 0, rfl, Bs.none _ _⟩
    · have k2 : r.kind = 10 := by simpa using k2
      refine Hs.run0 300 (fun _ => by kernel_rfl) ?_
      refine Hs.bool 25 c.told (by kernel_rfl) (fun h1 => ?_) (fun h1 => ?_)
      · refine Hs.rung0 [2] 300 (fun _ => by kernel_rfl) ?_
        refine Hs.cond true (by kernel_rfl) (fun _ => ?_) (fun h => by cases h)
        refine Hs.run0 300 (fun _ => by kernel_rfl) ?_
        exact Hs.ret (v := .tuple #[c.val, omV om0 none 0, .int .i64 9]) Tryz.func21 (by kernel_rfl) fun w' H => by rw [show tellC c r = _ from (if_neg (by omega)).trans (if_pos (.inl h1))]; exact ⟨H.only, none, 0, rfl, Bs.none _ _⟩
      refine Hs.rung0 [2] 300 (fun _ => by kernel_rfl) ?_
      refine Hs.cond c.sClose (by kernel_rfl) (fun h2 => ?_) (fun h2 => ?_)
      · refine Hs.run0 300 (fun _ => by kernel_rfl) ?_
        exact Hs.ret (v := .tuple #[c.val, omV om0 none 0, .int .i64 9]) Tryz.func21 (by kernel_rfl) fun w' H => by rw [show tellC c r = _ from (if_neg (by omega)).trans (if_pos (.inr h2))]; exact ⟨H.only, none, 0, rfl, Bs.none _ _⟩
      refine Hs.run0 300 (fun _ => by kernel_rfl) ?_
      refine Hs.callQ (X := Option Addr × Nat) (fun x => aoB (encR r).2 x.1) (fun x => .tuple #[.string (encName r), .slice x.1 (encR r).2.length x.2, .int .i64 (encR r).1]) (fun x w' => Bs w' w.heap.size x.1 (encR r).2 x.2) (fun x => bs_st) (fun w' H => (rencode_any r w' (hr.only H.only) hs hv hl).mono (by
        rintro e w2 ⟨O, v, rfl, hO⟩
        obtain ⟨A, cap, rfl, hB⟩ := ownB_bs hO O.size
        exact ⟨(A, cap), rfl, O, hB.mono H.only.size, bs_new hB⟩)) (by kernel_rfl) (by kernel_rfl) fun x => ?_
      refine Hs.run0 300 (fun _ => by kernel_rfl) ?_
      refine Hs.cond ((encR r).1 != 0) (by kernel_rfl) (fun h3 => ?_) (fun h3 => ?_)
      · refine Hs.run0 300 (fun _ => by kernel_rfl) ?_
        exact Hs.ret (v := .tuple #[c.val, omV om0 none 0, .int .i64 (encR r).1]) Tryz.func21 (by kernel_rfl) fun w' H => by rw [show tellC c r = _ from (if_neg (by omega)).trans ((if_neg (by simp [h1, h2])).trans (if_pos (by simpa using h3)))]; exact ⟨H.only, none, 0, rfl, Bs.none _ _⟩
      refine Hs.run0 300 (fun _ => by kernel_rfl) ?_
      refine Hs.callV (fun w _ => chMsg_any { c with told := true } 98 w) (by kernel_rfl) ?_
      refine Hs.run1 300 (fun _ => by kernel_rfl) fun b0 => ?_
      refine Hs.any [0, 5] (by kernel_rfl) ?_
      refine Hs.run0 300 (fun _ => by kernel_rfl) ?_
      refine Hs.ret (v := .tuple #[CH.val { c with told := true }, omV ⟨98, c.rem, 0, 0, encName r, (encR r).2⟩ x.1 x.2, .int .i64 0]) Tryz.func21 (by kernel_rfl) fun w' H => ?_
      rw [show tellC c r = _ from (if_neg (by omega)).trans ((if_neg (by simp [h1, h2])).trans (if_neg (by simpa using h3)))]
      exact ⟨H.only, x.1, x.2, rfl, H.atQ 4 (wr := true) (A := aoB (encR r).2 x.1) (Q := fun w' => Bs w' w.heap.size x.1 (encR r).2 x.2) (st := bs_st) (by kernel_rfl)⟩
  · have k1 : r.kind = 9 := by simpa using k1
    refine Hs.rung0 [3] 300 (fun _ => by kernel_rfl) ?_
    refine Hs.cond false (by kernel_rfl) (fun h => by cases h) (fun _ => ?_)
    refine Hs.run0 300 (fun _ => by kernel_rfl) ?_
    refine Hs.bool 25 c.told (by kernel_rfl) (fun h1 => ?_) (fun h1 => ?_)
    · refine Hs.rung0 [2] 300 (fun _ => by kernel_rfl) ?_
      refine Hs.cond true (by kernel_rfl) (fun _ => ?_) (fun h => by cases h)
      refine Hs.run0 300 (fun _ => by kernel_rfl) ?_
      exact Hs.ret (v := .tuple #[c.val, omV om0 none 0, .int .i64 9]) Tryz.func21 (by kernel_rfl) fun w' H => by rw [show tellC c r = _ from (if_neg (by omega)).trans (if_pos (.inl h1))]; exact ⟨H.only, none, 0, rfl, Bs.none _ _⟩
    refine Hs.rung0 [2] 300 (fun _ => by kernel_rfl) ?_
    refine Hs.cond c.sClose (by kernel_rfl) (fun h2 => ?_) (fun h2 => ?_)
    · refine Hs.run0 300 (fun _ => by kernel_rfl) ?_
      exact Hs.ret (v := .tuple #[c.val, omV om0 none 0, .int .i64 9]) Tryz.func21 (by kernel_rfl) fun w' H => by rw [show tellC c r = _ from (if_neg (by omega)).trans (if_pos (.inr h2))]; exact ⟨H.only, none, 0, rfl, Bs.none _ _⟩
    refine Hs.run0 300 (fun _ => by kernel_rfl) ?_
    refine Hs.callQ (X := Option Addr × Nat) (fun x => aoB (encR r).2 x.1) (fun x => .tuple #[.string (encName r), .slice x.1 (encR r).2.length x.2, .int .i64 (encR r).1]) (fun x w' => Bs w' w.heap.size x.1 (encR r).2 x.2) (fun x => bs_st) (fun w' H => (rencode_any r w' (hr.only H.only) hs hv hl).mono (by
      rintro e w2 ⟨O, v, rfl, hO⟩
      obtain ⟨A, cap, rfl, hB⟩ := ownB_bs hO O.size
      exact ⟨(A, cap), rfl, O, hB.mono H.only.size, bs_new hB⟩)) (by kernel_rfl) (by kernel_rfl) fun x => ?_
    refine Hs.run0 300 (fun _ => by kernel_rfl) ?_
    refine Hs.cond ((encR r).1 != 0) (by kernel_rfl) (fun h3 => ?_) (fun h3 => ?_)
    · refine Hs.run0 300 (fun _ => by kernel_rfl) ?_
      exact Hs.ret (v := .tuple #[c.val, omV om0 none 0, .int .i64 (encR r).1]) Tryz.func21 (by kernel_rfl) fun w' H => by rw [show tellC c r = _ from (if_neg (by omega)).trans ((if_neg (by simp [h1, h2])).trans (if_pos (by simpa using h3)))]; exact ⟨H.only, none, 0, rfl, Bs.none _ _⟩
    refine Hs.run0 300 (fun _ => by kernel_rfl) ?_
    refine Hs.callV (fun w _ => chMsg_any { c with told := true } 98 w) (by kernel_rfl) ?_
    refine Hs.run1 300 (fun _ => by kernel_rfl) fun b0 => ?_
    refine Hs.any [0, 5] (by kernel_rfl) ?_
    refine Hs.run0 300 (fun _ => by kernel_rfl) ?_
    refine Hs.ret (v := .tuple #[CH.val { c with told := true }, omV ⟨98, c.rem, 0, 0, encName r, (encR r).2⟩ x.1 x.2, .int .i64 0]) Tryz.func21 (by kernel_rfl) fun w' H => ?_
    rw [show tellC c r = _ from (if_neg (by omega)).trans ((if_neg (by simp [h1, h2])).trans (if_neg (by simpa using h3)))]
    exact ⟨H.only, x.1, x.2, rfl, H.atQ 4 (wr := true) (A := aoB (encR r).2 x.1) (Q := fun w' => Bs w' w.heap.size x.1 (encR r).2 x.2) (st := bs_st) (by kernel_rfl)⟩
end Go.Proofs.YtpojfcpeibnohaaGreatDoor

namespace Go.Proofs.YtpojfcpeibnohaaGreatDoor
set_option linter.all false
set_option maxRecDepth 100000
open Go.RowKit

/-- A step. -/
structure OPD where
  kind : Int
  n : Int
  m : MD
  r : RQ
  bA : Option Addr
  bc : Nat
  b : List Int
  on : Bool
def OPD.sc (o : OPD) : List SC := .v (.int .i64 o.kind) :: .v (.int .i64 o.n) :: (o.m.sc ++ (o.r.sc ++ [.v (.slice o.bA o.b.length o.bc), .v (.bool o.on)]))
def MD.cells (m : MD) : List Value := [.int .i64 m.kind, .int .u32 m.chan, .int .u32 m.sender, .int .u32 m.window, .int .u32 m.packet, .int .u32 m.code, .string m.name, .string m.lang, .bool m.want, .slice m.dA m.data.length m.dc]
def OPD.cells (o : OPD) : List Value := .int .i64 o.kind :: .int .i64 o.n :: (o.m.cells ++ (o.r.cells ++ [.slice o.bA o.b.length o.bc, .bool o.on]))
def OPD.val (o : OPD) : Value := .agg o.cells.toArray
structure OPD.ok (w : World) (o : OPD) : Prop where
  n : -9223372036854775808 ≤ o.n ∧ o.n ≤ 9223372036854775807
  m : o.m.ok w
  r : o.r.ok w
  b : RdG (.int .u8) w o.bA o.b
  bl : o.b.length ≤ o.bc
  bm : o.bc ≤ maxLen
  bytes : ∀ x ∈ o.b, 0 ≤ x ∧ x < 256
theorem MD.ok.only {w w' : World} {m : MD} (h : m.ok w) (hb : Only [] w w') : m.ok w' := { h with data := h.data.only hb }
theorem OPD.ok.only {w w' : World} {o : OPD} (h : o.ok w) (hb : Only [] w w') : o.ok w' := { h with m := h.m.only hb, r := h.r.only hb, b := h.b.only hb }
def doC (c : CH) (o : OPD) : CH × OM × Int :=
  if o.kind = 1 then ((recvC c o.m.kind o.m.window o.m.want o.m.data.length).1, om0, (recvC c o.m.kind o.m.window o.m.want o.m.data.length).2)
  else if o.kind = 2 then dataC c (IntKind.u32.wrap o.n) o.b
  else if o.kind = 3 then replyC c o.on
  else if o.kind = 4 then grantC c o.n
  else if o.kind = 5 then tellC c o.r
  else if o.kind = 6 then eofC c
  else if o.kind = 7 then closeC c
  else (c, om0, 0)
/-- Bounds that memory keeps. -/
def OPD.small (o : OPD) : Prop := o.r.text.size ≤ 140737488355328 ∧ o.r.value.size ≤ 140737488355328 ∧ o.r.lang.size ≤ 140737488355328
theorem stepO_q {P : Program} {F : FuncId} {args : Array Value} {w w' : World} {r : CH × OM × Int} (hw : w.heap.size ≤ w'.heap.size) (h : Calls P F args w' (StepO w' r)) : Calls P F args w' fun e w2 => ∃ x : Option Addr × Nat, e = .returned (.tuple #[r.1.val, omV r.2.1 x.1 x.2, .int .i64 r.2.2]) ∧ Only [] w' w2 ∧ Bs w2 w.heap.size x.1 r.2.1.data x.2 ∧ ∀ a, aoB r.2.1.data x.1 = some a → w'.heap.size ≤ a.block ∧ a.block < w2.heap.size :=
  h.mono (by
    rintro e w2 ⟨O, A, cap, rfl, hB⟩
    exact ⟨(A, cap), rfl, O, hB.mono hw, bs_new hB⟩)
theorem StepO.none {w w' : World} {r : CH × OM × Int} (O : Only [] w w') (hd : r.2.1.data = []) : StepO w r (.returned (.tuple #[r.1.val, omV r.2.1 none 0, .int .i64 r.2.2])) w' :=
  ⟨O, Option.none, 0, rfl, by rw [hd]; exact Bs.none _ _⟩
theorem grantC_data (c : CH) (n : Int) : (grantC c n).2.1.data = [] := by unfold grantC; split <;> rfl
theorem grantC_code (c : CH) (n : Int) : (grantC c n).2.2 = 0 ∨ (grantC c n).2.2 = 1 := by unfold grantC; split; exact .inr rfl; exact .inl rfl
set_option maxHeartbeats 1000000 in
theorem chDo_any (c : CH) (o : OPD) (w : World) (hc : c.ok) (ho : o.ok w) (hsm : o.small) : Calls Tryz.prog 8 #[c.val, o.val] w (StepO w (doC c o)) := by
  refine Hs.enter Tryz.func8 [] [] [] [.g c.sc, .g o.sc] (Mem.start0 w) (by kernel_rfl) (by kernel_rfl) ?_
  refine Hs.run5 300 (fun _ => by kernel_rfl) fun b0 b1 b2 b3 b4 => ?_
  refine Hs.cond (o.kind == 1) (by kernel_rfl) (fun hk => ?_) (fun hk => ?_)
  · have hk : o.kind = 1 := by simpa using hk
    refine Hs.run0 300 (fun _ => by kernel_rfl) ?_
    refine Hs.callV (v := .tuple #[(recvC c o.m.kind o.m.window o.m.want o.m.data.length).1.val, .int .i64 (recvC c o.m.kind o.m.window o.m.want o.m.data.length).2]) (fun w' H => chRecv_any c o.m w' hc ho.m.nums.2.2.1 (Nat.le_trans ho.m.dle ho.m.dmax)) (by kernel_rfl) ?_
    refine Hs.run0 300 (fun _ => by kernel_rfl) ?_
    refine Hs.any [0, 4] (by kernel_rfl) ?_
    refine Hs.run0 300 (fun _ => by kernel_rfl) ?_
    refine Hs.ret (v := .tuple #[(recvC c o.m.kind o.m.window o.m.want o.m.data.length).1.val, omV om0 none 0, .int .i64 (recvC c o.m.kind o.m.window o.m.want o.m.data.length).2]) Tryz.func8 (by kernel_rfl) fun w' H => ?_
    rw [show doC c o = _ from if_pos hk]
    exact StepO.none H.only rfl
  have n1 : ¬ o.kind = 1 := by simpa using hk
  clear hk
  refine Hs.run0 300 (fun _ => by kernel_rfl) ?_
  refine Hs.cond (o.kind == 2) (by kernel_rfl) (fun hk => ?_) (fun hk => ?_)
  · have hk : o.kind = 2 := by simpa using hk
    refine Hs.run0 300 (fun _ => by kernel_rfl) ?_
    refine Hs.callQ (X := Option Addr × Nat) (fun x => aoB (dataC c (IntKind.u32.wrap o.n) o.b).2.1.data x.1) (fun x => .tuple #[(dataC c (IntKind.u32.wrap o.n) o.b).1.val, omV (dataC c (IntKind.u32.wrap o.n) o.b).2.1 x.1 x.2, .int .i64 (dataC c (IntKind.u32.wrap o.n) o.b).2.2]) (fun x w' => Bs w' w.heap.size x.1 (dataC c (IntKind.u32.wrap o.n) o.b).2.1.data x.2) (fun x => bs_st) (fun w' H => stepO_q H.only.size (chData2_any c (IntKind.u32.wrap o.n) o.bA o.b o.bc w' hc (ho.b.only H.only))) (by kernel_rfl) (by kernel_rfl) fun x => ?_
    refine Hs.run0 300 (fun _ => by kernel_rfl) ?_
    refine Hs.any [0, 4] (by kernel_rfl) ?_
    refine Hs.run0 300 (fun _ => by kernel_rfl) ?_
    refine Hs.ret (v := .tuple #[(dataC c (IntKind.u32.wrap o.n) o.b).1.val, omV (dataC c (IntKind.u32.wrap o.n) o.b).2.1 x.1 x.2, .int .i64 (dataC c (IntKind.u32.wrap o.n) o.b).2.2]) Tryz.func8 (by kernel_rfl) fun w' H => ?_
    rw [show doC c o = _ from (if_neg (by omega)).trans (if_pos hk)]
    exact ⟨H.only, x.1, x.2, rfl, H.atQ 5 (wr := true) (A := aoB (dataC c (IntKind.u32.wrap o.n) o.b).2.1.data x.1) (Q := fun w' => Bs w' w.heap.size x.1 (dataC c (IntKind.u32.wrap o.n) o.b).2.1.data x.2) (st := bs_st) (by kernel_rfl)⟩
  have n2 : ¬ o.kind = 2 := by simpa using hk
  clear hk
  refine Hs.run0 300 (fun _ => by kernel_rfl) ?_
  refine Hs.cond (o.kind == 3) (by kernel_rfl) (fun hk => ?_) (fun hk => ?_)
  · have hk : o.kind = 3 := by simpa using hk
    refine Hs.run0 300 (fun _ => by kernel_rfl) ?_
    refine Hs.callQ (X := Option Addr × Nat) (fun x => aoB (replyC c o.on).2.1.data x.1) (fun x => .tuple #[(replyC c o.on).1.val, omV (replyC c o.on).2.1 x.1 x.2, .int .i64 (replyC c o.on).2.2]) (fun x w' => Bs w' w.heap.size x.1 (replyC c o.on).2.1.data x.2) (fun x => bs_st) (fun w' H => stepO_q H.only.size (chReply_any c o.on w')) (by kernel_rfl) (by kernel_rfl) fun x => ?_
    refine Hs.run0 300 (fun _ => by kernel_rfl) ?_
    refine Hs.any [0, 4] (by kernel_rfl) ?_
    refine Hs.run0 300 (fun _ => by kernel_rfl) ?_
    refine Hs.ret (v := .tuple #[(replyC c o.on).1.val, omV (replyC c o.on).2.1 x.1 x.2, .int .i64 (replyC c o.on).2.2]) Tryz.func8 (by kernel_rfl) fun w' H => ?_
    rw [show doC c o = _ from (if_neg (by omega)).trans ((if_neg (by omega)).trans (if_pos hk))]
    exact ⟨H.only, x.1, x.2, rfl, H.atQ 5 (wr := true) (A := aoB (replyC c o.on).2.1.data x.1) (Q := fun w' => Bs w' w.heap.size x.1 (replyC c o.on).2.1.data x.2) (st := bs_st) (by kernel_rfl)⟩
  have n3 : ¬ o.kind = 3 := by simpa using hk
  clear hk
  refine Hs.run0 300 (fun _ => by kernel_rfl) ?_
  refine Hs.cond (o.kind == 4) (by kernel_rfl) (fun hk => ?_) (fun hk => ?_)
  · have hk : o.kind = 4 := by simpa using hk
    refine Hs.run0 300 (fun _ => by kernel_rfl) ?_
    refine Hs.callV (v := .tuple #[(grantC c o.n).1.val, omV (grantC c o.n).2.1 none 0, .bool (decide ((grantC c o.n).2.2 = 0))]) (fun w' H => chGrant_any c o.n w' hc ho.n) (by kernel_rfl) ?_
    refine Hs.run0 300 (fun _ => by kernel_rfl) ?_
    refine Hs.cond (!decide ((grantC c o.n).2.2 = 0)) (by kernel_rfl) (fun h2 => ?_) (fun h2 => ?_)
    · have h2 : (grantC c o.n).2.2 = 1 := (grantC_code c o.n).resolve_left (by simpa using h2)
      refine Hs.run0 300 (fun _ => by kernel_rfl) ?_
      refine Hs.any [0, 4] (by kernel_rfl) ?_
      refine Hs.run0 300 (fun _ => by kernel_rfl) ?_
      refine Hs.ret (v := .tuple #[(grantC c o.n).1.val, omV (grantC c o.n).2.1 none 0, .int .i64 1]) Tryz.func8 (by kernel_rfl) fun w' H => ?_
      rw [show doC c o = _ from (if_neg (by omega)).trans ((if_neg (by omega)).trans ((if_neg (by omega)).trans (if_pos hk)))]
      have := StepO.none (r := grantC c o.n) H.only (grantC_data c o.n)
      rw [h2] at this
      exact this
    · have h2 : (grantC c o.n).2.2 = 0 := by simpa using h2
      refine Hs.run0 300 (fun _ => by kernel_rfl) ?_
      refine Hs.any [0, 4] (by kernel_rfl) ?_
      refine Hs.run0 300 (fun _ => by kernel_rfl) ?_
      refine Hs.ret (v := .tuple #[(grantC c o.n).1.val, omV (grantC c o.n).2.1 none 0, .int .i64 0]) Tryz.func8 (by kernel_rfl) fun w' H => ?_
      rw [show doC c o = _ from (if_neg (by omega)).trans ((if_neg (by omega)).trans ((if_neg (by omega)).trans (if_pos hk)))]
      have := StepO.none (r := grantC c o.n) H.only (grantC_data c o.n)
      rw [h2] at this
      exact this
  have n4 : ¬ o.kind = 4 := by simpa using hk
  clear hk
  refine Hs.run0 300 (fun _ => by kernel_rfl) ?_
  refine Hs.cond (o.kind == 5) (by kernel_rfl) (fun hk => ?_) (fun hk => ?_)
  · have hk : o.kind = 5 := by simpa using hk
    refine Hs.run0 300 (fun _ => by kernel_rfl) ?_
    refine Hs.callQ (X := Option Addr × Nat) (fun x => aoB (tellC c o.r).2.1.data x.1) (fun x => .tuple #[(tellC c o.r).1.val, omV (tellC c o.r).2.1 x.1 x.2, .int .i64 (tellC c o.r).2.2]) (fun x w' => Bs w' w.heap.size x.1 (tellC c o.r).2.1.data x.2) (fun x => bs_st) (fun w' H => stepO_q H.only.size (chTell_any c o.r w' (ho.r.only H.only) hsm.1 hsm.2.1 hsm.2.2)) (by kernel_rfl) (by kernel_rfl) fun x => ?_
    refine Hs.run0 300 (fun _ => by kernel_rfl) ?_
    refine Hs.any [0, 4] (by kernel_rfl) ?_
    refine Hs.run0 300 (fun _ => by kernel_rfl) ?_
    refine Hs.ret (v := .tuple #[(tellC c o.r).1.val, omV (tellC c o.r).2.1 x.1 x.2, .int .i64 (tellC c o.r).2.2]) Tryz.func8 (by kernel_rfl) fun w' H => ?_
    rw [show doC c o = _ from (if_neg (by omega)).trans ((if_neg (by omega)).trans ((if_neg (by omega)).trans ((if_neg (by omega)).trans (if_pos hk))))]
    exact ⟨H.only, x.1, x.2, rfl, H.atQ 5 (wr := true) (A := aoB (tellC c o.r).2.1.data x.1) (Q := fun w' => Bs w' w.heap.size x.1 (tellC c o.r).2.1.data x.2) (st := bs_st) (by kernel_rfl)⟩
  have n5 : ¬ o.kind = 5 := by simpa using hk
  clear hk
  refine Hs.run0 300 (fun _ => by kernel_rfl) ?_
  refine Hs.cond (o.kind == 6) (by kernel_rfl) (fun hk => ?_) (fun hk => ?_)
  · have hk : o.kind = 6 := by simpa using hk
    refine Hs.run0 300 (fun _ => by kernel_rfl) ?_
    refine Hs.callQ (X := Option Addr × Nat) (fun x => aoB (eofC c).2.1.data x.1) (fun x => .tuple #[(eofC c).1.val, omV (eofC c).2.1 x.1 x.2, .int .i64 (eofC c).2.2]) (fun x w' => Bs w' w.heap.size x.1 (eofC c).2.1.data x.2) (fun x => bs_st) (fun w' H => stepO_q H.only.size (chSendEof_any c w')) (by kernel_rfl) (by kernel_rfl) fun x => ?_
    refine Hs.run0 300 (fun _ => by kernel_rfl) ?_
    refine Hs.any [0, 4] (by kernel_rfl) ?_
    refine Hs.run0 300 (fun _ => by kernel_rfl) ?_
    refine Hs.ret (v := .tuple #[(eofC c).1.val, omV (eofC c).2.1 x.1 x.2, .int .i64 (eofC c).2.2]) Tryz.func8 (by kernel_rfl) fun w' H => ?_
    rw [show doC c o = _ from (if_neg (by omega)).trans ((if_neg (by omega)).trans ((if_neg (by omega)).trans ((if_neg (by omega)).trans ((if_neg (by omega)).trans (if_pos hk)))))]
    exact ⟨H.only, x.1, x.2, rfl, H.atQ 5 (wr := true) (A := aoB (eofC c).2.1.data x.1) (Q := fun w' => Bs w' w.heap.size x.1 (eofC c).2.1.data x.2) (st := bs_st) (by kernel_rfl)⟩
  have n6 : ¬ o.kind = 6 := by simpa using hk
  clear hk
  refine Hs.run0 300 (fun _ => by kernel_rfl) ?_
  refine Hs.cond (o.kind == 7) (by kernel_rfl) (fun hk => ?_) (fun hk => ?_)
  · have hk : o.kind = 7 := by simpa using hk
    refine Hs.run0 300 (fun _ => by kernel_rfl) ?_
    refine Hs.callQ (X := Option Addr × Nat) (fun x => aoB (closeC c).2.1.data x.1) (fun x => .tuple #[(closeC c).1.val, omV (closeC c).2.1 x.1 x.2, .int .i64 (closeC c).2.2]) (fun x w' => Bs w' w.heap.size x.1 (closeC c).2.1.data x.2) (fun x => bs_st) (fun w' H => stepO_q H.only.size (chSendClose_any c w')) (by kernel_rfl) (by kernel_rfl) fun x => ?_
    refine Hs.run0 300 (fun _ => by kernel_rfl) ?_
    refine Hs.any [0, 4] (by kernel_rfl) ?_
    refine Hs.run0 300 (fun _ => by kernel_rfl) ?_
    refine Hs.ret (v := .tuple #[(closeC c).1.val, omV (closeC c).2.1 x.1 x.2, .int .i64 (closeC c).2.2]) Tryz.func8 (by kernel_rfl) fun w' H => ?_
    rw [show doC c o = _ from (if_neg (by omega)).trans ((if_neg (by omega)).trans ((if_neg (by omega)).trans ((if_neg (by omega)).trans ((if_neg (by omega)).trans ((if_neg (by omega)).trans (if_pos hk))))))]
    exact ⟨H.only, x.1, x.2, rfl, H.atQ 5 (wr := true) (A := aoB (closeC c).2.1.data x.1) (Q := fun w' => Bs w' w.heap.size x.1 (closeC c).2.1.data x.2) (st := bs_st) (by kernel_rfl)⟩
  have n7 : ¬ o.kind = 7 := by simpa using hk
  clear hk
  refine Hs.run0 300 (fun _ => by kernel_rfl) ?_
  refine Hs.any [0, 4] (by kernel_rfl) ?_
  refine Hs.run0 300 (fun _ => by kernel_rfl) ?_
  refine Hs.ret (v := .tuple #[c.val, omV om0 none 0, .int .i64 0]) Tryz.func8 (by kernel_rfl) fun w' H => ?_
  rw [show doC c o = (c, om0, 0) from (if_neg (by omega)).trans ((if_neg (by omega)).trans ((if_neg (by omega)).trans ((if_neg (by omega)).trans ((if_neg (by omega)).trans ((if_neg (by omega)).trans (if_neg (by omega)))))))]
  exact StepO.none H.only rfl
theorem chTo_any (c : CH) (w : World) : Calls Tryz.prog 10 #[c.val] w fun e w' => e = .returned c.val ∧ Only [] w w' := by
  refine Hs.enter Tryz.func10 [] [] [] [.g c.sc] (Mem.start0 w) (by kernel_rfl) (by kernel_rfl) ?_
  refine Hs.run2 300 (fun _ => by kernel_rfl) fun b0 b1 => ?_
  exact Hs.ret (v := c.val) Tryz.func10 (by kernel_rfl) fun w' H => ⟨rfl, H.only⟩
theorem chFrom_any (c : CH) (w : World) : Calls Tryz.prog 9 #[c.val] w fun e w' => e = .returned c.val ∧ Only [] w w' := by
  refine Hs.enter Tryz.func9 [] [] [] [.g c.sc] (Mem.start0 w) (by kernel_rfl) (by kernel_rfl) ?_
  refine Hs.run2 300 (fun _ => by kernel_rfl) fun b0 b1 => ?_
  exact Hs.ret (v := c.val) Tryz.func9 (by kernel_rfl) fun w' H => ⟨rfl, H.only⟩
end Go.Proofs.YtpojfcpeibnohaaGreatDoor

namespace Go.Proofs.YtpojfcpeibnohaaGreatDoor
set_option linter.all false
set_option maxRecDepth 100000
open Go.RowKit

theorem rd_blk {w : World} {b T : Nat} {l : List Int} (h : Blk w b T (l.map (.int .u8))) : Rd w (some ⟨b, 0, none⟩) l := fun _ =>
  ⟨b, 0, rfl, h.lt, fun i v hi => by rw [h.cell]; simp [hi]⟩
theorem rd_st {A : Option Addr} {l : List Int} (w w' : World) (h1 : ∀ a, A = some a → w'.heap[a.block]? = w.heap[a.block]?) (h2 : w.heap.size ≤ w'.heap.size) (h : Rd w A l) : Rd w' A l := fun h0 => by
  obtain ⟨b, off, rfl, hlt, hc⟩ := h h0
  exact ⟨b, off, rfl, by omega, fun i v hi => (World.cell?_of_block (w := w) (show w'.heap[b]? = w.heap[b]? from h1 _ rfl)).trans (hc i v hi)⟩
/-- []byte of a literal: the block is marked, and reads as it did. -/
theorem run_mark {P : Program} {T E : TypeId} {w : World} {b n : Nat} {l : List Int} (hT : P.underlying T = some (.slice E)) (hE : P.underlying E = some (.int .u8)) (hB : Blk w b E (l.map (.int .u8))) : ∃ w', (convert T T (.slice (some ⟨b, 0, none⟩) n n)).run P w = .ok (.slice (some ⟨b, 0, none⟩) n n) w' ∧ Only [b] w w' ∧ Rd w' (some ⟨b, 0, none⟩) l ∧ b < w'.heap.size := by
  have hlt := hB.lt
  have hs : w.shape? b = some (E, (l.map (Value.int .u8)).length) := by
    unfold World.shape?
    rw [show w.heap[b]? = _ from hB]
    simp
  refine ⟨w.freeze ⟨b, (l.map (Value.int .u8)).length, none⟩ 1, ?_, ?_, ?_, ?_⟩
  · simp [convert, run_underlying hT, run_underlying hE, markStringish, hs]
  · refine ⟨rfl, rfl, rfl, by simp [World.freeze], fun k hk hn => ?_⟩
    simp only [List.mem_singleton] at hn
    simp [World.freeze, Array.getElem?_modify, Ne.symm hn]
  · intro _
    refine ⟨b, 0, rfl, by simpa [World.freeze] using hlt, fun i v hi => ?_⟩
    have h0 : w.heap[b]? = some (.cells (l.map (Value.int .u8)).toArray E (0, 0)) := hB
    simp [World.freeze, World.cell?, Array.getElem?_modify, h0, hi]
  · simpa [World.freeze] using hlt
section
variable {P : Program} {f : FuncId} {R : Ending → World → Prop} {n : Nat} {w0 : World} {L : List Nat} {β : List Nat} {m : SM}
theorem Hs.mark (k : Nat) (T E : TypeId) (l : List Int) (nl : Nat) (hT : P.underlying T = some (.slice E)) (hE : P.underlying E = some (.int .u8)) (hs : semOf n β m = some (valS (convert T T (.slice (some ⟨nm β k, 0, none⟩) nl nl)))) (hk : m.hp[k]? = some (.b true E (l.map fun x => .v (.int .u8 x)))) (hrd : (rdOf m).contains k = false)
    (h : Hs P f R n w0 L β (m.put (dstOf m) (.c (.v (.slice (some ⟨nm β k, 0, none⟩) nl nl))) (m.hp.set k (.q true (some ⟨nm β k, 0, none⟩) (fun w => Rd w (some ⟨nm β k, 0, none⟩) l) rd_st)))) : Hs P f R n w0 L β m := by
  have hkl := (List.getElem?_eq_some_iff.1 hk).1
  refine Hs.opW hs fun w H W => ?_
  have hB : Blk w (nm β k) E (l.map (.int .u8)) := by
    have := H.at k hk
    have e : dens β (l.map fun x => SC.v (.int .u8 x)) = l.map (.int .u8) := by simp [dens, SC.den, Function.comp_def]
    rw [e] at this; exact this
  obtain ⟨w', h1, h2, h3, h4⟩ := run_mark (n := nl) hT hE hB
  refine ⟨[], .c (.v (.slice (some ⟨nm β k, 0, none⟩) nl nl)), _, w', h1, ?_, ?_, fun i hi b hb => ?_, by rw [List.append_nil]; exact h⟩
  · rw [List.append_nil]
    refine H.swap k hk h2 (fun x hx => by simp only [List.mem_singleton] at hx; subst hx; rfl) rfl ?_ (fun x hx => .inl hx)
    exact ⟨h3, fun a ha => (by injection ha with ha; subst ha; exact h4)⟩
  · simp only [SV.wf, SC.wf, Bool.true_and, Bool.and_eq_true, Nat.ble_eq, List.length_set]
    refine ⟨Nat.le_refl _, List.all_eq_true.2 fun x hx => ?_⟩
    rcases List.mem_or_eq_of_mem_set hx with hx | rfl
    · exact List.all_eq_true.1 (SM.wf_hp W) x hx
    · rfl
  · rw [List.getElem?_set, if_neg (fun e => by
      subst e
      simp at hrd
      exact hrd hi)]
    exact hb
end
def al0 : CH := ⟨0, 0, 5, 3, 0, 0, false, false, false, false, 0, false⟩
def al1 : CH := { al0 with left := 2 }
def al2 : CH := { al0 with left := 0 }
def al3 : CH := { al2 with sEof := true }
theorem al0_ok : al0.ok := by constructor <;> first | decide | (unfold U32; decide)
theorem al1_ok : al1.ok := by constructor <;> first | decide | (unfold U32; decide)
theorem al2_ok : al2.ok := by constructor <;> first | decide | (unfold U32; decide)
theorem al3_ok : al3.ok := by constructor <;> first | decide | (unfold U32; decide)
theorem alive25_any (w : World) : Calls Tryz.prog 6 #[] w fun e w' => e = .returned (.bool true) ∧ Only [] w w' := by
  refine Hs.enter Tryz.func6 [] [] [] [] (Mem.start0 w) (by kernel_rfl) (by kernel_rfl) ?_
  refine Hs.run2 300 (fun _ => by kernel_rfl) fun b0 b1 => ?_
  refine Hs.mark 1 33 5 [97, 98, 99, 100] 4 Tryz.underlying33 Tryz.underlying5 (by kernel_rfl) (by kernel_rfl) (by kernel_rfl) ?_
  refine Hs.callQ (X := Option Addr × Nat) (fun x => aoB (dataC al0 0 [97, 98, 99, 100]).2.1.data x.1) (fun x => .tuple #[(dataC al0 0 [97, 98, 99, 100]).1.val, omV (dataC al0 0 [97, 98, 99, 100]).2.1 x.1 x.2, .int .i64 (dataC al0 0 [97, 98, 99, 100]).2.2]) (fun x w' => Bs w' w.heap.size x.1 (dataC al0 0 [97, 98, 99, 100]).2.1.data x.2) (fun x => bs_st) (fun w' H => stepO_q H.only.size (chData2_any al0 0 (some ⟨b1, 0, none⟩) [97, 98, 99, 100] 4 w' al0_ok (H.atQ 1 (wr := true) (A := some ⟨b1, 0, none⟩) (Q := fun w => Rd w (some ⟨b1, 0, none⟩) [97, 98, 99, 100]) (st := rd_st) (by kernel_rfl)))) (by kernel_rfl) (by kernel_rfl) fun x1 => ?_
  refine Hs.run3 300 (fun _ => by kernel_rfl) fun b2 b3 b4 => ?_
  refine Hs.mark 5 33 5 [97, 98, 99] 3 Tryz.underlying33 Tryz.underlying5 (by kernel_rfl) (by kernel_rfl) (by kernel_rfl) ?_
  refine Hs.callQ (X := Option Addr × Nat) (fun x => aoB (dataC al0 0 [97, 98, 99]).2.1.data x.1) (fun x => .tuple #[(dataC al0 0 [97, 98, 99]).1.val, omV (dataC al0 0 [97, 98, 99]).2.1 x.1 x.2, .int .i64 (dataC al0 0 [97, 98, 99]).2.2]) (fun x w' => Bs w' w.heap.size x.1 (dataC al0 0 [97, 98, 99]).2.1.data x.2) (fun x => bs_st) (fun w' H => stepO_q H.only.size (chData2_any al0 0 (some ⟨b4, 0, none⟩) [97, 98, 99] 3 w' al0_ok (H.atQ 5 (wr := true) (A := some ⟨b4, 0, none⟩) (Q := fun w => Rd w (some ⟨b4, 0, none⟩) [97, 98, 99]) (st := rd_st) (by kernel_rfl)))) (by kernel_rfl) (by kernel_rfl) fun x2 => ?_
  refine Hs.run2 300 (fun _ => by kernel_rfl) fun b5 b6 => ?_
  refine Hs.mark 8 33 5 [100, 101] 2 Tryz.underlying33 Tryz.underlying5 (by kernel_rfl) (by kernel_rfl) (by kernel_rfl) ?_
  refine Hs.callQ (X := Option Addr × Nat) (fun x => aoB (dataC al1 1 [100, 101]).2.1.data x.1) (fun x => .tuple #[(dataC al1 1 [100, 101]).1.val, omV (dataC al1 1 [100, 101]).2.1 x.1 x.2, .int .i64 (dataC al1 1 [100, 101]).2.2]) (fun x w' => Bs w' w.heap.size x.1 (dataC al1 1 [100, 101]).2.1.data x.2) (fun x => bs_st) (fun w' H => stepO_q H.only.size (chData2_any al1 1 (some ⟨b6, 0, none⟩) [100, 101] 2 w' al1_ok (H.atQ 8 (wr := true) (A := some ⟨b6, 0, none⟩) (Q := fun w => Rd w (some ⟨b6, 0, none⟩) [100, 101]) (st := rd_st) (by kernel_rfl)))) (by kernel_rfl) (by kernel_rfl) fun x3 => ?_
  refine Hs.run1 300 (fun _ => by kernel_rfl) fun b7 => ?_
  refine Hs.callQ (X := Option Addr × Nat) (fun x => aoB (eofC al2).2.1.data x.1) (fun x => .tuple #[(eofC al2).1.val, omV (eofC al2).2.1 x.1 x.2, .int .i64 (eofC al2).2.2]) (fun x w' => Bs w' w.heap.size x.1 (eofC al2).2.1.data x.2) (fun x => bs_st) (fun w' H => stepO_q H.only.size (chSendEof_any al2 w')) (by kernel_rfl) (by kernel_rfl) fun x4 => ?_
  refine Hs.run1 300 (fun _ => by kernel_rfl) fun b8 => ?_
  refine Hs.callQ (X := Option Addr × Nat) (fun x => aoB (dataC al3 0 []).2.1.data x.1) (fun x => .tuple #[(dataC al3 0 []).1.val, omV (dataC al3 0 []).2.1 x.1 x.2, .int .i64 (dataC al3 0 []).2.2]) (fun x w' => Bs w' w.heap.size x.1 (dataC al3 0 []).2.1.data x.2) (fun x => bs_st) (fun w' H => stepO_q H.only.size (chData2_any al3 0 none [] 0 w' al3_ok (fun h => absurd h (Nat.lt_irrefl _)))) (by kernel_rfl) (by kernel_rfl) fun x5 => ?_
  refine Hs.rung2 [2, 6, 11, 15, 19] 300 (fun _ => by kernel_rfl) fun b9 b10 => ?_
  exact Hs.ret (v := .bool true) Tryz.func6 (by kernel_rfl) fun w' H => ⟨rfl, H.only⟩
end Go.Proofs.YtpojfcpeibnohaaGreatDoor

namespace Go.Proofs.YtpojfcpeibnohaaGreatDoor
set_option linter.all false
set_option maxRecDepth 100000
open Go.RowKit

theorem wrap_next {i n : Nat} (hn : n ≤ maxLen) (h : i < n := by assumption) : Value.int .i64 (IntKind.i64.wrap ((i : Int) + 1)) = (SV.c (.v (.int .i64 (i + 1 : Nat)))).den [] := by
  unfold maxLen at hn
  show Value.int _ _ = Value.int _ _
  rw [IntWalk.i64_in _ (by omega)]
  rfl
theorem opd_len (o : OPD) : o.cells.length = 25 := rfl
theorem elemOp : ElemT Tryz.prog 23 41 25 (Tryz.prog.bytesOf 41) := elemT_of (z := .agg #[.int .i64 0, .int .i64 0, .int .i64 0, .int .u32 0, .int .u32 0, .int .u32 0, .int .u32 0, .int .u32 0, .string ⟨#[]⟩, .string ⟨#[]⟩, .bool false, .slice none 0 0, .int .i64 0, .string ⟨#[]⟩, .string ⟨#[]⟩, .string ⟨#[]⟩, .int .u32 0, .int .u32 0, .int .u32 0, .int .u32 0, .slice none 0 0, .bool false, .int .u32 0, .slice none 0 0, .bool false]) Tryz.underlying23 (by kernel_rfl) (by kernel_rfl) (by decide)
def Fit (ops : List OPD) : Prop := ops.length ≤ 100 ∧ ∀ o ∈ ops, o.small
theorem great25_any (ops : List OPD) (A : Option Addr) (c : Nat) (w : World) (hr : RdX OPD.cells w A ops) (hlen : ops.length ≤ maxLen) : Calls Tryz.prog 7 #[.slice A ops.length c] w fun e w' => ∃ b : Bool, e = .returned (.bool b) ∧ Only [] w w' ∧ (b = false → Fit ops) := by
  refine Hs.enter Tryz.func7 [] [] [] [.c (.v (.slice A ops.length c))] (Mem.start0 w) (by kernel_rfl) (by kernel_rfl) ?_
  have J : ∀ (d i : Nat), ops.length - i = d → i ≤ ops.length → (∀ (j : Nat) (o : OPD), j < i → ops[j]? = some o → o.small) → ∀ (z : Int) (u : Nat → Value), Hs Tryz.prog 7 (fun e w' => ∃ b : Bool, e = .returned (.bool b) ∧ Only [] w w' ∧ (b = false → Fit ops)) (Tryz.f7).ntmps w [] [] ⟨.no, loopAt Tryz.f7 0, pins [(0, .c (.v (.slice A ops.length c))), (6, .c (.v (.slice A ops.length c))), (7, .c (.v (.int .i64 ops.length))), (8, .c (.v (.int .i64 i))), (3, .c (.v (.int .i64 z)))] (.vals u), []⟩ := by
    intro d
    induction d with
    | zero =>
      intro i hd hi hall z u
      refine Hs.run0 300 (fun _ => by kernel_rfl) ?_
      refine Hs.condP ((i : Int) < (ops.length : Int)) (by kernel_rfl) (fun h => by omega) (fun h => ?_)
      refine Hs.run0 300 (fun _ => by kernel_rfl) ?_
      refine Hs.bool 31 (decide ((ops.length : Int) > 100)) (by kernel_rfl) (fun h1 => ?_) (fun h1 => ?_)
      · refine Hs.rung0 [3] 300 (fun _ => by kernel_rfl) ?_
        exact Hs.ret (v := .bool true) Tryz.func7 (by kernel_rfl) fun w' H => ⟨true, rfl, H.only, fun h => by cases h⟩
      · refine Hs.rung0 [3] 300 (fun _ => by kernel_rfl) ?_
        refine Hs.ret (v := .bool (decide (z > 300000))) Tryz.func7 (by kernel_rfl) fun w' H => ⟨_, rfl, H.only, fun _ => ⟨?_, fun o ho => ?_⟩⟩
        · have := of_decide_eq_false h1
          omega
        · obtain ⟨j, hj⟩ := List.mem_iff_getElem?.1 ho
          exact hall j o (by have := (List.getElem?_eq_some_iff.1 hj).1; omega) hj
    | succ d ih =>
      intro i hd hi hall z u
      have hil : i < ops.length := by omega
      have hx : ops[i]? = some (ops[i]'hil) := List.getElem?_eq_getElem hil
      obtain ⟨o, ho⟩ : ∃ o, o = ops[i]'hil := ⟨_, rfl⟩
      rw [← ho] at hx
      clear ho
      refine Hs.run0 300 (fun _ => by kernel_rfl) ?_
      refine Hs.condP ((i : Int) < (ops.length : Int)) (by kernel_rfl) (fun h => ?_) (fun h => by omega)
      refine Hs.run0 300 (fun _ => by kernel_rfl) ?_
      obtain ⟨b, off, hA, _, _⟩ := hr (by omega)
      subst hA
      refine Hs.idx (b := b) (off := off) (c := c) elemOp hil (by kernel_rfl) ?_
      refine Hs.ldx (E := 41) (b := b) (off := off) (i := i) opd_len (.g o.sc) (by kernel_rfl) (fun w' H => hr.only H.only) hx (by kernel_rfl) (by kernel_rfl) (by kernel_rfl) (by kernel_rfl) ?_
      refine Hs.run1 300 (fun _ => by kernel_rfl) fun b0 => ?_
      refine Hs.callX (X := Bool) (fun b => .bool b) (fun b => b = false → o.small) (fun w' H => (rgreat_any o.r w').mono (by
        rintro e w2 ⟨O, b, rfl, hb⟩
        exact ⟨b, rfl, O, fun h => ⟨by have := (hb h).1; omega, by have := (hb h).2.1; omega, by have := (hb h).2.2.1; omega⟩⟩)) (by kernel_rfl) fun g hg => ?_
      refine Hs.run0 300 (fun _ => by kernel_rfl) ?_
      refine Hs.cond g (by kernel_rfl) (fun h1 => ?_) (fun h1 => ?_)
      · refine Hs.run0 300 (fun _ => by kernel_rfl) ?_
        exact Hs.ret (v := .bool true) Tryz.func7 (by kernel_rfl) fun w' H => ⟨true, rfl, H.only, fun h => by cases h⟩
      · refine Hs.run0 300 (fun _ => by kernel_rfl) ?_
        refine Hs.slot 8 (.c (.v (.int .i64 (i + 1 : Nat)))) rfl ((by kernel_rfl : _ = Value.int .i64 (IntKind.i64.wrap ((i : Int) + 1))).trans (wrap_next hlen)) ?_
        refine Hs.loop (by kernel_rfl) ?_
        exact Hs.goto (loopAt Tryz.f7 0) [] [] [(0, .c (.v (.slice (some ⟨b, off, none⟩) ops.length c))), (6, .c (.v (.slice (some ⟨b, off, none⟩) ops.length c))), (7, .c (.v (.int .i64 ops.length))), (8, .c (.v (.int .i64 (i + 1 : Nat)))), (3, .c (.v (.int .i64 (IntKind.i64.wrap (z + IntKind.i64.wrap ((if (100000 : Int) < (o.b.length : Int) then 100000 else (o.b.length : Int)) + (if (100000 : Int) < (o.m.data.length : Int) then 100000 else (o.m.data.length : Int))))))))] (by kernel_rfl) List.nodup_nil (by kernel_rfl) (by kernel_rfl) (fun _ => rfl) (fun u => ih (i + 1) (by omega) (by omega) (fun j o' hj ho' => by
          rcases Nat.lt_or_ge j i with h2 | h2
          · exact hall j o' h2 ho'
          · have e : j = i := by omega
            subst e
            rw [hx] at ho'
            injection ho' with ho'
            subst ho'
            exact hg h1) _ u)
  refine Hs.run0 300 (fun _ => by kernel_rfl) ?_
  refine Hs.loop (by kernel_rfl) ?_
  exact Hs.goto (loopAt Tryz.f7 0) [] [] [(0, .c (.v (.slice A ops.length c))), (6, .c (.v (.slice A ops.length c))), (7, .c (.v (.int .i64 ops.length))), (8, .c (.v (.int .i64 (0 : Nat)))), (3, .c (.v (.int .i64 0)))] (by kernel_rfl) List.nodup_nil (by kernel_rfl) (by kernel_rfl) (fun _ => rfl) (fun u => J _ 0 rfl (by omega) (fun j o hj => by omega) 0 u)
end Go.Proofs.YtpojfcpeibnohaaGreatDoor

namespace Go.Proofs.YtpojfcpeibnohaaGreatDoor
set_option linter.all false
open Go.RowKit

theorem once_le (l p : Int) (hl : 0 ≤ l) (hp : 0 ≤ p) : 0 ≤ once l p ∧ once l p ≤ l ∧ once l p ≤ p ∧ once l p ≤ 32768 := once_rng l p hl hp
theorem sE_zero {l p n : Int} (hl : 0 ≤ l) (hp : 0 ≤ p) (h : sE l p n = 0) : 0 ≤ n ∧ n ≤ l ∧ n ≤ p ∧ n ≤ 32768 ∧ sL l p n = l - n := by
  have := once_rng l p hl hp
  unfold sE at h
  split at h
  · rename_i h1
    refine ⟨h1.1, by omega, by omega, by omega, ?_⟩
    unfold sL; rw [if_pos h1]
  · cases h
theorem recv_ok {c : CH} {k win : Int} {want : Bool} {len : Int} (hc : c.ok) (hw : U32 win) (ho : 0 ≤ c.owed ∧ c.owed ≤ 1000) : (recvC c k win want len).1.ok := by
  obtain ⟨h0, h1, h2, h3, h4, h5, h6⟩ := hc
  unfold U32 at *
  unfold recvC oL gL
  repeat' split
  all_goals first
    | exact ⟨h0, h1, h2, h3, h4, h5, h6⟩
    | exact ⟨h0, h1, h2, h3, by dsimp only; unfold U32; omega, h5, h6⟩
    | exact ⟨h0, h1, by dsimp only; unfold U32; omega, h3, h4, h5, h6⟩
    | (refine ⟨h0, h1, h2, h3, h4, h5, ?_⟩; dsimp only; rw [IntWalk.i64_in _ (by omega)]; omega)
    | (split <;> exact ⟨h0, h1, h2, h3, h4, h5, h6⟩)
theorem do_ok {c : CH} {o : OPD} {w : World} (hc : c.ok) (hw : o.ok w) (ho : 0 ≤ c.owed ∧ c.owed ≤ 1000) : (doC c o).1.ok := by
  have hc0 := hc
  obtain ⟨h0, h1, h2, h3, h4, h5, h6⟩ := hc
  unfold doC
  split
  · exact recv_ok hc0 hw.m.nums.2.2.1 ho
  split
  · unfold dataC
    split
    · exact hc0
    split
    · exact hc0
    rename_i h7 h8
    have := sE_zero h2.1 h3.1 (Classical.not_not.1 h8)
    refine ⟨h0, h1, ?_, h3, h4, h5, h6⟩
    unfold U32 at *
    dsimp only
    omega
  split
  · unfold replyC
    split
    · exact hc0
    · rename_i h7
      refine ⟨h0, h1, h2, h3, h4, h5, ?_⟩
      dsimp only
      have : 0 < c.owed := by
        rcases Int.lt_or_le 0 c.owed with h | h
        · exact h
        · exact absurd (.inl h) h7
      rw [IntWalk.i64_in _ (by omega)]
      omega
  split
  · unfold grantC
    split
    · exact hc0
    · refine ⟨h0, h1, h2, h3, ?_, h5, h6⟩
      unfold U32 at *
      dsimp only
      unfold fL
      split <;> omega
  split
  · unfold tellC
    repeat' split
    all_goals first | exact hc0 | exact ⟨h0, h1, h2, h3, h4, h5, h6⟩
  split
  · unfold eofC
    split
    · exact hc0
    · exact ⟨h0, h1, h2, h3, h4, h5, h6⟩
  split
  · unfold closeC
    split
    · exact hc0
    · exact ⟨h0, h1, h2, h3, h4, h5, h6⟩
  · exact hc0
/-- An error leaves the channel. -/
theorem do_err {c : CH} {o : OPD} (h : (doC c o).2.2 ≠ 0) : (doC c o).1 = c := by
  unfold doC at h ⊢
  split
  · rename_i h1
    rw [if_pos h1] at h
    exact recvC_err c _ _ _ _ h
  rename_i h1; rw [if_neg h1] at h
  split
  · rename_i h2; rw [if_pos h2] at h
    unfold dataC at h ⊢
    repeat' split
    all_goals first | rfl | simp_all
  rename_i h2; rw [if_neg h2] at h
  split
  · rename_i h3; rw [if_pos h3] at h
    unfold replyC at h ⊢
    split
    · rfl
    · rename_i h4; rw [if_neg h4] at h; exact absurd rfl h
  rename_i h3; rw [if_neg h3] at h
  split
  · rename_i h4; rw [if_pos h4] at h
    unfold grantC at h ⊢
    split
    · rfl
    · rename_i h5; rw [if_neg h5] at h; exact absurd rfl h
  rename_i h4; rw [if_neg h4] at h
  split
  · rename_i h5; rw [if_pos h5] at h
    unfold tellC at h ⊢
    repeat' split
    all_goals first | rfl | simp_all
  rename_i h5; rw [if_neg h5] at h
  split
  · rename_i h6; rw [if_pos h6] at h
    unfold eofC at h ⊢
    split
    · rfl
    · rename_i h7; rw [if_neg h7] at h; exact absurd rfl h
  rename_i h6; rw [if_neg h6] at h
  split
  · rename_i h7; rw [if_pos h7] at h
    unfold closeC at h ⊢
    split
    · rfl
    · rename_i h8; rw [if_neg h8] at h; exact absurd rfl h
  · rfl
/-- What holds of what a server sends. -/
structure TI (packet : Int) (c : CH) (granted sent wanted answered told : Int) (eof closed : Bool) (i : Nat) : Prop where
  okc : c.ok
  ef : c.sEof = eof
  cl : c.sClose = closed
  tl : c.told = false → told = 0
  tb : 0 ≤ told ∧ told ≤ 1
  pk : c.pack = packet
  gr : c.left + sent = granted
  s0 : 0 ≤ sent
  gb : granted ≤ 4294967295 * ((i : Int) + 1)
  ow : c.owed = wanted - answered
  w0 : 0 ≤ answered ∧ answered ≤ wanted ∧ wanted ≤ i
section
variable {packet granted sent wanted answered told : Int} {c : CH} {eof closed : Bool} {i : Nat} {o : OPD} {w : World}
theorem TI.next (h : TI packet c granted sent wanted answered told eof closed i) : TI packet c granted sent wanted answered told eof closed (i + 1) :=
  ⟨h.okc, h.ef, h.cl, h.tl, h.tb, h.pk, h.gr, h.s0, by have := h.gb; omega, h.ow, by have := h.w0; omega⟩
theorem TI.owed (h : TI packet c granted sent wanted answered told eof closed i) (hi : i < 100) : 0 ≤ c.owed ∧ c.owed ≤ 1000 := by
  have := h.ow; have := h.w0; omega
/-- A message came. -/
theorem TI.recv (h : TI packet c granted sent wanted answered told eof closed i) (hi : i < 100) (ho : o.ok w) (hk : o.kind = 1) (he : (doC c o).2.2 = 0) :
    TI packet (doC c o).1 (granted + if o.m.kind = 93 then o.m.window else 0) sent (wanted + if o.m.kind = 98 ∧ o.m.want = true then 1 else 0) answered told eof closed (i + 1) := by
  have hokc := do_ok h.okc ho (h.owed hi)
  have hnum := ho.m.nums.2.2.1
  have hw0 := h.w0
  have how := h.ow
  have hgb := h.gb
  have hgr := h.gr
  have hd : doC c o = ((recvC c o.m.kind o.m.window o.m.want o.m.data.length).1, om0, (recvC c o.m.kind o.m.window o.m.want o.m.data.length).2) := if_pos hk
  rw [hd] at he hokc ⊢
  dsimp only at he hokc ⊢
  unfold U32 at hnum
  unfold recvC at he hokc ⊢
  by_cases g : c.gClose = true
  · rw [if_pos g] at he; exact absurd he (by simp)
  rw [if_neg g] at he hokc ⊢
  by_cases k94 : o.m.kind = 94 ∨ o.m.kind = 95
  · rw [if_pos k94] at he hokc ⊢
    have n1 : ¬ o.m.kind = 93 := by omega
    have n2 : ¬ (o.m.kind = 98 ∧ o.m.want = true) := by omega
    rw [if_neg n1, if_neg n2, Int.add_zero, Int.add_zero]
    by_cases g2 : c.gEof = true
    · rw [if_pos g2] at he; exact absurd he (by simp)
    · rw [if_neg g2] at hokc ⊢
      exact ⟨hokc, h.ef, h.cl, h.tl, h.tb, h.pk, h.gr, h.s0, by omega, h.ow, by omega⟩
  rw [if_neg k94] at he hokc ⊢
  by_cases k93 : o.m.kind = 93
  · rw [if_pos k93] at he hokc ⊢
    have n2 : ¬ (o.m.kind = 98 ∧ o.m.want = true) := by omega
    rw [if_pos k93, if_neg n2, Int.add_zero]
    have hg : gL c.left o.m.window = c.left + o.m.window := by
      dsimp only at he
      unfold gE at he; unfold gL
      split at he
      · cases he
      · rename_i h1; rw [if_neg h1]
    refine ⟨hokc, h.ef, h.cl, h.tl, h.tb, h.pk, ?_, h.s0, by omega, h.ow, by omega⟩
    show gL c.left o.m.window + sent = _
    rw [hg]; omega
  rw [if_neg k93] at he hokc ⊢
  rw [if_neg k93, Int.add_zero]
  by_cases k96 : o.m.kind = 96
  · rw [if_pos k96] at he hokc ⊢
    have n2 : ¬ (o.m.kind = 98 ∧ o.m.want = true) := by omega
    rw [if_neg n2, Int.add_zero]
    by_cases g2 : c.gEof = true
    · rw [if_pos g2] at he; exact absurd he (by simp)
    · rw [if_neg g2] at hokc ⊢
      exact ⟨hokc, h.ef, h.cl, h.tl, h.tb, h.pk, h.gr, h.s0, by omega, h.ow, by omega⟩
  rw [if_neg k96] at he hokc ⊢
  by_cases k97 : o.m.kind = 97
  · rw [if_pos k97] at he hokc ⊢
    have n2 : ¬ (o.m.kind = 98 ∧ o.m.want = true) := by omega
    rw [if_neg n2, Int.add_zero]
    exact ⟨hokc, h.ef, h.cl, h.tl, h.tb, h.pk, h.gr, h.s0, by omega, h.ow, by omega⟩
  rw [if_neg k97] at he hokc ⊢
  by_cases k98 : o.m.kind = 98
  · rw [if_pos k98] at he hokc ⊢
    by_cases g2 : o.m.want = true
    · rw [if_pos g2] at hokc ⊢
      rw [if_pos ⟨k98, g2⟩]
      refine ⟨hokc, h.ef, h.cl, h.tl, h.tb, h.pk, h.gr, h.s0, by omega, ?_, by omega⟩
      show IntKind.i64.wrap (c.owed + 1) = _
      rw [IntWalk.i64_in _ (by omega)]; omega
    · rw [if_neg g2] at hokc ⊢
      rw [if_neg (fun x => g2 x.2), Int.add_zero]
      exact ⟨hokc, h.ef, h.cl, h.tl, h.tb, h.pk, h.gr, h.s0, by omega, h.ow, by omega⟩
  · rw [if_neg k98] at he; exact absurd he (by simp)
/-- What a step that sends does. -/
inductive Sent (packet : Int) (c : CH) (granted sent wanted answered told : Int) (eof closed : Bool) (i : Nat) : CH × OM → Prop
  | none (x : CH × OM) (h : TI packet x.1 granted sent wanted answered told eof closed (i + 1)) (hk : x.2.kind = 0) : Sent packet c granted sent wanted answered told eof closed i x
  | data (x : CH × OM) (hk : x.2.kind = 94 ∨ x.2.kind = 95) (hc : closed = false) (he : eof = false) (hl : (x.2.data.length : Int) ≤ packet) (hl2 : x.2.data.length ≤ 32768) (h : TI packet x.1 granted (sent + x.2.data.length) wanted answered told eof closed (i + 1)) : Sent packet c granted sent wanted answered told eof closed i x
  | eof (x : CH × OM) (hk : x.2.kind = 96) (hc : closed = false) (he : eof = false) (h : TI packet x.1 granted sent wanted answered told true closed (i + 1)) : Sent packet c granted sent wanted answered told eof closed i x
  | close (x : CH × OM) (hk : x.2.kind = 97) (hc : closed = false) (he : answered = wanted) (h : TI packet x.1 granted sent wanted answered told eof true (i + 1)) : Sent packet c granted sent wanted answered told eof closed i x
  | answer (x : CH × OM) (hk : x.2.kind = 99 ∨ x.2.kind = 100) (hc : closed = false) (h : TI packet x.1 granted sent wanted (answered + 1) told eof closed (i + 1)) : Sent packet c granted sent wanted answered told eof closed i x
  | tell (x : CH × OM) (hk : x.2.kind = 98) (hc : closed = false) (hn : x.2.name = rname 9 ∨ x.2.name = rname 10) (h : TI packet x.1 granted sent wanted answered (told + 1) eof closed (i + 1)) : Sent packet c granted sent wanted answered told eof closed i x
  | more (x : CH × OM) (hk : x.2.kind = 93) (hc : closed = false) (h : TI packet x.1 granted sent wanted answered told eof closed (i + 1)) : Sent packet c granted sent wanted answered told eof closed i x
theorem TI.sends (h : TI packet c granted sent wanted answered told eof closed i) (hi : i < 100) (ho : o.ok w) (hk : o.kind ≠ 1) (he : (doC c o).2.2 = 0) :
    Sent packet c granted sent wanted answered told eof closed i ((doC c o).1, (doC c o).2.1) := by
  have hokc := do_ok h.okc ho (h.owed hi)
  have hw0 := h.w0
  have how := h.ow
  have hgb := h.gb
  have hgr := h.gr
  have hs0 := h.s0
  have hcl := h.cl
  have hef := h.ef
  unfold doC at he hokc ⊢
  rw [if_neg hk] at he hokc ⊢
  split at he
  · rename_i h2
    rw [if_pos h2] at hokc ⊢
    unfold dataC at he hokc ⊢
    split at he
    · exact absurd he (by simp)
    rename_i hsh
    rw [if_neg hsh] at hokc ⊢
    split at he
    · rename_i h3; exact absurd he h3
    rename_i h3
    rw [if_neg h3] at hokc ⊢
    have hz := sE_zero h.okc.left.1 h.okc.pack.1 (Classical.not_not.1 h3)
    have hsh2 : c.sEof = false ∧ c.sClose = false := by
      unfold CH.shut at hsh; simp at hsh; exact ⟨hsh.1.1, hsh.1.2⟩
    refine .data _ ?_ (by rw [← hcl]; exact hsh2.2) (by rw [← hef]; exact hsh2.1) (by dsimp only; rw [← h.pk]; omega) (by dsimp only; omega) ⟨hokc, h.ef, h.cl, h.tl, h.tb, h.pk, ?_, by dsimp only; omega, by omega, h.ow, by omega⟩
    · dsimp only; split <;> simp
    · show sL c.left c.pack o.b.length + _ = _
      rw [hz.2.2.2.2]; dsimp only; omega
  rename_i n2; rw [if_neg n2] at hokc ⊢
  split at he
  · rename_i h3
    rw [if_pos h3] at hokc ⊢
    unfold replyC at he hokc ⊢
    split at he
    · exact absurd he (by simp)
    rename_i h4
    rw [if_neg h4] at hokc ⊢
    have ho1 : 0 < c.owed := by
      rcases Int.lt_or_le 0 c.owed with h | h
      · exact h
      · exact absurd (.inl h) h4
    have hcs : c.sClose = false := by
      cases hx : c.sClose with
      | false => rfl
      | true => exact absurd (.inr hx) h4
    refine .answer _ ?_ (by rw [← hcl]; exact hcs) ⟨hokc, h.ef, h.cl, h.tl, h.tb, h.pk, h.gr, h.s0, by omega, ?_, by omega⟩
    · dsimp only [omK]; split <;> simp
    · show IntKind.i64.wrap (c.owed - 1) = _
      rw [IntWalk.i64_in _ (by omega)]; omega
  rename_i n3; rw [if_neg n3] at hokc ⊢
  split at he
  · rename_i h4
    rw [if_pos h4] at hokc ⊢
    unfold grantC at he hokc ⊢
    split at he
    · exact absurd he (by simp)
    rename_i h5
    rw [if_neg h5] at hokc ⊢
    have hcs : c.sClose = false := by
      cases hx : c.sClose with
      | false => rfl
      | true => exact absurd (.inr (.inr (.inl hx))) h5
    exact .more _ rfl (by rw [← hcl]; exact hcs) ⟨hokc, h.ef, h.cl, h.tl, h.tb, h.pk, h.gr, h.s0, by omega, h.ow, by omega⟩
  rename_i n4; rw [if_neg n4] at hokc ⊢
  split at he
  · rename_i h5
    rw [if_pos h5] at hokc ⊢
    unfold tellC at he hokc ⊢
    split at he
    · exact absurd he (by simp)
    rename_i k9
    rw [if_neg k9] at hokc ⊢
    split at he
    · exact absurd he (by simp)
    rename_i h6
    rw [if_neg h6] at hokc ⊢
    split at he
    · rename_i h7; exact absurd he h7
    rename_i h7
    rw [if_neg h7] at hokc ⊢
    have ht : c.told = false := by
      cases hx : c.told with
      | false => rfl
      | true => exact absurd (.inl hx) h6
    have hcs : c.sClose = false := by
      cases hx : c.sClose with
      | false => rfl
      | true => exact absurd (.inr hx) h6
    have ht0 := h.tl ht
    refine .tell _ rfl (by rw [← hcl]; exact hcs) ?_ ⟨hokc, h.ef, h.cl, fun hx => (by cases hx), by omega, h.pk, h.gr, h.s0, by omega, h.ow, by omega⟩
    show encName o.r = _ ∨ encName o.r = _
    unfold encName
    rw [if_pos (Classical.not_not.1 h7)]
    have : o.r.kind = 9 ∨ o.r.kind = 10 := by omega
    rcases this with h8 | h8 <;> rw [h8]
    · exact .inl rfl
    · exact .inr rfl
  rename_i n5; rw [if_neg n5] at hokc ⊢
  split at he
  · rename_i h6
    rw [if_pos h6] at hokc ⊢
    unfold eofC at he hokc ⊢
    split at he
    · exact absurd he (by simp)
    rename_i h7
    rw [if_neg h7] at hokc ⊢
    have h8 : c.sEof = false ∧ c.sClose = false := by
      cases hx : c.sEof <;> cases hy : c.sClose <;> simp_all
    exact .eof _ rfl (by rw [← hcl]; exact h8.2) (by rw [← hef]; exact h8.1) ⟨hokc, rfl, h.cl, h.tl, h.tb, h.pk, h.gr, h.s0, by omega, h.ow, by omega⟩
  rename_i n6; rw [if_neg n6] at hokc ⊢
  split at he
  · rename_i h7
    rw [if_pos h7] at hokc ⊢
    unfold closeC at he hokc ⊢
    split at he
    · exact absurd he (by simp)
    rename_i h8
    rw [if_neg h8] at hokc ⊢
    have hcs : c.sClose = false := by
      cases hx : c.sClose with
      | false => rfl
      | true => exact absurd (.inl hx) h8
    have ho1 : ¬ 0 < c.owed := fun hx => h8 (.inr hx)
    exact .close _ rfl (by rw [← hcl]; exact hcs) (by omega) ⟨hokc, h.ef, rfl, h.tl, h.tb, h.pk, h.gr, h.s0, by omega, h.ow, by omega⟩
  rename_i n7; rw [if_neg n7] at hokc ⊢
  exact .none _ h.next rfl
end
theorem Sent.or {packet granted sent wanted answered told : Int} {c : CH} {eof closed : Bool} {i : Nat} {x : CH × OM} (h : Sent packet c granted sent wanted answered told eof closed i x) :
    (x.2.kind = 0 ∧ TI packet x.1 granted sent wanted answered told eof closed (i + 1)) ∨
    ((x.2.kind = 94 ∨ x.2.kind = 95) ∧ closed = false ∧ eof = false ∧ (x.2.data.length : Int) ≤ packet ∧ x.2.data.length ≤ 32768 ∧ TI packet x.1 granted (sent + x.2.data.length) wanted answered told eof closed (i + 1)) ∨
    (x.2.kind = 96 ∧ closed = false ∧ eof = false ∧ TI packet x.1 granted sent wanted answered told true closed (i + 1)) ∨
    (x.2.kind = 97 ∧ closed = false ∧ answered = wanted ∧ TI packet x.1 granted sent wanted answered told eof true (i + 1)) ∨
    ((x.2.kind = 99 ∨ x.2.kind = 100) ∧ closed = false ∧ TI packet x.1 granted sent wanted (answered + 1) told eof closed (i + 1)) ∨
    (x.2.kind = 98 ∧ closed = false ∧ (x.2.name = rname 9 ∨ x.2.name = rname 10) ∧ TI packet x.1 granted sent wanted answered (told + 1) eof closed (i + 1)) ∨
    (x.2.kind = 93 ∧ closed = false ∧ TI packet x.1 granted sent wanted answered told eof closed (i + 1)) := by
  cases h with
  | none h hk => exact .inl ⟨hk, h⟩
  | data hk hc he hl hl2 h => exact .inr (.inl ⟨hk, hc, he, hl, hl2, h⟩)
  | eof hk hc he h => exact .inr (.inr (.inl ⟨hk, hc, he, h⟩))
  | close hk hc he h => exact .inr (.inr (.inr (.inl ⟨hk, hc, he, h⟩)))
  | answer hk hc h => exact .inr (.inr (.inr (.inr (.inl ⟨hk, hc, h⟩))))
  | tell hk hc hn h => exact .inr (.inr (.inr (.inr (.inr (.inl ⟨hk, hc, hn, h⟩)))))
  | more hk hc h => exact .inr (.inr (.inr (.inr (.inr (.inr ⟨hk, hc, h⟩)))))
theorem wrapU64 {x : Int} (h : 0 ≤ x ∧ x ≤ 18446744073709551615) : IntKind.u64.wrap x = x := by
  rw [IntKind.wrap_u64]; omega
theorem wrapU32 {x : Int} (h : 0 ≤ x ∧ x ≤ 4294967295) : IntKind.u32.wrap x = x := by
  rw [IntKind.wrap_u32]; omega
theorem wrapI64 {x : Int} (h : -9223372036854775808 ≤ x ∧ x ≤ 9223372036854775807) : IntKind.i64.wrap x = x := IntWalk.i64_in x (by omega)
end Go.Proofs.YtpojfcpeibnohaaGreatDoor

namespace Go.Proofs.YtpojfcpeibnohaaGreatDoor
set_option linter.all false

section
variable (P : Program)
def selfB : Nat → TypeId → Value → Bool
  | 0, _, _ => false
  | m + 1, t, v => match P.underlying t with
    | some .bool => match v with
      | .bool _ => true
      | _ => false
    | some (.int _) => match v with
      | .int _ _ => true
      | _ => false
    | some .string => match v with
      | .string _ => true
      | _ => false
    | some (.struct fs) => match v with
      | .agg xs => !P.stoodInHeld t && fs.toList.all fun f => f.name != "_" && (match partS P f.type (xs.toList.map .v) f.offset with
        | some u => selfB m f.type (u.den [])
        | none => false)
      | _ => false
    | _ => false
end
section
variable {P : Program}
theorem selfB_run : ∀ (m : Nat) (t : TypeId) (v : Value), selfB P m t v = true → ∀ (d : Nat) (w : World), (Op.equalIn (d + m) t v v).run P w = .ok true w
  | 0, t, v, h, d, w => by simp [selfB] at h
  | m + 1, t, v, h, d, w => by
    rw [show d + (m + 1) = (d + m) + 1 by omega]
    unfold selfB at h
    split at h
    · rename_i hu
      split at h
      · rename_i b; rw [run_equalIn_bool' w (d + m) t b b hu]; simp
      · cases h
    · rename_i k hu
      split at h
      · rename_i k' a; rw [run_equalIn_int w (d + m) t k' k a a hu]; simp
      · cases h
    · rename_i hu
      split at h
      · rename_i s; rw [run_equalIn_string w (d + m) t s s hu]; simp
      · cases h
    · rename_i fs hu
      split at h
      · rename_i xs
        simp only [Bool.and_eq_true, Bool.not_eq_true'] at h
        have hf : P.fieldsOf t = fs := by unfold Program.fieldsOf; rw [hu]
        rw [run_equalIn_struct w (d + m) t xs xs (by rw [hf]; exact hu) h.1, hf]
        have key : ∀ l : List Field, (l.all fun f => f.name != "_" && (match partS P f.type (xs.toList.map .v) f.offset with | some u => selfB P m f.type (u.den []) | none => false)) = true → (Op.eqFields (d + m) xs xs l).run P w = .ok true w := by
          intro l
          induction l with
          | nil => intro _; simp [Op.eqFields]
          | cons f l ih =>
            intro hl
            simp only [List.all_cons, Bool.and_eq_true] at hl
            obtain ⟨⟨h1, h2⟩, h3⟩ := hl
            split at h2
            · rename_i u hp
              have hpart : (part f.type xs f.offset).run P w = .ok (u.den []) w := by
                have := run_part_S (β := []) (w := w) hp
                rwa [dens_v, Array.toArray_toList] at this
              have hself := selfB_run m f.type (u.den []) h2 d w
              have hne : f.name ≠ "_" := by simpa using h1
              simp only [Op.eqFields, hne, ne_eq, not_false_eq_true, if_true, Sem.run_bind, hpart, Result.andThen_ok, hself, Bool.not_true, Bool.false_eq_true, if_false]
              exact ih h3
            · cases h2
        exact key fs.toList h.2
      · cases h
    · cases h
variable {f : FuncId} {R : Ending → World → Prop} {n : Nat} {w0 : World} {L : List Nat} {β : List Nat} {m : SM}
def sameOf (n : Nat) (β : List Nat) (m : SM) : Option (BinOp × TypeId × Value × Value) := match curOp m with
  | some o => match gOk m o with
    | true => match o.op with
      | .binOp op T x y _ => some (op, T, (evS n m.sl x).den β, (evS n m.sl y).den β)
      | _ => none
    | false => none
  | none => none
theorem run_same {op : BinOp} {T : TypeId} {xs : Array Value} {b : Bool} (ho : op = .eql ∧ b = true ∨ op = .neq ∧ b = false) (hm : P.eqGuardType P.depth T = false) (h : selfB P 100 T (.agg xs) = true) (x y : Operand) (w : World) : ((do eqGuard op T x y (.agg xs) (.agg xs); binOp op T (.agg xs) (.agg xs)) : Sem Value).run P w = .ok (.bool b) w := by
  have hr := selfB_run 100 T (.agg xs) h 9900 w
  rcases ho with ⟨rfl, rfl⟩ | ⟨rfl, rfl⟩
  · simp only [Sem.run_bind, run_eqGuard_agg w _ T x y xs xs hm, Result.andThen_ok, run_eql_struct]
    rw [show (10000 : Nat) = 9900 + 100 from rfl, hr]; rfl
  · simp only [Sem.run_bind, run_eqGuard_agg w _ T x y xs xs hm, Result.andThen_ok, run_neq_struct]
    rw [show (10000 : Nat) = 9900 + 100 from rfl, hr]; rfl
/-- A struct against itself. -/
theorem Hs.same {op : BinOp} {T : TypeId} (xs : Array Value) (b : Bool) (hc : sameOf n β m = some (op, T, .agg xs, .agg xs)) (ho : op = .eql ∧ b = true ∨ op = .neq ∧ b = false) (hm : (!P.eqGuardType P.depth T && selfB P 100 T (.agg xs)) = true) (h : Hs P f R n w0 L β (m.put (dstOf m) (.c (.v (.bool b))) m.hp)) : Hs P f R n w0 L β m := by
  simp only [Bool.and_eq_true, Bool.not_eq_true'] at hm
  refine ⟨fun w H W => ?_⟩
  unfold sameOf at hc
  split at hc
  · rename_i o hcur
    split at hc
    · rename_i hg
      split at hc
      · rename_i op' T' x y z hop
        simp only [Option.some.injEq, Prod.mk.injEq] at hc
        obtain ⟨rfl, rfl, hx, hy⟩ := hc
        have hd : dstOf m = o.dst := by unfold dstOf; rw [hcur]
        rw [hd] at h
        refine Gs.val (v := .c (.v (.bool b))) hcur hg ?_ (h.go w H ?_)
        · have hr := run_same (P := P) ho hm.1 hm.2 x y w
          simp only [execOp, hop, hx, hy, Sem.run_bind] at hr ⊢
          simp only [hr, Result.andThen_ok, Sem.run_pure]
          rfl
        · simp only [SM.wf, SM.put, Bool.and_eq_true]
          exact ⟨putS_wf (SM.wf_sl W) rfl, SM.wf_hp W⟩
      · cases hc
    · cases hc
  · cases hc
end
end Go.Proofs.YtpojfcpeibnohaaGreatDoor

namespace Go.Proofs.YtpojfcpeibnohaaGreatDoor
set_option linter.all false
set_option maxRecDepth 100000
open Go.RowKit

section
variable {f : FuncId} {R : Ending → World → Prop} {n : Nat} {w0 : World} {β : List Nat} {m : SM}
theorem Hs.lit (k : Nat) (gs : List Int) (ng : Nat) (hg : gs.length = ng) {B : Option Addr} {c ty : Nat}
    (hs : semOf n β m = some (valS (Builtin.append_ #[33, 33] ty #[.slice (some ⟨nm β k, 0, none⟩) 0 0, .slice B ng c])))
    (hk : m.hp[k]? = some (.b true 5 [])) (hrd : (rdOf m).contains k = false)
    (hr : ∀ w, Mem w0 [] β m.hp w → Rd w B gs) (hlen : ng ≤ 140737488355328)
    (h : ∀ x : Option Addr × Nat, Hs Tryz.prog f R n w0 [] β (m.put (dstOf m) (.c (.v (.slice x.1 ng x.2))) (m.hp.set k (.q true (aoB gs x.1) (fun w => Bs w w0.heap.size x.1 gs x.2) bs_st)))) : Hs Tryz.prog f R n w0 [] β m := by
  subst hg
  have hkl := (List.getElem?_eq_some_iff.1 hk).1
  refine Hs.opW hs fun w H W => ?_
  have hB : Blk w (nm β k) 5 (u8s []) := by
    have := H.lies k _ hk
    simpa [HB.lies, dens, u8s] using this
  have hbase : w0.heap.size ≤ nm β k := (H.own k _ _ hk rfl rfl).resolve_left (by simp)
  have hown := ownB_blk (l := []) hB hbase (by decide)
  obtain ⟨v', w', e, h1, h2, _, h3⟩ := run_app2 (w := w) ty w0.heap.size _ [] hown B c gs (hr w H) (by simpa using hlen) H.only.size
  have h1 : OwnB w' w0.heap.size v' gs := h1
  obtain ⟨A', cap, rfl, hBs⟩ := ownB_bs h1 (Nat.le_trans H.only.size h2.size)
  refine ⟨[], .c (.v (.slice A' gs.length cap)), m.hp.set k (.q true (aoB gs A') (fun w => Bs w w0.heap.size A' gs cap) bs_st), w', e, ?_, ?_, fun i hi b hb => ?_, by rw [List.append_nil]; exact h (A', cap)⟩
  · rw [List.append_nil]
    refine H.swap k hk h2 (fun x hx => ?_) rfl ⟨hBs, fun a ha => ?_⟩ (fun x hx => ?_)
    · simp only [Value.ownBlock, Option.toList_some, List.mem_singleton] at hx
      subst hx; rfl
    · unfold aoB at ha
      split at ha
      · cases ha
      · rename_i h0
        obtain ⟨b, off, e2, hlt, _⟩ := hBs.rd (by omega)
        rw [ha] at e2; injection e2 with e2; subst e2; exact hlt
    · have hb : Value.ownBlock (.slice A' gs.length cap) = some x := by
        unfold aoB at hx
        split at hx
        · cases hx
        · cases A' with
          | none => cases hx
          | some a => simp only [HB.blk, Option.map_some] at hx; exact hx
      rcases h3 with h3 | h3
      · left
        rw [h3] at hb
        exact hb
      · right
        rw [h3] at hb
        injection hb with hb
        omega
  · simp only [SV.wf, SC.wf, Bool.true_and, Bool.and_eq_true, Nat.ble_eq, List.length_set]
    refine ⟨Nat.le_refl _, List.all_eq_true.2 fun x hx => ?_⟩
    rcases List.mem_or_eq_of_mem_set hx with hx | rfl
    · exact List.all_eq_true.1 (SM.wf_hp W) x hx
    · rfl
  · rw [List.getElem?_set, if_neg (fun e => by
      subst e
      simp at hrd
      exact hrd hi)]
    exact hb
end
end Go.Proofs.YtpojfcpeibnohaaGreatDoor

namespace Go.Proofs.YtpojfcpeibnohaaGreatDoor
set_option linter.all false
set_option maxRecDepth 100000
open Go.RowKit

theorem rfShut_any (c : CH) (w : World) : Calls Tryz.prog 25 #[c.val] w fun e w' => e = .returned (.bool c.shut) ∧ Only [] w w' := by
  refine Hs.enter Tryz.func25 [] [] [] [.g c.sc] (Mem.start0 w) (by kernel_rfl) (by kernel_rfl) ?_
  refine Hs.run1 300 (fun _ => by kernel_rfl) fun b0 => ?_
  have fin : ∀ b : Bool, c.shut = b → c.shut = b := fun _ h => h
  refine Hs.bool 5 c.sEof (by kernel_rfl) (fun h1 => ?_) (fun h1 => ?_)
  · refine Hs.rung0 [2] 300 (fun _ => by kernel_rfl) ?_
    refine Hs.bool 9 true (by kernel_rfl) (fun _ => ?_) (fun h => by cases h)
    refine Hs.rung0 [2, 6] 300 (fun _ => by kernel_rfl) ?_
    exact Hs.ret (v := .bool true) Tryz.func25 (by kernel_rfl) fun w' H => ⟨by simp [CH.shut, h1], H.only⟩
  · refine Hs.rung0 [2] 300 (fun _ => by kernel_rfl) ?_
    refine Hs.bool 9 c.sClose (by kernel_rfl) (fun h2 => ?_) (fun h2 => ?_)
    · refine Hs.rung0 [2, 6] 300 (fun _ => by kernel_rfl) ?_
      exact Hs.ret (v := .bool true) Tryz.func25 (by kernel_rfl) fun w' H => ⟨by simp [CH.shut, h2], H.only⟩
    · refine Hs.rung0 [2, 6] 300 (fun _ => by kernel_rfl) ?_
      exact Hs.ret (v := .bool c.gClose) Tryz.func25 (by kernel_rfl) fun w' H => ⟨by simp [CH.shut, h1, h2], H.only⟩
theorem rfRoom_any (c : CH) (k : Int) (w : World) (hc : c.ok) (hk : -9223372036854775808 ≤ k ∧ k ≤ 9223372036854775807) : Calls Tryz.prog 12 #[c.val, .int .i64 k] w fun e w' => e = .returned (.int .i64 (roomC c k)) ∧ Only [] w w' := by
  refine Hs.enter Tryz.func12 [] [] [] [.g c.sc, .c (.v (.int .i64 k))] (Mem.start0 w) (by kernel_rfl) (by kernel_rfl) ?_
  refine Hs.run1 300 (fun _ => by kernel_rfl) fun b0 => ?_
  refine Hs.callV (fun w _ => rfShut_any c w) (by kernel_rfl) ?_
  refine Hs.run0 300 (fun _ => by kernel_rfl) ?_
  refine Hs.cond c.shut (by kernel_rfl) (fun h => ?_) (fun h => ?_)
  · refine Hs.run0 300 (fun _ => by kernel_rfl) ?_
    exact Hs.ret (v := .int .i64 0) Tryz.func12 (by kernel_rfl) fun w' H => ⟨by unfold roomC; rw [if_pos h], H.only⟩
  · refine Hs.run0 300 (fun _ => by kernel_rfl) ?_
    refine Hs.callV (fun w _ => (rfit_any c.left c.pack k w hc.left hc.pack hk).mono fun e w' h => ⟨h.1, only_of_below h.2⟩) (by kernel_rfl) ?_
    refine Hs.run0 300 (fun _ => by kernel_rfl) ?_
    exact Hs.ret (v := .int .i64 (fT c.left c.pack k)) Tryz.func12 (by kernel_rfl) fun w' H => ⟨by unfold roomC; rw [if_neg (by simp [h])], H.only⟩
theorem rfEof_any (c : CH) (w : World) : Calls Tryz.prog 32 #[c.val] w (StepO w (eofC c)) := by
  refine Hs.enter Tryz.func32 [] [] [] [.g c.sc] (Mem.start0 w) (by kernel_rfl) (by kernel_rfl) ?_
  refine Hs.run3 300 (fun _ => by kernel_rfl) fun b0 b1 b2 => ?_
  refine Hs.bool 7 c.sEof (by kernel_rfl) (fun h1 => ?_) (fun h1 => ?_)
  · refine Hs.rung0 [2] 300 (fun _ => by kernel_rfl) ?_
    refine Hs.cond true (by kernel_rfl) (fun _ => ?_) (fun h => by cases h)
    refine Hs.run0 300 (fun _ => by kernel_rfl) ?_
    exact Hs.ret (v := .tuple #[c.val, omV om0 none 0, .int .i64 9]) Tryz.func32 (by kernel_rfl) fun w' H => by rw [show eofC c = _ from if_pos (.inl h1)]; exact ⟨H.only, none, 0, rfl, Bs.none _ _⟩
  · refine Hs.rung0 [2] 300 (fun _ => by kernel_rfl) ?_
    refine Hs.cond c.sClose (by kernel_rfl) (fun h2 => ?_) (fun h2 => ?_)
    · refine Hs.run0 300 (fun _ => by kernel_rfl) ?_
      exact Hs.ret (v := .tuple #[c.val, omV om0 none 0, .int .i64 9]) Tryz.func32 (by kernel_rfl) fun w' H => by rw [show eofC c = _ from if_pos (.inr h2)]; exact ⟨H.only, none, 0, rfl, Bs.none _ _⟩
    · refine Hs.run0 300 (fun _ => by kernel_rfl) ?_
      refine Hs.any [0] (by kernel_rfl) ?_
      refine Hs.run0 300 (fun _ => by kernel_rfl) ?_
      exact Hs.ret (v := .tuple #[CH.val { c with sEof := true }, omV (omK c 96) none 0, .int .i64 0]) Tryz.func32 (by kernel_rfl) fun w' H => by rw [show eofC c = _ from if_neg (by simp [h1, h2]; try omega)]; exact ⟨H.only, none, 0, rfl, Bs.none _ _⟩
theorem rfClose_any (c : CH) (w : World) : Calls Tryz.prog 33 #[c.val] w (StepO w (closeC c)) := by
  refine Hs.enter Tryz.func33 [] [] [] [.g c.sc] (Mem.start0 w) (by kernel_rfl) (by kernel_rfl) ?_
  refine Hs.run3 300 (fun _ => by kernel_rfl) fun b0 b1 b2 => ?_
  refine Hs.bool 7 c.sClose (by kernel_rfl) (fun h1 => ?_) (fun h1 => ?_)
  · refine Hs.rung0 [2] 300 (fun _ => by kernel_rfl) ?_
    refine Hs.cond true (by kernel_rfl) (fun _ => ?_) (fun h => by cases h)
    refine Hs.run0 300 (fun _ => by kernel_rfl) ?_
    exact Hs.ret (v := .tuple #[c.val, omV om0 none 0, .int .i64 9]) Tryz.func33 (by kernel_rfl) fun w' H => by rw [show closeC c = _ from if_pos (.inl h1)]; exact ⟨H.only, none, 0, rfl, Bs.none _ _⟩
  · refine Hs.rung0 [2] 300 (fun _ => by kernel_rfl) ?_
    refine Hs.condP (0 < c.owed) (by kernel_rfl) (fun h2 => ?_) (fun h2 => ?_)
    · refine Hs.run0 300 (fun _ => by kernel_rfl) ?_
      exact Hs.ret (v := .tuple #[c.val, omV om0 none 0, .int .i64 9]) Tryz.func33 (by kernel_rfl) fun w' H => by rw [show closeC c = _ from if_pos (.inr h2)]; exact ⟨H.only, none, 0, rfl, Bs.none _ _⟩
    · refine Hs.run0 300 (fun _ => by kernel_rfl) ?_
      refine Hs.any [0] (by kernel_rfl) ?_
      refine Hs.run0 300 (fun _ => by kernel_rfl) ?_
      exact Hs.ret (v := .tuple #[CH.val { c with sClose := true }, omV (omK c 97) none 0, .int .i64 0]) Tryz.func33 (by kernel_rfl) fun w' H => by rw [show closeC c = _ from if_neg (by simp [h1, h2]; try omega)]; exact ⟨H.only, none, 0, rfl, Bs.none _ _⟩
theorem rfReply_any (c : CH) (ok : Bool) (w : World) : Calls Tryz.prog 29 #[c.val, .bool ok] w (StepO w (replyC c ok)) := by
  refine Hs.enter Tryz.func29 [] [] [] [.g c.sc, .c (.v (.bool ok))] (Mem.start0 w) (by kernel_rfl) (by kernel_rfl) ?_
  refine Hs.run3 300 (fun _ => by kernel_rfl) fun b0 b1 b2 => ?_
  refine Hs.bool 10 (decide (c.owed ≤ 0)) (by kernel_rfl) (fun h1 => ?_) (fun h1 => ?_)
  · refine Hs.rung0 [3] 300 (fun _ => by kernel_rfl) ?_
    refine Hs.cond true (by kernel_rfl) (fun _ => ?_) (fun h => by cases h)
    refine Hs.run0 300 (fun _ => by kernel_rfl) ?_
    exact Hs.ret (v := .tuple #[c.val, omV om0 none 0, .int .i64 9]) Tryz.func29 (by kernel_rfl) fun w' H => by rw [show replyC c ok = _ from if_pos (.inl (of_decide_eq_true h1))]; exact ⟨H.only, none, 0, rfl, Bs.none _ _⟩
  · refine Hs.rung0 [3] 300 (fun _ => by kernel_rfl) ?_
    refine Hs.cond c.sClose (by kernel_rfl) (fun h2 => ?_) (fun h2 => ?_)
    · refine Hs.run0 300 (fun _ => by kernel_rfl) ?_
      exact Hs.ret (v := .tuple #[c.val, omV om0 none 0, .int .i64 9]) Tryz.func29 (by kernel_rfl) fun w' H => by rw [show replyC c ok = _ from if_pos (.inr h2)]; exact ⟨H.only, none, 0, rfl, Bs.none _ _⟩
    · refine Hs.run0 300 (fun _ => by kernel_rfl) ?_
      refine Hs.cond ok (by kernel_rfl) (fun h3 => ?_) (fun h3 => ?_)
      · skip
        refine Hs.run0 300 (fun _ => by kernel_rfl) ?_
        refine Hs.any [0] (by kernel_rfl) ?_
        refine Hs.run0 300 (fun _ => by kernel_rfl) ?_
        exact Hs.ret (v := .tuple #[CH.val { c with owed := IntKind.i64.wrap (c.owed - 1) }, omV (omK c 99) none 0, .int .i64 0]) Tryz.func29 (by kernel_rfl) fun w' H => by rw [show replyC c ok = _ from if_neg (by have := of_decide_eq_false h1; simp [h2]; omega), h3]; exact ⟨H.only, none, 0, rfl, Bs.none _ _⟩
      · skip
        refine Hs.run0 300 (fun _ => by kernel_rfl) ?_
        refine Hs.any [0] (by kernel_rfl) ?_
        refine Hs.run0 300 (fun _ => by kernel_rfl) ?_
        exact Hs.ret (v := .tuple #[CH.val { c with owed := IntKind.i64.wrap (c.owed - 1) }, omV (omK c 100) none 0, .int .i64 0]) Tryz.func29 (by kernel_rfl) fun w' H => by rw [show replyC c ok = _ from if_neg (by have := of_decide_eq_false h1; simp [h2]; omega), h3]; exact ⟨H.only, none, 0, rfl, Bs.none _ _⟩
theorem rfGrant_any (c : CH) (k : Int) (w : World) (hc : c.ok) (hk : -9223372036854775808 ≤ k ∧ k ≤ 9223372036854775807) : Calls Tryz.prog 30 #[c.val, .int .i64 k] w fun e w' => e = .returned (.tuple #[(grantC c k).1.val, omV (grantC c k).2.1 none 0, .bool (decide ((grantC c k).2.2 = 0))]) ∧ Only [] w w' := by
  refine Hs.enter Tryz.func30 [] [] [] [.g c.sc, .c (.v (.int .i64 k))] (Mem.start0 w) (by kernel_rfl) (by kernel_rfl) ?_
  refine Hs.run3 300 (fun _ => by kernel_rfl) fun b0 b1 b2 => ?_
  refine Hs.callV (fun w _ => (rrefill_any c.inl c.lim k w hc.inl hc.lim hk).mono fun e w' h => ⟨h.1, only_of_below h.2⟩) (by kernel_rfl) ?_
  refine Hs.run1 300 (fun _ => by kernel_rfl) fun b0 => ?_
  refine Hs.bool 18 c.sClose (by kernel_rfl) (fun h3 => ?_) (fun h3 => ?_)
  · refine Hs.rung0 [2] 300 (fun _ => by kernel_rfl) ?_
    refine Hs.bool 22 true (by kernel_rfl) (fun _ => ?_) (fun h => by cases h)
    refine Hs.rung0 [2, 6] 300 (fun _ => by kernel_rfl) ?_
    refine Hs.bool 26 true (by kernel_rfl) (fun _ => ?_) (fun h => by cases h)
    refine Hs.rung0 [2, 6, 10] 300 (fun _ => by kernel_rfl) ?_
    refine Hs.cond true (by kernel_rfl) (fun _ => ?_) (fun h => by cases h)
    refine Hs.run0 300 (fun _ => by kernel_rfl) ?_
    exact Hs.ret (v := .tuple #[c.val, omV om0 none 0, .bool false]) Tryz.func30 (by kernel_rfl) fun w' H => by rw [show grantC c k = _ from if_pos (.inr (.inr (.inl h3)))]; exact ⟨rfl, H.only⟩
  refine Hs.rung0 [2] 300 (fun _ => by kernel_rfl) ?_
  refine Hs.bool 22 c.gClose (by kernel_rfl) (fun h4 => ?_) (fun h4 => ?_)
  · refine Hs.rung0 [2, 6] 300 (fun _ => by kernel_rfl) ?_
    refine Hs.bool 26 true (by kernel_rfl) (fun _ => ?_) (fun h => by cases h)
    refine Hs.rung0 [2, 6, 10] 300 (fun _ => by kernel_rfl) ?_
    refine Hs.cond true (by kernel_rfl) (fun _ => ?_) (fun h => by cases h)
    refine Hs.run0 300 (fun _ => by kernel_rfl) ?_
    exact Hs.ret (v := .tuple #[c.val, omV om0 none 0, .bool false]) Tryz.func30 (by kernel_rfl) fun w' H => by rw [show grantC c k = _ from if_pos (.inr (.inr (.inr h4)))]; exact ⟨rfl, H.only⟩
  refine Hs.rung0 [2, 6] 300 (fun _ => by kernel_rfl) ?_
  refine Hs.bool 26 c.gEof (by kernel_rfl) (fun h2 => ?_) (fun h2 => ?_)
  · refine Hs.rung0 [2, 6, 10] 300 (fun _ => by kernel_rfl) ?_
    refine Hs.cond true (by kernel_rfl) (fun _ => ?_) (fun h => by cases h)
    refine Hs.run0 300 (fun _ => by kernel_rfl) ?_
    exact Hs.ret (v := .tuple #[c.val, omV om0 none 0, .bool false]) Tryz.func30 (by kernel_rfl) fun w' H => by rw [show grantC c k = _ from if_pos (.inr (.inl h2))]; exact ⟨rfl, H.only⟩
  refine Hs.rung0 [2, 6, 10] 300 (fun _ => by kernel_rfl) ?_
  refine Hs.cond (fR c.inl c.lim k == 0) (by kernel_rfl) (fun h1 => ?_) (fun h1 => ?_)
  · refine Hs.run0 300 (fun _ => by kernel_rfl) ?_
    exact Hs.ret (v := .tuple #[c.val, omV om0 none 0, .bool false]) Tryz.func30 (by kernel_rfl) fun w' H => by rw [show grantC c k = _ from if_pos (.inl (by simpa using h1))]; exact ⟨rfl, H.only⟩
  refine Hs.run0 300 (fun _ => by kernel_rfl) ?_
  refine Hs.any [0, 3] (by kernel_rfl) ?_
  refine Hs.run0 300 (fun _ => by kernel_rfl) ?_
  exact Hs.ret (v := .tuple #[CH.val { c with inl := fL c.inl c.lim k }, omV ⟨93, c.rem, fR c.inl c.lim k, 0, ⟨#[]⟩, []⟩ none 0, .bool true]) Tryz.func30 (by kernel_rfl) fun w' H => by rw [show grantC c k = _ from if_neg (by simp [h2, h3, h4]; simpa using h1)]; exact ⟨rfl, H.only⟩
theorem rfData_any (c : CH) (code : Int) (bA : Option Addr) (b : List Int) (bc : Nat) (w : World) (hc : c.ok) (hr : Rd w bA b) (hbm : b.length ≤ maxLen) : Calls Tryz.prog 28 #[c.val, .int .u32 code, .slice bA b.length bc] w (StepO w (dataC c code b)) := by
  refine Hs.enter Tryz.func28 [] [] [] [.g c.sc, .c (.v (.int .u32 code)), .c (.v (.slice bA b.length bc))] (Mem.start0 w) (by kernel_rfl) (by kernel_rfl) ?_
  refine Hs.run3 300 (fun _ => by kernel_rfl) fun b0 b1 b2 => ?_
  refine Hs.callV (fun w _ => rfShut_any c w) (by kernel_rfl) ?_
  refine Hs.run0 300 (fun _ => by kernel_rfl) ?_
  refine Hs.cond c.shut (by kernel_rfl) (fun h => ?_) (fun h => ?_)
  · refine Hs.run0 300 (fun _ => by kernel_rfl) ?_
    exact Hs.ret (v := .tuple #[c.val, omV om0 none 0, .int .i64 9]) Tryz.func28 (by kernel_rfl) fun w' H => by rw [show dataC c code b = _ from if_pos h]; exact ⟨H.only, none, 0, rfl, Bs.none _ _⟩
  refine Hs.run0 300 (fun _ => by kernel_rfl) ?_
  refine Hs.callV (fun w _ => (rsent_any c.left c.pack b.length w hc.left hc.pack (by unfold maxLen at hbm; omega)).mono fun e w' h => ⟨h.1, only_of_below h.2⟩) (by kernel_rfl) ?_
  refine Hs.run1 300 (fun _ => by kernel_rfl) fun b3 => ?_
  refine Hs.cond (sE c.left c.pack b.length != 0) (by kernel_rfl) (fun h2 => ?_) (fun h2 => ?_)
  · refine Hs.run0 300 (fun _ => by kernel_rfl) ?_
    exact Hs.ret (v := .tuple #[c.val, omV om0 none 0, .int .i64 (sE c.left c.pack b.length)]) Tryz.func28 (by kernel_rfl) fun w' H => by rw [show dataC c code b = _ from (if_neg (by simp [h])).trans (if_pos (by simpa using h2))]; exact ⟨H.only, none, 0, rfl, Bs.none _ _⟩
  have hb : b.length ≤ 140737488355000 := by
    have h2 : sE c.left c.pack b.length = 0 := by simpa using h2
    unfold sE at h2
    split at h2
    · rename_i h3
      have := once_rng c.left c.pack hc.left.1 hc.pack.1
      omega
    · cases h2
  refine Hs.run0 300 (fun _ => by kernel_rfl) ?_
  refine Hs.any [0] (by kernel_rfl) ?_
  refine Hs.run0 300 (fun _ => by kernel_rfl) ?_
  refine Hs.branch2 2 6 (by kernel_rfl) ?_ ?_
  · refine Hs.run1 300 (fun _ => by kernel_rfl) fun b4 => ?_
    refine Hs.branch2 4 6 (by kernel_rfl) ?_ ?_
    · refine Hs.lit (c := bc) (ty := 33) 4 b b.length rfl (by kernel_rfl) (by kernel_rfl) (by kernel_rfl) (fun w' H => hr.only H.only) (by omega) fun x => ?_
      refine Hs.run1 300 (fun _ => by kernel_rfl) fun b5 => ?_
      refine Hs.cond (code != 0) (by kernel_rfl) (fun h3 => ?_) (fun h3 => ?_)
      · skip
        have hd : dataC c code b = ({ c with left := sL c.left c.pack b.length }, ⟨95, c.rem, 0, code, ⟨#[]⟩, b⟩, 0) := by
          refine (if_neg (by simp [h])).trans ((if_neg (by simpa using h2)).trans ?_)
          rw [if_pos (by simpa using h3)]
        refine Hs.run0 300 (fun _ => by kernel_rfl) ?_
        refine Hs.any [0, 5] (by kernel_rfl) ?_
        refine Hs.run0 300 (fun _ => by kernel_rfl) ?_
        refine Hs.ret (v := .tuple #[CH.val { c with left := sL c.left c.pack b.length }, omV ⟨95, c.rem, 0, code, ⟨#[]⟩, b⟩ x.1 x.2, .int .i64 0]) Tryz.func28 (by kernel_rfl) fun w' H => ?_
        rw [hd]
        exact ⟨H.only, x.1, x.2, rfl, H.atQ 4 (wr := true) (A := aoB b x.1) (Q := fun w' => Bs w' w.heap.size x.1 b x.2) (st := bs_st) (by kernel_rfl)⟩
      · have h3' : code = 0 := by simpa using h3
        have hd : dataC c code b = ({ c with left := sL c.left c.pack b.length }, ⟨94, c.rem, 0, 0, ⟨#[]⟩, b⟩, 0) := by
          refine (if_neg (by simp [h])).trans ((if_neg (by simpa using h2)).trans ?_)
          rw [if_neg (by simpa using h3), h3']
        refine Hs.run0 300 (fun _ => by kernel_rfl) ?_
        refine Hs.any [0, 5] (by kernel_rfl) ?_
        refine Hs.run0 300 (fun _ => by kernel_rfl) ?_
        refine Hs.ret (v := .tuple #[CH.val { c with left := sL c.left c.pack b.length }, omV ⟨94, c.rem, 0, 0, ⟨#[]⟩, b⟩ x.1 x.2, .int .i64 0]) Tryz.func28 (by kernel_rfl) fun w' H => ?_
        rw [hd]
        exact ⟨H.only, x.1, x.2, rfl, H.atQ 4 (wr := true) (A := aoB b x.1) (Q := fun w' => Bs w' w.heap.size x.1 b x.2) (st := bs_st) (by kernel_rfl)⟩
    · refine Hs.run1 300 (fun _ => by kernel_rfl) fun b5 => ?_
      refine Hs.lit (c := bc) (ty := 33) 4 b b.length rfl (by kernel_rfl) (by kernel_rfl) (by kernel_rfl) (fun w' H => hr.only H.only) (by omega) fun x => ?_
      refine Hs.run0 300 (fun _ => by kernel_rfl) ?_
      refine Hs.cond (code != 0) (by kernel_rfl) (fun h3 => ?_) (fun h3 => ?_)
      · skip
        have hd : dataC c code b = ({ c with left := sL c.left c.pack b.length }, ⟨95, c.rem, 0, code, ⟨#[]⟩, b⟩, 0) := by
          refine (if_neg (by simp [h])).trans ((if_neg (by simpa using h2)).trans ?_)
          rw [if_pos (by simpa using h3)]
        refine Hs.run0 300 (fun _ => by kernel_rfl) ?_
        refine Hs.any [0, 5] (by kernel_rfl) ?_
        refine Hs.run0 300 (fun _ => by kernel_rfl) ?_
        refine Hs.ret (v := .tuple #[CH.val { c with left := sL c.left c.pack b.length }, omV ⟨95, c.rem, 0, code, ⟨#[]⟩, b⟩ x.1 x.2, .int .i64 0]) Tryz.func28 (by kernel_rfl) fun w' H => ?_
        rw [hd]
        exact ⟨H.only, x.1, x.2, rfl, H.atQ 4 (wr := true) (A := aoB b x.1) (Q := fun w' => Bs w' w.heap.size x.1 b x.2) (st := bs_st) (by kernel_rfl)⟩
      · have h3' : code = 0 := by simpa using h3
        have hd : dataC c code b = ({ c with left := sL c.left c.pack b.length }, ⟨94, c.rem, 0, 0, ⟨#[]⟩, b⟩, 0) := by
          refine (if_neg (by simp [h])).trans ((if_neg (by simpa using h2)).trans ?_)
          rw [if_neg (by simpa using h3), h3']
        refine Hs.run0 300 (fun _ => by kernel_rfl) ?_
        refine Hs.any [0, 5] (by kernel_rfl) ?_
        refine Hs.run0 300 (fun _ => by kernel_rfl) ?_
        refine Hs.ret (v := .tuple #[CH.val { c with left := sL c.left c.pack b.length }, omV ⟨94, c.rem, 0, 0, ⟨#[]⟩, b⟩ x.1 x.2, .int .i64 0]) Tryz.func28 (by kernel_rfl) fun w' H => ?_
        rw [hd]
        exact ⟨H.only, x.1, x.2, rfl, H.atQ 4 (wr := true) (A := aoB b x.1) (Q := fun w' => Bs w' w.heap.size x.1 b x.2) (st := bs_st) (by kernel_rfl)⟩
  · refine Hs.run2 300 (fun _ => by kernel_rfl) fun b4 b5 => ?_
    refine Hs.lit (c := bc) (ty := 33) 5 b b.length rfl (by kernel_rfl) (by kernel_rfl) (by kernel_rfl) (fun w' H => hr.only H.only) (by omega) fun x => ?_
    refine Hs.run0 300 (fun _ => by kernel_rfl) ?_
    refine Hs.cond (code != 0) (by kernel_rfl) (fun h3 => ?_) (fun h3 => ?_)
    · skip
      have hd : dataC c code b = ({ c with left := sL c.left c.pack b.length }, ⟨95, c.rem, 0, code, ⟨#[]⟩, b⟩, 0) := by
        refine (if_neg (by simp [h])).trans ((if_neg (by simpa using h2)).trans ?_)
        rw [if_pos (by simpa using h3)]
      refine Hs.run0 300 (fun _ => by kernel_rfl) ?_
      refine Hs.any [0, 4] (by kernel_rfl) ?_
      refine Hs.run0 300 (fun _ => by kernel_rfl) ?_
      refine Hs.ret (v := .tuple #[CH.val { c with left := sL c.left c.pack b.length }, omV ⟨95, c.rem, 0, code, ⟨#[]⟩, b⟩ x.1 x.2, .int .i64 0]) Tryz.func28 (by kernel_rfl) fun w' H => ?_
      rw [hd]
      exact ⟨H.only, x.1, x.2, rfl, H.atQ 5 (wr := true) (A := aoB b x.1) (Q := fun w' => Bs w' w.heap.size x.1 b x.2) (st := bs_st) (by kernel_rfl)⟩
    · have h3' : code = 0 := by simpa using h3
      have hd : dataC c code b = ({ c with left := sL c.left c.pack b.length }, ⟨94, c.rem, 0, 0, ⟨#[]⟩, b⟩, 0) := by
        refine (if_neg (by simp [h])).trans ((if_neg (by simpa using h2)).trans ?_)
        rw [if_neg (by simpa using h3), h3']
      refine Hs.run0 300 (fun _ => by kernel_rfl) ?_
      refine Hs.any [0, 4] (by kernel_rfl) ?_
      refine Hs.run0 300 (fun _ => by kernel_rfl) ?_
      refine Hs.ret (v := .tuple #[CH.val { c with left := sL c.left c.pack b.length }, omV ⟨94, c.rem, 0, 0, ⟨#[]⟩, b⟩ x.1 x.2, .int .i64 0]) Tryz.func28 (by kernel_rfl) fun w' H => ?_
      rw [hd]
      exact ⟨H.only, x.1, x.2, rfl, H.atQ 5 (wr := true) (A := aoB b x.1) (Q := fun w' => Bs w' w.heap.size x.1 b x.2) (st := bs_st) (by kernel_rfl)⟩
end Go.Proofs.YtpojfcpeibnohaaGreatDoor

namespace Go.Proofs.YtpojfcpeibnohaaGreatDoor
set_option linter.all false
set_option maxRecDepth 100000
open Go.RowKit

theorem rfRecv_any (c : CH) (m : MD) (w : World) (hc : c.ok) (hw : U32 m.window) (hl : m.data.length ≤ maxLen) : Calls Tryz.prog 27 #[c.val, m.val] w fun e w' => e = .returned (.tuple #[(recvC c m.kind m.window m.want m.data.length).1.val, .int .i64 (recvC c m.kind m.window m.want m.data.length).2]) ∧ Only [] w w' := by
  refine Hs.enter Tryz.func27 [] [] [] [.g c.sc, .g m.sc] (Mem.start0 w) (by kernel_rfl) (by kernel_rfl) ?_
  refine Hs.run3 300 (fun _ => by kernel_rfl) fun b0 b1 b2 => ?_
  refine Hs.cond c.gClose (by kernel_rfl) (fun h => ?_) (fun h => ?_)
  · refine Hs.run0 300 (fun _ => by kernel_rfl) ?_
    have e : recvC c m.kind m.window m.want m.data.length = (c, 9) := by unfold recvC; rw [if_pos h]
    exact Hs.ret (v := .tuple #[CH.val c, .int .i64 (9)]) Tryz.func27 (by kernel_rfl) fun w' H => by rw [e]; exact ⟨rfl, H.only⟩
  refine Hs.run0 300 (fun _ => by kernel_rfl) ?_
  refine Hs.cond (m.kind == 94) (by kernel_rfl) (fun hk => ?_) (fun hk => ?_)
  · have hk : m.kind = 94 := by simpa using hk
    refine Hs.run0 300 (fun _ => by kernel_rfl) ?_
    refine Hs.cond (m.kind == 94) (by kernel_rfl) (fun _ => ?_) (fun hx => absurd hk (by simpa using hx))
    refine Hs.run0 300 (fun _ => by kernel_rfl) ?_
    refine Hs.cond c.gEof (by kernel_rfl) (fun g => ?_) (fun g => ?_)
    · refine Hs.run0 300 (fun _ => by kernel_rfl) ?_
      have e : recvC c m.kind m.window m.want m.data.length = (c, 9) := by unfold recvC; rw [if_neg (by rw [h]; decide), if_pos (.inl hk), if_pos g]
      exact Hs.ret (v := .tuple #[CH.val c, .int .i64 (9)]) Tryz.func27 (by kernel_rfl) fun w' H => by rw [e]; exact ⟨rfl, H.only⟩
    · refine Hs.run0 300 (fun _ => by kernel_rfl) ?_
      refine Hs.callV (fun w _ => (rgot_any c.inl c.lim m.data.length w hc.inl (by unfold maxLen at hl; omega)).mono fun e w' h => ⟨h.1, only_of_below h.2⟩) (by kernel_rfl) ?_
      refine Hs.run0 300 (fun _ => by kernel_rfl) ?_
      have e : recvC c m.kind m.window m.want m.data.length = ({ c with inl := oL c.inl m.data.length }, oE c.inl m.data.length) := by unfold recvC; rw [if_neg (by rw [h]; decide), if_pos (.inl hk), if_neg (by rw [g]; decide)]
      exact Hs.ret (v := .tuple #[CH.val { c with inl := oL c.inl m.data.length }, .int .i64 (oE c.inl m.data.length)]) Tryz.func27 (by kernel_rfl) fun w' H => by rw [e]; exact ⟨rfl, H.only⟩
  have n94 : ¬ m.kind = 94 := by simpa using hk
  clear hk
  refine Hs.run0 300 (fun _ => by kernel_rfl) ?_
  refine Hs.cond (m.kind == 95) (by kernel_rfl) (fun hk => ?_) (fun hk => ?_)
  · have hk : m.kind = 95 := by simpa using hk
    refine Hs.run0 300 (fun _ => by kernel_rfl) ?_
    refine Hs.cond c.gEof (by kernel_rfl) (fun g => ?_) (fun g => ?_)
    · refine Hs.run0 300 (fun _ => by kernel_rfl) ?_
      have e : recvC c m.kind m.window m.want m.data.length = (c, 9) := by unfold recvC; rw [if_neg (by rw [h]; decide), if_pos (.inr hk), if_pos g]
      exact Hs.ret (v := .tuple #[CH.val c, .int .i64 (9)]) Tryz.func27 (by kernel_rfl) fun w' H => by rw [e]; exact ⟨rfl, H.only⟩
    · refine Hs.run0 300 (fun _ => by kernel_rfl) ?_
      refine Hs.callV (fun w _ => (rgot_any c.inl c.lim m.data.length w hc.inl (by unfold maxLen at hl; omega)).mono fun e w' h => ⟨h.1, only_of_below h.2⟩) (by kernel_rfl) ?_
      refine Hs.run0 300 (fun _ => by kernel_rfl) ?_
      have e : recvC c m.kind m.window m.want m.data.length = ({ c with inl := oL c.inl m.data.length }, oE c.inl m.data.length) := by unfold recvC; rw [if_neg (by rw [h]; decide), if_pos (.inr hk), if_neg (by rw [g]; decide)]
      exact Hs.ret (v := .tuple #[CH.val { c with inl := oL c.inl m.data.length }, .int .i64 (oE c.inl m.data.length)]) Tryz.func27 (by kernel_rfl) fun w' H => by rw [e]; exact ⟨rfl, H.only⟩
  have n95 : ¬ m.kind = 95 := by simpa using hk
  clear hk
  refine Hs.run0 300 (fun _ => by kernel_rfl) ?_
  refine Hs.cond (m.kind == 93) (by kernel_rfl) (fun hk => ?_) (fun hk => ?_)
  · have hk : m.kind = 93 := by simpa using hk
    refine Hs.run0 300 (fun _ => by kernel_rfl) ?_
    refine Hs.callV (fun w _ => (rgrant_any c.left c.pack m.window w hc.left hw).mono fun e w' h => ⟨h.1, only_of_below h.2⟩) (by kernel_rfl) ?_
    refine Hs.run0 300 (fun _ => by kernel_rfl) ?_
    have e : recvC c m.kind m.window m.want m.data.length = ({ c with left := gL c.left m.window }, gE c.left m.window) := by unfold recvC; rw [if_neg (by rw [h]; decide), if_neg (by omega), if_pos hk]
    exact Hs.ret (v := .tuple #[CH.val { c with left := gL c.left m.window }, .int .i64 (gE c.left m.window)]) Tryz.func27 (by kernel_rfl) fun w' H => by rw [e]; exact ⟨rfl, H.only⟩
  have n93 : ¬ m.kind = 93 := by simpa using hk
  clear hk
  refine Hs.run0 300 (fun _ => by kernel_rfl) ?_
  refine Hs.cond (m.kind == 96) (by kernel_rfl) (fun hk => ?_) (fun hk => ?_)
  · have hk : m.kind = 96 := by simpa using hk
    refine Hs.run0 300 (fun _ => by kernel_rfl) ?_
    refine Hs.cond c.gEof (by kernel_rfl) (fun g => ?_) (fun g => ?_)
    · refine Hs.run0 300 (fun _ => by kernel_rfl) ?_
      have e : recvC c m.kind m.window m.want m.data.length = (c, 9) := by unfold recvC; rw [if_neg (by rw [h]; decide), if_neg (by omega), if_neg (by omega), if_pos hk, if_pos g]
      exact Hs.ret (v := .tuple #[CH.val c, .int .i64 (9)]) Tryz.func27 (by kernel_rfl) fun w' H => by rw [e]; exact ⟨rfl, H.only⟩
    · refine Hs.run0 300 (fun _ => by kernel_rfl) ?_
      have e : recvC c m.kind m.window m.want m.data.length = ({ c with gEof := true }, 0) := by unfold recvC; rw [if_neg (by rw [h]; decide), if_neg (by omega), if_neg (by omega), if_pos hk, if_neg (by rw [g]; decide)]
      exact Hs.ret (v := .tuple #[CH.val { c with gEof := true }, .int .i64 (0)]) Tryz.func27 (by kernel_rfl) fun w' H => by rw [e]; exact ⟨rfl, H.only⟩
  have n96 : ¬ m.kind = 96 := by simpa using hk
  clear hk
  refine Hs.run0 300 (fun _ => by kernel_rfl) ?_
  refine Hs.cond (m.kind == 97) (by kernel_rfl) (fun hk => ?_) (fun hk => ?_)
  · have hk : m.kind = 97 := by simpa using hk
    refine Hs.run0 300 (fun _ => by kernel_rfl) ?_
    have e : recvC c m.kind m.window m.want m.data.length = ({ c with gClose := true }, 0) := by unfold recvC; rw [if_neg (by rw [h]; decide), if_neg (by omega), if_neg (by omega), if_neg (by omega), if_pos hk]
    exact Hs.ret (v := .tuple #[CH.val { c with gClose := true }, .int .i64 (0)]) Tryz.func27 (by kernel_rfl) fun w' H => by rw [e]; exact ⟨rfl, H.only⟩
  have n97 : ¬ m.kind = 97 := by simpa using hk
  clear hk
  refine Hs.run0 300 (fun _ => by kernel_rfl) ?_
  refine Hs.cond (m.kind == 98) (by kernel_rfl) (fun hk => ?_) (fun hk => ?_)
  · have hk : m.kind = 98 := by simpa using hk
    refine Hs.run0 300 (fun _ => by kernel_rfl) ?_
    refine Hs.cond m.want (by kernel_rfl) (fun g => ?_) (fun g => ?_)
    · refine Hs.run0 300 (fun _ => by kernel_rfl) ?_
      have e : recvC c m.kind m.window m.want m.data.length = ({ c with owed := IntKind.i64.wrap (c.owed + 1) }, 0) := by unfold recvC; rw [if_neg (by rw [h]; decide), if_neg (by omega), if_neg (by omega), if_neg (by omega), if_neg (by omega), if_pos hk, if_pos g]
      exact Hs.ret (v := .tuple #[CH.val { c with owed := IntKind.i64.wrap (c.owed + 1) }, .int .i64 (0)]) Tryz.func27 (by kernel_rfl) fun w' H => by rw [e]; exact ⟨rfl, H.only⟩
    · refine Hs.run0 300 (fun _ => by kernel_rfl) ?_
      have e : recvC c m.kind m.window m.want m.data.length = (c, 0) := by unfold recvC; rw [if_neg (by rw [h]; decide), if_neg (by omega), if_neg (by omega), if_neg (by omega), if_neg (by omega), if_pos hk, if_neg (by rw [g]; decide)]
      exact Hs.ret (v := .tuple #[CH.val c, .int .i64 (0)]) Tryz.func27 (by kernel_rfl) fun w' H => by rw [e]; exact ⟨rfl, H.only⟩
  have n98 : ¬ m.kind = 98 := by simpa using hk
  clear hk
  refine Hs.run0 300 (fun _ => by kernel_rfl) ?_
  have e : recvC c m.kind m.window m.want m.data.length = (c, 2) := by unfold recvC; rw [if_neg (by rw [h]; decide), if_neg (by omega), if_neg (by omega), if_neg (by omega), if_neg (by omega), if_neg (by omega)]
  exact Hs.ret (v := .tuple #[CH.val c, .int .i64 (2)]) Tryz.func27 (by kernel_rfl) fun w' H => by rw [e]; exact ⟨rfl, H.only⟩
theorem rfTell_any (c : CH) (r : RQ) (w : World) (hr : r.ok w) (hs : r.text.size ≤ 140737488355328) (hv : r.value.size ≤ 140737488355328) (hl : r.lang.size ≤ 140737488355328) : Calls Tryz.prog 31 #[c.val, r.val] w (StepO w (tellC c r)) := by
  refine Hs.enter Tryz.func31 [] [] [] [.g c.sc, .g r.sc] (Mem.start0 w) (by kernel_rfl) (by kernel_rfl) ?_
  refine Hs.run4 300 (fun _ => by kernel_rfl) fun b0 b1 b2 b3 => ?_
  refine Hs.bool 13 (r.kind != 9) (by kernel_rfl) (fun k1 => ?_) (fun k1 => ?_)
  · have k1 : r.kind ≠ 9 := by simpa using k1
    refine Hs.rung0 [3] 300 (fun _ => by kernel_rfl) ?_
    refine Hs.cond (r.kind != 10) (by kernel_rfl) (fun k2 => ?_) (fun k2 => ?_)
    · have k2 : r.kind ≠ 10 := by simpa using k2
      refine Hs.run0 300 (fun _ => by kernel_rfl) ?_
      exact Hs.ret (v := .tuple #[c.val, omV om0 none 0, .int .i64 2]) Tryz.func31 (by kernel_rfl) fun w' H => by rw [show tellC c r = _ from if_pos ⟨k1, k2⟩]; exact ⟨H.only, none, 0, rfl, Bs.none _ _⟩
    · have k2 : r.kind = 10 := by simpa using k2
      refine Hs.run0 300 (fun _ => by kernel_rfl) ?_
      refine Hs.bool 22 c.told (by kernel_rfl) (fun h1 => ?_) (fun h1 => ?_)
      · refine Hs.rung0 [2] 300 (fun _ => by kernel_rfl) ?_
        refine Hs.cond true (by kernel_rfl) (fun _ => ?_) (fun h => by cases h)
        refine Hs.run0 300 (fun _ => by kernel_rfl) ?_
        exact Hs.ret (v := .tuple #[c.val, omV om0 none 0, .int .i64 9]) Tryz.func31 (by kernel_rfl) fun w' H => by rw [show tellC c r = _ from (if_neg (by omega)).trans (if_pos (.inl h1))]; exact ⟨H.only, none, 0, rfl, Bs.none _ _⟩
      refine Hs.rung0 [2] 300 (fun _ => by kernel_rfl) ?_
      refine Hs.cond c.sClose (by kernel_rfl) (fun h2 => ?_) (fun h2 => ?_)
      · refine Hs.run0 300 (fun _ => by kernel_rfl) ?_
        exact Hs.ret (v := .tuple #[c.val, omV om0 none 0, .int .i64 9]) Tryz.func31 (by kernel_rfl) fun w' H => by rw [show tellC c r = _ from (if_neg (by omega)).trans (if_pos (.inr h2))]; exact ⟨H.only, none, 0, rfl, Bs.none _ _⟩
      refine Hs.run0 300 (fun _ => by kernel_rfl) ?_
      refine Hs.callQ (X := Option Addr × Nat) (fun x => aoB (encR r).2 x.1) (fun x => .tuple #[.string (encName r), .slice x.1 (encR r).2.length x.2, .int .i64 (encR r).1]) (fun x w' => Bs w' w.heap.size x.1 (encR r).2 x.2) (fun x => bs_st) (fun w' H => (refREncode_any r w' (hr.only H.only) hs hv hl).mono (by
        rintro e w2 ⟨O, v, rfl, hO⟩
        obtain ⟨A, cap, rfl, hB⟩ := ownB_bs hO O.size
        exact ⟨(A, cap), rfl, O, hB.mono H.only.size, bs_new hB⟩)) (by kernel_rfl) (by kernel_rfl) fun x => ?_
      refine Hs.run0 300 (fun _ => by kernel_rfl) ?_
      refine Hs.cond ((encR r).1 != 0) (by kernel_rfl) (fun h3 => ?_) (fun h3 => ?_)
      · refine Hs.run0 300 (fun _ => by kernel_rfl) ?_
        exact Hs.ret (v := .tuple #[c.val, omV om0 none 0, .int .i64 (encR r).1]) Tryz.func31 (by kernel_rfl) fun w' H => by rw [show tellC c r = _ from (if_neg (by omega)).trans ((if_neg (by simp [h1, h2])).trans (if_pos (by simpa using h3)))]; exact ⟨H.only, none, 0, rfl, Bs.none _ _⟩
      refine Hs.run0 300 (fun _ => by kernel_rfl) ?_
      refine Hs.any [0] (by kernel_rfl) ?_
      refine Hs.run0 300 (fun _ => by kernel_rfl) ?_
      refine Hs.ret (v := .tuple #[CH.val { c with told := true }, omV ⟨98, c.rem, 0, 0, encName r, (encR r).2⟩ x.1 x.2, .int .i64 0]) Tryz.func31 (by kernel_rfl) fun w' H => ?_
      rw [show tellC c r = _ from (if_neg (by omega)).trans ((if_neg (by simp [h1, h2])).trans (if_neg (by simpa using h3)))]
      exact ⟨H.only, x.1, x.2, rfl, H.atQ 4 (wr := true) (A := aoB (encR r).2 x.1) (Q := fun w' => Bs w' w.heap.size x.1 (encR r).2 x.2) (st := bs_st) (by kernel_rfl)⟩
  · have k1 : r.kind = 9 := by simpa using k1
    refine Hs.rung0 [3] 300 (fun _ => by kernel_rfl) ?_
    refine Hs.cond false (by kernel_rfl) (fun h => by cases h) (fun _ => ?_)
    refine Hs.run0 300 (fun _ => by kernel_rfl) ?_
    refine Hs.bool 22 c.told (by kernel_rfl) (fun h1 => ?_) (fun h1 => ?_)
    · refine Hs.rung0 [2] 300 (fun _ => by kernel_rfl) ?_
      refine Hs.cond true (by kernel_rfl) (fun _ => ?_) (fun h => by cases h)
      refine Hs.run0 300 (fun _ => by kernel_rfl) ?_
      exact Hs.ret (v := .tuple #[c.val, omV om0 none 0, .int .i64 9]) Tryz.func31 (by kernel_rfl) fun w' H => by rw [show tellC c r = _ from (if_neg (by omega)).trans (if_pos (.inl h1))]; exact ⟨H.only, none, 0, rfl, Bs.none _ _⟩
    refine Hs.rung0 [2] 300 (fun _ => by kernel_rfl) ?_
    refine Hs.cond c.sClose (by kernel_rfl) (fun h2 => ?_) (fun h2 => ?_)
    · refine Hs.run0 300 (fun _ => by kernel_rfl) ?_
      exact Hs.ret (v := .tuple #[c.val, omV om0 none 0, .int .i64 9]) Tryz.func31 (by kernel_rfl) fun w' H => by rw [show tellC c r = _ from (if_neg (by omega)).trans (if_pos (.inr h2))]; exact ⟨H.only, none, 0, rfl, Bs.none _ _⟩
    refine Hs.run0 300 (fun _ => by kernel_rfl) ?_
    refine Hs.callQ (X := Option Addr × Nat) (fun x => aoB (encR r).2 x.1) (fun x => .tuple #[.string (encName r), .slice x.1 (encR r).2.length x.2, .int .i64 (encR r).1]) (fun x w' => Bs w' w.heap.size x.1 (encR r).2 x.2) (fun x => bs_st) (fun w' H => (refREncode_any r w' (hr.only H.only) hs hv hl).mono (by
      rintro e w2 ⟨O, v, rfl, hO⟩
      obtain ⟨A, cap, rfl, hB⟩ := ownB_bs hO O.size
      exact ⟨(A, cap), rfl, O, hB.mono H.only.size, bs_new hB⟩)) (by kernel_rfl) (by kernel_rfl) fun x => ?_
    refine Hs.run0 300 (fun _ => by kernel_rfl) ?_
    refine Hs.cond ((encR r).1 != 0) (by kernel_rfl) (fun h3 => ?_) (fun h3 => ?_)
    · refine Hs.run0 300 (fun _ => by kernel_rfl) ?_
      exact Hs.ret (v := .tuple #[c.val, omV om0 none 0, .int .i64 (encR r).1]) Tryz.func31 (by kernel_rfl) fun w' H => by rw [show tellC c r = _ from (if_neg (by omega)).trans ((if_neg (by simp [h1, h2])).trans (if_pos (by simpa using h3)))]; exact ⟨H.only, none, 0, rfl, Bs.none _ _⟩
    refine Hs.run0 300 (fun _ => by kernel_rfl) ?_
    refine Hs.any [0] (by kernel_rfl) ?_
    refine Hs.run0 300 (fun _ => by kernel_rfl) ?_
    refine Hs.ret (v := .tuple #[CH.val { c with told := true }, omV ⟨98, c.rem, 0, 0, encName r, (encR r).2⟩ x.1 x.2, .int .i64 0]) Tryz.func31 (by kernel_rfl) fun w' H => ?_
    rw [show tellC c r = _ from (if_neg (by omega)).trans ((if_neg (by simp [h1, h2])).trans (if_neg (by simpa using h3)))]
    exact ⟨H.only, x.1, x.2, rfl, H.atQ 4 (wr := true) (A := aoB (encR r).2 x.1) (Q := fun w' => Bs w' w.heap.size x.1 (encR r).2 x.2) (st := bs_st) (by kernel_rfl)⟩
set_option maxHeartbeats 1000000 in
theorem rfDo_any (c : CH) (o : OPD) (w : World) (hc : c.ok) (ho : o.ok w) (hsm : o.small) : Calls Tryz.prog 13 #[c.val, o.val] w (StepO w (doC c o)) := by
  refine Hs.enter Tryz.func13 [] [] [] [.g c.sc, .g o.sc] (Mem.start0 w) (by kernel_rfl) (by kernel_rfl) ?_
  refine Hs.run4 300 (fun _ => by kernel_rfl) fun b0 b1 b2 b3 => ?_
  refine Hs.cond (o.kind == 1) (by kernel_rfl) (fun hk => ?_) (fun hk => ?_)
  · have hk : o.kind = 1 := by simpa using hk
    refine Hs.run0 300 (fun _ => by kernel_rfl) ?_
    refine Hs.callV (v := .tuple #[(recvC c o.m.kind o.m.window o.m.want o.m.data.length).1.val, .int .i64 (recvC c o.m.kind o.m.window o.m.want o.m.data.length).2]) (fun w' H => rfRecv_any c o.m w' hc ho.m.nums.2.2.1 (Nat.le_trans ho.m.dle ho.m.dmax)) (by kernel_rfl) ?_
    refine Hs.run1 300 (fun _ => by kernel_rfl) fun b4 => ?_
    refine Hs.ret (v := .tuple #[(recvC c o.m.kind o.m.window o.m.want o.m.data.length).1.val, omV om0 none 0, .int .i64 (recvC c o.m.kind o.m.window o.m.want o.m.data.length).2]) Tryz.func13 (by kernel_rfl) fun w' H => ?_
    rw [show doC c o = _ from if_pos hk]
    exact StepO.none H.only rfl
  have n1 : ¬ o.kind = 1 := by simpa using hk
  clear hk
  refine Hs.run0 300 (fun _ => by kernel_rfl) ?_
  refine Hs.cond (o.kind == 2) (by kernel_rfl) (fun hk => ?_) (fun hk => ?_)
  · have hk : o.kind = 2 := by simpa using hk
    refine Hs.run0 300 (fun _ => by kernel_rfl) ?_
    refine Hs.callQ (X := Option Addr × Nat) (fun x => aoB (dataC c (IntKind.u32.wrap o.n) o.b).2.1.data x.1) (fun x => .tuple #[(dataC c (IntKind.u32.wrap o.n) o.b).1.val, omV (dataC c (IntKind.u32.wrap o.n) o.b).2.1 x.1 x.2, .int .i64 (dataC c (IntKind.u32.wrap o.n) o.b).2.2]) (fun x w' => Bs w' w.heap.size x.1 (dataC c (IntKind.u32.wrap o.n) o.b).2.1.data x.2) (fun x => bs_st) (fun w' H => stepO_q H.only.size (rfData_any c (IntKind.u32.wrap o.n) o.bA o.b o.bc w' hc (ho.b.only H.only) (Nat.le_trans ho.bl ho.bm))) (by kernel_rfl) (by kernel_rfl) fun x => ?_
    refine Hs.run0 300 (fun _ => by kernel_rfl) ?_
    refine Hs.ret (v := .tuple #[(dataC c (IntKind.u32.wrap o.n) o.b).1.val, omV (dataC c (IntKind.u32.wrap o.n) o.b).2.1 x.1 x.2, .int .i64 (dataC c (IntKind.u32.wrap o.n) o.b).2.2]) Tryz.func13 (by kernel_rfl) fun w' H => ?_
    rw [show doC c o = _ from (if_neg (by omega)).trans (if_pos hk)]
    exact ⟨H.only, x.1, x.2, rfl, H.atQ 4 (wr := true) (A := aoB (dataC c (IntKind.u32.wrap o.n) o.b).2.1.data x.1) (Q := fun w' => Bs w' w.heap.size x.1 (dataC c (IntKind.u32.wrap o.n) o.b).2.1.data x.2) (st := bs_st) (by kernel_rfl)⟩
  have n2 : ¬ o.kind = 2 := by simpa using hk
  clear hk
  refine Hs.run0 300 (fun _ => by kernel_rfl) ?_
  refine Hs.cond (o.kind == 3) (by kernel_rfl) (fun hk => ?_) (fun hk => ?_)
  · have hk : o.kind = 3 := by simpa using hk
    refine Hs.run0 300 (fun _ => by kernel_rfl) ?_
    refine Hs.callQ (X := Option Addr × Nat) (fun x => aoB (replyC c o.on).2.1.data x.1) (fun x => .tuple #[(replyC c o.on).1.val, omV (replyC c o.on).2.1 x.1 x.2, .int .i64 (replyC c o.on).2.2]) (fun x w' => Bs w' w.heap.size x.1 (replyC c o.on).2.1.data x.2) (fun x => bs_st) (fun w' H => stepO_q H.only.size (rfReply_any c o.on w')) (by kernel_rfl) (by kernel_rfl) fun x => ?_
    refine Hs.run0 300 (fun _ => by kernel_rfl) ?_
    refine Hs.ret (v := .tuple #[(replyC c o.on).1.val, omV (replyC c o.on).2.1 x.1 x.2, .int .i64 (replyC c o.on).2.2]) Tryz.func13 (by kernel_rfl) fun w' H => ?_
    rw [show doC c o = _ from (if_neg (by omega)).trans ((if_neg (by omega)).trans (if_pos hk))]
    exact ⟨H.only, x.1, x.2, rfl, H.atQ 4 (wr := true) (A := aoB (replyC c o.on).2.1.data x.1) (Q := fun w' => Bs w' w.heap.size x.1 (replyC c o.on).2.1.data x.2) (st := bs_st) (by kernel_rfl)⟩
  have n3 : ¬ o.kind = 3 := by simpa using hk
  clear hk
  refine Hs.run0 300 (fun _ => by kernel_rfl) ?_
  refine Hs.cond (o.kind == 4) (by kernel_rfl) (fun hk => ?_) (fun hk => ?_)
  · have hk : o.kind = 4 := by simpa using hk
    refine Hs.run0 300 (fun _ => by kernel_rfl) ?_
    refine Hs.callV (v := .tuple #[(grantC c o.n).1.val, omV (grantC c o.n).2.1 none 0, .bool (decide ((grantC c o.n).2.2 = 0))]) (fun w' H => rfGrant_any c o.n w' hc ho.n) (by kernel_rfl) ?_
    refine Hs.run2 300 (fun _ => by kernel_rfl) fun b4 b5 => ?_
    refine Hs.cond (!decide ((grantC c o.n).2.2 = 0)) (by kernel_rfl) (fun h2 => ?_) (fun h2 => ?_)
    · have h2 : (grantC c o.n).2.2 = 1 := (grantC_code c o.n).resolve_left (by simpa using h2)
      refine Hs.run0 300 (fun _ => by kernel_rfl) ?_
      refine Hs.any [4, 5] (by kernel_rfl) ?_
      refine Hs.run0 300 (fun _ => by kernel_rfl) ?_
      refine Hs.ret (v := .tuple #[(grantC c o.n).1.val, omV (grantC c o.n).2.1 none 0, .int .i64 1]) Tryz.func13 (by kernel_rfl) fun w' H => ?_
      rw [show doC c o = _ from (if_neg (by omega)).trans ((if_neg (by omega)).trans ((if_neg (by omega)).trans (if_pos hk)))]
      have := StepO.none (r := grantC c o.n) H.only (grantC_data c o.n)
      rw [h2] at this
      exact this
    · have h2 : (grantC c o.n).2.2 = 0 := by simpa using h2
      refine Hs.run0 300 (fun _ => by kernel_rfl) ?_
      refine Hs.any [4, 5] (by kernel_rfl) ?_
      refine Hs.run0 300 (fun _ => by kernel_rfl) ?_
      refine Hs.ret (v := .tuple #[(grantC c o.n).1.val, omV (grantC c o.n).2.1 none 0, .int .i64 0]) Tryz.func13 (by kernel_rfl) fun w' H => ?_
      rw [show doC c o = _ from (if_neg (by omega)).trans ((if_neg (by omega)).trans ((if_neg (by omega)).trans (if_pos hk)))]
      have := StepO.none (r := grantC c o.n) H.only (grantC_data c o.n)
      rw [h2] at this
      exact this
  have n4 : ¬ o.kind = 4 := by simpa using hk
  clear hk
  refine Hs.run0 300 (fun _ => by kernel_rfl) ?_
  refine Hs.cond (o.kind == 5) (by kernel_rfl) (fun hk => ?_) (fun hk => ?_)
  · have hk : o.kind = 5 := by simpa using hk
    refine Hs.run0 300 (fun _ => by kernel_rfl) ?_
    refine Hs.callQ (X := Option Addr × Nat) (fun x => aoB (tellC c o.r).2.1.data x.1) (fun x => .tuple #[(tellC c o.r).1.val, omV (tellC c o.r).2.1 x.1 x.2, .int .i64 (tellC c o.r).2.2]) (fun x w' => Bs w' w.heap.size x.1 (tellC c o.r).2.1.data x.2) (fun x => bs_st) (fun w' H => stepO_q H.only.size (rfTell_any c o.r w' (ho.r.only H.only) hsm.1 hsm.2.1 hsm.2.2)) (by kernel_rfl) (by kernel_rfl) fun x => ?_
    refine Hs.run0 300 (fun _ => by kernel_rfl) ?_
    refine Hs.ret (v := .tuple #[(tellC c o.r).1.val, omV (tellC c o.r).2.1 x.1 x.2, .int .i64 (tellC c o.r).2.2]) Tryz.func13 (by kernel_rfl) fun w' H => ?_
    rw [show doC c o = _ from (if_neg (by omega)).trans ((if_neg (by omega)).trans ((if_neg (by omega)).trans ((if_neg (by omega)).trans (if_pos hk))))]
    exact ⟨H.only, x.1, x.2, rfl, H.atQ 4 (wr := true) (A := aoB (tellC c o.r).2.1.data x.1) (Q := fun w' => Bs w' w.heap.size x.1 (tellC c o.r).2.1.data x.2) (st := bs_st) (by kernel_rfl)⟩
  have n5 : ¬ o.kind = 5 := by simpa using hk
  clear hk
  refine Hs.run0 300 (fun _ => by kernel_rfl) ?_
  refine Hs.cond (o.kind == 6) (by kernel_rfl) (fun hk => ?_) (fun hk => ?_)
  · have hk : o.kind = 6 := by simpa using hk
    refine Hs.run0 300 (fun _ => by kernel_rfl) ?_
    refine Hs.callQ (X := Option Addr × Nat) (fun x => aoB (eofC c).2.1.data x.1) (fun x => .tuple #[(eofC c).1.val, omV (eofC c).2.1 x.1 x.2, .int .i64 (eofC c).2.2]) (fun x w' => Bs w' w.heap.size x.1 (eofC c).2.1.data x.2) (fun x => bs_st) (fun w' H => stepO_q H.only.size (rfEof_any c w')) (by kernel_rfl) (by kernel_rfl) fun x => ?_
    refine Hs.run0 300 (fun _ => by kernel_rfl) ?_
    refine Hs.ret (v := .tuple #[(eofC c).1.val, omV (eofC c).2.1 x.1 x.2, .int .i64 (eofC c).2.2]) Tryz.func13 (by kernel_rfl) fun w' H => ?_
    rw [show doC c o = _ from (if_neg (by omega)).trans ((if_neg (by omega)).trans ((if_neg (by omega)).trans ((if_neg (by omega)).trans ((if_neg (by omega)).trans (if_pos hk)))))]
    exact ⟨H.only, x.1, x.2, rfl, H.atQ 4 (wr := true) (A := aoB (eofC c).2.1.data x.1) (Q := fun w' => Bs w' w.heap.size x.1 (eofC c).2.1.data x.2) (st := bs_st) (by kernel_rfl)⟩
  have n6 : ¬ o.kind = 6 := by simpa using hk
  clear hk
  refine Hs.run0 300 (fun _ => by kernel_rfl) ?_
  refine Hs.cond (o.kind == 7) (by kernel_rfl) (fun hk => ?_) (fun hk => ?_)
  · have hk : o.kind = 7 := by simpa using hk
    refine Hs.run0 300 (fun _ => by kernel_rfl) ?_
    refine Hs.callQ (X := Option Addr × Nat) (fun x => aoB (closeC c).2.1.data x.1) (fun x => .tuple #[(closeC c).1.val, omV (closeC c).2.1 x.1 x.2, .int .i64 (closeC c).2.2]) (fun x w' => Bs w' w.heap.size x.1 (closeC c).2.1.data x.2) (fun x => bs_st) (fun w' H => stepO_q H.only.size (rfClose_any c w')) (by kernel_rfl) (by kernel_rfl) fun x => ?_
    refine Hs.run0 300 (fun _ => by kernel_rfl) ?_
    refine Hs.ret (v := .tuple #[(closeC c).1.val, omV (closeC c).2.1 x.1 x.2, .int .i64 (closeC c).2.2]) Tryz.func13 (by kernel_rfl) fun w' H => ?_
    rw [show doC c o = _ from (if_neg (by omega)).trans ((if_neg (by omega)).trans ((if_neg (by omega)).trans ((if_neg (by omega)).trans ((if_neg (by omega)).trans ((if_neg (by omega)).trans (if_pos hk))))))]
    exact ⟨H.only, x.1, x.2, rfl, H.atQ 4 (wr := true) (A := aoB (closeC c).2.1.data x.1) (Q := fun w' => Bs w' w.heap.size x.1 (closeC c).2.1.data x.2) (st := bs_st) (by kernel_rfl)⟩
  have n7 : ¬ o.kind = 7 := by simpa using hk
  clear hk
  refine Hs.run0 300 (fun _ => by kernel_rfl) ?_
  refine Hs.ret (v := .tuple #[c.val, omV om0 none 0, .int .i64 0]) Tryz.func13 (by kernel_rfl) fun w' H => ?_
  rw [show doC c o = (c, om0, 0) from (if_neg (by omega)).trans ((if_neg (by omega)).trans ((if_neg (by omega)).trans ((if_neg (by omega)).trans ((if_neg (by omega)).trans ((if_neg (by omega)).trans (if_neg (by omega)))))))]
  exact StepO.none H.only rfl
end Go.Proofs.YtpojfcpeibnohaaGreatDoor

namespace Go.Proofs.YtpojfcpeibnohaaGreatDoor
set_option linter.all false
set_option maxRecDepth 100000
open Go.RowKit

theorem Hs.fact {P : Program} {f : FuncId} {R : Ending → World → Prop} {n : Nat} {w0 : World} {L : List Nat} {β : List Nat} {m : SM} {p : Prop} (hp : ∀ w, Mem w0 L β m.hp w → p) (h : p → Hs P f R n w0 L β m) : Hs P f R n w0 L β m := ⟨fun w H W => (h (hp w H)).go w H W⟩
theorem run_u8_load {w : World} {b o : Nat} {v : Value} (h : w.cell? ⟨b, o, none⟩ = some v) : (Instr.loadAt 5 (.pointer (some ⟨b, o, none⟩))).run Tryz.prog w = .ok v w := by
  simp [Instr.loadAt, Instr.sureAddr, loadVar, run_aggB (by kernel_rfl : aggB Tryz.prog 5 = some false) w, h]
theorem run_u8_store {w : World} {b o : Nat} {u : Value} (x : Int) (h : w.cell? ⟨b, o, none⟩ = some u) (hf : w.frozen? ⟨b, o, none⟩ = false) : (Instr.storeAt 5 (.pointer (some ⟨b, o, none⟩)) (.int .u8 x)).run Tryz.prog w = .ok () (w.setCell ⟨b, o, none⟩ (.int .u8 x)) := by
  have hc := run_storeCells_cells (P := Tryz.prog) b o [.int .u8 x] 0 w (fun j hj => by
      have : j = 0 := by simpa using hj
      subst this; simp [h]) (fun j hj => by
      have : j = 0 := by simpa using hj
      subst this; simpa using hf) (fun v hv => by
      simp only [List.mem_singleton] at hv
      subst hv; rfl)
  simp only [Nat.add_zero] at hc
  have e : (storeVar 5 ⟨b, o, none⟩ (.int .u8 x)).run Tryz.prog w = .ok () (w.setCell ⟨b, o, none⟩ (.int .u8 x)) := by
    unfold storeVar
    simp only [Sem.run_bind, run_sizeB (by kernel_rfl : szB Tryz.prog 5 = some 1) w, Result.andThen_ok]
    rw [if_neg (by simp [Value.cells])]
    exact hc
  simp only [Instr.storeAt, Instr.sureAddr, Sem.run_bind, Sem.run_pure, Result.andThen_ok, e]
theorem bs_cell {w : World} {B : Nat} {b off : Nat} {l : List Int} {c : Nat} (h : Bs w B (some ⟨b, off, none⟩) l c) {j : Nat} (hj : j < l.length) : w.cell? ⟨b, off + j, none⟩ = some (.int .u8 (l[j]'hj)) := by
  obtain ⟨b', off', e, _, hc⟩ := h.rd (by omega)
  injection e with e; injection e with e1 e2
  subst e1; subst e2
  exact hc j _ (List.getElem?_eq_getElem hj)
theorem bs_set {w : World} {B : Nat} {b off : Nat} {l : List Int} {c : Nat} (h : Bs w B (some ⟨b, off, none⟩) l c) {j : Nat} (hj : j < l.length) (x : Int) : Bs (w.setCell ⟨b, off + j, none⟩ (.int .u8 x)) B (some ⟨b, off, none⟩) (l.set j x) c := by
  have hl : (l.set j x).length = l.length := List.length_set
  refine ⟨fun _ => ?_, by rw [hl]; exact h.le, h.max, h.new, fun a ha i hi => ?_⟩
  · obtain ⟨b', off', e, hlt, hc⟩ := h.rd (by omega)
    injection e with e; injection e with e1 e2
    subst e1; subst e2
    refine ⟨b, off, rfl, by simpa [World.setCell] using hlt, fun i v hi => ?_⟩
    by_cases hij : j = i
    · subst hij
      rw [List.getElem?_set_self hj] at hi
      injection hi with hi; subst hi
      exact World.cell?_setCell_same' _ _ _ (by rw [bs_cell h hj]; rfl)
    · rw [List.getElem?_set_ne hij] at hi
      exact (World.cell?_setCell_other _ _ _ _ (by simp [hij])).trans (hc i v hi)
  · rw [World.frozen?_setCell]
    exact h.soft a ha i (by omega)
def omS (o : OM) (A : Option Addr) (cap : Nat) : List SC := [.v (.int .i64 o.kind), .v (.int .u32 o.chan), .v (.int .u32 0), .v (.int .u32 o.window), .v (.int .u32 0), .v (.int .u32 o.code), .v (.string o.name), .v (.string ⟨#[]⟩), .v (.bool false), .v (.slice A o.data.length cap)]
theorem rfSame_any (o : OM) (A B : Option Addr) (c d : Nat) (w : World) (h1 : Rd w A o.data) (h2 : Rd w B o.data) (hl : o.data.length ≤ maxLen) : Calls Tryz.prog 14 #[omV o A c, omV o B d] w fun e w' => e = .returned (.bool true) ∧ Only [] w w' := by
  refine Hs.enter Tryz.func14 [] [] [] [.g (omS o A c), .g (omS o B d)] (Mem.start0 w) (by kernel_rfl) (by kernel_rfl) ?_
  refine Hs.run2 300 (fun _ => by kernel_rfl) fun b0 b1 => ?_
  refine Hs.bool 10 (o.kind == o.kind) (by kernel_rfl) (fun _ => ?_) (fun h => absurd h (by simp))
  refine Hs.rung0 [5] 300 (fun _ => by kernel_rfl) ?_
  refine Hs.bool 17 (o.chan == o.chan) (by kernel_rfl) (fun _ => ?_) (fun h => absurd h (by simp))
  refine Hs.rung0 [5, 12, 19] 300 (fun _ => by kernel_rfl) ?_
  refine Hs.bool 31 (o.window == o.window) (by kernel_rfl) (fun _ => ?_) (fun h => absurd h (by simp))
  refine Hs.rung0 [5, 12, 19, 26, 33] 300 (fun _ => by kernel_rfl) ?_
  refine Hs.bool 45 (o.code == o.code) (by kernel_rfl) (fun _ => ?_) (fun h => absurd h (by simp))
  refine Hs.rung0 [5, 12, 19, 26, 33, 40] 300 (fun _ => by kernel_rfl) ?_
  refine Hs.bool 52 (o.name.toList == o.name.toList) (by kernel_rfl) (fun _ => ?_) (fun h => absurd h (by simp))
  refine Hs.rung0 [5, 12, 19, 26, 33, 40, 47, 54, 61] 300 (fun _ => by kernel_rfl) ?_
  refine Hs.callV (v := .bool true) (fun w' H => (bytes_any w' A B o.data o.data c d (h1.only H.only) (h2.only H.only) hl hl).mono fun e w2 h => ⟨by rw [h.1]; simp [eqB], h.2⟩) (by kernel_rfl) ?_
  refine Hs.rung0 [5, 12, 19, 26, 33, 40, 47, 54, 61] 300 (fun _ => by kernel_rfl) ?_
  exact Hs.ret (v := .bool true) Tryz.func14 (by kernel_rfl) fun w' H => ⟨rfl, H.only⟩
theorem rd_cell {w : World} {b off : Nat} {l : List Int} (h : Rd w (some ⟨b, off, none⟩) l) {j : Nat} (hj : j < l.length) : w.cell? ⟨b, off + j * 1, none⟩ = some (.int .u8 (l[j]'hj)) := by
  obtain ⟨b', off', e, _, hc⟩ := h (by omega)
  injection e with e; injection e with e1 e2
  subst e1; subst e2
  rw [Nat.mul_one]
  exact hc j _ (List.getElem?_eq_getElem hj)
section
variable {f : FuncId} {R : Ending → World → Prop} {n : Nat} {w0 : World} {L : List Nat} {β : List Nat} {m : SM}
/-- One byte of our own, written. -/
theorem Hs.put8 (k : Nat) {B b off c : Nat} {l : List Int} {j : Nat} (hj : j < l.length) (x : Int) (hs : semOf n β m = some (unitS (Instr.storeAt 5 (.pointer (some ⟨b, off + j * 1, none⟩)) (.int .u8 x))))
    (hk : m.hp[k]? = some (.q true (aoB l (some ⟨b, off, none⟩)) (fun w => Bs w B (some ⟨b, off, none⟩) l c) bs_st)) (hrd : (rdOf m).contains k = false)
    (h : Hs Tryz.prog f R n w0 L β (m.put (dstOf m) (.c (.v undef)) (m.hp.set k (.q true (aoB (l.set j x) (some ⟨b, off, none⟩)) (fun w => Bs w B (some ⟨b, off, none⟩) (l.set j x) c) bs_st)))) : Hs Tryz.prog f R n w0 L β m := by
  have hkl := (List.getElem?_eq_some_iff.1 hk).1
  have e0 : aoB l (some ⟨b, off, none⟩) = some (⟨b, off, none⟩ : Addr) := by unfold aoB; rw [if_neg (by omega)]
  have e1 : aoB (l.set j x) (some ⟨b, off, none⟩) = some (⟨b, off, none⟩ : Addr) := by unfold aoB; rw [if_neg (by rw [List.length_set]; omega)]
  refine Hs.opU hs fun w H W => ?_
  have hl := H.lies k _ hk
  obtain ⟨hB, hA⟩ := (hl : Bs w B (some ⟨b, off, none⟩) l c ∧ _)
  have hlt : b < w.heap.size := hA _ e0
  have hrun := run_u8_store (w := w) (b := b) (o := off + j) x (bs_cell hB hj) (by
    have := hB.soft _ rfl j hj
    rw [Addr.add_lit] at this; exact this)
  refine ⟨m.hp.set k (.q true (aoB (l.set j x) (some ⟨b, off, none⟩)) (fun w => Bs w B (some ⟨b, off, none⟩) (l.set j x) c) bs_st), w.setCell ⟨b, off + j, none⟩ (.int .u8 x), by rw [Nat.mul_one]; exact hrun, ?_, ?_, fun i hi bb hb => ?_, h⟩
  · refine H.swap k (L' := [b]) hk ((Only.refl [b] w).setCell (.inl (by simp)) _) (fun y hy => ?_) rfl ⟨bs_set hB hj x, fun a ha => ?_⟩ (fun y hy => .inl ?_)
    · simp only [List.mem_singleton] at hy
      subst hy
      simp only [HB.blk, e0, Option.map_some]
    · rw [e1] at ha
      injection ha with ha; subst ha
      simpa [World.setCell] using hlt
    · simp only [HB.blk, e0, e1] at hy ⊢
      exact hy
  · simp only [Bool.and_eq_true, Nat.ble_eq, List.length_set]
    refine ⟨Nat.le_refl _, List.all_eq_true.2 fun y hy => ?_⟩
    rcases List.mem_or_eq_of_mem_set hy with hy | rfl
    · exact List.all_eq_true.1 (SM.wf_hp W) y hy
    · rfl
  · rw [List.getElem?_set, if_neg (fun e => by
      subst e
      simp at hrd
      exact hrd hi)]
    exact hb
end
end Go.Proofs.YtpojfcpeibnohaaGreatDoor

namespace Go.Proofs.YtpojfcpeibnohaaGreatDoor
set_option linter.all false
set_option maxRecDepth 100000
open Go.RowKit

theorem recv_ok2 {c : CH} {k win : Int} {want : Bool} {len : Int} (hc : c.ok) (hw : U32 win) : (recvC c k win want len).1.ok := by
  obtain ⟨h0, h1, h2, h3, h4, h5, h6⟩ := hc
  unfold U32 at *
  unfold recvC oL gL
  repeat' split
  all_goals first
    | exact ⟨h0, h1, h2, h3, h4, h5, h6⟩
    | exact ⟨h0, h1, h2, h3, by dsimp only; unfold U32; omega, h5, h6⟩
    | exact ⟨h0, h1, by dsimp only; unfold U32; omega, h3, h4, h5, h6⟩
    | (refine ⟨h0, h1, h2, h3, h4, h5, ?_⟩; dsimp only; by_cases he : c.owed = 9223372036854775807; (rw [he]; decide); (rw [IntWalk.i64_in _ (by omega)]; omega))
    | (split <;> exact ⟨h0, h1, h2, h3, h4, h5, h6⟩)
theorem do_ok2 {c : CH} {o : OPD} {w : World} (hc : c.ok) (hw : o.ok w) : (doC c o).1.ok := by
  have hc0 := hc
  obtain ⟨h0, h1, h2, h3, h4, h5, h6⟩ := hc
  unfold doC
  split
  · exact recv_ok2 hc0 hw.m.nums.2.2.1
  split
  · unfold dataC
    split
    · exact hc0
    split
    · exact hc0
    rename_i h7 h8
    have := sE_zero h2.1 h3.1 (Classical.not_not.1 h8)
    refine ⟨h0, h1, ?_, h3, h4, h5, h6⟩
    unfold U32 at *
    dsimp only
    omega
  split
  · unfold replyC
    split
    · exact hc0
    · rename_i h7
      refine ⟨h0, h1, h2, h3, h4, h5, ?_⟩
      dsimp only
      have : 0 < c.owed := by
        rcases Int.lt_or_le 0 c.owed with h | h
        · exact h
        · exact absurd (.inl h) h7
      rw [IntWalk.i64_in _ (by omega)]
      omega
  split
  · unfold grantC
    split
    · exact hc0
    · refine ⟨h0, h1, h2, h3, ?_, h5, h6⟩
      unfold U32 at *
      dsimp only
      unfold fL
      split <;> omega
  split
  · unfold tellC
    repeat' split
    all_goals first | exact hc0 | exact ⟨h0, h1, h2, h3, h4, h5, h6⟩
  split
  · unfold eofC
    split
    · exact hc0
    · exact ⟨h0, h1, h2, h3, h4, h5, h6⟩
  split
  · unfold closeC
    split
    · exact hc0
    · exact ⟨h0, h1, h2, h3, h4, h5, h6⟩
  · exact hc0
/-- An error leaves the channel. -/
theorem elemU8 : ElemT Tryz.prog 33 5 1 (Tryz.prog.bytesOf 5) := elemT_of (z := .int .u8 0) Tryz.underlying33 (by kernel_rfl) (by kernel_rfl) (by decide)
theorem wrap_len {j n : Nat} (h : n ≤ maxLen) (hj : j < n) : Value.int .i64 (IntKind.i64.wrap ((j : Int) + 1)) = .int .i64 ((j + 1 : Nat) : Int) := by
  unfold maxLen at h
  rw [IntWalk.i64_in _ (by omega)]
  rfl
theorem rd_eq {w : World} {A B : Option Addr} {l : List Int} (e : A = B) (h : Rd w A l) : Rd w B l := e ▸ h
set_option maxHeartbeats 4000000 in
theorem plays_walk (c0 : CH) (ops : List OPD) (A : Option Addr) (ac : Nat) (w : World) (hc0 : c0.ok) (hr : RdX OPD.cells w A ops) (hlen : ops.length ≤ maxLen) (hok : ∀ o ∈ ops, o.ok w) (hby : ∀ o ∈ ops, o.b.length ≤ 140737488355328) : Calls Tryz.prog 5 #[c0.val, .slice A ops.length ac] w fun e w' => e = .returned (.bool true) ∧ Only [] w w' := by
  refine Hs.enter Tryz.func5 [] [] [] [.g c0.sc, .c (.v (.slice A ops.length ac))] (Mem.start0 w) (by kernel_rfl) (by kernel_rfl) ?_
  refine Hs.run1 300 (fun _ => by kernel_rfl) fun b0 => ?_
  refine Hs.callV (fun w' _ => alive25_any w') (by kernel_rfl) ?_
  refine Hs.run0 300 (fun _ => by kernel_rfl) ?_
  refine Hs.condF (by kernel_rfl) ?_
  refine Hs.run0 300 (fun _ => by kernel_rfl) ?_
  refine Hs.callX (X := Bool) (fun b => .bool b) (fun b => b = false → Fit ops) (fun w' H => (great25_any ops A ac w' (hr.only H.only) hlen).mono (by
    rintro e w2 ⟨b, rfl, O, hb⟩
    exact ⟨b, rfl, O, hb⟩)) (by kernel_rfl) fun g hg => ?_
  refine Hs.run0 300 (fun _ => by kernel_rfl) ?_
  refine Hs.cond g (by kernel_rfl) (fun h1 => ?_) (fun h1 => ?_)
  · refine Hs.run0 300 (fun _ => by kernel_rfl) ?_
    exact Hs.ret (v := .bool true) Tryz.func5 (by kernel_rfl) fun w' H => ⟨rfl, H.only⟩
  obtain ⟨h100, hsm⟩ := hg h1
  clear h1
  have J : ∀ (d i : Nat), ops.length - i = d → i ≤ ops.length → ∀ (b b' : Nat) (c : CH), c.ok → ∀ (u : Nat → Value), Hs Tryz.prog 5 (fun e w' => e = .returned (.bool true) ∧ Only [] w w') (Tryz.f5).ntmps w [] [b, b'] ⟨.no, loopAt Tryz.f5 0, pins [(28, .c (.v (.slice A ops.length ac))), (29, .c (.v (.int .i64 ops.length))), (30, .c (.v (.int .i64 (i : Nat)))), (5, .c (.p 0 0)), (6, .c (.p 1 0))] (.vals u), [.b true 31 (CH.sc c), .b true 48 (CH.sc c)]⟩ := by
    intro d
    induction d with
    | zero =>
      intro i hd hi b b' c hck u
      refine Hs.run0 300 (fun _ => by kernel_rfl) ?_
      refine Hs.condP ((i : Int) < (ops.length : Int)) (by kernel_rfl) (fun h => by omega) (fun h => ?_)
      refine Hs.run0 300 (fun _ => by kernel_rfl) ?_
      exact Hs.ret (v := .bool true) Tryz.func5 (by kernel_rfl) fun w' H => ⟨rfl, H.only⟩
    | succ d ih =>
      intro i hd hi b b' c hck u
      have hil : i < ops.length := by omega
      have hx : ops[i]? = some (ops[i]'hil) := List.getElem?_eq_getElem hil
      obtain ⟨o, ho⟩ : ∃ o, o = ops[i]'hil := ⟨_, rfl⟩
      have hmem : o ∈ ops := by rw [ho]; exact List.getElem_mem hil
      rw [← ho] at hx
      clear ho
      have hoo := hok o hmem
      have hos := hsm o hmem
      have hob := hby o hmem
      have hbl : o.b.length ≤ maxLen := Nat.le_trans hoo.bl hoo.bm
      have hbi : -9223372036854775808 ≤ (o.b.length : Int) ∧ (o.b.length : Int) ≤ 9223372036854775807 := by unfold maxLen at hbl; omega
      refine Hs.run0 300 (fun _ => by kernel_rfl) ?_
      refine Hs.condP ((i : Int) < (ops.length : Int)) (by kernel_rfl) (fun h => ?_) (fun h => by omega)
      refine Hs.run0 300 (fun _ => by kernel_rfl) ?_
      obtain ⟨ab, aoff, hA, _, _⟩ := hr (by omega)
      subst hA
      refine Hs.idx (b := ab) (off := aoff) (c := ac) elemOp hil (by kernel_rfl) ?_
      refine Hs.ldx (E := 41) (b := ab) (off := aoff) (i := i) opd_len (.g o.sc) (by kernel_rfl) (fun w' H => hr.only H.only) hx (by kernel_rfl) (by kernel_rfl) (by kernel_rfl) (by kernel_rfl) ?_
      refine Hs.run1 300 (fun _ => by kernel_rfl) fun b2 => ?_
      refine Hs.any [0, 1, 2] (by kernel_rfl) ?_
      refine Hs.run0 300 (fun _ => by kernel_rfl) ?_
      refine Hs.callV (fun w' _ => chRoom_any c o.b.length w' hck) (by kernel_rfl) ?_
      refine Hs.run0 300 (fun _ => by kernel_rfl) ?_
      refine Hs.callV (fun w' _ => rfRoom_any c o.b.length w' hck hbi) (by kernel_rfl) ?_
      refine Hs.run0 300 (fun _ => by kernel_rfl) ?_
      refine Hs.bool 44 (roomC c o.b.length != roomC c o.b.length) (by kernel_rfl) (fun h => absurd h (by simp)) (fun _ => ?_)
      refine Hs.rung0 [7] 300 (fun _ => by kernel_rfl) ?_
      refine Hs.callV (fun w' _ => chRoom_any c o.n w' hck) (by kernel_rfl) ?_
      refine Hs.rung0 [7] 300 (fun _ => by kernel_rfl) ?_
      refine Hs.callV (fun w' _ => rfRoom_any c o.n w' hck hoo.n) (by kernel_rfl) ?_
      refine Hs.rung0 [7] 300 (fun _ => by kernel_rfl) ?_
      refine Hs.cond (roomC c o.n != roomC c o.n) (by kernel_rfl) (fun h => absurd h (by simp)) (fun _ => ?_)
      refine Hs.run1 300 (fun _ => by kernel_rfl) fun b3 => ?_
      refine Hs.lit (c := o.bc) (ty := 33) 3 o.b o.b.length rfl (by kernel_rfl) (by kernel_rfl) (by kernel_rfl) (fun w' H => hoo.b.only H.only) hob fun x => ?_
      obtain ⟨xA, xc⟩ := x
      refine Hs.run1 300 (fun _ => by kernel_rfl) fun b4 => ?_
      have hcok : (doC c o).1.ok := do_ok2 hck hoo
      have DO : ∀ w', Bs w' w.heap.size xA o.b xc → Only [] w w' → Calls Tryz.prog 8 #[c.val, OPD.val { o with bA := xA, bc := xc }] w' (StepO w' (doC c o)) := fun w' hB hO => chDo_any c { o with bA := xA, bc := xc } w' hck { hoo.only hO with b := hB.rd, bl := hB.le, bm := hB.max } hos
      have DR : ∀ w', Only [] w w' → Calls Tryz.prog 13 #[c.val, o.val] w' (StepO w' (doC c o)) := fun w' hO => rfDo_any c o w' hck (hoo.only hO) hos
      obtain ⟨r, hre⟩ : ∃ r, r = doC c o := ⟨_, rfl⟩
      rw [← hre] at hcok DO DR
      clear hre
      obtain ⟨c', om, E⟩ := r
      dsimp only at hcok
      refine Hs.callQ (X := Option Addr × Nat) (fun x => aoB om.data x.1) (fun x => .tuple #[c'.val, omV om x.1 x.2, .int .i64 E]) (fun x w' => Bs w' w.heap.size x.1 om.data x.2) (fun x => bs_st) (fun w' H => stepO_q H.only.size (DO w' (H.atQ 3 (wr := true) (A := aoB o.b xA) (Q := fun w' => Bs w' w.heap.size xA o.b xc) (st := bs_st) (by kernel_rfl)) H.only)) (by kernel_rfl) (by kernel_rfl) fun y => ?_
      obtain ⟨yA, yc⟩ := y
      refine Hs.run2 300 (fun _ => by kernel_rfl) fun b6 b7 => ?_
      refine Hs.callQ (X := Option Addr × Nat) (fun x => aoB om.data x.1) (fun x => .tuple #[c'.val, omV om x.1 x.2, .int .i64 E]) (fun x w' => Bs w' w.heap.size x.1 om.data x.2) (fun x => bs_st) (fun w' H => stepO_q H.only.size (DR w' H.only)) (by kernel_rfl) (by kernel_rfl) fun z => ?_
      obtain ⟨zA, zc⟩ := z
      refine Hs.run2 300 (fun _ => by kernel_rfl) fun b9 b10 => ?_
      refine Hs.any [6, 7, 9, 10] (by kernel_rfl) ?_
      refine Hs.run0 300 (fun _ => by kernel_rfl) ?_
      refine Hs.callV (fun w' _ => chFrom_any c' w') (by kernel_rfl) ?_
      refine Hs.branch [3] (by kernel_rfl) (by simp) fun k hk => ?_
      obtain rfl := List.mem_singleton.1 hk
      clear hk
      refine Hs.same (op := .neq) (T := 48) (CH.cells c').toArray false (by kernel_rfl) (.inr ⟨rfl, rfl⟩) (by kernel_rfl) ?_
      refine Hs.rung0 [4] 300 (fun _ => by kernel_rfl) ?_
      refine Hs.callV (v := .bool true) (fun w' H => (by
        have hy := H.atQ 5 (wr := true) (A := aoB om.data yA) (Q := fun w' => Bs w' w.heap.size yA om.data yc) (st := bs_st) (by kernel_rfl)
        have hz := H.atQ 8 (wr := true) (A := aoB om.data zA) (Q := fun w' => Bs w' w.heap.size zA om.data zc) (st := bs_st) (by kernel_rfl)
        exact rfSame_any om yA zA yc zc w' hy.rd hz.rd (Nat.le_trans hy.le hy.max))) (by kernel_rfl) ?_
      refine Hs.rung0 [4, 10] 300 (fun _ => by kernel_rfl) ?_
      refine Hs.cond (E != E) (by kernel_rfl) (fun h => absurd h (by simp)) (fun _ => ?_)
      refine Hs.run0 300 (fun _ => by kernel_rfl) ?_
      have J2 : ∀ (l : List Int) (d j : Nat), o.b.length - j = d → j ≤ o.b.length → ∀ (q0 q1 q2 q3 q4 q5 q6 q7 : Nat) (u : Nat → Value), Hs Tryz.prog 5 (fun e w' => e = .returned (.bool true) ∧ Only [] w w') (Tryz.f5).ntmps w [] [q0, q1, q2, q3, q4, q5, q6, q7] ⟨.no, loopAt Tryz.f5 2, pins [(28, .c (.v (.slice (some ⟨ab, aoff, none⟩) ops.length ac))), (29, .c (.v (.int .i64 ops.length))), (30, .c (.v (.int .i64 (i : Nat)))), (5, .c (.p 0 0)), (6, .c (.p 1 0)), (8, .c (.p 2 0)), (10, .c (.v (.slice xA o.b.length xc))), (12, .c (.p 5 0)), (13, .c (.p 6 0)), (15, .c (.p 7 0)), (109, .c (.v (.int .i64 o.b.length))), (110, .c (.v (.int .i64 (j : Nat))))] (.vals u), [.b true 31 c.sc, .b true 48 c.sc, .b true 41 o.sc, .q true (aoB o.b xA) (fun w' => Bs w' w.heap.size xA o.b xc) bs_st, .q true (aoB l yA) (fun w' => Bs w' w.heap.size yA l yc) bs_st, .b true 31 c'.sc, .b true 35 (omS om yA yc), .b true 48 c'.sc]⟩ := by
        intro l d
        induction d with
        | zero =>
          intro j hd hj q0 q1 q2 q3 q4 q5 q6 q7 u
          refine Hs.run0 300 (fun _ => by kernel_rfl) ?_
          refine Hs.condP ((j : Int) < (o.b.length : Int)) (by kernel_rfl) (fun h => by omega) (fun h => ?_)
          refine Hs.run0 300 (fun _ => by kernel_rfl) ?_
          refine Hs.any [5, 7] (by kernel_rfl) ?_
          refine Hs.run0 300 (fun _ => by kernel_rfl) ?_
          refine Hs.slot 30 (.c (.v (.int .i64 (i + 1 : Nat)))) rfl ((by kernel_rfl : _ = Value.int .i64 (IntKind.i64.wrap ((i : Int) + 1))).trans (wrap_next hlen)) ?_
          refine Hs.loop (by kernel_rfl) ?_
          exact Hs.goto (loopAt Tryz.f5 0) [0, 1] [.b true 31 (CH.sc c'), .b true 48 (CH.sc c')] [(28, .c (.v (.slice (some ⟨ab, aoff, none⟩) ops.length ac))), (29, .c (.v (.int .i64 ops.length))), (30, .c (.v (.int .i64 (i + 1 : Nat)))), (5, .c (.p 0 0)), (6, .c (.p 1 0))] (by kernel_rfl) (by decide) (by kernel_rfl) (by kernel_rfl) (fun _ => by kernel_rfl) (fun u => ih (i + 1) (by omega) (by omega) _ _ _ hcok u)
        | succ d ihj =>
          intro j hd hj q0 q1 q2 q3 q4 q5 q6 q7 u
          have hjl : j < o.b.length := by omega
          refine Hs.run0 300 (fun _ => by kernel_rfl) ?_
          refine Hs.condP ((j : Int) < (o.b.length : Int)) (by kernel_rfl) (fun h => ?_) (fun h => by omega)
          refine Hs.run0 300 (fun _ => by kernel_rfl) ?_
          refine Hs.fact (p := ∃ xb xo, xA = some ⟨xb, xo, none⟩) (fun w' H => ?_) fun hx1 => ?_
          · obtain ⟨b1, o1, e, _⟩ := (H.atQ 3 (wr := true) (A := aoB o.b xA) (Q := fun w' => Bs w' w.heap.size xA o.b xc) (st := bs_st) (by kernel_rfl)).rd (by omega)
            exact ⟨b1, o1, e⟩
          obtain ⟨xb, xo, hx1⟩ := hx1
          subst hx1
          obtain ⟨ob, oo, hoA, _, _⟩ := hoo.b (by omega)
          refine Hs.any [2] (by kernel_rfl) ?_
          refine Hs.run0 300 (fun _ => by kernel_rfl) ?_
          refine Hs.slot 118 (.c (.v (.slice (some ⟨ob, oo, none⟩) o.b.length o.bc))) rfl ((by kernel_rfl : _ = Value.slice o.bA o.b.length o.bc).trans (congrArg (fun a => Value.slice a o.b.length o.bc) hoA)) ?_
          refine Hs.takeV (s := Instr.indexAt 33 (.slice (some ⟨xb, xo, none⟩) o.b.length xc) (.int .i64 (j : Nat))) (rd := [2]) 2 (.c (.v (.pointer (some ⟨xb, xo + j * 1, none⟩)))) (by kernel_rfl) rfl (fun w' _ => run_idx elemU8 hjl w') ?_
          refine Hs.takeV (s := Instr.indexAt 33 (.slice (some ⟨ob, oo, none⟩) o.b.length o.bc) (.int .i64 (j : Nat))) (rd := [2]) 7 (.c (.v (.pointer (some ⟨ob, oo + j * 1, none⟩)))) (by kernel_rfl) rfl (fun w' _ => run_idx elemU8 hjl w') ?_
          refine Hs.branch2 3 8 (by kernel_rfl) ?_ ?_
          · refine Hs.opV (s := Instr.loadAt 5 (.pointer (some ⟨xb, xo + j * 1, none⟩))) (.c (.v (.int .u8 (o.b[j]'hjl)))) (by kernel_rfl) rfl (fun w' H => run_u8_load (rd_cell (H.atQ 3 (wr := true) (A := aoB o.b (some ⟨xb, xo, none⟩)) (Q := fun w' => Bs w' w.heap.size (some ⟨xb, xo, none⟩) o.b xc) (st := bs_st) (by kernel_rfl)).rd hjl)) ?_
            refine Hs.run0 300 (fun _ => by kernel_rfl) ?_
            refine Hs.opV (s := Instr.loadAt 5 (.pointer (some ⟨ob, oo + j * 1, none⟩))) (.c (.v (.int .u8 (o.b[j]'hjl)))) (by kernel_rfl) rfl (fun w' H => run_u8_load (rd_cell (rd_eq hoA (hoo.b.only H.only)) hjl)) ?_
            refine Hs.run0 300 (fun _ => by kernel_rfl) ?_
            refine Hs.cond ((o.b[j]'hjl) != (o.b[j]'hjl)) (by kernel_rfl) (fun h => absurd h (by simp)) (fun _ => ?_)
            refine Hs.run0 300 (fun _ => by kernel_rfl) ?_
            refine Hs.slot 110 (.c (.v (.int .i64 (j + 1 : Nat)))) rfl ((by kernel_rfl : _ = Value.int .i64 (IntKind.i64.wrap ((j : Int) + 1))).trans (wrap_len (Nat.le_trans hoo.bl hoo.bm) hjl)) ?_
            refine Hs.loop (by kernel_rfl) ?_
            exact Hs.goto (loopAt Tryz.f5 2) [0, 1, 2, 3, 4, 5, 6, 7] [.b true 31 c.sc, .b true 48 c.sc, .b true 41 o.sc, .q true (aoB o.b (some ⟨xb, xo, none⟩)) (fun w' => Bs w' w.heap.size (some ⟨xb, xo, none⟩) o.b xc) bs_st, .q true (aoB l yA) (fun w' => Bs w' w.heap.size yA l yc) bs_st, .b true 31 c'.sc, .b true 35 (omS om yA yc), .b true 48 c'.sc] [(28, .c (.v (.slice (some ⟨ab, aoff, none⟩) ops.length ac))), (29, .c (.v (.int .i64 ops.length))), (30, .c (.v (.int .i64 (i : Nat)))), (5, .c (.p 0 0)), (6, .c (.p 1 0)), (8, .c (.p 2 0)), (10, .c (.v (.slice (some ⟨xb, xo, none⟩) o.b.length xc))), (12, .c (.p 5 0)), (13, .c (.p 6 0)), (15, .c (.p 7 0)), (109, .c (.v (.int .i64 o.b.length))), (110, .c (.v (.int .i64 (j + 1 : Nat))))] (by kernel_rfl) (by decide) (by kernel_rfl) (by kernel_rfl) (fun _ => by kernel_rfl) (fun u => ihj (j + 1) (by omega) (by omega) _ _ _ _ _ _ _ _ u)
          · refine Hs.opV (s := Instr.loadAt 5 (.pointer (some ⟨ob, oo + j * 1, none⟩))) (.c (.v (.int .u8 (o.b[j]'hjl)))) (by kernel_rfl) rfl (fun w' H => run_u8_load (rd_cell (rd_eq hoA (hoo.b.only H.only)) hjl)) ?_
            refine Hs.run0 300 (fun _ => by kernel_rfl) ?_
            refine Hs.opV (s := Instr.loadAt 5 (.pointer (some ⟨xb, xo + j * 1, none⟩))) (.c (.v (.int .u8 (o.b[j]'hjl)))) (by kernel_rfl) rfl (fun w' H => run_u8_load (rd_cell (H.atQ 3 (wr := true) (A := aoB o.b (some ⟨xb, xo, none⟩)) (Q := fun w' => Bs w' w.heap.size (some ⟨xb, xo, none⟩) o.b xc) (st := bs_st) (by kernel_rfl)).rd hjl)) ?_
            refine Hs.run0 300 (fun _ => by kernel_rfl) ?_
            refine Hs.cond ((o.b[j]'hjl) != (o.b[j]'hjl)) (by kernel_rfl) (fun h => absurd h (by simp)) (fun _ => ?_)
            refine Hs.run0 300 (fun _ => by kernel_rfl) ?_
            refine Hs.slot 110 (.c (.v (.int .i64 (j + 1 : Nat)))) rfl ((by kernel_rfl : _ = Value.int .i64 (IntKind.i64.wrap ((j : Int) + 1))).trans (wrap_len (Nat.le_trans hoo.bl hoo.bm) hjl)) ?_
            refine Hs.loop (by kernel_rfl) ?_
            exact Hs.goto (loopAt Tryz.f5 2) [0, 1, 2, 3, 4, 5, 6, 7] [.b true 31 c.sc, .b true 48 c.sc, .b true 41 o.sc, .q true (aoB o.b (some ⟨xb, xo, none⟩)) (fun w' => Bs w' w.heap.size (some ⟨xb, xo, none⟩) o.b xc) bs_st, .q true (aoB l yA) (fun w' => Bs w' w.heap.size yA l yc) bs_st, .b true 31 c'.sc, .b true 35 (omS om yA yc), .b true 48 c'.sc] [(28, .c (.v (.slice (some ⟨ab, aoff, none⟩) ops.length ac))), (29, .c (.v (.int .i64 ops.length))), (30, .c (.v (.int .i64 (i : Nat)))), (5, .c (.p 0 0)), (6, .c (.p 1 0)), (8, .c (.p 2 0)), (10, .c (.v (.slice (some ⟨xb, xo, none⟩) o.b.length xc))), (12, .c (.p 5 0)), (13, .c (.p 6 0)), (15, .c (.p 7 0)), (109, .c (.v (.int .i64 o.b.length))), (110, .c (.v (.int .i64 (j + 1 : Nat))))] (by kernel_rfl) (by decide) (by kernel_rfl) (by kernel_rfl) (fun _ => by kernel_rfl) (fun u => ihj (j + 1) (by omega) (by omega) _ _ _ _ _ _ _ _ u)
      have J1 : ∀ (d j : Nat), om.data.length - j = d → j ≤ om.data.length → ∀ (l : List Int), l.length = om.data.length → ∀ (q0 q1 q2 q3 q4 q5 q6 q7 : Nat) (u : Nat → Value), Hs Tryz.prog 5 (fun e w' => e = .returned (.bool true) ∧ Only [] w w') (Tryz.f5).ntmps w [] [q0, q1, q2, q3, q4, q5, q6, q7] ⟨.no, loopAt Tryz.f5 1, pins [(28, .c (.v (.slice (some ⟨ab, aoff, none⟩) ops.length ac))), (29, .c (.v (.int .i64 ops.length))), (30, .c (.v (.int .i64 (i : Nat)))), (5, .c (.p 0 0)), (6, .c (.p 1 0)), (8, .c (.p 2 0)), (10, .c (.v (.slice xA o.b.length xc))), (12, .c (.p 5 0)), (13, .c (.p 6 0)), (15, .c (.p 7 0)), (93, .c (.v (.int .i64 om.data.length))), (94, .c (.v (.int .i64 (j : Nat))))] (.vals u), [.b true 31 c.sc, .b true 48 c.sc, .b true 41 o.sc, .q true (aoB o.b xA) (fun w' => Bs w' w.heap.size xA o.b xc) bs_st, .q true (aoB l yA) (fun w' => Bs w' w.heap.size yA l yc) bs_st, .b true 31 c'.sc, .b true 35 (omS om yA yc), .b true 48 c'.sc]⟩ := by
        intro d
        induction d with
        | zero =>
          intro j hd hj l hll q0 q1 q2 q3 q4 q5 q6 q7 u
          refine Hs.run0 300 (fun _ => by kernel_rfl) ?_
          refine Hs.condP ((j : Int) < (om.data.length : Int)) (by kernel_rfl) (fun h => by omega) (fun h => ?_)
          refine Hs.run0 300 (fun _ => by kernel_rfl) ?_
          refine Hs.loop (by kernel_rfl) ?_
          exact Hs.goto (loopAt Tryz.f5 2) [0, 1, 2, 3, 4, 5, 6, 7] [.b true 31 c.sc, .b true 48 c.sc, .b true 41 o.sc, .q true (aoB o.b xA) (fun w' => Bs w' w.heap.size xA o.b xc) bs_st, .q true (aoB l yA) (fun w' => Bs w' w.heap.size yA l yc) bs_st, .b true 31 c'.sc, .b true 35 (omS om yA yc), .b true 48 c'.sc] [(28, .c (.v (.slice (some ⟨ab, aoff, none⟩) ops.length ac))), (29, .c (.v (.int .i64 ops.length))), (30, .c (.v (.int .i64 (i : Nat)))), (5, .c (.p 0 0)), (6, .c (.p 1 0)), (8, .c (.p 2 0)), (10, .c (.v (.slice xA o.b.length xc))), (12, .c (.p 5 0)), (13, .c (.p 6 0)), (15, .c (.p 7 0)), (109, .c (.v (.int .i64 o.b.length))), (110, .c (.v (.int .i64 (0 : Nat))))] (by kernel_rfl) (by decide) (by kernel_rfl) (by kernel_rfl) (fun _ => by kernel_rfl) (fun u => J2 l _ 0 rfl (by omega) _ _ _ _ _ _ _ _ u)
        | succ d ihj =>
          intro j hd hj l hll q0 q1 q2 q3 q4 q5 q6 q7 u
          have hjl : j < om.data.length := by omega
          have hjk : j < l.length := by omega
          refine Hs.run0 300 (fun _ => by kernel_rfl) ?_
          refine Hs.condP ((j : Int) < (om.data.length : Int)) (by kernel_rfl) (fun h => ?_) (fun h => by omega)
          refine Hs.run0 300 (fun _ => by kernel_rfl) ?_
          refine Hs.fact (p := (∃ yb yo, yA = some ⟨yb, yo, none⟩) ∧ om.data.length ≤ maxLen) (fun w' H => ?_) fun hy1 => ?_
          · have hq := (H.atQ 4 (wr := true) (A := aoB l yA) (Q := fun w' => Bs w' w.heap.size yA l yc) (st := bs_st) (by kernel_rfl))
            obtain ⟨b1, o1, e, _⟩ := hq.rd (by omega)
            exact ⟨⟨b1, o1, e⟩, by rw [← hll]; exact Nat.le_trans hq.le hq.max⟩
          obtain ⟨⟨yb, yo, hy1⟩, hdm⟩ := hy1
          subst hy1
          refine Hs.any [6] (by kernel_rfl) ?_
          refine Hs.run0 300 (fun _ => by kernel_rfl) ?_
          refine Hs.idx (b := yb) (off := yo) (c := yc) elemU8 hjl (by kernel_rfl) ?_
          refine Hs.run0 300 (fun _ => by kernel_rfl) ?_
          refine Hs.opV (s := Instr.loadAt 5 (.pointer (some ⟨yb, yo + j * 1, none⟩))) (.c (.v (.int .u8 (l[j]'hjk)))) (by kernel_rfl) rfl (fun w' H => run_u8_load (rd_cell (H.atQ 4 (wr := true) (A := aoB l (some ⟨yb, yo, none⟩)) (Q := fun w' => Bs w' w.heap.size (some ⟨yb, yo, none⟩) l yc) (st := bs_st) (by kernel_rfl)).rd hjk)) ?_
          refine Hs.run0 300 (fun _ => by kernel_rfl) ?_
          refine Hs.idx (b := yb) (off := yo) (c := yc) elemU8 hjl (by kernel_rfl) ?_
          refine Hs.run0 300 (fun _ => by kernel_rfl) ?_
          refine Hs.put8 4 (B := w.heap.size) (b := yb) (off := yo) (c := yc) (l := l) hjk (IntKind.u8.wrap ((l[j]'hjk) + 1)) (by kernel_rfl) (by kernel_rfl) (by kernel_rfl) ?_
          refine Hs.run0 300 (fun _ => by kernel_rfl) ?_
          refine Hs.slot 94 (.c (.v (.int .i64 (j + 1 : Nat)))) rfl ((by kernel_rfl : _ = Value.int .i64 (IntKind.i64.wrap ((j : Int) + 1))).trans (wrap_len hdm hjl)) ?_
          refine Hs.loop (by kernel_rfl) ?_
          exact Hs.goto (loopAt Tryz.f5 1) [0, 1, 2, 3, 4, 5, 6, 7] [.b true 31 c.sc, .b true 48 c.sc, .b true 41 o.sc, .q true (aoB o.b xA) (fun w' => Bs w' w.heap.size xA o.b xc) bs_st, .q true (aoB (l.set j (IntKind.u8.wrap ((l[j]'hjk) + 1))) (some ⟨yb, yo, none⟩)) (fun w' => Bs w' w.heap.size (some ⟨yb, yo, none⟩) (l.set j (IntKind.u8.wrap ((l[j]'hjk) + 1))) yc) bs_st, .b true 31 c'.sc, .b true 35 (omS om (some ⟨yb, yo, none⟩) yc), .b true 48 c'.sc] [(28, .c (.v (.slice (some ⟨ab, aoff, none⟩) ops.length ac))), (29, .c (.v (.int .i64 ops.length))), (30, .c (.v (.int .i64 (i : Nat)))), (5, .c (.p 0 0)), (6, .c (.p 1 0)), (8, .c (.p 2 0)), (10, .c (.v (.slice xA o.b.length xc))), (12, .c (.p 5 0)), (13, .c (.p 6 0)), (15, .c (.p 7 0)), (93, .c (.v (.int .i64 om.data.length))), (94, .c (.v (.int .i64 (j + 1 : Nat))))] (by kernel_rfl) (by decide) (by kernel_rfl) (by kernel_rfl) (fun _ => by kernel_rfl) (fun u => ihj (j + 1) (by omega) (by omega) _ (by rw [List.length_set]; exact hll) _ _ _ _ _ _ _ _ u)
      refine Hs.loop (by kernel_rfl) ?_
      exact Hs.goto (loopAt Tryz.f5 1) [0, 1, 2, 3, 5, 6, 7, 9] [.b true 31 c.sc, .b true 48 c.sc, .b true 41 o.sc, .q true (aoB o.b xA) (fun w' => Bs w' w.heap.size xA o.b xc) bs_st, .q true (aoB om.data yA) (fun w' => Bs w' w.heap.size yA om.data yc) bs_st, .b true 31 c'.sc, .b true 35 (omS om yA yc), .b true 48 c'.sc] [(28, .c (.v (.slice (some ⟨ab, aoff, none⟩) ops.length ac))), (29, .c (.v (.int .i64 ops.length))), (30, .c (.v (.int .i64 (i : Nat)))), (5, .c (.p 0 0)), (6, .c (.p 1 0)), (8, .c (.p 2 0)), (10, .c (.v (.slice xA o.b.length xc))), (12, .c (.p 5 0)), (13, .c (.p 6 0)), (15, .c (.p 7 0)), (93, .c (.v (.int .i64 om.data.length))), (94, .c (.v (.int .i64 (0 : Nat))))] (by kernel_rfl) (by decide) (by kernel_rfl) (by kernel_rfl) (fun _ => by kernel_rfl) (fun u => J1 _ 0 rfl (by omega) om.data rfl _ _ _ _ _ _ _ _ u)
  refine Hs.run0 300 (fun _ => by kernel_rfl) ?_
  refine Hs.callV (fun w' _ => chTo_any c0 w') (by kernel_rfl) ?_
  refine Hs.run1 300 (fun _ => by kernel_rfl) fun b1 => ?_
  refine Hs.callV (fun w' _ => chFrom_any c0 w') (by kernel_rfl) ?_
  refine Hs.run1 300 (fun _ => by kernel_rfl) fun b2 => ?_
  refine Hs.loop (by kernel_rfl) ?_
  exact Hs.goto (loopAt Tryz.f5 0) [1, 2] [.b true 31 (CH.sc c0), .b true 48 (CH.sc c0)] [(28, .c (.v (.slice A ops.length ac))), (29, .c (.v (.int .i64 ops.length))), (30, .c (.v (.int .i64 (0 : Nat)))), (5, .c (.p 0 0)), (6, .c (.p 1 0))] (by kernel_rfl) (by decide) (by kernel_rfl) (by kernel_rfl) (fun _ => by kernel_rfl) (fun u => J _ 0 rfl (by omega) _ _ _ hc0 u)
end Go.Proofs.YtpojfcpeibnohaaGreatDoor
