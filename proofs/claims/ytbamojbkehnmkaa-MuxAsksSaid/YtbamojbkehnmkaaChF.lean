/- Layer 25: a channel, a message, as they lie in memory; plain definitions; no condition · Layer 25: a message comes; no condition · Layer 25: Recv; no condition. -/
import Derived.Test.YtbamojbkehnmkaaU
import Derived.Test.YtbamojbkehnmkaaEngD
import Derived.Test.YtbamojbkehnmkaaWinG
import Derived.Test.YtbamojbkehnmkaaReads
namespace Go.Proofs.Ytbamojbkehnmkaa
set_option linter.all false
open Go.RowKit

/-- A message. -/
structure MD where
  kind : Int
  chan : Int
  sender : Int
  window : Int
  packet : Int
  code : Int
  name : ByteArray
  lang : ByteArray
  want : Bool
  dA : Option Addr
  dc : Nat
  data : List Int
def MD.sc (m : MD) : List SC := [.v (.int .i64 m.kind), .v (.int .u32 m.chan), .v (.int .u32 m.sender), .v (.int .u32 m.window), .v (.int .u32 m.packet), .v (.int .u32 m.code), .v (.string m.name), .v (.string m.lang), .v (.bool m.want), .v (.slice m.dA m.data.length m.dc)]
def MD.val (m : MD) : Value := .agg #[.int .i64 m.kind, .int .u32 m.chan, .int .u32 m.sender, .int .u32 m.window, .int .u32 m.packet, .int .u32 m.code, .string m.name, .string m.lang, .bool m.want, .slice m.dA m.data.length m.dc]
structure MD.ok (w : World) (m : MD) : Prop where
  data : RdG (.int .u8) w m.dA m.data
  dle : m.data.length ≤ m.dc
  dmax : m.dc ≤ maxLen
  bytes : ∀ x ∈ m.data, 0 ≤ x ∧ x < 256
  nums : U32 m.chan ∧ U32 m.sender ∧ U32 m.window ∧ U32 m.packet ∧ U32 m.code
  name : m.name.size ≤ maxLen
  lang : m.lang.size ≤ maxLen
/-- A channel. -/
structure CH where
  loc : Int
  rem : Int
  left : Int
  pack : Int
  inl : Int
  lim : Int
  sEof : Bool
  sClose : Bool
  gEof : Bool
  gClose : Bool
  owed : Int
  told : Bool
def CH.sc (c : CH) : List SC := [.v (.int .u32 c.loc), .v (.int .u32 c.rem), .v (.int .u32 c.left), .v (.int .u32 c.pack), .v (.int .u32 c.inl), .v (.int .u32 c.lim), .v (.bool c.sEof), .v (.bool c.sClose), .v (.bool c.gEof), .v (.bool c.gClose), .v (.int .i64 c.owed), .v (.bool c.told)]
def CH.cells (c : CH) : List Value := [.int .u32 c.loc, .int .u32 c.rem, .int .u32 c.left, .int .u32 c.pack, .int .u32 c.inl, .int .u32 c.lim, .bool c.sEof, .bool c.sClose, .bool c.gEof, .bool c.gClose, .int .i64 c.owed, .bool c.told]
def CH.val (c : CH) : Value := .agg #[.int .u32 c.loc, .int .u32 c.rem, .int .u32 c.left, .int .u32 c.pack, .int .u32 c.inl, .int .u32 c.lim, .bool c.sEof, .bool c.sClose, .bool c.gEof, .bool c.gClose, .int .i64 c.owed, .bool c.told]
structure CH.ok (c : CH) : Prop where
  loc : U32 c.loc
  rem : U32 c.rem
  left : U32 c.left
  pack : U32 c.pack
  inl : U32 c.inl
  lim : U32 c.lim
  owed : -9223372036854775808 ≤ c.owed ∧ c.owed ≤ 9223372036854775807
def CH.shut (c : CH) : Bool := c.sEof || c.sClose || c.gClose
/-- A message comes. -/
def recvC (c : CH) (kind win : Int) (want : Bool) (len : Int) : CH × Int :=
  if c.gClose then (c, 9)
  else if kind = 94 ∨ kind = 95 then (if c.gEof then (c, 9) else ({ c with inl := oL c.inl len }, oE c.inl len))
  else if kind = 93 then ({ c with left := gL c.left win }, gE c.left win)
  else if kind = 96 then (if c.gEof then (c, 9) else ({ c with gEof := true }, 0))
  else if kind = 97 then ({ c with gClose := true }, 0)
  else if kind = 98 then (if want then { c with owed := IntKind.i64.wrap (c.owed + 1) } else c, 0)
  else (c, 2)
theorem recvC_err (c : CH) (kind win : Int) (want : Bool) (len : Int) (h : (recvC c kind win want len).2 ≠ 0) : (recvC c kind win want len).1 = c := by
  obtain ⟨x0, x1, x2, x3, x4, x5, b1, b2, b3, b4, x6, b5⟩ := c
  unfold recvC at h ⊢
  unfold oL oE gL gE at *
  repeat' split
  all_goals simp_all
end Go.Proofs.Ytbamojbkehnmkaa

namespace Go.Proofs.Ytbamojbkehnmkaa
set_option linter.all false
set_option maxRecDepth 100000
open Go.RowKit

/-- A method that takes a message: what it answers, the channel behind it. -/
def TakeP (c : CH) (g : Nat) (w : World) (r : CH × Int) : Ending → World → Prop := fun e w' => e = .returned (.int .i64 r.2) ∧ Only [g] w w' ∧ Blk w' g 45 r.1.cells
section
variable (c : CH) (g : Nat) (w : World) (m : MD)
theorem chStrange_any (hg : Blk w g 45 c.cells) : Calls Try.prog 59 #[.pointer (some ⟨g, 0, none⟩), m.val] w (TakeP c g w (c, 2)) := by
  refine Hs.enter Try.func59 [g] [g] [.b true 45 c.sc] [.c (.p 0 0), .g m.sc] (Mem.one w g hg) (by kernel_rfl) (by kernel_rfl) ?_
  refine Hs.run1 300 (fun _ => by kernel_rfl) fun b0 => ?_
  refine Hs.ret (v := .int .i64 2) Try.func59 (by kernel_rfl) fun w' H => ?_
  exact ⟨rfl, H.only, H.at 0 (wr := true) (cs := c.sc) (by kernel_rfl)⟩
theorem chClosed_any (hg : Blk w g 45 c.cells) : Calls Try.prog 63 #[.pointer (some ⟨g, 0, none⟩), m.val] w (TakeP c g w ({ c with gClose := true }, 0)) := by
  refine Hs.enter Try.func63 [g] [g] [.b true 45 c.sc] [.c (.p 0 0), .g m.sc] (Mem.one w g hg) (by kernel_rfl) (by kernel_rfl) ?_
  refine Hs.run1 300 (fun _ => by kernel_rfl) fun b0 => ?_
  refine Hs.ret (v := .int .i64 0) Try.func63 (by kernel_rfl) fun w' H => ?_
  exact ⟨rfl, H.only, H.at 0 (wr := true) (cs := CH.sc { c with gClose := true }) (by kernel_rfl)⟩
theorem chEof_any (hg : Blk w g 45 c.cells) : Calls Try.prog 62 #[.pointer (some ⟨g, 0, none⟩), m.val] w (TakeP c g w (if c.gEof then (c, 9) else ({ c with gEof := true }, 0))) := by
  refine Hs.enter Try.func62 [g] [g] [.b true 45 c.sc] [.c (.p 0 0), .g m.sc] (Mem.one w g hg) (by kernel_rfl) (by kernel_rfl) ?_
  refine Hs.run1 300 (fun _ => by kernel_rfl) fun b0 => ?_
  refine Hs.cond c.gEof (by kernel_rfl) (fun h => ?_) (fun h => ?_)
  · rw [if_pos h]
    refine Hs.run0 300 (fun _ => by kernel_rfl) ?_
    refine Hs.ret (v := .int .i64 9) Try.func62 (by kernel_rfl) fun w' H => ?_
    exact ⟨rfl, H.only, H.at 0 (wr := true) (cs := c.sc) (by kernel_rfl)⟩
  · rw [if_neg (by simp [h])]
    refine Hs.run0 300 (fun _ => by kernel_rfl) ?_
    refine Hs.ret (v := .int .i64 0) Try.func62 (by kernel_rfl) fun w' H => ?_
    exact ⟨rfl, H.only, H.at 0 (wr := true) (cs := CH.sc { c with gEof := true }) (by kernel_rfl)⟩
theorem chAsked_any (hg : Blk w g 45 c.cells) : Calls Try.prog 64 #[.pointer (some ⟨g, 0, none⟩), m.val] w (TakeP c g w (if m.want then { c with owed := IntKind.i64.wrap (c.owed + 1) } else c, 0)) := by
  refine Hs.enter Try.func64 [g] [g] [.b true 45 c.sc] [.c (.p 0 0), .g m.sc] (Mem.one w g hg) (by kernel_rfl) (by kernel_rfl) ?_
  refine Hs.run1 300 (fun _ => by kernel_rfl) fun b0 => ?_
  refine Hs.cond m.want (by kernel_rfl) (fun h => ?_) (fun h => ?_)
  · rw [if_pos h]
    refine Hs.run0 300 (fun _ => by kernel_rfl) ?_
    refine Hs.ret (v := .int .i64 0) Try.func64 (by kernel_rfl) fun w' H => ?_
    exact ⟨rfl, H.only, H.at 0 (wr := true) (cs := CH.sc { c with owed := IntKind.i64.wrap (c.owed + 1) }) (by kernel_rfl)⟩
  · rw [if_neg (by simp [h])]
    refine Hs.run0 300 (fun _ => by kernel_rfl) ?_
    refine Hs.ret (v := .int .i64 0) Try.func64 (by kernel_rfl) fun w' H => ?_
    exact ⟨rfl, H.only, H.at 0 (wr := true) (cs := c.sc) (by kernel_rfl)⟩
theorem chData_any (hc : c.ok) (hm : m.data.length ≤ maxLen) (hg : Blk w g 45 c.cells) : Calls Try.prog 60 #[.pointer (some ⟨g, 0, none⟩), m.val] w (TakeP c g w (if c.gEof then (c, 9) else ({ c with inl := oL c.inl m.data.length }, oE c.inl m.data.length))) := by
  refine Hs.enter Try.func60 [g] [g] [.b true 45 c.sc] [.c (.p 0 0), .g m.sc] (Mem.one w g hg) (by kernel_rfl) (by kernel_rfl) ?_
  refine Hs.run1 300 (fun _ => by kernel_rfl) fun b0 => ?_
  refine Hs.cond c.gEof (by kernel_rfl) (fun h => ?_) (fun h => ?_)
  · rw [if_pos h]
    refine Hs.run0 300 (fun _ => by kernel_rfl) ?_
    refine Hs.ret (v := .int .i64 9) Try.func60 (by kernel_rfl) fun w' H => ?_
    exact ⟨rfl, H.only, H.at 0 (wr := true) (cs := c.sc) (by kernel_rfl)⟩
  · rw [if_neg (by simp [h])]
    refine Hs.run0 300 (fun _ => by kernel_rfl) ?_
    refine Hs.any [1] (by kernel_rfl) ?_
    refine Hs.run0 300 (fun _ => by kernel_rfl) ?_
    refine Hs.callV (fun w _ => (got_any c.inl c.lim m.data.length w hc.inl (by unfold maxLen at hm; omega)).mono fun e w' h => ⟨h.1, only_of_below h.2⟩) (by kernel_rfl) ?_
    refine Hs.run0 300 (fun _ => by kernel_rfl) ?_
    refine Hs.ret (v := .int .i64 (oE c.inl m.data.length)) Try.func60 (by kernel_rfl) fun w' H => ?_
    exact ⟨rfl, H.only, H.at 0 (wr := true) (cs := CH.sc { c with inl := oL c.inl m.data.length }) (by kernel_rfl)⟩
theorem chAdjust_any (hc : c.ok) (hm : U32 m.window) (hg : Blk w g 45 c.cells) : Calls Try.prog 61 #[.pointer (some ⟨g, 0, none⟩), m.val] w (TakeP c g w ({ c with left := gL c.left m.window }, gE c.left m.window)) := by
  refine Hs.enter Try.func61 [g] [g] [.b true 45 c.sc] [.c (.p 0 0), .g m.sc] (Mem.one w g hg) (by kernel_rfl) (by kernel_rfl) ?_
  refine Hs.run1 300 (fun _ => by kernel_rfl) fun b0 => ?_
  refine Hs.any [1] (by kernel_rfl) ?_
  refine Hs.run0 300 (fun _ => by kernel_rfl) ?_
  refine Hs.callV (fun w _ => (grant_any c.left c.pack m.window w hc.left hm).mono fun e w' h => ⟨h.1, only_of_below h.2⟩) (by kernel_rfl) ?_
  refine Hs.run0 300 (fun _ => by kernel_rfl) ?_
  refine Hs.ret (v := .int .i64 (gE c.left m.window)) Try.func61 (by kernel_rfl) fun w' H => ?_
  exact ⟨rfl, H.only, H.at 0 (wr := true) (cs := CH.sc { c with left := gL c.left m.window }) (by kernel_rfl)⟩
end
end Go.Proofs.Ytbamojbkehnmkaa

namespace Go.Proofs.Ytbamojbkehnmkaa
set_option linter.all false
set_option maxRecDepth 100000
open Go.RowKit

theorem chRecv_any (c : CH) (m : MD) (w : World) (hc : c.ok) (hw : U32 m.window) (hl : m.data.length ≤ maxLen) : Calls Try.prog 57 #[c.val, m.val] w fun e w' => e = .returned (.tuple #[(recvC c m.kind m.window m.want m.data.length).1.val, .int .i64 (recvC c m.kind m.window m.want m.data.length).2]) ∧ Only [] w w' := by
  have hret := recvC_err c m.kind m.window m.want m.data.length
  obtain ⟨r, e⟩ : ∃ r, r = recvC c m.kind m.window m.want m.data.length := ⟨_, rfl⟩
  rw [← e] at hret ⊢
  obtain ⟨d, E⟩ := r
  dsimp only at hret ⊢
  refine Hs.enter Try.func57 [] [] [] [.g c.sc, .g m.sc] (Mem.start0 w) (by kernel_rfl) (by kernel_rfl) ?_
  refine Hs.run3 300 (fun _ => by kernel_rfl) fun b0 b1 b2 => ?_
  refine Hs.cond c.gClose (by kernel_rfl) (fun h => ?_) (fun h => ?_)
  · have e : (d, E) = (c, 9) := by rw [e]; unfold recvC; rw [if_pos h]
    injection e with e1 e2
    subst e1; subst e2
    refine Hs.run0 300 (fun _ => by kernel_rfl) ?_
    exact Hs.ret (v := .tuple #[d.val, .int .i64 9]) Try.func57 (by kernel_rfl) fun w' H => ⟨rfl, H.only⟩
  refine Hs.run1 300 (fun _ => by kernel_rfl) fun b3 => ?_
  refine Hs.cond (m.kind == 94) (by kernel_rfl) (fun hk => ?_) (fun hk => ?_)
  · have hk : m.kind = 94 := by simpa using hk
    have e : (d, E) = if c.gEof then (c, 9) else ({ c with inl := oL c.inl m.data.length }, oE c.inl m.data.length) := by rw [e]; unfold recvC; rw [if_neg (by rw [h]; decide), if_pos (.inl hk)]
    refine Hs.run0 300 (fun _ => by kernel_rfl) ?_
    refine Hs.cond (m.kind == 94) (by kernel_rfl) (fun _ => ?_) (fun hx => absurd hk (by simpa using hx))
    refine Hs.run0 300 (fun _ => by kernel_rfl) ?_
    refine Hs.callP 0 45 d.sc (v := .int .i64 E) (fun w H => (by have := chData_any c _ w m hc hl (H.at 0 (wr := true) (cs := c.sc) (by kernel_rfl)); rw [← e] at this; exact this)) (by kernel_rfl) (by kernel_rfl) ?_
    refine Hs.run0 300 (fun _ => by kernel_rfl) ?_
    refine Hs.cond (E != 0) (by kernel_rfl) (fun h0 => ?_) (fun h0 => ?_)
    · have hd : c = d := (hret (by simpa using h0)).symm
      subst hd
      refine Hs.run0 300 (fun _ => by kernel_rfl) ?_
      exact Hs.ret (v := .tuple #[c.val, .int .i64 E]) Try.func57 (by kernel_rfl) fun w' H => ⟨rfl, H.only⟩
    · have hE : E = 0 := by simpa using h0
      subst hE
      refine Hs.run0 300 (fun _ => by kernel_rfl) ?_
      exact Hs.ret (v := .tuple #[d.val, .int .i64 0]) Try.func57 (by kernel_rfl) fun w' H => ⟨rfl, H.only⟩
  have n94 : ¬ m.kind = 94 := by simpa using hk
  clear hk
  refine Hs.run0 300 (fun _ => by kernel_rfl) ?_
  refine Hs.cond (m.kind == 95) (by kernel_rfl) (fun hk => ?_) (fun hk => ?_)
  · have hk : m.kind = 95 := by simpa using hk
    have e : (d, E) = if c.gEof then (c, 9) else ({ c with inl := oL c.inl m.data.length }, oE c.inl m.data.length) := by rw [e]; unfold recvC; rw [if_neg (by rw [h]; decide), if_pos (.inr hk)]
    refine Hs.run0 300 (fun _ => by kernel_rfl) ?_
    refine Hs.callP 0 45 d.sc (v := .int .i64 E) (fun w H => (by have := chData_any c _ w m hc hl (H.at 0 (wr := true) (cs := c.sc) (by kernel_rfl)); rw [← e] at this; exact this)) (by kernel_rfl) (by kernel_rfl) ?_
    refine Hs.run0 300 (fun _ => by kernel_rfl) ?_
    refine Hs.cond (E != 0) (by kernel_rfl) (fun h0 => ?_) (fun h0 => ?_)
    · have hd : c = d := (hret (by simpa using h0)).symm
      subst hd
      refine Hs.run0 300 (fun _ => by kernel_rfl) ?_
      exact Hs.ret (v := .tuple #[c.val, .int .i64 E]) Try.func57 (by kernel_rfl) fun w' H => ⟨rfl, H.only⟩
    · have hE : E = 0 := by simpa using h0
      subst hE
      refine Hs.run0 300 (fun _ => by kernel_rfl) ?_
      exact Hs.ret (v := .tuple #[d.val, .int .i64 0]) Try.func57 (by kernel_rfl) fun w' H => ⟨rfl, H.only⟩
  have n95 : ¬ m.kind = 95 := by simpa using hk
  clear hk
  refine Hs.run0 300 (fun _ => by kernel_rfl) ?_
  refine Hs.cond (m.kind == 93) (by kernel_rfl) (fun hk => ?_) (fun hk => ?_)
  · have hk : m.kind = 93 := by simpa using hk
    have e : (d, E) = ({ c with left := gL c.left m.window }, gE c.left m.window) := by rw [e]; unfold recvC; rw [if_neg (by rw [h]; decide), if_neg (by omega), if_pos hk]
    refine Hs.run0 300 (fun _ => by kernel_rfl) ?_
    refine Hs.callP 0 45 d.sc (v := .int .i64 E) (fun w H => (by have := chAdjust_any c _ w m hc hw (H.at 0 (wr := true) (cs := c.sc) (by kernel_rfl)); rw [← e] at this; exact this)) (by kernel_rfl) (by kernel_rfl) ?_
    refine Hs.run0 300 (fun _ => by kernel_rfl) ?_
    refine Hs.cond (E != 0) (by kernel_rfl) (fun h0 => ?_) (fun h0 => ?_)
    · have hd : c = d := (hret (by simpa using h0)).symm
      subst hd
      refine Hs.run0 300 (fun _ => by kernel_rfl) ?_
      exact Hs.ret (v := .tuple #[c.val, .int .i64 E]) Try.func57 (by kernel_rfl) fun w' H => ⟨rfl, H.only⟩
    · have hE : E = 0 := by simpa using h0
      subst hE
      refine Hs.run0 300 (fun _ => by kernel_rfl) ?_
      exact Hs.ret (v := .tuple #[d.val, .int .i64 0]) Try.func57 (by kernel_rfl) fun w' H => ⟨rfl, H.only⟩
  have n93 : ¬ m.kind = 93 := by simpa using hk
  clear hk
  refine Hs.run0 300 (fun _ => by kernel_rfl) ?_
  refine Hs.cond (m.kind == 96) (by kernel_rfl) (fun hk => ?_) (fun hk => ?_)
  · have hk : m.kind = 96 := by simpa using hk
    have e : (d, E) = if c.gEof then (c, 9) else ({ c with gEof := true }, 0) := by rw [e]; unfold recvC; rw [if_neg (by rw [h]; decide), if_neg (by omega), if_neg (by omega), if_pos hk]
    refine Hs.run0 300 (fun _ => by kernel_rfl) ?_
    refine Hs.callP 0 45 d.sc (v := .int .i64 E) (fun w H => (by have := chEof_any c _ w m (H.at 0 (wr := true) (cs := c.sc) (by kernel_rfl)); rw [← e] at this; exact this)) (by kernel_rfl) (by kernel_rfl) ?_
    refine Hs.run0 300 (fun _ => by kernel_rfl) ?_
    refine Hs.cond (E != 0) (by kernel_rfl) (fun h0 => ?_) (fun h0 => ?_)
    · have hd : c = d := (hret (by simpa using h0)).symm
      subst hd
      refine Hs.run0 300 (fun _ => by kernel_rfl) ?_
      exact Hs.ret (v := .tuple #[c.val, .int .i64 E]) Try.func57 (by kernel_rfl) fun w' H => ⟨rfl, H.only⟩
    · have hE : E = 0 := by simpa using h0
      subst hE
      refine Hs.run0 300 (fun _ => by kernel_rfl) ?_
      exact Hs.ret (v := .tuple #[d.val, .int .i64 0]) Try.func57 (by kernel_rfl) fun w' H => ⟨rfl, H.only⟩
  have n96 : ¬ m.kind = 96 := by simpa using hk
  clear hk
  refine Hs.run0 300 (fun _ => by kernel_rfl) ?_
  refine Hs.cond (m.kind == 97) (by kernel_rfl) (fun hk => ?_) (fun hk => ?_)
  · have hk : m.kind = 97 := by simpa using hk
    have e : (d, E) = ({ c with gClose := true }, 0) := by rw [e]; unfold recvC; rw [if_neg (by rw [h]; decide), if_neg (by omega), if_neg (by omega), if_neg (by omega), if_pos hk]
    refine Hs.run0 300 (fun _ => by kernel_rfl) ?_
    refine Hs.callP 0 45 d.sc (v := .int .i64 E) (fun w H => (by have := chClosed_any c _ w m (H.at 0 (wr := true) (cs := c.sc) (by kernel_rfl)); rw [← e] at this; exact this)) (by kernel_rfl) (by kernel_rfl) ?_
    refine Hs.run0 300 (fun _ => by kernel_rfl) ?_
    refine Hs.cond (E != 0) (by kernel_rfl) (fun h0 => ?_) (fun h0 => ?_)
    · have hd : c = d := (hret (by simpa using h0)).symm
      subst hd
      refine Hs.run0 300 (fun _ => by kernel_rfl) ?_
      exact Hs.ret (v := .tuple #[c.val, .int .i64 E]) Try.func57 (by kernel_rfl) fun w' H => ⟨rfl, H.only⟩
    · have hE : E = 0 := by simpa using h0
      subst hE
      refine Hs.run0 300 (fun _ => by kernel_rfl) ?_
      exact Hs.ret (v := .tuple #[d.val, .int .i64 0]) Try.func57 (by kernel_rfl) fun w' H => ⟨rfl, H.only⟩
  have n97 : ¬ m.kind = 97 := by simpa using hk
  clear hk
  refine Hs.run0 300 (fun _ => by kernel_rfl) ?_
  refine Hs.cond (m.kind == 98) (by kernel_rfl) (fun hk => ?_) (fun hk => ?_)
  · have hk : m.kind = 98 := by simpa using hk
    have e : (d, E) = (if m.want then { c with owed := IntKind.i64.wrap (c.owed + 1) } else c, 0) := by rw [e]; unfold recvC; rw [if_neg (by rw [h]; decide), if_neg (by omega), if_neg (by omega), if_neg (by omega), if_neg (by omega), if_pos hk]
    refine Hs.run0 300 (fun _ => by kernel_rfl) ?_
    refine Hs.callP 0 45 d.sc (v := .int .i64 E) (fun w H => (by have := chAsked_any c _ w m (H.at 0 (wr := true) (cs := c.sc) (by kernel_rfl)); rw [← e] at this; exact this)) (by kernel_rfl) (by kernel_rfl) ?_
    refine Hs.run0 300 (fun _ => by kernel_rfl) ?_
    refine Hs.cond (E != 0) (by kernel_rfl) (fun h0 => ?_) (fun h0 => ?_)
    · have hd : c = d := (hret (by simpa using h0)).symm
      subst hd
      refine Hs.run0 300 (fun _ => by kernel_rfl) ?_
      exact Hs.ret (v := .tuple #[c.val, .int .i64 E]) Try.func57 (by kernel_rfl) fun w' H => ⟨rfl, H.only⟩
    · have hE : E = 0 := by simpa using h0
      subst hE
      refine Hs.run0 300 (fun _ => by kernel_rfl) ?_
      exact Hs.ret (v := .tuple #[d.val, .int .i64 0]) Try.func57 (by kernel_rfl) fun w' H => ⟨rfl, H.only⟩
  have n98 : ¬ m.kind = 98 := by simpa using hk
  clear hk
  have e : (d, E) = (c, 2) := by rw [e]; unfold recvC; rw [if_neg (by rw [h]; decide), if_neg (by omega), if_neg (by omega), if_neg (by omega), if_neg (by omega), if_neg (by omega)]
  refine Hs.run0 300 (fun _ => by kernel_rfl) ?_
  refine Hs.callP 0 45 d.sc (v := .int .i64 E) (fun w H => (by have := chStrange_any c _ w m (H.at 0 (wr := true) (cs := c.sc) (by kernel_rfl)); rw [← e] at this; exact this)) (by kernel_rfl) (by kernel_rfl) ?_
  refine Hs.run0 300 (fun _ => by kernel_rfl) ?_
  refine Hs.cond (E != 0) (by kernel_rfl) (fun h0 => ?_) (fun h0 => ?_)
  · have hd : c = d := (hret (by simpa using h0)).symm
    subst hd
    refine Hs.run0 300 (fun _ => by kernel_rfl) ?_
    exact Hs.ret (v := .tuple #[c.val, .int .i64 E]) Try.func57 (by kernel_rfl) fun w' H => ⟨rfl, H.only⟩
  · have hE : E = 0 := by simpa using h0
    subst hE
    refine Hs.run0 300 (fun _ => by kernel_rfl) ?_
    exact Hs.ret (v := .tuple #[d.val, .int .i64 0]) Try.func57 (by kernel_rfl) fun w' H => ⟨rfl, H.only⟩
end Go.Proofs.Ytbamojbkehnmkaa
