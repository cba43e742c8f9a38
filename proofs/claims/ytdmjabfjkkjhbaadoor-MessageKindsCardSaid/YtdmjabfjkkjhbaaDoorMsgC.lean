/- Layer 3: messages, the fields got of them; no condition. -/
import Derived.Test.YtdmjabfjkkjhbaaDoorMsgB
namespace Go.Proofs.YtdmjabfjkkjhbaaDoor
set_option linter.all false
open Go.RowKit

/-- A message. -/
structure MD where
  kind : Int
  chan : Int
  sender : Int
  window : Int
  packet : Int
  code : Int
  name : ByteArray
  lang : ByteArray
  want : Bool
  dA : Option Addr
  dc : Nat
  data : List Int
def MD.cells (m : MD) : List Value := [.int .i64 m.kind, .int .u32 m.chan, .int .u32 m.sender, .int .u32 m.window, .int .u32 m.packet, .int .u32 m.code, .string m.name, .string m.lang, .bool m.want, .slice m.dA m.data.length m.dc]
def MD.val (m : MD) : Value := .agg #[.int .i64 m.kind, .int .u32 m.chan, .int .u32 m.sender, .int .u32 m.window, .int .u32 m.packet, .int .u32 m.code, .string m.name, .string m.lang, .bool m.want, .slice m.dA m.data.length m.dc]
def U32 (n : Int) : Prop := 0 ≤ n ∧ n ≤ 4294967295
structure MD.ok (w : World) (m : MD) : Prop where
  data : RdG (.int .u8) w m.dA m.data
  dle : m.data.length ≤ m.dc
  dmax : m.dc ≤ maxLen
  bytes : ∀ x ∈ m.data, 0 ≤ x ∧ x < 256
  nums : U32 m.chan ∧ U32 m.sender ∧ U32 m.window ∧ U32 m.packet ∧ U32 m.code
  name : m.name.size ≤ maxLen
  lang : m.lang.size ≤ maxLen
theorem MD.ok.only {w w' : World} {m : MD} (h : m.ok w) (hb : Only [] w w') : m.ok w' := { h with data := h.data.only hb }
def sOf (s : ByteArray) : List Int := u8i s.data.toList
theorem sOf_len (s : ByteArray) : (sOf s).length = s.size := by unfold sOf u8i; simp
/-- The value of a part of a message. -/
def partP (m : MD) (j : Nat) : PF := match j with
  | 0 => ⟨3, m.code, [], []⟩
  | 1 => ⟨4, 0, m.data, []⟩
  | 2 => ⟨4, 0, sOf m.lang, []⟩
  | 3 => ⟨4, 0, sOf m.name, []⟩
  | 4 => ⟨2, if m.want then 1 else 0, [], []⟩
  | 5 => ⟨6, 0, m.data, []⟩
  | 6 => ⟨3, m.sender, [], []⟩
  | 7 => ⟨3, m.window, [], []⟩
  | 8 => ⟨3, m.packet, [], []⟩
  | _ => ⟨3, m.chan, [], []⟩
/-- What a getter hands on: the part's value, its kind not yet set. -/
def GetPost (w : World) (dA : Option Addr) (d : List Int) (p : PF) : Ending → World → Prop := fun e w' => Only [] w w' ∧ ∃ f : FD, e = .returned f.val ∧ f.pf = { p with kind := 0 } ∧ ((f.tA = dA ∧ f.text = d) ∨ ∀ a, f.tA = some a → w.heap.size ≤ a.block) ∧ f.ok w' ∧ 0 ≤ f.n ∧ f.n ≤ 4294967295
section
variable (m : MD) (g : Nat) (w : World)
set_option maxRecDepth 100000 in
theorem getCode_any (hg : Blk w g 81 m.cells) (hn : U32 m.code) : Calls Tryd.prog 81 #[.pointer (some ⟨g, 0, none⟩)] w (GetPost w m.dA m.data ⟨3, m.code, [], []⟩) := by
  have c : w.cell? ⟨g, 5, none⟩ = some (.int .u32 m.code) := hg.cell 5
  have hlt := hg.lt
  go_enter Tryd.func81, Tryd.ntmps81
  go_wp2
  (try simp only [Exit.inBlock, Exit.then])
  refine ret_field (g := w.heap.size) rfl (by rfl) (by rfl) (Blk.new w 35 [.int .i64 0, .int .u32 m.code, .slice none 0 0, .slice none 0 0]) ?_
  exact ⟨(Only.refl _ _).alloc _, ⟨0, m.code, none, 0, [], none, 0, []⟩, rfl, rfl, .inr (fun a ha => by simp at ha), FD.ok.plain _ _ _, hn⟩
set_option maxRecDepth 100000 in
theorem getSender_any (hg : Blk w g 81 m.cells) (hn : U32 m.sender) : Calls Tryd.prog 91 #[.pointer (some ⟨g, 0, none⟩)] w (GetPost w m.dA m.data ⟨3, m.sender, [], []⟩) := by
  have c : w.cell? ⟨g, 2, none⟩ = some (.int .u32 m.sender) := hg.cell 2
  have hlt := hg.lt
  go_enter Tryd.func91, Tryd.ntmps91
  go_wp2
  (try simp only [Exit.inBlock, Exit.then])
  refine ret_field (g := w.heap.size) rfl (by rfl) (by rfl) (Blk.new w 35 [.int .i64 0, .int .u32 m.sender, .slice none 0 0, .slice none 0 0]) ?_
  exact ⟨(Only.refl _ _).alloc _, ⟨0, m.sender, none, 0, [], none, 0, []⟩, rfl, rfl, .inr (fun a ha => by simp at ha), FD.ok.plain _ _ _, hn⟩
set_option maxRecDepth 100000 in
theorem getWindow_any (hg : Blk w g 81 m.cells) (hn : U32 m.window) : Calls Tryd.prog 93 #[.pointer (some ⟨g, 0, none⟩)] w (GetPost w m.dA m.data ⟨3, m.window, [], []⟩) := by
  have c : w.cell? ⟨g, 3, none⟩ = some (.int .u32 m.window) := hg.cell 3
  have hlt := hg.lt
  go_enter Tryd.func93, Tryd.ntmps93
  go_wp2
  (try simp only [Exit.inBlock, Exit.then])
  refine ret_field (g := w.heap.size) rfl (by rfl) (by rfl) (Blk.new w 35 [.int .i64 0, .int .u32 m.window, .slice none 0 0, .slice none 0 0]) ?_
  exact ⟨(Only.refl _ _).alloc _, ⟨0, m.window, none, 0, [], none, 0, []⟩, rfl, rfl, .inr (fun a ha => by simp at ha), FD.ok.plain _ _ _, hn⟩
set_option maxRecDepth 100000 in
theorem getPacket_any (hg : Blk w g 81 m.cells) (hn : U32 m.packet) : Calls Tryd.prog 95 #[.pointer (some ⟨g, 0, none⟩)] w (GetPost w m.dA m.data ⟨3, m.packet, [], []⟩) := by
  have c : w.cell? ⟨g, 4, none⟩ = some (.int .u32 m.packet) := hg.cell 4
  have hlt := hg.lt
  go_enter Tryd.func95, Tryd.ntmps95
  go_wp2
  (try simp only [Exit.inBlock, Exit.then])
  refine ret_field (g := w.heap.size) rfl (by rfl) (by rfl) (Blk.new w 35 [.int .i64 0, .int .u32 m.packet, .slice none 0 0, .slice none 0 0]) ?_
  exact ⟨(Only.refl _ _).alloc _, ⟨0, m.packet, none, 0, [], none, 0, []⟩, rfl, rfl, .inr (fun a ha => by simp at ha), FD.ok.plain _ _ _, hn⟩
set_option maxRecDepth 100000 in
theorem getChan_any (hg : Blk w g 81 m.cells) (hn : U32 m.chan) : Calls Tryd.prog 97 #[.pointer (some ⟨g, 0, none⟩)] w (GetPost w m.dA m.data ⟨3, m.chan, [], []⟩) := by
  have c : w.cell? ⟨g, 1, none⟩ = some (.int .u32 m.chan) := hg.cell 1
  have hlt := hg.lt
  go_enter Tryd.func97, Tryd.ntmps97
  go_wp2
  (try simp only [Exit.inBlock, Exit.then])
  refine ret_field (g := w.heap.size) rfl (by rfl) (by rfl) (Blk.new w 35 [.int .i64 0, .int .u32 m.chan, .slice none 0 0, .slice none 0 0]) ?_
  exact ⟨(Only.refl _ _).alloc _, ⟨0, m.chan, none, 0, [], none, 0, []⟩, rfl, rfl, .inr (fun a ha => by simp at ha), FD.ok.plain _ _ _, hn⟩
set_option maxRecDepth 100000 in
theorem getWant_any (hg : Blk w g 81 m.cells) : Calls Tryd.prog 89 #[.pointer (some ⟨g, 0, none⟩)] w (GetPost w m.dA m.data ⟨2, if m.want then 1 else 0, [], []⟩) := by
  have c : w.cell? ⟨g, 8, none⟩ = some (.bool m.want) := hg.cell 8
  have hlt := hg.lt
  cases hw : m.want with
  | true =>
    rw [hw] at c
    go_enter Tryd.func89, Tryd.ntmps89
    go_wp2
    (try simp only [Exit.inBlock, Exit.then])
    refine ret_field (g := w.heap.size) rfl (by rfl) (by rfl) (Blk.new w 35 [.int .i64 0, .int .u32 1, .slice none 0 0, .slice none 0 0]) ?_
    exact ⟨(Only.refl _ _).alloc _, ⟨0, 1, none, 0, [], none, 0, []⟩, rfl, rfl, .inr (fun a ha => by simp at ha), FD.ok.plain _ _ _, by decide, by decide⟩
  | false =>
    rw [hw] at c
    go_enter Tryd.func89, Tryd.ntmps89
    go_wp2
    (try simp only [Exit.inBlock, Exit.then])
    refine ret_field (g := w.heap.size) rfl (by rfl) (by rfl) (Blk.new w 35 [.int .i64 0, .int .u32 0, .slice none 0 0, .slice none 0 0]) ?_
    exact ⟨(Only.refl _ _).alloc _, ⟨0, 0, none, 0, [], none, 0, []⟩, rfl, rfl, .inr (fun a ha => by simp at ha), FD.ok.plain _ _ _, by decide, by decide⟩
set_option maxRecDepth 100000 in
theorem getData_any (k : Int) (hg : Blk w g 81 m.cells) (hm : m.ok w) : Calls Tryd.prog 83 #[.pointer (some ⟨g, 0, none⟩)] w (GetPost w m.dA m.data ⟨k, 0, m.data, []⟩) := by
  have c : w.cell? ⟨g, 9, none⟩ = some (.slice m.dA m.data.length m.dc) := hg.cell 9
  have hlt := hg.lt
  go_enter Tryd.func83, Tryd.ntmps83
  go_wp2
  (try simp only [Exit.inBlock, Exit.then])
  refine ret_field (g := w.heap.size) rfl (by rfl) (by rfl) (Blk.new w 35 [.int .i64 0, .int .u32 0, .slice m.dA m.data.length m.dc, .slice none 0 0]) ?_
  exact ⟨(Only.refl _ _).alloc _, ⟨0, 0, m.dA, m.dc, m.data, none, 0, []⟩, rfl, rfl, .inl ⟨rfl, rfl⟩, ⟨RdG.only hm.data ((Only.refl _ _).alloc _), RdG.nil, hm.dle, hm.dmax, by simp, by simp, by simp⟩, Int.le_refl 0, show (0 : Int) ≤ 4294967295 by decide⟩
end
end Go.Proofs.YtdmjabfjkkjhbaaDoor
