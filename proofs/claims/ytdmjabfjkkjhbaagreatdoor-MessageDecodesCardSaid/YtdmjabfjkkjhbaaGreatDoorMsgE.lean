/- Layer 3: messages, the fields got of them; no condition · Layer 3: the names got of a message; the getters by the table; texts that are printable, messages that fit; no condition · Layer 3: texts that are printable, messages that fit; no condition. -/
import Derived.Test.YtdmjabfjkkjhbaaGreatDoorMsgB
namespace Go.Proofs.YtdmjabfjkkjhbaaGreatDoor
set_option linter.all false
open Go.RowKit

/-- A message. -/
structure MD where
  kind : Int
  chan : Int
  sender : Int
  window : Int
  packet : Int
  code : Int
  name : ByteArray
  lang : ByteArray
  want : Bool
  dA : Option Addr
  dc : Nat
  data : List Int
def MD.cells (m : MD) : List Value := [.int .i64 m.kind, .int .u32 m.chan, .int .u32 m.sender, .int .u32 m.window, .int .u32 m.packet, .int .u32 m.code, .string m.name, .string m.lang, .bool m.want, .slice m.dA m.data.length m.dc]
def MD.val (m : MD) : Value := .agg #[.int .i64 m.kind, .int .u32 m.chan, .int .u32 m.sender, .int .u32 m.window, .int .u32 m.packet, .int .u32 m.code, .string m.name, .string m.lang, .bool m.want, .slice m.dA m.data.length m.dc]
def U32 (n : Int) : Prop := 0 ≤ n ∧ n ≤ 4294967295
structure MD.ok (w : World) (m : MD) : Prop where
  data : RdG (.int .u8) w m.dA m.data
  dle : m.data.length ≤ m.dc
  dmax : m.dc ≤ maxLen
  bytes : ∀ x ∈ m.data, 0 ≤ x ∧ x < 256
  nums : U32 m.chan ∧ U32 m.sender ∧ U32 m.window ∧ U32 m.packet ∧ U32 m.code
  name : m.name.size ≤ maxLen
  lang : m.lang.size ≤ maxLen
theorem MD.ok.only {w w' : World} {m : MD} (h : m.ok w) (hb : Only [] w w') : m.ok w' := { h with data := h.data.only hb }
def sOf (s : ByteArray) : List Int := u8i s.data.toList
theorem sOf_len (s : ByteArray) : (sOf s).length = s.size := by unfold sOf u8i; simp
/-- The value of a part of a message. -/
def partP (m : MD) (j : Nat) : PF := match j with
  | 0 => ⟨3, m.code, [], []⟩
  | 1 => ⟨4, 0, m.data, []⟩
  | 2 => ⟨4, 0, sOf m.lang, []⟩
  | 3 => ⟨4, 0, sOf m.name, []⟩
  | 4 => ⟨2, if m.want then 1 else 0, [], []⟩
  | 5 => ⟨6, 0, m.data, []⟩
  | 6 => ⟨3, m.sender, [], []⟩
  | 7 => ⟨3, m.window, [], []⟩
  | 8 => ⟨3, m.packet, [], []⟩
  | _ => ⟨3, m.chan, [], []⟩
/-- What a getter hands on: the part's value, its kind not yet set. -/
def GetPost (w : World) (dA : Option Addr) (d : List Int) (p : PF) : Ending → World → Prop := fun e w' => Only [] w w' ∧ ∃ f : FD, e = .returned f.val ∧ f.pf = { p with kind := 0 } ∧ ((f.tA = dA ∧ f.text = d) ∨ ∀ a, f.tA = some a → w.heap.size ≤ a.block) ∧ f.ok w' ∧ 0 ≤ f.n ∧ f.n ≤ 4294967295
section
variable (m : MD) (g : Nat) (w : World)
set_option maxRecDepth 100000 in
theorem getCode_any (hg : Blk w g 46 m.cells) (hn : U32 m.code) : Calls Tryz.prog 45 #[.pointer (some ⟨g, 0, none⟩)] w (GetPost w m.dA m.data ⟨3, m.code, [], []⟩) := by
  have c : w.cell? ⟨g, 5, none⟩ = some (.int .u32 m.code) := hg.cell 5
  have hlt := hg.lt
  go_enter Tryz.func45, Tryz.ntmps45
  go_wp2
  (try simp only [Exit.inBlock, Exit.then])
  refine ret_field (g := w.heap.size) rfl (by rfl) (by rfl) (Blk.new w 49 [.int .i64 0, .int .u32 m.code, .slice none 0 0, .slice none 0 0]) ?_
  exact ⟨(Only.refl _ _).alloc _, ⟨0, m.code, none, 0, [], none, 0, []⟩, rfl, rfl, .inr (fun a ha => by simp at ha), FD.ok.plain _ _ _, hn⟩
set_option maxRecDepth 100000 in
theorem getSender_any (hg : Blk w g 46 m.cells) (hn : U32 m.sender) : Calls Tryz.prog 55 #[.pointer (some ⟨g, 0, none⟩)] w (GetPost w m.dA m.data ⟨3, m.sender, [], []⟩) := by
  have c : w.cell? ⟨g, 2, none⟩ = some (.int .u32 m.sender) := hg.cell 2
  have hlt := hg.lt
  go_enter Tryz.func55, Tryz.ntmps55
  go_wp2
  (try simp only [Exit.inBlock, Exit.then])
  refine ret_field (g := w.heap.size) rfl (by rfl) (by rfl) (Blk.new w 49 [.int .i64 0, .int .u32 m.sender, .slice none 0 0, .slice none 0 0]) ?_
  exact ⟨(Only.refl _ _).alloc _, ⟨0, m.sender, none, 0, [], none, 0, []⟩, rfl, rfl, .inr (fun a ha => by simp at ha), FD.ok.plain _ _ _, hn⟩
set_option maxRecDepth 100000 in
theorem getWindow_any (hg : Blk w g 46 m.cells) (hn : U32 m.window) : Calls Tryz.prog 57 #[.pointer (some ⟨g, 0, none⟩)] w (GetPost w m.dA m.data ⟨3, m.window, [], []⟩) := by
  have c : w.cell? ⟨g, 3, none⟩ = some (.int .u32 m.window) := hg.cell 3
  have hlt := hg.lt
  go_enter Tryz.func57, Tryz.ntmps57
  go_wp2
  (try simp only [Exit.inBlock, Exit.then])
  refine ret_field (g := w.heap.size) rfl (by rfl) (by rfl) (Blk.new w 49 [.int .i64 0, .int .u32 m.window, .slice none 0 0, .slice none 0 0]) ?_
  exact ⟨(Only.refl _ _).alloc _, ⟨0, m.window, none, 0, [], none, 0, []⟩, rfl, rfl, .inr (fun a ha => by simp at ha), FD.ok.plain _ _ _, hn⟩
set_option maxRecDepth 100000 in
theorem getPacket_any (hg : Blk w g 46 m.cells) (hn : U32 m.packet) : Calls Tryz.prog 59 #[.pointer (some ⟨g, 0, none⟩)] w (GetPost w m.dA m.data ⟨3, m.packet, [], []⟩) := by
  have c : w.cell? ⟨g, 4, none⟩ = some (.int .u32 m.packet) := hg.cell 4
  have hlt := hg.lt
  go_enter Tryz.func59, Tryz.ntmps59
  go_wp2
  (try simp only [Exit.inBlock, Exit.then])
  refine ret_field (g := w.heap.size) rfl (by rfl) (by rfl) (Blk.new w 49 [.int .i64 0, .int .u32 m.packet, .slice none 0 0, .slice none 0 0]) ?_
  exact ⟨(Only.refl _ _).alloc _, ⟨0, m.packet, none, 0, [], none, 0, []⟩, rfl, rfl, .inr (fun a ha => by simp at ha), FD.ok.plain _ _ _, hn⟩
set_option maxRecDepth 100000 in
theorem getChan_any (hg : Blk w g 46 m.cells) (hn : U32 m.chan) : Calls Tryz.prog 61 #[.pointer (some ⟨g, 0, none⟩)] w (GetPost w m.dA m.data ⟨3, m.chan, [], []⟩) := by
  have c : w.cell? ⟨g, 1, none⟩ = some (.int .u32 m.chan) := hg.cell 1
  have hlt := hg.lt
  go_enter Tryz.func61, Tryz.ntmps61
  go_wp2
  (try simp only [Exit.inBlock, Exit.then])
  refine ret_field (g := w.heap.size) rfl (by rfl) (by rfl) (Blk.new w 49 [.int .i64 0, .int .u32 m.chan, .slice none 0 0, .slice none 0 0]) ?_
  exact ⟨(Only.refl _ _).alloc _, ⟨0, m.chan, none, 0, [], none, 0, []⟩, rfl, rfl, .inr (fun a ha => by simp at ha), FD.ok.plain _ _ _, hn⟩
set_option maxRecDepth 100000 in
theorem getWant_any (hg : Blk w g 46 m.cells) : Calls Tryz.prog 53 #[.pointer (some ⟨g, 0, none⟩)] w (GetPost w m.dA m.data ⟨2, if m.want then 1 else 0, [], []⟩) := by
  have c : w.cell? ⟨g, 8, none⟩ = some (.bool m.want) := hg.cell 8
  have hlt := hg.lt
  cases hw : m.want with
  | true =>
    rw [hw] at c
    go_enter Tryz.func53, Tryz.ntmps53
    go_wp2
    (try simp only [Exit.inBlock, Exit.then])
    refine ret_field (g := w.heap.size) rfl (by rfl) (by rfl) (Blk.new w 49 [.int .i64 0, .int .u32 1, .slice none 0 0, .slice none 0 0]) ?_
    exact ⟨(Only.refl _ _).alloc _, ⟨0, 1, none, 0, [], none, 0, []⟩, rfl, rfl, .inr (fun a ha => by simp at ha), FD.ok.plain _ _ _, by decide, by decide⟩
  | false =>
    rw [hw] at c
    go_enter Tryz.func53, Tryz.ntmps53
    go_wp2
    (try simp only [Exit.inBlock, Exit.then])
    refine ret_field (g := w.heap.size) rfl (by rfl) (by rfl) (Blk.new w 49 [.int .i64 0, .int .u32 0, .slice none 0 0, .slice none 0 0]) ?_
    exact ⟨(Only.refl _ _).alloc _, ⟨0, 0, none, 0, [], none, 0, []⟩, rfl, rfl, .inr (fun a ha => by simp at ha), FD.ok.plain _ _ _, by decide, by decide⟩
set_option maxRecDepth 100000 in
theorem getData_any (k : Int) (hg : Blk w g 46 m.cells) (hm : m.ok w) : Calls Tryz.prog 47 #[.pointer (some ⟨g, 0, none⟩)] w (GetPost w m.dA m.data ⟨k, 0, m.data, []⟩) := by
  have c : w.cell? ⟨g, 9, none⟩ = some (.slice m.dA m.data.length m.dc) := hg.cell 9
  have hlt := hg.lt
  go_enter Tryz.func47, Tryz.ntmps47
  go_wp2
  (try simp only [Exit.inBlock, Exit.then])
  refine ret_field (g := w.heap.size) rfl (by rfl) (by rfl) (Blk.new w 49 [.int .i64 0, .int .u32 0, .slice m.dA m.data.length m.dc, .slice none 0 0]) ?_
  exact ⟨(Only.refl _ _).alloc _, ⟨0, 0, m.dA, m.dc, m.data, none, 0, []⟩, rfl, rfl, .inl ⟨rfl, rfl⟩, ⟨RdG.only hm.data ((Only.refl _ _).alloc _), RdG.nil, hm.dle, hm.dmax, by simp, by simp, by simp⟩, Int.le_refl 0, show (0 : Int) ≤ 4294967295 by decide⟩
end
end Go.Proofs.YtdmjabfjkkjhbaaGreatDoor

namespace Go.Proofs.YtdmjabfjkkjhbaaGreatDoor
set_option linter.all false
open Go.RowKit

section
variable (m : MD) (g : Nat) (w : World)
set_option maxRecDepth 100000 in
set_option maxHeartbeats 1600000 in
theorem getName_any (hg : Blk w g 46 m.cells) (hs : m.name.size ≤ 140737488355328) : Calls Tryz.prog 51 #[.pointer (some ⟨g, 0, none⟩)] w (GetPost w m.dA m.data ⟨4, 0, sOf m.name, []⟩) := by
  have c : w.cell? ⟨g, 6, none⟩ = some (.string m.name) := hg.cell 6
  have hlt := hg.lt
  have hne : ¬ g = w.heap.size := by omega
  obtain ⟨w1, hw1⟩ : ∃ w1, w1 = w.alloc (.cells #[.int .i64 0, .int .u32 0, .slice none 0 0, .slice none 0 0] 49) := ⟨_, rfl⟩
  have P1 : Only [] w w1 := by rw [hw1]; exact (Only.refl _ _).alloc _
  have K1 : Blk w1 w.heap.size 49 [.int .i64 0, .int .u32 0, .slice none 0 0, .slice none 0 0] := by rw [hw1]; exact Blk.new w _ _
  have hs1 : w1.heap.size = w.heap.size + 1 := by rw [hw1]; simp
  obtain ⟨cc, w3, hcv, hcc, hcm, P3, RS, hs3⟩ := run_conv_bytes w1 m.name.data.toList
  have hul : m.name.data.toList.length = m.name.size := by simp
  rw [hul] at hcv hcc hcm
  have heta : (⟨m.name.data.toList.toArray⟩ : ByteArray) = m.name := Go.Joins.bytes_eta m.name
  rw [heta] at hcv
  have K3 := K1.only P3 (by simp)
  have g0 : w3.cell? ⟨w.heap.size, 0, none⟩ = some (.int .i64 0) := K3.cell 0
  have g1 : w3.cell? ⟨w.heap.size, 1, none⟩ = some (.int .u32 0) := K3.cell 1
  have g2 : w3.cell? ⟨w.heap.size, 2, none⟩ = some (.slice none 0 0) := K3.cell 2
  have g3 : w3.cell? ⟨w.heap.size, 3, none⟩ = some (.slice none 0 0) := K3.cell 3
  have f0 := K3.frozen 0
  have f1 := K3.frozen 1
  have f2 := K3.frozen 2
  have f3 := K3.frozen 3
  rw [hw1] at hcv
  have hcc2 : (sOf m.name).length ≤ cc := by rw [sOf_len]; exact hcc
  have hcm2 : cc ≤ maxLen := hcm (by unfold maxLen; omega)
  rw [hs1] at RS
  rw [show (w.alloc (.cells #[.int .i64 0, .int .u32 0, .slice none 0 0, .slice none 0 0] 49)).heap.size = w.heap.size + 1 by simp] at hcv
  obtain ⟨n, hn⟩ : ∃ n, m.name.size = n := ⟨_, rfl⟩
  rw [hn] at hcv
  replace hcc := hide hcc
  replace hul := hide hul
  replace hn := hide hn
  replace hs1 := hide hs1
  replace hw1 := hide hw1
  replace heta := hide heta
  clear K1 hcm
  go_enter Tryz.func51, Tryz.ntmps51
  go_wp2
  (try simp only [Exit.inBlock, Exit.then])
  have Y4 := W4.only w3 w.heap.size (.int .i64 0) (.int .u32 0) (.slice (some ⟨w.heap.size + 1, 0, none⟩) n cc) (.slice none 0 0)
  refine ret_field (g := w.heap.size) rfl (by rfl) (by rfl) (W4.blk K3 (.int .i64 0) (.int .u32 0) (.slice (some ⟨w.heap.size + 1, 0, none⟩) n cc) (.slice none 0 0)) ?_
  refine ⟨(P1.trans P3 (by simp)).trans Y4 (fun x hx => .inr (by simp at hx; omega)), ⟨0, 0, some ⟨w.heap.size + 1, 0, none⟩, cc, sOf m.name, none, 0, []⟩, ?_, rfl, .inr (fun a ha => by injection ha with ha; subst ha; exact Nat.le_succ _), ⟨?_, RdG.nil, hcc2, hcm2, by simp, by simp, by simp⟩, Int.le_refl 0, show (0 : Int) ≤ 4294967295 by decide⟩
  · unfold FD.val
    dsimp only
    rw [sOf_len, hn.out]
    rfl
  · exact RdG.onlyL (mk := .int .u8) RS Y4 (fun a ha _ => by injection ha with ha; subst ha; simp)
set_option maxRecDepth 100000 in
set_option maxHeartbeats 1600000 in
theorem getLang_any (hg : Blk w g 46 m.cells) (hs : m.lang.size ≤ 140737488355328) : Calls Tryz.prog 49 #[.pointer (some ⟨g, 0, none⟩)] w (GetPost w m.dA m.data ⟨4, 0, sOf m.lang, []⟩) := by
  have c : w.cell? ⟨g, 7, none⟩ = some (.string m.lang) := hg.cell 7
  have hlt := hg.lt
  have hne : ¬ g = w.heap.size := by omega
  obtain ⟨w1, hw1⟩ : ∃ w1, w1 = w.alloc (.cells #[.int .i64 0, .int .u32 0, .slice none 0 0, .slice none 0 0] 49) := ⟨_, rfl⟩
  have P1 : Only [] w w1 := by rw [hw1]; exact (Only.refl _ _).alloc _
  have K1 : Blk w1 w.heap.size 49 [.int .i64 0, .int .u32 0, .slice none 0 0, .slice none 0 0] := by rw [hw1]; exact Blk.new w _ _
  have hs1 : w1.heap.size = w.heap.size + 1 := by rw [hw1]; simp
  obtain ⟨cc, w3, hcv, hcc, hcm, P3, RS, hs3⟩ := run_conv_bytes w1 m.lang.data.toList
  have hul : m.lang.data.toList.length = m.lang.size := by simp
  rw [hul] at hcv hcc hcm
  have heta : (⟨m.lang.data.toList.toArray⟩ : ByteArray) = m.lang := Go.Joins.bytes_eta m.lang
  rw [heta] at hcv
  have K3 := K1.only P3 (by simp)
  have g0 : w3.cell? ⟨w.heap.size, 0, none⟩ = some (.int .i64 0) := K3.cell 0
  have g1 : w3.cell? ⟨w.heap.size, 1, none⟩ = some (.int .u32 0) := K3.cell 1
  have g2 : w3.cell? ⟨w.heap.size, 2, none⟩ = some (.slice none 0 0) := K3.cell 2
  have g3 : w3.cell? ⟨w.heap.size, 3, none⟩ = some (.slice none 0 0) := K3.cell 3
  have f0 := K3.frozen 0
  have f1 := K3.frozen 1
  have f2 := K3.frozen 2
  have f3 := K3.frozen 3
  rw [hw1] at hcv
  have hcc2 : (sOf m.lang).length ≤ cc := by rw [sOf_len]; exact hcc
  have hcm2 : cc ≤ maxLen := hcm (by unfold maxLen; omega)
  rw [hs1] at RS
  rw [show (w.alloc (.cells #[.int .i64 0, .int .u32 0, .slice none 0 0, .slice none 0 0] 49)).heap.size = w.heap.size + 1 by simp] at hcv
  obtain ⟨n, hn⟩ : ∃ n, m.lang.size = n := ⟨_, rfl⟩
  rw [hn] at hcv
  replace hcc := hide hcc
  replace hul := hide hul
  replace hn := hide hn
  replace hs1 := hide hs1
  replace hw1 := hide hw1
  replace heta := hide heta
  clear K1 hcm
  go_enter Tryz.func49, Tryz.ntmps49
  go_wp2
  (try simp only [Exit.inBlock, Exit.then])
  have Y4 := W4.only w3 w.heap.size (.int .i64 0) (.int .u32 0) (.slice (some ⟨w.heap.size + 1, 0, none⟩) n cc) (.slice none 0 0)
  refine ret_field (g := w.heap.size) rfl (by rfl) (by rfl) (W4.blk K3 (.int .i64 0) (.int .u32 0) (.slice (some ⟨w.heap.size + 1, 0, none⟩) n cc) (.slice none 0 0)) ?_
  refine ⟨(P1.trans P3 (by simp)).trans Y4 (fun x hx => .inr (by simp at hx; omega)), ⟨0, 0, some ⟨w.heap.size + 1, 0, none⟩, cc, sOf m.lang, none, 0, []⟩, ?_, rfl, .inr (fun a ha => by injection ha with ha; subst ha; exact Nat.le_succ _), ⟨?_, RdG.nil, hcc2, hcm2, by simp, by simp, by simp⟩, Int.le_refl 0, show (0 : Int) ≤ 4294967295 by decide⟩
  · unfold FD.val
    dsimp only
    rw [sOf_len, hn.out]
    rfl
  · exact RdG.onlyL (mk := .int .u8) RS Y4 (fun a ha _ => by injection ha with ha; subst ha; simp)
end
/-- The getter of a part. -/
theorem get_any (j : Nat) (hj : j < 10) : ∃ F : FuncId, pget j = F ∧ (∀ (args : Array Value) (w : World), (callFunc F args).run Tryz.prog w = .ok (.enter F args) w) ∧
    ∀ (w : World) (m : MD) (g : Nat), Blk w g 46 m.cells → m.ok w → m.name.size ≤ 140737488355328 → m.lang.size ≤ 140737488355328 → Calls Tryz.prog F #[.pointer (some ⟨g, 0, none⟩)] w (GetPost w m.dA m.data (partP m j)) := by
  have h : j = 0 ∨ j = 1 ∨ j = 2 ∨ j = 3 ∨ j = 4 ∨ j = 5 ∨ j = 6 ∨ j = 7 ∨ j = 8 ∨ j = 9 := by omega
  rcases h with rfl | rfl | rfl | rfl | rfl | rfl | rfl | rfl | rfl | rfl
  · exact ⟨_, rfl, fun args w => by kernel_rfl, fun w m g hg hm hs hl => getCode_any m g w hg hm.nums.2.2.2.2⟩
  · exact ⟨_, rfl, fun args w => by kernel_rfl, fun w m g hg hm hs hl => getData_any m g w 4 hg hm⟩
  · exact ⟨_, rfl, fun args w => by kernel_rfl, fun w m g hg hm hs hl => getLang_any m g w hg hl⟩
  · exact ⟨_, rfl, fun args w => by kernel_rfl, fun w m g hg hm hs hl => getName_any m g w hg hs⟩
  · exact ⟨_, rfl, fun args w => by kernel_rfl, fun w m g hg hm hs hl => getWant_any m g w hg⟩
  · exact ⟨_, rfl, fun args w => by kernel_rfl, fun w m g hg hm hs hl => getData_any m g w 6 hg hm⟩
  · exact ⟨_, rfl, fun args w => by kernel_rfl, fun w m g hg hm hs hl => getSender_any m g w hg hm.nums.2.1⟩
  · exact ⟨_, rfl, fun args w => by kernel_rfl, fun w m g hg hm hs hl => getWindow_any m g w hg hm.nums.2.2.1⟩
  · exact ⟨_, rfl, fun args w => by kernel_rfl, fun w m g hg hm hs hl => getPacket_any m g w hg hm.nums.2.2.2.1⟩
  · exact ⟨_, rfl, fun args w => by kernel_rfl, fun w m g hg hm hs hl => getChan_any m g w hg hm.nums.1⟩
end Go.Proofs.YtdmjabfjkkjhbaaGreatDoor

namespace Go.Proofs.YtdmjabfjkkjhbaaGreatDoor
set_option linter.all false
open Go.RowKit

def signC (c : UInt8) : Bool := decide (33 ≤ c.toNat) && decide (c.toNat ≤ 126)
/-- A text of so many printable signs. -/
def printOk (s : ByteArray) (least : Nat) : Bool := decide (least ≤ s.size) && decide (s.size ≤ 64) && s.data.toList.all signC
/-- May the name and the language be that a kind has? -/
def fitsP (m : MD) : Bool := if m.kind = 80 ∨ m.kind = 90 ∨ m.kind = 98 then printOk m.name 1 else if m.kind = 1 ∨ m.kind = 92 then printOk m.lang 0 else true
set_option maxRecDepth 100000 in
set_option maxHeartbeats 1600000 in
theorem printable_any (s : ByteArray) (least : Nat) (w : World) (hs : s.size ≤ maxLen) : Calls Tryz.prog 32 #[.string s, .int .i64 (least : Int)] w fun e w' => e = .returned (.bool (printOk s least)) ∧ w = w' := by
  unfold maxLen at hs
  obtain ⟨R, hR⟩ : ∃ R, R = printOk s least := ⟨_, rfl⟩
  rw [← hR]
  replace hR := hide hR
  by_cases h1 : s.size < least
  · have hR0 : R = false := by rw [hR.out]; unfold printOk; rw [decide_eq_false (show ¬ least ≤ s.size by omega)]; rfl
    have i1 : (s.size : Int) < (least : Int) := by omega
    replace hR0 := hide hR0
    go_enter Tryz.func32, Tryz.ntmps32
    go_wp2
    go_ret
    exact ⟨ret_bool hR0.out.symm, rfl⟩
  have i1 : ¬ (s.size : Int) < (least : Int) := by omega
  by_cases h2 : 64 < s.size
  · have hR0 : R = false := by rw [hR.out]; unfold printOk; rw [decide_eq_false (show ¬ s.size ≤ 64 by omega)]; simp
    have i2 : (64 : Int) < (s.size : Int) := by omega
    replace hR0 := hide hR0
    go_enter Tryz.func32, Tryz.ntmps32
    go_wp2
    go_ret
    exact ⟨ret_bool hR0.out.symm, rfl⟩
  have i2 : ¬ (64 : Int) < (s.size : Int) := by omega
  have hR1 : R = s.data.toList.all signC := by rw [hR.out]; unfold printOk; rw [decide_eq_true (show least ≤ s.size by omega), decide_eq_true (show s.size ≤ 64 by omega)]; rfl
  obtain ⟨n, hn⟩ : ∃ n, s.size = n := ⟨_, rfl⟩
  replace hR1 := hide hR1
  replace hn := hide hn
  go_enter Tryz.func32, Tryz.ntmps32
  go_wp2
  go_loop [17] (fun i => ∃ k : Nat, k ≤ s.size ∧ i = .int .i64 k ∧ Hid ((s.data.toList.take k).all signC = true)) (fun i => s.size - (intOf i).toNat)
  case atStart => exact ⟨0, by omega, rfl, hide rfl⟩
  case round =>
    obtain ⟨k, hk, rfl, hg⟩ := hrel
    by_cases hlt : k < s.size
    · have hts := hide (take_snocS s k hlt)
      by_cases hc : signC s[k] = true
      · have hcc := hide hc
        unfold signC at hc
        simp only [Bool.and_eq_true, decide_eq_true_eq] at hc
        obtain ⟨q1, q2⟩ := hc
        go_wp2
        go_round
        case rel => exact ⟨k + 1, by omega, by go_num, hide (by rw [hts.out, List.all_append, hg.out]; simp [hcc.out])⟩
        case measure => simp [intOf]; omega
      · have hf : R = false := by
          rw [hR1.out, Bool.eq_false_iff]
          intro h
          have := List.all_eq_true.1 h s[k] (by
            have : s[k] = s.data.toList[k]'(by simpa using hlt) := rfl
            rw [this]; exact List.getElem_mem _)
          exact hc this
        subst hf
        have hq : s[k].toNat < 33 ∨ 126 < s[k].toNat := by
          unfold signC at hc
          simp at hc
          omega
        clear hR1 hc
        by_cases q1 : s[k].toNat < 33
        · clear hq
          go_wp2
          go_ret
          exact ⟨rfl, rfl⟩
        · have q2 : 126 < s[k].toNat := by omega
          clear hq
          go_wp2
          go_ret
          exact ⟨rfl, rfl⟩
    · obtain rfl : k = s.size := by omega
      have hf : R = true := by
        rw [hR1.out]
        have := hg.out
        rw [List.take_of_length_le (by simp)] at this
        exact this
      replace hf := hide hf
      go_wp2
      go_ret
      exact ⟨ret_bool hf.out.symm, rfl⟩

set_option maxRecDepth 100000 in
set_option maxHeartbeats 1600000 in
theorem fits_any (m : MD) (w : World) (hn : m.name.size ≤ maxLen) (hl : m.lang.size ≤ maxLen) : Calls Tryz.prog 15 #[m.val] w fun e w' => e = .returned (.bool (fitsP m)) ∧ Only [] w w' := by
  obtain ⟨w1, hw1⟩ : ∃ w1, w1 = w.alloc (.cells #[.int .i64 m.kind, .int .u32 m.chan, .int .u32 m.sender, .int .u32 m.window, .int .u32 m.packet, .int .u32 m.code, .string m.name, .string m.lang, .bool m.want, .slice m.dA m.data.length m.dc] 25) := ⟨_, rfl⟩
  have P1 : Only [] w w1 := by rw [hw1]; exact (Only.refl _ _).alloc _
  have PN := printable_any m.name 1 w1 hn
  have PL := printable_any m.lang 0 w1 hl
  obtain ⟨R, hR⟩ : ∃ R, fitsP m = R := ⟨_, rfl⟩
  rw [hR]
  unfold fitsP at hR
  unfold MD.val
  by_cases h80 : m.kind = 80
  · rw [if_pos (by omega)] at hR
    rw [hR] at PN
    rw [h80] at hw1 ⊢
    replace hR := hide hR
    go_enter Tryz.func15, Tryz.ntmps15
    go_wp2_with fail
    rw [← hw1]
    replace hw1 := hide hw1
    go_call PN as e w2 ⟨rfl, rfl⟩
    go_wp2_with fail
    go_ret
    exact ⟨rfl, P1⟩
  by_cases h90 : m.kind = 90
  · rw [if_pos (by omega)] at hR
    rw [hR] at PN
    rw [h90] at hw1 ⊢
    replace hR := hide hR
    go_enter Tryz.func15, Tryz.ntmps15
    go_wp2_with fail
    rw [← hw1]
    replace hw1 := hide hw1
    go_call PN as e w2 ⟨rfl, rfl⟩
    go_wp2_with fail
    go_ret
    exact ⟨rfl, P1⟩
  by_cases h98 : m.kind = 98
  · rw [if_pos (by omega)] at hR
    rw [hR] at PN
    rw [h98] at hw1 ⊢
    replace hR := hide hR
    go_enter Tryz.func15, Tryz.ntmps15
    go_wp2_with fail
    rw [← hw1]
    replace hw1 := hide hw1
    go_call PN as e w2 ⟨rfl, rfl⟩
    go_wp2_with fail
    go_ret
    exact ⟨rfl, P1⟩
  by_cases h1 : m.kind = 1
  · rw [if_neg (by omega), if_pos (by omega)] at hR
    rw [hR] at PL
    rw [h1] at hw1 ⊢
    replace hR := hide hR
    go_enter Tryz.func15, Tryz.ntmps15
    go_wp2_with fail
    rw [← hw1]
    replace hw1 := hide hw1
    go_call PL as e w2 ⟨rfl, rfl⟩
    go_wp2_with fail
    go_ret
    exact ⟨rfl, P1⟩
  by_cases h92 : m.kind = 92
  · rw [if_neg (by omega), if_pos (by omega)] at hR
    rw [hR] at PL
    rw [h92] at hw1 ⊢
    replace hR := hide hR
    go_enter Tryz.func15, Tryz.ntmps15
    go_wp2_with fail
    rw [← hw1]
    replace hw1 := hide hw1
    go_call PL as e w2 ⟨rfl, rfl⟩
    go_wp2_with fail
    go_ret
    exact ⟨rfl, P1⟩
  rw [if_neg (by omega), if_neg (by omega)] at hR
  have e80 : (m.kind == 80) = false := beq_eq_false_iff_ne.2 h80
  have e90 : (m.kind == 90) = false := beq_eq_false_iff_ne.2 h90
  have e98 : (m.kind == 98) = false := beq_eq_false_iff_ne.2 h98
  have e1 : (m.kind == 1) = false := beq_eq_false_iff_ne.2 h1
  have e92 : (m.kind == 92) = false := beq_eq_false_iff_ne.2 h92
  replace hR := hide hR
  go_enter Tryz.func15, Tryz.ntmps15
  go_wp2_with fail
  rw [← hw1]
  replace hw1 := hide hw1
  go_ret
  exact ⟨ret_bool hR.out, P1⟩
end Go.Proofs.YtdmjabfjkkjhbaaGreatDoor
