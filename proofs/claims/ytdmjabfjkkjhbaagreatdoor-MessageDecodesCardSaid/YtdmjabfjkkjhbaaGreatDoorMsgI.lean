/- Layer 3: the fields put into a message; no condition · Layer 3: the putters by the table; the document's answer: is a message more than is looked at; no condition · The document's answer for layer 3: is a message more than is looked at; the same messages are told so; no condition. -/
import Derived.Test.YtdmjabfjkkjhbaaGreatDoorMsgF
namespace Go.Proofs.YtdmjabfjkkjhbaaGreatDoor
set_option linter.all false
open Go.RowKit

/-- string(b), of bytes that are read. -/
theorem conv_rd {w : World} {A : Option Addr} {l : List Int} {c : Nat} (h : RdG (.int .u8) w A l) : (convert 23 9 (.slice A l.length c)).run Tryz.prog w = .ok (.string (strOfNums l)) w := by
  by_cases h0 : 0 < l.length
  · obtain ⟨b, off, rfl, _, hc⟩ := h h0
    exact run_convert_bytes_arg (P := Tryz.prog) (w := w) 23 5 (by kernel_rfl) (by kernel_rfl) b off l.length c l rfl (fun i hi => by
      have hx : l[i]? = some (l[i]'hi) := List.getElem?_eq_getElem hi
      rw [hc i _ hx]
      simp [List.getD, hx]) 9 (by kernel_rfl)
  · obtain rfl : l = [] := List.eq_nil_of_length_eq_zero (by omega)
    cases A with
    | none =>
      have e : (convert 23 9 (.slice none 0 c)).run Tryz.prog w = (Conv.bytesToString (.slice none 0 c)).run Tryz.prog w := by simp [convert, run_underlying Tryz.underlying23, run_underlying Tryz.underlying9, run_underlying Tryz.underlying5]
      rw [show ([] : List Int).length = 0 from rfl, e]
      first | rfl | (simp [Conv.bytesToString, loadCells, loadCellsFrom, strOfNums]; try rfl)
    | some a =>
      have e : (convert 23 9 (.slice (some a) 0 c)).run Tryz.prog w = (Conv.bytesToString (.slice (some a) 0 c)).run Tryz.prog w := by simp [convert, run_underlying Tryz.underlying23, run_underlying Tryz.underlying9, run_underlying Tryz.underlying5]
      rw [show ([] : List Int).length = 0 from rfl, e]
      first | rfl | (simp [Conv.bytesToString, loadCells, loadCellsFrom, strOfNums]; try rfl)
/-- A message into which a part's field is put. -/
def putM (m : MD) (j : Nat) (f : FD) : MD := match j with
  | 0 => { m with code := f.n }
  | 1 => { m with dA := f.tA, dc := f.tc, data := f.text }
  | 2 => { m with lang := strOfNums f.text }
  | 3 => { m with name := strOfNums f.text }
  | 4 => { m with want := f.n == 1 }
  | 5 => { m with dA := f.tA, dc := f.tc, data := f.text }
  | 6 => { m with sender := f.n }
  | 7 => { m with window := f.n }
  | 8 => { m with packet := f.n }
  | _ => { m with chan := f.n }
def PutPost (w : World) (g : Nat) (m : MD) : Ending → World → Prop := fun e w' => e = .returned (.tuple #[]) ∧ Only [g] w w' ∧ Blk w' g 46 m.cells
section
variable (m : MD) (f : FD) (g : Nat) (w : World)
set_option maxRecDepth 100000 in
set_option maxHeartbeats 1600000 in
theorem putCode_any (hg : Blk w g 46 m.cells) : Calls Tryz.prog 46 #[.pointer (some ⟨g, 0, none⟩), f.val] w (PutPost w g (putM m 0 f)) := by
  have c : w.cell? ⟨g, 5, none⟩ = some (.int .u32 m.code) := hg.cell 5
  have fz := hg.frozen 5
  have hlt := hg.lt
  have hne : ¬ g = w.heap.size := by omega
  have hne2 : ¬ w.heap.size = g := by omega
  have hb := (hg.alloc (.cells #[.int .i64 f.kind, .int .u32 f.n, .slice f.tA f.text.length f.tc, .slice f.lA f.list.length f.lc] 49)).set_ 5 (.int .u32 f.n)
  have hb2 := (hg.set_ 5 (.int .u32 f.n)).alloc (.cells #[.int .i64 f.kind, .int .u32 f.n, .slice f.tA f.text.length f.tc, .slice f.lA f.list.length f.lc] 49)
  have hO : Only [g] w ((w.setCell ⟨g, 5, none⟩ (.int .u32 f.n)).alloc (.cells #[.int .i64 f.kind, .int .u32 f.n, .slice f.tA f.text.length f.tc, .slice f.lA f.list.length f.lc] 49)) := ((Only.refl [g] w).setCell (p := ⟨g, 5, none⟩) (.inl (by simp)) _).alloc _
  unfold FD.val
  go_enter Tryz.func46, Tryz.ntmps46
  go_wp2
  go_end0
  exact ⟨rfl, hO, hb2⟩
set_option maxRecDepth 100000 in
set_option maxHeartbeats 1600000 in
theorem putSender_any (hg : Blk w g 46 m.cells) : Calls Tryz.prog 56 #[.pointer (some ⟨g, 0, none⟩), f.val] w (PutPost w g (putM m 6 f)) := by
  have c : w.cell? ⟨g, 2, none⟩ = some (.int .u32 m.sender) := hg.cell 2
  have fz := hg.frozen 2
  have hlt := hg.lt
  have hne : ¬ g = w.heap.size := by omega
  have hne2 : ¬ w.heap.size = g := by omega
  have hb := (hg.alloc (.cells #[.int .i64 f.kind, .int .u32 f.n, .slice f.tA f.text.length f.tc, .slice f.lA f.list.length f.lc] 49)).set_ 2 (.int .u32 f.n)
  have hb2 := (hg.set_ 2 (.int .u32 f.n)).alloc (.cells #[.int .i64 f.kind, .int .u32 f.n, .slice f.tA f.text.length f.tc, .slice f.lA f.list.length f.lc] 49)
  have hO : Only [g] w ((w.setCell ⟨g, 2, none⟩ (.int .u32 f.n)).alloc (.cells #[.int .i64 f.kind, .int .u32 f.n, .slice f.tA f.text.length f.tc, .slice f.lA f.list.length f.lc] 49)) := ((Only.refl [g] w).setCell (p := ⟨g, 2, none⟩) (.inl (by simp)) _).alloc _
  unfold FD.val
  go_enter Tryz.func56, Tryz.ntmps56
  go_wp2
  go_end0
  exact ⟨rfl, hO, hb2⟩
set_option maxRecDepth 100000 in
set_option maxHeartbeats 1600000 in
theorem putWindow_any (hg : Blk w g 46 m.cells) : Calls Tryz.prog 58 #[.pointer (some ⟨g, 0, none⟩), f.val] w (PutPost w g (putM m 7 f)) := by
  have c : w.cell? ⟨g, 3, none⟩ = some (.int .u32 m.window) := hg.cell 3
  have fz := hg.frozen 3
  have hlt := hg.lt
  have hne : ¬ g = w.heap.size := by omega
  have hne2 : ¬ w.heap.size = g := by omega
  have hb := (hg.alloc (.cells #[.int .i64 f.kind, .int .u32 f.n, .slice f.tA f.text.length f.tc, .slice f.lA f.list.length f.lc] 49)).set_ 3 (.int .u32 f.n)
  have hb2 := (hg.set_ 3 (.int .u32 f.n)).alloc (.cells #[.int .i64 f.kind, .int .u32 f.n, .slice f.tA f.text.length f.tc, .slice f.lA f.list.length f.lc] 49)
  have hO : Only [g] w ((w.setCell ⟨g, 3, none⟩ (.int .u32 f.n)).alloc (.cells #[.int .i64 f.kind, .int .u32 f.n, .slice f.tA f.text.length f.tc, .slice f.lA f.list.length f.lc] 49)) := ((Only.refl [g] w).setCell (p := ⟨g, 3, none⟩) (.inl (by simp)) _).alloc _
  unfold FD.val
  go_enter Tryz.func58, Tryz.ntmps58
  go_wp2
  go_end0
  exact ⟨rfl, hO, hb2⟩
set_option maxRecDepth 100000 in
set_option maxHeartbeats 1600000 in
theorem putPacket_any (hg : Blk w g 46 m.cells) : Calls Tryz.prog 60 #[.pointer (some ⟨g, 0, none⟩), f.val] w (PutPost w g (putM m 8 f)) := by
  have c : w.cell? ⟨g, 4, none⟩ = some (.int .u32 m.packet) := hg.cell 4
  have fz := hg.frozen 4
  have hlt := hg.lt
  have hne : ¬ g = w.heap.size := by omega
  have hne2 : ¬ w.heap.size = g := by omega
  have hb := (hg.alloc (.cells #[.int .i64 f.kind, .int .u32 f.n, .slice f.tA f.text.length f.tc, .slice f.lA f.list.length f.lc] 49)).set_ 4 (.int .u32 f.n)
  have hb2 := (hg.set_ 4 (.int .u32 f.n)).alloc (.cells #[.int .i64 f.kind, .int .u32 f.n, .slice f.tA f.text.length f.tc, .slice f.lA f.list.length f.lc] 49)
  have hO : Only [g] w ((w.setCell ⟨g, 4, none⟩ (.int .u32 f.n)).alloc (.cells #[.int .i64 f.kind, .int .u32 f.n, .slice f.tA f.text.length f.tc, .slice f.lA f.list.length f.lc] 49)) := ((Only.refl [g] w).setCell (p := ⟨g, 4, none⟩) (.inl (by simp)) _).alloc _
  unfold FD.val
  go_enter Tryz.func60, Tryz.ntmps60
  go_wp2
  go_end0
  exact ⟨rfl, hO, hb2⟩
set_option maxRecDepth 100000 in
set_option maxHeartbeats 1600000 in
theorem putChan_any (hg : Blk w g 46 m.cells) : Calls Tryz.prog 62 #[.pointer (some ⟨g, 0, none⟩), f.val] w (PutPost w g (putM m 9 f)) := by
  have c : w.cell? ⟨g, 1, none⟩ = some (.int .u32 m.chan) := hg.cell 1
  have fz := hg.frozen 1
  have hlt := hg.lt
  have hne : ¬ g = w.heap.size := by omega
  have hne2 : ¬ w.heap.size = g := by omega
  have hb := (hg.alloc (.cells #[.int .i64 f.kind, .int .u32 f.n, .slice f.tA f.text.length f.tc, .slice f.lA f.list.length f.lc] 49)).set_ 1 (.int .u32 f.n)
  have hb2 := (hg.set_ 1 (.int .u32 f.n)).alloc (.cells #[.int .i64 f.kind, .int .u32 f.n, .slice f.tA f.text.length f.tc, .slice f.lA f.list.length f.lc] 49)
  have hO : Only [g] w ((w.setCell ⟨g, 1, none⟩ (.int .u32 f.n)).alloc (.cells #[.int .i64 f.kind, .int .u32 f.n, .slice f.tA f.text.length f.tc, .slice f.lA f.list.length f.lc] 49)) := ((Only.refl [g] w).setCell (p := ⟨g, 1, none⟩) (.inl (by simp)) _).alloc _
  unfold FD.val
  go_enter Tryz.func62, Tryz.ntmps62
  go_wp2
  go_end0
  exact ⟨rfl, hO, hb2⟩
set_option maxRecDepth 100000 in
set_option maxHeartbeats 1600000 in
theorem putWant_any (hg : Blk w g 46 m.cells) : Calls Tryz.prog 54 #[.pointer (some ⟨g, 0, none⟩), f.val] w (PutPost w g (putM m 4 f)) := by
  have c : w.cell? ⟨g, 8, none⟩ = some (.bool m.want) := hg.cell 8
  have fz := hg.frozen 8
  have hlt := hg.lt
  have hne : ¬ g = w.heap.size := by omega
  have hne2 : ¬ w.heap.size = g := by omega
  have hb := (hg.alloc (.cells #[.int .i64 f.kind, .int .u32 f.n, .slice f.tA f.text.length f.tc, .slice f.lA f.list.length f.lc] 49)).set_ 8 (.bool (f.n == 1))
  have hb2 := (hg.set_ 8 (.bool (f.n == 1))).alloc (.cells #[.int .i64 f.kind, .int .u32 f.n, .slice f.tA f.text.length f.tc, .slice f.lA f.list.length f.lc] 49)
  have hO : Only [g] w ((w.setCell ⟨g, 8, none⟩ (.bool (f.n == 1))).alloc (.cells #[.int .i64 f.kind, .int .u32 f.n, .slice f.tA f.text.length f.tc, .slice f.lA f.list.length f.lc] 49)) := ((Only.refl [g] w).setCell (p := ⟨g, 8, none⟩) (.inl (by simp)) _).alloc _
  unfold FD.val
  go_enter Tryz.func54, Tryz.ntmps54
  go_wp2
  go_end0
  exact ⟨rfl, hO, hb2⟩
set_option maxRecDepth 100000 in
set_option maxHeartbeats 1600000 in
theorem putData_any (hg : Blk w g 46 m.cells) : Calls Tryz.prog 48 #[.pointer (some ⟨g, 0, none⟩), f.val] w (PutPost w g (putM m 1 f)) := by
  have c : w.cell? ⟨g, 9, none⟩ = some (.slice m.dA m.data.length m.dc) := hg.cell 9
  have fz := hg.frozen 9
  have hlt := hg.lt
  have hne : ¬ g = w.heap.size := by omega
  have hne2 : ¬ w.heap.size = g := by omega
  have hb := (hg.alloc (.cells #[.int .i64 f.kind, .int .u32 f.n, .slice f.tA f.text.length f.tc, .slice f.lA f.list.length f.lc] 49)).set_ 9 (.slice f.tA f.text.length f.tc)
  have hb2 := (hg.set_ 9 (.slice f.tA f.text.length f.tc)).alloc (.cells #[.int .i64 f.kind, .int .u32 f.n, .slice f.tA f.text.length f.tc, .slice f.lA f.list.length f.lc] 49)
  have hO : Only [g] w ((w.setCell ⟨g, 9, none⟩ (.slice f.tA f.text.length f.tc)).alloc (.cells #[.int .i64 f.kind, .int .u32 f.n, .slice f.tA f.text.length f.tc, .slice f.lA f.list.length f.lc] 49)) := ((Only.refl [g] w).setCell (p := ⟨g, 9, none⟩) (.inl (by simp)) _).alloc _
  unfold FD.val
  go_enter Tryz.func48, Tryz.ntmps48
  go_wp2
  go_end0
  exact ⟨rfl, hO, hb2⟩
set_option maxRecDepth 100000 in
set_option maxHeartbeats 1600000 in
theorem putName_any (hg : Blk w g 46 m.cells) (hf : f.ok w) : Calls Tryz.prog 52 #[.pointer (some ⟨g, 0, none⟩), f.val] w (PutPost w g (putM m 3 f)) := by
  have c : w.cell? ⟨g, 6, none⟩ = some (.string m.name) := hg.cell 6
  have fz := hg.frozen 6
  have hlt := hg.lt
  have hne : ¬ g = w.heap.size := by omega
  have hne2 : ¬ w.heap.size = g := by omega
  have hb2 := (hg.set_ 6 (.string (strOfNums f.text))).alloc (.cells #[.int .i64 f.kind, .int .u32 f.n, .slice f.tA f.text.length f.tc, .slice f.lA f.list.length f.lc] 49)
  have hO : Only [g] w ((w.setCell ⟨g, 6, none⟩ (.string (strOfNums f.text))).alloc (.cells #[.int .i64 f.kind, .int .u32 f.n, .slice f.tA f.text.length f.tc, .slice f.lA f.list.length f.lc] 49)) := ((Only.refl [g] w).setCell (p := ⟨g, 6, none⟩) (.inl (by simp)) _).alloc _
  have R := hf.text.only ((Only.refl [] w).alloc (.cells #[.int .i64 f.kind, .int .u32 f.n, .slice f.tA f.text.length f.tc, .slice f.lA f.list.length f.lc] 49))
  have kc : (convert 23 9 (.slice f.tA f.text.length f.tc)).run Tryz.prog (w.alloc (.cells #[.int .i64 f.kind, .int .u32 f.n, .slice f.tA f.text.length f.tc, .slice f.lA f.list.length f.lc] 49)) = .ok (.string (strOfNums f.text)) (w.alloc (.cells #[.int .i64 f.kind, .int .u32 f.n, .slice f.tA f.text.length f.tc, .slice f.lA f.list.length f.lc] 49)) := conv_rd R
  unfold FD.val
  go_enter Tryz.func52, Tryz.ntmps52
  go_wp2
  go_end0
  exact ⟨rfl, hO, hb2⟩
set_option maxRecDepth 100000 in
set_option maxHeartbeats 1600000 in
theorem putLang_any (hg : Blk w g 46 m.cells) (hf : f.ok w) : Calls Tryz.prog 50 #[.pointer (some ⟨g, 0, none⟩), f.val] w (PutPost w g (putM m 2 f)) := by
  have c : w.cell? ⟨g, 7, none⟩ = some (.string m.lang) := hg.cell 7
  have fz := hg.frozen 7
  have hlt := hg.lt
  have hne : ¬ g = w.heap.size := by omega
  have hne2 : ¬ w.heap.size = g := by omega
  have hb2 := (hg.set_ 7 (.string (strOfNums f.text))).alloc (.cells #[.int .i64 f.kind, .int .u32 f.n, .slice f.tA f.text.length f.tc, .slice f.lA f.list.length f.lc] 49)
  have hO : Only [g] w ((w.setCell ⟨g, 7, none⟩ (.string (strOfNums f.text))).alloc (.cells #[.int .i64 f.kind, .int .u32 f.n, .slice f.tA f.text.length f.tc, .slice f.lA f.list.length f.lc] 49)) := ((Only.refl [g] w).setCell (p := ⟨g, 7, none⟩) (.inl (by simp)) _).alloc _
  have R := hf.text.only ((Only.refl [] w).alloc (.cells #[.int .i64 f.kind, .int .u32 f.n, .slice f.tA f.text.length f.tc, .slice f.lA f.list.length f.lc] 49))
  have kc : (convert 23 9 (.slice f.tA f.text.length f.tc)).run Tryz.prog (w.alloc (.cells #[.int .i64 f.kind, .int .u32 f.n, .slice f.tA f.text.length f.tc, .slice f.lA f.list.length f.lc] 49)) = .ok (.string (strOfNums f.text)) (w.alloc (.cells #[.int .i64 f.kind, .int .u32 f.n, .slice f.tA f.text.length f.tc, .slice f.lA f.list.length f.lc] 49)) := conv_rd R
  unfold FD.val
  go_enter Tryz.func50, Tryz.ntmps50
  go_wp2
  go_end0
  exact ⟨rfl, hO, hb2⟩
end
end Go.Proofs.YtdmjabfjkkjhbaaGreatDoor

namespace Go.Proofs.YtdmjabfjkkjhbaaGreatDoor
set_option linter.all false
open Go.RowKit

/-- The putter of a part. -/
theorem put_any (j : Nat) (hj : j < 10) : ∃ F : FuncId, pput j = F ∧ (∀ (args : Array Value) (w : World), (callFunc F args).run Tryz.prog w = .ok (.enter F args) w) ∧
    ∀ (w : World) (m : MD) (f : FD) (g : Nat), Blk w g 46 m.cells → f.ok w → Calls Tryz.prog F #[.pointer (some ⟨g, 0, none⟩), f.val] w (PutPost w g (putM m j f)) := by
  have h : j = 0 ∨ j = 1 ∨ j = 2 ∨ j = 3 ∨ j = 4 ∨ j = 5 ∨ j = 6 ∨ j = 7 ∨ j = 8 ∨ j = 9 := by omega
  rcases h with rfl | rfl | rfl | rfl | rfl | rfl | rfl | rfl | rfl | rfl
  · exact ⟨_, rfl, fun args w => by kernel_rfl, fun w m f g hg hf => putCode_any m f g w hg⟩
  · exact ⟨_, rfl, fun args w => by kernel_rfl, fun w m f g hg hf => putData_any m f g w hg⟩
  · exact ⟨_, rfl, fun args w => by kernel_rfl, fun w m f g hg hf => putLang_any m f g w hg hf⟩
  · exact ⟨_, rfl, fun args w => by kernel_rfl, fun w m f g hg hf => putName_any m f g w hg hf⟩
  · exact ⟨_, rfl, fun args w => by kernel_rfl, fun w m f g hg hf => putWant_any m f g w hg⟩
  · exact ⟨_, rfl, fun args w => by kernel_rfl, fun w m f g hg hf => putData_any m f g w hg⟩
  · exact ⟨_, rfl, fun args w => by kernel_rfl, fun w m f g hg hf => putSender_any m f g w hg⟩
  · exact ⟨_, rfl, fun args w => by kernel_rfl, fun w m f g hg hf => putWindow_any m f g w hg⟩
  · exact ⟨_, rfl, fun args w => by kernel_rfl, fun w m f g hg hf => putPacket_any m f g w hg⟩
  · exact ⟨_, rfl, fun args w => by kernel_rfl, fun w m f g hg hf => putChan_any m f g w hg⟩
end Go.Proofs.YtdmjabfjkkjhbaaGreatDoor

namespace Go.Proofs.YtdmjabfjkkjhbaaGreatDoor
set_option linter.all false
open Go.RowKit

def MGreatPost (m : MD) (w : World) : Ending → World → Prop := fun e w' => Only [] w w' ∧ ∃ b, e = .returned (.bool b) ∧ (b = false → m.data.length ≤ 100000 ∧ m.name.size ≤ 10000 ∧ m.lang.size ≤ 10000)
set_option maxRecDepth 100000 in
set_option maxHeartbeats 1600000 in
theorem mgreat_any (m : MD) (w : World) : Calls Tryz.prog 6 #[m.val] w (MGreatPost m w) := by
  have O : Only [] w (w.alloc (.cells #[.int .i64 m.kind, .int .u32 m.chan, .int .u32 m.sender, .int .u32 m.window, .int .u32 m.packet, .int .u32 m.code, .string m.name, .string m.lang, .bool m.want, .slice m.dA m.data.length m.dc] 25)) := (Only.refl _ _).alloc _
  unfold MD.val
  by_cases h1 : (100000 : Int) < (m.data.length : Int)
  · go_enter Tryz.func6, Tryz.ntmps6
    go_wp2_with fail
    go_ret
    exact ⟨O, true, rfl, fun h => by cases h⟩
  by_cases h2 : (10000 : Int) < (m.name.size : Int)
  · go_enter Tryz.func6, Tryz.ntmps6
    go_wp2_with fail
    go_ret
    exact ⟨O, true, rfl, fun h => by cases h⟩
  by_cases h3 : (10000 : Int) < (m.lang.size : Int)
  · go_enter Tryz.func6, Tryz.ntmps6
    go_wp2_with fail
    go_ret
    exact ⟨O, true, rfl, fun h => by cases h⟩
  have hfin : m.data.length ≤ 100000 ∧ m.name.size ≤ 10000 ∧ m.lang.size ≤ 10000 := ⟨by omega, by omega, by omega⟩
  replace hfin := hide hfin
  go_enter Tryz.func6, Tryz.ntmps6
  go_wp2_with fail
  go_ret
  exact ⟨O, false, rfl, fun _ => hfin.out⟩

set_option maxRecDepth 100000 in
set_option maxHeartbeats 3200000 in
theorem msame_true (a b : MD) (w : World) (ha : a.ok w) (hb : b.ok w) (h0 : b.kind = a.kind) (h1 : b.chan = a.chan) (h2 : b.sender = a.sender) (h3 : b.window = a.window) (h4 : b.packet = a.packet) (h5 : b.code = a.code) (h6 : b.name = a.name) (h7 : b.lang = a.lang) (h8 : b.want = a.want) (h9 : b.data = a.data) :
    Calls Tryz.prog 11 #[a.val, b.val] w fun e w' => e = .returned (.bool true) ∧ Only [] w w' := by
  obtain ⟨k0, k1, k2, k3, k4, k5, k6, k7, k8, dA, dc, d⟩ := a
  obtain ⟨l0, l1, l2, l3, l4, l5, l6, l7, l8, eA, ec, e⟩ := b
  dsimp only at h0 h1 h2 h3 h4 h5 h6 h7 h8 h9
  subst h0 h1 h2 h3 h4 h5 h6 h7 h8 h9
  obtain ⟨w2, hw2⟩ : ∃ w2, w2 = (w.alloc (.cells #[.int .i64 l0, .int .u32 l1, .int .u32 l2, .int .u32 l3, .int .u32 l4, .int .u32 l5, .string l6, .string l7, .bool l8, .slice dA e.length dc] 25)).alloc (.cells #[.int .i64 l0, .int .u32 l1, .int .u32 l2, .int .u32 l3, .int .u32 l4, .int .u32 l5, .string l6, .string l7, .bool l8, .slice eA e.length ec] 25) := ⟨_, rfl⟩
  have P2 : Only [] w w2 := by rw [hw2]; exact ((Only.refl _ _).alloc _).alloc _
  have q1 := ha.dle
  have q2 := ha.dmax
  dsimp only at q1 q2
  have BT := bytes_any w2 dA eA e e dc ec (ha.data.only P2) (hb.data.only P2) (by omega) (by omega)
  rw [show eqB e e = true by simp [eqB]] at BT
  unfold MD.val
  dsimp only
  clear q1 q2 ha hb
  go_enter Tryz.func11, Tryz.ntmps11
  go_wp2_with fail
  rw [← hw2]
  replace hw2 := hide hw2
  go_call BT as e' w3 ⟨rfl, P3⟩
  go_wp2_with fail
  go_ret
  exact ⟨rfl, P2.trans P3 (by simp)⟩
end Go.Proofs.YtdmjabfjkkjhbaaGreatDoor
