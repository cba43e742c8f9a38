/- Layer 3: the fields put into a message; no condition. -/
import Derived.Test.YtdmjabfjkkjhbaaDoorMsgF
namespace Go.Proofs.YtdmjabfjkkjhbaaDoor
set_option linter.all false
open Go.RowKit

/-- string(b), of bytes that are read. -/
theorem conv_rd {w : World} {A : Option Addr} {l : List Int} {c : Nat} (h : RdG (.int .u8) w A l) : (convert 23 9 (.slice A l.length c)).run Tryd.prog w = .ok (.string (strOfNums l)) w := by
  by_cases h0 : 0 < l.length
  · obtain ⟨b, off, rfl, _, hc⟩ := h h0
    exact run_convert_bytes_arg (P := Tryd.prog) (w := w) 23 5 (by kernel_rfl) (by kernel_rfl) b off l.length c l rfl (fun i hi => by
      have hx : l[i]? = some (l[i]'hi) := List.getElem?_eq_getElem hi
      rw [hc i _ hx]
      simp [List.getD, hx]) 9 (by kernel_rfl)
  · obtain rfl : l = [] := List.eq_nil_of_length_eq_zero (by omega)
    cases A with
    | none =>
      have e : (convert 23 9 (.slice none 0 c)).run Tryd.prog w = (Conv.bytesToString (.slice none 0 c)).run Tryd.prog w := by simp [convert, run_underlying Tryd.underlying23, run_underlying Tryd.underlying9, run_underlying Tryd.underlying5]
      rw [show ([] : List Int).length = 0 from rfl, e]
      first | rfl | (simp [Conv.bytesToString, loadCells, loadCellsFrom, strOfNums]; try rfl)
    | some a =>
      have e : (convert 23 9 (.slice (some a) 0 c)).run Tryd.prog w = (Conv.bytesToString (.slice (some a) 0 c)).run Tryd.prog w := by simp [convert, run_underlying Tryd.underlying23, run_underlying Tryd.underlying9, run_underlying Tryd.underlying5]
      rw [show ([] : List Int).length = 0 from rfl, e]
      first | rfl | (simp [Conv.bytesToString, loadCells, loadCellsFrom, strOfNums]; try rfl)
/-- A message into which a part's field is put. -/
def putM (m : MD) (j : Nat) (f : FD) : MD := match j with
  | 0 => { m with code := f.n }
  | 1 => { m with dA := f.tA, dc := f.tc, data := f.text }
  | 2 => { m with lang := strOfNums f.text }
  | 3 => { m with name := strOfNums f.text }
  | 4 => { m with want := f.n == 1 }
  | 5 => { m with dA := f.tA, dc := f.tc, data := f.text }
  | 6 => { m with sender := f.n }
  | 7 => { m with window := f.n }
  | 8 => { m with packet := f.n }
  | _ => { m with chan := f.n }
def PutPost (w : World) (g : Nat) (m : MD) : Ending → World → Prop := fun e w' => e = .returned (.tuple #[]) ∧ Only [g] w w' ∧ Blk w' g 81 m.cells
section
variable (m : MD) (f : FD) (g : Nat) (w : World)
set_option maxRecDepth 100000 in
set_option maxHeartbeats 1600000 in
theorem putCode_any (hg : Blk w g 81 m.cells) : Calls Tryd.prog 82 #[.pointer (some ⟨g, 0, none⟩), f.val] w (PutPost w g (putM m 0 f)) := by
  have c : w.cell? ⟨g, 5, none⟩ = some (.int .u32 m.code) := hg.cell 5
  have fz := hg.frozen 5
  have hlt := hg.lt
  have hne : ¬ g = w.heap.size := by omega
  have hne2 : ¬ w.heap.size = g := by omega
  have hb := (hg.alloc (.cells #[.int .i64 f.kind, .int .u32 f.n, .slice f.tA f.text.length f.tc, .slice f.lA f.list.length f.lc] 35)).set_ 5 (.int .u32 f.n)
  have hb2 := (hg.set_ 5 (.int .u32 f.n)).alloc (.cells #[.int .i64 f.kind, .int .u32 f.n, .slice f.tA f.text.length f.tc, .slice f.lA f.list.length f.lc] 35)
  have hO : Only [g] w ((w.setCell ⟨g, 5, none⟩ (.int .u32 f.n)).alloc (.cells #[.int .i64 f.kind, .int .u32 f.n, .slice f.tA f.text.length f.tc, .slice f.lA f.list.length f.lc] 35)) := ((Only.refl [g] w).setCell (p := ⟨g, 5, none⟩) (.inl (by simp)) _).alloc _
  unfold FD.val
  go_enter Tryd.func82, Tryd.ntmps82
  go_wp2
  go_end0
  exact ⟨rfl, hO, hb2⟩
set_option maxRecDepth 100000 in
set_option maxHeartbeats 1600000 in
theorem putSender_any (hg : Blk w g 81 m.cells) : Calls Tryd.prog 92 #[.pointer (some ⟨g, 0, none⟩), f.val] w (PutPost w g (putM m 6 f)) := by
  have c : w.cell? ⟨g, 2, none⟩ = some (.int .u32 m.sender) := hg.cell 2
  have fz := hg.frozen 2
  have hlt := hg.lt
  have hne : ¬ g = w.heap.size := by omega
  have hne2 : ¬ w.heap.size = g := by omega
  have hb := (hg.alloc (.cells #[.int .i64 f.kind, .int .u32 f.n, .slice f.tA f.text.length f.tc, .slice f.lA f.list.length f.lc] 35)).set_ 2 (.int .u32 f.n)
  have hb2 := (hg.set_ 2 (.int .u32 f.n)).alloc (.cells #[.int .i64 f.kind, .int .u32 f.n, .slice f.tA f.text.length f.tc, .slice f.lA f.list.length f.lc] 35)
  have hO : Only [g] w ((w.setCell ⟨g, 2, none⟩ (.int .u32 f.n)).alloc (.cells #[.int .i64 f.kind, .int .u32 f.n, .slice f.tA f.text.length f.tc, .slice f.lA f.list.length f.lc] 35)) := ((Only.refl [g] w).setCell (p := ⟨g, 2, none⟩) (.inl (by simp)) _).alloc _
  unfold FD.val
  go_enter Tryd.func92, Tryd.ntmps92
  go_wp2
  go_end0
  exact ⟨rfl, hO, hb2⟩
set_option maxRecDepth 100000 in
set_option maxHeartbeats 1600000 in
theorem putWindow_any (hg : Blk w g 81 m.cells) : Calls Tryd.prog 94 #[.pointer (some ⟨g, 0, none⟩), f.val] w (PutPost w g (putM m 7 f)) := by
  have c : w.cell? ⟨g, 3, none⟩ = some (.int .u32 m.window) := hg.cell 3
  have fz := hg.frozen 3
  have hlt := hg.lt
  have hne : ¬ g = w.heap.size := by omega
  have hne2 : ¬ w.heap.size = g := by omega
  have hb := (hg.alloc (.cells #[.int .i64 f.kind, .int .u32 f.n, .slice f.tA f.text.length f.tc, .slice f.lA f.list.length f.lc] 35)).set_ 3 (.int .u32 f.n)
  have hb2 := (hg.set_ 3 (.int .u32 f.n)).alloc (.cells #[.int .i64 f.kind, .int .u32 f.n, .slice f.tA f.text.length f.tc, .slice f.lA f.list.length f.lc] 35)
  have hO : Only [g] w ((w.setCell ⟨g, 3, none⟩ (.int .u32 f.n)).alloc (.cells #[.int .i64 f.kind, .int .u32 f.n, .slice f.tA f.text.length f.tc, .slice f.lA f.list.length f.lc] 35)) := ((Only.refl [g] w).setCell (p := ⟨g, 3, none⟩) (.inl (by simp)) _).alloc _
  unfold FD.val
  go_enter Tryd.func94, Tryd.ntmps94
  go_wp2
  go_end0
  exact ⟨rfl, hO, hb2⟩
set_option maxRecDepth 100000 in
set_option maxHeartbeats 1600000 in
theorem putPacket_any (hg : Blk w g 81 m.cells) : Calls Tryd.prog 96 #[.pointer (some ⟨g, 0, none⟩), f.val] w (PutPost w g (putM m 8 f)) := by
  have c : w.cell? ⟨g, 4, none⟩ = some (.int .u32 m.packet) := hg.cell 4
  have fz := hg.frozen 4
  have hlt := hg.lt
  have hne : ¬ g = w.heap.size := by omega
  have hne2 : ¬ w.heap.size = g := by omega
  have hb := (hg.alloc (.cells #[.int .i64 f.kind, .int .u32 f.n, .slice f.tA f.text.length f.tc, .slice f.lA f.list.length f.lc] 35)).set_ 4 (.int .u32 f.n)
  have hb2 := (hg.set_ 4 (.int .u32 f.n)).alloc (.cells #[.int .i64 f.kind, .int .u32 f.n, .slice f.tA f.text.length f.tc, .slice f.lA f.list.length f.lc] 35)
  have hO : Only [g] w ((w.setCell ⟨g, 4, none⟩ (.int .u32 f.n)).alloc (.cells #[.int .i64 f.kind, .int .u32 f.n, .slice f.tA f.text.length f.tc, .slice f.lA f.list.length f.lc] 35)) := ((Only.refl [g] w).setCell (p := ⟨g, 4, none⟩) (.inl (by simp)) _).alloc _
  unfold FD.val
  go_enter Tryd.func96, Tryd.ntmps96
  go_wp2
  go_end0
  exact ⟨rfl, hO, hb2⟩
set_option maxRecDepth 100000 in
set_option maxHeartbeats 1600000 in
theorem putChan_any (hg : Blk w g 81 m.cells) : Calls Tryd.prog 98 #[.pointer (some ⟨g, 0, none⟩), f.val] w (PutPost w g (putM m 9 f)) := by
  have c : w.cell? ⟨g, 1, none⟩ = some (.int .u32 m.chan) := hg.cell 1
  have fz := hg.frozen 1
  have hlt := hg.lt
  have hne : ¬ g = w.heap.size := by omega
  have hne2 : ¬ w.heap.size = g := by omega
  have hb := (hg.alloc (.cells #[.int .i64 f.kind, .int .u32 f.n, .slice f.tA f.text.length f.tc, .slice f.lA f.list.length f.lc] 35)).set_ 1 (.int .u32 f.n)
  have hb2 := (hg.set_ 1 (.int .u32 f.n)).alloc (.cells #[.int .i64 f.kind, .int .u32 f.n, .slice f.tA f.text.length f.tc, .slice f.lA f.list.length f.lc] 35)
  have hO : Only [g] w ((w.setCell ⟨g, 1, none⟩ (.int .u32 f.n)).alloc (.cells #[.int .i64 f.kind, .int .u32 f.n, .slice f.tA f.text.length f.tc, .slice f.lA f.list.length f.lc] 35)) := ((Only.refl [g] w).setCell (p := ⟨g, 1, none⟩) (.inl (by simp)) _).alloc _
  unfold FD.val
  go_enter Tryd.func98, Tryd.ntmps98
  go_wp2
  go_end0
  exact ⟨rfl, hO, hb2⟩
set_option maxRecDepth 100000 in
set_option maxHeartbeats 1600000 in
theorem putWant_any (hg : Blk w g 81 m.cells) : Calls Tryd.prog 90 #[.pointer (some ⟨g, 0, none⟩), f.val] w (PutPost w g (putM m 4 f)) := by
  have c : w.cell? ⟨g, 8, none⟩ = some (.bool m.want) := hg.cell 8
  have fz := hg.frozen 8
  have hlt := hg.lt
  have hne : ¬ g = w.heap.size := by omega
  have hne2 : ¬ w.heap.size = g := by omega
  have hb := (hg.alloc (.cells #[.int .i64 f.kind, .int .u32 f.n, .slice f.tA f.text.length f.tc, .slice f.lA f.list.length f.lc] 35)).set_ 8 (.bool (f.n == 1))
  have hb2 := (hg.set_ 8 (.bool (f.n == 1))).alloc (.cells #[.int .i64 f.kind, .int .u32 f.n, .slice f.tA f.text.length f.tc, .slice f.lA f.list.length f.lc] 35)
  have hO : Only [g] w ((w.setCell ⟨g, 8, none⟩ (.bool (f.n == 1))).alloc (.cells #[.int .i64 f.kind, .int .u32 f.n, .slice f.tA f.text.length f.tc, .slice f.lA f.list.length f.lc] 35)) := ((Only.refl [g] w).setCell (p := ⟨g, 8, none⟩) (.inl (by simp)) _).alloc _
  unfold FD.val
  go_enter Tryd.func90, Tryd.ntmps90
  go_wp2
  go_end0
  exact ⟨rfl, hO, hb2⟩
set_option maxRecDepth 100000 in
set_option maxHeartbeats 1600000 in
theorem putData_any (hg : Blk w g 81 m.cells) : Calls Tryd.prog 84 #[.pointer (some ⟨g, 0, none⟩), f.val] w (PutPost w g (putM m 1 f)) := by
  have c : w.cell? ⟨g, 9, none⟩ = some (.slice m.dA m.data.length m.dc) := hg.cell 9
  have fz := hg.frozen 9
  have hlt := hg.lt
  have hne : ¬ g = w.heap.size := by omega
  have hne2 : ¬ w.heap.size = g := by omega
  have hb := (hg.alloc (.cells #[.int .i64 f.kind, .int .u32 f.n, .slice f.tA f.text.length f.tc, .slice f.lA f.list.length f.lc] 35)).set_ 9 (.slice f.tA f.text.length f.tc)
  have hb2 := (hg.set_ 9 (.slice f.tA f.text.length f.tc)).alloc (.cells #[.int .i64 f.kind, .int .u32 f.n, .slice f.tA f.text.length f.tc, .slice f.lA f.list.length f.lc] 35)
  have hO : Only [g] w ((w.setCell ⟨g, 9, none⟩ (.slice f.tA f.text.length f.tc)).alloc (.cells #[.int .i64 f.kind, .int .u32 f.n, .slice f.tA f.text.length f.tc, .slice f.lA f.list.length f.lc] 35)) := ((Only.refl [g] w).setCell (p := ⟨g, 9, none⟩) (.inl (by simp)) _).alloc _
  unfold FD.val
  go_enter Tryd.func84, Tryd.ntmps84
  go_wp2
  go_end0
  exact ⟨rfl, hO, hb2⟩
set_option maxRecDepth 100000 in
set_option maxHeartbeats 1600000 in
theorem putName_any (hg : Blk w g 81 m.cells) (hf : f.ok w) : Calls Tryd.prog 88 #[.pointer (some ⟨g, 0, none⟩), f.val] w (PutPost w g (putM m 3 f)) := by
  have c : w.cell? ⟨g, 6, none⟩ = some (.string m.name) := hg.cell 6
  have fz := hg.frozen 6
  have hlt := hg.lt
  have hne : ¬ g = w.heap.size := by omega
  have hne2 : ¬ w.heap.size = g := by omega
  have hb2 := (hg.set_ 6 (.string (strOfNums f.text))).alloc (.cells #[.int .i64 f.kind, .int .u32 f.n, .slice f.tA f.text.length f.tc, .slice f.lA f.list.length f.lc] 35)
  have hO : Only [g] w ((w.setCell ⟨g, 6, none⟩ (.string (strOfNums f.text))).alloc (.cells #[.int .i64 f.kind, .int .u32 f.n, .slice f.tA f.text.length f.tc, .slice f.lA f.list.length f.lc] 35)) := ((Only.refl [g] w).setCell (p := ⟨g, 6, none⟩) (.inl (by simp)) _).alloc _
  have R := hf.text.only ((Only.refl [] w).alloc (.cells #[.int .i64 f.kind, .int .u32 f.n, .slice f.tA f.text.length f.tc, .slice f.lA f.list.length f.lc] 35))
  have kc : (convert 23 9 (.slice f.tA f.text.length f.tc)).run Tryd.prog (w.alloc (.cells #[.int .i64 f.kind, .int .u32 f.n, .slice f.tA f.text.length f.tc, .slice f.lA f.list.length f.lc] 35)) = .ok (.string (strOfNums f.text)) (w.alloc (.cells #[.int .i64 f.kind, .int .u32 f.n, .slice f.tA f.text.length f.tc, .slice f.lA f.list.length f.lc] 35)) := conv_rd R
  unfold FD.val
  go_enter Tryd.func88, Tryd.ntmps88
  go_wp2
  go_end0
  exact ⟨rfl, hO, hb2⟩
set_option maxRecDepth 100000 in
set_option maxHeartbeats 1600000 in
theorem putLang_any (hg : Blk w g 81 m.cells) (hf : f.ok w) : Calls Tryd.prog 86 #[.pointer (some ⟨g, 0, none⟩), f.val] w (PutPost w g (putM m 2 f)) := by
  have c : w.cell? ⟨g, 7, none⟩ = some (.string m.lang) := hg.cell 7
  have fz := hg.frozen 7
  have hlt := hg.lt
  have hne : ¬ g = w.heap.size := by omega
  have hne2 : ¬ w.heap.size = g := by omega
  have hb2 := (hg.set_ 7 (.string (strOfNums f.text))).alloc (.cells #[.int .i64 f.kind, .int .u32 f.n, .slice f.tA f.text.length f.tc, .slice f.lA f.list.length f.lc] 35)
  have hO : Only [g] w ((w.setCell ⟨g, 7, none⟩ (.string (strOfNums f.text))).alloc (.cells #[.int .i64 f.kind, .int .u32 f.n, .slice f.tA f.text.length f.tc, .slice f.lA f.list.length f.lc] 35)) := ((Only.refl [g] w).setCell (p := ⟨g, 7, none⟩) (.inl (by simp)) _).alloc _
  have R := hf.text.only ((Only.refl [] w).alloc (.cells #[.int .i64 f.kind, .int .u32 f.n, .slice f.tA f.text.length f.tc, .slice f.lA f.list.length f.lc] 35))
  have kc : (convert 23 9 (.slice f.tA f.text.length f.tc)).run Tryd.prog (w.alloc (.cells #[.int .i64 f.kind, .int .u32 f.n, .slice f.tA f.text.length f.tc, .slice f.lA f.list.length f.lc] 35)) = .ok (.string (strOfNums f.text)) (w.alloc (.cells #[.int .i64 f.kind, .int .u32 f.n, .slice f.tA f.text.length f.tc, .slice f.lA f.list.length f.lc] 35)) := conv_rd R
  unfold FD.val
  go_enter Tryd.func86, Tryd.ntmps86
  go_wp2
  go_end0
  exact ⟨rfl, hO, hb2⟩
end
end Go.Proofs.YtdmjabfjkkjhbaaDoor
