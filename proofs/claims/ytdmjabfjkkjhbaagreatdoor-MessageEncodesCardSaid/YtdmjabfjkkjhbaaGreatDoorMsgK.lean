/- Layer 3, the document's answer: Own (a message with the fields of its kind alone); no condition. -/
import Derived.Test.YtdmjabfjkkjhbaaGreatDoorMsgL
import Derived.BigRegion
namespace Go.Proofs.YtdmjabfjkkjhbaaGreatDoor
set_option linter.all false
open Go.RowKit

theorem results_msg {fn : Func} {p : Tmp} (h : fn.results = #[.cell p 25]) (tmps : Array Value) (w : World) (g : Nat) (cs : Array Value) (hs : cs.size = 10)
    (hp : tmps.getD p undef = .pointer (some ⟨g, 0, none⟩)) (hg : w.heap[g]? = some (.cells cs 25 (0, 0))) :
    (results fn tmps).run Tryz.prog w = .ok (.agg cs) w := by
  have hp' : tmps[p]?.getD undef = .pointer (some ⟨g, 0, none⟩) := by simpa using hp
  simp [results, h, hp', asAddr, run_loadVar_row w g 25 25 cs (0, 0) _ hg Tryz.underlying25 rfl (by rw [hs]; kernel_rfl)]
theorem ret_msg {fn : Func} {p : Tmp} {R : Ending → World → Prop} {a : Act} {w : World} {g : Nat} (m : MD) (h : fn.results = #[.cell p 25]) (hp : a.tmps.getD p undef = .pointer (some ⟨g, 0, none⟩)) (hd : a.defers = [])
    (hg : Blk w g 25 m.cells) (hR : R (.returned m.val) w) : bodyPost Tryz.prog fn R .ret a w :=
  bodyPost_ret (results_msg h _ w g m.cells.toArray rfl hp hg) hd hR
theorem own_start (w : World) (m : MD) (k : Int) (W : World) (h : W = ((w.alloc (.cells m.cells.toArray 25)).alloc (.cells zeroM.cells.toArray 25)).alloc (.cells (firstM k).cells.toArray 25)) :
    Only [] w W ∧ Blk W w.heap.size 25 m.cells ∧ Blk W (w.heap.size + 1) 25 zeroM.cells ∧ Blk W (w.heap.size + 1 + 1) 25 (firstM k).cells := by
  subst h
  have e1 : (w.alloc (.cells m.cells.toArray 25)).heap.size = w.heap.size + 1 := by simp
  have e2 : ((w.alloc (.cells m.cells.toArray 25)).alloc (.cells zeroM.cells.toArray 25)).heap.size = w.heap.size + 1 + 1 := by simp
  refine ⟨(((Only.refl [] w).alloc _).alloc _).alloc _, ((Blk.new w _ _).alloc _).alloc _, ?_, ?_⟩
  · have := (Blk.new (w.alloc (.cells m.cells.toArray 25)) 25 zeroM.cells).alloc (.cells (firstM k).cells.toArray 25)
    rw [e1] at this
    exact this
  · have := Blk.new ((w.alloc (.cells m.cells.toArray 25)).alloc (.cells zeroM.cells.toArray 25)) 25 (firstM k).cells
    rw [e2] at this
    exact this
theorem own_end (w : World) (a1 a3 : Array Value) (c2 : List Value) : Only [] w (((w.alloc (.cells a1 25)).alloc (.cells c2.toArray 25)).alloc (.cells a3 25)) ∧ Blk (((w.alloc (.cells a1 25)).alloc (.cells c2.toArray 25)).alloc (.cells a3 25)) (w.heap.size + 1) 25 c2 := by
  refine ⟨(((Only.refl [] w).alloc _).alloc _).alloc _, ?_⟩
  have := (Blk.new (w.alloc (.cells a1 25)) 25 c2).alloc (.cells a3 25)
  rwa [show (w.alloc (.cells a1 25)).heap.size = w.heap.size + 1 by simp] at this
end Go.Proofs.YtdmjabfjkkjhbaaGreatDoor
