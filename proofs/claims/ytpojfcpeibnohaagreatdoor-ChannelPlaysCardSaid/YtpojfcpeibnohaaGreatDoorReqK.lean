/- The document's answer for layer 4: Own; no condition. -/
import Derived.Test.YtpojfcpeibnohaaGreatDoorReqI
import Derived.Test.YtpojfcpeibnohaaGreatDoorHeldB
namespace Go.Proofs.YtpojfcpeibnohaaGreatDoor
set_option linter.all false
open Go.RowKit

/-- One result in memory. -/
theorem ret_row1 {P : Program} {fn : Func} {p : Tmp} {T : TypeId} {R : Ending → World → Prop} {a : Act} {w : World} {g : Nat} {d : TypeDesc} (cs : Array Value) (h : fn.results = #[.cell p T]) (hp : a.tmps.getD p undef = .pointer (some ⟨g, 0, none⟩)) (hd : a.defers = [])
    (hg : w.heap[g]? = some (.cells cs T (0, 0))) (hu : P.underlying T = some d) (hk : (match d with | .struct _ | .array _ _ => true | _ => false) = true) (hs : (P.info? T).map (·.size) = some cs.size)
    (hR : R (.returned (.agg cs)) w) : bodyPost P fn R .ret a w := by
  refine bodyPost_ret (v := .agg cs) ?_ hd hR
  have hp' : a.tmps[p]?.getD undef = .pointer (some ⟨g, 0, none⟩) := by simpa using hp
  simp [results, h, hp', asAddr, run_loadVar_row (P := P) w g T T cs (0, 0) d hg hu hk hs]
theorem ret_req1 {fn : Func} {p : Tmp} {R : Ending → World → Prop} {a : Act} {w : World} {g : Nat} (m : RQ) (h : fn.results = #[.cell p 39]) (hp : a.tmps.getD p undef = .pointer (some ⟨g, 0, none⟩)) (hd : a.defers = [])
    (hg : Blk w g 39 m.cells) (hR : R (.returned m.val) w) : bodyPost Tryz.prog fn R .ret a w :=
  ret_row1 m.cells.toArray h hp hd hg Tryz.underlying39 rfl (by unfold RQ.cells; kernel_rfl) hR
theorem rown_start (w : World) (m : RQ) (k : Nat) (W : World) (h : W = ((w.alloc (.cells m.cells.toArray 39)).alloc (.cells zeroR.cells.toArray 39)).alloc (.cells (firstR k).cells.toArray 39)) :
    Only [] w W ∧ Blk W w.heap.size 39 m.cells ∧ Blk W (w.heap.size + 1) 39 zeroR.cells ∧ Blk W (w.heap.size + 1 + 1) 39 (firstR k).cells := by
  subst h
  have e1 : (w.alloc (.cells m.cells.toArray 39)).heap.size = w.heap.size + 1 := by simp
  have e2 : ((w.alloc (.cells m.cells.toArray 39)).alloc (.cells zeroR.cells.toArray 39)).heap.size = w.heap.size + 1 + 1 := by simp
  refine ⟨(((Only.refl [] w).alloc _).alloc _).alloc _, ((Blk.new w _ _).alloc _).alloc _, ?_, ?_⟩
  · have := (Blk.new (w.alloc (.cells m.cells.toArray 39)) 39 zeroR.cells).alloc (.cells (firstR k).cells.toArray 39)
    rw [e1] at this
    exact this
  · have := Blk.new ((w.alloc (.cells m.cells.toArray 39)).alloc (.cells zeroR.cells.toArray 39)) 39 (firstR k).cells
    rw [e2] at this
    exact this
theorem rown_end (w : World) (a1 a3 : Array Value) (c2 : List Value) : Only [] w (((w.alloc (.cells a1 39)).alloc (.cells c2.toArray 39)).alloc (.cells a3 39)) ∧ Blk (((w.alloc (.cells a1 39)).alloc (.cells c2.toArray 39)).alloc (.cells a3 39)) (w.heap.size + 1) 39 c2 := by
  refine ⟨(((Only.refl [] w).alloc _).alloc _).alloc _, ?_⟩
  have := (Blk.new (w.alloc (.cells a1 39)) 39 c2).alloc (.cells a3 39)
  rwa [show (w.alloc (.cells a1 39)).heap.size = w.heap.size + 1 by simp] at this
end Go.Proofs.YtpojfcpeibnohaaGreatDoor
