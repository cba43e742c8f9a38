/- Layer 1: the table of kinds. -/
import Derived.Test.YtmpeidliacbelaaGreatDoorOctM
namespace Go.Proofs.YtmpeidliacbelaaGreatDoor
set_option linter.all false
open Go.RowKit

/-- The table's cells: of each kind its fault, its writer, its reader. -/
def tab : Array Value := #[.nilFunc, .nilFunc, .nilFunc,
  .func (Fn.func 63) #[] #[], .func (Fn.func 64) #[] #[], .func (Fn.func 65) #[] #[],
  .func (Fn.func 66) #[] #[], .func (Fn.func 64) #[] #[], .func (Fn.func 67) #[] #[],
  .func (Fn.func 68) #[] #[], .func (Fn.func 69) #[] #[], .func (Fn.func 70) #[] #[],
  .func (Fn.func 71) #[] #[], .func (Fn.func 72) #[] #[], .func (Fn.func 73) #[] #[],
  .func (Fn.func 74) #[] #[], .func (Fn.func 75) #[] #[], .func (Fn.func 76) #[] #[],
  .func (Fn.func 77) #[] #[], .func (Fn.func 78) #[] #[], .func (Fn.func 79) #[] #[]]
def TabT : TypeId := 81

set_option maxRecDepth 100000 in
set_option maxHeartbeats 3200000 in
theorem sorts_any (w : World) :
    Calls Tryz.prog 46 #[] w (fun e w' => e = .returned (.agg tab) ∧ Only [] w w') := by
  have hz := heap_alloc_new w (.cells (Array.replicate 21 Value.nilFunc) 81)
  go_enter Tryz.func46, Tryz.ntmps46
  go_wp2_with (refine wpList_store_row rfl 81 (.tmp 0) (.tmp 7) rfl w.heap.size tab rfl rfl 81 (Array.replicate 21 Value.nilFunc) hz (by kernel_rfl) (by kernel_rfl) (by kernel_rfl) ?_)
  (try simp only [Exit.inBlock, Exit.then])
  have hb : Blk ((w.alloc (.cells (Array.replicate 21 Value.nilFunc) 81)).setRow w.heap.size tab) w.heap.size 81 tab.toList := by
    have := blk_setRow (Blk.new w 81 (List.replicate 21 Value.nilFunc)) tab.toList
    exact this
  refine bodyPost_ret (results_cell_row rfl _ _ w.heap.size 81 tab (0, 0) _ (by rfl) hb Tryz.underlying81 rfl (by kernel_rfl)) (by rfl) ⟨rfl, ?_⟩
  exact ((Only.refl [] w).alloc _).trans (only_setRow _ _ _) (by simp)
end Go.Proofs.YtmpeidliacbelaaGreatDoor
