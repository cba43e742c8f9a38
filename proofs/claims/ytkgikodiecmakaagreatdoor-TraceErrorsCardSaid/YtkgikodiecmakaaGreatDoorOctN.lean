/- Layer 1: the table of kinds. -/
import Derived.Test.YtkgikodiecmakaaGreatDoorOctM
namespace Go.Proofs.YtkgikodiecmakaaGreatDoor
set_option linter.all false
open Go.RowKit

/-- The table's cells: of each kind its fault, its writer, its reader. -/
def tab : Array Value := #[.nilFunc, .nilFunc, .nilFunc,
  .func (Fn.func 108) #[] #[], .func (Fn.func 109) #[] #[], .func (Fn.func 110) #[] #[],
  .func (Fn.func 111) #[] #[], .func (Fn.func 109) #[] #[], .func (Fn.func 112) #[] #[],
  .func (Fn.func 113) #[] #[], .func (Fn.func 114) #[] #[], .func (Fn.func 115) #[] #[],
  .func (Fn.func 116) #[] #[], .func (Fn.func 117) #[] #[], .func (Fn.func 118) #[] #[],
  .func (Fn.func 119) #[] #[], .func (Fn.func 120) #[] #[], .func (Fn.func 121) #[] #[],
  .func (Fn.func 122) #[] #[], .func (Fn.func 123) #[] #[], .func (Fn.func 124) #[] #[]]
def TabT : TypeId := 142

set_option maxRecDepth 100000 in
set_option maxHeartbeats 3200000 in
theorem sorts_any (w : World) :
    Calls Tryz.prog 93 #[] w (fun e w' => e = .returned (.agg tab) ∧ Only [] w w') := by
  have hz := heap_alloc_new w (.cells (Array.replicate 21 Value.nilFunc) 142)
  go_enter Tryz.func93, Tryz.ntmps93
  go_wp2_with (refine wpList_store_row rfl 142 (.tmp 0) (.tmp 7) rfl w.heap.size tab rfl rfl 142 (Array.replicate 21 Value.nilFunc) hz (by kernel_rfl) (by kernel_rfl) (by kernel_rfl) ?_)
  (try simp only [Exit.inBlock, Exit.then])
  have hb : Blk ((w.alloc (.cells (Array.replicate 21 Value.nilFunc) 142)).setRow w.heap.size tab) w.heap.size 142 tab.toList := by
    have := blk_setRow (Blk.new w 142 (List.replicate 21 Value.nilFunc)) tab.toList
    exact this
  refine bodyPost_ret (results_cell_row rfl _ _ w.heap.size 142 tab (0, 0) _ (by rfl) hb Tryz.underlying142 rfl (by kernel_rfl)) (by rfl) ⟨rfl, ?_⟩
  exact ((Only.refl [] w).alloc _).trans (only_setRow _ _ _) (by simp)
end Go.Proofs.YtkgikodiecmakaaGreatDoor
