/- Layer 1: the table of kinds. -/
import Derived.Test.YtdmjabfjkkjhbaaDoorOctM
namespace Go.Proofs.YtdmjabfjkkjhbaaDoor
set_option linter.all false
open Go.RowKit

/-- The table's cells: of each kind its fault, its writer, its reader. -/
def tab : Array Value := #[.nilFunc, .nilFunc, .nilFunc,
  .func (Fn.func 39) #[] #[], .func (Fn.func 40) #[] #[], .func (Fn.func 41) #[] #[],
  .func (Fn.func 42) #[] #[], .func (Fn.func 40) #[] #[], .func (Fn.func 43) #[] #[],
  .func (Fn.func 44) #[] #[], .func (Fn.func 45) #[] #[], .func (Fn.func 46) #[] #[],
  .func (Fn.func 47) #[] #[], .func (Fn.func 48) #[] #[], .func (Fn.func 49) #[] #[],
  .func (Fn.func 50) #[] #[], .func (Fn.func 51) #[] #[], .func (Fn.func 52) #[] #[],
  .func (Fn.func 53) #[] #[], .func (Fn.func 54) #[] #[], .func (Fn.func 55) #[] #[]]
def TabT : TypeId := 63

set_option maxRecDepth 100000 in
set_option maxHeartbeats 3200000 in
theorem sorts_any (w : World) :
    Calls Tryd.prog 30 #[] w (fun e w' => e = .returned (.agg tab) ∧ Only [] w w') := by
  have hz := heap_alloc_new w (.cells (Array.replicate 21 Value.nilFunc) 63)
  go_enter Tryd.func30, Tryd.ntmps30
  go_wp2_with (refine wpList_store_row rfl 63 (.tmp 0) (.tmp 7) rfl w.heap.size tab rfl rfl 63 (Array.replicate 21 Value.nilFunc) hz (by kernel_rfl) (by kernel_rfl) (by kernel_rfl) ?_)
  (try simp only [Exit.inBlock, Exit.then])
  have hb : Blk ((w.alloc (.cells (Array.replicate 21 Value.nilFunc) 63)).setRow w.heap.size tab) w.heap.size 63 tab.toList := by
    have := blk_setRow (Blk.new w 63 (List.replicate 21 Value.nilFunc)) tab.toList
    exact this
  refine bodyPost_ret (results_cell_row rfl _ _ w.heap.size 63 tab (0, 0) _ (by rfl) hb Tryd.underlying63 rfl (by kernel_rfl)) (by rfl) ⟨rfl, ?_⟩
  exact ((Only.refl [] w).alloc _).trans (only_setRow _ _ _) (by simp)
end Go.Proofs.YtdmjabfjkkjhbaaDoor
