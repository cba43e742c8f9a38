/- Layer 1: the table of kinds. -/
import Derived.Test.YtmpeidliacbelaaDoorOctM
namespace Go.Proofs.YtmpeidliacbelaaDoor
set_option linter.all false
open Go.RowKit

/-- The table's cells: of each kind its fault, its writer, its reader. -/
def tab : Array Value := #[.nilFunc, .nilFunc, .nilFunc,
  .func (Fn.func 49) #[] #[], .func (Fn.func 50) #[] #[], .func (Fn.func 51) #[] #[],
  .func (Fn.func 52) #[] #[], .func (Fn.func 50) #[] #[], .func (Fn.func 53) #[] #[],
  .func (Fn.func 54) #[] #[], .func (Fn.func 55) #[] #[], .func (Fn.func 56) #[] #[],
  .func (Fn.func 57) #[] #[], .func (Fn.func 58) #[] #[], .func (Fn.func 59) #[] #[],
  .func (Fn.func 60) #[] #[], .func (Fn.func 61) #[] #[], .func (Fn.func 62) #[] #[],
  .func (Fn.func 63) #[] #[], .func (Fn.func 64) #[] #[], .func (Fn.func 65) #[] #[]]
def TabT : TypeId := 72

set_option maxRecDepth 100000 in
set_option maxHeartbeats 3200000 in
theorem sorts_any (w : World) :
    Calls Tryd.prog 41 #[] w (fun e w' => e = .returned (.agg tab) ∧ Only [] w w') := by
  have hz := heap_alloc_new w (.cells (Array.replicate 21 Value.nilFunc) 72)
  go_enter Tryd.func41, Tryd.ntmps41
  go_wp2_with (refine wpList_store_row rfl 72 (.tmp 0) (.tmp 7) rfl w.heap.size tab rfl rfl 72 (Array.replicate 21 Value.nilFunc) hz (by kernel_rfl) (by kernel_rfl) (by kernel_rfl) ?_)
  (try simp only [Exit.inBlock, Exit.then])
  have hb : Blk ((w.alloc (.cells (Array.replicate 21 Value.nilFunc) 72)).setRow w.heap.size tab) w.heap.size 72 tab.toList := by
    have := blk_setRow (Blk.new w 72 (List.replicate 21 Value.nilFunc)) tab.toList
    exact this
  refine bodyPost_ret (results_cell_row rfl _ _ w.heap.size 72 tab (0, 0) _ (by rfl) hb Tryd.underlying72 rfl (by kernel_rfl)) (by rfl) ⟨rfl, ?_⟩
  exact ((Only.refl [] w).alloc _).trans (only_setRow _ _ _) (by simp)
end Go.Proofs.YtmpeidliacbelaaDoor
