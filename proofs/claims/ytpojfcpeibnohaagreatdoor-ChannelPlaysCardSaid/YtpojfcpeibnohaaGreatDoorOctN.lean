/- Layer 1: the table of kinds. -/
import Derived.Test.YtpojfcpeibnohaaGreatDoorOctM
namespace Go.Proofs.YtpojfcpeibnohaaGreatDoor
set_option linter.all false
open Go.RowKit

/-- The table's cells: of each kind its fault, its writer, its reader. -/
def tab : Array Value := #[.nilFunc, .nilFunc, .nilFunc,
  .func (Fn.func 96) #[] #[], .func (Fn.func 97) #[] #[], .func (Fn.func 98) #[] #[],
  .func (Fn.func 99) #[] #[], .func (Fn.func 97) #[] #[], .func (Fn.func 100) #[] #[],
  .func (Fn.func 101) #[] #[], .func (Fn.func 102) #[] #[], .func (Fn.func 103) #[] #[],
  .func (Fn.func 104) #[] #[], .func (Fn.func 105) #[] #[], .func (Fn.func 106) #[] #[],
  .func (Fn.func 107) #[] #[], .func (Fn.func 108) #[] #[], .func (Fn.func 109) #[] #[],
  .func (Fn.func 110) #[] #[], .func (Fn.func 111) #[] #[], .func (Fn.func 112) #[] #[]]
def TabT : TypeId := 140

set_option maxRecDepth 100000 in
set_option maxHeartbeats 3200000 in
theorem sorts_any (w : World) :
    Calls Tryz.prog 64 #[] w (fun e w' => e = .returned (.agg tab) ∧ Only [] w w') := by
  have hz := heap_alloc_new w (.cells (Array.replicate 21 Value.nilFunc) 140)
  go_enter Tryz.func64, Tryz.ntmps64
  go_wp2_with (refine wpList_store_row rfl 140 (.tmp 0) (.tmp 7) rfl w.heap.size tab rfl rfl 140 (Array.replicate 21 Value.nilFunc) hz (by kernel_rfl) (by kernel_rfl) (by kernel_rfl) ?_)
  (try simp only [Exit.inBlock, Exit.then])
  have hb : Blk ((w.alloc (.cells (Array.replicate 21 Value.nilFunc) 140)).setRow w.heap.size tab) w.heap.size 140 tab.toList := by
    have := blk_setRow (Blk.new w 140 (List.replicate 21 Value.nilFunc)) tab.toList
    exact this
  refine bodyPost_ret (results_cell_row rfl _ _ w.heap.size 140 tab (0, 0) _ (by rfl) hb Tryz.underlying140 rfl (by kernel_rfl)) (by rfl) ⟨rfl, ?_⟩
  exact ((Only.refl [] w).alloc _).trans (only_setRow _ _ _) (by simp)
end Go.Proofs.YtpojfcpeibnohaaGreatDoor
