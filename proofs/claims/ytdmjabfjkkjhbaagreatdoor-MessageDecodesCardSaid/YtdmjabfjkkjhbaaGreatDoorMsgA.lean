/- Layer 3: the parts of messages, the row of a kind; no condition. -/
import Derived.Test.YtdmjabfjkkjhbaaGreatDoorOctW
import Derived.Laws.EntriesVeiled
namespace Go.Proofs.YtdmjabfjkkjhbaaGreatDoor
set_option linter.all false
open Go.RowKit

/-- A part: how its field is read, got, put. -/
def pk : Nat → Int
  | 0 => 3
  | 1 => 4
  | 2 => 4
  | 3 => 4
  | 4 => 2
  | 5 => 6
  | 6 => 3
  | 7 => 3
  | 8 => 3
  | _ => 3
def pget : Nat → FuncId
  | 0 => 45
  | 1 => 47
  | 2 => 49
  | 3 => 51
  | 4 => 53
  | 5 => 47
  | 6 => 55
  | 7 => 57
  | 8 => 59
  | _ => 61
def pput : Nat → FuncId
  | 0 => 46
  | 1 => 48
  | 2 => 50
  | 3 => 52
  | 4 => 54
  | 5 => 48
  | 6 => 56
  | 7 => 58
  | 8 => 60
  | _ => 62
def partCells (j : Nat) : List Value := [.int .i64 (pk j), .func (Fn.func (pget j)) #[] #[], .func (Fn.func (pput j)) #[] #[]]
theorem ret_part {fn : Func} {p : Tmp} {R : Ending → World → Prop} {a : Act} {w : World} {g : Nat} {v0 v1 v2 : Value} (h : fn.results = #[.cell p 54]) (hp : a.tmps.getD p undef = .pointer (some ⟨g, 0, none⟩)) (hd : a.defers = [])
    (hg : Blk w g 54 [v0, v1, v2]) (hR : R (.returned (.agg #[v0, v1, v2])) w) : bodyPost Tryz.prog fn R .ret a w :=
  bodyPost_ret (results_cell_row h _ w g 54 _ (0, 0) _ hp hg Tryz.underlying54 rfl (by kernel_rfl)) hd hR
set_option maxRecDepth 100000 in
theorem part_code (w : World) : Calls Tryz.prog 22 #[] w fun e w' => e = .returned (.agg #[.int .i64 3, .func (Fn.func 45) #[] #[], .func (Fn.func 46) #[] #[]]) ∧ Only [] w w' := by
  go_enter Tryz.func22, Tryz.ntmps22
  go_wp2
  (try simp only [Exit.inBlock, Exit.then])
  exact ret_part (g := w.heap.size) rfl (by rfl) (by rfl) (Blk.new w 54 [.int .i64 3, .func (Fn.func 45) #[] #[], .func (Fn.func 46) #[] #[]]) ⟨rfl, (Only.refl _ _).alloc _⟩
set_option maxRecDepth 100000 in
theorem part_words (w : World) : Calls Tryz.prog 23 #[] w fun e w' => e = .returned (.agg #[.int .i64 4, .func (Fn.func 47) #[] #[], .func (Fn.func 48) #[] #[]]) ∧ Only [] w w' := by
  go_enter Tryz.func23, Tryz.ntmps23
  go_wp2
  (try simp only [Exit.inBlock, Exit.then])
  exact ret_part (g := w.heap.size) rfl (by rfl) (by rfl) (Blk.new w 54 [.int .i64 4, .func (Fn.func 47) #[] #[], .func (Fn.func 48) #[] #[]]) ⟨rfl, (Only.refl _ _).alloc _⟩
set_option maxRecDepth 100000 in
theorem part_lang (w : World) : Calls Tryz.prog 24 #[] w fun e w' => e = .returned (.agg #[.int .i64 4, .func (Fn.func 49) #[] #[], .func (Fn.func 50) #[] #[]]) ∧ Only [] w w' := by
  go_enter Tryz.func24, Tryz.ntmps24
  go_wp2
  (try simp only [Exit.inBlock, Exit.then])
  exact ret_part (g := w.heap.size) rfl (by rfl) (by rfl) (Blk.new w 54 [.int .i64 4, .func (Fn.func 49) #[] #[], .func (Fn.func 50) #[] #[]]) ⟨rfl, (Only.refl _ _).alloc _⟩
set_option maxRecDepth 100000 in
theorem part_name (w : World) : Calls Tryz.prog 25 #[] w fun e w' => e = .returned (.agg #[.int .i64 4, .func (Fn.func 51) #[] #[], .func (Fn.func 52) #[] #[]]) ∧ Only [] w w' := by
  go_enter Tryz.func25, Tryz.ntmps25
  go_wp2
  (try simp only [Exit.inBlock, Exit.then])
  exact ret_part (g := w.heap.size) rfl (by rfl) (by rfl) (Blk.new w 54 [.int .i64 4, .func (Fn.func 51) #[] #[], .func (Fn.func 52) #[] #[]]) ⟨rfl, (Only.refl _ _).alloc _⟩
set_option maxRecDepth 100000 in
theorem part_want (w : World) : Calls Tryz.prog 26 #[] w fun e w' => e = .returned (.agg #[.int .i64 2, .func (Fn.func 53) #[] #[], .func (Fn.func 54) #[] #[]]) ∧ Only [] w w' := by
  go_enter Tryz.func26, Tryz.ntmps26
  go_wp2
  (try simp only [Exit.inBlock, Exit.then])
  exact ret_part (g := w.heap.size) rfl (by rfl) (by rfl) (Blk.new w 54 [.int .i64 2, .func (Fn.func 53) #[] #[], .func (Fn.func 54) #[] #[]]) ⟨rfl, (Only.refl _ _).alloc _⟩
set_option maxRecDepth 100000 in
theorem part_rest (w : World) : Calls Tryz.prog 27 #[] w fun e w' => e = .returned (.agg #[.int .i64 6, .func (Fn.func 47) #[] #[], .func (Fn.func 48) #[] #[]]) ∧ Only [] w w' := by
  go_enter Tryz.func27, Tryz.ntmps27
  go_wp2
  (try simp only [Exit.inBlock, Exit.then])
  exact ret_part (g := w.heap.size) rfl (by rfl) (by rfl) (Blk.new w 54 [.int .i64 6, .func (Fn.func 47) #[] #[], .func (Fn.func 48) #[] #[]]) ⟨rfl, (Only.refl _ _).alloc _⟩
set_option maxRecDepth 100000 in
theorem part_sender (w : World) : Calls Tryz.prog 28 #[] w fun e w' => e = .returned (.agg #[.int .i64 3, .func (Fn.func 55) #[] #[], .func (Fn.func 56) #[] #[]]) ∧ Only [] w w' := by
  go_enter Tryz.func28, Tryz.ntmps28
  go_wp2
  (try simp only [Exit.inBlock, Exit.then])
  exact ret_part (g := w.heap.size) rfl (by rfl) (by rfl) (Blk.new w 54 [.int .i64 3, .func (Fn.func 55) #[] #[], .func (Fn.func 56) #[] #[]]) ⟨rfl, (Only.refl _ _).alloc _⟩
set_option maxRecDepth 100000 in
theorem part_window (w : World) : Calls Tryz.prog 29 #[] w fun e w' => e = .returned (.agg #[.int .i64 3, .func (Fn.func 57) #[] #[], .func (Fn.func 58) #[] #[]]) ∧ Only [] w w' := by
  go_enter Tryz.func29, Tryz.ntmps29
  go_wp2
  (try simp only [Exit.inBlock, Exit.then])
  exact ret_part (g := w.heap.size) rfl (by rfl) (by rfl) (Blk.new w 54 [.int .i64 3, .func (Fn.func 57) #[] #[], .func (Fn.func 58) #[] #[]]) ⟨rfl, (Only.refl _ _).alloc _⟩
set_option maxRecDepth 100000 in
theorem part_packet (w : World) : Calls Tryz.prog 30 #[] w fun e w' => e = .returned (.agg #[.int .i64 3, .func (Fn.func 59) #[] #[], .func (Fn.func 60) #[] #[]]) ∧ Only [] w w' := by
  go_enter Tryz.func30, Tryz.ntmps30
  go_wp2
  (try simp only [Exit.inBlock, Exit.then])
  exact ret_part (g := w.heap.size) rfl (by rfl) (by rfl) (Blk.new w 54 [.int .i64 3, .func (Fn.func 59) #[] #[], .func (Fn.func 60) #[] #[]]) ⟨rfl, (Only.refl _ _).alloc _⟩
set_option maxRecDepth 100000 in
theorem part_channel (w : World) : Calls Tryz.prog 31 #[] w fun e w' => e = .returned (.agg #[.int .i64 3, .func (Fn.func 61) #[] #[], .func (Fn.func 62) #[] #[]]) ∧ Only [] w w' := by
  go_enter Tryz.func31, Tryz.ntmps31
  go_wp2
  (try simp only [Exit.inBlock, Exit.then])
  exact ret_part (g := w.heap.size) rfl (by rfl) (by rfl) (Blk.new w 54 [.int .i64 3, .func (Fn.func 61) #[] #[], .func (Fn.func 62) #[] #[]]) ⟨rfl, (Only.refl _ _).alloc _⟩
end Go.Proofs.YtdmjabfjkkjhbaaGreatDoor
