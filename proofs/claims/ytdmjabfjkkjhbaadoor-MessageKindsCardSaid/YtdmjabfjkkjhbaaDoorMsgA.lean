/- Layer 3: the parts of messages, the row of a kind; no condition. -/
import Derived.Test.YtdmjabfjkkjhbaaDoorOctW
import Derived.Laws.EntriesVeiled
namespace Go.Proofs.YtdmjabfjkkjhbaaDoor
set_option linter.all false
open Go.RowKit

/-- A part: how its field is read, got, put. -/
def pk : Nat → Int
  | 0 => 3
  | 1 => 4
  | 2 => 4
  | 3 => 4
  | 4 => 2
  | 5 => 6
  | 6 => 3
  | 7 => 3
  | 8 => 3
  | _ => 3
def pget : Nat → FuncId
  | 0 => 81
  | 1 => 83
  | 2 => 85
  | 3 => 87
  | 4 => 89
  | 5 => 83
  | 6 => 91
  | 7 => 93
  | 8 => 95
  | _ => 97
def pput : Nat → FuncId
  | 0 => 82
  | 1 => 84
  | 2 => 86
  | 3 => 88
  | 4 => 90
  | 5 => 84
  | 6 => 92
  | 7 => 94
  | 8 => 96
  | _ => 98
def partCells (j : Nat) : List Value := [.int .i64 (pk j), .func (Fn.func (pget j)) #[] #[], .func (Fn.func (pput j)) #[] #[]]
theorem ret_part {fn : Func} {p : Tmp} {R : Ending → World → Prop} {a : Act} {w : World} {g : Nat} {v0 v1 v2 : Value} (h : fn.results = #[.cell p 85]) (hp : a.tmps.getD p undef = .pointer (some ⟨g, 0, none⟩)) (hd : a.defers = [])
    (hg : Blk w g 85 [v0, v1, v2]) (hR : R (.returned (.agg #[v0, v1, v2])) w) : bodyPost Tryd.prog fn R .ret a w :=
  bodyPost_ret (results_cell_row h _ w g 85 _ (0, 0) _ hp hg Tryd.underlying85 rfl (by kernel_rfl)) hd hR
set_option maxRecDepth 100000 in
theorem part_code (w : World) : Calls Tryd.prog 61 #[] w fun e w' => e = .returned (.agg #[.int .i64 3, .func (Fn.func 81) #[] #[], .func (Fn.func 82) #[] #[]]) ∧ Only [] w w' := by
  go_enter Tryd.func61, Tryd.ntmps61
  go_wp2
  (try simp only [Exit.inBlock, Exit.then])
  exact ret_part (g := w.heap.size) rfl (by rfl) (by rfl) (Blk.new w 85 [.int .i64 3, .func (Fn.func 81) #[] #[], .func (Fn.func 82) #[] #[]]) ⟨rfl, (Only.refl _ _).alloc _⟩
set_option maxRecDepth 100000 in
theorem part_words (w : World) : Calls Tryd.prog 62 #[] w fun e w' => e = .returned (.agg #[.int .i64 4, .func (Fn.func 83) #[] #[], .func (Fn.func 84) #[] #[]]) ∧ Only [] w w' := by
  go_enter Tryd.func62, Tryd.ntmps62
  go_wp2
  (try simp only [Exit.inBlock, Exit.then])
  exact ret_part (g := w.heap.size) rfl (by rfl) (by rfl) (Blk.new w 85 [.int .i64 4, .func (Fn.func 83) #[] #[], .func (Fn.func 84) #[] #[]]) ⟨rfl, (Only.refl _ _).alloc _⟩
set_option maxRecDepth 100000 in
theorem part_lang (w : World) : Calls Tryd.prog 63 #[] w fun e w' => e = .returned (.agg #[.int .i64 4, .func (Fn.func 85) #[] #[], .func (Fn.func 86) #[] #[]]) ∧ Only [] w w' := by
  go_enter Tryd.func63, Tryd.ntmps63
  go_wp2
  (try simp only [Exit.inBlock, Exit.then])
  exact ret_part (g := w.heap.size) rfl (by rfl) (by rfl) (Blk.new w 85 [.int .i64 4, .func (Fn.func 85) #[] #[], .func (Fn.func 86) #[] #[]]) ⟨rfl, (Only.refl _ _).alloc _⟩
set_option maxRecDepth 100000 in
theorem part_name (w : World) : Calls Tryd.prog 64 #[] w fun e w' => e = .returned (.agg #[.int .i64 4, .func (Fn.func 87) #[] #[], .func (Fn.func 88) #[] #[]]) ∧ Only [] w w' := by
  go_enter Tryd.func64, Tryd.ntmps64
  go_wp2
  (try simp only [Exit.inBlock, Exit.then])
  exact ret_part (g := w.heap.size) rfl (by rfl) (by rfl) (Blk.new w 85 [.int .i64 4, .func (Fn.func 87) #[] #[], .func (Fn.func 88) #[] #[]]) ⟨rfl, (Only.refl _ _).alloc _⟩
set_option maxRecDepth 100000 in
theorem part_want (w : World) : Calls Tryd.prog 65 #[] w fun e w' => e = .returned (.agg #[.int .i64 2, .func (Fn.func 89) #[] #[], .func (Fn.func 90) #[] #[]]) ∧ Only [] w w' := by
  go_enter Tryd.func65, Tryd.ntmps65
  go_wp2
  (try simp only [Exit.inBlock, Exit.then])
  exact ret_part (g := w.heap.size) rfl (by rfl) (by rfl) (Blk.new w 85 [.int .i64 2, .func (Fn.func 89) #[] #[], .func (Fn.func 90) #[] #[]]) ⟨rfl, (Only.refl _ _).alloc _⟩
set_option maxRecDepth 100000 in
theorem part_rest (w : World) : Calls Tryd.prog 66 #[] w fun e w' => e = .returned (.agg #[.int .i64 6, .func (Fn.func 83) #[] #[], .func (Fn.func 84) #[] #[]]) ∧ Only [] w w' := by
  go_enter Tryd.func66, Tryd.ntmps66
  go_wp2
  (try simp only [Exit.inBlock, Exit.then])
  exact ret_part (g := w.heap.size) rfl (by rfl) (by rfl) (Blk.new w 85 [.int .i64 6, .func (Fn.func 83) #[] #[], .func (Fn.func 84) #[] #[]]) ⟨rfl, (Only.refl _ _).alloc _⟩
set_option maxRecDepth 100000 in
theorem part_sender (w : World) : Calls Tryd.prog 67 #[] w fun e w' => e = .returned (.agg #[.int .i64 3, .func (Fn.func 91) #[] #[], .func (Fn.func 92) #[] #[]]) ∧ Only [] w w' := by
  go_enter Tryd.func67, Tryd.ntmps67
  go_wp2
  (try simp only [Exit.inBlock, Exit.then])
  exact ret_part (g := w.heap.size) rfl (by rfl) (by rfl) (Blk.new w 85 [.int .i64 3, .func (Fn.func 91) #[] #[], .func (Fn.func 92) #[] #[]]) ⟨rfl, (Only.refl _ _).alloc _⟩
set_option maxRecDepth 100000 in
theorem part_window (w : World) : Calls Tryd.prog 68 #[] w fun e w' => e = .returned (.agg #[.int .i64 3, .func (Fn.func 93) #[] #[], .func (Fn.func 94) #[] #[]]) ∧ Only [] w w' := by
  go_enter Tryd.func68, Tryd.ntmps68
  go_wp2
  (try simp only [Exit.inBlock, Exit.then])
  exact ret_part (g := w.heap.size) rfl (by rfl) (by rfl) (Blk.new w 85 [.int .i64 3, .func (Fn.func 93) #[] #[], .func (Fn.func 94) #[] #[]]) ⟨rfl, (Only.refl _ _).alloc _⟩
set_option maxRecDepth 100000 in
theorem part_packet (w : World) : Calls Tryd.prog 69 #[] w fun e w' => e = .returned (.agg #[.int .i64 3, .func (Fn.func 95) #[] #[], .func (Fn.func 96) #[] #[]]) ∧ Only [] w w' := by
  go_enter Tryd.func69, Tryd.ntmps69
  go_wp2
  (try simp only [Exit.inBlock, Exit.then])
  exact ret_part (g := w.heap.size) rfl (by rfl) (by rfl) (Blk.new w 85 [.int .i64 3, .func (Fn.func 95) #[] #[], .func (Fn.func 96) #[] #[]]) ⟨rfl, (Only.refl _ _).alloc _⟩
set_option maxRecDepth 100000 in
theorem part_channel (w : World) : Calls Tryd.prog 70 #[] w fun e w' => e = .returned (.agg #[.int .i64 3, .func (Fn.func 97) #[] #[], .func (Fn.func 98) #[] #[]]) ∧ Only [] w w' := by
  go_enter Tryd.func70, Tryd.ntmps70
  go_wp2
  (try simp only [Exit.inBlock, Exit.then])
  exact ret_part (g := w.heap.size) rfl (by rfl) (by rfl) (Blk.new w 85 [.int .i64 3, .func (Fn.func 97) #[] #[], .func (Fn.func 98) #[] #[]]) ⟨rfl, (Only.refl _ _).alloc _⟩
end Go.Proofs.YtdmjabfjkkjhbaaDoor
