/- Layer 3: the row of a kind; no condition. -/
import Derived.Test.YtdmjabfjkkjhbaaGreatDoorMsgA
namespace Go.Proofs.YtdmjabfjkkjhbaaGreatDoor
set_option linter.all false
open Go.RowKit

/-- A kind's parts. -/
def rowL (k : Int) : Option (List Nat) :=
  if k = 1 then some [0, 1, 2] else if k = 80 then some [3, 4, 5] else if k = 81 then some [5] else if k = 82 then some [] else if k = 90 then some [3, 6, 7, 8, 5] else if k = 91 then some [9, 6, 7, 8, 5] else if k = 92 then some [9, 0, 1, 2] else if k = 93 then some [9, 7] else if k = 94 then some [9, 1] else if k = 95 then some [9, 0, 1] else if k = 96 then some [9] else if k = 97 then some [9] else if k = 99 then some [9] else if k = 100 then some [9] else if k = 98 then some [9, 3, 4, 5] else none
def pcells (js : List Nat) : List Value := js.flatMap partCells
/-- What row hands on. -/
def RowPost (w : World) (r : Option (List Nat)) : Ending → World → Prop := fun e w' => Only [] w w' ∧ match r with
  | none => e = .returned (.tuple #[.slice none 0 0, .bool false])
  | some js => ∃ A, e = .returned (.tuple #[.slice A js.length js.length, .bool true]) ∧ (0 < js.length → ∃ g, A = some ⟨g, 0, none⟩ ∧ Blk w' g 54 (pcells js))
set_option maxRecDepth 100000 in
set_option maxHeartbeats 6400000 in
theorem mrow_any (k : Int) (w : World) : Calls Tryz.prog 14 #[.int .i64 k] w (RowPost w (rowL k)) := by
  by_cases h1 : k = 1
  · subst h1
    rw [show rowL 1 = some [0, 1, 2] from rfl]
    go_enter Tryz.func14, Tryz.ntmps14
    go_wp2_with fail
    go_call (part_code w) as e w1 ⟨rfl, P1⟩
    go_wp2_with fail
    go_call (part_words w1) as e w2 ⟨rfl, P2⟩
    go_wp2_with fail
    go_call (part_lang w2) as e w3 ⟨rfl, P3⟩
    go_wp2_with fail
    go_ret2
    exact ⟨((((Only.refl [] w).trans P1 (by simp)).trans P2 (by simp)).trans P3 (by simp)).alloc _, some ⟨w3.heap.size, 0, none⟩, rfl, fun _ => ⟨_, rfl, Blk.new w3 54 (pcells [0, 1, 2])⟩⟩
  by_cases h80 : k = 80
  · subst h80
    rw [show rowL 80 = some [3, 4, 5] from rfl]
    go_enter Tryz.func14, Tryz.ntmps14
    go_wp2_with fail
    go_call (part_name w) as e w1 ⟨rfl, P1⟩
    go_wp2_with fail
    go_call (part_want w1) as e w2 ⟨rfl, P2⟩
    go_wp2_with fail
    go_call (part_rest w2) as e w3 ⟨rfl, P3⟩
    go_wp2_with fail
    go_ret2
    exact ⟨((((Only.refl [] w).trans P1 (by simp)).trans P2 (by simp)).trans P3 (by simp)).alloc _, some ⟨w3.heap.size, 0, none⟩, rfl, fun _ => ⟨_, rfl, Blk.new w3 54 (pcells [3, 4, 5])⟩⟩
  by_cases h81 : k = 81
  · subst h81
    rw [show rowL 81 = some [5] from rfl]
    go_enter Tryz.func14, Tryz.ntmps14
    go_wp2_with fail
    go_call (part_rest w) as e w1 ⟨rfl, P1⟩
    go_wp2_with fail
    go_ret2
    exact ⟨((Only.refl [] w).trans P1 (by simp)).alloc _, some ⟨w1.heap.size, 0, none⟩, rfl, fun _ => ⟨_, rfl, Blk.new w1 54 (pcells [5])⟩⟩
  by_cases h82 : k = 82
  · subst h82
    rw [show rowL 82 = some [] from rfl]
    go_enter Tryz.func14, Tryz.ntmps14
    go_wp2_with fail
    go_ret2
    exact ⟨Only.refl _ _, none, rfl, fun h => by simp at h⟩
  by_cases h90 : k = 90
  · subst h90
    rw [show rowL 90 = some [3, 6, 7, 8, 5] from rfl]
    go_enter Tryz.func14, Tryz.ntmps14
    go_wp2_with fail
    go_call (part_name w) as e w1 ⟨rfl, P1⟩
    go_wp2_with fail
    go_call (part_sender w1) as e w2 ⟨rfl, P2⟩
    go_wp2_with fail
    go_call (part_window w2) as e w3 ⟨rfl, P3⟩
    go_wp2_with fail
    go_call (part_packet w3) as e w4 ⟨rfl, P4⟩
    go_wp2_with fail
    go_call (part_rest w4) as e w5 ⟨rfl, P5⟩
    go_wp2_with fail
    go_ret2
    exact ⟨((((((Only.refl [] w).trans P1 (by simp)).trans P2 (by simp)).trans P3 (by simp)).trans P4 (by simp)).trans P5 (by simp)).alloc _, some ⟨w5.heap.size, 0, none⟩, rfl, fun _ => ⟨_, rfl, Blk.new w5 54 (pcells [3, 6, 7, 8, 5])⟩⟩
  by_cases h91 : k = 91
  · subst h91
    rw [show rowL 91 = some [9, 6, 7, 8, 5] from rfl]
    go_enter Tryz.func14, Tryz.ntmps14
    go_wp2_with fail
    go_call (part_channel w) as e w1 ⟨rfl, P1⟩
    go_wp2_with fail
    go_call (part_sender w1) as e w2 ⟨rfl, P2⟩
    go_wp2_with fail
    go_call (part_window w2) as e w3 ⟨rfl, P3⟩
    go_wp2_with fail
    go_call (part_packet w3) as e w4 ⟨rfl, P4⟩
    go_wp2_with fail
    go_call (part_rest w4) as e w5 ⟨rfl, P5⟩
    go_wp2_with fail
    go_ret2
    exact ⟨((((((Only.refl [] w).trans P1 (by simp)).trans P2 (by simp)).trans P3 (by simp)).trans P4 (by simp)).trans P5 (by simp)).alloc _, some ⟨w5.heap.size, 0, none⟩, rfl, fun _ => ⟨_, rfl, Blk.new w5 54 (pcells [9, 6, 7, 8, 5])⟩⟩
  by_cases h92 : k = 92
  · subst h92
    rw [show rowL 92 = some [9, 0, 1, 2] from rfl]
    go_enter Tryz.func14, Tryz.ntmps14
    go_wp2_with fail
    go_call (part_channel w) as e w1 ⟨rfl, P1⟩
    go_wp2_with fail
    go_call (part_code w1) as e w2 ⟨rfl, P2⟩
    go_wp2_with fail
    go_call (part_words w2) as e w3 ⟨rfl, P3⟩
    go_wp2_with fail
    go_call (part_lang w3) as e w4 ⟨rfl, P4⟩
    go_wp2_with fail
    go_ret2
    exact ⟨(((((Only.refl [] w).trans P1 (by simp)).trans P2 (by simp)).trans P3 (by simp)).trans P4 (by simp)).alloc _, some ⟨w4.heap.size, 0, none⟩, rfl, fun _ => ⟨_, rfl, Blk.new w4 54 (pcells [9, 0, 1, 2])⟩⟩
  by_cases h93 : k = 93
  · subst h93
    rw [show rowL 93 = some [9, 7] from rfl]
    go_enter Tryz.func14, Tryz.ntmps14
    go_wp2_with fail
    go_call (part_channel w) as e w1 ⟨rfl, P1⟩
    go_wp2_with fail
    go_call (part_window w1) as e w2 ⟨rfl, P2⟩
    go_wp2_with fail
    go_ret2
    exact ⟨(((Only.refl [] w).trans P1 (by simp)).trans P2 (by simp)).alloc _, some ⟨w2.heap.size, 0, none⟩, rfl, fun _ => ⟨_, rfl, Blk.new w2 54 (pcells [9, 7])⟩⟩
  by_cases h94 : k = 94
  · subst h94
    rw [show rowL 94 = some [9, 1] from rfl]
    go_enter Tryz.func14, Tryz.ntmps14
    go_wp2_with fail
    go_call (part_channel w) as e w1 ⟨rfl, P1⟩
    go_wp2_with fail
    go_call (part_words w1) as e w2 ⟨rfl, P2⟩
    go_wp2_with fail
    go_ret2
    exact ⟨(((Only.refl [] w).trans P1 (by simp)).trans P2 (by simp)).alloc _, some ⟨w2.heap.size, 0, none⟩, rfl, fun _ => ⟨_, rfl, Blk.new w2 54 (pcells [9, 1])⟩⟩
  by_cases h95 : k = 95
  · subst h95
    rw [show rowL 95 = some [9, 0, 1] from rfl]
    go_enter Tryz.func14, Tryz.ntmps14
    go_wp2_with fail
    go_call (part_channel w) as e w1 ⟨rfl, P1⟩
    go_wp2_with fail
    go_call (part_code w1) as e w2 ⟨rfl, P2⟩
    go_wp2_with fail
    go_call (part_words w2) as e w3 ⟨rfl, P3⟩
    go_wp2_with fail
    go_ret2
    exact ⟨((((Only.refl [] w).trans P1 (by simp)).trans P2 (by simp)).trans P3 (by simp)).alloc _, some ⟨w3.heap.size, 0, none⟩, rfl, fun _ => ⟨_, rfl, Blk.new w3 54 (pcells [9, 0, 1])⟩⟩
  by_cases h96 : k = 96
  · subst h96
    rw [show rowL 96 = some [9] from rfl]
    go_enter Tryz.func14, Tryz.ntmps14
    go_wp2_with fail
    go_call (part_channel w) as e w1 ⟨rfl, P1⟩
    go_wp2_with fail
    go_ret2
    exact ⟨((Only.refl [] w).trans P1 (by simp)).alloc _, some ⟨w1.heap.size, 0, none⟩, rfl, fun _ => ⟨_, rfl, Blk.new w1 54 (pcells [9])⟩⟩
  by_cases h97 : k = 97
  · subst h97
    rw [show rowL 97 = some [9] from rfl]
    go_enter Tryz.func14, Tryz.ntmps14
    go_wp2_with fail
    go_call (part_channel w) as e w1 ⟨rfl, P1⟩
    go_wp2_with fail
    go_ret2
    exact ⟨((Only.refl [] w).trans P1 (by simp)).alloc _, some ⟨w1.heap.size, 0, none⟩, rfl, fun _ => ⟨_, rfl, Blk.new w1 54 (pcells [9])⟩⟩
  by_cases h99 : k = 99
  · subst h99
    rw [show rowL 99 = some [9] from rfl]
    go_enter Tryz.func14, Tryz.ntmps14
    go_wp2_with fail
    go_call (part_channel w) as e w1 ⟨rfl, P1⟩
    go_wp2_with fail
    go_ret2
    exact ⟨((Only.refl [] w).trans P1 (by simp)).alloc _, some ⟨w1.heap.size, 0, none⟩, rfl, fun _ => ⟨_, rfl, Blk.new w1 54 (pcells [9])⟩⟩
  by_cases h100 : k = 100
  · subst h100
    rw [show rowL 100 = some [9] from rfl]
    go_enter Tryz.func14, Tryz.ntmps14
    go_wp2_with fail
    go_call (part_channel w) as e w1 ⟨rfl, P1⟩
    go_wp2_with fail
    go_ret2
    exact ⟨((Only.refl [] w).trans P1 (by simp)).alloc _, some ⟨w1.heap.size, 0, none⟩, rfl, fun _ => ⟨_, rfl, Blk.new w1 54 (pcells [9])⟩⟩
  by_cases h98 : k = 98
  · subst h98
    rw [show rowL 98 = some [9, 3, 4, 5] from rfl]
    go_enter Tryz.func14, Tryz.ntmps14
    go_wp2_with fail
    go_call (part_channel w) as e w1 ⟨rfl, P1⟩
    go_wp2_with fail
    go_call (part_name w1) as e w2 ⟨rfl, P2⟩
    go_wp2_with fail
    go_call (part_want w2) as e w3 ⟨rfl, P3⟩
    go_wp2_with fail
    go_call (part_rest w3) as e w4 ⟨rfl, P4⟩
    go_wp2_with fail
    go_ret2
    exact ⟨(((((Only.refl [] w).trans P1 (by simp)).trans P2 (by simp)).trans P3 (by simp)).trans P4 (by simp)).alloc _, some ⟨w4.heap.size, 0, none⟩, rfl, fun _ => ⟨_, rfl, Blk.new w4 54 (pcells [9, 3, 4, 5])⟩⟩
  have hr : rowL k = none := by
    unfold rowL
    simp only [h1, h80, h81, h82, h90, h91, h92, h93, h94, h95, h96, h97, h99, h100, h98, if_false]
  rw [hr]
  have e1 : (k == 1) = false := beq_eq_false_iff_ne.2 h1
  have e80 : (k == 80) = false := beq_eq_false_iff_ne.2 h80
  have e81 : (k == 81) = false := beq_eq_false_iff_ne.2 h81
  have e82 : (k == 82) = false := beq_eq_false_iff_ne.2 h82
  have e90 : (k == 90) = false := beq_eq_false_iff_ne.2 h90
  have e91 : (k == 91) = false := beq_eq_false_iff_ne.2 h91
  have e92 : (k == 92) = false := beq_eq_false_iff_ne.2 h92
  have e93 : (k == 93) = false := beq_eq_false_iff_ne.2 h93
  have e94 : (k == 94) = false := beq_eq_false_iff_ne.2 h94
  have e95 : (k == 95) = false := beq_eq_false_iff_ne.2 h95
  have e96 : (k == 96) = false := beq_eq_false_iff_ne.2 h96
  have e97 : (k == 97) = false := beq_eq_false_iff_ne.2 h97
  have e99 : (k == 99) = false := beq_eq_false_iff_ne.2 h99
  have e100 : (k == 100) = false := beq_eq_false_iff_ne.2 h100
  have e98 : (k == 98) = false := beq_eq_false_iff_ne.2 h98
  go_enter Tryz.func14, Tryz.ntmps14
  go_wp2_with fail
  go_ret2
  exact ⟨Only.refl _ _, rfl⟩
end Go.Proofs.YtdmjabfjkkjhbaaGreatDoor
