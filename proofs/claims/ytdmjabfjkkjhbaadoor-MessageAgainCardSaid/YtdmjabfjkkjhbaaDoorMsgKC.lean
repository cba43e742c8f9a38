/- Layer 3, the document's answer: Own (a message with the fields of its kind alone); no condition. -/
import Derived.Test.YtdmjabfjkkjhbaaDoorMsgK
namespace Go.Proofs.YtdmjabfjkkjhbaaDoor
set_option linter.all false
open Go.RowKit

set_option maxRecDepth 100000 in
set_option maxHeartbeats 3200000 in
theorem own_k92 (m : MD) (w : World) (h92 : m.kind = 92) : Calls Tryd.prog 28 #[m.val] w fun e w' => e = .returned (ownM m).val ∧ Only [] w w' := by
  obtain ⟨W, hW⟩ : ∃ W, W = ((w.alloc (.cells m.cells.toArray 47)).alloc (.cells zeroM.cells.toArray 47)).alloc (.cells (firstM m.kind).cells.toArray 47) := ⟨_, rfl⟩
  obtain ⟨O, K1, K2, K3⟩ := own_start w m m.kind W hW
  obtain ⟨RES, hres⟩ : ∃ RES, [9, 0, 1, 2].foldl (cpM m) (firstM m.kind) = RES := ⟨_, rfl⟩
  have ho : ownM m = RES := by rw [← hres]; unfold ownM; rw [h92]; rfl
  rw [ho]
  clear ho
  have hk := h92

  obtain ⟨kind, chan, sender, window, packet, code, name, lang, want, dA, dc, data⟩ := m
  dsimp only at hk
  subst hk
  unfold MD.val
  go_enter Tryd.func28, Tryd.ntmps28
  go_wp2_with fail
  rw [show ((w.alloc (.cells #[.int .i64 92, .int .u32 chan, .int .u32 sender, .int .u32 window, .int .u32 packet, .int .u32 code, .string name, .string lang, .bool want, .slice dA data.length dc] 47)).alloc (.cells #[.int .i64 0, .int .u32 0, .int .u32 0, .int .u32 0, .int .u32 0, .int .u32 0, .string ⟨#[]⟩, .string ⟨#[]⟩, .bool false, .slice none 0 0] 47)).alloc (.cells #[.int .i64 92, .int .u32 0, .int .u32 0, .int .u32 0, .int .u32 0, .int .u32 0, .string ⟨#[]⟩, .string ⟨#[]⟩, .bool false, .slice none 0 0] 47) = W from hW.symm]
  replace hW := hide hW
  have a0 : W.cell? ⟨w.heap.size, 0, none⟩ = some (.int .i64 92) := K1.cell 0
  have a1 : W.cell? ⟨w.heap.size, 1, none⟩ = some (.int .u32 chan) := K1.cell 1
  have a2 : W.cell? ⟨w.heap.size, 2, none⟩ = some (.int .u32 sender) := K1.cell 2
  have a3 : W.cell? ⟨w.heap.size, 3, none⟩ = some (.int .u32 window) := K1.cell 3
  have a4 : W.cell? ⟨w.heap.size, 4, none⟩ = some (.int .u32 packet) := K1.cell 4
  have a5 : W.cell? ⟨w.heap.size, 5, none⟩ = some (.int .u32 code) := K1.cell 5
  have a6 : W.cell? ⟨w.heap.size, 6, none⟩ = some (.string name) := K1.cell 6
  have a7 : W.cell? ⟨w.heap.size, 7, none⟩ = some (.string lang) := K1.cell 7
  have a8 : W.cell? ⟨w.heap.size, 8, none⟩ = some (.bool want) := K1.cell 8
  have a9 : W.cell? ⟨w.heap.size, 9, none⟩ = some (.slice dA data.length dc) := K1.cell 9
  have c1 : W.cell? ⟨w.heap.size + 1 + 1, 1, none⟩ = some (.int .u32 0) := K3.cell 1
  have d1 := K3.frozen 1
  have c5 : W.cell? ⟨w.heap.size + 1 + 1, 5, none⟩ = some (.int .u32 0) := K3.cell 5
  have d5 := K3.frozen 5
  have c7 : W.cell? ⟨w.heap.size + 1 + 1, 7, none⟩ = some (.string ⟨#[]⟩) := K3.cell 7
  have d7 := K3.frozen 7
  have c9 : W.cell? ⟨w.heap.size + 1 + 1, 9, none⟩ = some (.slice none 0 0) := K3.cell 9
  have d9 := K3.frozen 9
  go_region
  obtain ⟨X, hX⟩ : ∃ X, X = ((((W.setCell ⟨w.heap.size + 1 + 1, 1, none⟩ (.int .u32 chan)).setCell ⟨w.heap.size + 1 + 1, 5, none⟩ (.int .u32 code)).setCell ⟨w.heap.size + 1 + 1, 9, none⟩ (.slice dA data.length dc)).setCell ⟨w.heap.size + 1 + 1, 7, none⟩ (.string lang)) := ⟨_, rfl⟩
  have OX : Only [] w X := by rw [hX]; exact (Only.setCell (Only.setCell (Only.setCell (Only.setCell O (p := ⟨w.heap.size + 1 + 1, 1, none⟩) (.inr (by show w.heap.size ≤ w.heap.size + 1 + 1; omega)) (.int .u32 chan)) (p := ⟨w.heap.size + 1 + 1, 5, none⟩) (.inr (by show w.heap.size ≤ w.heap.size + 1 + 1; omega)) (.int .u32 code)) (p := ⟨w.heap.size + 1 + 1, 9, none⟩) (.inr (by show w.heap.size ≤ w.heap.size + 1 + 1; omega)) (.slice dA data.length dc)) (p := ⟨w.heap.size + 1 + 1, 7, none⟩) (.inr (by show w.heap.size ≤ w.heap.size + 1 + 1; omega)) (.string lang))
  have KX : Blk X (w.heap.size + 1 + 1) 47 RES.cells := by rw [hX, ← hres]; exact ((((K3.set_ 1 (.int .u32 chan)).set_ 5 (.int .u32 code)).set_ 9 (.slice dA data.length dc)).set_ 7 (.string lang))
  have KZ : Blk X (w.heap.size + 1) 47 zeroM.cells := by rw [hX]; exact (Blk.far (Blk.far (Blk.far (Blk.far K2 (p := ⟨w.heap.size + 1 + 1, 1, none⟩) (by show ¬ w.heap.size + 1 = w.heap.size + 1 + 1; omega) (.int .u32 chan)) (p := ⟨w.heap.size + 1 + 1, 5, none⟩) (by show ¬ w.heap.size + 1 = w.heap.size + 1 + 1; omega) (.int .u32 code)) (p := ⟨w.heap.size + 1 + 1, 9, none⟩) (by show ¬ w.heap.size + 1 = w.heap.size + 1 + 1; omega) (.slice dA data.length dc)) (p := ⟨w.heap.size + 1 + 1, 7, none⟩) (by show ¬ w.heap.size + 1 = w.heap.size + 1 + 1; omega) (.string lang))
  rw [← hX]
  replace hX := hide hX
  clear a0 a1 a2 a3 a4 a5 a6 a7 a8 a9 c1 d1 c5 d5 c7 d7 c9 d9
  have b0 : X.cell? ⟨w.heap.size + 1 + 1, 0, none⟩ = some (.int .i64 RES.kind) := KX.cell 0
  have b1 : X.cell? ⟨w.heap.size + 1 + 1, 1, none⟩ = some (.int .u32 RES.chan) := KX.cell 1
  have b2 : X.cell? ⟨w.heap.size + 1 + 1, 2, none⟩ = some (.int .u32 RES.sender) := KX.cell 2
  have b3 : X.cell? ⟨w.heap.size + 1 + 1, 3, none⟩ = some (.int .u32 RES.window) := KX.cell 3
  have b4 : X.cell? ⟨w.heap.size + 1 + 1, 4, none⟩ = some (.int .u32 RES.packet) := KX.cell 4
  have b5 : X.cell? ⟨w.heap.size + 1 + 1, 5, none⟩ = some (.int .u32 RES.code) := KX.cell 5
  have b6 : X.cell? ⟨w.heap.size + 1 + 1, 6, none⟩ = some (.string RES.name) := KX.cell 6
  have b7 : X.cell? ⟨w.heap.size + 1 + 1, 7, none⟩ = some (.string RES.lang) := KX.cell 7
  have b8 : X.cell? ⟨w.heap.size + 1 + 1, 8, none⟩ = some (.bool RES.want) := KX.cell 8
  have b9 : X.cell? ⟨w.heap.size + 1 + 1, 9, none⟩ = some (.slice RES.dA RES.data.length RES.dc) := KX.cell 9
  have z0 : X.cell? ⟨w.heap.size + 1, 0, none⟩ = some (.int .i64 0) := KZ.cell 0
  have y0 := KZ.frozen 0
  have z1 : X.cell? ⟨w.heap.size + 1, 1, none⟩ = some (.int .u32 0) := KZ.cell 1
  have y1 := KZ.frozen 1
  have z2 : X.cell? ⟨w.heap.size + 1, 2, none⟩ = some (.int .u32 0) := KZ.cell 2
  have y2 := KZ.frozen 2
  have z3 : X.cell? ⟨w.heap.size + 1, 3, none⟩ = some (.int .u32 0) := KZ.cell 3
  have y3 := KZ.frozen 3
  have z4 : X.cell? ⟨w.heap.size + 1, 4, none⟩ = some (.int .u32 0) := KZ.cell 4
  have y4 := KZ.frozen 4
  have z5 : X.cell? ⟨w.heap.size + 1, 5, none⟩ = some (.int .u32 0) := KZ.cell 5
  have y5 := KZ.frozen 5
  have z6 : X.cell? ⟨w.heap.size + 1, 6, none⟩ = some (.string ⟨#[]⟩) := KZ.cell 6
  have y6 := KZ.frozen 6
  have z7 : X.cell? ⟨w.heap.size + 1, 7, none⟩ = some (.string ⟨#[]⟩) := KZ.cell 7
  have y7 := KZ.frozen 7
  have z8 : X.cell? ⟨w.heap.size + 1, 8, none⟩ = some (.bool false) := KZ.cell 8
  have y8 := KZ.frozen 8
  have z9 : X.cell? ⟨w.heap.size + 1, 9, none⟩ = some (.slice none 0 0) := KZ.cell 9
  have y9 := KZ.frozen 9
  replace hres := hide hres
  go_wp2_with fail
  (try simp only [Exit.inBlock, Exit.then])
  refine ret_msg RES (g := w.heap.size + 1) rfl (by rfl) (by rfl) (Blk.drew (msetB RES KZ)) ?_
  exact ⟨rfl, Only.drew (msetO RES (.inr (by omega)) OX)⟩

set_option maxRecDepth 100000 in
set_option maxHeartbeats 3200000 in
theorem own_k93 (m : MD) (w : World) (h93 : m.kind = 93) : Calls Tryd.prog 28 #[m.val] w fun e w' => e = .returned (ownM m).val ∧ Only [] w w' := by
  obtain ⟨W, hW⟩ : ∃ W, W = ((w.alloc (.cells m.cells.toArray 47)).alloc (.cells zeroM.cells.toArray 47)).alloc (.cells (firstM m.kind).cells.toArray 47) := ⟨_, rfl⟩
  obtain ⟨O, K1, K2, K3⟩ := own_start w m m.kind W hW
  obtain ⟨RES, hres⟩ : ∃ RES, [9, 7].foldl (cpM m) (firstM m.kind) = RES := ⟨_, rfl⟩
  have ho : ownM m = RES := by rw [← hres]; unfold ownM; rw [h93]; rfl
  rw [ho]
  clear ho
  have hk := h93

  obtain ⟨kind, chan, sender, window, packet, code, name, lang, want, dA, dc, data⟩ := m
  dsimp only at hk
  subst hk
  unfold MD.val
  go_enter Tryd.func28, Tryd.ntmps28
  go_wp2_with fail
  rw [show ((w.alloc (.cells #[.int .i64 93, .int .u32 chan, .int .u32 sender, .int .u32 window, .int .u32 packet, .int .u32 code, .string name, .string lang, .bool want, .slice dA data.length dc] 47)).alloc (.cells #[.int .i64 0, .int .u32 0, .int .u32 0, .int .u32 0, .int .u32 0, .int .u32 0, .string ⟨#[]⟩, .string ⟨#[]⟩, .bool false, .slice none 0 0] 47)).alloc (.cells #[.int .i64 93, .int .u32 0, .int .u32 0, .int .u32 0, .int .u32 0, .int .u32 0, .string ⟨#[]⟩, .string ⟨#[]⟩, .bool false, .slice none 0 0] 47) = W from hW.symm]
  replace hW := hide hW
  have a0 : W.cell? ⟨w.heap.size, 0, none⟩ = some (.int .i64 93) := K1.cell 0
  have a1 : W.cell? ⟨w.heap.size, 1, none⟩ = some (.int .u32 chan) := K1.cell 1
  have a2 : W.cell? ⟨w.heap.size, 2, none⟩ = some (.int .u32 sender) := K1.cell 2
  have a3 : W.cell? ⟨w.heap.size, 3, none⟩ = some (.int .u32 window) := K1.cell 3
  have a4 : W.cell? ⟨w.heap.size, 4, none⟩ = some (.int .u32 packet) := K1.cell 4
  have a5 : W.cell? ⟨w.heap.size, 5, none⟩ = some (.int .u32 code) := K1.cell 5
  have a6 : W.cell? ⟨w.heap.size, 6, none⟩ = some (.string name) := K1.cell 6
  have a7 : W.cell? ⟨w.heap.size, 7, none⟩ = some (.string lang) := K1.cell 7
  have a8 : W.cell? ⟨w.heap.size, 8, none⟩ = some (.bool want) := K1.cell 8
  have a9 : W.cell? ⟨w.heap.size, 9, none⟩ = some (.slice dA data.length dc) := K1.cell 9
  have c1 : W.cell? ⟨w.heap.size + 1 + 1, 1, none⟩ = some (.int .u32 0) := K3.cell 1
  have d1 := K3.frozen 1
  have c3 : W.cell? ⟨w.heap.size + 1 + 1, 3, none⟩ = some (.int .u32 0) := K3.cell 3
  have d3 := K3.frozen 3
  go_region
  obtain ⟨X, hX⟩ : ∃ X, X = ((W.setCell ⟨w.heap.size + 1 + 1, 1, none⟩ (.int .u32 chan)).setCell ⟨w.heap.size + 1 + 1, 3, none⟩ (.int .u32 window)) := ⟨_, rfl⟩
  have OX : Only [] w X := by rw [hX]; exact (Only.setCell (Only.setCell O (p := ⟨w.heap.size + 1 + 1, 1, none⟩) (.inr (by show w.heap.size ≤ w.heap.size + 1 + 1; omega)) (.int .u32 chan)) (p := ⟨w.heap.size + 1 + 1, 3, none⟩) (.inr (by show w.heap.size ≤ w.heap.size + 1 + 1; omega)) (.int .u32 window))
  have KX : Blk X (w.heap.size + 1 + 1) 47 RES.cells := by rw [hX, ← hres]; exact ((K3.set_ 1 (.int .u32 chan)).set_ 3 (.int .u32 window))
  have KZ : Blk X (w.heap.size + 1) 47 zeroM.cells := by rw [hX]; exact (Blk.far (Blk.far K2 (p := ⟨w.heap.size + 1 + 1, 1, none⟩) (by show ¬ w.heap.size + 1 = w.heap.size + 1 + 1; omega) (.int .u32 chan)) (p := ⟨w.heap.size + 1 + 1, 3, none⟩) (by show ¬ w.heap.size + 1 = w.heap.size + 1 + 1; omega) (.int .u32 window))
  rw [← hX]
  replace hX := hide hX
  clear a0 a1 a2 a3 a4 a5 a6 a7 a8 a9 c1 d1 c3 d3
  have b0 : X.cell? ⟨w.heap.size + 1 + 1, 0, none⟩ = some (.int .i64 RES.kind) := KX.cell 0
  have b1 : X.cell? ⟨w.heap.size + 1 + 1, 1, none⟩ = some (.int .u32 RES.chan) := KX.cell 1
  have b2 : X.cell? ⟨w.heap.size + 1 + 1, 2, none⟩ = some (.int .u32 RES.sender) := KX.cell 2
  have b3 : X.cell? ⟨w.heap.size + 1 + 1, 3, none⟩ = some (.int .u32 RES.window) := KX.cell 3
  have b4 : X.cell? ⟨w.heap.size + 1 + 1, 4, none⟩ = some (.int .u32 RES.packet) := KX.cell 4
  have b5 : X.cell? ⟨w.heap.size + 1 + 1, 5, none⟩ = some (.int .u32 RES.code) := KX.cell 5
  have b6 : X.cell? ⟨w.heap.size + 1 + 1, 6, none⟩ = some (.string RES.name) := KX.cell 6
  have b7 : X.cell? ⟨w.heap.size + 1 + 1, 7, none⟩ = some (.string RES.lang) := KX.cell 7
  have b8 : X.cell? ⟨w.heap.size + 1 + 1, 8, none⟩ = some (.bool RES.want) := KX.cell 8
  have b9 : X.cell? ⟨w.heap.size + 1 + 1, 9, none⟩ = some (.slice RES.dA RES.data.length RES.dc) := KX.cell 9
  have z0 : X.cell? ⟨w.heap.size + 1, 0, none⟩ = some (.int .i64 0) := KZ.cell 0
  have y0 := KZ.frozen 0
  have z1 : X.cell? ⟨w.heap.size + 1, 1, none⟩ = some (.int .u32 0) := KZ.cell 1
  have y1 := KZ.frozen 1
  have z2 : X.cell? ⟨w.heap.size + 1, 2, none⟩ = some (.int .u32 0) := KZ.cell 2
  have y2 := KZ.frozen 2
  have z3 : X.cell? ⟨w.heap.size + 1, 3, none⟩ = some (.int .u32 0) := KZ.cell 3
  have y3 := KZ.frozen 3
  have z4 : X.cell? ⟨w.heap.size + 1, 4, none⟩ = some (.int .u32 0) := KZ.cell 4
  have y4 := KZ.frozen 4
  have z5 : X.cell? ⟨w.heap.size + 1, 5, none⟩ = some (.int .u32 0) := KZ.cell 5
  have y5 := KZ.frozen 5
  have z6 : X.cell? ⟨w.heap.size + 1, 6, none⟩ = some (.string ⟨#[]⟩) := KZ.cell 6
  have y6 := KZ.frozen 6
  have z7 : X.cell? ⟨w.heap.size + 1, 7, none⟩ = some (.string ⟨#[]⟩) := KZ.cell 7
  have y7 := KZ.frozen 7
  have z8 : X.cell? ⟨w.heap.size + 1, 8, none⟩ = some (.bool false) := KZ.cell 8
  have y8 := KZ.frozen 8
  have z9 : X.cell? ⟨w.heap.size + 1, 9, none⟩ = some (.slice none 0 0) := KZ.cell 9
  have y9 := KZ.frozen 9
  replace hres := hide hres
  go_wp2_with fail
  (try simp only [Exit.inBlock, Exit.then])
  refine ret_msg RES (g := w.heap.size + 1) rfl (by rfl) (by rfl) (Blk.drew (msetB RES KZ)) ?_
  exact ⟨rfl, Only.drew (msetO RES (.inr (by omega)) OX)⟩

set_option maxRecDepth 100000 in
set_option maxHeartbeats 3200000 in
theorem own_k94 (m : MD) (w : World) (h94 : m.kind = 94) : Calls Tryd.prog 28 #[m.val] w fun e w' => e = .returned (ownM m).val ∧ Only [] w w' := by
  obtain ⟨W, hW⟩ : ∃ W, W = ((w.alloc (.cells m.cells.toArray 47)).alloc (.cells zeroM.cells.toArray 47)).alloc (.cells (firstM m.kind).cells.toArray 47) := ⟨_, rfl⟩
  obtain ⟨O, K1, K2, K3⟩ := own_start w m m.kind W hW
  obtain ⟨RES, hres⟩ : ∃ RES, [9, 1].foldl (cpM m) (firstM m.kind) = RES := ⟨_, rfl⟩
  have ho : ownM m = RES := by rw [← hres]; unfold ownM; rw [h94]; rfl
  rw [ho]
  clear ho
  have hk := h94

  obtain ⟨kind, chan, sender, window, packet, code, name, lang, want, dA, dc, data⟩ := m
  dsimp only at hk
  subst hk
  unfold MD.val
  go_enter Tryd.func28, Tryd.ntmps28
  go_wp2_with fail
  rw [show ((w.alloc (.cells #[.int .i64 94, .int .u32 chan, .int .u32 sender, .int .u32 window, .int .u32 packet, .int .u32 code, .string name, .string lang, .bool want, .slice dA data.length dc] 47)).alloc (.cells #[.int .i64 0, .int .u32 0, .int .u32 0, .int .u32 0, .int .u32 0, .int .u32 0, .string ⟨#[]⟩, .string ⟨#[]⟩, .bool false, .slice none 0 0] 47)).alloc (.cells #[.int .i64 94, .int .u32 0, .int .u32 0, .int .u32 0, .int .u32 0, .int .u32 0, .string ⟨#[]⟩, .string ⟨#[]⟩, .bool false, .slice none 0 0] 47) = W from hW.symm]
  replace hW := hide hW
  have a0 : W.cell? ⟨w.heap.size, 0, none⟩ = some (.int .i64 94) := K1.cell 0
  have a1 : W.cell? ⟨w.heap.size, 1, none⟩ = some (.int .u32 chan) := K1.cell 1
  have a2 : W.cell? ⟨w.heap.size, 2, none⟩ = some (.int .u32 sender) := K1.cell 2
  have a3 : W.cell? ⟨w.heap.size, 3, none⟩ = some (.int .u32 window) := K1.cell 3
  have a4 : W.cell? ⟨w.heap.size, 4, none⟩ = some (.int .u32 packet) := K1.cell 4
  have a5 : W.cell? ⟨w.heap.size, 5, none⟩ = some (.int .u32 code) := K1.cell 5
  have a6 : W.cell? ⟨w.heap.size, 6, none⟩ = some (.string name) := K1.cell 6
  have a7 : W.cell? ⟨w.heap.size, 7, none⟩ = some (.string lang) := K1.cell 7
  have a8 : W.cell? ⟨w.heap.size, 8, none⟩ = some (.bool want) := K1.cell 8
  have a9 : W.cell? ⟨w.heap.size, 9, none⟩ = some (.slice dA data.length dc) := K1.cell 9
  have c1 : W.cell? ⟨w.heap.size + 1 + 1, 1, none⟩ = some (.int .u32 0) := K3.cell 1
  have d1 := K3.frozen 1
  have c9 : W.cell? ⟨w.heap.size + 1 + 1, 9, none⟩ = some (.slice none 0 0) := K3.cell 9
  have d9 := K3.frozen 9
  go_region
  obtain ⟨X, hX⟩ : ∃ X, X = ((W.setCell ⟨w.heap.size + 1 + 1, 1, none⟩ (.int .u32 chan)).setCell ⟨w.heap.size + 1 + 1, 9, none⟩ (.slice dA data.length dc)) := ⟨_, rfl⟩
  have OX : Only [] w X := by rw [hX]; exact (Only.setCell (Only.setCell O (p := ⟨w.heap.size + 1 + 1, 1, none⟩) (.inr (by show w.heap.size ≤ w.heap.size + 1 + 1; omega)) (.int .u32 chan)) (p := ⟨w.heap.size + 1 + 1, 9, none⟩) (.inr (by show w.heap.size ≤ w.heap.size + 1 + 1; omega)) (.slice dA data.length dc))
  have KX : Blk X (w.heap.size + 1 + 1) 47 RES.cells := by rw [hX, ← hres]; exact ((K3.set_ 1 (.int .u32 chan)).set_ 9 (.slice dA data.length dc))
  have KZ : Blk X (w.heap.size + 1) 47 zeroM.cells := by rw [hX]; exact (Blk.far (Blk.far K2 (p := ⟨w.heap.size + 1 + 1, 1, none⟩) (by show ¬ w.heap.size + 1 = w.heap.size + 1 + 1; omega) (.int .u32 chan)) (p := ⟨w.heap.size + 1 + 1, 9, none⟩) (by show ¬ w.heap.size + 1 = w.heap.size + 1 + 1; omega) (.slice dA data.length dc))
  rw [← hX]
  replace hX := hide hX
  clear a0 a1 a2 a3 a4 a5 a6 a7 a8 a9 c1 d1 c9 d9
  have b0 : X.cell? ⟨w.heap.size + 1 + 1, 0, none⟩ = some (.int .i64 RES.kind) := KX.cell 0
  have b1 : X.cell? ⟨w.heap.size + 1 + 1, 1, none⟩ = some (.int .u32 RES.chan) := KX.cell 1
  have b2 : X.cell? ⟨w.heap.size + 1 + 1, 2, none⟩ = some (.int .u32 RES.sender) := KX.cell 2
  have b3 : X.cell? ⟨w.heap.size + 1 + 1, 3, none⟩ = some (.int .u32 RES.window) := KX.cell 3
  have b4 : X.cell? ⟨w.heap.size + 1 + 1, 4, none⟩ = some (.int .u32 RES.packet) := KX.cell 4
  have b5 : X.cell? ⟨w.heap.size + 1 + 1, 5, none⟩ = some (.int .u32 RES.code) := KX.cell 5
  have b6 : X.cell? ⟨w.heap.size + 1 + 1, 6, none⟩ = some (.string RES.name) := KX.cell 6
  have b7 : X.cell? ⟨w.heap.size + 1 + 1, 7, none⟩ = some (.string RES.lang) := KX.cell 7
  have b8 : X.cell? ⟨w.heap.size + 1 + 1, 8, none⟩ = some (.bool RES.want) := KX.cell 8
  have b9 : X.cell? ⟨w.heap.size + 1 + 1, 9, none⟩ = some (.slice RES.dA RES.data.length RES.dc) := KX.cell 9
  have z0 : X.cell? ⟨w.heap.size + 1, 0, none⟩ = some (.int .i64 0) := KZ.cell 0
  have y0 := KZ.frozen 0
  have z1 : X.cell? ⟨w.heap.size + 1, 1, none⟩ = some (.int .u32 0) := KZ.cell 1
  have y1 := KZ.frozen 1
  have z2 : X.cell? ⟨w.heap.size + 1, 2, none⟩ = some (.int .u32 0) := KZ.cell 2
  have y2 := KZ.frozen 2
  have z3 : X.cell? ⟨w.heap.size + 1, 3, none⟩ = some (.int .u32 0) := KZ.cell 3
  have y3 := KZ.frozen 3
  have z4 : X.cell? ⟨w.heap.size + 1, 4, none⟩ = some (.int .u32 0) := KZ.cell 4
  have y4 := KZ.frozen 4
  have z5 : X.cell? ⟨w.heap.size + 1, 5, none⟩ = some (.int .u32 0) := KZ.cell 5
  have y5 := KZ.frozen 5
  have z6 : X.cell? ⟨w.heap.size + 1, 6, none⟩ = some (.string ⟨#[]⟩) := KZ.cell 6
  have y6 := KZ.frozen 6
  have z7 : X.cell? ⟨w.heap.size + 1, 7, none⟩ = some (.string ⟨#[]⟩) := KZ.cell 7
  have y7 := KZ.frozen 7
  have z8 : X.cell? ⟨w.heap.size + 1, 8, none⟩ = some (.bool false) := KZ.cell 8
  have y8 := KZ.frozen 8
  have z9 : X.cell? ⟨w.heap.size + 1, 9, none⟩ = some (.slice none 0 0) := KZ.cell 9
  have y9 := KZ.frozen 9
  replace hres := hide hres
  go_wp2_with fail
  (try simp only [Exit.inBlock, Exit.then])
  refine ret_msg RES (g := w.heap.size + 1) rfl (by rfl) (by rfl) (Blk.drew (msetB RES KZ)) ?_
  exact ⟨rfl, Only.drew (msetO RES (.inr (by omega)) OX)⟩

end Go.Proofs.YtdmjabfjkkjhbaaDoor
