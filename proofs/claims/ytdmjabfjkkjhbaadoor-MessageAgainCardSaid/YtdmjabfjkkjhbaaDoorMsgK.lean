/- Layer 3, the document's answer: Own (a message with the fields of its kind alone); no condition. -/
import Derived.Test.YtdmjabfjkkjhbaaDoorMsgL
import Derived.BigRegion
namespace Go.Proofs.YtdmjabfjkkjhbaaDoor
set_option linter.all false
open Go.RowKit

theorem results_msg {fn : Func} {p : Tmp} (h : fn.results = #[.cell p 47]) (tmps : Array Value) (w : World) (g : Nat) (cs : Array Value) (hs : cs.size = 10)
    (hp : tmps.getD p undef = .pointer (some ⟨g, 0, none⟩)) (hg : w.heap[g]? = some (.cells cs 47 (0, 0))) :
    (results fn tmps).run Tryd.prog w = .ok (.agg cs) w := by
  have hp' : tmps[p]?.getD undef = .pointer (some ⟨g, 0, none⟩) := by simpa using hp
  simp [results, h, hp', asAddr, run_loadVar_row w g 47 47 cs (0, 0) _ hg Tryd.underlying47 rfl (by rw [hs]; kernel_rfl)]
theorem ret_msg {fn : Func} {p : Tmp} {R : Ending → World → Prop} {a : Act} {w : World} {g : Nat} (m : MD) (h : fn.results = #[.cell p 47]) (hp : a.tmps.getD p undef = .pointer (some ⟨g, 0, none⟩)) (hd : a.defers = [])
    (hg : Blk w g 47 m.cells) (hR : R (.returned m.val) w) : bodyPost Tryd.prog fn R .ret a w :=
  bodyPost_ret (results_msg h _ w g m.cells.toArray rfl hp hg) hd hR
theorem own_start (w : World) (m : MD) (k : Int) (W : World) (h : W = ((w.alloc (.cells m.cells.toArray 47)).alloc (.cells zeroM.cells.toArray 47)).alloc (.cells (firstM k).cells.toArray 47)) :
    Only [] w W ∧ Blk W w.heap.size 47 m.cells ∧ Blk W (w.heap.size + 1) 47 zeroM.cells ∧ Blk W (w.heap.size + 1 + 1) 47 (firstM k).cells := by
  subst h
  have e1 : (w.alloc (.cells m.cells.toArray 47)).heap.size = w.heap.size + 1 := by simp
  have e2 : ((w.alloc (.cells m.cells.toArray 47)).alloc (.cells zeroM.cells.toArray 47)).heap.size = w.heap.size + 1 + 1 := by simp
  refine ⟨(((Only.refl [] w).alloc _).alloc _).alloc _, ((Blk.new w _ _).alloc _).alloc _, ?_, ?_⟩
  · have := (Blk.new (w.alloc (.cells m.cells.toArray 47)) 47 zeroM.cells).alloc (.cells (firstM k).cells.toArray 47)
    rw [e1] at this
    exact this
  · have := Blk.new ((w.alloc (.cells m.cells.toArray 47)).alloc (.cells zeroM.cells.toArray 47)) 47 (firstM k).cells
    rw [e2] at this
    exact this
theorem own_end (w : World) (a1 a3 : Array Value) (c2 : List Value) : Only [] w (((w.alloc (.cells a1 47)).alloc (.cells c2.toArray 47)).alloc (.cells a3 47)) ∧ Blk (((w.alloc (.cells a1 47)).alloc (.cells c2.toArray 47)).alloc (.cells a3 47)) (w.heap.size + 1) 47 c2 := by
  refine ⟨(((Only.refl [] w).alloc _).alloc _).alloc _, ?_⟩
  have := (Blk.new (w.alloc (.cells a1 47)) 47 c2).alloc (.cells a3 47)
  rwa [show (w.alloc (.cells a1 47)).heap.size = w.heap.size + 1 by simp] at this
set_option maxRecDepth 100000 in
set_option maxHeartbeats 3200000 in
theorem own_k1 (m : MD) (w : World) (h1 : m.kind = 1) : Calls Tryd.prog 28 #[m.val] w fun e w' => e = .returned (ownM m).val ∧ Only [] w w' := by
  obtain ⟨W, hW⟩ : ∃ W, W = ((w.alloc (.cells m.cells.toArray 47)).alloc (.cells zeroM.cells.toArray 47)).alloc (.cells (firstM m.kind).cells.toArray 47) := ⟨_, rfl⟩
  obtain ⟨O, K1, K2, K3⟩ := own_start w m m.kind W hW
  obtain ⟨RES, hres⟩ : ∃ RES, [0, 1, 2].foldl (cpM m) (firstM m.kind) = RES := ⟨_, rfl⟩
  have ho : ownM m = RES := by rw [← hres]; unfold ownM; rw [h1]; rfl
  rw [ho]
  clear ho
  have hk := h1

  obtain ⟨kind, chan, sender, window, packet, code, name, lang, want, dA, dc, data⟩ := m
  dsimp only at hk
  subst hk
  unfold MD.val
  go_enter Tryd.func28, Tryd.ntmps28
  go_wp2_with fail
  rw [show ((w.alloc (.cells #[.int .i64 1, .int .u32 chan, .int .u32 sender, .int .u32 window, .int .u32 packet, .int .u32 code, .string name, .string lang, .bool want, .slice dA data.length dc] 47)).alloc (.cells #[.int .i64 0, .int .u32 0, .int .u32 0, .int .u32 0, .int .u32 0, .int .u32 0, .string ⟨#[]⟩, .string ⟨#[]⟩, .bool false, .slice none 0 0] 47)).alloc (.cells #[.int .i64 1, .int .u32 0, .int .u32 0, .int .u32 0, .int .u32 0, .int .u32 0, .string ⟨#[]⟩, .string ⟨#[]⟩, .bool false, .slice none 0 0] 47) = W from hW.symm]
  replace hW := hide hW
  have a0 : W.cell? ⟨w.heap.size, 0, none⟩ = some (.int .i64 1) := K1.cell 0
  have a1 : W.cell? ⟨w.heap.size, 1, none⟩ = some (.int .u32 chan) := K1.cell 1
  have a2 : W.cell? ⟨w.heap.size, 2, none⟩ = some (.int .u32 sender) := K1.cell 2
  have a3 : W.cell? ⟨w.heap.size, 3, none⟩ = some (.int .u32 window) := K1.cell 3
  have a4 : W.cell? ⟨w.heap.size, 4, none⟩ = some (.int .u32 packet) := K1.cell 4
  have a5 : W.cell? ⟨w.heap.size, 5, none⟩ = some (.int .u32 code) := K1.cell 5
  have a6 : W.cell? ⟨w.heap.size, 6, none⟩ = some (.string name) := K1.cell 6
  have a7 : W.cell? ⟨w.heap.size, 7, none⟩ = some (.string lang) := K1.cell 7
  have a8 : W.cell? ⟨w.heap.size, 8, none⟩ = some (.bool want) := K1.cell 8
  have a9 : W.cell? ⟨w.heap.size, 9, none⟩ = some (.slice dA data.length dc) := K1.cell 9
  have c5 : W.cell? ⟨w.heap.size + 1 + 1, 5, none⟩ = some (.int .u32 0) := K3.cell 5
  have d5 := K3.frozen 5
  have c7 : W.cell? ⟨w.heap.size + 1 + 1, 7, none⟩ = some (.string ⟨#[]⟩) := K3.cell 7
  have d7 := K3.frozen 7
  have c9 : W.cell? ⟨w.heap.size + 1 + 1, 9, none⟩ = some (.slice none 0 0) := K3.cell 9
  have d9 := K3.frozen 9
  go_region
  obtain ⟨X, hX⟩ : ∃ X, X = (((W.setCell ⟨w.heap.size + 1 + 1, 5, none⟩ (.int .u32 code)).setCell ⟨w.heap.size + 1 + 1, 9, none⟩ (.slice dA data.length dc)).setCell ⟨w.heap.size + 1 + 1, 7, none⟩ (.string lang)) := ⟨_, rfl⟩
  have OX : Only [] w X := by rw [hX]; exact (Only.setCell (Only.setCell (Only.setCell O (p := ⟨w.heap.size + 1 + 1, 5, none⟩) (.inr (by show w.heap.size ≤ w.heap.size + 1 + 1; omega)) (.int .u32 code)) (p := ⟨w.heap.size + 1 + 1, 9, none⟩) (.inr (by show w.heap.size ≤ w.heap.size + 1 + 1; omega)) (.slice dA data.length dc)) (p := ⟨w.heap.size + 1 + 1, 7, none⟩) (.inr (by show w.heap.size ≤ w.heap.size + 1 + 1; omega)) (.string lang))
  have KX : Blk X (w.heap.size + 1 + 1) 47 RES.cells := by rw [hX, ← hres]; exact (((K3.set_ 5 (.int .u32 code)).set_ 9 (.slice dA data.length dc)).set_ 7 (.string lang))
  have KZ : Blk X (w.heap.size + 1) 47 zeroM.cells := by rw [hX]; exact (Blk.far (Blk.far (Blk.far K2 (p := ⟨w.heap.size + 1 + 1, 5, none⟩) (by show ¬ w.heap.size + 1 = w.heap.size + 1 + 1; omega) (.int .u32 code)) (p := ⟨w.heap.size + 1 + 1, 9, none⟩) (by show ¬ w.heap.size + 1 = w.heap.size + 1 + 1; omega) (.slice dA data.length dc)) (p := ⟨w.heap.size + 1 + 1, 7, none⟩) (by show ¬ w.heap.size + 1 = w.heap.size + 1 + 1; omega) (.string lang))
  rw [← hX]
  replace hX := hide hX
  clear a0 a1 a2 a3 a4 a5 a6 a7 a8 a9 c5 d5 c7 d7 c9 d9
  have b0 : X.cell? ⟨w.heap.size + 1 + 1, 0, none⟩ = some (.int .i64 RES.kind) := KX.cell 0
  have b1 : X.cell? ⟨w.heap.size + 1 + 1, 1, none⟩ = some (.int .u32 RES.chan) := KX.cell 1
  have b2 : X.cell? ⟨w.heap.size + 1 + 1, 2, none⟩ = some (.int .u32 RES.sender) := KX.cell 2
  have b3 : X.cell? ⟨w.heap.size + 1 + 1, 3, none⟩ = some (.int .u32 RES.window) := KX.cell 3
  have b4 : X.cell? ⟨w.heap.size + 1 + 1, 4, none⟩ = some (.int .u32 RES.packet) := KX.cell 4
  have b5 : X.cell? ⟨w.heap.size + 1 + 1, 5, none⟩ = some (.int .u32 RES.code) := KX.cell 5
  have b6 : X.cell? ⟨w.heap.size + 1 + 1, 6, none⟩ = some (.string RES.name) := KX.cell 6
  have b7 : X.cell? ⟨w.heap.size + 1 + 1, 7, none⟩ = some (.string RES.lang) := KX.cell 7
  have b8 : X.cell? ⟨w.heap.size + 1 + 1, 8, none⟩ = some (.bool RES.want) := KX.cell 8
  have b9 : X.cell? ⟨w.heap.size + 1 + 1, 9, none⟩ = some (.slice RES.dA RES.data.length RES.dc) := KX.cell 9
  have z0 : X.cell? ⟨w.heap.size + 1, 0, none⟩ = some (.int .i64 0) := KZ.cell 0
  have y0 := KZ.frozen 0
  have z1 : X.cell? ⟨w.heap.size + 1, 1, none⟩ = some (.int .u32 0) := KZ.cell 1
  have y1 := KZ.frozen 1
  have z2 : X.cell? ⟨w.heap.size + 1, 2, none⟩ = some (.int .u32 0) := KZ.cell 2
  have y2 := KZ.frozen 2
  have z3 : X.cell? ⟨w.heap.size + 1, 3, none⟩ = some (.int .u32 0) := KZ.cell 3
  have y3 := KZ.frozen 3
  have z4 : X.cell? ⟨w.heap.size + 1, 4, none⟩ = some (.int .u32 0) := KZ.cell 4
  have y4 := KZ.frozen 4
  have z5 : X.cell? ⟨w.heap.size + 1, 5, none⟩ = some (.int .u32 0) := KZ.cell 5
  have y5 := KZ.frozen 5
  have z6 : X.cell? ⟨w.heap.size + 1, 6, none⟩ = some (.string ⟨#[]⟩) := KZ.cell 6
  have y6 := KZ.frozen 6
  have z7 : X.cell? ⟨w.heap.size + 1, 7, none⟩ = some (.string ⟨#[]⟩) := KZ.cell 7
  have y7 := KZ.frozen 7
  have z8 : X.cell? ⟨w.heap.size + 1, 8, none⟩ = some (.bool false) := KZ.cell 8
  have y8 := KZ.frozen 8
  have z9 : X.cell? ⟨w.heap.size + 1, 9, none⟩ = some (.slice none 0 0) := KZ.cell 9
  have y9 := KZ.frozen 9
  replace hres := hide hres
  go_wp2_with fail
  (try simp only [Exit.inBlock, Exit.then])
  refine ret_msg RES (g := w.heap.size + 1) rfl (by rfl) (by rfl) (Blk.drew (msetB RES KZ)) ?_
  exact ⟨rfl, Only.drew (msetO RES (.inr (by omega)) OX)⟩

set_option maxRecDepth 100000 in
set_option maxHeartbeats 3200000 in
theorem own_k81 (m : MD) (w : World) (h81 : m.kind = 81) : Calls Tryd.prog 28 #[m.val] w fun e w' => e = .returned (ownM m).val ∧ Only [] w w' := by
  obtain ⟨W, hW⟩ : ∃ W, W = ((w.alloc (.cells m.cells.toArray 47)).alloc (.cells zeroM.cells.toArray 47)).alloc (.cells (firstM m.kind).cells.toArray 47) := ⟨_, rfl⟩
  obtain ⟨O, K1, K2, K3⟩ := own_start w m m.kind W hW
  obtain ⟨RES, hres⟩ : ∃ RES, [5].foldl (cpM m) (firstM m.kind) = RES := ⟨_, rfl⟩
  have ho : ownM m = RES := by rw [← hres]; unfold ownM; rw [h81]; rfl
  rw [ho]
  clear ho
  have hk := h81

  obtain ⟨kind, chan, sender, window, packet, code, name, lang, want, dA, dc, data⟩ := m
  dsimp only at hk
  subst hk
  unfold MD.val
  go_enter Tryd.func28, Tryd.ntmps28
  go_wp2_with fail
  (try simp only [Exit.inBlock, Exit.then])
  refine ret_msg RES (g := w.heap.size + 1) rfl (by rfl) (by rfl) (by rw [← hres]; exact (own_end w _ _ _).2) ?_
  exact ⟨rfl, (own_end w _ _ _).1⟩

set_option maxRecDepth 100000 in
set_option maxHeartbeats 3200000 in
theorem own_k82 (m : MD) (w : World) (h82 : m.kind = 82) : Calls Tryd.prog 28 #[m.val] w fun e w' => e = .returned (ownM m).val ∧ Only [] w w' := by
  obtain ⟨W, hW⟩ : ∃ W, W = ((w.alloc (.cells m.cells.toArray 47)).alloc (.cells zeroM.cells.toArray 47)).alloc (.cells (firstM m.kind).cells.toArray 47) := ⟨_, rfl⟩
  obtain ⟨O, K1, K2, K3⟩ := own_start w m m.kind W hW
  obtain ⟨RES, hres⟩ : ∃ RES, [].foldl (cpM m) (firstM m.kind) = RES := ⟨_, rfl⟩
  have ho : ownM m = RES := by rw [← hres]; unfold ownM; rw [h82]; rfl
  rw [ho]
  clear ho
  have hk := h82

  obtain ⟨kind, chan, sender, window, packet, code, name, lang, want, dA, dc, data⟩ := m
  dsimp only at hk
  subst hk
  unfold MD.val
  go_enter Tryd.func28, Tryd.ntmps28
  go_wp2_with fail
  (try simp only [Exit.inBlock, Exit.then])
  refine ret_msg RES (g := w.heap.size + 1) rfl (by rfl) (by rfl) (by rw [← hres]; exact (own_end w _ _ _).2) ?_
  exact ⟨rfl, (own_end w _ _ _).1⟩

set_option maxRecDepth 100000 in
set_option maxHeartbeats 3200000 in
theorem own_k96 (m : MD) (w : World) (h96 : m.kind = 96) : Calls Tryd.prog 28 #[m.val] w fun e w' => e = .returned (ownM m).val ∧ Only [] w w' := by
  obtain ⟨W, hW⟩ : ∃ W, W = ((w.alloc (.cells m.cells.toArray 47)).alloc (.cells zeroM.cells.toArray 47)).alloc (.cells (firstM m.kind).cells.toArray 47) := ⟨_, rfl⟩
  obtain ⟨O, K1, K2, K3⟩ := own_start w m m.kind W hW
  obtain ⟨RES, hres⟩ : ∃ RES, [9].foldl (cpM m) (firstM m.kind) = RES := ⟨_, rfl⟩
  have ho : ownM m = RES := by rw [← hres]; unfold ownM; rw [h96]; rfl
  rw [ho]
  clear ho
  have hk := h96

  obtain ⟨kind, chan, sender, window, packet, code, name, lang, want, dA, dc, data⟩ := m
  dsimp only at hk
  subst hk
  unfold MD.val
  go_enter Tryd.func28, Tryd.ntmps28
  go_wp2_with fail
  (try simp only [Exit.inBlock, Exit.then])
  refine ret_msg RES (g := w.heap.size + 1) rfl (by rfl) (by rfl) (by rw [← hres]; exact (own_end w _ _ _).2) ?_
  exact ⟨rfl, (own_end w _ _ _).1⟩

set_option maxRecDepth 100000 in
set_option maxHeartbeats 3200000 in
theorem own_k97 (m : MD) (w : World) (h97 : m.kind = 97) : Calls Tryd.prog 28 #[m.val] w fun e w' => e = .returned (ownM m).val ∧ Only [] w w' := by
  obtain ⟨W, hW⟩ : ∃ W, W = ((w.alloc (.cells m.cells.toArray 47)).alloc (.cells zeroM.cells.toArray 47)).alloc (.cells (firstM m.kind).cells.toArray 47) := ⟨_, rfl⟩
  obtain ⟨O, K1, K2, K3⟩ := own_start w m m.kind W hW
  obtain ⟨RES, hres⟩ : ∃ RES, [9].foldl (cpM m) (firstM m.kind) = RES := ⟨_, rfl⟩
  have ho : ownM m = RES := by rw [← hres]; unfold ownM; rw [h97]; rfl
  rw [ho]
  clear ho
  have hk := h97

  obtain ⟨kind, chan, sender, window, packet, code, name, lang, want, dA, dc, data⟩ := m
  dsimp only at hk
  subst hk
  unfold MD.val
  go_enter Tryd.func28, Tryd.ntmps28
  go_wp2_with fail
  (try simp only [Exit.inBlock, Exit.then])
  refine ret_msg RES (g := w.heap.size + 1) rfl (by rfl) (by rfl) (by rw [← hres]; exact (own_end w _ _ _).2) ?_
  exact ⟨rfl, (own_end w _ _ _).1⟩

set_option maxRecDepth 100000 in
set_option maxHeartbeats 3200000 in
theorem own_k99 (m : MD) (w : World) (h99 : m.kind = 99) : Calls Tryd.prog 28 #[m.val] w fun e w' => e = .returned (ownM m).val ∧ Only [] w w' := by
  obtain ⟨W, hW⟩ : ∃ W, W = ((w.alloc (.cells m.cells.toArray 47)).alloc (.cells zeroM.cells.toArray 47)).alloc (.cells (firstM m.kind).cells.toArray 47) := ⟨_, rfl⟩
  obtain ⟨O, K1, K2, K3⟩ := own_start w m m.kind W hW
  obtain ⟨RES, hres⟩ : ∃ RES, [9].foldl (cpM m) (firstM m.kind) = RES := ⟨_, rfl⟩
  have ho : ownM m = RES := by rw [← hres]; unfold ownM; rw [h99]; rfl
  rw [ho]
  clear ho
  have hk := h99

  obtain ⟨kind, chan, sender, window, packet, code, name, lang, want, dA, dc, data⟩ := m
  dsimp only at hk
  subst hk
  unfold MD.val
  go_enter Tryd.func28, Tryd.ntmps28
  go_wp2_with fail
  (try simp only [Exit.inBlock, Exit.then])
  refine ret_msg RES (g := w.heap.size + 1) rfl (by rfl) (by rfl) (by rw [← hres]; exact (own_end w _ _ _).2) ?_
  exact ⟨rfl, (own_end w _ _ _).1⟩

set_option maxRecDepth 100000 in
set_option maxHeartbeats 3200000 in
theorem own_k100 (m : MD) (w : World) (h100 : m.kind = 100) : Calls Tryd.prog 28 #[m.val] w fun e w' => e = .returned (ownM m).val ∧ Only [] w w' := by
  obtain ⟨W, hW⟩ : ∃ W, W = ((w.alloc (.cells m.cells.toArray 47)).alloc (.cells zeroM.cells.toArray 47)).alloc (.cells (firstM m.kind).cells.toArray 47) := ⟨_, rfl⟩
  obtain ⟨O, K1, K2, K3⟩ := own_start w m m.kind W hW
  obtain ⟨RES, hres⟩ : ∃ RES, [9].foldl (cpM m) (firstM m.kind) = RES := ⟨_, rfl⟩
  have ho : ownM m = RES := by rw [← hres]; unfold ownM; rw [h100]; rfl
  rw [ho]
  clear ho
  have hk := h100

  obtain ⟨kind, chan, sender, window, packet, code, name, lang, want, dA, dc, data⟩ := m
  dsimp only at hk
  subst hk
  unfold MD.val
  go_enter Tryd.func28, Tryd.ntmps28
  go_wp2_with fail
  (try simp only [Exit.inBlock, Exit.then])
  refine ret_msg RES (g := w.heap.size + 1) rfl (by rfl) (by rfl) (by rw [← hres]; exact (own_end w _ _ _).2) ?_
  exact ⟨rfl, (own_end w _ _ _).1⟩

set_option maxRecDepth 100000 in
set_option maxHeartbeats 3200000 in
theorem own_none (m : MD) (w : World) (h1 : ¬ m.kind = 1) (h80 : ¬ m.kind = 80) (h81 : ¬ m.kind = 81) (h82 : ¬ m.kind = 82) (h90 : ¬ m.kind = 90) (h91 : ¬ m.kind = 91) (h92 : ¬ m.kind = 92) (h93 : ¬ m.kind = 93) (h94 : ¬ m.kind = 94) (h95 : ¬ m.kind = 95) (h96 : ¬ m.kind = 96) (h97 : ¬ m.kind = 97) (h99 : ¬ m.kind = 99) (h100 : ¬ m.kind = 100) (h98 : ¬ m.kind = 98) : Calls Tryd.prog 28 #[m.val] w fun e w' => e = .returned (ownM m).val ∧ Only [] w w' := by
  obtain ⟨W, hW⟩ : ∃ W, W = ((w.alloc (.cells m.cells.toArray 47)).alloc (.cells zeroM.cells.toArray 47)).alloc (.cells (firstM m.kind).cells.toArray 47) := ⟨_, rfl⟩
  obtain ⟨O, K1, K2, K3⟩ := own_start w m m.kind W hW
  obtain ⟨RES, hres⟩ : ∃ RES, [].foldl (cpM m) (firstM m.kind) = RES := ⟨_, rfl⟩
  have hr : rowL m.kind = none := by unfold rowL; simp [*]
  have ho : ownM m = RES := by rw [← hres]; unfold ownM; rw [hr]; rfl
  rw [ho]
  clear ho
  obtain ⟨kind, chan, sender, window, packet, code, name, lang, want, dA, dc, data⟩ := m
  dsimp only at h1 h80 h81 h82 h90 h91 h92 h93 h94 h95 h96 h97 h99 h100 h98
  have e1 : (kind == 1) = false := by simpa using h1
  have e80 : (kind == 80) = false := by simpa using h80
  have e81 : (kind == 81) = false := by simpa using h81
  have e82 : (kind == 82) = false := by simpa using h82
  have e90 : (kind == 90) = false := by simpa using h90
  have e91 : (kind == 91) = false := by simpa using h91
  have e92 : (kind == 92) = false := by simpa using h92
  have e93 : (kind == 93) = false := by simpa using h93
  have e94 : (kind == 94) = false := by simpa using h94
  have e95 : (kind == 95) = false := by simpa using h95
  have e96 : (kind == 96) = false := by simpa using h96
  have e97 : (kind == 97) = false := by simpa using h97
  have e99 : (kind == 99) = false := by simpa using h99
  have e100 : (kind == 100) = false := by simpa using h100
  have e98 : (kind == 98) = false := by simpa using h98
  unfold MD.val
  go_enter Tryd.func28, Tryd.ntmps28
  go_wp2_with fail
  (try simp only [Exit.inBlock, Exit.then])
  refine ret_msg RES (g := w.heap.size + 1) rfl (by rfl) (by rfl) (by rw [← hres]; exact (own_end w _ _ _).2) ?_
  exact ⟨rfl, (own_end w _ _ _).1⟩
end Go.Proofs.YtdmjabfjkkjhbaaDoor
