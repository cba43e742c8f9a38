/- The document's answer for layer 4: Own; no condition. -/
import Derived.Test.YtmpeidliacbelaaDoorReqI
import Derived.Test.YtmpeidliacbelaaDoorHeldB
namespace Go.Proofs.YtmpeidliacbelaaDoor
set_option linter.all false
open Go.RowKit

/-- One result in memory. -/
theorem ret_row1 {P : Program} {fn : Func} {p : Tmp} {T : TypeId} {R : Ending → World → Prop} {a : Act} {w : World} {g : Nat} {d : TypeDesc} (cs : Array Value) (h : fn.results = #[.cell p T]) (hp : a.tmps.getD p undef = .pointer (some ⟨g, 0, none⟩)) (hd : a.defers = [])
    (hg : w.heap[g]? = some (.cells cs T (0, 0))) (hu : P.underlying T = some d) (hk : (match d with | .struct _ | .array _ _ => true | _ => false) = true) (hs : (P.info? T).map (·.size) = some cs.size)
    (hR : R (.returned (.agg cs)) w) : bodyPost P fn R .ret a w := by
  refine bodyPost_ret (v := .agg cs) ?_ hd hR
  have hp' : a.tmps[p]?.getD undef = .pointer (some ⟨g, 0, none⟩) := by simpa using hp
  simp [results, h, hp', asAddr, run_loadVar_row (P := P) w g T T cs (0, 0) d hg hu hk hs]
theorem ret_req1 {fn : Func} {p : Tmp} {R : Ending → World → Prop} {a : Act} {w : World} {g : Nat} (m : RQ) (h : fn.results = #[.cell p 28]) (hp : a.tmps.getD p undef = .pointer (some ⟨g, 0, none⟩)) (hd : a.defers = [])
    (hg : Blk w g 28 m.cells) (hR : R (.returned m.val) w) : bodyPost Tryd.prog fn R .ret a w :=
  ret_row1 m.cells.toArray h hp hd hg Tryd.underlying28 rfl (by unfold RQ.cells; kernel_rfl) hR
theorem rown_start (w : World) (m : RQ) (k : Nat) (W : World) (h : W = ((w.alloc (.cells m.cells.toArray 28)).alloc (.cells zeroR.cells.toArray 28)).alloc (.cells (firstR k).cells.toArray 28)) :
    Only [] w W ∧ Blk W w.heap.size 28 m.cells ∧ Blk W (w.heap.size + 1) 28 zeroR.cells ∧ Blk W (w.heap.size + 1 + 1) 28 (firstR k).cells := by
  subst h
  have e1 : (w.alloc (.cells m.cells.toArray 28)).heap.size = w.heap.size + 1 := by simp
  have e2 : ((w.alloc (.cells m.cells.toArray 28)).alloc (.cells zeroR.cells.toArray 28)).heap.size = w.heap.size + 1 + 1 := by simp
  refine ⟨(((Only.refl [] w).alloc _).alloc _).alloc _, ((Blk.new w _ _).alloc _).alloc _, ?_, ?_⟩
  · have := (Blk.new (w.alloc (.cells m.cells.toArray 28)) 28 zeroR.cells).alloc (.cells (firstR k).cells.toArray 28)
    rw [e1] at this
    exact this
  · have := Blk.new ((w.alloc (.cells m.cells.toArray 28)).alloc (.cells zeroR.cells.toArray 28)) 28 (firstR k).cells
    rw [e2] at this
    exact this
theorem rown_end (w : World) (a1 a3 : Array Value) (c2 : List Value) : Only [] w (((w.alloc (.cells a1 28)).alloc (.cells c2.toArray 28)).alloc (.cells a3 28)) ∧ Blk (((w.alloc (.cells a1 28)).alloc (.cells c2.toArray 28)).alloc (.cells a3 28)) (w.heap.size + 1) 28 c2 := by
  refine ⟨(((Only.refl [] w).alloc _).alloc _).alloc _, ?_⟩
  have := (Blk.new (w.alloc (.cells a1 28)) 28 c2).alloc (.cells a3 28)
  rwa [show (w.alloc (.cells a1 28)).heap.size = w.heap.size + 1 by simp] at this
set_option maxRecDepth 100000 in
set_option maxHeartbeats 3200000 in
theorem rown_k1 (m : RQ) (w : World) (hk : m.kind = 1) : Calls Tryd.prog 10 #[m.val] w fun e w' => e = .returned (ownK m 1).val ∧ Only [] w w' := by
  obtain ⟨kind, text, value, lang, cols, rows, width, height, mA, mc, modes, on, code⟩ := m
  dsimp only at hk
  subst hk
  obtain ⟨W, hW⟩ : ∃ W, W = ((w.alloc (.cells #[.int .i64 1, .string text, .string value, .string lang, .int .u32 cols, .int .u32 rows, .int .u32 width, .int .u32 height, .slice mA modes.length mc, .bool on, .int .u32 code] 28)).alloc (.cells #[.int .i64 0, .string ⟨#[]⟩, .string ⟨#[]⟩, .string ⟨#[]⟩, .int .u32 0, .int .u32 0, .int .u32 0, .int .u32 0, .slice none 0 0, .bool false, .int .u32 0] 28)).alloc (.cells #[.int .i64 1, .string ⟨#[]⟩, .string ⟨#[]⟩, .string ⟨#[]⟩, .int .u32 0, .int .u32 0, .int .u32 0, .int .u32 0, .slice none 0 0, .bool false, .int .u32 0] 28) := ⟨_, rfl⟩
  obtain ⟨O, K1, K2, K3⟩ := rown_start w ⟨1, text, value, lang, cols, rows, width, height, mA, mc, modes, on, code⟩ 1 W hW
  unfold RQ.val
  go_enter Tryd.func10, Tryd.ntmps10
  go_wp2_with fail
  rw [← hW]
  replace hW := hide hW
  have hI : (fun w' : World => Blk w' w.heap.size 28 [.int .i64 1, .string text, .string value, .string lang, .int .u32 cols, .int .u32 rows, .int .u32 width, .int .u32 height, .slice mA modes.length mc, .bool on, .int .u32 code]) { W with drawn := W.drawn + 1 } := K1
  refine wp_region_E (fun w' : World => Blk w' w.heap.size 28 [.int .i64 1, .string text, .string value, .string lang, .int .u32 cols, .int .u32 rows, .int .u32 width, .int .u32 height, .slice mA modes.length mc, .bool on, .int .u32 code]) [] (by kernel_rfl) ?_
  refine wpAnyE_take 0 (v := (.pointer (some ⟨w.heap.size, 1, none⟩))) rfl (by kernel_rfl) (fun _ _ _ h => h) hI (fun w' hw' => Or.inl ⟨by kernel_rfl, Or.inl (by go_simp)⟩) ?_
  refine wpAnyE_take 1 (v := (.string text)) rfl (by kernel_rfl) (fun _ _ _ h => h) hI (fun w' hw' => Or.inl ⟨by kernel_rfl, Or.inl (by have y1 : w'.cell? ⟨w.heap.size, 1, none⟩ = some (.string text) := hw'.cell 1; go_simp)⟩) ?_
  refine wpAnyE_take 2 (v := (.pointer (some ⟨w.heap.size, 4, none⟩))) rfl (by kernel_rfl) (fun _ _ _ h => h) hI (fun w' hw' => Or.inl ⟨by kernel_rfl, Or.inl (by go_simp)⟩) ?_
  refine wpAnyE_take 3 (v := (.agg #[.int .u32 cols, .int .u32 rows, .int .u32 width, .int .u32 height])) rfl (by kernel_rfl) (fun _ _ _ h => h) hI (fun w' hw' => Or.inl ⟨by kernel_rfl, Or.inl (by have y4 : w'.cell? ⟨w.heap.size, 4, none⟩ = some (.int .u32 cols) := hw'.cell 4; have y5 : w'.cell? ⟨w.heap.size, 5, none⟩ = some (.int .u32 rows) := hw'.cell 5; have y6 : w'.cell? ⟨w.heap.size, 6, none⟩ = some (.int .u32 width) := hw'.cell 6; have y7 : w'.cell? ⟨w.heap.size, 7, none⟩ = some (.int .u32 height) := hw'.cell 7; go_simp)⟩) ?_
  refine wpAnyE_take 4 (v := (.pointer (some ⟨w.heap.size, 8, none⟩))) rfl (by kernel_rfl) (fun _ _ _ h => h) hI (fun w' hw' => Or.inl ⟨by kernel_rfl, Or.inl (by go_simp)⟩) ?_
  refine wpAnyE_take 5 (v := (.slice mA modes.length mc)) rfl (by kernel_rfl) (fun _ _ _ h => h) hI (fun w' hw' => Or.inl ⟨by kernel_rfl, Or.inl (by have y8 : w'.cell? ⟨w.heap.size, 8, none⟩ = some (.slice mA modes.length mc) := hw'.cell 8; go_simp)⟩) ?_
  have c1 : W.cell? ⟨w.heap.size + 1 + 1, 1, none⟩ = some (.string ⟨#[]⟩) := K3.cell 1
  have d1 := K3.frozen 1
  have c4 : W.cell? ⟨w.heap.size + 1 + 1, 4, none⟩ = some (.int .u32 0) := K3.cell 4
  have d4 := K3.frozen 4
  have c5 : W.cell? ⟨w.heap.size + 1 + 1, 5, none⟩ = some (.int .u32 0) := K3.cell 5
  have d5 := K3.frozen 5
  have c6 : W.cell? ⟨w.heap.size + 1 + 1, 6, none⟩ = some (.int .u32 0) := K3.cell 6
  have d6 := K3.frozen 6
  have c7 : W.cell? ⟨w.heap.size + 1 + 1, 7, none⟩ = some (.int .u32 0) := K3.cell 7
  have d7 := K3.frozen 7
  have c8 : W.cell? ⟨w.heap.size + 1 + 1, 8, none⟩ = some (.slice none 0 0) := K3.cell 8
  have d8 := K3.frozen 8
  refine wpAnyE_take 6 (v := (.pointer (some ⟨w.heap.size + 1 + 1, 1, none⟩))) rfl (by kernel_rfl) (fun _ _ _ h => h) hI (fun w' hw' => Or.inl ⟨by kernel_rfl, Or.inl (by go_simp)⟩) ?_
  refine wpAnyE_one 7 rfl (by kernel_rfl) hI (fun K hK => ?_)
  rw [if_pos (by kernel_rfl)]
  go_simp
  refine hK _ _ ?_
  clear hK K
  replace hI := Blk.drew (Blk.far K1 (p := ⟨w.heap.size + 1 + 1, 1, none⟩) (by show ¬ w.heap.size = w.heap.size + 1 + 1; omega) (.string text))
  refine wpAnyE_take 8 (v := (.pointer (some ⟨w.heap.size + 1 + 1, 4, none⟩))) rfl (by kernel_rfl) (fun _ _ _ h => h) hI (fun w' hw' => Or.inl ⟨by kernel_rfl, Or.inl (by go_simp)⟩) ?_
  refine wpAnyE_one 9 rfl (by kernel_rfl) hI (fun K hK => ?_)
  rw [if_pos (by kernel_rfl)]
  go_simp
  refine hK _ _ ?_
  clear hK K
  replace hI := Blk.drew (Blk.far (Blk.far (Blk.far (Blk.far (Blk.far K1 (p := ⟨w.heap.size + 1 + 1, 1, none⟩) (by show ¬ w.heap.size = w.heap.size + 1 + 1; omega) (.string text)) (p := ⟨w.heap.size + 1 + 1, 4, none⟩) (by show ¬ w.heap.size = w.heap.size + 1 + 1; omega) (.int .u32 cols)) (p := ⟨w.heap.size + 1 + 1, 5, none⟩) (by show ¬ w.heap.size = w.heap.size + 1 + 1; omega) (.int .u32 rows)) (p := ⟨w.heap.size + 1 + 1, 6, none⟩) (by show ¬ w.heap.size = w.heap.size + 1 + 1; omega) (.int .u32 width)) (p := ⟨w.heap.size + 1 + 1, 7, none⟩) (by show ¬ w.heap.size = w.heap.size + 1 + 1; omega) (.int .u32 height))
  refine wpAnyE_take 10 (v := (.pointer (some ⟨w.heap.size + 1 + 1, 8, none⟩))) rfl (by kernel_rfl) (fun _ _ _ h => h) hI (fun w' hw' => Or.inl ⟨by kernel_rfl, Or.inl (by go_simp)⟩) ?_
  refine wpAnyE_one 11 rfl (by kernel_rfl) hI (fun K hK => ?_)
  rw [if_pos (by kernel_rfl)]
  go_simp
  refine hK _ _ ?_
  clear hK K
  replace hI := Blk.drew (Blk.far (Blk.far (Blk.far (Blk.far (Blk.far (Blk.far K1 (p := ⟨w.heap.size + 1 + 1, 1, none⟩) (by show ¬ w.heap.size = w.heap.size + 1 + 1; omega) (.string text)) (p := ⟨w.heap.size + 1 + 1, 4, none⟩) (by show ¬ w.heap.size = w.heap.size + 1 + 1; omega) (.int .u32 cols)) (p := ⟨w.heap.size + 1 + 1, 5, none⟩) (by show ¬ w.heap.size = w.heap.size + 1 + 1; omega) (.int .u32 rows)) (p := ⟨w.heap.size + 1 + 1, 6, none⟩) (by show ¬ w.heap.size = w.heap.size + 1 + 1; omega) (.int .u32 width)) (p := ⟨w.heap.size + 1 + 1, 7, none⟩) (by show ¬ w.heap.size = w.heap.size + 1 + 1; omega) (.int .u32 height)) (p := ⟨w.heap.size + 1 + 1, 8, none⟩) (by show ¬ w.heap.size = w.heap.size + 1 + 1; omega) (.slice mA modes.length mc))
  refine wpAnyE_end (by kernel_rfl) hI ?_
  (try simp only [Exit.then])
  obtain ⟨X, hX⟩ : ∃ X, X = ((((((W.setCell ⟨w.heap.size + 1 + 1, 1, none⟩ (.string text)).setCell ⟨w.heap.size + 1 + 1, 4, none⟩ (.int .u32 cols)).setCell ⟨w.heap.size + 1 + 1, 5, none⟩ (.int .u32 rows)).setCell ⟨w.heap.size + 1 + 1, 6, none⟩ (.int .u32 width)).setCell ⟨w.heap.size + 1 + 1, 7, none⟩ (.int .u32 height)).setCell ⟨w.heap.size + 1 + 1, 8, none⟩ (.slice mA modes.length mc)) := ⟨_, rfl⟩
  have OX : Only [] w X := by rw [hX]; exact (Only.setCell (Only.setCell (Only.setCell (Only.setCell (Only.setCell (Only.setCell O (p := ⟨w.heap.size + 1 + 1, 1, none⟩) (.inr (by show w.heap.size ≤ w.heap.size + 1 + 1; omega)) (.string text)) (p := ⟨w.heap.size + 1 + 1, 4, none⟩) (.inr (by show w.heap.size ≤ w.heap.size + 1 + 1; omega)) (.int .u32 cols)) (p := ⟨w.heap.size + 1 + 1, 5, none⟩) (.inr (by show w.heap.size ≤ w.heap.size + 1 + 1; omega)) (.int .u32 rows)) (p := ⟨w.heap.size + 1 + 1, 6, none⟩) (.inr (by show w.heap.size ≤ w.heap.size + 1 + 1; omega)) (.int .u32 width)) (p := ⟨w.heap.size + 1 + 1, 7, none⟩) (.inr (by show w.heap.size ≤ w.heap.size + 1 + 1; omega)) (.int .u32 height)) (p := ⟨w.heap.size + 1 + 1, 8, none⟩) (.inr (by show w.heap.size ≤ w.heap.size + 1 + 1; omega)) (.slice mA modes.length mc))
  have KX : Blk X (w.heap.size + 1 + 1) 28 [.int .i64 1, .string text, .string ⟨#[]⟩, .string ⟨#[]⟩, .int .u32 cols, .int .u32 rows, .int .u32 width, .int .u32 height, .slice mA modes.length mc, .bool false, .int .u32 0] := by rw [hX]; exact ((((((K3.set_ 1 (.string text)).set_ 4 (.int .u32 cols)).set_ 5 (.int .u32 rows)).set_ 6 (.int .u32 width)).set_ 7 (.int .u32 height)).set_ 8 (.slice mA modes.length mc))
  have KZ : Blk X (w.heap.size + 1) 28 zeroR.cells := by rw [hX]; exact (Blk.far (Blk.far (Blk.far (Blk.far (Blk.far (Blk.far K2 (p := ⟨w.heap.size + 1 + 1, 1, none⟩) (by show ¬ w.heap.size + 1 = w.heap.size + 1 + 1; omega) (.string text)) (p := ⟨w.heap.size + 1 + 1, 4, none⟩) (by show ¬ w.heap.size + 1 = w.heap.size + 1 + 1; omega) (.int .u32 cols)) (p := ⟨w.heap.size + 1 + 1, 5, none⟩) (by show ¬ w.heap.size + 1 = w.heap.size + 1 + 1; omega) (.int .u32 rows)) (p := ⟨w.heap.size + 1 + 1, 6, none⟩) (by show ¬ w.heap.size + 1 = w.heap.size + 1 + 1; omega) (.int .u32 width)) (p := ⟨w.heap.size + 1 + 1, 7, none⟩) (by show ¬ w.heap.size + 1 = w.heap.size + 1 + 1; omega) (.int .u32 height)) (p := ⟨w.heap.size + 1 + 1, 8, none⟩) (by show ¬ w.heap.size + 1 = w.heap.size + 1 + 1; omega) (.slice mA modes.length mc))
  rw [← hX]
  replace hX := hide hX
  clear hI c1 d1 c4 d4 c5 d5 c6 d6 c7 d7 c8 d8
  have b0 : X.cell? ⟨w.heap.size + 1 + 1, 0, none⟩ = some (.int .i64 1) := KX.cell 0
  have z0 : X.cell? ⟨w.heap.size + 1, 0, none⟩ = some (.int .i64 0) := KZ.cell 0
  have y0 := KZ.frozen 0
  have b1 : X.cell? ⟨w.heap.size + 1 + 1, 1, none⟩ = some (.string text) := KX.cell 1
  have z1 : X.cell? ⟨w.heap.size + 1, 1, none⟩ = some (.string ⟨#[]⟩) := KZ.cell 1
  have y1 := KZ.frozen 1
  have b2 : X.cell? ⟨w.heap.size + 1 + 1, 2, none⟩ = some (.string ⟨#[]⟩) := KX.cell 2
  have z2 : X.cell? ⟨w.heap.size + 1, 2, none⟩ = some (.string ⟨#[]⟩) := KZ.cell 2
  have y2 := KZ.frozen 2
  have b3 : X.cell? ⟨w.heap.size + 1 + 1, 3, none⟩ = some (.string ⟨#[]⟩) := KX.cell 3
  have z3 : X.cell? ⟨w.heap.size + 1, 3, none⟩ = some (.string ⟨#[]⟩) := KZ.cell 3
  have y3 := KZ.frozen 3
  have b4 : X.cell? ⟨w.heap.size + 1 + 1, 4, none⟩ = some (.int .u32 cols) := KX.cell 4
  have z4 : X.cell? ⟨w.heap.size + 1, 4, none⟩ = some (.int .u32 0) := KZ.cell 4
  have y4 := KZ.frozen 4
  have b5 : X.cell? ⟨w.heap.size + 1 + 1, 5, none⟩ = some (.int .u32 rows) := KX.cell 5
  have z5 : X.cell? ⟨w.heap.size + 1, 5, none⟩ = some (.int .u32 0) := KZ.cell 5
  have y5 := KZ.frozen 5
  have b6 : X.cell? ⟨w.heap.size + 1 + 1, 6, none⟩ = some (.int .u32 width) := KX.cell 6
  have z6 : X.cell? ⟨w.heap.size + 1, 6, none⟩ = some (.int .u32 0) := KZ.cell 6
  have y6 := KZ.frozen 6
  have b7 : X.cell? ⟨w.heap.size + 1 + 1, 7, none⟩ = some (.int .u32 height) := KX.cell 7
  have z7 : X.cell? ⟨w.heap.size + 1, 7, none⟩ = some (.int .u32 0) := KZ.cell 7
  have y7 := KZ.frozen 7
  have b8 : X.cell? ⟨w.heap.size + 1 + 1, 8, none⟩ = some (.slice mA modes.length mc) := KX.cell 8
  have z8 : X.cell? ⟨w.heap.size + 1, 8, none⟩ = some (.slice none 0 0) := KZ.cell 8
  have y8 := KZ.frozen 8
  have b9 : X.cell? ⟨w.heap.size + 1 + 1, 9, none⟩ = some (.bool false) := KX.cell 9
  have z9 : X.cell? ⟨w.heap.size + 1, 9, none⟩ = some (.bool false) := KZ.cell 9
  have y9 := KZ.frozen 9
  have b10 : X.cell? ⟨w.heap.size + 1 + 1, 10, none⟩ = some (.int .u32 0) := KX.cell 10
  have z10 : X.cell? ⟨w.heap.size + 1, 10, none⟩ = some (.int .u32 0) := KZ.cell 10
  have y10 := KZ.frozen 10
  go_wp2_with fail
  (try simp only [Exit.inBlock, Exit.then])
  refine ret_req1 (ownK ⟨1, text, value, lang, cols, rows, width, height, mA, mc, modes, on, code⟩ 1) (g := w.heap.size + 1) rfl (by rfl) (by rfl) (Blk.drew (rsetB (ownK ⟨1, text, value, lang, cols, rows, width, height, mA, mc, modes, on, code⟩ 1) KZ)) ?_
  exact ⟨rfl, Only.drew (rsetO (ownK ⟨1, text, value, lang, cols, rows, width, height, mA, mc, modes, on, code⟩ 1) (.inr (by omega)) OX)⟩
set_option maxRecDepth 100000 in
set_option maxHeartbeats 3200000 in
theorem rown_k2 (m : RQ) (w : World) (hk : m.kind = 2) : Calls Tryd.prog 10 #[m.val] w fun e w' => e = .returned (ownK m 2).val ∧ Only [] w w' := by
  obtain ⟨kind, text, value, lang, cols, rows, width, height, mA, mc, modes, on, code⟩ := m
  dsimp only at hk
  subst hk
  obtain ⟨W, hW⟩ : ∃ W, W = ((w.alloc (.cells #[.int .i64 2, .string text, .string value, .string lang, .int .u32 cols, .int .u32 rows, .int .u32 width, .int .u32 height, .slice mA modes.length mc, .bool on, .int .u32 code] 28)).alloc (.cells #[.int .i64 0, .string ⟨#[]⟩, .string ⟨#[]⟩, .string ⟨#[]⟩, .int .u32 0, .int .u32 0, .int .u32 0, .int .u32 0, .slice none 0 0, .bool false, .int .u32 0] 28)).alloc (.cells #[.int .i64 2, .string ⟨#[]⟩, .string ⟨#[]⟩, .string ⟨#[]⟩, .int .u32 0, .int .u32 0, .int .u32 0, .int .u32 0, .slice none 0 0, .bool false, .int .u32 0] 28) := ⟨_, rfl⟩
  obtain ⟨O, K1, K2, K3⟩ := rown_start w ⟨2, text, value, lang, cols, rows, width, height, mA, mc, modes, on, code⟩ 2 W hW
  unfold RQ.val
  go_enter Tryd.func10, Tryd.ntmps10
  go_wp2_with fail
  rw [← hW]
  replace hW := hide hW
  have hI : (fun w' : World => Blk w' w.heap.size 28 [.int .i64 2, .string text, .string value, .string lang, .int .u32 cols, .int .u32 rows, .int .u32 width, .int .u32 height, .slice mA modes.length mc, .bool on, .int .u32 code]) { W with drawn := W.drawn + 1 } := K1
  refine wp_region_E (fun w' : World => Blk w' w.heap.size 28 [.int .i64 2, .string text, .string value, .string lang, .int .u32 cols, .int .u32 rows, .int .u32 width, .int .u32 height, .slice mA modes.length mc, .bool on, .int .u32 code]) [] (by kernel_rfl) ?_
  refine wpAnyE_take 0 (v := (.pointer (some ⟨w.heap.size, 1, none⟩))) rfl (by kernel_rfl) (fun _ _ _ h => h) hI (fun w' hw' => Or.inl ⟨by kernel_rfl, Or.inl (by go_simp)⟩) ?_
  refine wpAnyE_take 1 (v := (.string text)) rfl (by kernel_rfl) (fun _ _ _ h => h) hI (fun w' hw' => Or.inl ⟨by kernel_rfl, Or.inl (by have y1 : w'.cell? ⟨w.heap.size, 1, none⟩ = some (.string text) := hw'.cell 1; go_simp)⟩) ?_
  refine wpAnyE_take 2 (v := (.pointer (some ⟨w.heap.size, 2, none⟩))) rfl (by kernel_rfl) (fun _ _ _ h => h) hI (fun w' hw' => Or.inl ⟨by kernel_rfl, Or.inl (by go_simp)⟩) ?_
  refine wpAnyE_take 3 (v := (.string value)) rfl (by kernel_rfl) (fun _ _ _ h => h) hI (fun w' hw' => Or.inl ⟨by kernel_rfl, Or.inl (by have y2 : w'.cell? ⟨w.heap.size, 2, none⟩ = some (.string value) := hw'.cell 2; go_simp)⟩) ?_
  have c1 : W.cell? ⟨w.heap.size + 1 + 1, 1, none⟩ = some (.string ⟨#[]⟩) := K3.cell 1
  have d1 := K3.frozen 1
  have c2 : W.cell? ⟨w.heap.size + 1 + 1, 2, none⟩ = some (.string ⟨#[]⟩) := K3.cell 2
  have d2 := K3.frozen 2
  refine wpAnyE_take 4 (v := (.pointer (some ⟨w.heap.size + 1 + 1, 1, none⟩))) rfl (by kernel_rfl) (fun _ _ _ h => h) hI (fun w' hw' => Or.inl ⟨by kernel_rfl, Or.inl (by go_simp)⟩) ?_
  refine wpAnyE_one 5 rfl (by kernel_rfl) hI (fun K hK => ?_)
  rw [if_pos (by kernel_rfl)]
  go_simp
  refine hK _ _ ?_
  clear hK K
  replace hI := Blk.drew (Blk.far K1 (p := ⟨w.heap.size + 1 + 1, 1, none⟩) (by show ¬ w.heap.size = w.heap.size + 1 + 1; omega) (.string text))
  refine wpAnyE_take 6 (v := (.pointer (some ⟨w.heap.size + 1 + 1, 2, none⟩))) rfl (by kernel_rfl) (fun _ _ _ h => h) hI (fun w' hw' => Or.inl ⟨by kernel_rfl, Or.inl (by go_simp)⟩) ?_
  refine wpAnyE_one 7 rfl (by kernel_rfl) hI (fun K hK => ?_)
  rw [if_pos (by kernel_rfl)]
  go_simp
  refine hK _ _ ?_
  clear hK K
  replace hI := Blk.drew (Blk.far (Blk.far K1 (p := ⟨w.heap.size + 1 + 1, 1, none⟩) (by show ¬ w.heap.size = w.heap.size + 1 + 1; omega) (.string text)) (p := ⟨w.heap.size + 1 + 1, 2, none⟩) (by show ¬ w.heap.size = w.heap.size + 1 + 1; omega) (.string value))
  refine wpAnyE_end (by kernel_rfl) hI ?_
  (try simp only [Exit.then])
  obtain ⟨X, hX⟩ : ∃ X, X = ((W.setCell ⟨w.heap.size + 1 + 1, 1, none⟩ (.string text)).setCell ⟨w.heap.size + 1 + 1, 2, none⟩ (.string value)) := ⟨_, rfl⟩
  have OX : Only [] w X := by rw [hX]; exact (Only.setCell (Only.setCell O (p := ⟨w.heap.size + 1 + 1, 1, none⟩) (.inr (by show w.heap.size ≤ w.heap.size + 1 + 1; omega)) (.string text)) (p := ⟨w.heap.size + 1 + 1, 2, none⟩) (.inr (by show w.heap.size ≤ w.heap.size + 1 + 1; omega)) (.string value))
  have KX : Blk X (w.heap.size + 1 + 1) 28 [.int .i64 2, .string text, .string value, .string ⟨#[]⟩, .int .u32 0, .int .u32 0, .int .u32 0, .int .u32 0, .slice none 0 0, .bool false, .int .u32 0] := by rw [hX]; exact ((K3.set_ 1 (.string text)).set_ 2 (.string value))
  have KZ : Blk X (w.heap.size + 1) 28 zeroR.cells := by rw [hX]; exact (Blk.far (Blk.far K2 (p := ⟨w.heap.size + 1 + 1, 1, none⟩) (by show ¬ w.heap.size + 1 = w.heap.size + 1 + 1; omega) (.string text)) (p := ⟨w.heap.size + 1 + 1, 2, none⟩) (by show ¬ w.heap.size + 1 = w.heap.size + 1 + 1; omega) (.string value))
  rw [← hX]
  replace hX := hide hX
  clear hI c1 d1 c2 d2
  have b0 : X.cell? ⟨w.heap.size + 1 + 1, 0, none⟩ = some (.int .i64 2) := KX.cell 0
  have z0 : X.cell? ⟨w.heap.size + 1, 0, none⟩ = some (.int .i64 0) := KZ.cell 0
  have y0 := KZ.frozen 0
  have b1 : X.cell? ⟨w.heap.size + 1 + 1, 1, none⟩ = some (.string text) := KX.cell 1
  have z1 : X.cell? ⟨w.heap.size + 1, 1, none⟩ = some (.string ⟨#[]⟩) := KZ.cell 1
  have y1 := KZ.frozen 1
  have b2 : X.cell? ⟨w.heap.size + 1 + 1, 2, none⟩ = some (.string value) := KX.cell 2
  have z2 : X.cell? ⟨w.heap.size + 1, 2, none⟩ = some (.string ⟨#[]⟩) := KZ.cell 2
  have y2 := KZ.frozen 2
  have b3 : X.cell? ⟨w.heap.size + 1 + 1, 3, none⟩ = some (.string ⟨#[]⟩) := KX.cell 3
  have z3 : X.cell? ⟨w.heap.size + 1, 3, none⟩ = some (.string ⟨#[]⟩) := KZ.cell 3
  have y3 := KZ.frozen 3
  have b4 : X.cell? ⟨w.heap.size + 1 + 1, 4, none⟩ = some (.int .u32 0) := KX.cell 4
  have z4 : X.cell? ⟨w.heap.size + 1, 4, none⟩ = some (.int .u32 0) := KZ.cell 4
  have y4 := KZ.frozen 4
  have b5 : X.cell? ⟨w.heap.size + 1 + 1, 5, none⟩ = some (.int .u32 0) := KX.cell 5
  have z5 : X.cell? ⟨w.heap.size + 1, 5, none⟩ = some (.int .u32 0) := KZ.cell 5
  have y5 := KZ.frozen 5
  have b6 : X.cell? ⟨w.heap.size + 1 + 1, 6, none⟩ = some (.int .u32 0) := KX.cell 6
  have z6 : X.cell? ⟨w.heap.size + 1, 6, none⟩ = some (.int .u32 0) := KZ.cell 6
  have y6 := KZ.frozen 6
  have b7 : X.cell? ⟨w.heap.size + 1 + 1, 7, none⟩ = some (.int .u32 0) := KX.cell 7
  have z7 : X.cell? ⟨w.heap.size + 1, 7, none⟩ = some (.int .u32 0) := KZ.cell 7
  have y7 := KZ.frozen 7
  have b8 : X.cell? ⟨w.heap.size + 1 + 1, 8, none⟩ = some (.slice none 0 0) := KX.cell 8
  have z8 : X.cell? ⟨w.heap.size + 1, 8, none⟩ = some (.slice none 0 0) := KZ.cell 8
  have y8 := KZ.frozen 8
  have b9 : X.cell? ⟨w.heap.size + 1 + 1, 9, none⟩ = some (.bool false) := KX.cell 9
  have z9 : X.cell? ⟨w.heap.size + 1, 9, none⟩ = some (.bool false) := KZ.cell 9
  have y9 := KZ.frozen 9
  have b10 : X.cell? ⟨w.heap.size + 1 + 1, 10, none⟩ = some (.int .u32 0) := KX.cell 10
  have z10 : X.cell? ⟨w.heap.size + 1, 10, none⟩ = some (.int .u32 0) := KZ.cell 10
  have y10 := KZ.frozen 10
  go_wp2_with fail
  (try simp only [Exit.inBlock, Exit.then])
  refine ret_req1 (ownK ⟨2, text, value, lang, cols, rows, width, height, mA, mc, modes, on, code⟩ 2) (g := w.heap.size + 1) rfl (by rfl) (by rfl) (Blk.drew (rsetB (ownK ⟨2, text, value, lang, cols, rows, width, height, mA, mc, modes, on, code⟩ 2) KZ)) ?_
  exact ⟨rfl, Only.drew (rsetO (ownK ⟨2, text, value, lang, cols, rows, width, height, mA, mc, modes, on, code⟩ 2) (.inr (by omega)) OX)⟩
set_option maxRecDepth 100000 in
set_option maxHeartbeats 3200000 in
theorem rown_k3 (m : RQ) (w : World) (hk : m.kind = 3) : Calls Tryd.prog 10 #[m.val] w fun e w' => e = .returned (ownK m 3).val ∧ Only [] w w' := by
  obtain ⟨kind, text, value, lang, cols, rows, width, height, mA, mc, modes, on, code⟩ := m
  dsimp only at hk
  subst hk
  obtain ⟨O, K⟩ := rown_end w #[.int .i64 3, .string text, .string value, .string lang, .int .u32 cols, .int .u32 rows, .int .u32 width, .int .u32 height, .slice mA modes.length mc, .bool on, .int .u32 code] #[.int .i64 3, .string ⟨#[]⟩, .string ⟨#[]⟩, .string ⟨#[]⟩, .int .u32 0, .int .u32 0, .int .u32 0, .int .u32 0, .slice none 0 0, .bool false, .int .u32 0] [.int .i64 3, .string ⟨#[]⟩, .string ⟨#[]⟩, .string ⟨#[]⟩, .int .u32 0, .int .u32 0, .int .u32 0, .int .u32 0, .slice none 0 0, .bool false, .int .u32 0]
  replace O := hide O
  replace K := hide K
  unfold RQ.val
  go_enter Tryd.func10, Tryd.ntmps10
  go_wp2_with fail
  (try simp only [Exit.inBlock, Exit.then])
  refine ret_req1 (ownK ⟨3, text, value, lang, cols, rows, width, height, mA, mc, modes, on, code⟩ 3) (g := w.heap.size + 1) rfl (by rfl) (by rfl) K.out ?_
  exact ⟨rfl, O.out⟩
set_option maxRecDepth 100000 in
set_option maxHeartbeats 3200000 in
theorem rown_k4 (m : RQ) (w : World) (hk : m.kind = 4) : Calls Tryd.prog 10 #[m.val] w fun e w' => e = .returned (ownK m 4).val ∧ Only [] w w' := by
  obtain ⟨kind, text, value, lang, cols, rows, width, height, mA, mc, modes, on, code⟩ := m
  dsimp only at hk
  subst hk
  obtain ⟨O, K⟩ := rown_end w #[.int .i64 4, .string text, .string value, .string lang, .int .u32 cols, .int .u32 rows, .int .u32 width, .int .u32 height, .slice mA modes.length mc, .bool on, .int .u32 code] #[.int .i64 4, .string text, .string ⟨#[]⟩, .string ⟨#[]⟩, .int .u32 0, .int .u32 0, .int .u32 0, .int .u32 0, .slice none 0 0, .bool false, .int .u32 0] [.int .i64 4, .string text, .string ⟨#[]⟩, .string ⟨#[]⟩, .int .u32 0, .int .u32 0, .int .u32 0, .int .u32 0, .slice none 0 0, .bool false, .int .u32 0]
  replace O := hide O
  replace K := hide K
  unfold RQ.val
  go_enter Tryd.func10, Tryd.ntmps10
  go_wp2_with fail
  (try simp only [Exit.inBlock, Exit.then])
  refine ret_req1 (ownK ⟨4, text, value, lang, cols, rows, width, height, mA, mc, modes, on, code⟩ 4) (g := w.heap.size + 1) rfl (by rfl) (by rfl) K.out ?_
  exact ⟨rfl, O.out⟩
set_option maxRecDepth 100000 in
set_option maxHeartbeats 3200000 in
theorem rown_k5 (m : RQ) (w : World) (hk : m.kind = 5) : Calls Tryd.prog 10 #[m.val] w fun e w' => e = .returned (ownK m 5).val ∧ Only [] w w' := by
  obtain ⟨kind, text, value, lang, cols, rows, width, height, mA, mc, modes, on, code⟩ := m
  dsimp only at hk
  subst hk
  obtain ⟨O, K⟩ := rown_end w #[.int .i64 5, .string text, .string value, .string lang, .int .u32 cols, .int .u32 rows, .int .u32 width, .int .u32 height, .slice mA modes.length mc, .bool on, .int .u32 code] #[.int .i64 5, .string text, .string ⟨#[]⟩, .string ⟨#[]⟩, .int .u32 0, .int .u32 0, .int .u32 0, .int .u32 0, .slice none 0 0, .bool false, .int .u32 0] [.int .i64 5, .string text, .string ⟨#[]⟩, .string ⟨#[]⟩, .int .u32 0, .int .u32 0, .int .u32 0, .int .u32 0, .slice none 0 0, .bool false, .int .u32 0]
  replace O := hide O
  replace K := hide K
  unfold RQ.val
  go_enter Tryd.func10, Tryd.ntmps10
  go_wp2_with fail
  (try simp only [Exit.inBlock, Exit.then])
  refine ret_req1 (ownK ⟨5, text, value, lang, cols, rows, width, height, mA, mc, modes, on, code⟩ 5) (g := w.heap.size + 1) rfl (by rfl) (by rfl) K.out ?_
  exact ⟨rfl, O.out⟩
set_option maxRecDepth 100000 in
set_option maxHeartbeats 3200000 in
theorem rown_k6 (m : RQ) (w : World) (hk : m.kind = 6) : Calls Tryd.prog 10 #[m.val] w fun e w' => e = .returned (ownK m 6).val ∧ Only [] w w' := by
  obtain ⟨kind, text, value, lang, cols, rows, width, height, mA, mc, modes, on, code⟩ := m
  dsimp only at hk
  subst hk
  obtain ⟨O, K⟩ := rown_end w #[.int .i64 6, .string text, .string value, .string lang, .int .u32 cols, .int .u32 rows, .int .u32 width, .int .u32 height, .slice mA modes.length mc, .bool on, .int .u32 code] #[.int .i64 6, .string ⟨#[]⟩, .string ⟨#[]⟩, .string ⟨#[]⟩, .int .u32 cols, .int .u32 rows, .int .u32 width, .int .u32 height, .slice none 0 0, .bool false, .int .u32 0] [.int .i64 6, .string ⟨#[]⟩, .string ⟨#[]⟩, .string ⟨#[]⟩, .int .u32 cols, .int .u32 rows, .int .u32 width, .int .u32 height, .slice none 0 0, .bool false, .int .u32 0]
  replace O := hide O
  replace K := hide K
  unfold RQ.val
  go_enter Tryd.func10, Tryd.ntmps10
  go_wp2_with fail
  (try simp only [Exit.inBlock, Exit.then])
  refine ret_req1 (ownK ⟨6, text, value, lang, cols, rows, width, height, mA, mc, modes, on, code⟩ 6) (g := w.heap.size + 1) rfl (by rfl) (by rfl) K.out ?_
  exact ⟨rfl, O.out⟩
set_option maxRecDepth 100000 in
set_option maxHeartbeats 3200000 in
theorem rown_k7 (m : RQ) (w : World) (hk : m.kind = 7) : Calls Tryd.prog 10 #[m.val] w fun e w' => e = .returned (ownK m 7).val ∧ Only [] w w' := by
  obtain ⟨kind, text, value, lang, cols, rows, width, height, mA, mc, modes, on, code⟩ := m
  dsimp only at hk
  subst hk
  obtain ⟨O, K⟩ := rown_end w #[.int .i64 7, .string text, .string value, .string lang, .int .u32 cols, .int .u32 rows, .int .u32 width, .int .u32 height, .slice mA modes.length mc, .bool on, .int .u32 code] #[.int .i64 7, .string ⟨#[]⟩, .string ⟨#[]⟩, .string ⟨#[]⟩, .int .u32 0, .int .u32 0, .int .u32 0, .int .u32 0, .slice none 0 0, .bool on, .int .u32 0] [.int .i64 7, .string ⟨#[]⟩, .string ⟨#[]⟩, .string ⟨#[]⟩, .int .u32 0, .int .u32 0, .int .u32 0, .int .u32 0, .slice none 0 0, .bool on, .int .u32 0]
  replace O := hide O
  replace K := hide K
  unfold RQ.val
  go_enter Tryd.func10, Tryd.ntmps10
  go_wp2_with fail
  (try simp only [Exit.inBlock, Exit.then])
  refine ret_req1 (ownK ⟨7, text, value, lang, cols, rows, width, height, mA, mc, modes, on, code⟩ 7) (g := w.heap.size + 1) rfl (by rfl) (by rfl) K.out ?_
  exact ⟨rfl, O.out⟩
set_option maxRecDepth 100000 in
set_option maxHeartbeats 3200000 in
theorem rown_k8 (m : RQ) (w : World) (hk : m.kind = 8) : Calls Tryd.prog 10 #[m.val] w fun e w' => e = .returned (ownK m 8).val ∧ Only [] w w' := by
  obtain ⟨kind, text, value, lang, cols, rows, width, height, mA, mc, modes, on, code⟩ := m
  dsimp only at hk
  subst hk
  obtain ⟨O, K⟩ := rown_end w #[.int .i64 8, .string text, .string value, .string lang, .int .u32 cols, .int .u32 rows, .int .u32 width, .int .u32 height, .slice mA modes.length mc, .bool on, .int .u32 code] #[.int .i64 8, .string text, .string ⟨#[]⟩, .string ⟨#[]⟩, .int .u32 0, .int .u32 0, .int .u32 0, .int .u32 0, .slice none 0 0, .bool false, .int .u32 0] [.int .i64 8, .string text, .string ⟨#[]⟩, .string ⟨#[]⟩, .int .u32 0, .int .u32 0, .int .u32 0, .int .u32 0, .slice none 0 0, .bool false, .int .u32 0]
  replace O := hide O
  replace K := hide K
  unfold RQ.val
  go_enter Tryd.func10, Tryd.ntmps10
  go_wp2_with fail
  (try simp only [Exit.inBlock, Exit.then])
  refine ret_req1 (ownK ⟨8, text, value, lang, cols, rows, width, height, mA, mc, modes, on, code⟩ 8) (g := w.heap.size + 1) rfl (by rfl) (by rfl) K.out ?_
  exact ⟨rfl, O.out⟩
set_option maxRecDepth 100000 in
set_option maxHeartbeats 3200000 in
theorem rown_k9 (m : RQ) (w : World) (hk : m.kind = 9) : Calls Tryd.prog 10 #[m.val] w fun e w' => e = .returned (ownK m 9).val ∧ Only [] w w' := by
  obtain ⟨kind, text, value, lang, cols, rows, width, height, mA, mc, modes, on, code⟩ := m
  dsimp only at hk
  subst hk
  obtain ⟨O, K⟩ := rown_end w #[.int .i64 9, .string text, .string value, .string lang, .int .u32 cols, .int .u32 rows, .int .u32 width, .int .u32 height, .slice mA modes.length mc, .bool on, .int .u32 code] #[.int .i64 9, .string ⟨#[]⟩, .string ⟨#[]⟩, .string ⟨#[]⟩, .int .u32 0, .int .u32 0, .int .u32 0, .int .u32 0, .slice none 0 0, .bool false, .int .u32 code] [.int .i64 9, .string ⟨#[]⟩, .string ⟨#[]⟩, .string ⟨#[]⟩, .int .u32 0, .int .u32 0, .int .u32 0, .int .u32 0, .slice none 0 0, .bool false, .int .u32 code]
  replace O := hide O
  replace K := hide K
  unfold RQ.val
  go_enter Tryd.func10, Tryd.ntmps10
  go_wp2_with fail
  (try simp only [Exit.inBlock, Exit.then])
  refine ret_req1 (ownK ⟨9, text, value, lang, cols, rows, width, height, mA, mc, modes, on, code⟩ 9) (g := w.heap.size + 1) rfl (by rfl) (by rfl) K.out ?_
  exact ⟨rfl, O.out⟩
set_option maxRecDepth 100000 in
set_option maxHeartbeats 3200000 in
theorem rown_k10 (m : RQ) (w : World) (hk : m.kind = 10) : Calls Tryd.prog 10 #[m.val] w fun e w' => e = .returned (ownK m 10).val ∧ Only [] w w' := by
  obtain ⟨kind, text, value, lang, cols, rows, width, height, mA, mc, modes, on, code⟩ := m
  dsimp only at hk
  subst hk
  obtain ⟨W, hW⟩ : ∃ W, W = ((w.alloc (.cells #[.int .i64 10, .string text, .string value, .string lang, .int .u32 cols, .int .u32 rows, .int .u32 width, .int .u32 height, .slice mA modes.length mc, .bool on, .int .u32 code] 28)).alloc (.cells #[.int .i64 0, .string ⟨#[]⟩, .string ⟨#[]⟩, .string ⟨#[]⟩, .int .u32 0, .int .u32 0, .int .u32 0, .int .u32 0, .slice none 0 0, .bool false, .int .u32 0] 28)).alloc (.cells #[.int .i64 10, .string ⟨#[]⟩, .string ⟨#[]⟩, .string ⟨#[]⟩, .int .u32 0, .int .u32 0, .int .u32 0, .int .u32 0, .slice none 0 0, .bool false, .int .u32 0] 28) := ⟨_, rfl⟩
  obtain ⟨O, K1, K2, K3⟩ := rown_start w ⟨10, text, value, lang, cols, rows, width, height, mA, mc, modes, on, code⟩ 10 W hW
  unfold RQ.val
  go_enter Tryd.func10, Tryd.ntmps10
  go_wp2_with fail
  rw [← hW]
  replace hW := hide hW
  have hI : (fun w' : World => Blk w' w.heap.size 28 [.int .i64 10, .string text, .string value, .string lang, .int .u32 cols, .int .u32 rows, .int .u32 width, .int .u32 height, .slice mA modes.length mc, .bool on, .int .u32 code]) { W with drawn := W.drawn + 1 } := K1
  refine wp_region_E (fun w' : World => Blk w' w.heap.size 28 [.int .i64 10, .string text, .string value, .string lang, .int .u32 cols, .int .u32 rows, .int .u32 width, .int .u32 height, .slice mA modes.length mc, .bool on, .int .u32 code]) [] (by kernel_rfl) ?_
  refine wpAnyE_take 0 (v := (.pointer (some ⟨w.heap.size, 1, none⟩))) rfl (by kernel_rfl) (fun _ _ _ h => h) hI (fun w' hw' => Or.inl ⟨by kernel_rfl, Or.inl (by go_simp)⟩) ?_
  refine wpAnyE_take 1 (v := (.string text)) rfl (by kernel_rfl) (fun _ _ _ h => h) hI (fun w' hw' => Or.inl ⟨by kernel_rfl, Or.inl (by have y1 : w'.cell? ⟨w.heap.size, 1, none⟩ = some (.string text) := hw'.cell 1; go_simp)⟩) ?_
  refine wpAnyE_take 2 (v := (.pointer (some ⟨w.heap.size, 9, none⟩))) rfl (by kernel_rfl) (fun _ _ _ h => h) hI (fun w' hw' => Or.inl ⟨by kernel_rfl, Or.inl (by go_simp)⟩) ?_
  refine wpAnyE_take 3 (v := (.bool on)) rfl (by kernel_rfl) (fun _ _ _ h => h) hI (fun w' hw' => Or.inl ⟨by kernel_rfl, Or.inl (by have y9 : w'.cell? ⟨w.heap.size, 9, none⟩ = some (.bool on) := hw'.cell 9; go_simp)⟩) ?_
  refine wpAnyE_take 4 (v := (.pointer (some ⟨w.heap.size, 2, none⟩))) rfl (by kernel_rfl) (fun _ _ _ h => h) hI (fun w' hw' => Or.inl ⟨by kernel_rfl, Or.inl (by go_simp)⟩) ?_
  refine wpAnyE_take 5 (v := (.string value)) rfl (by kernel_rfl) (fun _ _ _ h => h) hI (fun w' hw' => Or.inl ⟨by kernel_rfl, Or.inl (by have y2 : w'.cell? ⟨w.heap.size, 2, none⟩ = some (.string value) := hw'.cell 2; go_simp)⟩) ?_
  refine wpAnyE_take 6 (v := (.pointer (some ⟨w.heap.size, 3, none⟩))) rfl (by kernel_rfl) (fun _ _ _ h => h) hI (fun w' hw' => Or.inl ⟨by kernel_rfl, Or.inl (by go_simp)⟩) ?_
  refine wpAnyE_take 7 (v := (.string lang)) rfl (by kernel_rfl) (fun _ _ _ h => h) hI (fun w' hw' => Or.inl ⟨by kernel_rfl, Or.inl (by have y3 : w'.cell? ⟨w.heap.size, 3, none⟩ = some (.string lang) := hw'.cell 3; go_simp)⟩) ?_
  have c1 : W.cell? ⟨w.heap.size + 1 + 1, 1, none⟩ = some (.string ⟨#[]⟩) := K3.cell 1
  have d1 := K3.frozen 1
  have c9 : W.cell? ⟨w.heap.size + 1 + 1, 9, none⟩ = some (.bool false) := K3.cell 9
  have d9 := K3.frozen 9
  have c2 : W.cell? ⟨w.heap.size + 1 + 1, 2, none⟩ = some (.string ⟨#[]⟩) := K3.cell 2
  have d2 := K3.frozen 2
  have c3 : W.cell? ⟨w.heap.size + 1 + 1, 3, none⟩ = some (.string ⟨#[]⟩) := K3.cell 3
  have d3 := K3.frozen 3
  refine wpAnyE_take 8 (v := (.pointer (some ⟨w.heap.size + 1 + 1, 1, none⟩))) rfl (by kernel_rfl) (fun _ _ _ h => h) hI (fun w' hw' => Or.inl ⟨by kernel_rfl, Or.inl (by go_simp)⟩) ?_
  refine wpAnyE_one 9 rfl (by kernel_rfl) hI (fun K hK => ?_)
  rw [if_pos (by kernel_rfl)]
  go_simp
  refine hK _ _ ?_
  clear hK K
  replace hI := Blk.drew (Blk.far K1 (p := ⟨w.heap.size + 1 + 1, 1, none⟩) (by show ¬ w.heap.size = w.heap.size + 1 + 1; omega) (.string text))
  refine wpAnyE_take 10 (v := (.pointer (some ⟨w.heap.size + 1 + 1, 9, none⟩))) rfl (by kernel_rfl) (fun _ _ _ h => h) hI (fun w' hw' => Or.inl ⟨by kernel_rfl, Or.inl (by go_simp)⟩) ?_
  refine wpAnyE_one 11 rfl (by kernel_rfl) hI (fun K hK => ?_)
  rw [if_pos (by kernel_rfl)]
  go_simp
  refine hK _ _ ?_
  clear hK K
  replace hI := Blk.drew (Blk.far (Blk.far K1 (p := ⟨w.heap.size + 1 + 1, 1, none⟩) (by show ¬ w.heap.size = w.heap.size + 1 + 1; omega) (.string text)) (p := ⟨w.heap.size + 1 + 1, 9, none⟩) (by show ¬ w.heap.size = w.heap.size + 1 + 1; omega) (.bool on))
  refine wpAnyE_take 12 (v := (.pointer (some ⟨w.heap.size + 1 + 1, 2, none⟩))) rfl (by kernel_rfl) (fun _ _ _ h => h) hI (fun w' hw' => Or.inl ⟨by kernel_rfl, Or.inl (by go_simp)⟩) ?_
  refine wpAnyE_one 13 rfl (by kernel_rfl) hI (fun K hK => ?_)
  rw [if_pos (by kernel_rfl)]
  go_simp
  refine hK _ _ ?_
  clear hK K
  replace hI := Blk.drew (Blk.far (Blk.far (Blk.far K1 (p := ⟨w.heap.size + 1 + 1, 1, none⟩) (by show ¬ w.heap.size = w.heap.size + 1 + 1; omega) (.string text)) (p := ⟨w.heap.size + 1 + 1, 9, none⟩) (by show ¬ w.heap.size = w.heap.size + 1 + 1; omega) (.bool on)) (p := ⟨w.heap.size + 1 + 1, 2, none⟩) (by show ¬ w.heap.size = w.heap.size + 1 + 1; omega) (.string value))
  refine wpAnyE_take 14 (v := (.pointer (some ⟨w.heap.size + 1 + 1, 3, none⟩))) rfl (by kernel_rfl) (fun _ _ _ h => h) hI (fun w' hw' => Or.inl ⟨by kernel_rfl, Or.inl (by go_simp)⟩) ?_
  refine wpAnyE_one 15 rfl (by kernel_rfl) hI (fun K hK => ?_)
  rw [if_pos (by kernel_rfl)]
  go_simp
  refine hK _ _ ?_
  clear hK K
  replace hI := Blk.drew (Blk.far (Blk.far (Blk.far (Blk.far K1 (p := ⟨w.heap.size + 1 + 1, 1, none⟩) (by show ¬ w.heap.size = w.heap.size + 1 + 1; omega) (.string text)) (p := ⟨w.heap.size + 1 + 1, 9, none⟩) (by show ¬ w.heap.size = w.heap.size + 1 + 1; omega) (.bool on)) (p := ⟨w.heap.size + 1 + 1, 2, none⟩) (by show ¬ w.heap.size = w.heap.size + 1 + 1; omega) (.string value)) (p := ⟨w.heap.size + 1 + 1, 3, none⟩) (by show ¬ w.heap.size = w.heap.size + 1 + 1; omega) (.string lang))
  refine wpAnyE_end (by kernel_rfl) hI ?_
  (try simp only [Exit.then])
  obtain ⟨X, hX⟩ : ∃ X, X = ((((W.setCell ⟨w.heap.size + 1 + 1, 1, none⟩ (.string text)).setCell ⟨w.heap.size + 1 + 1, 9, none⟩ (.bool on)).setCell ⟨w.heap.size + 1 + 1, 2, none⟩ (.string value)).setCell ⟨w.heap.size + 1 + 1, 3, none⟩ (.string lang)) := ⟨_, rfl⟩
  have OX : Only [] w X := by rw [hX]; exact (Only.setCell (Only.setCell (Only.setCell (Only.setCell O (p := ⟨w.heap.size + 1 + 1, 1, none⟩) (.inr (by show w.heap.size ≤ w.heap.size + 1 + 1; omega)) (.string text)) (p := ⟨w.heap.size + 1 + 1, 9, none⟩) (.inr (by show w.heap.size ≤ w.heap.size + 1 + 1; omega)) (.bool on)) (p := ⟨w.heap.size + 1 + 1, 2, none⟩) (.inr (by show w.heap.size ≤ w.heap.size + 1 + 1; omega)) (.string value)) (p := ⟨w.heap.size + 1 + 1, 3, none⟩) (.inr (by show w.heap.size ≤ w.heap.size + 1 + 1; omega)) (.string lang))
  have KX : Blk X (w.heap.size + 1 + 1) 28 [.int .i64 10, .string text, .string value, .string lang, .int .u32 0, .int .u32 0, .int .u32 0, .int .u32 0, .slice none 0 0, .bool on, .int .u32 0] := by rw [hX]; exact ((((K3.set_ 1 (.string text)).set_ 9 (.bool on)).set_ 2 (.string value)).set_ 3 (.string lang))
  have KZ : Blk X (w.heap.size + 1) 28 zeroR.cells := by rw [hX]; exact (Blk.far (Blk.far (Blk.far (Blk.far K2 (p := ⟨w.heap.size + 1 + 1, 1, none⟩) (by show ¬ w.heap.size + 1 = w.heap.size + 1 + 1; omega) (.string text)) (p := ⟨w.heap.size + 1 + 1, 9, none⟩) (by show ¬ w.heap.size + 1 = w.heap.size + 1 + 1; omega) (.bool on)) (p := ⟨w.heap.size + 1 + 1, 2, none⟩) (by show ¬ w.heap.size + 1 = w.heap.size + 1 + 1; omega) (.string value)) (p := ⟨w.heap.size + 1 + 1, 3, none⟩) (by show ¬ w.heap.size + 1 = w.heap.size + 1 + 1; omega) (.string lang))
  rw [← hX]
  replace hX := hide hX
  clear hI c1 d1 c9 d9 c2 d2 c3 d3
  have b0 : X.cell? ⟨w.heap.size + 1 + 1, 0, none⟩ = some (.int .i64 10) := KX.cell 0
  have z0 : X.cell? ⟨w.heap.size + 1, 0, none⟩ = some (.int .i64 0) := KZ.cell 0
  have y0 := KZ.frozen 0
  have b1 : X.cell? ⟨w.heap.size + 1 + 1, 1, none⟩ = some (.string text) := KX.cell 1
  have z1 : X.cell? ⟨w.heap.size + 1, 1, none⟩ = some (.string ⟨#[]⟩) := KZ.cell 1
  have y1 := KZ.frozen 1
  have b2 : X.cell? ⟨w.heap.size + 1 + 1, 2, none⟩ = some (.string value) := KX.cell 2
  have z2 : X.cell? ⟨w.heap.size + 1, 2, none⟩ = some (.string ⟨#[]⟩) := KZ.cell 2
  have y2 := KZ.frozen 2
  have b3 : X.cell? ⟨w.heap.size + 1 + 1, 3, none⟩ = some (.string lang) := KX.cell 3
  have z3 : X.cell? ⟨w.heap.size + 1, 3, none⟩ = some (.string ⟨#[]⟩) := KZ.cell 3
  have y3 := KZ.frozen 3
  have b4 : X.cell? ⟨w.heap.size + 1 + 1, 4, none⟩ = some (.int .u32 0) := KX.cell 4
  have z4 : X.cell? ⟨w.heap.size + 1, 4, none⟩ = some (.int .u32 0) := KZ.cell 4
  have y4 := KZ.frozen 4
  have b5 : X.cell? ⟨w.heap.size + 1 + 1, 5, none⟩ = some (.int .u32 0) := KX.cell 5
  have z5 : X.cell? ⟨w.heap.size + 1, 5, none⟩ = some (.int .u32 0) := KZ.cell 5
  have y5 := KZ.frozen 5
  have b6 : X.cell? ⟨w.heap.size + 1 + 1, 6, none⟩ = some (.int .u32 0) := KX.cell 6
  have z6 : X.cell? ⟨w.heap.size + 1, 6, none⟩ = some (.int .u32 0) := KZ.cell 6
  have y6 := KZ.frozen 6
  have b7 : X.cell? ⟨w.heap.size + 1 + 1, 7, none⟩ = some (.int .u32 0) := KX.cell 7
  have z7 : X.cell? ⟨w.heap.size + 1, 7, none⟩ = some (.int .u32 0) := KZ.cell 7
  have y7 := KZ.frozen 7
  have b8 : X.cell? ⟨w.heap.size + 1 + 1, 8, none⟩ = some (.slice none 0 0) := KX.cell 8
  have z8 : X.cell? ⟨w.heap.size + 1, 8, none⟩ = some (.slice none 0 0) := KZ.cell 8
  have y8 := KZ.frozen 8
  have b9 : X.cell? ⟨w.heap.size + 1 + 1, 9, none⟩ = some (.bool on) := KX.cell 9
  have z9 : X.cell? ⟨w.heap.size + 1, 9, none⟩ = some (.bool false) := KZ.cell 9
  have y9 := KZ.frozen 9
  have b10 : X.cell? ⟨w.heap.size + 1 + 1, 10, none⟩ = some (.int .u32 0) := KX.cell 10
  have z10 : X.cell? ⟨w.heap.size + 1, 10, none⟩ = some (.int .u32 0) := KZ.cell 10
  have y10 := KZ.frozen 10
  go_wp2_with fail
  (try simp only [Exit.inBlock, Exit.then])
  refine ret_req1 (ownK ⟨10, text, value, lang, cols, rows, width, height, mA, mc, modes, on, code⟩ 10) (g := w.heap.size + 1) rfl (by rfl) (by rfl) (Blk.drew (rsetB (ownK ⟨10, text, value, lang, cols, rows, width, height, mA, mc, modes, on, code⟩ 10) KZ)) ?_
  exact ⟨rfl, Only.drew (rsetO (ownK ⟨10, text, value, lang, cols, rows, width, height, mA, mc, modes, on, code⟩ 10) (.inr (by omega)) OX)⟩
theorem rown_any (m : RQ) (w : World) (k : Nat) (h1 : 1 ≤ k) (h2 : k ≤ 10) (hk : m.kind = k) : Calls Tryd.prog 10 #[m.val] w fun e w' => e = .returned (ownK m k).val ∧ Only [] w w' := by
  rcases k10 h1 h2 with rfl | rfl | rfl | rfl | rfl | rfl | rfl | rfl | rfl | rfl
  · exact rown_k1 m w hk
  · exact rown_k2 m w hk
  · exact rown_k3 m w hk
  · exact rown_k4 m w hk
  · exact rown_k5 m w hk
  · exact rown_k6 m w hk
  · exact rown_k7 m w hk
  · exact rown_k8 m w hk
  · exact rown_k9 m w hk
  · exact rown_k10 m w hk
end Go.Proofs.YtmpeidliacbelaaDoor
