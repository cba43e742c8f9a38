/- Layer 4: the getters; no condition but the sizes that can be. -/
import Derived.Test.YtdplnedpbkpgpaaGreatDoorReqB
namespace Go.Proofs.YtdplnedpbkpgpaaGreatDoor
set_option linter.all false
open Go.RowKit

section
variable (m : RQ) (g : Nat) (w : World)
set_option maxRecDepth 100000 in
set_option maxHeartbeats 1600000 in
theorem getNoneR_any (hg : Blk w g 119 m.cells) : Calls Tryz.prog 77 #[.pointer (some ⟨g, 0, none⟩)] w (GetsPost w (partsR m 3)) := by
  go_enter Tryz.func77, Tryz.ntmps77
  go_wp2
  go_ret
  exact ⟨Only.refl _ _, _, [], rfl, ownF_nil _ _, rfl, fun f hf => by simp at hf, fun f hf => by simp at hf⟩
set_option maxRecDepth 100000 in
set_option maxHeartbeats 1600000 in
theorem getTextR_any (hg : Blk w g 119 m.cells) (hs : m.text.size ≤ 140737488355328) : Calls Tryz.prog 80 #[.pointer (some ⟨g, 0, none⟩)] w (GetsPost w (partsR m 4)) := by
  have c1 : w.cell? ⟨g, 1, none⟩ = some (.string m.text) := hg.cell 1
  have hlt := hg.lt
  have TX := rtext_any m.text w hs
  go_enter Tryz.func80, Tryz.ntmps80
  go_wp2_with fail
  go_call TX as e w1 ⟨P1, f, rfl, hp, hnew, okf, hn⟩
  have V := ownF_lit w1 [f] 1 rfl (by decide) f.cells.toArray (by simp [fcells])
  have P2 : Only [] w1 (w1.alloc (.cells f.cells.toArray 123)) := (Only.refl _ _).alloc _
  have z1 := P1.size
  unfold FD.val
  go_wp2_with fail
  go_ret
  refine ⟨P1.trans P2 (by simp), _, [f], rfl, V.mono z1, ?_, fun x hx => ?_, fun x hx => ?_⟩
  · rw [List.map_cons, hp]; rfl
  · rw [List.mem_singleton] at hx; subst hx; exact ⟨okf.only P2, off_new okf 1 1⟩
  · rw [List.mem_singleton] at hx; subst hx; exact hn
set_option maxRecDepth 100000 in
set_option maxHeartbeats 1600000 in
theorem getOnR_any (hg : Blk w g 119 m.cells)  : Calls Tryz.prog 86 #[.pointer (some ⟨g, 0, none⟩)] w (GetsPost w (partsR m 7)) := by
  have c9 : w.cell? ⟨g, 9, none⟩ = some (.bool m.on) := hg.cell 9
  have hlt := hg.lt
  have TX := rflag_any m.on w
  go_enter Tryz.func86, Tryz.ntmps86
  go_wp2_with fail
  go_call TX as e w1 ⟨P1, f, rfl, hp, hnew, okf, hn⟩
  have V := ownF_lit w1 [f] 1 rfl (by decide) f.cells.toArray (by simp [fcells])
  have P2 : Only [] w1 (w1.alloc (.cells f.cells.toArray 123)) := (Only.refl _ _).alloc _
  have z1 := P1.size
  unfold FD.val
  go_wp2_with fail
  go_ret
  refine ⟨P1.trans P2 (by simp), _, [f], rfl, V.mono z1, ?_, fun x hx => ?_, fun x hx => ?_⟩
  · rw [List.map_cons, hp]; rfl
  · rw [List.mem_singleton] at hx; subst hx; exact ⟨okf.only P2, off_new okf 1 1⟩
  · rw [List.mem_singleton] at hx; subst hx; exact hn
set_option maxRecDepth 100000 in
set_option maxHeartbeats 1600000 in
theorem getCodeR_any (hg : Blk w g 119 m.cells) (hn : U32 m.code) : Calls Tryz.prog 88 #[.pointer (some ⟨g, 0, none⟩)] w (GetsPost w (partsR m 9)) := by
  have c10 : w.cell? ⟨g, 10, none⟩ = some (.int .u32 m.code) := hg.cell 10
  have hlt := hg.lt
  have V := ownF_lit w [⟨0, m.code, none, 0, [], none, 0, []⟩] 1 rfl (by decide) #[.int .i64 0, .int .u32 m.code, .slice none 0 0, .slice none 0 0] (by simp [fcells, FD.cells])
  go_enter Tryz.func88, Tryz.ntmps88
  go_wp2
  go_ret
  refine ⟨(Only.refl _ _).alloc _, _, _, rfl, V, rfl, fun x hx => ?_, fun x hx => ?_⟩
  · rw [List.mem_singleton] at hx; subst hx; exact ⟨FD.ok.plain _ _ _, plain_off _ _ _⟩
  · rw [List.mem_singleton] at hx; subst hx; exact hn
set_option maxRecDepth 100000 in
set_option maxHeartbeats 1600000 in
theorem getSizeR_any (hg : Blk w g 119 m.cells) (hn : RNums m) : Calls Tryz.prog 84 #[.pointer (some ⟨g, 0, none⟩)] w (GetsPost w (partsR m 6)) := by
  have hlt := hg.lt
  have V := ownF_lit w.drew [⟨0, m.cols, none, 0, [], none, 0, []⟩, ⟨0, m.rows, none, 0, [], none, 0, []⟩, ⟨0, m.width, none, 0, [], none, 0, []⟩, ⟨0, m.height, none, 0, [], none, 0, []⟩] 4 rfl (by decide) #[.int .i64 0, .int .u32 m.cols, .slice none 0 0, .slice none 0 0, .int .i64 0, .int .u32 m.rows, .slice none 0 0, .slice none 0 0, .int .i64 0, .int .u32 m.width, .slice none 0 0, .slice none 0 0, .int .i64 0, .int .u32 m.height, .slice none 0 0, .slice none 0 0] (by simp [fcells, FD.cells])
  go_enter Tryz.func84, Tryz.ntmps84
  go_wp2_with fail
  have hI : (fun w' : World => Blk w' g 119 m.cells) { w with drawn := w.drawn + 1 } := hg
  refine wp_region_E (fun w' : World => Blk w' g 119 m.cells) [] (by kernel_rfl) ?_
  refine wpAnyE_take 0 (v := (.pointer (some ⟨g, 0, none⟩))) rfl (by kernel_rfl) (fun _ _ _ h => h) hI (fun w' hw' => Or.inl ⟨by kernel_rfl, Or.inl (by go_simp)⟩) ?_
  refine wpAnyE_take 1 (v := (.pointer (some ⟨g, 0, none⟩))) rfl (by kernel_rfl) (fun _ _ _ h => h) hI (fun w' hw' => Or.inl ⟨by kernel_rfl, Or.inl (by go_simp)⟩) ?_
  refine wpAnyE_take 2 (v := (.pointer (some ⟨g, 0, none⟩))) rfl (by kernel_rfl) (fun _ _ _ h => h) hI (fun w' hw' => Or.inl ⟨by kernel_rfl, Or.inl (by go_simp)⟩) ?_
  refine wpAnyE_take 3 (v := (.pointer (some ⟨g, 4, none⟩))) rfl (by kernel_rfl) (fun _ _ _ h => h) hI (fun w' hw' => Or.inl ⟨by kernel_rfl, Or.inl (by go_simp)⟩) ?_
  refine wpAnyE_take 4 (v := (.pointer (some ⟨g, 4, none⟩))) rfl (by kernel_rfl) (fun _ _ _ h => h) hI (fun w' hw' => Or.inl ⟨by kernel_rfl, Or.inl (by go_simp)⟩) ?_
  refine wpAnyE_take 5 (v := (.int .u32 m.cols)) rfl (by kernel_rfl) (fun _ _ _ h => h) hI (fun w' hw' => Or.inl ⟨by kernel_rfl, Or.inl (by have y0 : w'.cell? ⟨g, 4, none⟩ = some (.int .u32 m.cols) := hw'.cell 4; go_simp)⟩) ?_
  refine wpAnyE_take 6 (v := (.agg #[.int .i64 0, .int .u32 m.cols, .slice none 0 0, .slice none 0 0])) rfl (by kernel_rfl) (fun _ _ _ h => h) hI (fun w' hw' => Or.inl ⟨by kernel_rfl, Or.inl (by go_simp)⟩) ?_
  refine wpAnyE_take 7 (v := (.pointer (some ⟨g, 0, none⟩))) rfl (by kernel_rfl) (fun _ _ _ h => h) hI (fun w' hw' => Or.inl ⟨by kernel_rfl, Or.inl (by go_simp)⟩) ?_
  refine wpAnyE_take 8 (v := (.pointer (some ⟨g, 0, none⟩))) rfl (by kernel_rfl) (fun _ _ _ h => h) hI (fun w' hw' => Or.inl ⟨by kernel_rfl, Or.inl (by go_simp)⟩) ?_
  refine wpAnyE_take 9 (v := (.pointer (some ⟨g, 0, none⟩))) rfl (by kernel_rfl) (fun _ _ _ h => h) hI (fun w' hw' => Or.inl ⟨by kernel_rfl, Or.inl (by go_simp)⟩) ?_
  refine wpAnyE_take 10 (v := (.pointer (some ⟨g, 4, none⟩))) rfl (by kernel_rfl) (fun _ _ _ h => h) hI (fun w' hw' => Or.inl ⟨by kernel_rfl, Or.inl (by go_simp)⟩) ?_
  refine wpAnyE_take 11 (v := (.pointer (some ⟨g, 5, none⟩))) rfl (by kernel_rfl) (fun _ _ _ h => h) hI (fun w' hw' => Or.inl ⟨by kernel_rfl, Or.inl (by go_simp)⟩) ?_
  refine wpAnyE_take 12 (v := (.int .u32 m.rows)) rfl (by kernel_rfl) (fun _ _ _ h => h) hI (fun w' hw' => Or.inl ⟨by kernel_rfl, Or.inl (by have y0 : w'.cell? ⟨g, 5, none⟩ = some (.int .u32 m.rows) := hw'.cell 5; go_simp)⟩) ?_
  refine wpAnyE_take 13 (v := (.agg #[.int .i64 0, .int .u32 m.rows, .slice none 0 0, .slice none 0 0])) rfl (by kernel_rfl) (fun _ _ _ h => h) hI (fun w' hw' => Or.inl ⟨by kernel_rfl, Or.inl (by go_simp)⟩) ?_
  refine wpAnyE_take 14 (v := (.pointer (some ⟨g, 0, none⟩))) rfl (by kernel_rfl) (fun _ _ _ h => h) hI (fun w' hw' => Or.inl ⟨by kernel_rfl, Or.inl (by go_simp)⟩) ?_
  refine wpAnyE_take 15 (v := (.pointer (some ⟨g, 0, none⟩))) rfl (by kernel_rfl) (fun _ _ _ h => h) hI (fun w' hw' => Or.inl ⟨by kernel_rfl, Or.inl (by go_simp)⟩) ?_
  refine wpAnyE_take 16 (v := (.pointer (some ⟨g, 0, none⟩))) rfl (by kernel_rfl) (fun _ _ _ h => h) hI (fun w' hw' => Or.inl ⟨by kernel_rfl, Or.inl (by go_simp)⟩) ?_
  refine wpAnyE_take 17 (v := (.pointer (some ⟨g, 4, none⟩))) rfl (by kernel_rfl) (fun _ _ _ h => h) hI (fun w' hw' => Or.inl ⟨by kernel_rfl, Or.inl (by go_simp)⟩) ?_
  refine wpAnyE_take 18 (v := (.pointer (some ⟨g, 6, none⟩))) rfl (by kernel_rfl) (fun _ _ _ h => h) hI (fun w' hw' => Or.inl ⟨by kernel_rfl, Or.inl (by go_simp)⟩) ?_
  refine wpAnyE_take 19 (v := (.int .u32 m.width)) rfl (by kernel_rfl) (fun _ _ _ h => h) hI (fun w' hw' => Or.inl ⟨by kernel_rfl, Or.inl (by have y0 : w'.cell? ⟨g, 6, none⟩ = some (.int .u32 m.width) := hw'.cell 6; go_simp)⟩) ?_
  refine wpAnyE_take 20 (v := (.agg #[.int .i64 0, .int .u32 m.width, .slice none 0 0, .slice none 0 0])) rfl (by kernel_rfl) (fun _ _ _ h => h) hI (fun w' hw' => Or.inl ⟨by kernel_rfl, Or.inl (by go_simp)⟩) ?_
  refine wpAnyE_take 21 (v := (.pointer (some ⟨g, 0, none⟩))) rfl (by kernel_rfl) (fun _ _ _ h => h) hI (fun w' hw' => Or.inl ⟨by kernel_rfl, Or.inl (by go_simp)⟩) ?_
  refine wpAnyE_take 22 (v := (.pointer (some ⟨g, 0, none⟩))) rfl (by kernel_rfl) (fun _ _ _ h => h) hI (fun w' hw' => Or.inl ⟨by kernel_rfl, Or.inl (by go_simp)⟩) ?_
  refine wpAnyE_take 23 (v := (.pointer (some ⟨g, 0, none⟩))) rfl (by kernel_rfl) (fun _ _ _ h => h) hI (fun w' hw' => Or.inl ⟨by kernel_rfl, Or.inl (by go_simp)⟩) ?_
  refine wpAnyE_take 24 (v := (.pointer (some ⟨g, 4, none⟩))) rfl (by kernel_rfl) (fun _ _ _ h => h) hI (fun w' hw' => Or.inl ⟨by kernel_rfl, Or.inl (by go_simp)⟩) ?_
  refine wpAnyE_take 25 (v := (.pointer (some ⟨g, 7, none⟩))) rfl (by kernel_rfl) (fun _ _ _ h => h) hI (fun w' hw' => Or.inl ⟨by kernel_rfl, Or.inl (by go_simp)⟩) ?_
  refine wpAnyE_take 26 (v := (.int .u32 m.height)) rfl (by kernel_rfl) (fun _ _ _ h => h) hI (fun w' hw' => Or.inl ⟨by kernel_rfl, Or.inl (by have y0 : w'.cell? ⟨g, 7, none⟩ = some (.int .u32 m.height) := hw'.cell 7; go_simp)⟩) ?_
  refine wpAnyE_take 27 (v := (.agg #[.int .i64 0, .int .u32 m.height, .slice none 0 0, .slice none 0 0])) rfl (by kernel_rfl) (fun _ _ _ h => h) hI (fun w' hw' => Or.inl ⟨by kernel_rfl, Or.inl (by go_simp)⟩) ?_
  refine wpAnyE_one 28 rfl (by kernel_rfl) hI (fun K hK => ?_)
  rw [if_pos (by kernel_rfl)]
  go_simp
  refine hK _ _ ?_
  clear hK K
  have hI2 : (fun w' : World => Blk w' g 119 m.cells) (w.drew.alloc (.cells #[.int .i64 0, .int .u32 m.cols, .slice none 0 0, .slice none 0 0, .int .i64 0, .int .u32 m.rows, .slice none 0 0, .slice none 0 0, .int .i64 0, .int .u32 m.width, .slice none 0 0, .slice none 0 0, .int .i64 0, .int .u32 m.height, .slice none 0 0, .slice none 0 0] 123)) := hg.alloc _
  refine wpAnyE_take 29 (v := (.slice (some ⟨w.heap.size, 0, none⟩) 4 4)) rfl (by kernel_rfl) (fun _ _ _ h => h) hI2 (fun w' hw' => Or.inl ⟨by kernel_rfl, Or.inl (by go_simp)⟩) ?_
  refine wpAnyE_end (by kernel_rfl) hI2 ?_
  clear hI hI2
  simp only [Exit.then]
  go_wp2_with fail
  go_ret
  refine ⟨((Only.refl _ _).drew).alloc _, _, _, rfl, V, rfl, fun x hx => ?_, fun x hx => ?_⟩
  · simp only [List.mem_cons, List.not_mem_nil, or_false] at hx
    rcases hx with rfl | rfl | rfl | rfl <;> exact ⟨FD.ok.plain _ _ _, plain_off _ _ _⟩
  · obtain ⟨n1, n2, n3, n4, _⟩ := hn
    simp only [List.mem_cons, List.not_mem_nil, or_false] at hx
    rcases hx with rfl | rfl | rfl | rfl
    · exact n1
    · exact n2
    · exact n3
    · exact n4
set_option maxRecDepth 100000 in
set_option maxHeartbeats 1600000 in
theorem getEnvR_any (hg : Blk w g 119 m.cells) (hs : m.text.size ≤ 140737488355328) (hv : m.value.size ≤ 140737488355328) : Calls Tryz.prog 74 #[.pointer (some ⟨g, 0, none⟩)] w (GetsPost w (partsR m 2)) := by
  have hlt := hg.lt
  go_enter Tryz.func74, Tryz.ntmps74
  go_wp2_with fail
  have hI : (fun w' : World => Blk w' g 119 m.cells) { w with drawn := w.drawn + 1 } := hg
  refine wp_region_E (fun w' : World => Blk w' g 119 m.cells) [] (by kernel_rfl) ?_
  refine wpAnyE_take 0 (v := (.pointer (some ⟨g, 0, none⟩))) rfl (by kernel_rfl) (fun _ _ _ h => h) hI (fun w' hw' => Or.inl ⟨by kernel_rfl, Or.inl (by go_simp)⟩) ?_
  refine wpAnyE_take 1 (v := (.pointer (some ⟨g, 0, none⟩))) rfl (by kernel_rfl) (fun _ _ _ h => h) hI (fun w' hw' => Or.inl ⟨by kernel_rfl, Or.inl (by go_simp)⟩) ?_
  refine wpAnyE_take 2 (v := (.pointer (some ⟨g, 0, none⟩))) rfl (by kernel_rfl) (fun _ _ _ h => h) hI (fun w' hw' => Or.inl ⟨by kernel_rfl, Or.inl (by go_simp)⟩) ?_
  refine wpAnyE_take 3 (v := (.pointer (some ⟨g, 1, none⟩))) rfl (by kernel_rfl) (fun _ _ _ h => h) hI (fun w' hw' => Or.inl ⟨by kernel_rfl, Or.inl (by go_simp)⟩) ?_
  refine wpAnyE_take 4 (v := (.string m.text)) rfl (by kernel_rfl) (fun _ _ _ h => h) hI (fun w' hw' => Or.inl ⟨by kernel_rfl, Or.inl (by have y0 : w'.cell? ⟨g, 1, none⟩ = some (.string m.text) := hw'.cell 1; go_simp)⟩) ?_
  refine wpAnyE_take 6 (v := (.pointer (some ⟨g, 0, none⟩))) rfl (by kernel_rfl) (fun _ _ _ h => h) hI (fun w' hw' => Or.inl ⟨by kernel_rfl, Or.inl (by go_simp)⟩) ?_
  refine wpAnyE_take 7 (v := (.pointer (some ⟨g, 0, none⟩))) rfl (by kernel_rfl) (fun _ _ _ h => h) hI (fun w' hw' => Or.inl ⟨by kernel_rfl, Or.inl (by go_simp)⟩) ?_
  refine wpAnyE_take 8 (v := (.pointer (some ⟨g, 0, none⟩))) rfl (by kernel_rfl) (fun _ _ _ h => h) hI (fun w' hw' => Or.inl ⟨by kernel_rfl, Or.inl (by go_simp)⟩) ?_
  refine wpAnyE_take 9 (v := (.pointer (some ⟨g, 2, none⟩))) rfl (by kernel_rfl) (fun _ _ _ h => h) hI (fun w' hw' => Or.inl ⟨by kernel_rfl, Or.inl (by go_simp)⟩) ?_
  refine wpAnyE_take 10 (v := (.string m.value)) rfl (by kernel_rfl) (fun _ _ _ h => h) hI (fun w' hw' => Or.inl ⟨by kernel_rfl, Or.inl (by have y0 : w'.cell? ⟨g, 2, none⟩ = some (.string m.value) := hw'.cell 2; go_simp)⟩) ?_
  have P0 : Only [] w w.drew := (Only.refl _ _).drew
  have T0 := rtext_any m.text w.drew hs
  refine wpAnyE_one 5 rfl (by kernel_rfl) hI (fun K hK => ?_)
  rw [if_pos (by kernel_rfl)]
  go_simp
  go_call T0 as e w1 ⟨Q1, f1, rfl, hp1, hnew1, ok1, hn1⟩
  clear T0
  have P1 : Only [] w w1 := P0.trans Q1 (by simp)
  have hI1 : (fun w' : World => Blk w' g 119 m.cells) w1 := hg.only P1 (by simp)
  refine hK _ _ ?_
  clear hK K
  unfold FD.val
  have T1 := rtext_any m.value w1 hv
  refine wpAnyE_one 11 rfl (by kernel_rfl) hI1 (fun K hK => ?_)
  rw [if_pos (by kernel_rfl)]
  go_simp
  go_call T1 as e w2 ⟨Q2, f2, rfl, hp2, hnew2, ok2, hn2⟩
  clear T1
  have P2 : Only [] w w2 := P1.trans Q2 (by simp)
  have hI2 : (fun w' : World => Blk w' g 119 m.cells) w2 := hg.only P2 (by simp)
  have ok1 := ok1.only Q2
  refine hK _ _ ?_
  clear hK K
  unfold FD.val
  have V := ownF_lit w2 [f1, f2] 2 rfl (by decide) #[.int .i64 f1.kind, .int .u32 f1.n, .slice f1.tA f1.text.length f1.tc, .slice f1.lA f1.list.length f1.lc, .int .i64 f2.kind, .int .u32 f2.n, .slice f2.tA f2.text.length f2.tc, .slice f2.lA f2.list.length f2.lc] (by simp [fcells, FD.cells])
  refine wpAnyE_one 12 rfl (by kernel_rfl) hI2 (fun K hK => ?_)
  rw [if_pos (by kernel_rfl)]
  go_simp
  refine hK _ _ ?_
  clear hK K
  have PL : Only [] w2 (w2.alloc (.cells #[.int .i64 f1.kind, .int .u32 f1.n, .slice f1.tA f1.text.length f1.tc, .slice f1.lA f1.list.length f1.lc, .int .i64 f2.kind, .int .u32 f2.n, .slice f2.tA f2.text.length f2.tc, .slice f2.lA f2.list.length f2.lc] 123)) := (Only.refl _ _).alloc _
  have hIL : (fun w' : World => Blk w' g 119 m.cells) (w2.alloc (.cells #[.int .i64 f1.kind, .int .u32 f1.n, .slice f1.tA f1.text.length f1.tc, .slice f1.lA f1.list.length f1.lc, .int .i64 f2.kind, .int .u32 f2.n, .slice f2.tA f2.text.length f2.tc, .slice f2.lA f2.list.length f2.lc] 123)) := hI2.alloc _
  refine wpAnyE_take 13 (v := (.slice (some ⟨w2.heap.size, 0, none⟩) 2 2)) rfl (by kernel_rfl) (fun _ _ _ h => h) hIL (fun w' hw' => Or.inl ⟨by kernel_rfl, Or.inl (by go_simp)⟩) ?_
  refine wpAnyE_end (by kernel_rfl) hIL ?_
  simp only [Exit.then]
  go_wp2_with fail
  go_ret
  refine ⟨P2.trans PL (by simp), _, _, rfl, V.mono P2.size, ?_, fun x hx => ?_, fun x hx => ?_⟩
  · simp only [List.map_cons, List.map_nil, hp1, hp2]; rfl
  · simp only [List.mem_cons, List.not_mem_nil, or_false] at hx
    rcases hx with rfl | rfl
    · exact ⟨ok1.only PL, off_new ok1 _ _⟩
    · exact ⟨ok2.only PL, off_new ok2 _ _⟩
  · simp only [List.mem_cons, List.not_mem_nil, or_false] at hx
    rcases hx with rfl | rfl
    · exact hn1
    · exact hn2
set_option maxRecDepth 100000 in
set_option maxHeartbeats 1600000 in
theorem getDeathR_any (hg : Blk w g 119 m.cells) (hs : m.text.size ≤ 140737488355328) (hv : m.value.size ≤ 140737488355328) (hl : m.lang.size ≤ 140737488355328) : Calls Tryz.prog 90 #[.pointer (some ⟨g, 0, none⟩)] w (GetsPost w (partsR m 10)) := by
  have hlt := hg.lt
  go_enter Tryz.func90, Tryz.ntmps90
  go_wp2_with fail
  have hI : (fun w' : World => Blk w' g 119 m.cells) { w with drawn := w.drawn + 1 } := hg
  refine wp_region_E (fun w' : World => Blk w' g 119 m.cells) [] (by kernel_rfl) ?_
  refine wpAnyE_take 0 (v := (.pointer (some ⟨g, 0, none⟩))) rfl (by kernel_rfl) (fun _ _ _ h => h) hI (fun w' hw' => Or.inl ⟨by kernel_rfl, Or.inl (by go_simp)⟩) ?_
  refine wpAnyE_take 1 (v := (.pointer (some ⟨g, 0, none⟩))) rfl (by kernel_rfl) (fun _ _ _ h => h) hI (fun w' hw' => Or.inl ⟨by kernel_rfl, Or.inl (by go_simp)⟩) ?_
  refine wpAnyE_take 2 (v := (.pointer (some ⟨g, 0, none⟩))) rfl (by kernel_rfl) (fun _ _ _ h => h) hI (fun w' hw' => Or.inl ⟨by kernel_rfl, Or.inl (by go_simp)⟩) ?_
  refine wpAnyE_take 3 (v := (.pointer (some ⟨g, 1, none⟩))) rfl (by kernel_rfl) (fun _ _ _ h => h) hI (fun w' hw' => Or.inl ⟨by kernel_rfl, Or.inl (by go_simp)⟩) ?_
  refine wpAnyE_take 4 (v := (.string m.text)) rfl (by kernel_rfl) (fun _ _ _ h => h) hI (fun w' hw' => Or.inl ⟨by kernel_rfl, Or.inl (by have y0 : w'.cell? ⟨g, 1, none⟩ = some (.string m.text) := hw'.cell 1; go_simp)⟩) ?_
  refine wpAnyE_take 6 (v := (.pointer (some ⟨g, 0, none⟩))) rfl (by kernel_rfl) (fun _ _ _ h => h) hI (fun w' hw' => Or.inl ⟨by kernel_rfl, Or.inl (by go_simp)⟩) ?_
  refine wpAnyE_take 7 (v := (.pointer (some ⟨g, 0, none⟩))) rfl (by kernel_rfl) (fun _ _ _ h => h) hI (fun w' hw' => Or.inl ⟨by kernel_rfl, Or.inl (by go_simp)⟩) ?_
  refine wpAnyE_take 8 (v := (.pointer (some ⟨g, 0, none⟩))) rfl (by kernel_rfl) (fun _ _ _ h => h) hI (fun w' hw' => Or.inl ⟨by kernel_rfl, Or.inl (by go_simp)⟩) ?_
  refine wpAnyE_take 9 (v := (.pointer (some ⟨g, 9, none⟩))) rfl (by kernel_rfl) (fun _ _ _ h => h) hI (fun w' hw' => Or.inl ⟨by kernel_rfl, Or.inl (by go_simp)⟩) ?_
  refine wpAnyE_take 10 (v := (.bool m.on)) rfl (by kernel_rfl) (fun _ _ _ h => h) hI (fun w' hw' => Or.inl ⟨by kernel_rfl, Or.inl (by have y0 : w'.cell? ⟨g, 9, none⟩ = some (.bool m.on) := hw'.cell 9; go_simp)⟩) ?_
  refine wpAnyE_take 12 (v := (.pointer (some ⟨g, 0, none⟩))) rfl (by kernel_rfl) (fun _ _ _ h => h) hI (fun w' hw' => Or.inl ⟨by kernel_rfl, Or.inl (by go_simp)⟩) ?_
  refine wpAnyE_take 13 (v := (.pointer (some ⟨g, 0, none⟩))) rfl (by kernel_rfl) (fun _ _ _ h => h) hI (fun w' hw' => Or.inl ⟨by kernel_rfl, Or.inl (by go_simp)⟩) ?_
  refine wpAnyE_take 14 (v := (.pointer (some ⟨g, 0, none⟩))) rfl (by kernel_rfl) (fun _ _ _ h => h) hI (fun w' hw' => Or.inl ⟨by kernel_rfl, Or.inl (by go_simp)⟩) ?_
  refine wpAnyE_take 15 (v := (.pointer (some ⟨g, 2, none⟩))) rfl (by kernel_rfl) (fun _ _ _ h => h) hI (fun w' hw' => Or.inl ⟨by kernel_rfl, Or.inl (by go_simp)⟩) ?_
  refine wpAnyE_take 16 (v := (.string m.value)) rfl (by kernel_rfl) (fun _ _ _ h => h) hI (fun w' hw' => Or.inl ⟨by kernel_rfl, Or.inl (by have y0 : w'.cell? ⟨g, 2, none⟩ = some (.string m.value) := hw'.cell 2; go_simp)⟩) ?_
  refine wpAnyE_take 18 (v := (.pointer (some ⟨g, 0, none⟩))) rfl (by kernel_rfl) (fun _ _ _ h => h) hI (fun w' hw' => Or.inl ⟨by kernel_rfl, Or.inl (by go_simp)⟩) ?_
  refine wpAnyE_take 19 (v := (.pointer (some ⟨g, 0, none⟩))) rfl (by kernel_rfl) (fun _ _ _ h => h) hI (fun w' hw' => Or.inl ⟨by kernel_rfl, Or.inl (by go_simp)⟩) ?_
  refine wpAnyE_take 20 (v := (.pointer (some ⟨g, 0, none⟩))) rfl (by kernel_rfl) (fun _ _ _ h => h) hI (fun w' hw' => Or.inl ⟨by kernel_rfl, Or.inl (by go_simp)⟩) ?_
  refine wpAnyE_take 21 (v := (.pointer (some ⟨g, 3, none⟩))) rfl (by kernel_rfl) (fun _ _ _ h => h) hI (fun w' hw' => Or.inl ⟨by kernel_rfl, Or.inl (by go_simp)⟩) ?_
  refine wpAnyE_take 22 (v := (.string m.lang)) rfl (by kernel_rfl) (fun _ _ _ h => h) hI (fun w' hw' => Or.inl ⟨by kernel_rfl, Or.inl (by have y0 : w'.cell? ⟨g, 3, none⟩ = some (.string m.lang) := hw'.cell 3; go_simp)⟩) ?_
  have P0 : Only [] w w.drew := (Only.refl _ _).drew
  have T0 := rtext_any m.text w.drew hs
  refine wpAnyE_one 5 rfl (by kernel_rfl) hI (fun K hK => ?_)
  rw [if_pos (by kernel_rfl)]
  go_simp
  go_call T0 as e w1 ⟨Q1, f1, rfl, hp1, hnew1, ok1, hn1⟩
  clear T0
  have P1 : Only [] w w1 := P0.trans Q1 (by simp)
  have hI1 : (fun w' : World => Blk w' g 119 m.cells) w1 := hg.only P1 (by simp)
  refine hK _ _ ?_
  clear hK K
  unfold FD.val
  have T1 := rflag_any m.on w1
  refine wpAnyE_one 11 rfl (by kernel_rfl) hI1 (fun K hK => ?_)
  rw [if_pos (by kernel_rfl)]
  go_simp
  go_call T1 as e w2 ⟨Q2, f2, rfl, hp2, hnew2, ok2, hn2⟩
  clear T1
  have P2 : Only [] w w2 := P1.trans Q2 (by simp)
  have hI2 : (fun w' : World => Blk w' g 119 m.cells) w2 := hg.only P2 (by simp)
  have ok1 := ok1.only Q2
  refine hK _ _ ?_
  clear hK K
  unfold FD.val
  have T2 := rtext_any m.value w2 hv
  refine wpAnyE_one 17 rfl (by kernel_rfl) hI2 (fun K hK => ?_)
  rw [if_pos (by kernel_rfl)]
  go_simp
  go_call T2 as e w3 ⟨Q3, f3, rfl, hp3, hnew3, ok3, hn3⟩
  clear T2
  have P3 : Only [] w w3 := P2.trans Q3 (by simp)
  have hI3 : (fun w' : World => Blk w' g 119 m.cells) w3 := hg.only P3 (by simp)
  have ok1 := ok1.only Q3
  have ok2 := ok2.only Q3
  refine hK _ _ ?_
  clear hK K
  unfold FD.val
  have T3 := rtext_any m.lang w3 hl
  refine wpAnyE_one 23 rfl (by kernel_rfl) hI3 (fun K hK => ?_)
  rw [if_pos (by kernel_rfl)]
  go_simp
  go_call T3 as e w4 ⟨Q4, f4, rfl, hp4, hnew4, ok4, hn4⟩
  clear T3
  have P4 : Only [] w w4 := P3.trans Q4 (by simp)
  have hI4 : (fun w' : World => Blk w' g 119 m.cells) w4 := hg.only P4 (by simp)
  have ok1 := ok1.only Q4
  have ok2 := ok2.only Q4
  have ok3 := ok3.only Q4
  refine hK _ _ ?_
  clear hK K
  unfold FD.val
  have V := ownF_lit w4 [f1, f2, f3, f4] 4 rfl (by decide) #[.int .i64 f1.kind, .int .u32 f1.n, .slice f1.tA f1.text.length f1.tc, .slice f1.lA f1.list.length f1.lc, .int .i64 f2.kind, .int .u32 f2.n, .slice f2.tA f2.text.length f2.tc, .slice f2.lA f2.list.length f2.lc, .int .i64 f3.kind, .int .u32 f3.n, .slice f3.tA f3.text.length f3.tc, .slice f3.lA f3.list.length f3.lc, .int .i64 f4.kind, .int .u32 f4.n, .slice f4.tA f4.text.length f4.tc, .slice f4.lA f4.list.length f4.lc] (by simp [fcells, FD.cells])
  refine wpAnyE_one 24 rfl (by kernel_rfl) hI4 (fun K hK => ?_)
  rw [if_pos (by kernel_rfl)]
  go_simp
  refine hK _ _ ?_
  clear hK K
  have PL : Only [] w4 (w4.alloc (.cells #[.int .i64 f1.kind, .int .u32 f1.n, .slice f1.tA f1.text.length f1.tc, .slice f1.lA f1.list.length f1.lc, .int .i64 f2.kind, .int .u32 f2.n, .slice f2.tA f2.text.length f2.tc, .slice f2.lA f2.list.length f2.lc, .int .i64 f3.kind, .int .u32 f3.n, .slice f3.tA f3.text.length f3.tc, .slice f3.lA f3.list.length f3.lc, .int .i64 f4.kind, .int .u32 f4.n, .slice f4.tA f4.text.length f4.tc, .slice f4.lA f4.list.length f4.lc] 123)) := (Only.refl _ _).alloc _
  have hIL : (fun w' : World => Blk w' g 119 m.cells) (w4.alloc (.cells #[.int .i64 f1.kind, .int .u32 f1.n, .slice f1.tA f1.text.length f1.tc, .slice f1.lA f1.list.length f1.lc, .int .i64 f2.kind, .int .u32 f2.n, .slice f2.tA f2.text.length f2.tc, .slice f2.lA f2.list.length f2.lc, .int .i64 f3.kind, .int .u32 f3.n, .slice f3.tA f3.text.length f3.tc, .slice f3.lA f3.list.length f3.lc, .int .i64 f4.kind, .int .u32 f4.n, .slice f4.tA f4.text.length f4.tc, .slice f4.lA f4.list.length f4.lc] 123)) := hI4.alloc _
  refine wpAnyE_take 25 (v := (.slice (some ⟨w4.heap.size, 0, none⟩) 4 4)) rfl (by kernel_rfl) (fun _ _ _ h => h) hIL (fun w' hw' => Or.inl ⟨by kernel_rfl, Or.inl (by go_simp)⟩) ?_
  refine wpAnyE_end (by kernel_rfl) hIL ?_
  simp only [Exit.then]
  go_wp2_with fail
  go_ret
  refine ⟨P4.trans PL (by simp), _, _, rfl, V.mono P4.size, ?_, fun x hx => ?_, fun x hx => ?_⟩
  · simp only [List.map_cons, List.map_nil, hp1, hp2, hp3, hp4]; rfl
  · simp only [List.mem_cons, List.not_mem_nil, or_false] at hx
    rcases hx with rfl | rfl | rfl | rfl
    · exact ⟨ok1.only PL, off_new ok1 _ _⟩
    · exact ⟨ok2.only PL, off_new ok2 _ _⟩
    · exact ⟨ok3.only PL, off_new ok3 _ _⟩
    · exact ⟨ok4.only PL, off_new ok4 _ _⟩
  · simp only [List.mem_cons, List.not_mem_nil, or_false] at hx
    rcases hx with rfl | rfl | rfl | rfl
    · exact hn1
    · exact hn2
    · exact hn3
    · exact hn4
end
end Go.Proofs.YtdplnedpbkpgpaaGreatDoor
