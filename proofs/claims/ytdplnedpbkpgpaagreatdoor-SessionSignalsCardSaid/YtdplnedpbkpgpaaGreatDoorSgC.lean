/- Layer 4: the getters; no condition but the sizes that can be · Layer 4: the getters; no condition but the sizes that can be · A text of bytes that are read; no condition · Layer 4: the putters; no condition but that the fields are there · Layer 4: the getters and the putters, by the kind; no condition but the sizes · Layer 4: a kind's rule, its name; no condition · Layer 4: what is asked of a request; no condition. -/
import Derived.Test.YtdplnedpbkpgpaaGreatDoorSgB
import Derived.Test.YtdplnedpbkpgpaaGreatDoorApX
import Derived.Test.YtdplnedpbkpgpaaGreatDoorShelf
namespace Go.Proofs.YtdplnedpbkpgpaaGreatDoor
set_option linter.all false
open Go.RowKit

section
variable (m : RQ) (g : Nat) (w : World)
set_option maxRecDepth 100000 in
set_option maxHeartbeats 1600000 in
theorem getNoneR_any (hg : Blk w g 119 m.cells) : Calls Tryz.prog 77 #[.pointer (some ⟨g, 0, none⟩)] w (GetsPost w (partsR m 3)) := by
  go_enter Tryz.func77, Tryz.ntmps77
  go_wp2
  go_ret
  exact ⟨Only.refl _ _, _, [], rfl, ownF_nil _ _, rfl, fun f hf => by simp at hf, fun f hf => by simp at hf⟩
set_option maxRecDepth 100000 in
set_option maxHeartbeats 1600000 in
theorem getTextR_any (hg : Blk w g 119 m.cells) (hs : m.text.size ≤ 140737488355328) : Calls Tryz.prog 80 #[.pointer (some ⟨g, 0, none⟩)] w (GetsPost w (partsR m 4)) := by
  have c1 : w.cell? ⟨g, 1, none⟩ = some (.string m.text) := hg.cell 1
  have hlt := hg.lt
  have TX := rtext_any m.text w hs
  go_enter Tryz.func80, Tryz.ntmps80
  go_wp2_with fail
  go_call TX as e w1 ⟨P1, f, rfl, hp, hnew, okf, hn⟩
  have V := ownF_lit w1 [f] 1 rfl (by decide) f.cells.toArray (by simp [fcells])
  have P2 : Only [] w1 (w1.alloc (.cells f.cells.toArray 123)) := (Only.refl _ _).alloc _
  have z1 := P1.size
  unfold FD.val
  go_wp2_with fail
  go_ret
  refine ⟨P1.trans P2 (by simp), _, [f], rfl, V.mono z1, ?_, fun x hx => ?_, fun x hx => ?_⟩
  · rw [List.map_cons, hp]; rfl
  · rw [List.mem_singleton] at hx; subst hx; exact ⟨okf.only P2, off_new okf 1 1⟩
  · rw [List.mem_singleton] at hx; subst hx; exact hn
set_option maxRecDepth 100000 in
set_option maxHeartbeats 1600000 in
theorem getOnR_any (hg : Blk w g 119 m.cells)  : Calls Tryz.prog 86 #[.pointer (some ⟨g, 0, none⟩)] w (GetsPost w (partsR m 7)) := by
  have c9 : w.cell? ⟨g, 9, none⟩ = some (.bool m.on) := hg.cell 9
  have hlt := hg.lt
  have TX := rflag_any m.on w
  go_enter Tryz.func86, Tryz.ntmps86
  go_wp2_with fail
  go_call TX as e w1 ⟨P1, f, rfl, hp, hnew, okf, hn⟩
  have V := ownF_lit w1 [f] 1 rfl (by decide) f.cells.toArray (by simp [fcells])
  have P2 : Only [] w1 (w1.alloc (.cells f.cells.toArray 123)) := (Only.refl _ _).alloc _
  have z1 := P1.size
  unfold FD.val
  go_wp2_with fail
  go_ret
  refine ⟨P1.trans P2 (by simp), _, [f], rfl, V.mono z1, ?_, fun x hx => ?_, fun x hx => ?_⟩
  · rw [List.map_cons, hp]; rfl
  · rw [List.mem_singleton] at hx; subst hx; exact ⟨okf.only P2, off_new okf 1 1⟩
  · rw [List.mem_singleton] at hx; subst hx; exact hn
set_option maxRecDepth 100000 in
set_option maxHeartbeats 1600000 in
theorem getCodeR_any (hg : Blk w g 119 m.cells) (hn : U32 m.code) : Calls Tryz.prog 88 #[.pointer (some ⟨g, 0, none⟩)] w (GetsPost w (partsR m 9)) := by
  have c10 : w.cell? ⟨g, 10, none⟩ = some (.int .u32 m.code) := hg.cell 10
  have hlt := hg.lt
  have V := ownF_lit w [⟨0, m.code, none, 0, [], none, 0, []⟩] 1 rfl (by decide) #[.int .i64 0, .int .u32 m.code, .slice none 0 0, .slice none 0 0] (by simp [fcells, FD.cells])
  go_enter Tryz.func88, Tryz.ntmps88
  go_wp2
  go_ret
  refine ⟨(Only.refl _ _).alloc _, _, _, rfl, V, rfl, fun x hx => ?_, fun x hx => ?_⟩
  · rw [List.mem_singleton] at hx; subst hx; exact ⟨FD.ok.plain _ _ _, plain_off _ _ _⟩
  · rw [List.mem_singleton] at hx; subst hx; exact hn
set_option maxRecDepth 100000 in
set_option maxHeartbeats 1600000 in
theorem getSizeR_any (hg : Blk w g 119 m.cells) (hn : RNums m) : Calls Tryz.prog 84 #[.pointer (some ⟨g, 0, none⟩)] w (GetsPost w (partsR m 6)) := by
  have hlt := hg.lt
  have V := ownF_lit w.drew [⟨0, m.cols, none, 0, [], none, 0, []⟩, ⟨0, m.rows, none, 0, [], none, 0, []⟩, ⟨0, m.width, none, 0, [], none, 0, []⟩, ⟨0, m.height, none, 0, [], none, 0, []⟩] 4 rfl (by decide) #[.int .i64 0, .int .u32 m.cols, .slice none 0 0, .slice none 0 0, .int .i64 0, .int .u32 m.rows, .slice none 0 0, .slice none 0 0, .int .i64 0, .int .u32 m.width, .slice none 0 0, .slice none 0 0, .int .i64 0, .int .u32 m.height, .slice none 0 0, .slice none 0 0] (by simp [fcells, FD.cells])
  go_enter Tryz.func84, Tryz.ntmps84
  go_wp2_with fail
  have hI : (fun w' : World => Blk w' g 119 m.cells) { w with drawn := w.drawn + 1 } := hg
  refine wp_region_E (fun w' : World => Blk w' g 119 m.cells) [] (by kernel_rfl) ?_
  refine wpAnyE_take 0 (v := (.pointer (some ⟨g, 0, none⟩))) rfl (by kernel_rfl) (fun _ _ _ h => h) hI (fun w' hw' => Or.inl ⟨by kernel_rfl, Or.inl (by go_simp)⟩) ?_
  refine wpAnyE_take 1 (v := (.pointer (some ⟨g, 0, none⟩))) rfl (by kernel_rfl) (fun _ _ _ h => h) hI (fun w' hw' => Or.inl ⟨by kernel_rfl, Or.inl (by go_simp)⟩) ?_
  refine wpAnyE_take 2 (v := (.pointer (some ⟨g, 0, none⟩))) rfl (by kernel_rfl) (fun _ _ _ h => h) hI (fun w' hw' => Or.inl ⟨by kernel_rfl, Or.inl (by go_simp)⟩) ?_
  refine wpAnyE_take 3 (v := (.pointer (some ⟨g, 4, none⟩))) rfl (by kernel_rfl) (fun _ _ _ h => h) hI (fun w' hw' => Or.inl ⟨by kernel_rfl, Or.inl (by go_simp)⟩) ?_
  refine wpAnyE_take 4 (v := (.pointer (some ⟨g, 4, none⟩))) rfl (by kernel_rfl) (fun _ _ _ h => h) hI (fun w' hw' => Or.inl ⟨by kernel_rfl, Or.inl (by go_simp)⟩) ?_
  refine wpAnyE_take 5 (v := (.int .u32 m.cols)) rfl (by kernel_rfl) (fun _ _ _ h => h) hI (fun w' hw' => Or.inl ⟨by kernel_rfl, Or.inl (by have y0 : w'.cell? ⟨g, 4, none⟩ = some (.int .u32 m.cols) := hw'.cell 4; go_simp)⟩) ?_
  refine wpAnyE_take 6 (v := (.agg #[.int .i64 0, .int .u32 m.cols, .slice none 0 0, .slice none 0 0])) rfl (by kernel_rfl) (fun _ _ _ h => h) hI (fun w' hw' => Or.inl ⟨by kernel_rfl, Or.inl (by go_simp)⟩) ?_
  refine wpAnyE_take 7 (v := (.pointer (some ⟨g, 0, none⟩))) rfl (by kernel_rfl) (fun _ _ _ h => h) hI (fun w' hw' => Or.inl ⟨by kernel_rfl, Or.inl (by go_simp)⟩) ?_
  refine wpAnyE_take 8 (v := (.pointer (some ⟨g, 0, none⟩))) rfl (by kernel_rfl) (fun _ _ _ h => h) hI (fun w' hw' => Or.inl ⟨by kernel_rfl, Or.inl (by go_simp)⟩) ?_
  refine wpAnyE_take 9 (v := (.pointer (some ⟨g, 0, none⟩))) rfl (by kernel_rfl) (fun _ _ _ h => h) hI (fun w' hw' => Or.inl ⟨by kernel_rfl, Or.inl (by go_simp)⟩) ?_
  refine wpAnyE_take 10 (v := (.pointer (some ⟨g, 4, none⟩))) rfl (by kernel_rfl) (fun _ _ _ h => h) hI (fun w' hw' => Or.inl ⟨by kernel_rfl, Or.inl (by go_simp)⟩) ?_
  refine wpAnyE_take 11 (v := (.pointer (some ⟨g, 5, none⟩))) rfl (by kernel_rfl) (fun _ _ _ h => h) hI (fun w' hw' => Or.inl ⟨by kernel_rfl, Or.inl (by go_simp)⟩) ?_
  refine wpAnyE_take 12 (v := (.int .u32 m.rows)) rfl (by kernel_rfl) (fun _ _ _ h => h) hI (fun w' hw' => Or.inl ⟨by kernel_rfl, Or.inl (by have y0 : w'.cell? ⟨g, 5, none⟩ = some (.int .u32 m.rows) := hw'.cell 5; go_simp)⟩) ?_
  refine wpAnyE_take 13 (v := (.agg #[.int .i64 0, .int .u32 m.rows, .slice none 0 0, .slice none 0 0])) rfl (by kernel_rfl) (fun _ _ _ h => h) hI (fun w' hw' => Or.inl ⟨by kernel_rfl, Or.inl (by go_simp)⟩) ?_
  refine wpAnyE_take 14 (v := (.pointer (some ⟨g, 0, none⟩))) rfl (by kernel_rfl) (fun _ _ _ h => h) hI (fun w' hw' => Or.inl ⟨by kernel_rfl, Or.inl (by go_simp)⟩) ?_
  refine wpAnyE_take 15 (v := (.pointer (some ⟨g, 0, none⟩))) rfl (by kernel_rfl) (fun _ _ _ h => h) hI (fun w' hw' => Or.inl ⟨by kernel_rfl, Or.inl (by go_simp)⟩) ?_
  refine wpAnyE_take 16 (v := (.pointer (some ⟨g, 0, none⟩))) rfl (by kernel_rfl) (fun _ _ _ h => h) hI (fun w' hw' => Or.inl ⟨by kernel_rfl, Or.inl (by go_simp)⟩) ?_
  refine wpAnyE_take 17 (v := (.pointer (some ⟨g, 4, none⟩))) rfl (by kernel_rfl) (fun _ _ _ h => h) hI (fun w' hw' => Or.inl ⟨by kernel_rfl, Or.inl (by go_simp)⟩) ?_
  refine wpAnyE_take 18 (v := (.pointer (some ⟨g, 6, none⟩))) rfl (by kernel_rfl) (fun _ _ _ h => h) hI (fun w' hw' => Or.inl ⟨by kernel_rfl, Or.inl (by go_simp)⟩) ?_
  refine wpAnyE_take 19 (v := (.int .u32 m.width)) rfl (by kernel_rfl) (fun _ _ _ h => h) hI (fun w' hw' => Or.inl ⟨by kernel_rfl, Or.inl (by have y0 : w'.cell? ⟨g, 6, none⟩ = some (.int .u32 m.width) := hw'.cell 6; go_simp)⟩) ?_
  refine wpAnyE_take 20 (v := (.agg #[.int .i64 0, .int .u32 m.width, .slice none 0 0, .slice none 0 0])) rfl (by kernel_rfl) (fun _ _ _ h => h) hI (fun w' hw' => Or.inl ⟨by kernel_rfl, Or.inl (by go_simp)⟩) ?_
  refine wpAnyE_take 21 (v := (.pointer (some ⟨g, 0, none⟩))) rfl (by kernel_rfl) (fun _ _ _ h => h) hI (fun w' hw' => Or.inl ⟨by kernel_rfl, Or.inl (by go_simp)⟩) ?_
  refine wpAnyE_take 22 (v := (.pointer (some ⟨g, 0, none⟩))) rfl (by kernel_rfl) (fun _ _ _ h => h) hI (fun w' hw' => Or.inl ⟨by kernel_rfl, Or.inl (by go_simp)⟩) ?_
  refine wpAnyE_take 23 (v := (.pointer (some ⟨g, 0, none⟩))) rfl (by kernel_rfl) (fun _ _ _ h => h) hI (fun w' hw' => Or.inl ⟨by kernel_rfl, Or.inl (by go_simp)⟩) ?_
  refine wpAnyE_take 24 (v := (.pointer (some ⟨g, 4, none⟩))) rfl (by kernel_rfl) (fun _ _ _ h => h) hI (fun w' hw' => Or.inl ⟨by kernel_rfl, Or.inl (by go_simp)⟩) ?_
  refine wpAnyE_take 25 (v := (.pointer (some ⟨g, 7, none⟩))) rfl (by kernel_rfl) (fun _ _ _ h => h) hI (fun w' hw' => Or.inl ⟨by kernel_rfl, Or.inl (by go_simp)⟩) ?_
  refine wpAnyE_take 26 (v := (.int .u32 m.height)) rfl (by kernel_rfl) (fun _ _ _ h => h) hI (fun w' hw' => Or.inl ⟨by kernel_rfl, Or.inl (by have y0 : w'.cell? ⟨g, 7, none⟩ = some (.int .u32 m.height) := hw'.cell 7; go_simp)⟩) ?_
  refine wpAnyE_take 27 (v := (.agg #[.int .i64 0, .int .u32 m.height, .slice none 0 0, .slice none 0 0])) rfl (by kernel_rfl) (fun _ _ _ h => h) hI (fun w' hw' => Or.inl ⟨by kernel_rfl, Or.inl (by go_simp)⟩) ?_
  refine wpAnyE_one 28 rfl (by kernel_rfl) hI (fun K hK => ?_)
  rw [if_pos (by kernel_rfl)]
  go_simp
  refine hK _ _ ?_
  clear hK K
  have hI2 : (fun w' : World => Blk w' g 119 m.cells) (w.drew.alloc (.cells #[.int .i64 0, .int .u32 m.cols, .slice none 0 0, .slice none 0 0, .int .i64 0, .int .u32 m.rows, .slice none 0 0, .slice none 0 0, .int .i64 0, .int .u32 m.width, .slice none 0 0, .slice none 0 0, .int .i64 0, .int .u32 m.height, .slice none 0 0, .slice none 0 0] 123)) := hg.alloc _
  refine wpAnyE_take 29 (v := (.slice (some ⟨w.heap.size, 0, none⟩) 4 4)) rfl (by kernel_rfl) (fun _ _ _ h => h) hI2 (fun w' hw' => Or.inl ⟨by kernel_rfl, Or.inl (by go_simp)⟩) ?_
  refine wpAnyE_end (by kernel_rfl) hI2 ?_
  clear hI hI2
  simp only [Exit.then]
  go_wp2_with fail
  go_ret
  refine ⟨((Only.refl _ _).drew).alloc _, _, _, rfl, V, rfl, fun x hx => ?_, fun x hx => ?_⟩
  · simp only [List.mem_cons, List.not_mem_nil, or_false] at hx
    rcases hx with rfl | rfl | rfl | rfl <;> exact ⟨FD.ok.plain _ _ _, plain_off _ _ _⟩
  · obtain ⟨n1, n2, n3, n4, _⟩ := hn
    simp only [List.mem_cons, List.not_mem_nil, or_false] at hx
    rcases hx with rfl | rfl | rfl | rfl
    · exact n1
    · exact n2
    · exact n3
    · exact n4
set_option maxRecDepth 100000 in
set_option maxHeartbeats 1600000 in
theorem getEnvR_any (hg : Blk w g 119 m.cells) (hs : m.text.size ≤ 140737488355328) (hv : m.value.size ≤ 140737488355328) : Calls Tryz.prog 74 #[.pointer (some ⟨g, 0, none⟩)] w (GetsPost w (partsR m 2)) := by
  have hlt := hg.lt
  go_enter Tryz.func74, Tryz.ntmps74
  go_wp2_with fail
  have hI : (fun w' : World => Blk w' g 119 m.cells) { w with drawn := w.drawn + 1 } := hg
  refine wp_region_E (fun w' : World => Blk w' g 119 m.cells) [] (by kernel_rfl) ?_
  refine wpAnyE_take 0 (v := (.pointer (some ⟨g, 0, none⟩))) rfl (by kernel_rfl) (fun _ _ _ h => h) hI (fun w' hw' => Or.inl ⟨by kernel_rfl, Or.inl (by go_simp)⟩) ?_
  refine wpAnyE_take 1 (v := (.pointer (some ⟨g, 0, none⟩))) rfl (by kernel_rfl) (fun _ _ _ h => h) hI (fun w' hw' => Or.inl ⟨by kernel_rfl, Or.inl (by go_simp)⟩) ?_
  refine wpAnyE_take 2 (v := (.pointer (some ⟨g, 0, none⟩))) rfl (by kernel_rfl) (fun _ _ _ h => h) hI (fun w' hw' => Or.inl ⟨by kernel_rfl, Or.inl (by go_simp)⟩) ?_
  refine wpAnyE_take 3 (v := (.pointer (some ⟨g, 1, none⟩))) rfl (by kernel_rfl) (fun _ _ _ h => h) hI (fun w' hw' => Or.inl ⟨by kernel_rfl, Or.inl (by go_simp)⟩) ?_
  refine wpAnyE_take 4 (v := (.string m.text)) rfl (by kernel_rfl) (fun _ _ _ h => h) hI (fun w' hw' => Or.inl ⟨by kernel_rfl, Or.inl (by have y0 : w'.cell? ⟨g, 1, none⟩ = some (.string m.text) := hw'.cell 1; go_simp)⟩) ?_
  refine wpAnyE_take 6 (v := (.pointer (some ⟨g, 0, none⟩))) rfl (by kernel_rfl) (fun _ _ _ h => h) hI (fun w' hw' => Or.inl ⟨by kernel_rfl, Or.inl (by go_simp)⟩) ?_
  refine wpAnyE_take 7 (v := (.pointer (some ⟨g, 0, none⟩))) rfl (by kernel_rfl) (fun _ _ _ h => h) hI (fun w' hw' => Or.inl ⟨by kernel_rfl, Or.inl (by go_simp)⟩) ?_
  refine wpAnyE_take 8 (v := (.pointer (some ⟨g, 0, none⟩))) rfl (by kernel_rfl) (fun _ _ _ h => h) hI (fun w' hw' => Or.inl ⟨by kernel_rfl, Or.inl (by go_simp)⟩) ?_
  refine wpAnyE_take 9 (v := (.pointer (some ⟨g, 2, none⟩))) rfl (by kernel_rfl) (fun _ _ _ h => h) hI (fun w' hw' => Or.inl ⟨by kernel_rfl, Or.inl (by go_simp)⟩) ?_
  refine wpAnyE_take 10 (v := (.string m.value)) rfl (by kernel_rfl) (fun _ _ _ h => h) hI (fun w' hw' => Or.inl ⟨by kernel_rfl, Or.inl (by have y0 : w'.cell? ⟨g, 2, none⟩ = some (.string m.value) := hw'.cell 2; go_simp)⟩) ?_
  have P0 : Only [] w w.drew := (Only.refl _ _).drew
  have T0 := rtext_any m.text w.drew hs
  refine wpAnyE_one 5 rfl (by kernel_rfl) hI (fun K hK => ?_)
  rw [if_pos (by kernel_rfl)]
  go_simp
  go_call T0 as e w1 ⟨Q1, f1, rfl, hp1, hnew1, ok1, hn1⟩
  clear T0
  have P1 : Only [] w w1 := P0.trans Q1 (by simp)
  have hI1 : (fun w' : World => Blk w' g 119 m.cells) w1 := hg.only P1 (by simp)
  refine hK _ _ ?_
  clear hK K
  unfold FD.val
  have T1 := rtext_any m.value w1 hv
  refine wpAnyE_one 11 rfl (by kernel_rfl) hI1 (fun K hK => ?_)
  rw [if_pos (by kernel_rfl)]
  go_simp
  go_call T1 as e w2 ⟨Q2, f2, rfl, hp2, hnew2, ok2, hn2⟩
  clear T1
  have P2 : Only [] w w2 := P1.trans Q2 (by simp)
  have hI2 : (fun w' : World => Blk w' g 119 m.cells) w2 := hg.only P2 (by simp)
  have ok1 := ok1.only Q2
  refine hK _ _ ?_
  clear hK K
  unfold FD.val
  have V := ownF_lit w2 [f1, f2] 2 rfl (by decide) #[.int .i64 f1.kind, .int .u32 f1.n, .slice f1.tA f1.text.length f1.tc, .slice f1.lA f1.list.length f1.lc, .int .i64 f2.kind, .int .u32 f2.n, .slice f2.tA f2.text.length f2.tc, .slice f2.lA f2.list.length f2.lc] (by simp [fcells, FD.cells])
  refine wpAnyE_one 12 rfl (by kernel_rfl) hI2 (fun K hK => ?_)
  rw [if_pos (by kernel_rfl)]
  go_simp
  refine hK _ _ ?_
  clear hK K
  have PL : Only [] w2 (w2.alloc (.cells #[.int .i64 f1.kind, .int .u32 f1.n, .slice f1.tA f1.text.length f1.tc, .slice f1.lA f1.list.length f1.lc, .int .i64 f2.kind, .int .u32 f2.n, .slice f2.tA f2.text.length f2.tc, .slice f2.lA f2.list.length f2.lc] 123)) := (Only.refl _ _).alloc _
  have hIL : (fun w' : World => Blk w' g 119 m.cells) (w2.alloc (.cells #[.int .i64 f1.kind, .int .u32 f1.n, .slice f1.tA f1.text.length f1.tc, .slice f1.lA f1.list.length f1.lc, .int .i64 f2.kind, .int .u32 f2.n, .slice f2.tA f2.text.length f2.tc, .slice f2.lA f2.list.length f2.lc] 123)) := hI2.alloc _
  refine wpAnyE_take 13 (v := (.slice (some ⟨w2.heap.size, 0, none⟩) 2 2)) rfl (by kernel_rfl) (fun _ _ _ h => h) hIL (fun w' hw' => Or.inl ⟨by kernel_rfl, Or.inl (by go_simp)⟩) ?_
  refine wpAnyE_end (by kernel_rfl) hIL ?_
  simp only [Exit.then]
  go_wp2_with fail
  go_ret
  refine ⟨P2.trans PL (by simp), _, _, rfl, V.mono P2.size, ?_, fun x hx => ?_, fun x hx => ?_⟩
  · simp only [List.map_cons, List.map_nil, hp1, hp2]; rfl
  · simp only [List.mem_cons, List.not_mem_nil, or_false] at hx
    rcases hx with rfl | rfl
    · exact ⟨ok1.only PL, off_new ok1 _ _⟩
    · exact ⟨ok2.only PL, off_new ok2 _ _⟩
  · simp only [List.mem_cons, List.not_mem_nil, or_false] at hx
    rcases hx with rfl | rfl
    · exact hn1
    · exact hn2
set_option maxRecDepth 100000 in
set_option maxHeartbeats 1600000 in
theorem getDeathR_any (hg : Blk w g 119 m.cells) (hs : m.text.size ≤ 140737488355328) (hv : m.value.size ≤ 140737488355328) (hl : m.lang.size ≤ 140737488355328) : Calls Tryz.prog 90 #[.pointer (some ⟨g, 0, none⟩)] w (GetsPost w (partsR m 10)) := by
  have hlt := hg.lt
  go_enter Tryz.func90, Tryz.ntmps90
  go_wp2_with fail
  have hI : (fun w' : World => Blk w' g 119 m.cells) { w with drawn := w.drawn + 1 } := hg
  refine wp_region_E (fun w' : World => Blk w' g 119 m.cells) [] (by kernel_rfl) ?_
  refine wpAnyE_take 0 (v := (.pointer (some ⟨g, 0, none⟩))) rfl (by kernel_rfl) (fun _ _ _ h => h) hI (fun w' hw' => Or.inl ⟨by kernel_rfl, Or.inl (by go_simp)⟩) ?_
  refine wpAnyE_take 1 (v := (.pointer (some ⟨g, 0, none⟩))) rfl (by kernel_rfl) (fun _ _ _ h => h) hI (fun w' hw' => Or.inl ⟨by kernel_rfl, Or.inl (by go_simp)⟩) ?_
  refine wpAnyE_take 2 (v := (.pointer (some ⟨g, 0, none⟩))) rfl (by kernel_rfl) (fun _ _ _ h => h) hI (fun w' hw' => Or.inl ⟨by kernel_rfl, Or.inl (by go_simp)⟩) ?_
  refine wpAnyE_take 3 (v := (.pointer (some ⟨g, 1, none⟩))) rfl (by kernel_rfl) (fun _ _ _ h => h) hI (fun w' hw' => Or.inl ⟨by kernel_rfl, Or.inl (by go_simp)⟩) ?_
  refine wpAnyE_take 4 (v := (.string m.text)) rfl (by kernel_rfl) (fun _ _ _ h => h) hI (fun w' hw' => Or.inl ⟨by kernel_rfl, Or.inl (by have y0 : w'.cell? ⟨g, 1, none⟩ = some (.string m.text) := hw'.cell 1; go_simp)⟩) ?_
  refine wpAnyE_take 6 (v := (.pointer (some ⟨g, 0, none⟩))) rfl (by kernel_rfl) (fun _ _ _ h => h) hI (fun w' hw' => Or.inl ⟨by kernel_rfl, Or.inl (by go_simp)⟩) ?_
  refine wpAnyE_take 7 (v := (.pointer (some ⟨g, 0, none⟩))) rfl (by kernel_rfl) (fun _ _ _ h => h) hI (fun w' hw' => Or.inl ⟨by kernel_rfl, Or.inl (by go_simp)⟩) ?_
  refine wpAnyE_take 8 (v := (.pointer (some ⟨g, 0, none⟩))) rfl (by kernel_rfl) (fun _ _ _ h => h) hI (fun w' hw' => Or.inl ⟨by kernel_rfl, Or.inl (by go_simp)⟩) ?_
  refine wpAnyE_take 9 (v := (.pointer (some ⟨g, 9, none⟩))) rfl (by kernel_rfl) (fun _ _ _ h => h) hI (fun w' hw' => Or.inl ⟨by kernel_rfl, Or.inl (by go_simp)⟩) ?_
  refine wpAnyE_take 10 (v := (.bool m.on)) rfl (by kernel_rfl) (fun _ _ _ h => h) hI (fun w' hw' => Or.inl ⟨by kernel_rfl, Or.inl (by have y0 : w'.cell? ⟨g, 9, none⟩ = some (.bool m.on) := hw'.cell 9; go_simp)⟩) ?_
  refine wpAnyE_take 12 (v := (.pointer (some ⟨g, 0, none⟩))) rfl (by kernel_rfl) (fun _ _ _ h => h) hI (fun w' hw' => Or.inl ⟨by kernel_rfl, Or.inl (by go_simp)⟩) ?_
  refine wpAnyE_take 13 (v := (.pointer (some ⟨g, 0, none⟩))) rfl (by kernel_rfl) (fun _ _ _ h => h) hI (fun w' hw' => Or.inl ⟨by kernel_rfl, Or.inl (by go_simp)⟩) ?_
  refine wpAnyE_take 14 (v := (.pointer (some ⟨g, 0, none⟩))) rfl (by kernel_rfl) (fun _ _ _ h => h) hI (fun w' hw' => Or.inl ⟨by kernel_rfl, Or.inl (by go_simp)⟩) ?_
  refine wpAnyE_take 15 (v := (.pointer (some ⟨g, 2, none⟩))) rfl (by kernel_rfl) (fun _ _ _ h => h) hI (fun w' hw' => Or.inl ⟨by kernel_rfl, Or.inl (by go_simp)⟩) ?_
  refine wpAnyE_take 16 (v := (.string m.value)) rfl (by kernel_rfl) (fun _ _ _ h => h) hI (fun w' hw' => Or.inl ⟨by kernel_rfl, Or.inl (by have y0 : w'.cell? ⟨g, 2, none⟩ = some (.string m.value) := hw'.cell 2; go_simp)⟩) ?_
  refine wpAnyE_take 18 (v := (.pointer (some ⟨g, 0, none⟩))) rfl (by kernel_rfl) (fun _ _ _ h => h) hI (fun w' hw' => Or.inl ⟨by kernel_rfl, Or.inl (by go_simp)⟩) ?_
  refine wpAnyE_take 19 (v := (.pointer (some ⟨g, 0, none⟩))) rfl (by kernel_rfl) (fun _ _ _ h => h) hI (fun w' hw' => Or.inl ⟨by kernel_rfl, Or.inl (by go_simp)⟩) ?_
  refine wpAnyE_take 20 (v := (.pointer (some ⟨g, 0, none⟩))) rfl (by kernel_rfl) (fun _ _ _ h => h) hI (fun w' hw' => Or.inl ⟨by kernel_rfl, Or.inl (by go_simp)⟩) ?_
  refine wpAnyE_take 21 (v := (.pointer (some ⟨g, 3, none⟩))) rfl (by kernel_rfl) (fun _ _ _ h => h) hI (fun w' hw' => Or.inl ⟨by kernel_rfl, Or.inl (by go_simp)⟩) ?_
  refine wpAnyE_take 22 (v := (.string m.lang)) rfl (by kernel_rfl) (fun _ _ _ h => h) hI (fun w' hw' => Or.inl ⟨by kernel_rfl, Or.inl (by have y0 : w'.cell? ⟨g, 3, none⟩ = some (.string m.lang) := hw'.cell 3; go_simp)⟩) ?_
  have P0 : Only [] w w.drew := (Only.refl _ _).drew
  have T0 := rtext_any m.text w.drew hs
  refine wpAnyE_one 5 rfl (by kernel_rfl) hI (fun K hK => ?_)
  rw [if_pos (by kernel_rfl)]
  go_simp
  go_call T0 as e w1 ⟨Q1, f1, rfl, hp1, hnew1, ok1, hn1⟩
  clear T0
  have P1 : Only [] w w1 := P0.trans Q1 (by simp)
  have hI1 : (fun w' : World => Blk w' g 119 m.cells) w1 := hg.only P1 (by simp)
  refine hK _ _ ?_
  clear hK K
  unfold FD.val
  have T1 := rflag_any m.on w1
  refine wpAnyE_one 11 rfl (by kernel_rfl) hI1 (fun K hK => ?_)
  rw [if_pos (by kernel_rfl)]
  go_simp
  go_call T1 as e w2 ⟨Q2, f2, rfl, hp2, hnew2, ok2, hn2⟩
  clear T1
  have P2 : Only [] w w2 := P1.trans Q2 (by simp)
  have hI2 : (fun w' : World => Blk w' g 119 m.cells) w2 := hg.only P2 (by simp)
  have ok1 := ok1.only Q2
  refine hK _ _ ?_
  clear hK K
  unfold FD.val
  have T2 := rtext_any m.value w2 hv
  refine wpAnyE_one 17 rfl (by kernel_rfl) hI2 (fun K hK => ?_)
  rw [if_pos (by kernel_rfl)]
  go_simp
  go_call T2 as e w3 ⟨Q3, f3, rfl, hp3, hnew3, ok3, hn3⟩
  clear T2
  have P3 : Only [] w w3 := P2.trans Q3 (by simp)
  have hI3 : (fun w' : World => Blk w' g 119 m.cells) w3 := hg.only P3 (by simp)
  have ok1 := ok1.only Q3
  have ok2 := ok2.only Q3
  refine hK _ _ ?_
  clear hK K
  unfold FD.val
  have T3 := rtext_any m.lang w3 hl
  refine wpAnyE_one 23 rfl (by kernel_rfl) hI3 (fun K hK => ?_)
  rw [if_pos (by kernel_rfl)]
  go_simp
  go_call T3 as e w4 ⟨Q4, f4, rfl, hp4, hnew4, ok4, hn4⟩
  clear T3
  have P4 : Only [] w w4 := P3.trans Q4 (by simp)
  have hI4 : (fun w' : World => Blk w' g 119 m.cells) w4 := hg.only P4 (by simp)
  have ok1 := ok1.only Q4
  have ok2 := ok2.only Q4
  have ok3 := ok3.only Q4
  refine hK _ _ ?_
  clear hK K
  unfold FD.val
  have V := ownF_lit w4 [f1, f2, f3, f4] 4 rfl (by decide) #[.int .i64 f1.kind, .int .u32 f1.n, .slice f1.tA f1.text.length f1.tc, .slice f1.lA f1.list.length f1.lc, .int .i64 f2.kind, .int .u32 f2.n, .slice f2.tA f2.text.length f2.tc, .slice f2.lA f2.list.length f2.lc, .int .i64 f3.kind, .int .u32 f3.n, .slice f3.tA f3.text.length f3.tc, .slice f3.lA f3.list.length f3.lc, .int .i64 f4.kind, .int .u32 f4.n, .slice f4.tA f4.text.length f4.tc, .slice f4.lA f4.list.length f4.lc] (by simp [fcells, FD.cells])
  refine wpAnyE_one 24 rfl (by kernel_rfl) hI4 (fun K hK => ?_)
  rw [if_pos (by kernel_rfl)]
  go_simp
  refine hK _ _ ?_
  clear hK K
  have PL : Only [] w4 (w4.alloc (.cells #[.int .i64 f1.kind, .int .u32 f1.n, .slice f1.tA f1.text.length f1.tc, .slice f1.lA f1.list.length f1.lc, .int .i64 f2.kind, .int .u32 f2.n, .slice f2.tA f2.text.length f2.tc, .slice f2.lA f2.list.length f2.lc, .int .i64 f3.kind, .int .u32 f3.n, .slice f3.tA f3.text.length f3.tc, .slice f3.lA f3.list.length f3.lc, .int .i64 f4.kind, .int .u32 f4.n, .slice f4.tA f4.text.length f4.tc, .slice f4.lA f4.list.length f4.lc] 123)) := (Only.refl _ _).alloc _
  have hIL : (fun w' : World => Blk w' g 119 m.cells) (w4.alloc (.cells #[.int .i64 f1.kind, .int .u32 f1.n, .slice f1.tA f1.text.length f1.tc, .slice f1.lA f1.list.length f1.lc, .int .i64 f2.kind, .int .u32 f2.n, .slice f2.tA f2.text.length f2.tc, .slice f2.lA f2.list.length f2.lc, .int .i64 f3.kind, .int .u32 f3.n, .slice f3.tA f3.text.length f3.tc, .slice f3.lA f3.list.length f3.lc, .int .i64 f4.kind, .int .u32 f4.n, .slice f4.tA f4.text.length f4.tc, .slice f4.lA f4.list.length f4.lc] 123)) := hI4.alloc _
  refine wpAnyE_take 25 (v := (.slice (some ⟨w4.heap.size, 0, none⟩) 4 4)) rfl (by kernel_rfl) (fun _ _ _ h => h) hIL (fun w' hw' => Or.inl ⟨by kernel_rfl, Or.inl (by go_simp)⟩) ?_
  refine wpAnyE_end (by kernel_rfl) hIL ?_
  simp only [Exit.then]
  go_wp2_with fail
  go_ret
  refine ⟨P4.trans PL (by simp), _, _, rfl, V.mono P4.size, ?_, fun x hx => ?_, fun x hx => ?_⟩
  · simp only [List.map_cons, List.map_nil, hp1, hp2, hp3, hp4]; rfl
  · simp only [List.mem_cons, List.not_mem_nil, or_false] at hx
    rcases hx with rfl | rfl | rfl | rfl
    · exact ⟨ok1.only PL, off_new ok1 _ _⟩
    · exact ⟨ok2.only PL, off_new ok2 _ _⟩
    · exact ⟨ok3.only PL, off_new ok3 _ _⟩
    · exact ⟨ok4.only PL, off_new ok4 _ _⟩
  · simp only [List.mem_cons, List.not_mem_nil, or_false] at hx
    rcases hx with rfl | rfl | rfl | rfl
    · exact hn1
    · exact hn2
    · exact hn3
    · exact hn4
end
end Go.Proofs.YtdplnedpbkpgpaaGreatDoor

namespace Go.Proofs.YtdplnedpbkpgpaaGreatDoor
set_option linter.all false
open Go.RowKit

theorem elemF : ElemT Tryz.prog 120 123 4 64 := elemT_of Tryz.underlying120 fieldInfos rfl (by decide)
theorem oneF : ∀ f : FD, ∀ u ∈ f.cells, u.oneCell' = true := by intro f u hu; simp [FD.cells] at hu; rcases hu with rfl | rfl | rfl | rfl <;> rfl
theorem lenF : ∀ f : FD, f.cells.length = 4 := fun _ => rfl
theorem okOff_app {w w' : World} {v v' : Value} {fs : List FD} (P : Only v.ownBlock.toList w w') (G : Where2 v v' w.heap.size) (h : ∀ f ∈ fs, FD.ok w f ∧ f.off v) : ∀ f ∈ fs, FD.ok w' f ∧ f.off v' := by
  intro f hf
  obtain ⟨ok, off⟩ := h f hf
  have t1 := ok.tlt
  have t2 := ok.llt
  refine ⟨{ ok with text := ok.text.onlyL P (fun a ha h0 hx => off.1 a ha h0 (by simpa using hx)), list := ok.list.onlyL P (fun a ha h0 hx => off.2 a ha h0 (by simpa using hx)) }, fun a ha h0 hx => ?_, fun a ha h0 hx => ?_⟩
  · rcases G with e | e
    · rw [e] at hx; exact off.1 a ha h0 hx
    · rw [e] at hx; injection hx with hx; have := t1 a ha h0; omega
  · rcases G with e | e
    · rw [e] at hx; exact off.2 a ha h0 hx
    · rw [e] at hx; injection hx with hx; have := t2 a ha h0; omega
theorem off_plain {f : FD} {v : Value} (h1 : f.text = []) (h2 : f.list = []) : f.off v := ⟨fun a ha h0 => by rw [h1] at h0; simp at h0, fun a ha h0 => by rw [h2] at h0; simp at h0⟩
theorem sizes_plain {m : RQ} {fs : List FD} (h : fs.map FD.pf = (partsR m 6).map (fun p => { p with kind := 0 })) : ∀ f ∈ fs, f.text = [] ∧ f.list = [] := by
  intro f hf
  have : f.pf ∈ fs.map FD.pf := List.mem_map_of_mem hf
  rw [h] at this
  simp only [partsR, List.map_cons, List.map_nil, List.mem_cons, List.not_mem_nil, or_false] at this
  have e1 : f.text = f.pf.text := rfl
  have e2 : f.list = f.pf.list := rfl
  rw [e1, e2]
  rcases this with e | e | e | e <;> rw [e] <;> exact ⟨rfl, rfl⟩
theorem rdX_one {w : World} {q : Nat} {f : FD} (h : Blk w q 123 f.cells) : RdX FD.cells w (some ⟨q, 0, none⟩) [f] := fun _ => ⟨q, 0, rfl, h.lt, fun j u hj => by
  rw [Nat.zero_add, h.cell]
  simpa using hj⟩
section
variable (m : RQ) (g : Nat) (w : World)
theorem pty_end {m : RQ} {w x : World} {v : Value} {fs1 fs2 : List FD} (hm : m.ok w) (PE : Only [] w x) (V : OwnX FD.cells 123 4 x w.heap.size v ((fs1 ++ fs2) ++ [⟨0, 0, m.mA, m.mc, m.modes, none, 0, []⟩])) (M : ∀ f ∈ fs1 ++ fs2, FD.ok x f ∧ f.off v)
    (hp1 : fs1.map FD.pf = (partsR m 4).map (fun p => { p with kind := 0 })) (hp2 : fs2.map FD.pf = (partsR m 6).map (fun p => { p with kind := 0 })) (hn1 : ∀ f ∈ fs1, U32 f.n) (hn2 : ∀ f ∈ fs2, U32 f.n) : GetsPost w (partsR m 1) (.returned v) x := by
  refine ⟨PE, v, _, rfl, V, ?_, fun f hf => ?_, fun f hf => ?_⟩
  · rw [List.map_append, List.map_append, hp1, hp2]; rfl
  · rcases List.mem_append.1 hf with hf | hf
    · exact M f hf
    · rw [List.mem_singleton] at hf
      subst hf
      refine ⟨⟨hm.modes.only PE, RdG.nil, hm.mle, hm.mmax, by simp, by simp, by simp⟩, fun a ha h0 hx => ?_, fun a ha => by simp at ha⟩
      have h1 := (V.block _ hx).1
      have h2 := RdG.lt (mk := .int .u8) hm.modes h0 a ha
      omega
  · rcases List.mem_append.1 hf with hf | hf
    · rcases List.mem_append.1 hf with hf | hf
      · exact hn1 f hf
      · exact hn2 f hf
    · rw [List.mem_singleton] at hf
      subst hf
      exact ⟨Int.le_refl 0, show (0 : Int) ≤ 4294967295 by decide⟩
set_option maxRecDepth 100000 in
set_option maxHeartbeats 1600000 in
theorem getPtyR_any (hg : Blk w g 119 m.cells) (hm : m.ok w) (hs : m.text.size ≤ 140737488355328) : Calls Tryz.prog 71 #[.pointer (some ⟨g, 0, none⟩)] w (GetsPost w (partsR m 1)) := by
  have hlt := hg.lt
  go_enter Tryz.func71, Tryz.ntmps71
  go_wp2_with fail
  have hI : (fun w' : World => Blk w' g 119 m.cells) { w with drawn := w.drawn + 1 } := hg
  refine wp_region_E (fun w' : World => Blk w' g 119 m.cells) [] (by kernel_rfl) ?_
  refine wpAnyE_take 0 (v := (.pointer (some ⟨g, 0, none⟩))) rfl (by kernel_rfl) (fun _ _ _ h => h) hI (fun w' hw' => Or.inl ⟨by kernel_rfl, Or.inl (by go_simp)⟩) ?_
  refine wpAnyE_take 2 (v := (.pointer (some ⟨g, 0, none⟩))) rfl (by kernel_rfl) (fun _ _ _ h => h) hI (fun w' hw' => Or.inl ⟨by kernel_rfl, Or.inl (by go_simp)⟩) ?_
  refine wpAnyE_take 5 (v := (.pointer (some ⟨g, 0, none⟩))) rfl (by kernel_rfl) (fun _ _ _ h => h) hI (fun w' hw' => Or.inl ⟨by kernel_rfl, Or.inl (by go_simp)⟩) ?_
  refine wpAnyE_take 6 (v := (.pointer (some ⟨g, 0, none⟩))) rfl (by kernel_rfl) (fun _ _ _ h => h) hI (fun w' hw' => Or.inl ⟨by kernel_rfl, Or.inl (by go_simp)⟩) ?_
  refine wpAnyE_take 7 (v := (.pointer (some ⟨g, 0, none⟩))) rfl (by kernel_rfl) (fun _ _ _ h => h) hI (fun w' hw' => Or.inl ⟨by kernel_rfl, Or.inl (by go_simp)⟩) ?_
  refine wpAnyE_take 8 (v := (.pointer (some ⟨g, 8, none⟩))) rfl (by kernel_rfl) (fun _ _ _ h => h) hI (fun w' hw' => Or.inl ⟨by kernel_rfl, Or.inl (by go_simp)⟩) ?_
  refine wpAnyE_take 9 (v := (.slice m.mA m.modes.length m.mc)) rfl (by kernel_rfl) (fun _ _ _ h => h) hI (fun w' hw' => Or.inl ⟨by kernel_rfl, Or.inl (by have y0 : w'.cell? ⟨g, 8, none⟩ = some (.slice m.mA m.modes.length m.mc) := hw'.cell 8; go_simp)⟩) ?_
  refine wpAnyE_take 10 (v := (.agg #[.int .i64 0, .int .u32 0, .slice m.mA m.modes.length m.mc, .slice none 0 0])) rfl (by kernel_rfl) (fun _ _ _ h => h) hI (fun w' hw' => Or.inl ⟨by kernel_rfl, Or.inl (by go_simp)⟩) ?_
  have P0 : Only [] w w.drew := (Only.refl _ _).drew
  refine wpAnyE_two 1 11 rfl rfl (by kernel_rfl) hI (fun K hK => ?_) (fun K hK => ?_)
  · rw [if_pos (by kernel_rfl)]
    have T := getTextR_any m g w.drew hI hs
    go_simp
    go_call T as e x1 ⟨Q1, v1, fs1, rfl, V1, hp1, M1, hn1⟩
    clear T
    have o1 := OwnF.block V1
    replace V1 : OwnX FD.cells 123 4 x1 w.heap.size v1 fs1 := OwnX.mono (cf := FD.cells) V1 P0.size
    have P1 : Only [] w x1 := P0.trans Q1 (by simp)
    have hI1 : (fun w' : World => Blk w' g 119 m.cells) x1 := hg.only P1 (by simp)
    have z1 := Q1.size
    refine hK _ _ ?_
    clear hK K
    refine wpAnyE_two 3 11 rfl rfl (by kernel_rfl) hI1 (fun K hK => ?_) (fun K hK => ?_)
    · rw [if_pos (by kernel_rfl)]
      have T := getSizeR_any m g x1 hI1 hm.nums
      go_simp
      go_call T as e x2 ⟨Q2, v2, fs2, rfl, V2, hp2, M2x, hn2⟩
      clear T
      replace V2 : OwnX FD.cells 123 4 x2 w.heap.size v2 fs2 := OwnX.mono (cf := FD.cells) V2 P1.size
      have M2 := fun f hf => (M2x f hf).1
      clear M2x
      have P2 : Only [] w x2 := P1.trans Q2 (by simp)
      have hI2 : (fun w' : World => Blk w' g 119 m.cells) x2 := hg.only P2 (by simp)
      have z2 := Q2.size
      have V1 := V1.only Q2
      have M1 := fun f hf => (⟨(M1 f hf).1.only Q2, (M1 f hf).2⟩ : FD.ok x2 f ∧ f.off v1)
      obtain ⟨A2, c2, rfl, hc2, hm2, R2, _⟩ := V2.form
      refine hK _ _ ?_
      clear hK K
      refine wpAnyE_two 4 11 rfl rfl (by kernel_rfl) hI2 (fun K hK => ?_) (fun K hK => ?_)
      · rw [if_pos (by kernel_rfl)]
        have R2' : RdX FD.cells x2 A2 fs2 := by obtain ⟨A2', c2', e2, _, _, R2', _⟩ := V2.form; rw [(Value.slice.inj e2).1]; exact R2'
        have l1 : fs1.length = 1 := by have := congrArg List.length hp1; simpa [partsR] using this
        have l2 : fs2.length = 4 := by have := congrArg List.length hp2; simpa [partsR] using this
        refine wp_appX (.tmp 4) (.tmp 6) elemF rfl oneF lenF (by kernel_rfl) V1 A2 c2 fs2 _ rfl (by kernel_rfl) R2' (by simp only [maxLen]; omega) (by omega) P2.size ?_
        intro v7 x3 V7 Q3 G3
        have V7 := V7.out
        have M12 : ∀ f ∈ fs1 ++ fs2, FD.ok x2 f ∧ f.off v1 := fun f hf => by
          rcases List.mem_append.1 hf with hf | hf
          · exact M1 f hf
          · exact ⟨M2 f hf, off_plain (sizes_plain hp2 f hf).1 (sizes_plain hp2 f hf).2⟩
        have M7 := okOff_app Q3 G3.out M12
        have P3 : Only [] w x3 := P2.trans Q3 (fun x hx => .inr (V1.block x (by simpa using hx)).1)
        have hI3 : (fun w' : World => Blk w' g 119 m.cells) x3 := hg.only P3 (by simp)
        refine hK _ _ ?_
        clear hK K
        refine wpAnyE_one 11 rfl (by kernel_rfl) hI3 (fun K hK => ?_)
        rw [if_pos (by kernel_rfl)]
        have Q4 : Only [] x3 (x3.alloc (.cells #[.int .i64 0, .int .u32 0, .slice m.mA m.modes.length m.mc, .slice none 0 0] 123)) := (Only.refl [] x3).alloc _
        have B3 : Blk (x3.alloc (.cells #[.int .i64 0, .int .u32 0, .slice m.mA m.modes.length m.mc, .slice none 0 0] 123)) x3.heap.size 123 [.int .i64 0, .int .u32 0, .slice m.mA m.modes.length m.mc, .slice none 0 0] := Blk.new x3 _ _
        obtain ⟨q3, hq3⟩ : ∃ q, q = x3.heap.size := ⟨_, rfl⟩
        have hq3w : w.heap.size ≤ q3 := by have := P3.size; omega
        have hq3' : q3 ≤ x3.heap.size ∧ x3.heap.size ≤ q3 := by omega
        go_simp
        obtain ⟨x4, hx4⟩ : ∃ x, x = x3.alloc (.cells #[.int .i64 0, .int .u32 0, .slice m.mA m.modes.length m.mc, .slice none 0 0] 123) := ⟨_, rfl⟩
        rw [← hx4] at Q4 B3 ⊢
        rw [← hq3] at B3 ⊢
        have P4 : Only [] w x4 := P3.trans Q4 (by simp)
        have hI4 : (fun w' : World => Blk w' g 119 m.cells) x4 := hg.only P4 (by simp)
        have z4 := Q4.size
        have V7 := V7.only Q4
        have M7 := fun f hf => (⟨(M7 f hf).1.only Q4, (M7 f hf).2⟩ : FD.ok x4 f ∧ f.off v7)
        replace hx4 := hide hx4
        replace hq3 := hide hq3
        refine hK _ _ ?_
        clear hK K
        refine wpAnyE_one 12 rfl (by kernel_rfl) hI4 (fun K hK => ?_)
        rw [if_pos (by kernel_rfl)]
        refine wp_appX (.tmp 7) (.tmp 14) elemF rfl oneF lenF (by kernel_rfl) V7 (some ⟨q3, 0, none⟩) 1 [⟨0, 0, m.mA, m.mc, m.modes, none, 0, []⟩] 1 rfl (by kernel_rfl) (rdX_one B3) (by simp only [maxLen, List.length_append, List.length_singleton]; omega) (by simp only [List.length_append, List.length_singleton]; omega) P4.size ?_
        intro v12 x5 V12 Q5 G5
        have V12 := V12.out
        have M12' := okOff_app Q5 G5.out M7
        have PE : Only [] w x5 := P4.trans Q5 (fun x hx => .inr (V7.block x (by simpa using hx)).1)
        have hIE : (fun w' : World => Blk w' g 119 m.cells) x5 := hg.only PE (by simp)
        refine hK _ _ ?_
        clear hK K
        refine wpAnyE_take 13 (v := v12) rfl (by kernel_rfl) (fun _ _ _ h => h) hIE (fun w' hw' => Or.inl ⟨by kernel_rfl, Or.inl (by go_simp)⟩) ?_
        refine wpAnyE_end (by kernel_rfl) hIE ?_
        simp only [Exit.then]
        go_wp2_with fail
        go_ret
        exact pty_end hm PE V12 M12' hp1 hp2 hn1 hn2
      · rw [if_pos (by kernel_rfl)]
        have Q3 : Only [] x2 (x2.alloc (.cells #[.int .i64 0, .int .u32 0, .slice m.mA m.modes.length m.mc, .slice none 0 0] 123)) := (Only.refl [] x2).alloc _
        have B3 : Blk (x2.alloc (.cells #[.int .i64 0, .int .u32 0, .slice m.mA m.modes.length m.mc, .slice none 0 0] 123)) x2.heap.size 123 [.int .i64 0, .int .u32 0, .slice m.mA m.modes.length m.mc, .slice none 0 0] := Blk.new x2 _ _
        obtain ⟨q3, hq3⟩ : ∃ q, q = x2.heap.size := ⟨_, rfl⟩
        have hq3w : w.heap.size ≤ q3 := by have := P2.size; omega
        have hq3' : q3 ≤ x2.heap.size ∧ x2.heap.size ≤ q3 := by omega
        go_simp
        obtain ⟨x3, hx3⟩ : ∃ x, x = x2.alloc (.cells #[.int .i64 0, .int .u32 0, .slice m.mA m.modes.length m.mc, .slice none 0 0] 123) := ⟨_, rfl⟩
        rw [← hx3] at Q3 B3 ⊢
        rw [← hq3] at B3 ⊢
        have P3 : Only [] w x3 := P2.trans Q3 (by simp)
        have hI3 : (fun w' : World => Blk w' g 119 m.cells) x3 := hg.only P3 (by simp)
        have z3 := Q3.size
        have V1 := V1.only Q3
        have M1 := fun f hf => (⟨(M1 f hf).1.only Q3, (M1 f hf).2⟩ : FD.ok x3 f ∧ f.off v1)
        have V2 := V2.only Q3
        have M2 := fun f hf => (M2 f hf).only Q3
        replace hx3 := hide hx3
        replace hq3 := hide hq3
        refine hK _ _ ?_
        clear hK K
        refine wpAnyE_one 4 rfl (by kernel_rfl) hI3 (fun K hK => ?_)
        rw [if_pos (by kernel_rfl)]
        have R2' : RdX FD.cells x3 A2 fs2 := by obtain ⟨A2', c2', e2, _, _, R2', _⟩ := V2.form; rw [(Value.slice.inj e2).1]; exact R2'
        have l1 : fs1.length = 1 := by have := congrArg List.length hp1; simpa [partsR] using this
        have l2 : fs2.length = 4 := by have := congrArg List.length hp2; simpa [partsR] using this
        refine wp_appX (.tmp 4) (.tmp 6) elemF rfl oneF lenF (by kernel_rfl) V1 A2 c2 fs2 _ rfl (by kernel_rfl) R2' (by simp only [maxLen]; omega) (by omega) P3.size ?_
        intro v7 x4 V7 Q4 G4
        have V7 := V7.out
        have M12 : ∀ f ∈ fs1 ++ fs2, FD.ok x3 f ∧ f.off v1 := fun f hf => by
          rcases List.mem_append.1 hf with hf | hf
          · exact M1 f hf
          · exact ⟨M2 f hf, off_plain (sizes_plain hp2 f hf).1 (sizes_plain hp2 f hf).2⟩
        have M7 := okOff_app Q4 G4.out M12
        have P4 : Only [] w x4 := P3.trans Q4 (fun x hx => .inr (V1.block x (by simpa using hx)).1)
        have hI4 : (fun w' : World => Blk w' g 119 m.cells) x4 := hg.only P4 (by simp)
        have B3 := B3.only Q4 (fun hx => by have := o1 q3 (by simpa using hx); omega)
        refine hK _ _ ?_
        clear hK K
        refine wpAnyE_one 12 rfl (by kernel_rfl) hI4 (fun K hK => ?_)
        rw [if_pos (by kernel_rfl)]
        refine wp_appX (.tmp 7) (.tmp 14) elemF rfl oneF lenF (by kernel_rfl) V7 (some ⟨q3, 0, none⟩) 1 [⟨0, 0, m.mA, m.mc, m.modes, none, 0, []⟩] 1 rfl (by kernel_rfl) (rdX_one B3) (by simp only [maxLen, List.length_append, List.length_singleton]; omega) (by simp only [List.length_append, List.length_singleton]; omega) P4.size ?_
        intro v12 x5 V12 Q5 G5
        have V12 := V12.out
        have M12' := okOff_app Q5 G5.out M7
        have PE : Only [] w x5 := P4.trans Q5 (fun x hx => .inr (V7.block x (by simpa using hx)).1)
        have hIE : (fun w' : World => Blk w' g 119 m.cells) x5 := hg.only PE (by simp)
        refine hK _ _ ?_
        clear hK K
        refine wpAnyE_take 13 (v := v12) rfl (by kernel_rfl) (fun _ _ _ h => h) hIE (fun w' hw' => Or.inl ⟨by kernel_rfl, Or.inl (by go_simp)⟩) ?_
        refine wpAnyE_end (by kernel_rfl) hIE ?_
        simp only [Exit.then]
        go_wp2_with fail
        go_ret
        exact pty_end hm PE V12 M12' hp1 hp2 hn1 hn2
    · rw [if_pos (by kernel_rfl)]
      have Q2 : Only [] x1 (x1.alloc (.cells #[.int .i64 0, .int .u32 0, .slice m.mA m.modes.length m.mc, .slice none 0 0] 123)) := (Only.refl [] x1).alloc _
      have B3 : Blk (x1.alloc (.cells #[.int .i64 0, .int .u32 0, .slice m.mA m.modes.length m.mc, .slice none 0 0] 123)) x1.heap.size 123 [.int .i64 0, .int .u32 0, .slice m.mA m.modes.length m.mc, .slice none 0 0] := Blk.new x1 _ _
      obtain ⟨q3, hq3⟩ : ∃ q, q = x1.heap.size := ⟨_, rfl⟩
      have hq3w : w.heap.size ≤ q3 := by have := P1.size; omega
      have hq3' : q3 ≤ x1.heap.size ∧ x1.heap.size ≤ q3 := by omega
      go_simp
      obtain ⟨x2, hx2⟩ : ∃ x, x = x1.alloc (.cells #[.int .i64 0, .int .u32 0, .slice m.mA m.modes.length m.mc, .slice none 0 0] 123) := ⟨_, rfl⟩
      rw [← hx2] at Q2 B3 ⊢
      rw [← hq3] at B3 ⊢
      have P2 : Only [] w x2 := P1.trans Q2 (by simp)
      have hI2 : (fun w' : World => Blk w' g 119 m.cells) x2 := hg.only P2 (by simp)
      have z2 := Q2.size
      have V1 := V1.only Q2
      have M1 := fun f hf => (⟨(M1 f hf).1.only Q2, (M1 f hf).2⟩ : FD.ok x2 f ∧ f.off v1)
      replace hx2 := hide hx2
      replace hq3 := hide hq3
      refine hK _ _ ?_
      clear hK K
      refine wpAnyE_one 3 rfl (by kernel_rfl) hI2 (fun K hK => ?_)
      rw [if_pos (by kernel_rfl)]
      have T := getSizeR_any m g x2 hI2 hm.nums
      go_simp
      go_call T as e x3 ⟨Q3, v2, fs2, rfl, V2, hp2, M2x, hn2⟩
      clear T
      replace V2 : OwnX FD.cells 123 4 x3 w.heap.size v2 fs2 := OwnX.mono (cf := FD.cells) V2 P2.size
      have M2 := fun f hf => (M2x f hf).1
      clear M2x
      have P3 : Only [] w x3 := P2.trans Q3 (by simp)
      have hI3 : (fun w' : World => Blk w' g 119 m.cells) x3 := hg.only P3 (by simp)
      have z3 := Q3.size
      have V1 := V1.only Q3
      have M1 := fun f hf => (⟨(M1 f hf).1.only Q3, (M1 f hf).2⟩ : FD.ok x3 f ∧ f.off v1)
      have B3 := B3.only Q3 (by simp)
      obtain ⟨A2, c2, rfl, hc2, hm2, R2, _⟩ := V2.form
      refine hK _ _ ?_
      clear hK K
      refine wpAnyE_one 4 rfl (by kernel_rfl) hI3 (fun K hK => ?_)
      rw [if_pos (by kernel_rfl)]
      have R2' : RdX FD.cells x3 A2 fs2 := by obtain ⟨A2', c2', e2, _, _, R2', _⟩ := V2.form; rw [(Value.slice.inj e2).1]; exact R2'
      have l1 : fs1.length = 1 := by have := congrArg List.length hp1; simpa [partsR] using this
      have l2 : fs2.length = 4 := by have := congrArg List.length hp2; simpa [partsR] using this
      refine wp_appX (.tmp 4) (.tmp 6) elemF rfl oneF lenF (by kernel_rfl) V1 A2 c2 fs2 _ rfl (by kernel_rfl) R2' (by simp only [maxLen]; omega) (by omega) P3.size ?_
      intro v7 x4 V7 Q4 G4
      have V7 := V7.out
      have M12 : ∀ f ∈ fs1 ++ fs2, FD.ok x3 f ∧ f.off v1 := fun f hf => by
        rcases List.mem_append.1 hf with hf | hf
        · exact M1 f hf
        · exact ⟨M2 f hf, off_plain (sizes_plain hp2 f hf).1 (sizes_plain hp2 f hf).2⟩
      have M7 := okOff_app Q4 G4.out M12
      have P4 : Only [] w x4 := P3.trans Q4 (fun x hx => .inr (V1.block x (by simpa using hx)).1)
      have hI4 : (fun w' : World => Blk w' g 119 m.cells) x4 := hg.only P4 (by simp)
      have B3 := B3.only Q4 (fun hx => by have := o1 q3 (by simpa using hx); omega)
      refine hK _ _ ?_
      clear hK K
      refine wpAnyE_one 12 rfl (by kernel_rfl) hI4 (fun K hK => ?_)
      rw [if_pos (by kernel_rfl)]
      refine wp_appX (.tmp 7) (.tmp 14) elemF rfl oneF lenF (by kernel_rfl) V7 (some ⟨q3, 0, none⟩) 1 [⟨0, 0, m.mA, m.mc, m.modes, none, 0, []⟩] 1 rfl (by kernel_rfl) (rdX_one B3) (by simp only [maxLen, List.length_append, List.length_singleton]; omega) (by simp only [List.length_append, List.length_singleton]; omega) P4.size ?_
      intro v12 x5 V12 Q5 G5
      have V12 := V12.out
      have M12' := okOff_app Q5 G5.out M7
      have PE : Only [] w x5 := P4.trans Q5 (fun x hx => .inr (V7.block x (by simpa using hx)).1)
      have hIE : (fun w' : World => Blk w' g 119 m.cells) x5 := hg.only PE (by simp)
      refine hK _ _ ?_
      clear hK K
      refine wpAnyE_take 13 (v := v12) rfl (by kernel_rfl) (fun _ _ _ h => h) hIE (fun w' hw' => Or.inl ⟨by kernel_rfl, Or.inl (by go_simp)⟩) ?_
      refine wpAnyE_end (by kernel_rfl) hIE ?_
      simp only [Exit.then]
      go_wp2_with fail
      go_ret
      exact pty_end hm PE V12 M12' hp1 hp2 hn1 hn2
  · rw [if_pos (by kernel_rfl)]
    have Q1 : Only [] w.drew ((w.alloc (.cells #[.int .i64 0, .int .u32 0, .slice m.mA m.modes.length m.mc, .slice none 0 0] 123)).drew) := (Only.refl [] w.drew).alloc _
    have B3 : Blk ((w.alloc (.cells #[.int .i64 0, .int .u32 0, .slice m.mA m.modes.length m.mc, .slice none 0 0] 123)).drew) w.heap.size 123 [.int .i64 0, .int .u32 0, .slice m.mA m.modes.length m.mc, .slice none 0 0] := Blk.new w.drew _ _
    obtain ⟨q3, hq3⟩ : ∃ q, q = w.heap.size := ⟨_, rfl⟩
    have hq3w : w.heap.size ≤ q3 := by have := P0.size; omega
    have hq3' : q3 < ((w.alloc (.cells #[.int .i64 0, .int .u32 0, .slice m.mA m.modes.length m.mc, .slice none 0 0] 123)).drew).heap.size := by rw [hq3]; simp
    go_simp
    obtain ⟨x1, hx1⟩ : ∃ x, x = (w.alloc (.cells #[.int .i64 0, .int .u32 0, .slice m.mA m.modes.length m.mc, .slice none 0 0] 123)).drew := ⟨_, rfl⟩
    rw [← hx1] at Q1 B3 ⊢
    rw [← hx1] at hq3'
    rw [← hq3] at B3
    rw [show (Value.slice (some ⟨w.heap.size, 0, none⟩) 1 1) = Value.slice (some ⟨q3, 0, none⟩) 1 1 by rw [hq3]]
    have P1 : Only [] w x1 := P0.trans Q1 (by simp)
    have hI1 : (fun w' : World => Blk w' g 119 m.cells) x1 := hg.only P1 (by simp)
    have z1 := Q1.size
    replace hx1 := hide hx1
    replace hq3 := hide hq3
    refine hK _ _ ?_
    clear hK K
    refine wpAnyE_one 1 rfl (by kernel_rfl) hI1 (fun K hK => ?_)
    rw [if_pos (by kernel_rfl)]
    have T := getTextR_any m g x1 hI1 hs
    go_simp
    go_call T as e x2 ⟨Q2, v1, fs1, rfl, V1, hp1, M1, hn1⟩
    clear T
    have o1 := OwnF.block V1
    replace V1 : OwnX FD.cells 123 4 x2 w.heap.size v1 fs1 := OwnX.mono (cf := FD.cells) V1 P1.size
    have P2 : Only [] w x2 := P1.trans Q2 (by simp)
    have hI2 : (fun w' : World => Blk w' g 119 m.cells) x2 := hg.only P2 (by simp)
    have z2 := Q2.size
    have B3 := B3.only Q2 (by simp)
    refine hK _ _ ?_
    clear hK K
    refine wpAnyE_one 3 rfl (by kernel_rfl) hI2 (fun K hK => ?_)
    rw [if_pos (by kernel_rfl)]
    have T := getSizeR_any m g x2 hI2 hm.nums
    go_simp
    go_call T as e x3 ⟨Q3, v2, fs2, rfl, V2, hp2, M2x, hn2⟩
    clear T
    replace V2 : OwnX FD.cells 123 4 x3 w.heap.size v2 fs2 := OwnX.mono (cf := FD.cells) V2 P2.size
    have M2 := fun f hf => (M2x f hf).1
    clear M2x
    have P3 : Only [] w x3 := P2.trans Q3 (by simp)
    have hI3 : (fun w' : World => Blk w' g 119 m.cells) x3 := hg.only P3 (by simp)
    have z3 := Q3.size
    have V1 := V1.only Q3
    have M1 := fun f hf => (⟨(M1 f hf).1.only Q3, (M1 f hf).2⟩ : FD.ok x3 f ∧ f.off v1)
    have B3 := B3.only Q3 (by simp)
    obtain ⟨A2, c2, rfl, hc2, hm2, R2, _⟩ := V2.form
    refine hK _ _ ?_
    clear hK K
    refine wpAnyE_one 4 rfl (by kernel_rfl) hI3 (fun K hK => ?_)
    rw [if_pos (by kernel_rfl)]
    have R2' : RdX FD.cells x3 A2 fs2 := by obtain ⟨A2', c2', e2, _, _, R2', _⟩ := V2.form; rw [(Value.slice.inj e2).1]; exact R2'
    have l1 : fs1.length = 1 := by have := congrArg List.length hp1; simpa [partsR] using this
    have l2 : fs2.length = 4 := by have := congrArg List.length hp2; simpa [partsR] using this
    refine wp_appX (.tmp 4) (.tmp 6) elemF rfl oneF lenF (by kernel_rfl) V1 A2 c2 fs2 _ rfl (by kernel_rfl) R2' (by simp only [maxLen]; omega) (by omega) P3.size ?_
    intro v7 x4 V7 Q4 G4
    have V7 := V7.out
    have M12 : ∀ f ∈ fs1 ++ fs2, FD.ok x3 f ∧ f.off v1 := fun f hf => by
      rcases List.mem_append.1 hf with hf | hf
      · exact M1 f hf
      · exact ⟨M2 f hf, off_plain (sizes_plain hp2 f hf).1 (sizes_plain hp2 f hf).2⟩
    have M7 := okOff_app Q4 G4.out M12
    have P4 : Only [] w x4 := P3.trans Q4 (fun x hx => .inr (V1.block x (by simpa using hx)).1)
    have hI4 : (fun w' : World => Blk w' g 119 m.cells) x4 := hg.only P4 (by simp)
    have B3 := B3.only Q4 (fun hx => by have := o1 q3 (by simpa using hx); omega)
    refine hK _ _ ?_
    clear hK K
    refine wpAnyE_one 12 rfl (by kernel_rfl) hI4 (fun K hK => ?_)
    rw [if_pos (by kernel_rfl)]
    refine wp_appX (.tmp 7) (.tmp 14) elemF rfl oneF lenF (by kernel_rfl) V7 (some ⟨q3, 0, none⟩) 1 [⟨0, 0, m.mA, m.mc, m.modes, none, 0, []⟩] 1 rfl (by kernel_rfl) (rdX_one B3) (by simp only [maxLen, List.length_append, List.length_singleton]; omega) (by simp only [List.length_append, List.length_singleton]; omega) P4.size ?_
    intro v12 x5 V12 Q5 G5
    have V12 := V12.out
    have M12' := okOff_app Q5 G5.out M7
    have PE : Only [] w x5 := P4.trans Q5 (fun x hx => .inr (V7.block x (by simpa using hx)).1)
    have hIE : (fun w' : World => Blk w' g 119 m.cells) x5 := hg.only PE (by simp)
    refine hK _ _ ?_
    clear hK K
    refine wpAnyE_take 13 (v := v12) rfl (by kernel_rfl) (fun _ _ _ h => h) hIE (fun w' hw' => Or.inl ⟨by kernel_rfl, Or.inl (by go_simp)⟩) ?_
    refine wpAnyE_end (by kernel_rfl) hIE ?_
    simp only [Exit.then]
    go_wp2_with fail
    go_ret
    exact pty_end hm PE V12 M12' hp1 hp2 hn1 hn2
end
end Go.Proofs.YtdplnedpbkpgpaaGreatDoor

namespace Go.Proofs.YtdplnedpbkpgpaaGreatDoor
set_option linter.all false
open Go.RowKit

theorem conv_rd {w : World} {A : Option Addr} {l : List Int} {c : Nat} (h : RdG (.int .u8) w A l) : (convert 32 9 (.slice A l.length c)).run Tryz.prog w = .ok (.string (strOfNums l)) w := by
  by_cases h0 : 0 < l.length
  · obtain ⟨b, off, rfl, _, hc⟩ := h h0
    exact run_convert_bytes_arg (P := Tryz.prog) (w := w) 32 5 (by kernel_rfl) (by kernel_rfl) b off l.length c l rfl (fun i hi => by
      have hx : l[i]? = some (l[i]'hi) := List.getElem?_eq_getElem hi
      rw [hc i _ hx]
      simp [List.getD, hx]) 9 (by kernel_rfl)
  · obtain rfl : l = [] := List.eq_nil_of_length_eq_zero (by omega)
    cases A with
    | none =>
      have e : (convert 32 9 (.slice none 0 c)).run Tryz.prog w = (Conv.bytesToString (.slice none 0 c)).run Tryz.prog w := by simp [convert, run_underlying Tryz.underlying32, run_underlying Tryz.underlying9, run_underlying Tryz.underlying5]
      rw [show ([] : List Int).length = 0 from rfl, e]
      first | rfl | (simp [Conv.bytesToString, loadCells, loadCellsFrom, strOfNums]; try rfl)
    | some a =>
      have e : (convert 32 9 (.slice (some a) 0 c)).run Tryz.prog w = (Conv.bytesToString (.slice (some a) 0 c)).run Tryz.prog w := by simp [convert, run_underlying Tryz.underlying32, run_underlying Tryz.underlying9, run_underlying Tryz.underlying5]
      rw [show ([] : List Int).length = 0 from rfl, e]
      first | rfl | (simp [Conv.bytesToString, loadCells, loadCellsFrom, strOfNums]; try rfl)
end Go.Proofs.YtdplnedpbkpgpaaGreatDoor

namespace Go.Proofs.YtdplnedpbkpgpaaGreatDoor
set_option linter.all false
open Go.RowKit

set_option maxRecDepth 100000 in
set_option maxHeartbeats 1600000 in
theorem putTextR_any (m : RQ) (g : Nat) (w0 w : World) (A : Option Addr) (a : FD) (r : List FD) (c : Nat) (hF : RdF w0 A (a :: r)) (hO : Only [] w0 w) (hlt : w0.heap.size ≤ g) (hg : Blk w g 119 m.cells) : Calls Tryz.prog 81 #[.pointer (some ⟨g, 0, none⟩), .slice A (r.length + 1) c] w fun e w' => e = .returned (.tuple #[]) ∧ Only [g] w w' ∧ Blk w' g 119 (RQ.cells { m with text := strOfNums a.text }) := by
  obtain ⟨b, off, rfl, hb, hc⟩ := hF.cells (by simp)
  have hbg : ¬ b = g := by omega
  have hgl := hg.lt
  obtain ⟨_, n0, t0, _⟩ := hc 0 a rfl
  simp only [Nat.zero_mul, Nat.one_mul, Nat.reduceMul, Nat.add_zero] at n0 t0
  have n0 := cellL hO hb (by simp) n0
  have t0 := cellL hO hb (by simp) t0
  have g1 : w.cell? ⟨g, 1, none⟩ = some (.string m.text) := hg.cell 1
  have z1 := hg.frozen 1
  have kc0 : (convert 32 9 (.slice a.tA a.text.length a.tc)).run Tryz.prog w = .ok (.string (strOfNums a.text)) w := conv_rd ((hF.ok a (by simp)).1.text.only hO)
  have hsl : (0 : Int) ≤ (r.length : Int) := Int.natCast_nonneg _
  clear hc
  have hb2 := hg.set_ 1 (.string (strOfNums a.text))
  have hO2 : Only [g] w (w.setCell ⟨g, 1, none⟩ (.string (strOfNums a.text))) := (Only.refl [g] w).setCell (p := ⟨g, 1, none⟩) (.inl (by simp)) _
  go_enter Tryz.func81, Tryz.ntmps81
  go_wp2
  go_end0
  exact ⟨rfl, hO2, hb2⟩
set_option maxRecDepth 100000 in
set_option maxHeartbeats 1600000 in
theorem putCodeR_any (m : RQ) (g : Nat) (w0 w : World) (A : Option Addr) (a : FD) (r : List FD) (c : Nat) (hF : RdF w0 A (a :: r)) (hO : Only [] w0 w) (hlt : w0.heap.size ≤ g) (hg : Blk w g 119 m.cells) : Calls Tryz.prog 89 #[.pointer (some ⟨g, 0, none⟩), .slice A (r.length + 1) c] w fun e w' => e = .returned (.tuple #[]) ∧ Only [g] w w' ∧ Blk w' g 119 (RQ.cells { m with code := a.n }) := by
  obtain ⟨b, off, rfl, hb, hc⟩ := hF.cells (by simp)
  have hbg : ¬ b = g := by omega
  have hgl := hg.lt
  obtain ⟨_, n0, t0, _⟩ := hc 0 a rfl
  simp only [Nat.zero_mul, Nat.one_mul, Nat.reduceMul, Nat.add_zero] at n0 t0
  have n0 := cellL hO hb (by simp) n0
  have t0 := cellL hO hb (by simp) t0
  have g10 : w.cell? ⟨g, 10, none⟩ = some (.int .u32 m.code) := hg.cell 10
  have z10 := hg.frozen 10
  have hsl : (0 : Int) ≤ (r.length : Int) := Int.natCast_nonneg _
  clear hc
  have hb2 := hg.set_ 10 (.int .u32 a.n)
  have hO2 : Only [g] w (w.setCell ⟨g, 10, none⟩ (.int .u32 a.n)) := (Only.refl [g] w).setCell (p := ⟨g, 10, none⟩) (.inl (by simp)) _
  go_enter Tryz.func89, Tryz.ntmps89
  go_wp2
  go_end0
  exact ⟨rfl, hO2, hb2⟩
set_option maxRecDepth 100000 in
set_option maxHeartbeats 1600000 in
theorem putOnR_any (m : RQ) (g : Nat) (w0 w : World) (A : Option Addr) (a : FD) (r : List FD) (c : Nat) (hF : RdF w0 A (a :: r)) (hO : Only [] w0 w) (hlt : w0.heap.size ≤ g) (hg : Blk w g 119 m.cells) : Calls Tryz.prog 87 #[.pointer (some ⟨g, 0, none⟩), .slice A (r.length + 1) c] w fun e w' => e = .returned (.tuple #[]) ∧ Only [g] w w' ∧ Blk w' g 119 (RQ.cells { m with on := decide (a.n = 1) }) := by
  obtain ⟨on, hon⟩ : ∃ on, decide (a.n = 1) = on := ⟨_, rfl⟩
  rw [hon]
  have hon2 : (a.n == 1) = on := hon
  clear hon
  obtain ⟨b, off, rfl, hb, hc⟩ := hF.cells (by simp)
  have hbg : ¬ b = g := by omega
  have hgl := hg.lt
  obtain ⟨_, n0, t0, _⟩ := hc 0 a rfl
  simp only [Nat.zero_mul, Nat.one_mul, Nat.reduceMul, Nat.add_zero] at n0 t0
  have n0 := cellL hO hb (by simp) n0
  have t0 := cellL hO hb (by simp) t0
  have g9 : w.cell? ⟨g, 9, none⟩ = some (.bool m.on) := hg.cell 9
  have z9 := hg.frozen 9
  have hsl : (0 : Int) ≤ (r.length : Int) := Int.natCast_nonneg _
  clear hc
  have hb2 := hg.set_ 9 (.bool on)
  have hO2 : Only [g] w (w.setCell ⟨g, 9, none⟩ (.bool on)) := (Only.refl [g] w).setCell (p := ⟨g, 9, none⟩) (.inl (by simp)) _
  go_enter Tryz.func87, Tryz.ntmps87
  go_wp2
  go_end0
  exact ⟨rfl, hO2, hb2⟩
theorem putNoneR_any (m : RQ) (g : Nat) (w : World) (v : Value) (hg : Blk w g 119 m.cells) : Calls Tryz.prog 78 #[.pointer (some ⟨g, 0, none⟩), v] w fun e w' => e = .returned (.tuple #[]) ∧ Only [g] w w' ∧ Blk w' g 119 m.cells := by
  go_enter Tryz.func78, Tryz.ntmps78
  go_wp2
  go_end0
  exact ⟨rfl, Only.refl _ _, hg⟩
set_option maxRecDepth 100000 in
set_option maxHeartbeats 1600000 in
theorem putEnvR_any (m : RQ) (g : Nat) (w0 w : World) (A : Option Addr) (a d : FD) (r : List FD) (c : Nat) (hF : RdF w0 A (a :: d :: r)) (hO : Only [] w0 w) (hlt : w0.heap.size ≤ g) (hg : Blk w g 119 m.cells) : Calls Tryz.prog 75 #[.pointer (some ⟨g, 0, none⟩), .slice A (r.length + 2) c] w fun e w' => e = .returned (.tuple #[]) ∧ Only [g] w w' ∧ Blk w' g 119 (RQ.cells { m with text := strOfNums a.text, value := strOfNums d.text }) := by
  obtain ⟨b, off, rfl, hb, hc⟩ := hF.cells (by simp)
  have hbg : ¬ b = g := by omega
  have hgl := hg.lt
  obtain ⟨_, n0, t0, _⟩ := hc 0 a rfl
  simp only [Nat.zero_mul, Nat.one_mul, Nat.reduceMul, Nat.add_zero] at n0 t0
  obtain ⟨_, n1, t1, _⟩ := hc 1 d rfl
  simp only [Nat.zero_mul, Nat.one_mul, Nat.reduceMul, Nat.add_zero] at n1 t1
  have hI0 : Only [] w0 { w with drawn := w.drawn + 1 } := hO.drew
  have g1 : w.cell? ⟨g, 1, none⟩ = some (.string m.text) := hg.cell 1
  have z1 := hg.frozen 1
  have g2 : w.cell? ⟨g, 2, none⟩ = some (.string m.value) := hg.cell 2
  have z2 := hg.frozen 2
  have hsl : (0 : Int) ≤ (r.length : Int) := Int.natCast_nonneg _
  clear hc
  go_enter Tryz.func75, Tryz.ntmps75
  go_wp2_with fail
  have hI : (fun w' : World => Only [] w0 w') { w with drawn := w.drawn + 1 } := hI0
  refine wp_region_E (fun w' : World => Only [] w0 w') [] (by kernel_rfl) ?_
  refine wpAnyE_take 0 (v := (.pointer (some ⟨g, 0, none⟩))) rfl (by kernel_rfl) (fun _ _ _ h => h) hI (fun w' hw' => Or.inl ⟨by kernel_rfl, Or.inl (by go_simp)⟩) ?_
  refine wpAnyE_take 1 (v := (.pointer (some ⟨g, 0, none⟩))) rfl (by kernel_rfl) (fun _ _ _ h => h) hI (fun w' hw' => Or.inl ⟨by kernel_rfl, Or.inl (by go_simp)⟩) ?_
  refine wpAnyE_take 2 (v := (.slice (some ⟨b, off, none⟩) (r.length + 2) c)) rfl (by kernel_rfl) (fun _ _ _ h => h) hI (fun w' hw' => Or.inl ⟨by kernel_rfl, Or.inl (by go_simp)⟩) ?_
  refine wpAnyE_take 3 (v := (.pointer (some ⟨b, off, none⟩))) rfl (by kernel_rfl) (fun _ _ _ h => h) hI (fun w' hw' => Or.inl ⟨by kernel_rfl, Or.inl (by go_simp; intro h7; exact absurd h7 (by omega))⟩) ?_
  refine wpAnyE_take 4 (v := (.pointer (some ⟨b, off + 2, none⟩))) rfl (by kernel_rfl) (fun _ _ _ h => h) hI (fun w' hw' => Or.inl ⟨by kernel_rfl, Or.inl (by go_simp)⟩) ?_
  refine wpAnyE_take 5 (v := (.slice a.tA a.text.length a.tc)) rfl (by kernel_rfl) (fun _ _ _ h => h) hI (fun w' hw' => Or.inl ⟨by kernel_rfl, Or.inl (by have y0 := cellL hw' hb (by simp) t0; go_simp)⟩) ?_
  refine wpAnyE_take 6 (v := (.string (strOfNums a.text))) rfl (by kernel_rfl) (fun _ _ _ h => h) hI (fun w' hw' => Or.inl ⟨by kernel_rfl, Or.inl (by have kc := conv_rd (c := a.tc) ((hF.ok a (by simp)).1.text.only hw'); go_simp)⟩) ?_
  refine wpAnyE_take 7 (v := (.slice (some ⟨b, off, none⟩) (r.length + 2) c)) rfl (by kernel_rfl) (fun _ _ _ h => h) hI (fun w' hw' => Or.inl ⟨by kernel_rfl, Or.inl (by go_simp)⟩) ?_
  refine wpAnyE_take 8 (v := (.pointer (some ⟨b, off + 4, none⟩))) rfl (by kernel_rfl) (fun _ _ _ h => h) hI (fun w' hw' => Or.inl ⟨by kernel_rfl, Or.inl (by go_simp; intro h7; exact absurd h7 (by omega))⟩) ?_
  refine wpAnyE_take 9 (v := (.pointer (some ⟨b, off + 4 + 2, none⟩))) rfl (by kernel_rfl) (fun _ _ _ h => h) hI (fun w' hw' => Or.inl ⟨by kernel_rfl, Or.inl (by go_simp)⟩) ?_
  refine wpAnyE_take 10 (v := (.slice d.tA d.text.length d.tc)) rfl (by kernel_rfl) (fun _ _ _ h => h) hI (fun w' hw' => Or.inl ⟨by kernel_rfl, Or.inl (by have y0 := cellL hw' hb (by simp) t1; go_simp)⟩) ?_
  refine wpAnyE_take 11 (v := (.string (strOfNums d.text))) rfl (by kernel_rfl) (fun _ _ _ h => h) hI (fun w' hw' => Or.inl ⟨by kernel_rfl, Or.inl (by have kc := conv_rd (c := d.tc) ((hF.ok d (by simp)).1.text.only hw'); go_simp)⟩) ?_
  refine wpAnyE_take 12 (v := (.pointer (some ⟨g, 0, none⟩))) rfl (by kernel_rfl) (fun _ _ _ h => h) hI (fun w' hw' => Or.inl ⟨by kernel_rfl, Or.inl (by go_simp)⟩) ?_
  refine wpAnyE_take 13 (v := (.pointer (some ⟨g, 0, none⟩))) rfl (by kernel_rfl) (fun _ _ _ h => h) hI (fun w' hw' => Or.inl ⟨by kernel_rfl, Or.inl (by go_simp)⟩) ?_
  refine wpAnyE_take 14 (v := (.pointer (some ⟨g, 1, none⟩))) rfl (by kernel_rfl) (fun _ _ _ h => h) hI (fun w' hw' => Or.inl ⟨by kernel_rfl, Or.inl (by go_simp)⟩) ?_
  refine wpAnyE_one 15 rfl (by kernel_rfl) hI (fun K hK => ?_)
  rw [if_pos (by kernel_rfl)]
  go_simp
  refine hK _ _ ?_
  clear hK K
  have hI := Only.setCell (p := ⟨g, 1, none⟩) hI (.inr hlt) (.string (strOfNums a.text))
  refine wpAnyE_take 16 (v := (.pointer (some ⟨g, 0, none⟩))) rfl (by kernel_rfl) (fun _ _ _ h => h) hI (fun w' hw' => Or.inl ⟨by kernel_rfl, Or.inl (by go_simp)⟩) ?_
  refine wpAnyE_take 17 (v := (.pointer (some ⟨g, 0, none⟩))) rfl (by kernel_rfl) (fun _ _ _ h => h) hI (fun w' hw' => Or.inl ⟨by kernel_rfl, Or.inl (by go_simp)⟩) ?_
  refine wpAnyE_take 18 (v := (.pointer (some ⟨g, 2, none⟩))) rfl (by kernel_rfl) (fun _ _ _ h => h) hI (fun w' hw' => Or.inl ⟨by kernel_rfl, Or.inl (by go_simp)⟩) ?_
  refine wpAnyE_one 19 rfl (by kernel_rfl) hI (fun K hK => ?_)
  rw [if_pos (by kernel_rfl)]
  go_simp
  refine hK _ _ ?_
  clear hK K
  have hI := Only.setCell (p := ⟨g, 2, none⟩) hI (.inr hlt) (.string (strOfNums d.text))
  refine wpAnyE_end (by kernel_rfl) hI ?_
  (try simp only [Exit.inBlock, Exit.then])
  (try go_wp2_with fail)
  go_end0
  exact ⟨rfl, ((((((Only.refl [g] w).drew)).setCell (p := ⟨g, 1, none⟩) (.inl (by simp)) (.string (strOfNums a.text)))).setCell (p := ⟨g, 2, none⟩) (.inl (by simp)) (.string (strOfNums d.text))), ((hg.drew).set_ 1 (.string (strOfNums a.text))).set_ 2 (.string (strOfNums d.text))⟩
set_option maxRecDepth 100000 in
set_option maxHeartbeats 1600000 in
theorem putSizeR_any (m : RQ) (g : Nat) (w0 w : World) (A : Option Addr) (a d u v : FD) (r : List FD) (c : Nat) (hF : RdF w0 A (a :: d :: u :: v :: r)) (hO : Only [] w0 w) (hlt : w0.heap.size ≤ g) (hg : Blk w g 119 m.cells) : Calls Tryz.prog 85 #[.pointer (some ⟨g, 0, none⟩), .slice A (r.length + 4) c] w fun e w' => e = .returned (.tuple #[]) ∧ Only [g] w w' ∧ Blk w' g 119 (RQ.cells { m with cols := a.n, rows := d.n, width := u.n, height := v.n }) := by
  obtain ⟨b, off, rfl, hb, hc⟩ := hF.cells (by simp)
  have hbg : ¬ b = g := by omega
  have hgl := hg.lt
  obtain ⟨_, n0, t0, _⟩ := hc 0 a rfl
  simp only [Nat.zero_mul, Nat.one_mul, Nat.reduceMul, Nat.add_zero] at n0 t0
  obtain ⟨_, n1, t1, _⟩ := hc 1 d rfl
  simp only [Nat.zero_mul, Nat.one_mul, Nat.reduceMul, Nat.add_zero] at n1 t1
  obtain ⟨_, n2, t2, _⟩ := hc 2 u rfl
  simp only [Nat.zero_mul, Nat.one_mul, Nat.reduceMul, Nat.add_zero] at n2 t2
  obtain ⟨_, n3, t3, _⟩ := hc 3 v rfl
  simp only [Nat.zero_mul, Nat.one_mul, Nat.reduceMul, Nat.add_zero] at n3 t3
  have hI0 : Only [] w0 { w with drawn := w.drawn + 1 } := hO.drew
  have g4 : w.cell? ⟨g, 4, none⟩ = some (.int .u32 m.cols) := hg.cell 4
  have z4 := hg.frozen 4
  have g5 : w.cell? ⟨g, 5, none⟩ = some (.int .u32 m.rows) := hg.cell 5
  have z5 := hg.frozen 5
  have g6 : w.cell? ⟨g, 6, none⟩ = some (.int .u32 m.width) := hg.cell 6
  have z6 := hg.frozen 6
  have g7 : w.cell? ⟨g, 7, none⟩ = some (.int .u32 m.height) := hg.cell 7
  have z7 := hg.frozen 7
  have hsl : (0 : Int) ≤ (r.length : Int) := Int.natCast_nonneg _
  clear hc
  go_enter Tryz.func85, Tryz.ntmps85
  go_wp2_with fail
  have hI : (fun w' : World => Only [] w0 w') { w with drawn := w.drawn + 1 } := hI0
  refine wp_region_E (fun w' : World => Only [] w0 w') [] (by kernel_rfl) ?_
  refine wpAnyE_take 0 (v := (.pointer (some ⟨g, 0, none⟩))) rfl (by kernel_rfl) (fun _ _ _ h => h) hI (fun w' hw' => Or.inl ⟨by kernel_rfl, Or.inl (by go_simp)⟩) ?_
  refine wpAnyE_take 1 (v := (.slice (some ⟨b, off, none⟩) (r.length + 4) c)) rfl (by kernel_rfl) (fun _ _ _ h => h) hI (fun w' hw' => Or.inl ⟨by kernel_rfl, Or.inl (by go_simp)⟩) ?_
  refine wpAnyE_take 2 (v := (.pointer (some ⟨b, off, none⟩))) rfl (by kernel_rfl) (fun _ _ _ h => h) hI (fun w' hw' => Or.inl ⟨by kernel_rfl, Or.inl (by go_simp; intro h7; exact absurd h7 (by omega))⟩) ?_
  refine wpAnyE_take 3 (v := (.pointer (some ⟨b, off + 1, none⟩))) rfl (by kernel_rfl) (fun _ _ _ h => h) hI (fun w' hw' => Or.inl ⟨by kernel_rfl, Or.inl (by go_simp)⟩) ?_
  refine wpAnyE_take 4 (v := (.int .u32 a.n)) rfl (by kernel_rfl) (fun _ _ _ h => h) hI (fun w' hw' => Or.inl ⟨by kernel_rfl, Or.inl (by have y0 := cellL hw' hb (by simp) n0; go_simp)⟩) ?_
  refine wpAnyE_take 5 (v := (.slice (some ⟨b, off, none⟩) (r.length + 4) c)) rfl (by kernel_rfl) (fun _ _ _ h => h) hI (fun w' hw' => Or.inl ⟨by kernel_rfl, Or.inl (by go_simp)⟩) ?_
  refine wpAnyE_take 6 (v := (.pointer (some ⟨b, off + 4, none⟩))) rfl (by kernel_rfl) (fun _ _ _ h => h) hI (fun w' hw' => Or.inl ⟨by kernel_rfl, Or.inl (by go_simp; intro h7; exact absurd h7 (by omega))⟩) ?_
  refine wpAnyE_take 7 (v := (.pointer (some ⟨b, off + 4 + 1, none⟩))) rfl (by kernel_rfl) (fun _ _ _ h => h) hI (fun w' hw' => Or.inl ⟨by kernel_rfl, Or.inl (by go_simp)⟩) ?_
  refine wpAnyE_take 8 (v := (.int .u32 d.n)) rfl (by kernel_rfl) (fun _ _ _ h => h) hI (fun w' hw' => Or.inl ⟨by kernel_rfl, Or.inl (by have y0 := cellL hw' hb (by simp) n1; go_simp)⟩) ?_
  refine wpAnyE_take 9 (v := (.slice (some ⟨b, off, none⟩) (r.length + 4) c)) rfl (by kernel_rfl) (fun _ _ _ h => h) hI (fun w' hw' => Or.inl ⟨by kernel_rfl, Or.inl (by go_simp)⟩) ?_
  refine wpAnyE_take 10 (v := (.pointer (some ⟨b, off + 8, none⟩))) rfl (by kernel_rfl) (fun _ _ _ h => h) hI (fun w' hw' => Or.inl ⟨by kernel_rfl, Or.inl (by go_simp; intro h7; exact absurd h7 (by omega))⟩) ?_
  refine wpAnyE_take 11 (v := (.pointer (some ⟨b, off + 8 + 1, none⟩))) rfl (by kernel_rfl) (fun _ _ _ h => h) hI (fun w' hw' => Or.inl ⟨by kernel_rfl, Or.inl (by go_simp)⟩) ?_
  refine wpAnyE_take 12 (v := (.int .u32 u.n)) rfl (by kernel_rfl) (fun _ _ _ h => h) hI (fun w' hw' => Or.inl ⟨by kernel_rfl, Or.inl (by have y0 := cellL hw' hb (by simp) n2; go_simp)⟩) ?_
  refine wpAnyE_take 13 (v := (.slice (some ⟨b, off, none⟩) (r.length + 4) c)) rfl (by kernel_rfl) (fun _ _ _ h => h) hI (fun w' hw' => Or.inl ⟨by kernel_rfl, Or.inl (by go_simp)⟩) ?_
  refine wpAnyE_take 14 (v := (.pointer (some ⟨b, off + 12, none⟩))) rfl (by kernel_rfl) (fun _ _ _ h => h) hI (fun w' hw' => Or.inl ⟨by kernel_rfl, Or.inl (by go_simp; intro h7; exact absurd h7 (by omega))⟩) ?_
  refine wpAnyE_take 15 (v := (.pointer (some ⟨b, off + 12 + 1, none⟩))) rfl (by kernel_rfl) (fun _ _ _ h => h) hI (fun w' hw' => Or.inl ⟨by kernel_rfl, Or.inl (by go_simp)⟩) ?_
  refine wpAnyE_take 16 (v := (.int .u32 v.n)) rfl (by kernel_rfl) (fun _ _ _ h => h) hI (fun w' hw' => Or.inl ⟨by kernel_rfl, Or.inl (by have y0 := cellL hw' hb (by simp) n3; go_simp)⟩) ?_
  refine wpAnyE_take 17 (v := (.agg #[.int .u32 a.n, .int .u32 d.n, .int .u32 u.n, .int .u32 v.n])) rfl (by kernel_rfl) (fun _ _ _ h => h) hI (fun w' hw' => Or.inl ⟨by kernel_rfl, Or.inl (by go_simp)⟩) ?_
  refine wpAnyE_take 18 (v := (.pointer (some ⟨g, 0, none⟩))) rfl (by kernel_rfl) (fun _ _ _ h => h) hI (fun w' hw' => Or.inl ⟨by kernel_rfl, Or.inl (by go_simp)⟩) ?_
  refine wpAnyE_take 19 (v := (.pointer (some ⟨g, 0, none⟩))) rfl (by kernel_rfl) (fun _ _ _ h => h) hI (fun w' hw' => Or.inl ⟨by kernel_rfl, Or.inl (by go_simp)⟩) ?_
  refine wpAnyE_take 20 (v := (.pointer (some ⟨g, 4, none⟩))) rfl (by kernel_rfl) (fun _ _ _ h => h) hI (fun w' hw' => Or.inl ⟨by kernel_rfl, Or.inl (by go_simp)⟩) ?_
  refine wpAnyE_one 21 rfl (by kernel_rfl) hI (fun K hK => ?_)
  rw [if_pos (by kernel_rfl)]
  go_simp
  refine hK _ _ ?_
  clear hK K
  have hI := Only.setCell (p := ⟨g, 4, none⟩) hI (.inr hlt) (.int .u32 a.n)
  have hI := Only.setCell (p := ⟨g, 5, none⟩) hI (.inr hlt) (.int .u32 d.n)
  have hI := Only.setCell (p := ⟨g, 6, none⟩) hI (.inr hlt) (.int .u32 u.n)
  have hI := Only.setCell (p := ⟨g, 7, none⟩) hI (.inr hlt) (.int .u32 v.n)
  refine wpAnyE_end (by kernel_rfl) hI ?_
  (try simp only [Exit.inBlock, Exit.then])
  (try go_wp2_with fail)
  go_end0
  exact ⟨rfl, ((((((((((Only.refl [g] w).drew)).setCell (p := ⟨g, 4, none⟩) (.inl (by simp)) (.int .u32 a.n))).setCell (p := ⟨g, 5, none⟩) (.inl (by simp)) (.int .u32 d.n))).setCell (p := ⟨g, 6, none⟩) (.inl (by simp)) (.int .u32 u.n))).setCell (p := ⟨g, 7, none⟩) (.inl (by simp)) (.int .u32 v.n)), ((((hg.drew).set_ 4 (.int .u32 a.n)).set_ 5 (.int .u32 d.n)).set_ 6 (.int .u32 u.n)).set_ 7 (.int .u32 v.n)⟩
set_option maxRecDepth 100000 in
set_option maxHeartbeats 1600000 in
theorem putDeathR_any (m : RQ) (g : Nat) (w0 w : World) (A : Option Addr) (a d u v : FD) (r : List FD) (c : Nat) (hF : RdF w0 A (a :: d :: u :: v :: r)) (hO : Only [] w0 w) (hlt : w0.heap.size ≤ g) (hg : Blk w g 119 m.cells) : Calls Tryz.prog 91 #[.pointer (some ⟨g, 0, none⟩), .slice A (r.length + 4) c] w fun e w' => e = .returned (.tuple #[]) ∧ Only [g] w w' ∧ Blk w' g 119 (RQ.cells { m with text := strOfNums a.text, on := decide (d.n = 1), value := strOfNums u.text, lang := strOfNums v.text }) := by
  obtain ⟨on, hon⟩ : ∃ on, decide (d.n = 1) = on := ⟨_, rfl⟩
  rw [hon]
  have hon2 : (d.n == 1) = on := hon
  clear hon
  obtain ⟨b, off, rfl, hb, hc⟩ := hF.cells (by simp)
  have hbg : ¬ b = g := by omega
  have hgl := hg.lt
  obtain ⟨_, n0, t0, _⟩ := hc 0 a rfl
  simp only [Nat.zero_mul, Nat.one_mul, Nat.reduceMul, Nat.add_zero] at n0 t0
  obtain ⟨_, n1, t1, _⟩ := hc 1 d rfl
  simp only [Nat.zero_mul, Nat.one_mul, Nat.reduceMul, Nat.add_zero] at n1 t1
  obtain ⟨_, n2, t2, _⟩ := hc 2 u rfl
  simp only [Nat.zero_mul, Nat.one_mul, Nat.reduceMul, Nat.add_zero] at n2 t2
  obtain ⟨_, n3, t3, _⟩ := hc 3 v rfl
  simp only [Nat.zero_mul, Nat.one_mul, Nat.reduceMul, Nat.add_zero] at n3 t3
  have hI0 : Only [] w0 { w with drawn := w.drawn + 1 } := hO.drew
  have g1 : w.cell? ⟨g, 1, none⟩ = some (.string m.text) := hg.cell 1
  have z1 := hg.frozen 1
  have g9 : w.cell? ⟨g, 9, none⟩ = some (.bool m.on) := hg.cell 9
  have z9 := hg.frozen 9
  have g2 : w.cell? ⟨g, 2, none⟩ = some (.string m.value) := hg.cell 2
  have z2 := hg.frozen 2
  have g3 : w.cell? ⟨g, 3, none⟩ = some (.string m.lang) := hg.cell 3
  have z3 := hg.frozen 3
  have hsl : (0 : Int) ≤ (r.length : Int) := Int.natCast_nonneg _
  clear hc
  go_enter Tryz.func91, Tryz.ntmps91
  go_wp2_with fail
  have hI : (fun w' : World => Only [] w0 w') { w with drawn := w.drawn + 1 } := hI0
  refine wp_region_E (fun w' : World => Only [] w0 w') [] (by kernel_rfl) ?_
  refine wpAnyE_take 0 (v := (.pointer (some ⟨g, 0, none⟩))) rfl (by kernel_rfl) (fun _ _ _ h => h) hI (fun w' hw' => Or.inl ⟨by kernel_rfl, Or.inl (by go_simp)⟩) ?_
  refine wpAnyE_take 1 (v := (.pointer (some ⟨g, 0, none⟩))) rfl (by kernel_rfl) (fun _ _ _ h => h) hI (fun w' hw' => Or.inl ⟨by kernel_rfl, Or.inl (by go_simp)⟩) ?_
  refine wpAnyE_take 2 (v := (.pointer (some ⟨g, 0, none⟩))) rfl (by kernel_rfl) (fun _ _ _ h => h) hI (fun w' hw' => Or.inl ⟨by kernel_rfl, Or.inl (by go_simp)⟩) ?_
  refine wpAnyE_take 3 (v := (.pointer (some ⟨g, 0, none⟩))) rfl (by kernel_rfl) (fun _ _ _ h => h) hI (fun w' hw' => Or.inl ⟨by kernel_rfl, Or.inl (by go_simp)⟩) ?_
  refine wpAnyE_take 4 (v := (.slice (some ⟨b, off, none⟩) (r.length + 4) c)) rfl (by kernel_rfl) (fun _ _ _ h => h) hI (fun w' hw' => Or.inl ⟨by kernel_rfl, Or.inl (by go_simp)⟩) ?_
  refine wpAnyE_take 5 (v := (.pointer (some ⟨b, off, none⟩))) rfl (by kernel_rfl) (fun _ _ _ h => h) hI (fun w' hw' => Or.inl ⟨by kernel_rfl, Or.inl (by go_simp; intro h7; exact absurd h7 (by omega))⟩) ?_
  refine wpAnyE_take 6 (v := (.pointer (some ⟨b, off + 2, none⟩))) rfl (by kernel_rfl) (fun _ _ _ h => h) hI (fun w' hw' => Or.inl ⟨by kernel_rfl, Or.inl (by go_simp)⟩) ?_
  refine wpAnyE_take 7 (v := (.slice a.tA a.text.length a.tc)) rfl (by kernel_rfl) (fun _ _ _ h => h) hI (fun w' hw' => Or.inl ⟨by kernel_rfl, Or.inl (by have y0 := cellL hw' hb (by simp) t0; go_simp)⟩) ?_
  refine wpAnyE_take 8 (v := (.string (strOfNums a.text))) rfl (by kernel_rfl) (fun _ _ _ h => h) hI (fun w' hw' => Or.inl ⟨by kernel_rfl, Or.inl (by have kc := conv_rd (c := a.tc) ((hF.ok a (by simp)).1.text.only hw'); go_simp)⟩) ?_
  refine wpAnyE_take 9 (v := (.slice (some ⟨b, off, none⟩) (r.length + 4) c)) rfl (by kernel_rfl) (fun _ _ _ h => h) hI (fun w' hw' => Or.inl ⟨by kernel_rfl, Or.inl (by go_simp)⟩) ?_
  refine wpAnyE_take 10 (v := (.pointer (some ⟨b, off + 4, none⟩))) rfl (by kernel_rfl) (fun _ _ _ h => h) hI (fun w' hw' => Or.inl ⟨by kernel_rfl, Or.inl (by go_simp; intro h7; exact absurd h7 (by omega))⟩) ?_
  refine wpAnyE_take 11 (v := (.pointer (some ⟨b, off + 4 + 1, none⟩))) rfl (by kernel_rfl) (fun _ _ _ h => h) hI (fun w' hw' => Or.inl ⟨by kernel_rfl, Or.inl (by go_simp)⟩) ?_
  refine wpAnyE_take 12 (v := (.int .u32 d.n)) rfl (by kernel_rfl) (fun _ _ _ h => h) hI (fun w' hw' => Or.inl ⟨by kernel_rfl, Or.inl (by have y0 := cellL hw' hb (by simp) n1; go_simp)⟩) ?_
  refine wpAnyE_take 13 (v := (.bool on)) rfl (by kernel_rfl) (fun _ _ _ h => h) hI (fun w' hw' => Or.inl ⟨by kernel_rfl, Or.inl (by go_simp)⟩) ?_
  refine wpAnyE_take 14 (v := (.slice (some ⟨b, off, none⟩) (r.length + 4) c)) rfl (by kernel_rfl) (fun _ _ _ h => h) hI (fun w' hw' => Or.inl ⟨by kernel_rfl, Or.inl (by go_simp)⟩) ?_
  refine wpAnyE_take 15 (v := (.pointer (some ⟨b, off + 8, none⟩))) rfl (by kernel_rfl) (fun _ _ _ h => h) hI (fun w' hw' => Or.inl ⟨by kernel_rfl, Or.inl (by go_simp; intro h7; exact absurd h7 (by omega))⟩) ?_
  refine wpAnyE_take 16 (v := (.pointer (some ⟨b, off + 8 + 2, none⟩))) rfl (by kernel_rfl) (fun _ _ _ h => h) hI (fun w' hw' => Or.inl ⟨by kernel_rfl, Or.inl (by go_simp)⟩) ?_
  refine wpAnyE_take 17 (v := (.slice u.tA u.text.length u.tc)) rfl (by kernel_rfl) (fun _ _ _ h => h) hI (fun w' hw' => Or.inl ⟨by kernel_rfl, Or.inl (by have y0 := cellL hw' hb (by simp) t2; go_simp)⟩) ?_
  refine wpAnyE_take 18 (v := (.string (strOfNums u.text))) rfl (by kernel_rfl) (fun _ _ _ h => h) hI (fun w' hw' => Or.inl ⟨by kernel_rfl, Or.inl (by have kc := conv_rd (c := u.tc) ((hF.ok u (by simp)).1.text.only hw'); go_simp)⟩) ?_
  refine wpAnyE_take 19 (v := (.slice (some ⟨b, off, none⟩) (r.length + 4) c)) rfl (by kernel_rfl) (fun _ _ _ h => h) hI (fun w' hw' => Or.inl ⟨by kernel_rfl, Or.inl (by go_simp)⟩) ?_
  refine wpAnyE_take 20 (v := (.pointer (some ⟨b, off + 12, none⟩))) rfl (by kernel_rfl) (fun _ _ _ h => h) hI (fun w' hw' => Or.inl ⟨by kernel_rfl, Or.inl (by go_simp; intro h7; exact absurd h7 (by omega))⟩) ?_
  refine wpAnyE_take 21 (v := (.pointer (some ⟨b, off + 12 + 2, none⟩))) rfl (by kernel_rfl) (fun _ _ _ h => h) hI (fun w' hw' => Or.inl ⟨by kernel_rfl, Or.inl (by go_simp)⟩) ?_
  refine wpAnyE_take 22 (v := (.slice v.tA v.text.length v.tc)) rfl (by kernel_rfl) (fun _ _ _ h => h) hI (fun w' hw' => Or.inl ⟨by kernel_rfl, Or.inl (by have y0 := cellL hw' hb (by simp) t3; go_simp)⟩) ?_
  refine wpAnyE_take 23 (v := (.string (strOfNums v.text))) rfl (by kernel_rfl) (fun _ _ _ h => h) hI (fun w' hw' => Or.inl ⟨by kernel_rfl, Or.inl (by have kc := conv_rd (c := v.tc) ((hF.ok v (by simp)).1.text.only hw'); go_simp)⟩) ?_
  refine wpAnyE_take 24 (v := (.pointer (some ⟨g, 0, none⟩))) rfl (by kernel_rfl) (fun _ _ _ h => h) hI (fun w' hw' => Or.inl ⟨by kernel_rfl, Or.inl (by go_simp)⟩) ?_
  refine wpAnyE_take 25 (v := (.pointer (some ⟨g, 0, none⟩))) rfl (by kernel_rfl) (fun _ _ _ h => h) hI (fun w' hw' => Or.inl ⟨by kernel_rfl, Or.inl (by go_simp)⟩) ?_
  refine wpAnyE_take 26 (v := (.pointer (some ⟨g, 1, none⟩))) rfl (by kernel_rfl) (fun _ _ _ h => h) hI (fun w' hw' => Or.inl ⟨by kernel_rfl, Or.inl (by go_simp)⟩) ?_
  refine wpAnyE_one 27 rfl (by kernel_rfl) hI (fun K hK => ?_)
  rw [if_pos (by kernel_rfl)]
  go_simp
  refine hK _ _ ?_
  clear hK K
  have hI := Only.setCell (p := ⟨g, 1, none⟩) hI (.inr hlt) (.string (strOfNums a.text))
  refine wpAnyE_take 28 (v := (.pointer (some ⟨g, 0, none⟩))) rfl (by kernel_rfl) (fun _ _ _ h => h) hI (fun w' hw' => Or.inl ⟨by kernel_rfl, Or.inl (by go_simp)⟩) ?_
  refine wpAnyE_take 29 (v := (.pointer (some ⟨g, 0, none⟩))) rfl (by kernel_rfl) (fun _ _ _ h => h) hI (fun w' hw' => Or.inl ⟨by kernel_rfl, Or.inl (by go_simp)⟩) ?_
  refine wpAnyE_take 30 (v := (.pointer (some ⟨g, 9, none⟩))) rfl (by kernel_rfl) (fun _ _ _ h => h) hI (fun w' hw' => Or.inl ⟨by kernel_rfl, Or.inl (by go_simp)⟩) ?_
  refine wpAnyE_one 31 rfl (by kernel_rfl) hI (fun K hK => ?_)
  rw [if_pos (by kernel_rfl)]
  go_simp
  refine hK _ _ ?_
  clear hK K
  have hI := Only.setCell (p := ⟨g, 9, none⟩) hI (.inr hlt) (.bool on)
  refine wpAnyE_take 32 (v := (.pointer (some ⟨g, 0, none⟩))) rfl (by kernel_rfl) (fun _ _ _ h => h) hI (fun w' hw' => Or.inl ⟨by kernel_rfl, Or.inl (by go_simp)⟩) ?_
  refine wpAnyE_take 33 (v := (.pointer (some ⟨g, 0, none⟩))) rfl (by kernel_rfl) (fun _ _ _ h => h) hI (fun w' hw' => Or.inl ⟨by kernel_rfl, Or.inl (by go_simp)⟩) ?_
  refine wpAnyE_take 34 (v := (.pointer (some ⟨g, 2, none⟩))) rfl (by kernel_rfl) (fun _ _ _ h => h) hI (fun w' hw' => Or.inl ⟨by kernel_rfl, Or.inl (by go_simp)⟩) ?_
  refine wpAnyE_one 35 rfl (by kernel_rfl) hI (fun K hK => ?_)
  rw [if_pos (by kernel_rfl)]
  go_simp
  refine hK _ _ ?_
  clear hK K
  have hI := Only.setCell (p := ⟨g, 2, none⟩) hI (.inr hlt) (.string (strOfNums u.text))
  refine wpAnyE_take 36 (v := (.pointer (some ⟨g, 0, none⟩))) rfl (by kernel_rfl) (fun _ _ _ h => h) hI (fun w' hw' => Or.inl ⟨by kernel_rfl, Or.inl (by go_simp)⟩) ?_
  refine wpAnyE_take 37 (v := (.pointer (some ⟨g, 0, none⟩))) rfl (by kernel_rfl) (fun _ _ _ h => h) hI (fun w' hw' => Or.inl ⟨by kernel_rfl, Or.inl (by go_simp)⟩) ?_
  refine wpAnyE_take 38 (v := (.pointer (some ⟨g, 3, none⟩))) rfl (by kernel_rfl) (fun _ _ _ h => h) hI (fun w' hw' => Or.inl ⟨by kernel_rfl, Or.inl (by go_simp)⟩) ?_
  refine wpAnyE_one 39 rfl (by kernel_rfl) hI (fun K hK => ?_)
  rw [if_pos (by kernel_rfl)]
  go_simp
  refine hK _ _ ?_
  clear hK K
  have hI := Only.setCell (p := ⟨g, 3, none⟩) hI (.inr hlt) (.string (strOfNums v.text))
  refine wpAnyE_end (by kernel_rfl) hI ?_
  (try simp only [Exit.inBlock, Exit.then])
  (try go_wp2_with fail)
  go_end0
  exact ⟨rfl, ((((((((((Only.refl [g] w).drew)).setCell (p := ⟨g, 1, none⟩) (.inl (by simp)) (.string (strOfNums a.text)))).setCell (p := ⟨g, 9, none⟩) (.inl (by simp)) (.bool on))).setCell (p := ⟨g, 2, none⟩) (.inl (by simp)) (.string (strOfNums u.text)))).setCell (p := ⟨g, 3, none⟩) (.inl (by simp)) (.string (strOfNums v.text))), ((((hg.drew).set_ 1 (.string (strOfNums a.text))).set_ 9 (.bool on)).set_ 2 (.string (strOfNums u.text))).set_ 3 (.string (strOfNums v.text))⟩
set_option maxRecDepth 100000 in
set_option maxHeartbeats 1600000 in
theorem putPtyR_any (m : RQ) (g : Nat) (w0 w : World) (A : Option Addr) (a b1 c1 d1 e1 f1 : FD) (r : List FD) (c : Nat) (hF : RdF w0 A (a :: b1 :: c1 :: d1 :: e1 :: f1 :: r)) (hO : Only [] w0 w) (hlt : w0.heap.size ≤ g) (hg : Blk w g 119 m.cells) (h6 : r.length + 6 ≤ c) (hcm : c ≤ maxLen) : Calls Tryz.prog 72 #[.pointer (some ⟨g, 0, none⟩), .slice A (r.length + 6) c] w fun e w' => e = .returned (.tuple #[]) ∧ Only [g] w w' ∧ Blk w' g 119 (RQ.cells { m with text := strOfNums a.text, cols := b1.n, rows := c1.n, width := d1.n, height := e1.n, mA := f1.tA, mc := f1.tc, modes := f1.text }) := by
  have TX := putTextR_any m g w0 w A a (b1 :: c1 :: d1 :: e1 :: f1 :: r) c hF hO hlt hg
  obtain ⟨b, off, rfl, hb, hc⟩ := hF.cells (by simp)
  have hF2 : RdF w0 (some ⟨b, off + 4, none⟩) (b1 :: c1 :: d1 :: e1 :: f1 :: r) := ⟨fun _ => ⟨b, off + 4, rfl, hb, fun i f hi => by
    have := hc (i + 1) f (by simpa using hi)
    rw [show off + (i + 1) * 4 = off + 4 + i * 4 by omega] at this
    exact this⟩, fun f hf => hF.ok f (List.mem_cons_of_mem _ hf)⟩
  obtain ⟨_, _, t5, _⟩ := hc 5 f1 rfl
  simp only [Nat.reduceMul] at t5
  rw [show (b1 :: c1 :: d1 :: e1 :: f1 :: r).length + 1 = r.length + 6 by simp] at TX
  have i1 : (1 : Int) ≤ (r.length : Int) + 6 := by omega
  have i2 : (1 : Int) < (c : Int) := by omega
  have i3 : ((r.length : Int) + 6) ≤ (c : Int) := by omega
  have i5 : (5 : Int) < (r.length : Int) + 6 := by omega
  clear hc
  go_enter Tryz.func72, Tryz.ntmps72
  go_wp2_with fail
  go_call TX as e w1 ⟨rfl, P1, K1⟩
  clear TX
  have O1 : Only [] w0 w1 := hO.trans P1 (fun x hx => .inr (by simp at hx; omega))
  have TS := putSizeR_any _ g w0 w1 _ b1 c1 d1 e1 (f1 :: r) (c - 1) hF2 O1 hlt K1
  rw [show (f1 :: r).length + 4 = r.length + 5 by simp] at TS
  go_wp2_with fail
  go_call TS as e w2 ⟨rfl, P2, K2⟩
  clear TS
  have O2 : Only [] w0 w2 := O1.trans P2 (fun x hx => .inr (by simp at hx; omega))
  have t5 := cellL O2 hb (by simp) t5
  have c8 := K2.cell 8
  have z8 := K2.frozen 8
  have hb2 := K2.set_ 8 (.slice f1.tA f1.text.length f1.tc)
  have hO2 : Only [g] w (w2.setCell ⟨g, 8, none⟩ (.slice f1.tA f1.text.length f1.tc)) := ((P1.trans P2 (fun x hx => .inl hx)).setCell (p := ⟨g, 8, none⟩) (.inl (by simp)) _)
  go_wp2
  go_end0
  exact ⟨rfl, hO2, hb2⟩
end Go.Proofs.YtdplnedpbkpgpaaGreatDoor

namespace Go.Proofs.YtdplnedpbkpgpaaGreatDoor
set_option linter.all false
open Go.RowKit

/-- What gets, of a kind. -/
theorem rget_any (k : Nat) (h1 : 1 ≤ k) (h2 : k ≤ 10) : ∃ F : FuncId, rget k = F ∧ (∀ (args : Array Value) (w : World), (callFunc F args).run Tryz.prog w = .ok (.enter F args) w) ∧
    ∀ (w : World) (m : RQ) (g : Nat), Blk w g 119 m.cells → m.ok w → m.text.size ≤ 140737488355328 → m.value.size ≤ 140737488355328 → m.lang.size ≤ 140737488355328 → Calls Tryz.prog F #[.pointer (some ⟨g, 0, none⟩)] w (GetsPost w (partsR m k)) := by
  rcases k10 h1 h2 with rfl | rfl | rfl | rfl | rfl | rfl | rfl | rfl | rfl | rfl
  · exact ⟨_, rfl, fun args w => by kernel_rfl, fun w m g hg hm hs hv hl => getPtyR_any m g w hg hm hs⟩
  · exact ⟨_, rfl, fun args w => by kernel_rfl, fun w m g hg hm hs hv hl => getEnvR_any m g w hg hs hv⟩
  · exact ⟨_, rfl, fun args w => by kernel_rfl, fun w m g hg hm hs hv hl => getNoneR_any m g w hg⟩
  · exact ⟨_, rfl, fun args w => by kernel_rfl, fun w m g hg hm hs hv hl => getTextR_any m g w hg hs⟩
  · exact ⟨_, rfl, fun args w => by kernel_rfl, fun w m g hg hm hs hv hl => getTextR_any m g w hg hs⟩
  · exact ⟨_, rfl, fun args w => by kernel_rfl, fun w m g hg hm hs hv hl => getSizeR_any m g w hg hm.nums⟩
  · exact ⟨_, rfl, fun args w => by kernel_rfl, fun w m g hg hm hs hv hl => getOnR_any m g w hg⟩
  · exact ⟨_, rfl, fun args w => by kernel_rfl, fun w m g hg hm hs hv hl => getTextR_any m g w hg hs⟩
  · exact ⟨_, rfl, fun args w => by kernel_rfl, fun w m g hg hm hs hv hl => getCodeR_any m g w hg hm.nums.2.2.2.2⟩
  · exact ⟨_, rfl, fun args w => by kernel_rfl, fun w m g hg hm hs hv hl => getDeathR_any m g w hg hs hv hl⟩
def PutsPost (g : Nat) (w : World) (m : RQ) : Ending → World → Prop := fun e w' => e = .returned (.tuple #[]) ∧ Only [g] w w' ∧ Blk w' g 119 m.cells
theorem len_kinds {fs : List FD} {k : Nat} (h : fs.map (fun f => f.pf.kind) = rkinds k) : fs.length = (rkinds k).length := by rw [← h, List.length_map]
/-- What puts, of a kind. -/
theorem rput_any (k : Nat) (h1 : 1 ≤ k) (h2 : k ≤ 10) : ∃ F : FuncId, rput k = F ∧ (∀ (args : Array Value) (w : World), (callFunc F args).run Tryz.prog w = .ok (.enter F args) w) ∧
    ∀ (m : RQ) (g : Nat) (w0 w : World) (A : Option Addr) (fs : List FD) (n c : Nat), fs.length = n → fs.map (fun f => f.pf.kind) = rkinds k → n ≤ c → c ≤ maxLen → RdF w0 A fs → Only [] w0 w → w0.heap.size ≤ g → Blk w g 119 m.cells → Calls Tryz.prog F #[.pointer (some ⟨g, 0, none⟩), .slice A n c] w (PutsPost g w (putR m k fs)) := by
  rcases k10 h1 h2 with rfl | rfl | rfl | rfl | rfl | rfl | rfl | rfl | rfl | rfl
  · refine ⟨_, rfl, fun args w => by kernel_rfl, fun m g w0 w A fs n c hn hk hc hcm hF hO hlt hg => ?_⟩
    obtain ⟨x1, x2, x3, x4, x5, x6, rfl, _⟩ := ks6 hk
    subst hn
    exact putPtyR_any m g w0 w A x1 x2 x3 x4 x5 x6 [] c hF hO hlt hg hc hcm
  · refine ⟨_, rfl, fun args w => by kernel_rfl, fun m g w0 w A fs n c hn hk hc hcm hF hO hlt hg => ?_⟩
    obtain ⟨x1, x2, rfl, _⟩ := ks2 hk
    subst hn
    exact putEnvR_any m g w0 w A x1 x2 [] c hF hO hlt hg
  · refine ⟨_, rfl, fun args w => by kernel_rfl, fun m g w0 w A fs n c hn hk hc hcm hF hO hlt hg => ?_⟩
    obtain rfl : fs = [] := List.eq_nil_of_length_eq_zero (len_kinds hk)
    subst hn
    exact putNoneR_any m g w _ hg
  · refine ⟨_, rfl, fun args w => by kernel_rfl, fun m g w0 w A fs n c hn hk hc hcm hF hO hlt hg => ?_⟩
    obtain ⟨x1, rfl, _⟩ := ks1 hk
    subst hn
    exact putTextR_any m g w0 w A x1 [] c hF hO hlt hg
  · refine ⟨_, rfl, fun args w => by kernel_rfl, fun m g w0 w A fs n c hn hk hc hcm hF hO hlt hg => ?_⟩
    obtain ⟨x1, rfl, _⟩ := ks1 hk
    subst hn
    exact putTextR_any m g w0 w A x1 [] c hF hO hlt hg
  · refine ⟨_, rfl, fun args w => by kernel_rfl, fun m g w0 w A fs n c hn hk hc hcm hF hO hlt hg => ?_⟩
    obtain ⟨x1, x2, x3, x4, rfl, _⟩ := ks4 hk
    subst hn
    exact putSizeR_any m g w0 w A x1 x2 x3 x4 [] c hF hO hlt hg
  · refine ⟨_, rfl, fun args w => by kernel_rfl, fun m g w0 w A fs n c hn hk hc hcm hF hO hlt hg => ?_⟩
    obtain ⟨x1, rfl, _⟩ := ks1 hk
    subst hn
    exact putOnR_any m g w0 w A x1 [] c hF hO hlt hg
  · refine ⟨_, rfl, fun args w => by kernel_rfl, fun m g w0 w A fs n c hn hk hc hcm hF hO hlt hg => ?_⟩
    obtain ⟨x1, rfl, _⟩ := ks1 hk
    subst hn
    exact putTextR_any m g w0 w A x1 [] c hF hO hlt hg
  · refine ⟨_, rfl, fun args w => by kernel_rfl, fun m g w0 w A fs n c hn hk hc hcm hF hO hlt hg => ?_⟩
    obtain ⟨x1, rfl, _⟩ := ks1 hk
    subst hn
    exact putCodeR_any m g w0 w A x1 [] c hF hO hlt hg
  · refine ⟨_, rfl, fun args w => by kernel_rfl, fun m g w0 w A fs n c hn hk hc hcm hF hO hlt hg => ?_⟩
    obtain ⟨x1, x2, x3, x4, rfl, _⟩ := ks4 hk
    subst hn
    exact putDeathR_any m g w0 w A x1 x2 x3 x4 [] c hF hO hlt hg
end Go.Proofs.YtdplnedpbkpgpaaGreatDoor

namespace Go.Proofs.YtdplnedpbkpgpaaGreatDoor
set_option linter.all false
open Go.RowKit

/-- Two results, the first one in memory. -/
theorem ret_row_tmp {P : Program} {fn : Func} {p t : Tmp} {T : TypeId} {R : Ending → World → Prop} {a : Act} {w : World} {g : Nat} {d : TypeDesc} (cs : Array Value) (h : fn.results = #[.cell p T, .tmp t]) (hp : a.tmps.getD p undef = .pointer (some ⟨g, 0, none⟩)) (hd : a.defers = [])
    (hg : w.heap[g]? = some (.cells cs T (0, 0))) (hu : P.underlying T = some d) (hk : (match d with | .struct _ | .array _ _ => true | _ => false) = true) (hs : (P.info? T).map (·.size) = some cs.size)
    (hR : R (.returned (.tuple #[.agg cs, a.tmps.getD t undef])) w) : bodyPost P fn R .ret a w := by
  refine bodyPost_ret (v := .tuple #[.agg cs, a.tmps.getD t undef]) ?_ hd hR
  have hp' : a.tmps[p]?.getD undef = .pointer (some ⟨g, 0, none⟩) := by simpa using hp
  simp [results, h, hp', asAddr, run_loadVar_row (P := P) w g T T cs (0, 0) d hg hu hk hs]
def ruleV (k : Nat) (KA : Option Addr) : Value := .agg #[.string (rname k), .slice KA (rkinds k).length (rkinds k).length, rfn (rget k), rfn (rput k), rfn (rask k)]
/-- A rule handed on. -/
def RulePost (w : World) (k : Nat) : Ending → World → Prop := fun e w' => Only [] w w' ∧ ∃ KA : Option Addr, e = .returned (.tuple #[ruleV k KA, .bool true]) ∧ RdI w' KA (rkinds k)
theorem rule_index (q k : Nat) (h1 : 1 ≤ k) (h2 : k ≤ 10) (w : World) : (Instr.index 133 (.agg (rtab q)) (.int .i64 (k : Int))).run Tryz.prog w = .ok (ruleV k (kaddr q k)) w := by
  rcases k10 h1 h2 with rfl | rfl | rfl | rfl | rfl | rfl | rfl | rfl | rfl | rfl <;> kernel_rfl
def zrule : Array Value := #[.string ⟨#[]⟩, .slice none 0 0, .nilFunc, .nilFunc, .nilFunc]
theorem rule_row {w : World} {g : Nat} {t : TypeId} {a0 a1 a2 a3 a4 b0 b1 b2 b3 b4 : Value} (h : Blk w g t [a0, a1, a2, a3, a4]) : Blk (((((w.setCell ⟨g, 0, none⟩ b0).setCell ⟨g, 1, none⟩ b1).setCell ⟨g, 2, none⟩ b2).setCell ⟨g, 3, none⟩ b3).setCell ⟨g, 4, none⟩ b4) g t [b0, b1, b2, b3, b4] := (((((h.set_ 0 b0).set_ 1 b1).set_ 2 b2).set_ 3 b3).set_ 4 b4)
theorem rule_only {L : List Nat} {w0 w : World} {g : Nat} {b0 b1 b2 b3 b4 : Value} (hg : g ∈ L ∨ w0.heap.size ≤ g) (h : Only L w0 w) : Only L w0 (((((w.setCell ⟨g, 0, none⟩ b0).setCell ⟨g, 1, none⟩ b1).setCell ⟨g, 2, none⟩ b2).setCell ⟨g, 3, none⟩ b3).setCell ⟨g, 4, none⟩ b4) :=
  (((((h.setCell (p := ⟨g, 0, none⟩) hg _).setCell (p := ⟨g, 1, none⟩) hg _).setCell (p := ⟨g, 2, none⟩) hg _).setCell (p := ⟨g, 3, none⟩) hg _).setCell (p := ⟨g, 4, none⟩) hg _)
set_option maxRecDepth 100000 in
set_option maxHeartbeats 1600000 in
theorem rof_any (k : Nat) (h1 : 1 ≤ k) (h2 : k ≤ 10) (w : World) : Calls Tryz.prog 41 #[.int .i64 (k : Int)] w (RulePost w k) := by
  have i1 : ¬ (k : Int) < 1 := by omega
  have i2 : ¬ (10 : Int) < (k : Int) := by omega
  obtain ⟨w1, hw1⟩ : ∃ w1, w1 = w.alloc (.cells #[.string ⟨#[]⟩, .slice none 0 0, .nilFunc, .nilFunc, .nilFunc] 114) := ⟨_, rfl⟩
  have P1 : Only [] w w1 := by rw [hw1]; exact (Only.refl _ _).alloc _
  have K1 : Blk w1 w.heap.size 114 [.string ⟨#[]⟩, .slice none 0 0, .nilFunc, .nilFunc, .nilFunc] := by rw [hw1]; exact Blk.new w _ _
  have RU := rules_any w1
  have hix := fun w' => rule_index w1.heap.size k h1 h2 w'
  unfold ruleV rfn at hix
  obtain ⟨KA, hKA⟩ : ∃ KA, kaddr w1.heap.size k = KA := ⟨_, rfl⟩
  obtain ⟨tb, htb⟩ : ∃ tb, rtab w1.heap.size = tb := ⟨_, rfl⟩
  obtain ⟨nm, hnm⟩ : ∃ nm, rname k = nm := ⟨_, rfl⟩
  obtain ⟨n, hn⟩ : ∃ n, (rkinds k).length = n := ⟨_, rfl⟩
  obtain ⟨F1, hF1⟩ : ∃ F, rget k = F := ⟨_, rfl⟩
  obtain ⟨F2, hF2⟩ : ∃ F, rput k = F := ⟨_, rfl⟩
  obtain ⟨F3, hF3⟩ : ∃ F, rask k = F := ⟨_, rfl⟩
  rw [hKA, htb, hnm, hn, hF1, hF2, hF3] at hix
  rw [htb] at RU
  have hv : ruleV k KA = .agg #[.string nm, .slice KA n n, .func (Fn.func F1) #[] #[], .func (Fn.func F2) #[] #[], .func (Fn.func F3) #[] #[]] := by unfold ruleV rfn; rw [hnm, hn, hF1, hF2, hF3]
  replace hv := hide hv
  replace hKA := hide hKA
  replace htb := hide htb
  replace hnm := hide hnm
  replace hn := hide hn
  replace hF1 := hide hF1
  replace hF2 := hide hF2
  replace hF3 := hide hF3
  go_enter Tryz.func41, Tryz.ntmps41
  go_wp2_with fail
  rw [← hw1]
  replace hw1 := hide hw1
  go_call RU as e w2 ⟨rfl, P2, z2, R2⟩
  clear RU
  have R2 := R2 k h1 h2
  rw [hKA.out] at R2
  replace z2 := hide z2
  have K2 := K1.only P2 (by simp)
  have c0 := K2.cell 0
  have c1 := K2.cell 1
  have c2 := K2.cell 2
  have c3 := K2.cell 3
  have c4 := K2.cell 4
  have f0 := K2.frozen 0
  have f1 := K2.frozen 1
  have f2 := K2.frozen 2
  have f3 := K2.frozen 3
  have f4 := K2.frozen 4
  simp only [List.getElem?_cons_zero, List.getElem?_cons_succ] at c0 c1 c2 c3 c4
  go_wp2_with fail
  (try simp only [Exit.inBlock, Exit.then])
  refine ret_row_tmp #[.string nm, .slice KA n n, .func (Fn.func F1) #[] #[], .func (Fn.func F2) #[] #[], .func (Fn.func F3) #[] #[]] rfl (by rfl) (by rfl) (rule_row K2) Tryz.underlying114 rfl (by kernel_rfl) ?_
  have O3 := rule_only (L := []) (w0 := w) (g := w.heap.size) (b0 := .string nm) (b1 := .slice KA n n) (b2 := .func (Fn.func F1) #[] #[]) (b3 := .func (Fn.func F2) #[] #[]) (b4 := .func (Fn.func F3) #[] #[]) (.inr (Nat.le_refl _)) (P1.trans P2 (by simp))
  have O4 := rule_only (L := [w.heap.size]) (w0 := w2) (w := w2) (g := w.heap.size) (b0 := .string nm) (b1 := .slice KA n n) (b2 := .func (Fn.func F1) #[] #[]) (b3 := .func (Fn.func F2) #[] #[]) (b4 := .func (Fn.func F3) #[] #[]) (.inl (by simp)) (Only.refl _ _)
  refine ⟨O3, KA, by rw [hv.out]; rfl, RdG.onlyL R2 O4 (fun a ha h0 => ?_)⟩
  rw [← hKA.out] at ha
  have := K1.lt
  unfold kaddr at ha
  split at ha
  · cases ha
  · injection ha with ha
    rw [← ha]
    simp
    omega
set_option maxRecDepth 100000 in
set_option maxHeartbeats 1600000 in
theorem rof_none (k : Int) (h : ¬ (1 ≤ k ∧ k ≤ 10)) (w : World) : Calls Tryz.prog 41 #[.int .i64 k] w fun e w' => Only [] w w' ∧ e = .returned (.tuple #[.agg #[.string ⟨#[]⟩, .slice none 0 0, .nilFunc, .nilFunc, .nilFunc], .bool false]) := by
  have K1 : Blk (w.alloc (.cells #[.string ⟨#[]⟩, .slice none 0 0, .nilFunc, .nilFunc, .nilFunc] 114)) w.heap.size 114 [.string ⟨#[]⟩, .slice none 0 0, .nilFunc, .nilFunc, .nilFunc] := Blk.new w _ _
  have O1 : Only [] w (w.alloc (.cells #[.string ⟨#[]⟩, .slice none 0 0, .nilFunc, .nilFunc, .nilFunc] 114)) := (Only.refl _ _).alloc _
  by_cases h1 : k < 1
  · clear h
    go_enter Tryz.func41, Tryz.ntmps41
    go_wp2_with fail
    (try simp only [Exit.inBlock, Exit.then])
    refine ret_row_tmp #[.string ⟨#[]⟩, .slice none 0 0, .nilFunc, .nilFunc, .nilFunc] rfl (by rfl) (by rfl) K1 Tryz.underlying114 rfl (by kernel_rfl) ?_
    exact ⟨O1, rfl⟩
  · have h2 : 10 < k := by omega
    clear h
    go_enter Tryz.func41, Tryz.ntmps41
    go_wp2_with fail
    (try simp only [Exit.inBlock, Exit.then])
    refine ret_row_tmp #[.string ⟨#[]⟩, .slice none 0 0, .nilFunc, .nilFunc, .nilFunc] rfl (by rfl) (by rfl) K1 Tryz.underlying114 rfl (by kernel_rfl) ?_
    exact ⟨O1, rfl⟩
end Go.Proofs.YtdplnedpbkpgpaaGreatDoor

namespace Go.Proofs.YtdplnedpbkpgpaaGreatDoor
set_option linter.all false
open Go.RowKit

theorem index_mem (c : UInt8) : ∀ l : List UInt8, decide (0 ≤ Lib.indexByte l c) = decide (c ∈ l)
  | [] => by simp [Lib.indexByte]
  | b :: l => by
    have ih := index_mem c l
    have hge := Lib.indexByte_ge l c
    unfold Lib.indexByte
    by_cases hb : b = c
    · subst hb; simp
    · have hcb : ¬ c = b := fun e => hb e.symm
      rw [if_neg (by simpa using hb)]
      by_cases h1 : Lib.indexByte l c = -1
      · rw [h1] at ih ⊢
        simp [hcb] at ih ⊢
        exact ih
      · rw [if_neg (by simpa using h1)]
        have h0 : 0 ≤ Lib.indexByte l c := by omega
        rw [decide_eq_true h0] at ih
        rw [decide_eq_true (show 0 ≤ Lib.indexByte l c + 1 by omega)]
        have := of_decide_eq_true ih.symm
        simp [this]
theorem rhas_any (s : ByteArray) (w : World) : Calls Tryz.prog 133 #[.string s, .string ⟨#[61]⟩] w fun e w' => e = .returned (.bool (hasEq s)) ∧ w = w' :=
  (Tryz.strings_Contains_one s 61 w).mono fun e w' ⟨h1, h2⟩ => ⟨by rw [h1, index_mem]; rfl, h2.symm⟩
section
variable (m : RQ) (g : Nat) (w : World)
theorem askNoneR_any : Calls Tryz.prog 79 #[.pointer (some ⟨g, 0, none⟩)] w fun e w' => e = .returned (.int .i64 0) ∧ Only [] w w' := by
  go_enter Tryz.func79, Tryz.ntmps79
  go_wp2
  go_ret
  exact ⟨rfl, Only.refl _ _⟩
set_option maxRecDepth 100000 in
set_option maxHeartbeats 1600000 in
theorem askWordR_any (hg : Blk w g 119 m.cells) (hm : m.ok w) : Calls Tryz.prog 83 #[.pointer (some ⟨g, 0, none⟩)] w fun e w' => e = .returned (.int .i64 (wordE m.text 1)) ∧ Only [] w w' := by
  have c1 : w.cell? ⟨g, 1, none⟩ = some (.string m.text) := hg.cell 1
  have T := rword_any m.text 1 w hm.text
  go_enter Tryz.func83, Tryz.ntmps83
  go_wp2_with fail
  go_call T as e x ⟨rfl, rfl⟩
  clear T
  go_wp2_with fail
  go_ret
  exact ⟨rfl, Only.refl _ _⟩
set_option maxRecDepth 100000 in
set_option maxHeartbeats 1600000 in
theorem askExecR_any (hg : Blk w g 119 m.cells) (hm : m.ok w) : Calls Tryz.prog 82 #[.pointer (some ⟨g, 0, none⟩)] w fun e w' => e = .returned (.int .i64 (longE m.text.size)) ∧ Only [] w w' := by
  have c1 : w.cell? ⟨g, 1, none⟩ = some (.string m.text) := hg.cell 1
  have T := rlong_any m.text.size w
  go_enter Tryz.func82, Tryz.ntmps82
  go_wp2_with fail
  go_call T as e x ⟨rfl, rfl⟩
  clear T
  go_wp2_with fail
  go_ret
  exact ⟨rfl, Only.refl _ _⟩
set_option maxRecDepth 100000 in
set_option maxHeartbeats 1600000 in
theorem askPtyR_any (hg : Blk w g 119 m.cells) (hm : m.ok w) : Calls Tryz.prog 73 #[.pointer (some ⟨g, 0, none⟩)] w fun e w' => e = .returned (.int .i64 (firstE [wordE m.text 0, longE m.modes.length])) ∧ Only [] w w' := by
  have hlt := hg.lt
  go_enter Tryz.func73, Tryz.ntmps73
  go_wp2_with fail
  have hI : (fun w' : World => Blk w' g 119 m.cells) { w with drawn := w.drawn + 1 } := hg
  refine wp_region_E (fun w' : World => Blk w' g 119 m.cells) [] (by kernel_rfl) ?_
  refine wpAnyE_take 0 (v := (.pointer (some ⟨g, 0, none⟩))) rfl (by kernel_rfl) (fun _ _ _ h => h) hI (fun w' hw' => Or.inl ⟨by kernel_rfl, Or.inl (by go_simp)⟩) ?_
  refine wpAnyE_take 1 (v := (.pointer (some ⟨g, 0, none⟩))) rfl (by kernel_rfl) (fun _ _ _ h => h) hI (fun w' hw' => Or.inl ⟨by kernel_rfl, Or.inl (by go_simp)⟩) ?_
  refine wpAnyE_take 2 (v := (.pointer (some ⟨g, 0, none⟩))) rfl (by kernel_rfl) (fun _ _ _ h => h) hI (fun w' hw' => Or.inl ⟨by kernel_rfl, Or.inl (by go_simp)⟩) ?_
  refine wpAnyE_take 3 (v := (.pointer (some ⟨g, 1, none⟩))) rfl (by kernel_rfl) (fun _ _ _ h => h) hI (fun w' hw' => Or.inl ⟨by kernel_rfl, Or.inl (by go_simp)⟩) ?_
  refine wpAnyE_take 4 (v := (.string m.text)) rfl (by kernel_rfl) (fun _ _ _ h => h) hI (fun w' hw' => Or.inl ⟨by kernel_rfl, Or.inl (by have y0 : w'.cell? ⟨g, 1, none⟩ = some (.string m.text) := hw'.cell 1; go_simp)⟩) ?_
  refine wpAnyE_take 6 (v := (.pointer (some ⟨g, 0, none⟩))) rfl (by kernel_rfl) (fun _ _ _ h => h) hI (fun w' hw' => Or.inl ⟨by kernel_rfl, Or.inl (by go_simp)⟩) ?_
  refine wpAnyE_take 7 (v := (.pointer (some ⟨g, 0, none⟩))) rfl (by kernel_rfl) (fun _ _ _ h => h) hI (fun w' hw' => Or.inl ⟨by kernel_rfl, Or.inl (by go_simp)⟩) ?_
  refine wpAnyE_take 8 (v := (.pointer (some ⟨g, 0, none⟩))) rfl (by kernel_rfl) (fun _ _ _ h => h) hI (fun w' hw' => Or.inl ⟨by kernel_rfl, Or.inl (by go_simp)⟩) ?_
  refine wpAnyE_take 9 (v := (.pointer (some ⟨g, 8, none⟩))) rfl (by kernel_rfl) (fun _ _ _ h => h) hI (fun w' hw' => Or.inl ⟨by kernel_rfl, Or.inl (by go_simp)⟩) ?_
  refine wpAnyE_take 10 (v := (.slice m.mA m.modes.length m.mc)) rfl (by kernel_rfl) (fun _ _ _ h => h) hI (fun w' hw' => Or.inl ⟨by kernel_rfl, Or.inl (by have y0 : w'.cell? ⟨g, 8, none⟩ = some (.slice m.mA m.modes.length m.mc) := hw'.cell 8; go_simp)⟩) ?_
  refine wpAnyE_take 11 (v := (.int .i64 (m.modes.length : Int))) rfl (by kernel_rfl) (fun _ _ _ h => h) hI (fun w' hw' => Or.inl ⟨by kernel_rfl, Or.inl (by go_simp)⟩) ?_
  have T := rword_any m.text 0 w.drew hm.text
  refine wpAnyE_one 5 rfl (by kernel_rfl) hI (fun K hK => ?_)
  rw [if_pos (by kernel_rfl)]
  go_simp
  go_call T as e x ⟨rfl, rfl⟩
  clear T
  refine hK _ _ ?_
  clear hK K
  have T := rlong_any (m.modes.length) w.drew
  refine wpAnyE_one 12 rfl (by kernel_rfl) hI (fun K hK => ?_)
  rw [if_pos (by kernel_rfl)]
  go_simp
  go_call T as e x ⟨rfl, rfl⟩
  clear T
  refine hK _ _ ?_
  clear hK K
  refine wpAnyE_one 13 rfl (by kernel_rfl) hI (fun K hK => ?_)
  rw [if_pos (by kernel_rfl)]
  go_simp
  refine hK _ _ ?_
  clear hK K
  have PL : Only [] w ((w.alloc (.cells #[.int .i64 (wordE m.text 0), .int .i64 (longE m.modes.length)] 65)).drew) := ((Only.refl [] w).alloc _).drew
  have hIL : (fun w' : World => Blk w' g 119 m.cells) ((w.alloc (.cells #[.int .i64 (wordE m.text 0), .int .i64 (longE m.modes.length)] 65)).drew) := hg.only PL (by simp)
  have RL : RdI ((w.alloc (.cells #[.int .i64 (wordE m.text 0), .int .i64 (longE m.modes.length)] 65)).drew) (some ⟨w.heap.size, 0, none⟩) [(wordE m.text 0), (longE m.modes.length)] := rdI_blk (Blk.new w 65 ([(wordE m.text 0), (longE m.modes.length)].map (.int .i64)))
  have T := rfirst_any (some ⟨w.heap.size, 0, none⟩) [(wordE m.text 0), (longE m.modes.length)] 2 _ RL (by simp [maxLen])
  refine wpAnyE_one 14 rfl (by kernel_rfl) hIL (fun K hK => ?_)
  rw [if_pos (by kernel_rfl)]
  go_simp
  go_call T as e x ⟨rfl, rfl⟩
  clear T
  refine hK _ _ ?_
  clear hK K
  refine wpAnyE_take 15 (v := (.int .i64 (firstE [(wordE m.text 0), (longE m.modes.length)]))) rfl (by kernel_rfl) (fun _ _ _ h => h) hIL (fun w' hw' => Or.inl ⟨by kernel_rfl, Or.inl (by go_simp)⟩) ?_
  refine wpAnyE_end (by kernel_rfl) hIL ?_
  simp only [Exit.then]
  go_wp2_with fail
  go_ret
  exact ⟨rfl, PL⟩
set_option maxRecDepth 100000 in
set_option maxHeartbeats 1600000 in
theorem askDeathR_any (hg : Blk w g 119 m.cells) (hm : m.ok w) : Calls Tryz.prog 92 #[.pointer (some ⟨g, 0, none⟩)] w fun e w' => e = .returned (.int .i64 (firstE [wordE m.text 1, wordE m.lang 0, longE m.value.size])) ∧ Only [] w w' := by
  have hlt := hg.lt
  go_enter Tryz.func92, Tryz.ntmps92
  go_wp2_with fail
  have hI : (fun w' : World => Blk w' g 119 m.cells) { w with drawn := w.drawn + 1 } := hg
  refine wp_region_E (fun w' : World => Blk w' g 119 m.cells) [] (by kernel_rfl) ?_
  refine wpAnyE_take 0 (v := (.pointer (some ⟨g, 0, none⟩))) rfl (by kernel_rfl) (fun _ _ _ h => h) hI (fun w' hw' => Or.inl ⟨by kernel_rfl, Or.inl (by go_simp)⟩) ?_
  refine wpAnyE_take 1 (v := (.pointer (some ⟨g, 0, none⟩))) rfl (by kernel_rfl) (fun _ _ _ h => h) hI (fun w' hw' => Or.inl ⟨by kernel_rfl, Or.inl (by go_simp)⟩) ?_
  refine wpAnyE_take 2 (v := (.pointer (some ⟨g, 0, none⟩))) rfl (by kernel_rfl) (fun _ _ _ h => h) hI (fun w' hw' => Or.inl ⟨by kernel_rfl, Or.inl (by go_simp)⟩) ?_
  refine wpAnyE_take 3 (v := (.pointer (some ⟨g, 1, none⟩))) rfl (by kernel_rfl) (fun _ _ _ h => h) hI (fun w' hw' => Or.inl ⟨by kernel_rfl, Or.inl (by go_simp)⟩) ?_
  refine wpAnyE_take 4 (v := (.string m.text)) rfl (by kernel_rfl) (fun _ _ _ h => h) hI (fun w' hw' => Or.inl ⟨by kernel_rfl, Or.inl (by have y0 : w'.cell? ⟨g, 1, none⟩ = some (.string m.text) := hw'.cell 1; go_simp)⟩) ?_
  refine wpAnyE_take 6 (v := (.pointer (some ⟨g, 0, none⟩))) rfl (by kernel_rfl) (fun _ _ _ h => h) hI (fun w' hw' => Or.inl ⟨by kernel_rfl, Or.inl (by go_simp)⟩) ?_
  refine wpAnyE_take 7 (v := (.pointer (some ⟨g, 0, none⟩))) rfl (by kernel_rfl) (fun _ _ _ h => h) hI (fun w' hw' => Or.inl ⟨by kernel_rfl, Or.inl (by go_simp)⟩) ?_
  refine wpAnyE_take 8 (v := (.pointer (some ⟨g, 0, none⟩))) rfl (by kernel_rfl) (fun _ _ _ h => h) hI (fun w' hw' => Or.inl ⟨by kernel_rfl, Or.inl (by go_simp)⟩) ?_
  refine wpAnyE_take 9 (v := (.pointer (some ⟨g, 3, none⟩))) rfl (by kernel_rfl) (fun _ _ _ h => h) hI (fun w' hw' => Or.inl ⟨by kernel_rfl, Or.inl (by go_simp)⟩) ?_
  refine wpAnyE_take 10 (v := (.string m.lang)) rfl (by kernel_rfl) (fun _ _ _ h => h) hI (fun w' hw' => Or.inl ⟨by kernel_rfl, Or.inl (by have y0 : w'.cell? ⟨g, 3, none⟩ = some (.string m.lang) := hw'.cell 3; go_simp)⟩) ?_
  refine wpAnyE_take 12 (v := (.pointer (some ⟨g, 0, none⟩))) rfl (by kernel_rfl) (fun _ _ _ h => h) hI (fun w' hw' => Or.inl ⟨by kernel_rfl, Or.inl (by go_simp)⟩) ?_
  refine wpAnyE_take 13 (v := (.pointer (some ⟨g, 0, none⟩))) rfl (by kernel_rfl) (fun _ _ _ h => h) hI (fun w' hw' => Or.inl ⟨by kernel_rfl, Or.inl (by go_simp)⟩) ?_
  refine wpAnyE_take 14 (v := (.pointer (some ⟨g, 0, none⟩))) rfl (by kernel_rfl) (fun _ _ _ h => h) hI (fun w' hw' => Or.inl ⟨by kernel_rfl, Or.inl (by go_simp)⟩) ?_
  refine wpAnyE_take 15 (v := (.pointer (some ⟨g, 2, none⟩))) rfl (by kernel_rfl) (fun _ _ _ h => h) hI (fun w' hw' => Or.inl ⟨by kernel_rfl, Or.inl (by go_simp)⟩) ?_
  refine wpAnyE_take 16 (v := (.string m.value)) rfl (by kernel_rfl) (fun _ _ _ h => h) hI (fun w' hw' => Or.inl ⟨by kernel_rfl, Or.inl (by have y0 : w'.cell? ⟨g, 2, none⟩ = some (.string m.value) := hw'.cell 2; go_simp)⟩) ?_
  refine wpAnyE_take 17 (v := (.int .i64 (m.value.size : Int))) rfl (by kernel_rfl) (fun _ _ _ h => h) hI (fun w' hw' => Or.inl ⟨by kernel_rfl, Or.inl (by go_simp)⟩) ?_
  have T := rword_any m.text 1 w.drew hm.text
  refine wpAnyE_one 5 rfl (by kernel_rfl) hI (fun K hK => ?_)
  rw [if_pos (by kernel_rfl)]
  go_simp
  go_call T as e x ⟨rfl, rfl⟩
  clear T
  refine hK _ _ ?_
  clear hK K
  have T := rword_any m.lang 0 w.drew hm.lang
  refine wpAnyE_one 11 rfl (by kernel_rfl) hI (fun K hK => ?_)
  rw [if_pos (by kernel_rfl)]
  go_simp
  go_call T as e x ⟨rfl, rfl⟩
  clear T
  refine hK _ _ ?_
  clear hK K
  have T := rlong_any (m.value.size) w.drew
  refine wpAnyE_one 18 rfl (by kernel_rfl) hI (fun K hK => ?_)
  rw [if_pos (by kernel_rfl)]
  go_simp
  go_call T as e x ⟨rfl, rfl⟩
  clear T
  refine hK _ _ ?_
  clear hK K
  refine wpAnyE_one 19 rfl (by kernel_rfl) hI (fun K hK => ?_)
  rw [if_pos (by kernel_rfl)]
  go_simp
  refine hK _ _ ?_
  clear hK K
  have PL : Only [] w ((w.alloc (.cells #[.int .i64 (wordE m.text 1), .int .i64 (wordE m.lang 0), .int .i64 (longE m.value.size)] 65)).drew) := ((Only.refl [] w).alloc _).drew
  have hIL : (fun w' : World => Blk w' g 119 m.cells) ((w.alloc (.cells #[.int .i64 (wordE m.text 1), .int .i64 (wordE m.lang 0), .int .i64 (longE m.value.size)] 65)).drew) := hg.only PL (by simp)
  have RL : RdI ((w.alloc (.cells #[.int .i64 (wordE m.text 1), .int .i64 (wordE m.lang 0), .int .i64 (longE m.value.size)] 65)).drew) (some ⟨w.heap.size, 0, none⟩) [(wordE m.text 1), (wordE m.lang 0), (longE m.value.size)] := rdI_blk (Blk.new w 65 ([(wordE m.text 1), (wordE m.lang 0), (longE m.value.size)].map (.int .i64)))
  have T := rfirst_any (some ⟨w.heap.size, 0, none⟩) [(wordE m.text 1), (wordE m.lang 0), (longE m.value.size)] 3 _ RL (by simp [maxLen])
  refine wpAnyE_one 20 rfl (by kernel_rfl) hIL (fun K hK => ?_)
  rw [if_pos (by kernel_rfl)]
  go_simp
  go_call T as e x ⟨rfl, rfl⟩
  clear T
  refine hK _ _ ?_
  clear hK K
  refine wpAnyE_take 21 (v := (.int .i64 (firstE [(wordE m.text 1), (wordE m.lang 0), (longE m.value.size)]))) rfl (by kernel_rfl) (fun _ _ _ h => h) hIL (fun w' hw' => Or.inl ⟨by kernel_rfl, Or.inl (by go_simp)⟩) ?_
  refine wpAnyE_end (by kernel_rfl) hIL ?_
  simp only [Exit.then]
  go_wp2_with fail
  go_ret
  exact ⟨rfl, PL⟩
set_option maxRecDepth 100000 in
set_option maxHeartbeats 1600000 in
theorem askEnvR_any (hg : Blk w g 119 m.cells) (hm : m.ok w) : Calls Tryz.prog 76 #[.pointer (some ⟨g, 0, none⟩)] w fun e w' => e = .returned (.int .i64 (if hasEq m.text then 4 else firstE [wordE m.text 1, longE m.value.size])) ∧ Only [] w w' := by
  have c1 : w.cell? ⟨g, 1, none⟩ = some (.string m.text) := hg.cell 1
  have hlt := hg.lt
  have T := rhas_any m.text w
  obtain ⟨b, hb⟩ : ∃ b, hasEq m.text = b := ⟨_, rfl⟩
  rw [hb] at T ⊢
  replace hb := hide hb
  go_enter Tryz.func76, Tryz.ntmps76
  go_wp2_with fail
  go_call T as e x ⟨rfl, rfl⟩
  clear T
  cases b with
  | true =>
    go_wp2_with fail
    go_ret
    exact ⟨rfl, Only.refl _ _⟩
  | false =>
  go_wp2_with fail
  have hI : (fun w' : World => Blk w' g 119 m.cells) { w with drawn := w.drawn + 1 } := hg
  refine wp_region_E (fun w' : World => Blk w' g 119 m.cells) [] (by kernel_rfl) ?_
  refine wpAnyE_take 0 (v := (.pointer (some ⟨g, 0, none⟩))) rfl (by kernel_rfl) (fun _ _ _ h => h) hI (fun w' hw' => Or.inl ⟨by kernel_rfl, Or.inl (by go_simp)⟩) ?_
  refine wpAnyE_take 1 (v := (.pointer (some ⟨g, 0, none⟩))) rfl (by kernel_rfl) (fun _ _ _ h => h) hI (fun w' hw' => Or.inl ⟨by kernel_rfl, Or.inl (by go_simp)⟩) ?_
  refine wpAnyE_take 2 (v := (.pointer (some ⟨g, 0, none⟩))) rfl (by kernel_rfl) (fun _ _ _ h => h) hI (fun w' hw' => Or.inl ⟨by kernel_rfl, Or.inl (by go_simp)⟩) ?_
  refine wpAnyE_take 3 (v := (.pointer (some ⟨g, 1, none⟩))) rfl (by kernel_rfl) (fun _ _ _ h => h) hI (fun w' hw' => Or.inl ⟨by kernel_rfl, Or.inl (by go_simp)⟩) ?_
  refine wpAnyE_take 4 (v := (.string m.text)) rfl (by kernel_rfl) (fun _ _ _ h => h) hI (fun w' hw' => Or.inl ⟨by kernel_rfl, Or.inl (by have y0 : w'.cell? ⟨g, 1, none⟩ = some (.string m.text) := hw'.cell 1; go_simp)⟩) ?_
  refine wpAnyE_take 6 (v := (.pointer (some ⟨g, 0, none⟩))) rfl (by kernel_rfl) (fun _ _ _ h => h) hI (fun w' hw' => Or.inl ⟨by kernel_rfl, Or.inl (by go_simp)⟩) ?_
  refine wpAnyE_take 7 (v := (.pointer (some ⟨g, 0, none⟩))) rfl (by kernel_rfl) (fun _ _ _ h => h) hI (fun w' hw' => Or.inl ⟨by kernel_rfl, Or.inl (by go_simp)⟩) ?_
  refine wpAnyE_take 8 (v := (.pointer (some ⟨g, 0, none⟩))) rfl (by kernel_rfl) (fun _ _ _ h => h) hI (fun w' hw' => Or.inl ⟨by kernel_rfl, Or.inl (by go_simp)⟩) ?_
  refine wpAnyE_take 9 (v := (.pointer (some ⟨g, 2, none⟩))) rfl (by kernel_rfl) (fun _ _ _ h => h) hI (fun w' hw' => Or.inl ⟨by kernel_rfl, Or.inl (by go_simp)⟩) ?_
  refine wpAnyE_take 10 (v := (.string m.value)) rfl (by kernel_rfl) (fun _ _ _ h => h) hI (fun w' hw' => Or.inl ⟨by kernel_rfl, Or.inl (by have y0 : w'.cell? ⟨g, 2, none⟩ = some (.string m.value) := hw'.cell 2; go_simp)⟩) ?_
  refine wpAnyE_take 11 (v := (.int .i64 (m.value.size : Int))) rfl (by kernel_rfl) (fun _ _ _ h => h) hI (fun w' hw' => Or.inl ⟨by kernel_rfl, Or.inl (by go_simp)⟩) ?_
  have T := rword_any m.text 1 w.drew hm.text
  refine wpAnyE_one 5 rfl (by kernel_rfl) hI (fun K hK => ?_)
  rw [if_pos (by kernel_rfl)]
  go_simp
  go_call T as e x ⟨rfl, rfl⟩
  clear T
  refine hK _ _ ?_
  clear hK K
  have T := rlong_any (m.value.size) w.drew
  refine wpAnyE_one 12 rfl (by kernel_rfl) hI (fun K hK => ?_)
  rw [if_pos (by kernel_rfl)]
  go_simp
  go_call T as e x ⟨rfl, rfl⟩
  clear T
  refine hK _ _ ?_
  clear hK K
  refine wpAnyE_one 13 rfl (by kernel_rfl) hI (fun K hK => ?_)
  rw [if_pos (by kernel_rfl)]
  go_simp
  refine hK _ _ ?_
  clear hK K
  have PL : Only [] w ((w.alloc (.cells #[.int .i64 (wordE m.text 1), .int .i64 (longE m.value.size)] 65)).drew) := ((Only.refl [] w).alloc _).drew
  have hIL : (fun w' : World => Blk w' g 119 m.cells) ((w.alloc (.cells #[.int .i64 (wordE m.text 1), .int .i64 (longE m.value.size)] 65)).drew) := hg.only PL (by simp)
  have RL : RdI ((w.alloc (.cells #[.int .i64 (wordE m.text 1), .int .i64 (longE m.value.size)] 65)).drew) (some ⟨w.heap.size, 0, none⟩) [(wordE m.text 1), (longE m.value.size)] := rdI_blk (Blk.new w 65 ([(wordE m.text 1), (longE m.value.size)].map (.int .i64)))
  have T := rfirst_any (some ⟨w.heap.size, 0, none⟩) [(wordE m.text 1), (longE m.value.size)] 2 _ RL (by simp [maxLen])
  refine wpAnyE_one 14 rfl (by kernel_rfl) hIL (fun K hK => ?_)
  rw [if_pos (by kernel_rfl)]
  go_simp
  go_call T as e x ⟨rfl, rfl⟩
  clear T
  refine hK _ _ ?_
  clear hK K
  refine wpAnyE_take 15 (v := (.int .i64 (firstE [(wordE m.text 1), (longE m.value.size)]))) rfl (by kernel_rfl) (fun _ _ _ h => h) hIL (fun w' hw' => Or.inl ⟨by kernel_rfl, Or.inl (by go_simp)⟩) ?_
  refine wpAnyE_end (by kernel_rfl) hIL ?_
  simp only [Exit.then]
  go_wp2_with fail
  go_ret
  exact ⟨rfl, PL⟩
end
/-- What asks, of a kind. -/
theorem ask_any (k : Nat) (h1 : 1 ≤ k) (h2 : k ≤ 10) : ∃ F : FuncId, rask k = F ∧ (∀ (args : Array Value) (w : World), (callFunc F args).run Tryz.prog w = .ok (.enter F args) w) ∧
    ∀ (w : World) (m : RQ) (g : Nat), Blk w g 119 m.cells → m.ok w → Calls Tryz.prog F #[.pointer (some ⟨g, 0, none⟩)] w (fun e w' => e = .returned (.int .i64 (askR m k)) ∧ Only [] w w') := by
  rcases k10 h1 h2 with rfl | rfl | rfl | rfl | rfl | rfl | rfl | rfl | rfl | rfl
  · exact ⟨_, rfl, fun args w => by kernel_rfl, fun w m g hg hm => askPtyR_any m g w hg hm⟩
  · exact ⟨_, rfl, fun args w => by kernel_rfl, fun w m g hg hm => askEnvR_any m g w hg hm⟩
  · exact ⟨_, rfl, fun args w => by kernel_rfl, fun w m g hg hm => askNoneR_any g w⟩
  · exact ⟨_, rfl, fun args w => by kernel_rfl, fun w m g hg hm => askExecR_any m g w hg hm⟩
  · exact ⟨_, rfl, fun args w => by kernel_rfl, fun w m g hg hm => askWordR_any m g w hg hm⟩
  · exact ⟨_, rfl, fun args w => by kernel_rfl, fun w m g hg hm => askNoneR_any g w⟩
  · exact ⟨_, rfl, fun args w => by kernel_rfl, fun w m g hg hm => askNoneR_any g w⟩
  · exact ⟨_, rfl, fun args w => by kernel_rfl, fun w m g hg hm => askWordR_any m g w hg hm⟩
  · exact ⟨_, rfl, fun args w => by kernel_rfl, fun w m g hg hm => askNoneR_any g w⟩
  · exact ⟨_, rfl, fun args w => by kernel_rfl, fun w m g hg hm => askDeathR_any m g w hg hm⟩
end Go.Proofs.YtdplnedpbkpgpaaGreatDoor
