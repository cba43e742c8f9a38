/- The document's answer for layer 3: a message's fields; no condition. -/
import Derived.Test.YtdmjabfjkkjhbaaGreatDoorMsgQ
namespace Go.Proofs.YtdmjabfjkkjhbaaGreatDoor
set_option linter.all false
open Go.RowKit

set_option maxRecDepth 100000 in
set_option maxHeartbeats 6400000 in
theorem fields_k90 (m : MD) (w : World) (hk : m.kind = 90) (ok : m.ok w) (hs : m.name.size ≤ 140737488355328) (hl : m.lang.size ≤ 140737488355328) : Calls Tryz.prog 17 #[m.val] w (FieldsPost w m) := by
  have hpost : ∀ (w' : World) (A : Option Addr) (c : Nat) (fs : List FD), Only [] w w' → RdF w' A fs → fs.map FD.pf = [3, 6, 7, 8, 5].map (partP m) → fs.length ≤ c → c ≤ maxLen → FieldsPost w m (.returned (.tuple #[.slice A fs.length c, .bool true])) w' := fun w' A c fs h1 h2 h3 h4 h5 => by
    refine ⟨h1, ?_⟩
    rw [show rowL m.kind = some [3, 6, 7, 8, 5] by rw [hk]; rfl]
    exact ⟨A, c, fs, rfl, h2, h3, h4, h5⟩
  have ok0 := ok
  obtain ⟨w1, hw1⟩ : ∃ w1, w1 = w.alloc (.cells #[.int .i64 m.kind, .int .u32 m.chan, .int .u32 m.sender, .int .u32 m.window, .int .u32 m.packet, .int .u32 m.code, .string m.name, .string m.lang, .bool m.want, .slice m.dA m.data.length m.dc] 25) := ⟨_, rfl⟩
  have O1 : Only [] w w1 := by rw [hw1]; exact (Only.refl _ _).alloc _
  have K1 : Blk w1 w.heap.size 25 m.cells := by rw [hw1]; exact Blk.new w _ _
  have hkv := hk
  replace hpost := hide hpost
  unfold MD.val
  rw [hk] at hw1 ⊢
  replace hk := hide hk
  go_enter Tryz.func17, Tryz.ntmps17
  go_wp2_with fail
  rw [← hw1]
  replace hw1 := hide hw1
  have hI1 : (fun w' : World => Blk w' w.heap.size 25 m.cells) { w1 with drawn := w1.drawn + 1 } := K1
  refine wp_region_E (fun w' : World => Blk w' w.heap.size 25 m.cells) [] (by kernel_rfl) ?_
  refine wpAnyE_take 0 (v := (.pointer (some ⟨w.heap.size, 6, none⟩))) rfl (by kernel_rfl) (fun _ _ _ h => h) hI1 (fun w' hw' => Or.inl ⟨by kernel_rfl, Or.inl (by go_simp)⟩) ?_
  refine wpAnyE_take 1 (v := (.string m.name)) rfl (by kernel_rfl) (fun _ _ _ h => h) hI1 (fun w' hw' => Or.inl ⟨by kernel_rfl, Or.inl (by have y : w'.cell? ⟨w.heap.size, 6, none⟩ = some (.string m.name) := Blk.cell hw' 6; go_simp)⟩) ?_
  refine wpAnyE_take 3 (v := (.pointer (some ⟨w.heap.size, 2, none⟩))) rfl (by kernel_rfl) (fun _ _ _ h => h) hI1 (fun w' hw' => Or.inl ⟨by kernel_rfl, Or.inl (by go_simp)⟩) ?_
  refine wpAnyE_take 4 (v := (.int .u32 m.sender)) rfl (by kernel_rfl) (fun _ _ _ h => h) hI1 (fun w' hw' => Or.inl ⟨by kernel_rfl, Or.inl (by have y : w'.cell? ⟨w.heap.size, 2, none⟩ = some (.int .u32 m.sender) := Blk.cell hw' 2; go_simp)⟩) ?_
  refine wpAnyE_take 6 (v := (.pointer (some ⟨w.heap.size, 3, none⟩))) rfl (by kernel_rfl) (fun _ _ _ h => h) hI1 (fun w' hw' => Or.inl ⟨by kernel_rfl, Or.inl (by go_simp)⟩) ?_
  refine wpAnyE_take 7 (v := (.int .u32 m.window)) rfl (by kernel_rfl) (fun _ _ _ h => h) hI1 (fun w' hw' => Or.inl ⟨by kernel_rfl, Or.inl (by have y : w'.cell? ⟨w.heap.size, 3, none⟩ = some (.int .u32 m.window) := Blk.cell hw' 3; go_simp)⟩) ?_
  refine wpAnyE_take 9 (v := (.pointer (some ⟨w.heap.size, 4, none⟩))) rfl (by kernel_rfl) (fun _ _ _ h => h) hI1 (fun w' hw' => Or.inl ⟨by kernel_rfl, Or.inl (by go_simp)⟩) ?_
  refine wpAnyE_take 10 (v := (.int .u32 m.packet)) rfl (by kernel_rfl) (fun _ _ _ h => h) hI1 (fun w' hw' => Or.inl ⟨by kernel_rfl, Or.inl (by have y : w'.cell? ⟨w.heap.size, 4, none⟩ = some (.int .u32 m.packet) := Blk.cell hw' 4; go_simp)⟩) ?_
  refine wpAnyE_take 12 (v := (.pointer (some ⟨w.heap.size, 9, none⟩))) rfl (by kernel_rfl) (fun _ _ _ h => h) hI1 (fun w' hw' => Or.inl ⟨by kernel_rfl, Or.inl (by go_simp)⟩) ?_
  refine wpAnyE_take 13 (v := (.slice m.dA m.data.length m.dc)) rfl (by kernel_rfl) (fun _ _ _ h => h) hI1 (fun w' hw' => Or.inl ⟨by kernel_rfl, Or.inl (by have y : w'.cell? ⟨w.heap.size, 9, none⟩ = some (.slice m.dA m.data.length m.dc) := Blk.cell hw' 9; go_simp)⟩) ?_
  refine wpAnyE_one 2 rfl (by kernel_rfl) hI1 (fun K hK => ?_)
  rw [if_pos (by kernel_rfl)]
  go_simp
  have C0 := mkText_any w1.drew m.name hs
  go_call C0 as e w2 ⟨P2, f0, rfl, p0, g0, n0⟩
  have O2 : Only [] w w2 := O1.drew.trans P2 (by simp)
  have hI2 : (fun w' : World => Blk w' w.heap.size 25 m.cells) w2 := Blk.only K1.drew P2 (by simp)
  refine hK _ _ ?_
  clear hK K C0
  refine wpAnyE_one 5 rfl (by kernel_rfl) hI2 (fun K hK => ?_)
  rw [if_pos (by kernel_rfl)]
  go_simp
  have C1 := mkNumber_any w2 m.sender (ok0.nums.2.1)
  go_call C1 as e w3 ⟨P3, f1, rfl, p1, g1, n1⟩
  have O3 : Only [] w w3 := O2.trans P3 (by simp)
  have hI3 : (fun w' : World => Blk w' w.heap.size 25 m.cells) w3 := Blk.only hI2 P3 (by simp)
  refine hK _ _ ?_
  clear hK K C1
  refine wpAnyE_one 8 rfl (by kernel_rfl) hI3 (fun K hK => ?_)
  rw [if_pos (by kernel_rfl)]
  go_simp
  have C2 := mkNumber_any w3 m.window (ok0.nums.2.2.1)
  go_call C2 as e w4 ⟨P4, f2, rfl, p2, g2, n2⟩
  have O4 : Only [] w w4 := O3.trans P4 (by simp)
  have hI4 : (fun w' : World => Blk w' w.heap.size 25 m.cells) w4 := Blk.only hI3 P4 (by simp)
  refine hK _ _ ?_
  clear hK K C2
  refine wpAnyE_one 11 rfl (by kernel_rfl) hI4 (fun K hK => ?_)
  rw [if_pos (by kernel_rfl)]
  go_simp
  have C3 := mkNumber_any w4 m.packet (ok0.nums.2.2.2.1)
  go_call C3 as e w5 ⟨P5, f3, rfl, p3, g3, n3⟩
  have O5 : Only [] w w5 := O4.trans P5 (by simp)
  have hI5 : (fun w' : World => Blk w' w.heap.size 25 m.cells) w5 := Blk.only hI4 P5 (by simp)
  refine hK _ _ ?_
  clear hK K C3
  refine wpAnyE_one 14 rfl (by kernel_rfl) hI5 (fun K hK => ?_)
  rw [if_pos (by kernel_rfl)]
  go_simp
  have C4 := mkRest_any w5 m.dA m.data m.dc (ok.only O5).data ok0.dle ok0.dmax
  go_call C4 as e w6 ⟨P6, f4, rfl, p4, g4, n4⟩
  have O6 : Only [] w w6 := O5.trans P6 (by simp)
  have hI6 : (fun w' : World => Blk w' w.heap.size 25 m.cells) w6 := Blk.only hI5 P6 (by simp)
  refine hK _ _ ?_
  clear hK K C4
  unfold FD.val
  refine wpAnyE_one 15 rfl (by kernel_rfl) hI6 (fun K hK => ?_)
  rw [if_pos (by kernel_rfl)]
  go_simp
  refine hK _ _ ?_
  clear hK K
  have hIZ : (fun w' : World => Blk w' w.heap.size 25 m.cells) (w6.alloc (.cells #[.int .i64 f0.kind, .int .u32 f0.n, .slice f0.tA f0.text.length f0.tc, .slice f0.lA f0.list.length f0.lc, .int .i64 f1.kind, .int .u32 f1.n, .slice f1.tA f1.text.length f1.tc, .slice f1.lA f1.list.length f1.lc, .int .i64 f2.kind, .int .u32 f2.n, .slice f2.tA f2.text.length f2.tc, .slice f2.lA f2.list.length f2.lc, .int .i64 f3.kind, .int .u32 f3.n, .slice f3.tA f3.text.length f3.tc, .slice f3.lA f3.list.length f3.lc, .int .i64 f4.kind, .int .u32 f4.n, .slice f4.tA f4.text.length f4.tc, .slice f4.lA f4.list.length f4.lc] 49)) := Blk.alloc hI6 _
  refine wpAnyE_take 16 (v := (.slice (some ⟨w6.heap.size, 0, none⟩) 5 5)) rfl (by kernel_rfl) (fun _ _ _ h => h) hIZ (fun w' hw' => Or.inl ⟨by kernel_rfl, Or.inl (by go_simp)⟩) ?_
  refine wpAnyE_take 17 (v := (.bool true)) rfl (by kernel_rfl) (fun _ _ _ h => h) hIZ (fun w' hw' => Or.inl ⟨by kernel_rfl, Or.inl (by go_simp)⟩) ?_
  refine wpAnyE_end (by kernel_rfl) hIZ ?_
  simp only [Exit.then]
  go_wp2_with fail
  go_ret2
  have Z : ∀ f ∈ [f0, f1, f2, f3, f4], f.ok w6 ∧ 0 ≤ f.n ∧ f.n ≤ 4294967295 := by
    intro f hf
    simp only [List.mem_cons, List.mem_nil_iff, or_false] at hf
    rcases hf with rfl | rfl | rfl | rfl | rfl
    · exact ⟨((((g0.only P3).only P4).only P5).only P6), n0⟩
    · exact ⟨(((g1.only P4).only P5).only P6), n1⟩
    · exact ⟨((g2.only P5).only P6), n2⟩
    · exact ⟨(g3.only P6), n3⟩
    · exact ⟨g4, n4⟩
  have RZ := rdF_new w6 [f0, f1, f2, f3, f4] #[.int .i64 f0.kind, .int .u32 f0.n, .slice f0.tA f0.text.length f0.tc, .slice f0.lA f0.list.length f0.lc, .int .i64 f1.kind, .int .u32 f1.n, .slice f1.tA f1.text.length f1.tc, .slice f1.lA f1.list.length f1.lc, .int .i64 f2.kind, .int .u32 f2.n, .slice f2.tA f2.text.length f2.tc, .slice f2.lA f2.list.length f2.lc, .int .i64 f3.kind, .int .u32 f3.n, .slice f3.tA f3.text.length f3.tc, .slice f3.lA f3.list.length f3.lc, .int .i64 f4.kind, .int .u32 f4.n, .slice f4.tA f4.text.length f4.tc, .slice f4.lA f4.list.length f4.lc] rfl Z
  exact hpost.out _ (some ⟨w6.heap.size, 0, none⟩) 5 [f0, f1, f2, f3, f4] (O6.alloc _) RZ (by simp only [List.map_cons, List.map_nil, p0, p1, p2, p3, p4]; rfl) (Nat.le_refl _) (by simp [maxLen])
set_option maxRecDepth 100000 in
set_option maxHeartbeats 6400000 in
theorem fields_k91 (m : MD) (w : World) (hk : m.kind = 91) (ok : m.ok w) (hs : m.name.size ≤ 140737488355328) (hl : m.lang.size ≤ 140737488355328) : Calls Tryz.prog 17 #[m.val] w (FieldsPost w m) := by
  have hpost : ∀ (w' : World) (A : Option Addr) (c : Nat) (fs : List FD), Only [] w w' → RdF w' A fs → fs.map FD.pf = [9, 6, 7, 8, 5].map (partP m) → fs.length ≤ c → c ≤ maxLen → FieldsPost w m (.returned (.tuple #[.slice A fs.length c, .bool true])) w' := fun w' A c fs h1 h2 h3 h4 h5 => by
    refine ⟨h1, ?_⟩
    rw [show rowL m.kind = some [9, 6, 7, 8, 5] by rw [hk]; rfl]
    exact ⟨A, c, fs, rfl, h2, h3, h4, h5⟩
  have ok0 := ok
  obtain ⟨w1, hw1⟩ : ∃ w1, w1 = w.alloc (.cells #[.int .i64 m.kind, .int .u32 m.chan, .int .u32 m.sender, .int .u32 m.window, .int .u32 m.packet, .int .u32 m.code, .string m.name, .string m.lang, .bool m.want, .slice m.dA m.data.length m.dc] 25) := ⟨_, rfl⟩
  have O1 : Only [] w w1 := by rw [hw1]; exact (Only.refl _ _).alloc _
  have K1 : Blk w1 w.heap.size 25 m.cells := by rw [hw1]; exact Blk.new w _ _
  have hkv := hk
  replace hpost := hide hpost
  unfold MD.val
  rw [hk] at hw1 ⊢
  replace hk := hide hk
  go_enter Tryz.func17, Tryz.ntmps17
  go_wp2_with fail
  rw [← hw1]
  replace hw1 := hide hw1
  have hI1 : (fun w' : World => Blk w' w.heap.size 25 m.cells) { w1 with drawn := w1.drawn + 1 } := K1
  refine wp_region_E (fun w' : World => Blk w' w.heap.size 25 m.cells) [] (by kernel_rfl) ?_
  refine wpAnyE_take 0 (v := (.pointer (some ⟨w.heap.size, 1, none⟩))) rfl (by kernel_rfl) (fun _ _ _ h => h) hI1 (fun w' hw' => Or.inl ⟨by kernel_rfl, Or.inl (by go_simp)⟩) ?_
  refine wpAnyE_take 1 (v := (.int .u32 m.chan)) rfl (by kernel_rfl) (fun _ _ _ h => h) hI1 (fun w' hw' => Or.inl ⟨by kernel_rfl, Or.inl (by have y : w'.cell? ⟨w.heap.size, 1, none⟩ = some (.int .u32 m.chan) := Blk.cell hw' 1; go_simp)⟩) ?_
  refine wpAnyE_take 3 (v := (.pointer (some ⟨w.heap.size, 2, none⟩))) rfl (by kernel_rfl) (fun _ _ _ h => h) hI1 (fun w' hw' => Or.inl ⟨by kernel_rfl, Or.inl (by go_simp)⟩) ?_
  refine wpAnyE_take 4 (v := (.int .u32 m.sender)) rfl (by kernel_rfl) (fun _ _ _ h => h) hI1 (fun w' hw' => Or.inl ⟨by kernel_rfl, Or.inl (by have y : w'.cell? ⟨w.heap.size, 2, none⟩ = some (.int .u32 m.sender) := Blk.cell hw' 2; go_simp)⟩) ?_
  refine wpAnyE_take 6 (v := (.pointer (some ⟨w.heap.size, 3, none⟩))) rfl (by kernel_rfl) (fun _ _ _ h => h) hI1 (fun w' hw' => Or.inl ⟨by kernel_rfl, Or.inl (by go_simp)⟩) ?_
  refine wpAnyE_take 7 (v := (.int .u32 m.window)) rfl (by kernel_rfl) (fun _ _ _ h => h) hI1 (fun w' hw' => Or.inl ⟨by kernel_rfl, Or.inl (by have y : w'.cell? ⟨w.heap.size, 3, none⟩ = some (.int .u32 m.window) := Blk.cell hw' 3; go_simp)⟩) ?_
  refine wpAnyE_take 9 (v := (.pointer (some ⟨w.heap.size, 4, none⟩))) rfl (by kernel_rfl) (fun _ _ _ h => h) hI1 (fun w' hw' => Or.inl ⟨by kernel_rfl, Or.inl (by go_simp)⟩) ?_
  refine wpAnyE_take 10 (v := (.int .u32 m.packet)) rfl (by kernel_rfl) (fun _ _ _ h => h) hI1 (fun w' hw' => Or.inl ⟨by kernel_rfl, Or.inl (by have y : w'.cell? ⟨w.heap.size, 4, none⟩ = some (.int .u32 m.packet) := Blk.cell hw' 4; go_simp)⟩) ?_
  refine wpAnyE_take 12 (v := (.pointer (some ⟨w.heap.size, 9, none⟩))) rfl (by kernel_rfl) (fun _ _ _ h => h) hI1 (fun w' hw' => Or.inl ⟨by kernel_rfl, Or.inl (by go_simp)⟩) ?_
  refine wpAnyE_take 13 (v := (.slice m.dA m.data.length m.dc)) rfl (by kernel_rfl) (fun _ _ _ h => h) hI1 (fun w' hw' => Or.inl ⟨by kernel_rfl, Or.inl (by have y : w'.cell? ⟨w.heap.size, 9, none⟩ = some (.slice m.dA m.data.length m.dc) := Blk.cell hw' 9; go_simp)⟩) ?_
  refine wpAnyE_one 2 rfl (by kernel_rfl) hI1 (fun K hK => ?_)
  rw [if_pos (by kernel_rfl)]
  go_simp
  have C0 := mkNumber_any w1.drew m.chan (ok0.nums.1)
  go_call C0 as e w2 ⟨P2, f0, rfl, p0, g0, n0⟩
  have O2 : Only [] w w2 := O1.drew.trans P2 (by simp)
  have hI2 : (fun w' : World => Blk w' w.heap.size 25 m.cells) w2 := Blk.only K1.drew P2 (by simp)
  refine hK _ _ ?_
  clear hK K C0
  refine wpAnyE_one 5 rfl (by kernel_rfl) hI2 (fun K hK => ?_)
  rw [if_pos (by kernel_rfl)]
  go_simp
  have C1 := mkNumber_any w2 m.sender (ok0.nums.2.1)
  go_call C1 as e w3 ⟨P3, f1, rfl, p1, g1, n1⟩
  have O3 : Only [] w w3 := O2.trans P3 (by simp)
  have hI3 : (fun w' : World => Blk w' w.heap.size 25 m.cells) w3 := Blk.only hI2 P3 (by simp)
  refine hK _ _ ?_
  clear hK K C1
  refine wpAnyE_one 8 rfl (by kernel_rfl) hI3 (fun K hK => ?_)
  rw [if_pos (by kernel_rfl)]
  go_simp
  have C2 := mkNumber_any w3 m.window (ok0.nums.2.2.1)
  go_call C2 as e w4 ⟨P4, f2, rfl, p2, g2, n2⟩
  have O4 : Only [] w w4 := O3.trans P4 (by simp)
  have hI4 : (fun w' : World => Blk w' w.heap.size 25 m.cells) w4 := Blk.only hI3 P4 (by simp)
  refine hK _ _ ?_
  clear hK K C2
  refine wpAnyE_one 11 rfl (by kernel_rfl) hI4 (fun K hK => ?_)
  rw [if_pos (by kernel_rfl)]
  go_simp
  have C3 := mkNumber_any w4 m.packet (ok0.nums.2.2.2.1)
  go_call C3 as e w5 ⟨P5, f3, rfl, p3, g3, n3⟩
  have O5 : Only [] w w5 := O4.trans P5 (by simp)
  have hI5 : (fun w' : World => Blk w' w.heap.size 25 m.cells) w5 := Blk.only hI4 P5 (by simp)
  refine hK _ _ ?_
  clear hK K C3
  refine wpAnyE_one 14 rfl (by kernel_rfl) hI5 (fun K hK => ?_)
  rw [if_pos (by kernel_rfl)]
  go_simp
  have C4 := mkRest_any w5 m.dA m.data m.dc (ok.only O5).data ok0.dle ok0.dmax
  go_call C4 as e w6 ⟨P6, f4, rfl, p4, g4, n4⟩
  have O6 : Only [] w w6 := O5.trans P6 (by simp)
  have hI6 : (fun w' : World => Blk w' w.heap.size 25 m.cells) w6 := Blk.only hI5 P6 (by simp)
  refine hK _ _ ?_
  clear hK K C4
  unfold FD.val
  refine wpAnyE_one 15 rfl (by kernel_rfl) hI6 (fun K hK => ?_)
  rw [if_pos (by kernel_rfl)]
  go_simp
  refine hK _ _ ?_
  clear hK K
  have hIZ : (fun w' : World => Blk w' w.heap.size 25 m.cells) (w6.alloc (.cells #[.int .i64 f0.kind, .int .u32 f0.n, .slice f0.tA f0.text.length f0.tc, .slice f0.lA f0.list.length f0.lc, .int .i64 f1.kind, .int .u32 f1.n, .slice f1.tA f1.text.length f1.tc, .slice f1.lA f1.list.length f1.lc, .int .i64 f2.kind, .int .u32 f2.n, .slice f2.tA f2.text.length f2.tc, .slice f2.lA f2.list.length f2.lc, .int .i64 f3.kind, .int .u32 f3.n, .slice f3.tA f3.text.length f3.tc, .slice f3.lA f3.list.length f3.lc, .int .i64 f4.kind, .int .u32 f4.n, .slice f4.tA f4.text.length f4.tc, .slice f4.lA f4.list.length f4.lc] 49)) := Blk.alloc hI6 _
  refine wpAnyE_take 16 (v := (.slice (some ⟨w6.heap.size, 0, none⟩) 5 5)) rfl (by kernel_rfl) (fun _ _ _ h => h) hIZ (fun w' hw' => Or.inl ⟨by kernel_rfl, Or.inl (by go_simp)⟩) ?_
  refine wpAnyE_take 17 (v := (.bool true)) rfl (by kernel_rfl) (fun _ _ _ h => h) hIZ (fun w' hw' => Or.inl ⟨by kernel_rfl, Or.inl (by go_simp)⟩) ?_
  refine wpAnyE_end (by kernel_rfl) hIZ ?_
  simp only [Exit.then]
  go_wp2_with fail
  go_ret2
  have Z : ∀ f ∈ [f0, f1, f2, f3, f4], f.ok w6 ∧ 0 ≤ f.n ∧ f.n ≤ 4294967295 := by
    intro f hf
    simp only [List.mem_cons, List.mem_nil_iff, or_false] at hf
    rcases hf with rfl | rfl | rfl | rfl | rfl
    · exact ⟨((((g0.only P3).only P4).only P5).only P6), n0⟩
    · exact ⟨(((g1.only P4).only P5).only P6), n1⟩
    · exact ⟨((g2.only P5).only P6), n2⟩
    · exact ⟨(g3.only P6), n3⟩
    · exact ⟨g4, n4⟩
  have RZ := rdF_new w6 [f0, f1, f2, f3, f4] #[.int .i64 f0.kind, .int .u32 f0.n, .slice f0.tA f0.text.length f0.tc, .slice f0.lA f0.list.length f0.lc, .int .i64 f1.kind, .int .u32 f1.n, .slice f1.tA f1.text.length f1.tc, .slice f1.lA f1.list.length f1.lc, .int .i64 f2.kind, .int .u32 f2.n, .slice f2.tA f2.text.length f2.tc, .slice f2.lA f2.list.length f2.lc, .int .i64 f3.kind, .int .u32 f3.n, .slice f3.tA f3.text.length f3.tc, .slice f3.lA f3.list.length f3.lc, .int .i64 f4.kind, .int .u32 f4.n, .slice f4.tA f4.text.length f4.tc, .slice f4.lA f4.list.length f4.lc] rfl Z
  exact hpost.out _ (some ⟨w6.heap.size, 0, none⟩) 5 [f0, f1, f2, f3, f4] (O6.alloc _) RZ (by simp only [List.map_cons, List.map_nil, p0, p1, p2, p3, p4]; rfl) (Nat.le_refl _) (by simp [maxLen])
set_option maxRecDepth 100000 in
set_option maxHeartbeats 6400000 in
theorem fields_k92 (m : MD) (w : World) (hk : m.kind = 92) (ok : m.ok w) (hs : m.name.size ≤ 140737488355328) (hl : m.lang.size ≤ 140737488355328) : Calls Tryz.prog 17 #[m.val] w (FieldsPost w m) := by
  have hpost : ∀ (w' : World) (A : Option Addr) (c : Nat) (fs : List FD), Only [] w w' → RdF w' A fs → fs.map FD.pf = [9, 0, 1, 2].map (partP m) → fs.length ≤ c → c ≤ maxLen → FieldsPost w m (.returned (.tuple #[.slice A fs.length c, .bool true])) w' := fun w' A c fs h1 h2 h3 h4 h5 => by
    refine ⟨h1, ?_⟩
    rw [show rowL m.kind = some [9, 0, 1, 2] by rw [hk]; rfl]
    exact ⟨A, c, fs, rfl, h2, h3, h4, h5⟩
  have ok0 := ok
  obtain ⟨w1, hw1⟩ : ∃ w1, w1 = w.alloc (.cells #[.int .i64 m.kind, .int .u32 m.chan, .int .u32 m.sender, .int .u32 m.window, .int .u32 m.packet, .int .u32 m.code, .string m.name, .string m.lang, .bool m.want, .slice m.dA m.data.length m.dc] 25) := ⟨_, rfl⟩
  have O1 : Only [] w w1 := by rw [hw1]; exact (Only.refl _ _).alloc _
  have K1 : Blk w1 w.heap.size 25 m.cells := by rw [hw1]; exact Blk.new w _ _
  have hkv := hk
  replace hpost := hide hpost
  unfold MD.val
  rw [hk] at hw1 ⊢
  replace hk := hide hk
  go_enter Tryz.func17, Tryz.ntmps17
  go_wp2_with fail
  rw [← hw1]
  replace hw1 := hide hw1
  have hI1 : (fun w' : World => Blk w' w.heap.size 25 m.cells) { w1 with drawn := w1.drawn + 1 } := K1
  refine wp_region_E (fun w' : World => Blk w' w.heap.size 25 m.cells) [] (by kernel_rfl) ?_
  refine wpAnyE_take 0 (v := (.pointer (some ⟨w.heap.size, 1, none⟩))) rfl (by kernel_rfl) (fun _ _ _ h => h) hI1 (fun w' hw' => Or.inl ⟨by kernel_rfl, Or.inl (by go_simp)⟩) ?_
  refine wpAnyE_take 1 (v := (.int .u32 m.chan)) rfl (by kernel_rfl) (fun _ _ _ h => h) hI1 (fun w' hw' => Or.inl ⟨by kernel_rfl, Or.inl (by have y : w'.cell? ⟨w.heap.size, 1, none⟩ = some (.int .u32 m.chan) := Blk.cell hw' 1; go_simp)⟩) ?_
  refine wpAnyE_take 3 (v := (.pointer (some ⟨w.heap.size, 5, none⟩))) rfl (by kernel_rfl) (fun _ _ _ h => h) hI1 (fun w' hw' => Or.inl ⟨by kernel_rfl, Or.inl (by go_simp)⟩) ?_
  refine wpAnyE_take 4 (v := (.int .u32 m.code)) rfl (by kernel_rfl) (fun _ _ _ h => h) hI1 (fun w' hw' => Or.inl ⟨by kernel_rfl, Or.inl (by have y : w'.cell? ⟨w.heap.size, 5, none⟩ = some (.int .u32 m.code) := Blk.cell hw' 5; go_simp)⟩) ?_
  refine wpAnyE_take 6 (v := (.pointer (some ⟨w.heap.size, 9, none⟩))) rfl (by kernel_rfl) (fun _ _ _ h => h) hI1 (fun w' hw' => Or.inl ⟨by kernel_rfl, Or.inl (by go_simp)⟩) ?_
  refine wpAnyE_take 7 (v := (.slice m.dA m.data.length m.dc)) rfl (by kernel_rfl) (fun _ _ _ h => h) hI1 (fun w' hw' => Or.inl ⟨by kernel_rfl, Or.inl (by have y : w'.cell? ⟨w.heap.size, 9, none⟩ = some (.slice m.dA m.data.length m.dc) := Blk.cell hw' 9; go_simp)⟩) ?_
  refine wpAnyE_take 9 (v := (.pointer (some ⟨w.heap.size, 7, none⟩))) rfl (by kernel_rfl) (fun _ _ _ h => h) hI1 (fun w' hw' => Or.inl ⟨by kernel_rfl, Or.inl (by go_simp)⟩) ?_
  refine wpAnyE_take 10 (v := (.string m.lang)) rfl (by kernel_rfl) (fun _ _ _ h => h) hI1 (fun w' hw' => Or.inl ⟨by kernel_rfl, Or.inl (by have y : w'.cell? ⟨w.heap.size, 7, none⟩ = some (.string m.lang) := Blk.cell hw' 7; go_simp)⟩) ?_
  refine wpAnyE_one 2 rfl (by kernel_rfl) hI1 (fun K hK => ?_)
  rw [if_pos (by kernel_rfl)]
  go_simp
  have C0 := mkNumber_any w1.drew m.chan (ok0.nums.1)
  go_call C0 as e w2 ⟨P2, f0, rfl, p0, g0, n0⟩
  have O2 : Only [] w w2 := O1.drew.trans P2 (by simp)
  have hI2 : (fun w' : World => Blk w' w.heap.size 25 m.cells) w2 := Blk.only K1.drew P2 (by simp)
  refine hK _ _ ?_
  clear hK K C0
  refine wpAnyE_one 5 rfl (by kernel_rfl) hI2 (fun K hK => ?_)
  rw [if_pos (by kernel_rfl)]
  go_simp
  have C1 := mkNumber_any w2 m.code (ok0.nums.2.2.2.2)
  go_call C1 as e w3 ⟨P3, f1, rfl, p1, g1, n1⟩
  have O3 : Only [] w w3 := O2.trans P3 (by simp)
  have hI3 : (fun w' : World => Blk w' w.heap.size 25 m.cells) w3 := Blk.only hI2 P3 (by simp)
  refine hK _ _ ?_
  clear hK K C1
  refine wpAnyE_one 8 rfl (by kernel_rfl) hI3 (fun K hK => ?_)
  rw [if_pos (by kernel_rfl)]
  go_simp
  have C2 := mkBytes_any w3 m.dA m.data m.dc (ok.only O3).data ok0.dle ok0.dmax
  go_call C2 as e w4 ⟨P4, f2, rfl, p2, g2, n2⟩
  have O4 : Only [] w w4 := O3.trans P4 (by simp)
  have hI4 : (fun w' : World => Blk w' w.heap.size 25 m.cells) w4 := Blk.only hI3 P4 (by simp)
  refine hK _ _ ?_
  clear hK K C2
  refine wpAnyE_one 11 rfl (by kernel_rfl) hI4 (fun K hK => ?_)
  rw [if_pos (by kernel_rfl)]
  go_simp
  have C3 := mkText_any w4 m.lang hl
  go_call C3 as e w5 ⟨P5, f3, rfl, p3, g3, n3⟩
  have O5 : Only [] w w5 := O4.trans P5 (by simp)
  have hI5 : (fun w' : World => Blk w' w.heap.size 25 m.cells) w5 := Blk.only hI4 P5 (by simp)
  refine hK _ _ ?_
  clear hK K C3
  unfold FD.val
  refine wpAnyE_one 12 rfl (by kernel_rfl) hI5 (fun K hK => ?_)
  rw [if_pos (by kernel_rfl)]
  go_simp
  refine hK _ _ ?_
  clear hK K
  have hIZ : (fun w' : World => Blk w' w.heap.size 25 m.cells) (w5.alloc (.cells #[.int .i64 f0.kind, .int .u32 f0.n, .slice f0.tA f0.text.length f0.tc, .slice f0.lA f0.list.length f0.lc, .int .i64 f1.kind, .int .u32 f1.n, .slice f1.tA f1.text.length f1.tc, .slice f1.lA f1.list.length f1.lc, .int .i64 f2.kind, .int .u32 f2.n, .slice f2.tA f2.text.length f2.tc, .slice f2.lA f2.list.length f2.lc, .int .i64 f3.kind, .int .u32 f3.n, .slice f3.tA f3.text.length f3.tc, .slice f3.lA f3.list.length f3.lc] 49)) := Blk.alloc hI5 _
  refine wpAnyE_take 13 (v := (.slice (some ⟨w5.heap.size, 0, none⟩) 4 4)) rfl (by kernel_rfl) (fun _ _ _ h => h) hIZ (fun w' hw' => Or.inl ⟨by kernel_rfl, Or.inl (by go_simp)⟩) ?_
  refine wpAnyE_take 14 (v := (.bool true)) rfl (by kernel_rfl) (fun _ _ _ h => h) hIZ (fun w' hw' => Or.inl ⟨by kernel_rfl, Or.inl (by go_simp)⟩) ?_
  refine wpAnyE_end (by kernel_rfl) hIZ ?_
  simp only [Exit.then]
  go_wp2_with fail
  go_ret2
  have Z : ∀ f ∈ [f0, f1, f2, f3], f.ok w5 ∧ 0 ≤ f.n ∧ f.n ≤ 4294967295 := by
    intro f hf
    simp only [List.mem_cons, List.mem_nil_iff, or_false] at hf
    rcases hf with rfl | rfl | rfl | rfl
    · exact ⟨(((g0.only P3).only P4).only P5), n0⟩
    · exact ⟨((g1.only P4).only P5), n1⟩
    · exact ⟨(g2.only P5), n2⟩
    · exact ⟨g3, n3⟩
  have RZ := rdF_new w5 [f0, f1, f2, f3] #[.int .i64 f0.kind, .int .u32 f0.n, .slice f0.tA f0.text.length f0.tc, .slice f0.lA f0.list.length f0.lc, .int .i64 f1.kind, .int .u32 f1.n, .slice f1.tA f1.text.length f1.tc, .slice f1.lA f1.list.length f1.lc, .int .i64 f2.kind, .int .u32 f2.n, .slice f2.tA f2.text.length f2.tc, .slice f2.lA f2.list.length f2.lc, .int .i64 f3.kind, .int .u32 f3.n, .slice f3.tA f3.text.length f3.tc, .slice f3.lA f3.list.length f3.lc] rfl Z
  exact hpost.out _ (some ⟨w5.heap.size, 0, none⟩) 4 [f0, f1, f2, f3] (O5.alloc _) RZ (by simp only [List.map_cons, List.map_nil, p0, p1, p2, p3]; rfl) (Nat.le_refl _) (by simp [maxLen])
end Go.Proofs.YtdmjabfjkkjhbaaGreatDoor
