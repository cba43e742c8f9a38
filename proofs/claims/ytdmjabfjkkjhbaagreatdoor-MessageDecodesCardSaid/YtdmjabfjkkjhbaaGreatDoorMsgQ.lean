/- The document's answer for layer 3: a message's fields; no condition. -/
import Derived.Test.YtdmjabfjkkjhbaaGreatDoorMsgP
import Derived.Test.YtdmjabfjkkjhbaaGreatDoorHeldB
namespace Go.Proofs.YtdmjabfjkkjhbaaGreatDoor
set_option linter.all false
open Go.RowKit

/-- What Fields hands on. -/
def FieldsPost (w : World) (m : MD) : Ending → World → Prop := fun e w' => Only [] w w' ∧ match rowL m.kind with
  | none => e = .returned (.tuple #[.slice none 0 0, .bool false])
  | some js => ∃ (A : Option Addr) (c : Nat) (fs : List FD), e = .returned (.tuple #[.slice A fs.length c, .bool true]) ∧ RdF w' A fs ∧ fs.map FD.pf = js.map (partP m) ∧ fs.length ≤ c ∧ c ≤ maxLen
set_option maxRecDepth 100000 in
set_option maxHeartbeats 6400000 in
theorem fields_k1 (m : MD) (w : World) (hk : m.kind = 1) (ok : m.ok w) (hs : m.name.size ≤ 140737488355328) (hl : m.lang.size ≤ 140737488355328) : Calls Tryz.prog 17 #[m.val] w (FieldsPost w m) := by
  have hpost : ∀ (w' : World) (A : Option Addr) (c : Nat) (fs : List FD), Only [] w w' → RdF w' A fs → fs.map FD.pf = [0, 1, 2].map (partP m) → fs.length ≤ c → c ≤ maxLen → FieldsPost w m (.returned (.tuple #[.slice A fs.length c, .bool true])) w' := fun w' A c fs h1 h2 h3 h4 h5 => by
    refine ⟨h1, ?_⟩
    rw [show rowL m.kind = some [0, 1, 2] by rw [hk]; rfl]
    exact ⟨A, c, fs, rfl, h2, h3, h4, h5⟩
  have ok0 := ok
  obtain ⟨w1, hw1⟩ : ∃ w1, w1 = w.alloc (.cells #[.int .i64 m.kind, .int .u32 m.chan, .int .u32 m.sender, .int .u32 m.window, .int .u32 m.packet, .int .u32 m.code, .string m.name, .string m.lang, .bool m.want, .slice m.dA m.data.length m.dc] 25) := ⟨_, rfl⟩
  have O1 : Only [] w w1 := by rw [hw1]; exact (Only.refl _ _).alloc _
  have K1 : Blk w1 w.heap.size 25 m.cells := by rw [hw1]; exact Blk.new w _ _
  have hkv := hk
  replace hpost := hide hpost
  unfold MD.val
  rw [hk] at hw1 ⊢
  replace hk := hide hk
  go_enter Tryz.func17, Tryz.ntmps17
  go_wp2_with fail
  rw [← hw1]
  replace hw1 := hide hw1
  have hI1 : (fun w' : World => Blk w' w.heap.size 25 m.cells) { w1 with drawn := w1.drawn + 1 } := K1
  refine wp_region_E (fun w' : World => Blk w' w.heap.size 25 m.cells) [] (by kernel_rfl) ?_
  refine wpAnyE_take 0 (v := (.pointer (some ⟨w.heap.size, 5, none⟩))) rfl (by kernel_rfl) (fun _ _ _ h => h) hI1 (fun w' hw' => Or.inl ⟨by kernel_rfl, Or.inl (by go_simp)⟩) ?_
  refine wpAnyE_take 1 (v := (.int .u32 m.code)) rfl (by kernel_rfl) (fun _ _ _ h => h) hI1 (fun w' hw' => Or.inl ⟨by kernel_rfl, Or.inl (by have y : w'.cell? ⟨w.heap.size, 5, none⟩ = some (.int .u32 m.code) := Blk.cell hw' 5; go_simp)⟩) ?_
  refine wpAnyE_take 3 (v := (.pointer (some ⟨w.heap.size, 9, none⟩))) rfl (by kernel_rfl) (fun _ _ _ h => h) hI1 (fun w' hw' => Or.inl ⟨by kernel_rfl, Or.inl (by go_simp)⟩) ?_
  refine wpAnyE_take 4 (v := (.slice m.dA m.data.length m.dc)) rfl (by kernel_rfl) (fun _ _ _ h => h) hI1 (fun w' hw' => Or.inl ⟨by kernel_rfl, Or.inl (by have y : w'.cell? ⟨w.heap.size, 9, none⟩ = some (.slice m.dA m.data.length m.dc) := Blk.cell hw' 9; go_simp)⟩) ?_
  refine wpAnyE_take 6 (v := (.pointer (some ⟨w.heap.size, 7, none⟩))) rfl (by kernel_rfl) (fun _ _ _ h => h) hI1 (fun w' hw' => Or.inl ⟨by kernel_rfl, Or.inl (by go_simp)⟩) ?_
  refine wpAnyE_take 7 (v := (.string m.lang)) rfl (by kernel_rfl) (fun _ _ _ h => h) hI1 (fun w' hw' => Or.inl ⟨by kernel_rfl, Or.inl (by have y : w'.cell? ⟨w.heap.size, 7, none⟩ = some (.string m.lang) := Blk.cell hw' 7; go_simp)⟩) ?_
  refine wpAnyE_one 2 rfl (by kernel_rfl) hI1 (fun K hK => ?_)
  rw [if_pos (by kernel_rfl)]
  go_simp
  have C0 := mkNumber_any w1.drew m.code (ok0.nums.2.2.2.2)
  go_call C0 as e w2 ⟨P2, f0, rfl, p0, g0, n0⟩
  have O2 : Only [] w w2 := O1.drew.trans P2 (by simp)
  have hI2 : (fun w' : World => Blk w' w.heap.size 25 m.cells) w2 := Blk.only K1.drew P2 (by simp)
  refine hK _ _ ?_
  clear hK K C0
  refine wpAnyE_one 5 rfl (by kernel_rfl) hI2 (fun K hK => ?_)
  rw [if_pos (by kernel_rfl)]
  go_simp
  have C1 := mkBytes_any w2 m.dA m.data m.dc (ok.only O2).data ok0.dle ok0.dmax
  go_call C1 as e w3 ⟨P3, f1, rfl, p1, g1, n1⟩
  have O3 : Only [] w w3 := O2.trans P3 (by simp)
  have hI3 : (fun w' : World => Blk w' w.heap.size 25 m.cells) w3 := Blk.only hI2 P3 (by simp)
  refine hK _ _ ?_
  clear hK K C1
  refine wpAnyE_one 8 rfl (by kernel_rfl) hI3 (fun K hK => ?_)
  rw [if_pos (by kernel_rfl)]
  go_simp
  have C2 := mkText_any w3 m.lang hl
  go_call C2 as e w4 ⟨P4, f2, rfl, p2, g2, n2⟩
  have O4 : Only [] w w4 := O3.trans P4 (by simp)
  have hI4 : (fun w' : World => Blk w' w.heap.size 25 m.cells) w4 := Blk.only hI3 P4 (by simp)
  refine hK _ _ ?_
  clear hK K C2
  unfold FD.val
  refine wpAnyE_one 9 rfl (by kernel_rfl) hI4 (fun K hK => ?_)
  rw [if_pos (by kernel_rfl)]
  go_simp
  refine hK _ _ ?_
  clear hK K
  have hIZ : (fun w' : World => Blk w' w.heap.size 25 m.cells) (w4.alloc (.cells #[.int .i64 f0.kind, .int .u32 f0.n, .slice f0.tA f0.text.length f0.tc, .slice f0.lA f0.list.length f0.lc, .int .i64 f1.kind, .int .u32 f1.n, .slice f1.tA f1.text.length f1.tc, .slice f1.lA f1.list.length f1.lc, .int .i64 f2.kind, .int .u32 f2.n, .slice f2.tA f2.text.length f2.tc, .slice f2.lA f2.list.length f2.lc] 49)) := Blk.alloc hI4 _
  refine wpAnyE_take 10 (v := (.slice (some ⟨w4.heap.size, 0, none⟩) 3 3)) rfl (by kernel_rfl) (fun _ _ _ h => h) hIZ (fun w' hw' => Or.inl ⟨by kernel_rfl, Or.inl (by go_simp)⟩) ?_
  refine wpAnyE_take 11 (v := (.bool true)) rfl (by kernel_rfl) (fun _ _ _ h => h) hIZ (fun w' hw' => Or.inl ⟨by kernel_rfl, Or.inl (by go_simp)⟩) ?_
  refine wpAnyE_end (by kernel_rfl) hIZ ?_
  simp only [Exit.then]
  go_wp2_with fail
  go_ret2
  have Z : ∀ f ∈ [f0, f1, f2], f.ok w4 ∧ 0 ≤ f.n ∧ f.n ≤ 4294967295 := by
    intro f hf
    simp only [List.mem_cons, List.mem_nil_iff, or_false] at hf
    rcases hf with rfl | rfl | rfl
    · exact ⟨((g0.only P3).only P4), n0⟩
    · exact ⟨(g1.only P4), n1⟩
    · exact ⟨g2, n2⟩
  have RZ := rdF_new w4 [f0, f1, f2] #[.int .i64 f0.kind, .int .u32 f0.n, .slice f0.tA f0.text.length f0.tc, .slice f0.lA f0.list.length f0.lc, .int .i64 f1.kind, .int .u32 f1.n, .slice f1.tA f1.text.length f1.tc, .slice f1.lA f1.list.length f1.lc, .int .i64 f2.kind, .int .u32 f2.n, .slice f2.tA f2.text.length f2.tc, .slice f2.lA f2.list.length f2.lc] rfl Z
  exact hpost.out _ (some ⟨w4.heap.size, 0, none⟩) 3 [f0, f1, f2] (O4.alloc _) RZ (by simp only [List.map_cons, List.map_nil, p0, p1, p2]; rfl) (Nat.le_refl _) (by simp [maxLen])
set_option maxRecDepth 100000 in
set_option maxHeartbeats 6400000 in
theorem fields_k80 (m : MD) (w : World) (hk : m.kind = 80) (ok : m.ok w) (hs : m.name.size ≤ 140737488355328) (hl : m.lang.size ≤ 140737488355328) : Calls Tryz.prog 17 #[m.val] w (FieldsPost w m) := by
  have hpost : ∀ (w' : World) (A : Option Addr) (c : Nat) (fs : List FD), Only [] w w' → RdF w' A fs → fs.map FD.pf = [3, 4, 5].map (partP m) → fs.length ≤ c → c ≤ maxLen → FieldsPost w m (.returned (.tuple #[.slice A fs.length c, .bool true])) w' := fun w' A c fs h1 h2 h3 h4 h5 => by
    refine ⟨h1, ?_⟩
    rw [show rowL m.kind = some [3, 4, 5] by rw [hk]; rfl]
    exact ⟨A, c, fs, rfl, h2, h3, h4, h5⟩
  have ok0 := ok
  obtain ⟨w1, hw1⟩ : ∃ w1, w1 = w.alloc (.cells #[.int .i64 m.kind, .int .u32 m.chan, .int .u32 m.sender, .int .u32 m.window, .int .u32 m.packet, .int .u32 m.code, .string m.name, .string m.lang, .bool m.want, .slice m.dA m.data.length m.dc] 25) := ⟨_, rfl⟩
  have O1 : Only [] w w1 := by rw [hw1]; exact (Only.refl _ _).alloc _
  have K1 : Blk w1 w.heap.size 25 m.cells := by rw [hw1]; exact Blk.new w _ _
  have hkv := hk
  replace hpost := hide hpost
  unfold MD.val
  rw [hk] at hw1 ⊢
  replace hk := hide hk
  go_enter Tryz.func17, Tryz.ntmps17
  go_wp2_with fail
  rw [← hw1]
  replace hw1 := hide hw1
  have hI1 : (fun w' : World => Blk w' w.heap.size 25 m.cells) { w1 with drawn := w1.drawn + 1 } := K1
  refine wp_region_E (fun w' : World => Blk w' w.heap.size 25 m.cells) [] (by kernel_rfl) ?_
  refine wpAnyE_take 0 (v := (.pointer (some ⟨w.heap.size, 6, none⟩))) rfl (by kernel_rfl) (fun _ _ _ h => h) hI1 (fun w' hw' => Or.inl ⟨by kernel_rfl, Or.inl (by go_simp)⟩) ?_
  refine wpAnyE_take 1 (v := (.string m.name)) rfl (by kernel_rfl) (fun _ _ _ h => h) hI1 (fun w' hw' => Or.inl ⟨by kernel_rfl, Or.inl (by have y : w'.cell? ⟨w.heap.size, 6, none⟩ = some (.string m.name) := Blk.cell hw' 6; go_simp)⟩) ?_
  refine wpAnyE_take 3 (v := (.pointer (some ⟨w.heap.size, 8, none⟩))) rfl (by kernel_rfl) (fun _ _ _ h => h) hI1 (fun w' hw' => Or.inl ⟨by kernel_rfl, Or.inl (by go_simp)⟩) ?_
  refine wpAnyE_take 4 (v := (.bool m.want)) rfl (by kernel_rfl) (fun _ _ _ h => h) hI1 (fun w' hw' => Or.inl ⟨by kernel_rfl, Or.inl (by have y : w'.cell? ⟨w.heap.size, 8, none⟩ = some (.bool m.want) := Blk.cell hw' 8; go_simp)⟩) ?_
  refine wpAnyE_take 6 (v := (.pointer (some ⟨w.heap.size, 9, none⟩))) rfl (by kernel_rfl) (fun _ _ _ h => h) hI1 (fun w' hw' => Or.inl ⟨by kernel_rfl, Or.inl (by go_simp)⟩) ?_
  refine wpAnyE_take 7 (v := (.slice m.dA m.data.length m.dc)) rfl (by kernel_rfl) (fun _ _ _ h => h) hI1 (fun w' hw' => Or.inl ⟨by kernel_rfl, Or.inl (by have y : w'.cell? ⟨w.heap.size, 9, none⟩ = some (.slice m.dA m.data.length m.dc) := Blk.cell hw' 9; go_simp)⟩) ?_
  refine wpAnyE_one 2 rfl (by kernel_rfl) hI1 (fun K hK => ?_)
  rw [if_pos (by kernel_rfl)]
  go_simp
  have C0 := mkText_any w1.drew m.name hs
  go_call C0 as e w2 ⟨P2, f0, rfl, p0, g0, n0⟩
  have O2 : Only [] w w2 := O1.drew.trans P2 (by simp)
  have hI2 : (fun w' : World => Blk w' w.heap.size 25 m.cells) w2 := Blk.only K1.drew P2 (by simp)
  refine hK _ _ ?_
  clear hK K C0
  refine wpAnyE_one 5 rfl (by kernel_rfl) hI2 (fun K hK => ?_)
  rw [if_pos (by kernel_rfl)]
  go_simp
  have C1 := mkFlag_any w2 m.want
  go_call C1 as e w3 ⟨P3, f1, rfl, p1, g1, n1⟩
  have O3 : Only [] w w3 := O2.trans P3 (by simp)
  have hI3 : (fun w' : World => Blk w' w.heap.size 25 m.cells) w3 := Blk.only hI2 P3 (by simp)
  refine hK _ _ ?_
  clear hK K C1
  refine wpAnyE_one 8 rfl (by kernel_rfl) hI3 (fun K hK => ?_)
  rw [if_pos (by kernel_rfl)]
  go_simp
  have C2 := mkRest_any w3 m.dA m.data m.dc (ok.only O3).data ok0.dle ok0.dmax
  go_call C2 as e w4 ⟨P4, f2, rfl, p2, g2, n2⟩
  have O4 : Only [] w w4 := O3.trans P4 (by simp)
  have hI4 : (fun w' : World => Blk w' w.heap.size 25 m.cells) w4 := Blk.only hI3 P4 (by simp)
  refine hK _ _ ?_
  clear hK K C2
  unfold FD.val
  refine wpAnyE_one 9 rfl (by kernel_rfl) hI4 (fun K hK => ?_)
  rw [if_pos (by kernel_rfl)]
  go_simp
  refine hK _ _ ?_
  clear hK K
  have hIZ : (fun w' : World => Blk w' w.heap.size 25 m.cells) (w4.alloc (.cells #[.int .i64 f0.kind, .int .u32 f0.n, .slice f0.tA f0.text.length f0.tc, .slice f0.lA f0.list.length f0.lc, .int .i64 f1.kind, .int .u32 f1.n, .slice f1.tA f1.text.length f1.tc, .slice f1.lA f1.list.length f1.lc, .int .i64 f2.kind, .int .u32 f2.n, .slice f2.tA f2.text.length f2.tc, .slice f2.lA f2.list.length f2.lc] 49)) := Blk.alloc hI4 _
  refine wpAnyE_take 10 (v := (.slice (some ⟨w4.heap.size, 0, none⟩) 3 3)) rfl (by kernel_rfl) (fun _ _ _ h => h) hIZ (fun w' hw' => Or.inl ⟨by kernel_rfl, Or.inl (by go_simp)⟩) ?_
  refine wpAnyE_take 11 (v := (.bool true)) rfl (by kernel_rfl) (fun _ _ _ h => h) hIZ (fun w' hw' => Or.inl ⟨by kernel_rfl, Or.inl (by go_simp)⟩) ?_
  refine wpAnyE_end (by kernel_rfl) hIZ ?_
  simp only [Exit.then]
  go_wp2_with fail
  go_ret2
  have Z : ∀ f ∈ [f0, f1, f2], f.ok w4 ∧ 0 ≤ f.n ∧ f.n ≤ 4294967295 := by
    intro f hf
    simp only [List.mem_cons, List.mem_nil_iff, or_false] at hf
    rcases hf with rfl | rfl | rfl
    · exact ⟨((g0.only P3).only P4), n0⟩
    · exact ⟨(g1.only P4), n1⟩
    · exact ⟨g2, n2⟩
  have RZ := rdF_new w4 [f0, f1, f2] #[.int .i64 f0.kind, .int .u32 f0.n, .slice f0.tA f0.text.length f0.tc, .slice f0.lA f0.list.length f0.lc, .int .i64 f1.kind, .int .u32 f1.n, .slice f1.tA f1.text.length f1.tc, .slice f1.lA f1.list.length f1.lc, .int .i64 f2.kind, .int .u32 f2.n, .slice f2.tA f2.text.length f2.tc, .slice f2.lA f2.list.length f2.lc] rfl Z
  exact hpost.out _ (some ⟨w4.heap.size, 0, none⟩) 3 [f0, f1, f2] (O4.alloc _) RZ (by simp only [List.map_cons, List.map_nil, p0, p1, p2]; rfl) (Nat.le_refl _) (by simp [maxLen])
set_option maxRecDepth 100000 in
set_option maxHeartbeats 6400000 in
theorem fields_k81 (m : MD) (w : World) (hk : m.kind = 81) (ok : m.ok w) (hs : m.name.size ≤ 140737488355328) (hl : m.lang.size ≤ 140737488355328) : Calls Tryz.prog 17 #[m.val] w (FieldsPost w m) := by
  have hpost : ∀ (w' : World) (A : Option Addr) (c : Nat) (fs : List FD), Only [] w w' → RdF w' A fs → fs.map FD.pf = [5].map (partP m) → fs.length ≤ c → c ≤ maxLen → FieldsPost w m (.returned (.tuple #[.slice A fs.length c, .bool true])) w' := fun w' A c fs h1 h2 h3 h4 h5 => by
    refine ⟨h1, ?_⟩
    rw [show rowL m.kind = some [5] by rw [hk]; rfl]
    exact ⟨A, c, fs, rfl, h2, h3, h4, h5⟩
  have ok0 := ok
  obtain ⟨w1, hw1⟩ : ∃ w1, w1 = w.alloc (.cells #[.int .i64 m.kind, .int .u32 m.chan, .int .u32 m.sender, .int .u32 m.window, .int .u32 m.packet, .int .u32 m.code, .string m.name, .string m.lang, .bool m.want, .slice m.dA m.data.length m.dc] 25) := ⟨_, rfl⟩
  have O1 : Only [] w w1 := by rw [hw1]; exact (Only.refl _ _).alloc _
  have K1 : Blk w1 w.heap.size 25 m.cells := by rw [hw1]; exact Blk.new w _ _
  have hkv := hk
  replace hpost := hide hpost
  unfold MD.val
  rw [hk] at hw1 ⊢
  replace hk := hide hk
  go_enter Tryz.func17, Tryz.ntmps17
  go_wp2_with fail
  rw [← hw1]
  replace hw1 := hide hw1
  have C0 := mkRest_any w1 m.dA m.data m.dc (ok.only O1).data ok0.dle ok0.dmax
  go_call C0 as e w2 ⟨P2, f0, rfl, p0, g0, n0⟩
  have O2 : Only [] w w2 := O1.trans P2 (by simp)
  clear C0
  unfold FD.val
  go_wp2_with fail
  go_ret2
  have Z : ∀ f ∈ [f0], f.ok w2 ∧ 0 ≤ f.n ∧ f.n ≤ 4294967295 := by
    intro f hf
    simp only [List.mem_cons, List.mem_nil_iff, or_false] at hf
    subst hf
    exact ⟨g0, n0⟩
  have RZ := rdF_new w2 [f0] #[.int .i64 f0.kind, .int .u32 f0.n, .slice f0.tA f0.text.length f0.tc, .slice f0.lA f0.list.length f0.lc] rfl Z
  exact hpost.out _ (some ⟨w2.heap.size, 0, none⟩) 1 [f0] (O2.alloc _) RZ (by simp only [List.map_cons, List.map_nil, p0]; rfl) (Nat.le_refl _) (by simp [maxLen])
set_option maxRecDepth 100000 in
set_option maxHeartbeats 6400000 in
theorem fields_k82 (m : MD) (w : World) (hk : m.kind = 82) (ok : m.ok w) (hs : m.name.size ≤ 140737488355328) (hl : m.lang.size ≤ 140737488355328) : Calls Tryz.prog 17 #[m.val] w (FieldsPost w m) := by
  have hpost : ∀ (w' : World) (A : Option Addr) (c : Nat) (fs : List FD), Only [] w w' → RdF w' A fs → fs.map FD.pf = ([] : List Nat).map (partP m) → fs.length ≤ c → c ≤ maxLen → FieldsPost w m (.returned (.tuple #[.slice A fs.length c, .bool true])) w' := fun w' A c fs h1 h2 h3 h4 h5 => by
    refine ⟨h1, ?_⟩
    rw [show rowL m.kind = some [] by rw [hk]; rfl]
    exact ⟨A, c, fs, rfl, h2, h3, h4, h5⟩
  have ok0 := ok
  obtain ⟨w1, hw1⟩ : ∃ w1, w1 = w.alloc (.cells #[.int .i64 m.kind, .int .u32 m.chan, .int .u32 m.sender, .int .u32 m.window, .int .u32 m.packet, .int .u32 m.code, .string m.name, .string m.lang, .bool m.want, .slice m.dA m.data.length m.dc] 25) := ⟨_, rfl⟩
  have O1 : Only [] w w1 := by rw [hw1]; exact (Only.refl _ _).alloc _
  have K1 : Blk w1 w.heap.size 25 m.cells := by rw [hw1]; exact Blk.new w _ _
  have hkv := hk
  replace hpost := hide hpost
  unfold MD.val
  rw [hk] at hw1 ⊢
  replace hk := hide hk
  go_enter Tryz.func17, Tryz.ntmps17
  go_wp2_with fail
  (try simp only [Exit.inBlock, Exit.then])
  go_ret2
  rw [← hw1]
  exact hpost.out w1 none 0 [] O1 ⟨fun h => absurd h (Nat.lt_irrefl _), fun f hf => by simp at hf⟩ rfl (Nat.le_refl _) (by simp [maxLen])
set_option maxRecDepth 100000 in
set_option maxHeartbeats 6400000 in
theorem fields_k96 (m : MD) (w : World) (hk : m.kind = 96) (ok : m.ok w) (hs : m.name.size ≤ 140737488355328) (hl : m.lang.size ≤ 140737488355328) : Calls Tryz.prog 17 #[m.val] w (FieldsPost w m) := by
  have hpost : ∀ (w' : World) (A : Option Addr) (c : Nat) (fs : List FD), Only [] w w' → RdF w' A fs → fs.map FD.pf = [9].map (partP m) → fs.length ≤ c → c ≤ maxLen → FieldsPost w m (.returned (.tuple #[.slice A fs.length c, .bool true])) w' := fun w' A c fs h1 h2 h3 h4 h5 => by
    refine ⟨h1, ?_⟩
    rw [show rowL m.kind = some [9] by rw [hk]; rfl]
    exact ⟨A, c, fs, rfl, h2, h3, h4, h5⟩
  have ok0 := ok
  obtain ⟨w1, hw1⟩ : ∃ w1, w1 = w.alloc (.cells #[.int .i64 m.kind, .int .u32 m.chan, .int .u32 m.sender, .int .u32 m.window, .int .u32 m.packet, .int .u32 m.code, .string m.name, .string m.lang, .bool m.want, .slice m.dA m.data.length m.dc] 25) := ⟨_, rfl⟩
  have O1 : Only [] w w1 := by rw [hw1]; exact (Only.refl _ _).alloc _
  have K1 : Blk w1 w.heap.size 25 m.cells := by rw [hw1]; exact Blk.new w _ _
  have hkv := hk
  replace hpost := hide hpost
  unfold MD.val
  rw [hk] at hw1 ⊢
  replace hk := hide hk
  go_enter Tryz.func17, Tryz.ntmps17
  go_wp2_with fail
  rw [← hw1]
  replace hw1 := hide hw1
  have C0 := mkNumber_any w1 m.chan (ok0.nums.1)
  go_call C0 as e w2 ⟨P2, f0, rfl, p0, g0, n0⟩
  have O2 : Only [] w w2 := O1.trans P2 (by simp)
  clear C0
  unfold FD.val
  go_wp2_with fail
  go_ret2
  have Z : ∀ f ∈ [f0], f.ok w2 ∧ 0 ≤ f.n ∧ f.n ≤ 4294967295 := by
    intro f hf
    simp only [List.mem_cons, List.mem_nil_iff, or_false] at hf
    subst hf
    exact ⟨g0, n0⟩
  have RZ := rdF_new w2 [f0] #[.int .i64 f0.kind, .int .u32 f0.n, .slice f0.tA f0.text.length f0.tc, .slice f0.lA f0.list.length f0.lc] rfl Z
  exact hpost.out _ (some ⟨w2.heap.size, 0, none⟩) 1 [f0] (O2.alloc _) RZ (by simp only [List.map_cons, List.map_nil, p0]; rfl) (Nat.le_refl _) (by simp [maxLen])
set_option maxRecDepth 100000 in
set_option maxHeartbeats 6400000 in
theorem fields_k97 (m : MD) (w : World) (hk : m.kind = 97) (ok : m.ok w) (hs : m.name.size ≤ 140737488355328) (hl : m.lang.size ≤ 140737488355328) : Calls Tryz.prog 17 #[m.val] w (FieldsPost w m) := by
  have hpost : ∀ (w' : World) (A : Option Addr) (c : Nat) (fs : List FD), Only [] w w' → RdF w' A fs → fs.map FD.pf = [9].map (partP m) → fs.length ≤ c → c ≤ maxLen → FieldsPost w m (.returned (.tuple #[.slice A fs.length c, .bool true])) w' := fun w' A c fs h1 h2 h3 h4 h5 => by
    refine ⟨h1, ?_⟩
    rw [show rowL m.kind = some [9] by rw [hk]; rfl]
    exact ⟨A, c, fs, rfl, h2, h3, h4, h5⟩
  have ok0 := ok
  obtain ⟨w1, hw1⟩ : ∃ w1, w1 = w.alloc (.cells #[.int .i64 m.kind, .int .u32 m.chan, .int .u32 m.sender, .int .u32 m.window, .int .u32 m.packet, .int .u32 m.code, .string m.name, .string m.lang, .bool m.want, .slice m.dA m.data.length m.dc] 25) := ⟨_, rfl⟩
  have O1 : Only [] w w1 := by rw [hw1]; exact (Only.refl _ _).alloc _
  have K1 : Blk w1 w.heap.size 25 m.cells := by rw [hw1]; exact Blk.new w _ _
  have hkv := hk
  replace hpost := hide hpost
  unfold MD.val
  rw [hk] at hw1 ⊢
  replace hk := hide hk
  go_enter Tryz.func17, Tryz.ntmps17
  go_wp2_with fail
  rw [← hw1]
  replace hw1 := hide hw1
  have C0 := mkNumber_any w1 m.chan (ok0.nums.1)
  go_call C0 as e w2 ⟨P2, f0, rfl, p0, g0, n0⟩
  have O2 : Only [] w w2 := O1.trans P2 (by simp)
  clear C0
  unfold FD.val
  go_wp2_with fail
  go_ret2
  have Z : ∀ f ∈ [f0], f.ok w2 ∧ 0 ≤ f.n ∧ f.n ≤ 4294967295 := by
    intro f hf
    simp only [List.mem_cons, List.mem_nil_iff, or_false] at hf
    subst hf
    exact ⟨g0, n0⟩
  have RZ := rdF_new w2 [f0] #[.int .i64 f0.kind, .int .u32 f0.n, .slice f0.tA f0.text.length f0.tc, .slice f0.lA f0.list.length f0.lc] rfl Z
  exact hpost.out _ (some ⟨w2.heap.size, 0, none⟩) 1 [f0] (O2.alloc _) RZ (by simp only [List.map_cons, List.map_nil, p0]; rfl) (Nat.le_refl _) (by simp [maxLen])
set_option maxRecDepth 100000 in
set_option maxHeartbeats 6400000 in
theorem fields_k99 (m : MD) (w : World) (hk : m.kind = 99) (ok : m.ok w) (hs : m.name.size ≤ 140737488355328) (hl : m.lang.size ≤ 140737488355328) : Calls Tryz.prog 17 #[m.val] w (FieldsPost w m) := by
  have hpost : ∀ (w' : World) (A : Option Addr) (c : Nat) (fs : List FD), Only [] w w' → RdF w' A fs → fs.map FD.pf = [9].map (partP m) → fs.length ≤ c → c ≤ maxLen → FieldsPost w m (.returned (.tuple #[.slice A fs.length c, .bool true])) w' := fun w' A c fs h1 h2 h3 h4 h5 => by
    refine ⟨h1, ?_⟩
    rw [show rowL m.kind = some [9] by rw [hk]; rfl]
    exact ⟨A, c, fs, rfl, h2, h3, h4, h5⟩
  have ok0 := ok
  obtain ⟨w1, hw1⟩ : ∃ w1, w1 = w.alloc (.cells #[.int .i64 m.kind, .int .u32 m.chan, .int .u32 m.sender, .int .u32 m.window, .int .u32 m.packet, .int .u32 m.code, .string m.name, .string m.lang, .bool m.want, .slice m.dA m.data.length m.dc] 25) := ⟨_, rfl⟩
  have O1 : Only [] w w1 := by rw [hw1]; exact (Only.refl _ _).alloc _
  have K1 : Blk w1 w.heap.size 25 m.cells := by rw [hw1]; exact Blk.new w _ _
  have hkv := hk
  replace hpost := hide hpost
  unfold MD.val
  rw [hk] at hw1 ⊢
  replace hk := hide hk
  go_enter Tryz.func17, Tryz.ntmps17
  go_wp2_with fail
  rw [← hw1]
  replace hw1 := hide hw1
  have C0 := mkNumber_any w1 m.chan (ok0.nums.1)
  go_call C0 as e w2 ⟨P2, f0, rfl, p0, g0, n0⟩
  have O2 : Only [] w w2 := O1.trans P2 (by simp)
  clear C0
  unfold FD.val
  go_wp2_with fail
  go_ret2
  have Z : ∀ f ∈ [f0], f.ok w2 ∧ 0 ≤ f.n ∧ f.n ≤ 4294967295 := by
    intro f hf
    simp only [List.mem_cons, List.mem_nil_iff, or_false] at hf
    subst hf
    exact ⟨g0, n0⟩
  have RZ := rdF_new w2 [f0] #[.int .i64 f0.kind, .int .u32 f0.n, .slice f0.tA f0.text.length f0.tc, .slice f0.lA f0.list.length f0.lc] rfl Z
  exact hpost.out _ (some ⟨w2.heap.size, 0, none⟩) 1 [f0] (O2.alloc _) RZ (by simp only [List.map_cons, List.map_nil, p0]; rfl) (Nat.le_refl _) (by simp [maxLen])
set_option maxRecDepth 100000 in
set_option maxHeartbeats 6400000 in
theorem fields_k100 (m : MD) (w : World) (hk : m.kind = 100) (ok : m.ok w) (hs : m.name.size ≤ 140737488355328) (hl : m.lang.size ≤ 140737488355328) : Calls Tryz.prog 17 #[m.val] w (FieldsPost w m) := by
  have hpost : ∀ (w' : World) (A : Option Addr) (c : Nat) (fs : List FD), Only [] w w' → RdF w' A fs → fs.map FD.pf = [9].map (partP m) → fs.length ≤ c → c ≤ maxLen → FieldsPost w m (.returned (.tuple #[.slice A fs.length c, .bool true])) w' := fun w' A c fs h1 h2 h3 h4 h5 => by
    refine ⟨h1, ?_⟩
    rw [show rowL m.kind = some [9] by rw [hk]; rfl]
    exact ⟨A, c, fs, rfl, h2, h3, h4, h5⟩
  have ok0 := ok
  obtain ⟨w1, hw1⟩ : ∃ w1, w1 = w.alloc (.cells #[.int .i64 m.kind, .int .u32 m.chan, .int .u32 m.sender, .int .u32 m.window, .int .u32 m.packet, .int .u32 m.code, .string m.name, .string m.lang, .bool m.want, .slice m.dA m.data.length m.dc] 25) := ⟨_, rfl⟩
  have O1 : Only [] w w1 := by rw [hw1]; exact (Only.refl _ _).alloc _
  have K1 : Blk w1 w.heap.size 25 m.cells := by rw [hw1]; exact Blk.new w _ _
  have hkv := hk
  replace hpost := hide hpost
  unfold MD.val
  rw [hk] at hw1 ⊢
  replace hk := hide hk
  go_enter Tryz.func17, Tryz.ntmps17
  go_wp2_with fail
  rw [← hw1]
  replace hw1 := hide hw1
  have C0 := mkNumber_any w1 m.chan (ok0.nums.1)
  go_call C0 as e w2 ⟨P2, f0, rfl, p0, g0, n0⟩
  have O2 : Only [] w w2 := O1.trans P2 (by simp)
  clear C0
  unfold FD.val
  go_wp2_with fail
  go_ret2
  have Z : ∀ f ∈ [f0], f.ok w2 ∧ 0 ≤ f.n ∧ f.n ≤ 4294967295 := by
    intro f hf
    simp only [List.mem_cons, List.mem_nil_iff, or_false] at hf
    subst hf
    exact ⟨g0, n0⟩
  have RZ := rdF_new w2 [f0] #[.int .i64 f0.kind, .int .u32 f0.n, .slice f0.tA f0.text.length f0.tc, .slice f0.lA f0.list.length f0.lc] rfl Z
  exact hpost.out _ (some ⟨w2.heap.size, 0, none⟩) 1 [f0] (O2.alloc _) RZ (by simp only [List.map_cons, List.map_nil, p0]; rfl) (Nat.le_refl _) (by simp [maxLen])
end Go.Proofs.YtdmjabfjkkjhbaaGreatDoor
