/- Layer 4: what is asked of a request; no condition. -/
import Derived.Test.YtdplnedpbkpgpaaGreatDoorReqB
import Derived.Test.YtdplnedpbkpgpaaGreatDoorReqA
import Derived.Test.YtdplnedpbkpgpaaGreatDoorShelf
namespace Go.Proofs.YtdplnedpbkpgpaaGreatDoor
set_option linter.all false
open Go.RowKit

theorem index_mem (c : UInt8) : ∀ l : List UInt8, decide (0 ≤ Lib.indexByte l c) = decide (c ∈ l)
  | [] => by simp [Lib.indexByte]
  | b :: l => by
    have ih := index_mem c l
    have hge := Lib.indexByte_ge l c
    unfold Lib.indexByte
    by_cases hb : b = c
    · subst hb; simp
    · have hcb : ¬ c = b := fun e => hb e.symm
      rw [if_neg (by simpa using hb)]
      by_cases h1 : Lib.indexByte l c = -1
      · rw [h1] at ih ⊢
        simp [hcb] at ih ⊢
        exact ih
      · rw [if_neg (by simpa using h1)]
        have h0 : 0 ≤ Lib.indexByte l c := by omega
        rw [decide_eq_true h0] at ih
        rw [decide_eq_true (show 0 ≤ Lib.indexByte l c + 1 by omega)]
        have := of_decide_eq_true ih.symm
        simp [this]
theorem rhas_any (s : ByteArray) (w : World) : Calls Tryz.prog 133 #[.string s, .string ⟨#[61]⟩] w fun e w' => e = .returned (.bool (hasEq s)) ∧ w = w' :=
  (Tryz.strings_Contains_one s 61 w).mono fun e w' ⟨h1, h2⟩ => ⟨by rw [h1, index_mem]; rfl, h2.symm⟩
section
variable (m : RQ) (g : Nat) (w : World)
theorem askNoneR_any : Calls Tryz.prog 79 #[.pointer (some ⟨g, 0, none⟩)] w fun e w' => e = .returned (.int .i64 0) ∧ Only [] w w' := by
  go_enter Tryz.func79, Tryz.ntmps79
  go_wp2
  go_ret
  exact ⟨rfl, Only.refl _ _⟩
set_option maxRecDepth 100000 in
set_option maxHeartbeats 1600000 in
theorem askWordR_any (hg : Blk w g 119 m.cells) (hm : m.ok w) : Calls Tryz.prog 83 #[.pointer (some ⟨g, 0, none⟩)] w fun e w' => e = .returned (.int .i64 (wordE m.text 1)) ∧ Only [] w w' := by
  have c1 : w.cell? ⟨g, 1, none⟩ = some (.string m.text) := hg.cell 1
  have T := rword_any m.text 1 w hm.text
  go_enter Tryz.func83, Tryz.ntmps83
  go_wp2_with fail
  go_call T as e x ⟨rfl, rfl⟩
  clear T
  go_wp2_with fail
  go_ret
  exact ⟨rfl, Only.refl _ _⟩
set_option maxRecDepth 100000 in
set_option maxHeartbeats 1600000 in
theorem askExecR_any (hg : Blk w g 119 m.cells) (hm : m.ok w) : Calls Tryz.prog 82 #[.pointer (some ⟨g, 0, none⟩)] w fun e w' => e = .returned (.int .i64 (longE m.text.size)) ∧ Only [] w w' := by
  have c1 : w.cell? ⟨g, 1, none⟩ = some (.string m.text) := hg.cell 1
  have T := rlong_any m.text.size w
  go_enter Tryz.func82, Tryz.ntmps82
  go_wp2_with fail
  go_call T as e x ⟨rfl, rfl⟩
  clear T
  go_wp2_with fail
  go_ret
  exact ⟨rfl, Only.refl _ _⟩
set_option maxRecDepth 100000 in
set_option maxHeartbeats 1600000 in
theorem askPtyR_any (hg : Blk w g 119 m.cells) (hm : m.ok w) : Calls Tryz.prog 73 #[.pointer (some ⟨g, 0, none⟩)] w fun e w' => e = .returned (.int .i64 (firstE [wordE m.text 0, longE m.modes.length])) ∧ Only [] w w' := by
  have hlt := hg.lt
  go_enter Tryz.func73, Tryz.ntmps73
  go_wp2_with fail
  have hI : (fun w' : World => Blk w' g 119 m.cells) { w with drawn := w.drawn + 1 } := hg
  refine wp_region_E (fun w' : World => Blk w' g 119 m.cells) [] (by kernel_rfl) ?_
  refine wpAnyE_take 0 (v := (.pointer (some ⟨g, 0, none⟩))) rfl (by kernel_rfl) (fun _ _ _ h => h) hI (fun w' hw' => Or.inl ⟨by kernel_rfl, Or.inl (by go_simp)⟩) ?_
  refine wpAnyE_take 1 (v := (.pointer (some ⟨g, 0, none⟩))) rfl (by kernel_rfl) (fun _ _ _ h => h) hI (fun w' hw' => Or.inl ⟨by kernel_rfl, Or.inl (by go_simp)⟩) ?_
  refine wpAnyE_take 2 (v := (.pointer (some ⟨g, 0, none⟩))) rfl (by kernel_rfl) (fun _ _ _ h => h) hI (fun w' hw' => Or.inl ⟨by kernel_rfl, Or.inl (by go_simp)⟩) ?_
  refine wpAnyE_take 3 (v := (.pointer (some ⟨g, 1, none⟩))) rfl (by kernel_rfl) (fun _ _ _ h => h) hI (fun w' hw' => Or.inl ⟨by kernel_rfl, Or.inl (by go_simp)⟩) ?_
  refine wpAnyE_take 4 (v := (.string m.text)) rfl (by kernel_rfl) (fun _ _ _ h => h) hI (fun w' hw' => Or.inl ⟨by kernel_rfl, Or.inl (by have y0 : w'.cell? ⟨g, 1, none⟩ = some (.string m.text) := hw'.cell 1; go_simp)⟩) ?_
  refine wpAnyE_take 6 (v := (.pointer (some ⟨g, 0, none⟩))) rfl (by kernel_rfl) (fun _ _ _ h => h) hI (fun w' hw' => Or.inl ⟨by kernel_rfl, Or.inl (by go_simp)⟩) ?_
  refine wpAnyE_take 7 (v := (.pointer (some ⟨g, 0, none⟩))) rfl (by kernel_rfl) (fun _ _ _ h => h) hI (fun w' hw' => Or.inl ⟨by kernel_rfl, Or.inl (by go_simp)⟩) ?_
  refine wpAnyE_take 8 (v := (.pointer (some ⟨g, 0, none⟩))) rfl (by kernel_rfl) (fun _ _ _ h => h) hI (fun w' hw' => Or.inl ⟨by kernel_rfl, Or.inl (by go_simp)⟩) ?_
  refine wpAnyE_take 9 (v := (.pointer (some ⟨g, 8, none⟩))) rfl (by kernel_rfl) (fun _ _ _ h => h) hI (fun w' hw' => Or.inl ⟨by kernel_rfl, Or.inl (by go_simp)⟩) ?_
  refine wpAnyE_take 10 (v := (.slice m.mA m.modes.length m.mc)) rfl (by kernel_rfl) (fun _ _ _ h => h) hI (fun w' hw' => Or.inl ⟨by kernel_rfl, Or.inl (by have y0 : w'.cell? ⟨g, 8, none⟩ = some (.slice m.mA m.modes.length m.mc) := hw'.cell 8; go_simp)⟩) ?_
  refine wpAnyE_take 11 (v := (.int .i64 (m.modes.length : Int))) rfl (by kernel_rfl) (fun _ _ _ h => h) hI (fun w' hw' => Or.inl ⟨by kernel_rfl, Or.inl (by go_simp)⟩) ?_
  have T := rword_any m.text 0 w.drew hm.text
  refine wpAnyE_one 5 rfl (by kernel_rfl) hI (fun K hK => ?_)
  rw [if_pos (by kernel_rfl)]
  go_simp
  go_call T as e x ⟨rfl, rfl⟩
  clear T
  refine hK _ _ ?_
  clear hK K
  have T := rlong_any (m.modes.length) w.drew
  refine wpAnyE_one 12 rfl (by kernel_rfl) hI (fun K hK => ?_)
  rw [if_pos (by kernel_rfl)]
  go_simp
  go_call T as e x ⟨rfl, rfl⟩
  clear T
  refine hK _ _ ?_
  clear hK K
  refine wpAnyE_one 13 rfl (by kernel_rfl) hI (fun K hK => ?_)
  rw [if_pos (by kernel_rfl)]
  go_simp
  refine hK _ _ ?_
  clear hK K
  have PL : Only [] w ((w.alloc (.cells #[.int .i64 (wordE m.text 0), .int .i64 (longE m.modes.length)] 65)).drew) := ((Only.refl [] w).alloc _).drew
  have hIL : (fun w' : World => Blk w' g 119 m.cells) ((w.alloc (.cells #[.int .i64 (wordE m.text 0), .int .i64 (longE m.modes.length)] 65)).drew) := hg.only PL (by simp)
  have RL : RdI ((w.alloc (.cells #[.int .i64 (wordE m.text 0), .int .i64 (longE m.modes.length)] 65)).drew) (some ⟨w.heap.size, 0, none⟩) [(wordE m.text 0), (longE m.modes.length)] := rdI_blk (Blk.new w 65 ([(wordE m.text 0), (longE m.modes.length)].map (.int .i64)))
  have T := rfirst_any (some ⟨w.heap.size, 0, none⟩) [(wordE m.text 0), (longE m.modes.length)] 2 _ RL (by simp [maxLen])
  refine wpAnyE_one 14 rfl (by kernel_rfl) hIL (fun K hK => ?_)
  rw [if_pos (by kernel_rfl)]
  go_simp
  go_call T as e x ⟨rfl, rfl⟩
  clear T
  refine hK _ _ ?_
  clear hK K
  refine wpAnyE_take 15 (v := (.int .i64 (firstE [(wordE m.text 0), (longE m.modes.length)]))) rfl (by kernel_rfl) (fun _ _ _ h => h) hIL (fun w' hw' => Or.inl ⟨by kernel_rfl, Or.inl (by go_simp)⟩) ?_
  refine wpAnyE_end (by kernel_rfl) hIL ?_
  simp only [Exit.then]
  go_wp2_with fail
  go_ret
  exact ⟨rfl, PL⟩
set_option maxRecDepth 100000 in
set_option maxHeartbeats 1600000 in
theorem askDeathR_any (hg : Blk w g 119 m.cells) (hm : m.ok w) : Calls Tryz.prog 92 #[.pointer (some ⟨g, 0, none⟩)] w fun e w' => e = .returned (.int .i64 (firstE [wordE m.text 1, wordE m.lang 0, longE m.value.size])) ∧ Only [] w w' := by
  have hlt := hg.lt
  go_enter Tryz.func92, Tryz.ntmps92
  go_wp2_with fail
  have hI : (fun w' : World => Blk w' g 119 m.cells) { w with drawn := w.drawn + 1 } := hg
  refine wp_region_E (fun w' : World => Blk w' g 119 m.cells) [] (by kernel_rfl) ?_
  refine wpAnyE_take 0 (v := (.pointer (some ⟨g, 0, none⟩))) rfl (by kernel_rfl) (fun _ _ _ h => h) hI (fun w' hw' => Or.inl ⟨by kernel_rfl, Or.inl (by go_simp)⟩) ?_
  refine wpAnyE_take 1 (v := (.pointer (some ⟨g, 0, none⟩))) rfl (by kernel_rfl) (fun _ _ _ h => h) hI (fun w' hw' => Or.inl ⟨by kernel_rfl, Or.inl (by go_simp)⟩) ?_
  refine wpAnyE_take 2 (v := (.pointer (some ⟨g, 0, none⟩))) rfl (by kernel_rfl) (fun _ _ _ h => h) hI (fun w' hw' => Or.inl ⟨by kernel_rfl, Or.inl (by go_simp)⟩) ?_
  refine wpAnyE_take 3 (v := (.pointer (some ⟨g, 1, none⟩))) rfl (by kernel_rfl) (fun _ _ _ h => h) hI (fun w' hw' => Or.inl ⟨by kernel_rfl, Or.inl (by go_simp)⟩) ?_
  refine wpAnyE_take 4 (v := (.string m.text)) rfl (by kernel_rfl) (fun _ _ _ h => h) hI (fun w' hw' => Or.inl ⟨by kernel_rfl, Or.inl (by have y0 : w'.cell? ⟨g, 1, none⟩ = some (.string m.text) := hw'.cell 1; go_simp)⟩) ?_
  refine wpAnyE_take 6 (v := (.pointer (some ⟨g, 0, none⟩))) rfl (by kernel_rfl) (fun _ _ _ h => h) hI (fun w' hw' => Or.inl ⟨by kernel_rfl, Or.inl (by go_simp)⟩) ?_
  refine wpAnyE_take 7 (v := (.pointer (some ⟨g, 0, none⟩))) rfl (by kernel_rfl) (fun _ _ _ h => h) hI (fun w' hw' => Or.inl ⟨by kernel_rfl, Or.inl (by go_simp)⟩) ?_
  refine wpAnyE_take 8 (v := (.pointer (some ⟨g, 0, none⟩))) rfl (by kernel_rfl) (fun _ _ _ h => h) hI (fun w' hw' => Or.inl ⟨by kernel_rfl, Or.inl (by go_simp)⟩) ?_
  refine wpAnyE_take 9 (v := (.pointer (some ⟨g, 3, none⟩))) rfl (by kernel_rfl) (fun _ _ _ h => h) hI (fun w' hw' => Or.inl ⟨by kernel_rfl, Or.inl (by go_simp)⟩) ?_
  refine wpAnyE_take 10 (v := (.string m.lang)) rfl (by kernel_rfl) (fun _ _ _ h => h) hI (fun w' hw' => Or.inl ⟨by kernel_rfl, Or.inl (by have y0 : w'.cell? ⟨g, 3, none⟩ = some (.string m.lang) := hw'.cell 3; go_simp)⟩) ?_
  refine wpAnyE_take 12 (v := (.pointer (some ⟨g, 0, none⟩))) rfl (by kernel_rfl) (fun _ _ _ h => h) hI (fun w' hw' => Or.inl ⟨by kernel_rfl, Or.inl (by go_simp)⟩) ?_
  refine wpAnyE_take 13 (v := (.pointer (some ⟨g, 0, none⟩))) rfl (by kernel_rfl) (fun _ _ _ h => h) hI (fun w' hw' => Or.inl ⟨by kernel_rfl, Or.inl (by go_simp)⟩) ?_
  refine wpAnyE_take 14 (v := (.pointer (some ⟨g, 0, none⟩))) rfl (by kernel_rfl) (fun _ _ _ h => h) hI (fun w' hw' => Or.inl ⟨by kernel_rfl, Or.inl (by go_simp)⟩) ?_
  refine wpAnyE_take 15 (v := (.pointer (some ⟨g, 2, none⟩))) rfl (by kernel_rfl) (fun _ _ _ h => h) hI (fun w' hw' => Or.inl ⟨by kernel_rfl, Or.inl (by go_simp)⟩) ?_
  refine wpAnyE_take 16 (v := (.string m.value)) rfl (by kernel_rfl) (fun _ _ _ h => h) hI (fun w' hw' => Or.inl ⟨by kernel_rfl, Or.inl (by have y0 : w'.cell? ⟨g, 2, none⟩ = some (.string m.value) := hw'.cell 2; go_simp)⟩) ?_
  refine wpAnyE_take 17 (v := (.int .i64 (m.value.size : Int))) rfl (by kernel_rfl) (fun _ _ _ h => h) hI (fun w' hw' => Or.inl ⟨by kernel_rfl, Or.inl (by go_simp)⟩) ?_
  have T := rword_any m.text 1 w.drew hm.text
  refine wpAnyE_one 5 rfl (by kernel_rfl) hI (fun K hK => ?_)
  rw [if_pos (by kernel_rfl)]
  go_simp
  go_call T as e x ⟨rfl, rfl⟩
  clear T
  refine hK _ _ ?_
  clear hK K
  have T := rword_any m.lang 0 w.drew hm.lang
  refine wpAnyE_one 11 rfl (by kernel_rfl) hI (fun K hK => ?_)
  rw [if_pos (by kernel_rfl)]
  go_simp
  go_call T as e x ⟨rfl, rfl⟩
  clear T
  refine hK _ _ ?_
  clear hK K
  have T := rlong_any (m.value.size) w.drew
  refine wpAnyE_one 18 rfl (by kernel_rfl) hI (fun K hK => ?_)
  rw [if_pos (by kernel_rfl)]
  go_simp
  go_call T as e x ⟨rfl, rfl⟩
  clear T
  refine hK _ _ ?_
  clear hK K
  refine wpAnyE_one 19 rfl (by kernel_rfl) hI (fun K hK => ?_)
  rw [if_pos (by kernel_rfl)]
  go_simp
  refine hK _ _ ?_
  clear hK K
  have PL : Only [] w ((w.alloc (.cells #[.int .i64 (wordE m.text 1), .int .i64 (wordE m.lang 0), .int .i64 (longE m.value.size)] 65)).drew) := ((Only.refl [] w).alloc _).drew
  have hIL : (fun w' : World => Blk w' g 119 m.cells) ((w.alloc (.cells #[.int .i64 (wordE m.text 1), .int .i64 (wordE m.lang 0), .int .i64 (longE m.value.size)] 65)).drew) := hg.only PL (by simp)
  have RL : RdI ((w.alloc (.cells #[.int .i64 (wordE m.text 1), .int .i64 (wordE m.lang 0), .int .i64 (longE m.value.size)] 65)).drew) (some ⟨w.heap.size, 0, none⟩) [(wordE m.text 1), (wordE m.lang 0), (longE m.value.size)] := rdI_blk (Blk.new w 65 ([(wordE m.text 1), (wordE m.lang 0), (longE m.value.size)].map (.int .i64)))
  have T := rfirst_any (some ⟨w.heap.size, 0, none⟩) [(wordE m.text 1), (wordE m.lang 0), (longE m.value.size)] 3 _ RL (by simp [maxLen])
  refine wpAnyE_one 20 rfl (by kernel_rfl) hIL (fun K hK => ?_)
  rw [if_pos (by kernel_rfl)]
  go_simp
  go_call T as e x ⟨rfl, rfl⟩
  clear T
  refine hK _ _ ?_
  clear hK K
  refine wpAnyE_take 21 (v := (.int .i64 (firstE [(wordE m.text 1), (wordE m.lang 0), (longE m.value.size)]))) rfl (by kernel_rfl) (fun _ _ _ h => h) hIL (fun w' hw' => Or.inl ⟨by kernel_rfl, Or.inl (by go_simp)⟩) ?_
  refine wpAnyE_end (by kernel_rfl) hIL ?_
  simp only [Exit.then]
  go_wp2_with fail
  go_ret
  exact ⟨rfl, PL⟩
set_option maxRecDepth 100000 in
set_option maxHeartbeats 1600000 in
theorem askEnvR_any (hg : Blk w g 119 m.cells) (hm : m.ok w) : Calls Tryz.prog 76 #[.pointer (some ⟨g, 0, none⟩)] w fun e w' => e = .returned (.int .i64 (if hasEq m.text then 4 else firstE [wordE m.text 1, longE m.value.size])) ∧ Only [] w w' := by
  have c1 : w.cell? ⟨g, 1, none⟩ = some (.string m.text) := hg.cell 1
  have hlt := hg.lt
  have T := rhas_any m.text w
  obtain ⟨b, hb⟩ : ∃ b, hasEq m.text = b := ⟨_, rfl⟩
  rw [hb] at T ⊢
  replace hb := hide hb
  go_enter Tryz.func76, Tryz.ntmps76
  go_wp2_with fail
  go_call T as e x ⟨rfl, rfl⟩
  clear T
  cases b with
  | true =>
    go_wp2_with fail
    go_ret
    exact ⟨rfl, Only.refl _ _⟩
  | false =>
  go_wp2_with fail
  have hI : (fun w' : World => Blk w' g 119 m.cells) { w with drawn := w.drawn + 1 } := hg
  refine wp_region_E (fun w' : World => Blk w' g 119 m.cells) [] (by kernel_rfl) ?_
  refine wpAnyE_take 0 (v := (.pointer (some ⟨g, 0, none⟩))) rfl (by kernel_rfl) (fun _ _ _ h => h) hI (fun w' hw' => Or.inl ⟨by kernel_rfl, Or.inl (by go_simp)⟩) ?_
  refine wpAnyE_take 1 (v := (.pointer (some ⟨g, 0, none⟩))) rfl (by kernel_rfl) (fun _ _ _ h => h) hI (fun w' hw' => Or.inl ⟨by kernel_rfl, Or.inl (by go_simp)⟩) ?_
  refine wpAnyE_take 2 (v := (.pointer (some ⟨g, 0, none⟩))) rfl (by kernel_rfl) (fun _ _ _ h => h) hI (fun w' hw' => Or.inl ⟨by kernel_rfl, Or.inl (by go_simp)⟩) ?_
  refine wpAnyE_take 3 (v := (.pointer (some ⟨g, 1, none⟩))) rfl (by kernel_rfl) (fun _ _ _ h => h) hI (fun w' hw' => Or.inl ⟨by kernel_rfl, Or.inl (by go_simp)⟩) ?_
  refine wpAnyE_take 4 (v := (.string m.text)) rfl (by kernel_rfl) (fun _ _ _ h => h) hI (fun w' hw' => Or.inl ⟨by kernel_rfl, Or.inl (by have y0 : w'.cell? ⟨g, 1, none⟩ = some (.string m.text) := hw'.cell 1; go_simp)⟩) ?_
  refine wpAnyE_take 6 (v := (.pointer (some ⟨g, 0, none⟩))) rfl (by kernel_rfl) (fun _ _ _ h => h) hI (fun w' hw' => Or.inl ⟨by kernel_rfl, Or.inl (by go_simp)⟩) ?_
  refine wpAnyE_take 7 (v := (.pointer (some ⟨g, 0, none⟩))) rfl (by kernel_rfl) (fun _ _ _ h => h) hI (fun w' hw' => Or.inl ⟨by kernel_rfl, Or.inl (by go_simp)⟩) ?_
  refine wpAnyE_take 8 (v := (.pointer (some ⟨g, 0, none⟩))) rfl (by kernel_rfl) (fun _ _ _ h => h) hI (fun w' hw' => Or.inl ⟨by kernel_rfl, Or.inl (by go_simp)⟩) ?_
  refine wpAnyE_take 9 (v := (.pointer (some ⟨g, 2, none⟩))) rfl (by kernel_rfl) (fun _ _ _ h => h) hI (fun w' hw' => Or.inl ⟨by kernel_rfl, Or.inl (by go_simp)⟩) ?_
  refine wpAnyE_take 10 (v := (.string m.value)) rfl (by kernel_rfl) (fun _ _ _ h => h) hI (fun w' hw' => Or.inl ⟨by kernel_rfl, Or.inl (by have y0 : w'.cell? ⟨g, 2, none⟩ = some (.string m.value) := hw'.cell 2; go_simp)⟩) ?_
  refine wpAnyE_take 11 (v := (.int .i64 (m.value.size : Int))) rfl (by kernel_rfl) (fun _ _ _ h => h) hI (fun w' hw' => Or.inl ⟨by kernel_rfl, Or.inl (by go_simp)⟩) ?_
  have T := rword_any m.text 1 w.drew hm.text
  refine wpAnyE_one 5 rfl (by kernel_rfl) hI (fun K hK => ?_)
  rw [if_pos (by kernel_rfl)]
  go_simp
  go_call T as e x ⟨rfl, rfl⟩
  clear T
  refine hK _ _ ?_
  clear hK K
  have T := rlong_any (m.value.size) w.drew
  refine wpAnyE_one 12 rfl (by kernel_rfl) hI (fun K hK => ?_)
  rw [if_pos (by kernel_rfl)]
  go_simp
  go_call T as e x ⟨rfl, rfl⟩
  clear T
  refine hK _ _ ?_
  clear hK K
  refine wpAnyE_one 13 rfl (by kernel_rfl) hI (fun K hK => ?_)
  rw [if_pos (by kernel_rfl)]
  go_simp
  refine hK _ _ ?_
  clear hK K
  have PL : Only [] w ((w.alloc (.cells #[.int .i64 (wordE m.text 1), .int .i64 (longE m.value.size)] 65)).drew) := ((Only.refl [] w).alloc _).drew
  have hIL : (fun w' : World => Blk w' g 119 m.cells) ((w.alloc (.cells #[.int .i64 (wordE m.text 1), .int .i64 (longE m.value.size)] 65)).drew) := hg.only PL (by simp)
  have RL : RdI ((w.alloc (.cells #[.int .i64 (wordE m.text 1), .int .i64 (longE m.value.size)] 65)).drew) (some ⟨w.heap.size, 0, none⟩) [(wordE m.text 1), (longE m.value.size)] := rdI_blk (Blk.new w 65 ([(wordE m.text 1), (longE m.value.size)].map (.int .i64)))
  have T := rfirst_any (some ⟨w.heap.size, 0, none⟩) [(wordE m.text 1), (longE m.value.size)] 2 _ RL (by simp [maxLen])
  refine wpAnyE_one 14 rfl (by kernel_rfl) hIL (fun K hK => ?_)
  rw [if_pos (by kernel_rfl)]
  go_simp
  go_call T as e x ⟨rfl, rfl⟩
  clear T
  refine hK _ _ ?_
  clear hK K
  refine wpAnyE_take 15 (v := (.int .i64 (firstE [(wordE m.text 1), (longE m.value.size)]))) rfl (by kernel_rfl) (fun _ _ _ h => h) hIL (fun w' hw' => Or.inl ⟨by kernel_rfl, Or.inl (by go_simp)⟩) ?_
  refine wpAnyE_end (by kernel_rfl) hIL ?_
  simp only [Exit.then]
  go_wp2_with fail
  go_ret
  exact ⟨rfl, PL⟩
end
/-- What asks, of a kind. -/
theorem ask_any (k : Nat) (h1 : 1 ≤ k) (h2 : k ≤ 10) : ∃ F : FuncId, rask k = F ∧ (∀ (args : Array Value) (w : World), (callFunc F args).run Tryz.prog w = .ok (.enter F args) w) ∧
    ∀ (w : World) (m : RQ) (g : Nat), Blk w g 119 m.cells → m.ok w → Calls Tryz.prog F #[.pointer (some ⟨g, 0, none⟩)] w (fun e w' => e = .returned (.int .i64 (askR m k)) ∧ Only [] w w') := by
  rcases k10 h1 h2 with rfl | rfl | rfl | rfl | rfl | rfl | rfl | rfl | rfl | rfl
  · exact ⟨_, rfl, fun args w => by kernel_rfl, fun w m g hg hm => askPtyR_any m g w hg hm⟩
  · exact ⟨_, rfl, fun args w => by kernel_rfl, fun w m g hg hm => askEnvR_any m g w hg hm⟩
  · exact ⟨_, rfl, fun args w => by kernel_rfl, fun w m g hg hm => askNoneR_any g w⟩
  · exact ⟨_, rfl, fun args w => by kernel_rfl, fun w m g hg hm => askExecR_any m g w hg hm⟩
  · exact ⟨_, rfl, fun args w => by kernel_rfl, fun w m g hg hm => askWordR_any m g w hg hm⟩
  · exact ⟨_, rfl, fun args w => by kernel_rfl, fun w m g hg hm => askNoneR_any g w⟩
  · exact ⟨_, rfl, fun args w => by kernel_rfl, fun w m g hg hm => askNoneR_any g w⟩
  · exact ⟨_, rfl, fun args w => by kernel_rfl, fun w m g hg hm => askWordR_any m g w hg hm⟩
  · exact ⟨_, rfl, fun args w => by kernel_rfl, fun w m g hg hm => askNoneR_any g w⟩
  · exact ⟨_, rfl, fun args w => by kernel_rfl, fun w m g hg hm => askDeathR_any m g w hg hm⟩
end Go.Proofs.YtdplnedpbkpgpaaGreatDoor
