/- The law LdiscErases holds: plain text, typed and erased character by character, leaves nothing of the line, and the column where it began; for all settings and texts; no condition. -/
import Derived.Test.YtjphcdphlmaopaaGreatLdAO
namespace Go.Proofs.YtjphcdphlmaopaaGreat
set_option linter.all false
open Go.ChangeShapes Go.WideShapes Go.ChangeAt Go.RowKit Go.Deep

set_option maxRecDepth 100000 in
theorem ldiscErases_law : LawWalkS Tryz.prog 5 Tryz.f5 := by
  intro H enc W base args ds ps hval hA hsz
  rw [Tryz.params5] at hA hval hsz
  obtain ⟨w0, w1, d0, d1, p0, p1, rfl, rfl, rfl, h0, h1⟩ := trodAll_two hA
  have hw := fun (j : Nat) {t : TypeId} {d : DataW H} (a : _) (b : _) (k : Nat) (hk : _) => (by
    have := List.all_eq_true.1 hsz k (DataW.weights_mem_each (j := j) (t := t) (d := d) a b k hk)
    simpa using this : k ≤ reachBytes)
  obtain ⟨v0, rfl, ht0⟩ := open_termios (R := reachBytes) (hw 0 rfl rfl) (hval 0 26 w0 rfl rfl) h0
  obtain ⟨A1, l1, cap1, rfl, hl1, _, _⟩ := open_bytesW (R := reachBytes) (hw 1 rfl rfl) (hval 1 27 w1 rfl rfl) h1
  exact (erases_walk v0 A1 cap1 l1 W hl1).mono fun e w' h => ⟨h.1, h.2.below (Nat.le_refl _) (by simp)⟩

set_option maxRecDepth 100000 in
theorem ldiscErases_holds : Rows.LdiscErasesSaid :=
  OpenClaim.holds_of_wide 5 Tryz.f5 rfl rfl rfl rfl rfl rfl rfl ⟨rfl, rfl, rfl, rfl, rfl⟩ rfl rfl rfl rfl rfl (by kernel_rfl) Tryz.func5 (by kernel_rfl)
    (of_decide_eq_true (by kernel_rfl)) (by unfold Func.isWrapper; rw [if_neg (by decide +kernel)]; exact ⟨rfl, rfl⟩)
    (fun os started H enc _ => law_liftedS own laidOut Tryz.underlying4 5 Tryz.f5 Rows.ldiscErasesSpec Tryz.func5 (by kernel_rfl) (by kernel_rfl) (by kernel_rfl) rfl
      (fun H ds hl => by
        have hl : ds.length = 2 := hl
        match ds, hl with
        | [d1, d2], _ => rfl)
      ldiscErases_law os started H enc
      (ChangeSpec.witness6 (enc := enc) (C := Tryz.checked) false ⟨#[], #[TM.val ⟨fun _ => 0, 0, 0, 0, 0, 0⟩, .slice none 0 0], []⟩ 8 (by kernel_rfl) (by kernel_rfl) (by kernel_rfl) (by kernel_rfl)))
#print axioms ldiscErases_holds
end Go.Proofs.YtjphcdphlmaopaaGreat
