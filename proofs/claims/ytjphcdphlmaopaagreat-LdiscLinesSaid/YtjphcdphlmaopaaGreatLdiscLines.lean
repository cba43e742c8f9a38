/- The law LdiscLines holds: plain text, typed, is read line by line as it was typed, by reads of any length; for all settings and texts; no condition. -/
import Derived.Test.YtjphcdphlmaopaaGreatLdAM
namespace Go.Proofs.YtjphcdphlmaopaaGreat
set_option linter.all false
open Go.ChangeShapes Go.WideShapes Go.ChangeAt Go.RowKit Go.Deep

set_option maxRecDepth 100000 in
theorem ldiscLines_law : LawWalkS Tryz.prog 4 Tryz.f4 := by
  intro H enc W base args ds ps hval hA hsz
  rw [Tryz.params4] at hA hval hsz
  obtain ⟨v0, v1, v2, d0, d1, d2, p0, p1, p2, rfl, rfl, rfl, h0, h1, h2⟩ := trodAll_three hA
  have hw := fun (j : Nat) {t : TypeId} {d : DataW H} (a : _) (b : _) (k : Nat) (hk : _) => (by
    have := List.all_eq_true.1 hsz k (DataW.weights_mem_each (j := j) (t := t) (d := d) a b k hk)
    simpa using this : k ≤ reachBytes)
  obtain ⟨t, rfl, ht⟩ := open_termios (R := reachBytes) (hw 0 rfl rfl) (hval 0 26 v0 rfl rfl) h0
  obtain ⟨A, l, cap, rfl, hl, _, _⟩ := open_bytesW (R := reachBytes) (hw 1 rfl rfl) (hval 1 27 v1 rfl rfl) h1
  obtain ⟨c, rfl, _, _, uc⟩ := open_int Tryz.underlying5 (hval 2 5 v2 rfl rfl) h2
  exact (lines_walk t A cap l c W hl (wf_u8' uc) ht).mono fun e w' h => ⟨h.1, h.2.below (Nat.le_refl _) (by simp)⟩
set_option maxRecDepth 100000 in
theorem ldiscLines_holds : Rows.LdiscLinesSaid :=
  OpenClaim.holds_of_wide 4 Tryz.f4 rfl rfl rfl rfl rfl rfl rfl ⟨rfl, rfl, rfl, rfl, rfl⟩ rfl rfl rfl rfl rfl (by kernel_rfl) Tryz.func4 (by kernel_rfl)
    (of_decide_eq_true (by kernel_rfl)) (by unfold Func.isWrapper; rw [if_neg (by decide +kernel)]; exact ⟨rfl, rfl⟩)
    (fun os started H enc _ => law_liftedS own laidOut Tryz.underlying4 4 Tryz.f4 Rows.ldiscLinesSpec Tryz.func4 (by kernel_rfl) (by kernel_rfl) (by kernel_rfl) rfl
      (fun H ds hl => by
        have hl : ds.length = 3 := hl
        match ds, hl with
        | [d1, d2, d3], _ => rfl)
      ldiscLines_law os started H enc
      (ChangeSpec.witness6 (enc := enc) (C := Tryz.checked) false ⟨#[], #[TM.val ⟨fun _ => 0, 0, 0, 0, 0, 0⟩, .slice none 0 0, .int .u8 0], []⟩ 8 (by kernel_rfl) (by kernel_rfl) (by kernel_rfl) (by kernel_rfl)))
#print axioms ldiscLines_holds
end Go.Proofs.YtjphcdphlmaopaaGreat
