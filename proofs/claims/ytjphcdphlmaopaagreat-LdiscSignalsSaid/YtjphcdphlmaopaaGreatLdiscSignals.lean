/- The law LdiscSignals holds: a signal comes of its character alone, with ISIG, one at a time; what waits is thrown away, but with NOFLSH; for all disciplines and bytes; no condition. -/
import Derived.Test.YtjphcdphlmaopaaGreatLdAJ
namespace Go.Proofs.YtjphcdphlmaopaaGreat
set_option linter.all false
open Go.ChangeShapes Go.WideShapes Go.ChangeAt Go.RowKit Go.Deep

set_option maxRecDepth 100000 in
theorem ldiscSignals_law : LawWalkS Tryz.prog 3 Tryz.f3 := by
  intro H enc W base args ds ps hval hA hsz
  rw [Tryz.params3] at hA hval hsz
  obtain ⟨v0, v1, d0, d1, p0, p1, rfl, rfl, rfl, h0, h1⟩ := trodAll_two hA
  obtain ⟨d, s, rfl, hD⟩ := open_disc16 (R := 140737488355328) (fun k hk => by
    have := List.all_eq_true.1 hsz k (DataW.weights_mem_each (j := 0) rfl rfl k hk)
    have h2 : k ≤ reachBytes := by simpa using this
    exact Nat.le_trans h2 (by decide)) (hval 0 30 v0 rfl rfl) h0
  obtain ⟨c, rfl, _⟩ := open_int Tryz.underlying5 (hval 1 5 v1 rfl rfl) h1
  exact (signals_walk d s c W hD).mono fun e w' h => ⟨h.1, h.2.below (Nat.le_refl _) (by simp)⟩

set_option maxRecDepth 100000 in
theorem ldiscSignals_holds : Rows.LdiscSignalsSaid :=
  OpenClaim.holds_of_wide 3 Tryz.f3 rfl rfl rfl rfl rfl rfl rfl ⟨rfl, rfl, rfl, rfl, rfl⟩ rfl rfl rfl rfl rfl (by kernel_rfl) Tryz.func3 (by kernel_rfl)
    (of_decide_eq_true (by kernel_rfl)) (by unfold Func.isWrapper; rw [if_neg (by decide +kernel)]; exact ⟨rfl, rfl⟩)
    (fun os started H enc _ => law_liftedS own laidOut Tryz.underlying4 3 Tryz.f3 Rows.ldiscSignalsSpec Tryz.func3 (by kernel_rfl) (by kernel_rfl) (by kernel_rfl) rfl
      (fun H ds hl => by
        have hl : ds.length = 2 := hl
        match ds, hl with
        | [d1, d2], _ => rfl)
      ldiscSignals_law os started H enc
      (ChangeSpec.witness6 (enc := enc) (C := Tryz.checked) false ⟨#[], #[.agg (discV (newD ⟨fun _ => 0, 0, 0, 0, 0, 0⟩) nilS).toArray, .int .u8 0], []⟩ 8 (by kernel_rfl) (by kernel_rfl) (by kernel_rfl) (by kernel_rfl)))
#print axioms ldiscSignals_holds
end Go.Proofs.YtjphcdphlmaopaaGreat
