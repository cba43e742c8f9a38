/- The law LdiscRaw holds: what is typed without ICANON, ISIG and IXON is read as it is mapped; for all settings and texts; no condition. -/
import Derived.Test.YtjphcdphlmaopaaGreatLdAR
namespace Go.Proofs.YtjphcdphlmaopaaGreat
set_option linter.all false
open Go.ChangeShapes Go.WideShapes Go.ChangeAt Go.RowKit Go.Deep

set_option maxRecDepth 100000 in
theorem ldiscRaw_law : LawWalkS Tryz.prog 6 Tryz.f6 := by
  intro H enc W base args ds ps hval hA hsz
  rw [Tryz.params6] at hA hval hsz
  obtain ⟨w0, w1, w2, d0, d1, d2, p0, p1, p2, rfl, rfl, rfl, h0, h1, h2⟩ := trodAll_three hA
  have hw := fun (j : Nat) {t : TypeId} {d : DataW H} (a : _) (b : _) (k : Nat) (hk : _) => (by
    have := List.all_eq_true.1 hsz k (DataW.weights_mem_each (j := j) (t := t) (d := d) a b k hk)
    simpa using this : k ≤ reachBytes)
  obtain ⟨v0, rfl, ht0⟩ := open_termios (R := reachBytes) (hw 0 rfl rfl) (hval 0 26 w0 rfl rfl) h0
  obtain ⟨A1, l1, cap1, rfl, hl1, _, _⟩ := open_bytesW (R := reachBytes) (hw 1 rfl rfl) (hval 1 27 w1 rfl rfl) h1
  obtain ⟨v2, rfl, _, _, u2⟩ := open_int Tryz.underlying5 (hval 2 5 w2 rfl rfl) h2
  exact (raw_walk v0 A1 cap1 l1 v2 W hl1 (wf_u8' u2) ht0).mono fun e w' h => ⟨h.1, h.2.below (Nat.le_refl _) (by simp)⟩

set_option maxRecDepth 100000 in
theorem ldiscRaw_holds : Rows.LdiscRawSaid :=
  OpenClaim.holds_of_wide 6 Tryz.f6 rfl rfl rfl rfl rfl rfl rfl ⟨rfl, rfl, rfl, rfl, rfl⟩ rfl rfl rfl rfl rfl (by kernel_rfl) Tryz.func6 (by kernel_rfl)
    (of_decide_eq_true (by kernel_rfl)) (by unfold Func.isWrapper; rw [if_neg (by decide +kernel)]; exact ⟨rfl, rfl⟩)
    (fun os started H enc _ => law_liftedS own laidOut Tryz.underlying4 6 Tryz.f6 Rows.ldiscRawSpec Tryz.func6 (by kernel_rfl) (by kernel_rfl) (by kernel_rfl) rfl
      (fun H ds hl => by
        have hl : ds.length = 3 := hl
        match ds, hl with
        | [d1, d2, d3], _ => rfl)
      ldiscRaw_law os started H enc
      (ChangeSpec.witness6 (enc := enc) (C := Tryz.checked) false ⟨#[], #[TM.val ⟨fun _ => 0, 0, 0, 0, 0, 0⟩, .slice none 0 0, .int .u8 0], []⟩ 8 (by kernel_rfl) (by kernel_rfl) (by kernel_rfl) (by kernel_rfl)))
#print axioms ldiscRaw_holds
end Go.Proofs.YtjphcdphlmaopaaGreat
