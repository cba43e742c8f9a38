/- The law PtyEvents holds: every event goes to the group in front then, none if there is none, and is one of six signals; for all terminals and steps; no condition. -/
import Derived.Test.YtnfcdbjckdhieaaGreatPtM
import Derived.Test.YtnfcdbjckdhieaaGreatPtOpn
namespace Go.Proofs.YtnfcdbjckdhieaaGreat
set_option linter.all false
open Go.ChangeShapes Go.WideShapes Go.ChangeAt Go.RowKit Go.Deep

set_option maxRecDepth 100000 in
theorem ptyEvents_law : LawWalkS Tryz.prog 7 Tryz.f7 := by
  intro H enc W base args ds ps hval hA hsz
  rw [Tryz.params7] at hA hval hsz
  obtain ⟨v0, v1, d0, d1, p0, p1, rfl, rfl, rfl, h0, h1⟩ := trodAll_two hA
  have hw := fun (j : Nat) {t : TypeId} {d : DataW H} (a : _) (b : _) (k : Nat) (hk : _) => (by
    have := List.all_eq_true.1 hsz k (DataW.weights_mem_each (j := j) (t := t) (d := d) a b k hk)
    simpa using this : k ≤ reachBytes)
  obtain ⟨x, d, s, rfl, hD⟩ := open_lpty (R := reachBytes) (hw 0 rfl rfl) (hval 0 34 v0 rfl rfl) h0
  obtain ⟨A, l, cap, rfl, hl, hok⟩ := open_ops17 (R := reachBytes) (hw 1 rfl rfl) (hval 1 76 v1 rfl rfl) h1
  exact (events_walk x d s A cap l W hD.data (hD.len (by decide)) hD.t.mn hD.t.tm hD.idle hl hok).mono fun e w' h => ⟨h.1, h.2.below (Nat.le_refl _) (by simp)⟩

set_option maxRecDepth 100000 in
theorem ptyEvents_holds : Rows.PtyEventsSaid :=
  OpenClaim.holds_of_wide 7 Tryz.f7 rfl rfl rfl rfl rfl rfl rfl ⟨rfl, rfl, rfl, rfl, rfl⟩ rfl rfl rfl rfl rfl (by kernel_rfl) Tryz.func7 (by kernel_rfl)
    (of_decide_eq_true (by kernel_rfl)) (by unfold Func.isWrapper; rw [if_neg (by decide +kernel)]; exact ⟨rfl, rfl⟩)
    (fun os started H enc _ => law_liftedS own laidOut Tryz.underlying4 7 Tryz.f7 Rows.ptyEventsSpec Tryz.func7 (by kernel_rfl) (by kernel_rfl) (by kernel_rfl) rfl
      (fun H ds hl => by
        have hl : ds.length = 2 := hl
        match ds, hl with
        | [d1, d2], _ => rfl)
      ptyEvents_law os started H enc
      (ChangeSpec.witness6 (enc := enc) (C := Tryz.checked) false ⟨#[], #[.agg (lptyV ⟨0, 0, 0, 0, 0, 0, 0, false⟩ (newD ⟨fun _ => 0, 0, 0, 0, 0, 0⟩) nilS).toArray, .slice none 0 0], []⟩ 8 (by kernel_rfl) (by kernel_rfl) (by kernel_rfl) (by kernel_rfl)))
#print axioms ptyEvents_holds
end Go.Proofs.YtnfcdbjckdhieaaGreat
