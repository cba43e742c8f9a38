/- The law PtyHung holds: a terminal that is hung stays so, takes nothing, says nothing and sends nothing but sizes; for all terminals and steps; no condition. -/
import Derived.Test.YtnfcdbjckdhieaaGreatPtN
import Derived.Test.YtnfcdbjckdhieaaGreatPtOpn
namespace Go.Proofs.YtnfcdbjckdhieaaGreat
set_option linter.all false
open Go.ChangeShapes Go.WideShapes Go.ChangeAt Go.RowKit Go.Deep

set_option maxRecDepth 100000 in
theorem ptyHung_law : LawWalkS Tryz.prog 6 Tryz.f6 := by
  intro H enc W base args ds ps hval hA hsz
  rw [Tryz.params6] at hA hval hsz
  obtain ⟨v0, v1, d0, d1, p0, p1, rfl, rfl, rfl, h0, h1⟩ := trodAll_two hA
  have hw := fun (j : Nat) {t : TypeId} {d : DataW H} (a : _) (b : _) (k : Nat) (hk : _) => (by
    have := List.all_eq_true.1 hsz k (DataW.weights_mem_each (j := j) (t := t) (d := d) a b k hk)
    simpa using this : k ≤ reachBytes)
  obtain ⟨x, d, s, rfl, hD⟩ := open_lpty (R := reachBytes) (hw 0 rfl rfl) (hval 0 34 v0 rfl rfl) h0
  obtain ⟨A, l, cap, rfl, hl, hok⟩ := open_ops17 (R := reachBytes) (hw 1 rfl rfl) (hval 1 76 v1 rfl rfl) h1
  exact (hung_walk x d s A cap l W hD.data (hD.len (by decide)) hD.t.mn hD.t.tm hD.idle hl hok).mono fun e w' h => ⟨h.1, h.2.below (Nat.le_refl _) (by simp)⟩

set_option maxRecDepth 100000 in
theorem ptyHung_holds : Rows.PtyHungSaid :=
  OpenClaim.holds_of_wide 6 Tryz.f6 rfl rfl rfl rfl rfl rfl rfl ⟨rfl, rfl, rfl, rfl, rfl⟩ rfl rfl rfl rfl rfl (by kernel_rfl) Tryz.func6 (by kernel_rfl)
    (of_decide_eq_true (by kernel_rfl)) (by unfold Func.isWrapper; rw [if_neg (by decide +kernel)]; exact ⟨rfl, rfl⟩)
    (fun os started H enc _ => law_liftedS own laidOut Tryz.underlying4 6 Tryz.f6 Rows.ptyHungSpec Tryz.func6 (by kernel_rfl) (by kernel_rfl) (by kernel_rfl) rfl
      (fun H ds hl => by
        have hl : ds.length = 2 := hl
        match ds, hl with
        | [d1, d2], _ => rfl)
      ptyHung_law os started H enc
      (ChangeSpec.witness6 (enc := enc) (C := Tryz.checked) false ⟨#[], #[.agg (lptyV ⟨0, 0, 0, 0, 0, 0, 0, false⟩ (newD ⟨fun _ => 0, 0, 0, 0, 0, 0⟩) nilS).toArray, .slice none 0 0], []⟩ 8 (by kernel_rfl) (by kernel_rfl) (by kernel_rfl) (by kernel_rfl)))
#print axioms ptyHung_holds
end Go.Proofs.YtnfcdbjckdhieaaGreat
