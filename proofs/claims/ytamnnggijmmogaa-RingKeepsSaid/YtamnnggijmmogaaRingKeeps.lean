/- The law RingKeeps holds: for every size and all steps; no condition. -/
import Derived.Test.YtamnnggijmmogaaRingM
import Derived.Test.YtamnnggijmmogaaFrameS
import Derived.Lib.SmallJoins
import Derived.Deep.Grids
namespace Go.Proofs.Ytamnnggijmmogaa
set_option linter.all false
open Go.ChangeShapes Go.WideShapes Go.ChangeAt Go.RowKit Go.Deep

set_option maxRecDepth 100000 in
theorem ringKeeps_law : LawWalkS Try.prog 12 Try.f12 := by
  intro H enc W base args ds ps hval hA hsz
  rw [Try.params12] at hA hval hsz
  obtain ⟨v0, v1, d0, d1, p0, p1, rfl, rfl, rfl, h0, h1⟩ := trodAll_two hA
  obtain ⟨s, rfl, rfl, rfl, ws⟩ := open_int Try.underlying3 (hval 0 3 v0 rfl rfl) h0
  obtain ⟨P, cap, os, rfl, hl, hm, hr, hS⟩ := steps_open (hval 1 76 v1 rfl rfl) h1 (light_arg (j := 1) hsz rfl rfl)
  exact ringKeeps_walk s P os cap W hS hl hm hr

set_option maxRecDepth 100000 in
theorem ringKeeps_holds : Rows.RingKeepsSaid :=
  OpenClaim.holds_of_wide 12 Try.f12 rfl rfl rfl rfl rfl rfl rfl ⟨rfl, rfl, rfl, rfl, rfl⟩ rfl rfl rfl rfl rfl (by kernel_rfl) Try.func12 (by kernel_rfl)
    (of_decide_eq_true (by kernel_rfl)) (by unfold Func.isWrapper; rw [if_neg (by decide +kernel)]; exact ⟨rfl, rfl⟩)
    (fun os started H enc _ => law_liftedS own laidOut Try.underlying4 12 Try.f12 Rows.ringKeepsSpec Try.func12 (by kernel_rfl) (by kernel_rfl) (by kernel_rfl) rfl
      (fun H ds hl => by
        have hl : ds.length = 2 := hl
        match ds, hl with
        | [d1, d2], _ => rfl)
      ringKeeps_law os started H enc
      (ChangeSpec.witness6 (enc := enc) (C := Try.checked) false ⟨#[], #[.int .i64 0, .slice none 0 0], []⟩ 8 (by kernel_rfl) (by kernel_rfl) (by kernel_rfl) (by kernel_rfl)))
#print axioms ringKeeps_holds
end Go.Proofs.Ytamnnggijmmogaa
