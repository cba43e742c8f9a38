/- The law WindowRefills holds: for every limit and all steps; no condition. -/
import Derived.Test.YtamnnggijmmogaaWinF
import Derived.Lib.SmallJoins
namespace Go.Proofs.Ytamnnggijmmogaa
set_option linter.all false
open Go.ChangeShapes Go.WideShapes Go.ChangeAt Go.RowKit

theorem cellsU16 : Try.prog.cellsOf 55 = 1 := by kernel_rfl
set_option maxRecDepth 100000 in
theorem windowRefills_law : LawWalk Try.prog 6 Try.f6 := by
  intro H enc W base args ds ps hval hA
  rw [Try.params6] at hA hval
  obtain ⟨v0, v1, d0, d1, p0, p1, rfl, rfl, rfl, h0, h1⟩ := trodAll_two hA
  obtain ⟨n, rfl, rfl, rfl, wn⟩ := open_int Try.underlying22 (hval 0 22 v0 rfl rfl) h0
  obtain ⟨A, len, cap, zs, rfl, hl, hm, hI⟩ := ints_open Try.underlying54 Try.underlying55 cellsU16 (hval 1 54 v1 rfl rfl) h1
  exact windowRefills_walk n A len cap zs W (wf_u32 wn) hI

set_option maxRecDepth 100000 in
theorem windowRefills_holds : Rows.WindowRefillsSaid :=
  OpenClaim.holds_of_wide 6 Try.f6 rfl rfl rfl rfl rfl rfl rfl ⟨rfl, rfl, rfl, rfl, rfl⟩ rfl rfl rfl rfl rfl (by kernel_rfl) Try.func6 (by kernel_rfl)
    (of_decide_eq_true (by kernel_rfl)) (by unfold Func.isWrapper; rw [if_neg (by decide +kernel)]; exact ⟨rfl, rfl⟩)
    (fun os started H enc _ => law_lifted own laidOut Try.underlying4 6 Try.f6 Rows.windowRefillsSpec Try.func6 (by kernel_rfl) (by kernel_rfl) (by kernel_rfl) rfl
      (fun H ds hl => by
        have hl : ds.length = 2 := hl
        match ds, hl with
        | [d1, d2], _ => rfl)
      windowRefills_law os started H enc
      (ChangeSpec.witness6 (enc := enc) (C := Try.checked) false ⟨#[], #[.int .u32 0, .slice none 0 0], []⟩ 8 (by kernel_rfl) (by kernel_rfl) (by kernel_rfl) (by kernel_rfl)))
#print axioms windowRefills_holds
end Go.Proofs.Ytamnnggijmmogaa
