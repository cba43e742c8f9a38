/- The law WindowSums holds: for every window and all steps; no condition. -/
import Derived.Test.YtamnnggijmmogaaWinE
import Derived.Lib.SmallJoins
namespace Go.Proofs.Ytamnnggijmmogaa
set_option linter.all false
open Go.ChangeShapes Go.WideShapes Go.ChangeAt Go.RowKit

theorem cellsOutS : Try.prog.cellsOf 24 = 2 := by kernel_rfl
theorem cellsI32 : Try.prog.cellsOf 21 = 1 := by kernel_rfl
set_option maxRecDepth 100000 in
theorem windowSums_law : LawWalk Try.prog 5 Try.f5 := by
  intro H enc W base args ds ps hval hA
  rw [Try.params5] at hA hval
  obtain ⟨v0, v1, d0, d1, p0, p1, rfl, rfl, rfl, h0, h1⟩ := trodAll_two hA
  obtain ⟨c0, c1, y0, y1, m, rfl, rfl, rfl, hy0, hy1⟩ := Joins.open_agg2 Try.underlying24 (by kernel_rfl) cellsOutS (hval 0 24 v0 rfl rfl) h0
  obtain ⟨a, e0, rfl, wa⟩ := DataW.trod_int Try.underlying22 hy0
  obtain ⟨b, e1, rfl, wb⟩ := DataW.trod_int Try.underlying22 hy1
  simp at e0 e1; subst e0 e1
  obtain ⟨A, len, cap, zs, rfl, hl, hm, hI⟩ := ints_open Try.underlying51 Try.underlying21 cellsI32 (hval 1 51 v1 rfl rfl) h1
  exact windowSums_walk a b A len cap zs W (wf_u32 wa) (wf_u32 wb) hI

set_option maxRecDepth 100000 in
theorem windowSums_holds : Rows.WindowSumsSaid :=
  OpenClaim.holds_of_wide 5 Try.f5 rfl rfl rfl rfl rfl rfl rfl ⟨rfl, rfl, rfl, rfl, rfl⟩ rfl rfl rfl rfl rfl (by kernel_rfl) Try.func5 (by kernel_rfl)
    (of_decide_eq_true (by kernel_rfl)) (by unfold Func.isWrapper; rw [if_neg (by decide +kernel)]; exact ⟨rfl, rfl⟩)
    (fun os started H enc _ => law_lifted own laidOut Try.underlying4 5 Try.f5 Rows.windowSumsSpec Try.func5 (by kernel_rfl) (by kernel_rfl) (by kernel_rfl) rfl
      (fun H ds hl => by
        have hl : ds.length = 2 := hl
        match ds, hl with
        | [d1, d2], _ => rfl)
      windowSums_law os started H enc
      (ChangeSpec.witness6 (enc := enc) (C := Try.checked) false ⟨#[], #[.agg #[.int .u32 0, .int .u32 0], .slice none 0 0], []⟩ 8 (by kernel_rfl) (by kernel_rfl) (by kernel_rfl) (by kernel_rfl)))
#print axioms windowSums_holds
end Go.Proofs.Ytamnnggijmmogaa
