/- The law WindowOut holds: for every window, every grant and every wish; no condition. -/
import Derived.Test.YtamnnggijmmogaaWinD
import Derived.Lib.SmallJoins
namespace Go.Proofs.Ytamnnggijmmogaa
set_option linter.all false
open Go.ChangeShapes Go.WideShapes Go.ChangeAt Go.RowKit

theorem cellsOut : Try.prog.cellsOf 24 = 2 := by kernel_rfl

set_option maxRecDepth 100000 in
theorem windowOut_law : LawWalk Try.prog 3 Try.f3 := by
  intro H enc W base args ds ps hval hA
  rw [Try.params3] at hA hval
  obtain ⟨v0, v1, v2, d0, d1, d2, p0, p1, p2, rfl, rfl, rfl, h0, h1, h2⟩ := trodAll_three hA
  obtain ⟨c0, c1, y0, y1, m, rfl, rfl, rfl, hy0, hy1⟩ := Joins.open_agg2 Try.underlying24 (by kernel_rfl) cellsOut (hval 0 24 v0 rfl rfl) h0
  obtain ⟨a, e0, rfl, wa⟩ := DataW.trod_int Try.underlying22 hy0
  obtain ⟨b, e1, rfl, wb⟩ := DataW.trod_int Try.underlying22 hy1
  simp at e0 e1; subst e0 e1
  obtain ⟨n, rfl, rfl, rfl, wn⟩ := open_int Try.underlying22 (hval 1 22 v1 rfl rfl) h1
  obtain ⟨h, rfl, rfl, rfl, wh⟩ := open_int Try.underlying3 (hval 2 3 v2 rfl rfl) h2
  exact windowOut_walk a b n h W (wf_u32 wa) (wf_u32 wb) (wf_u32 wn) (wf_i64 wh)

set_option maxRecDepth 100000 in
theorem windowOut_holds : Rows.WindowOutSaid :=
  OpenClaim.holds_of_wide 3 Try.f3 rfl rfl rfl rfl rfl rfl rfl ⟨rfl, rfl, rfl, rfl, rfl⟩ rfl rfl rfl rfl rfl (by kernel_rfl) Try.func3 (by kernel_rfl)
    (of_decide_eq_true (by kernel_rfl)) (by unfold Func.isWrapper; rw [if_neg (by decide +kernel)]; exact ⟨rfl, rfl⟩)
    (fun os started H enc _ => law_lifted own laidOut Try.underlying4 3 Try.f3 Rows.windowOutSpec Try.func3 (by kernel_rfl) (by kernel_rfl) (by kernel_rfl) rfl
      (fun H ds hl => by
        have hl : ds.length = 3 := hl
        match ds, hl with
        | [d1, d2, d3], _ => rfl)
      windowOut_law os started H enc
      (ChangeSpec.witness6 (enc := enc) (C := Try.checked) false ⟨#[], #[.agg #[.int .u32 0, .int .u32 0], .int .u32 0, .int .i64 0], []⟩ 8 (by kernel_rfl) (by kernel_rfl) (by kernel_rfl) (by kernel_rfl)))
#print axioms windowOut_holds
end Go.Proofs.Ytamnnggijmmogaa
