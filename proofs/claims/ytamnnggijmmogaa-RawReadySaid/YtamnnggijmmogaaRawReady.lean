/- The law RawReady holds: for every read; no condition. -/
import Derived.Test.YtamnnggijmmogaaRawD
import Derived.Test.YtamnnggijmmogaaOpen
import Derived.Lib.SmallJoins
namespace Go.Proofs.Ytamnnggijmmogaa
set_option linter.all false
open Go.ChangeShapes Go.WideShapes Go.ChangeAt Go.RowKit

theorem cellsRead : Try.prog.cellsOf 58 = 6 := by kernel_rfl
set_option maxRecDepth 100000 in
theorem rawReady_law : LawWalk Try.prog 7 Try.f7 := by
  intro H enc W base args ds ps hval hA
  rw [Try.params7] at hA hval
  obtain ⟨v0, d0, rfl, rfl, h0⟩ := trodAll_one hA
  obtain ⟨cs, n, rfl, hcs, hf⟩ := agg_fields Try.underlying58 (by kernel_rfl) cellsRead (hval 0 58 v0 rfl rfl) h0
  obtain ⟨c0, c1, c2, c3, c4, c5, rfl⟩ := arr6 hcs
  obtain ⟨_, _, e0, g0⟩ := hf 0 _ rfl
  simp at e0; subst e0
  obtain ⟨m, rfl, wm⟩ := agg_int Try.underlying3 g0
  obtain ⟨_, _, e1, g1⟩ := hf 1 _ rfl
  simp at e1; subst e1
  obtain ⟨t, rfl, wt⟩ := agg_int Try.underlying3 g1
  obtain ⟨_, _, e2, g2⟩ := hf 2 _ rfl
  simp at e2; subst e2
  obtain ⟨h, rfl, wh⟩ := agg_int Try.underlying3 g2
  obtain ⟨_, _, e3, g3⟩ := hf 3 _ rfl
  simp at e3; subst e3
  obtain ⟨q, rfl, wq⟩ := agg_int Try.underlying3 g3
  obtain ⟨_, _, e4, g4⟩ := hf 4 _ rfl
  simp at e4; subst e4
  obtain ⟨i, rfl, wi⟩ := agg_int Try.underlying3 g4
  obtain ⟨_, _, e5, g5⟩ := hf 5 _ rfl
  simp at e5; subst e5
  obtain ⟨s, rfl, ws⟩ := agg_int Try.underlying3 g5
  exact rawReady_walk m t h q i s W (wf_i64 wm) (wf_i64 wt) (wf_i64 wh) (wf_i64 wq) (wf_i64 wi) (wf_i64 ws)

set_option maxRecDepth 100000 in
theorem rawReady_holds : Rows.RawReadySaid :=
  OpenClaim.holds_of_wide 7 Try.f7 rfl rfl rfl rfl rfl rfl rfl ⟨rfl, rfl, rfl, rfl, rfl⟩ rfl rfl rfl rfl rfl (by kernel_rfl) Try.func7 (by kernel_rfl)
    (of_decide_eq_true (by kernel_rfl)) (by unfold Func.isWrapper; rw [if_neg (by decide +kernel)]; exact ⟨rfl, rfl⟩)
    (fun os started H enc _ => law_lifted own laidOut Try.underlying4 7 Try.f7 Rows.rawReadySpec Try.func7 (by kernel_rfl) (by kernel_rfl) (by kernel_rfl) rfl
      (fun H ds hl => by
        have hl : ds.length = 1 := hl
        match ds, hl with
        | [d1], _ => rfl)
      rawReady_law os started H enc
      (ChangeSpec.witness6 (enc := enc) (C := Try.checked) false ⟨#[], #[.agg #[.int .i64 0, .int .i64 0, .int .i64 0, .int .i64 0, .int .i64 0, .int .i64 0]], []⟩ 8 (by kernel_rfl) (by kernel_rfl) (by kernel_rfl) (by kernel_rfl)))
#print axioms rawReady_holds
end Go.Proofs.Ytamnnggijmmogaa
