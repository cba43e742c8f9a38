/- The law RawGrows holds: for every read, more bytes and later times; no condition. -/
import Derived.Test.YtamnnggijmmogaaRawG
import Derived.Test.YtamnnggijmmogaaOpen
import Derived.Lib.SmallJoins
namespace Go.Proofs.Ytamnnggijmmogaa
set_option linter.all false
open Go.ChangeShapes Go.WideShapes Go.ChangeAt Go.RowKit

theorem cellsRead : Try.prog.cellsOf 58 = 6 := by kernel_rfl
set_option maxRecDepth 100000 in
theorem rawGrows_law : LawWalk Try.prog 9 Try.f9 := by
  intro H enc W base args ds ps hval hA
  rw [Try.params9] at hA hval
  obtain ⟨v0, v1, v2, d0, d1, d2, p0, p1, p2, rfl, rfl, rfl, h0, h1, h2⟩ := trodAll_three hA
  obtain ⟨cs, n, rfl, hcs, hf⟩ := agg_fields Try.underlying58 (by kernel_rfl) cellsRead (hval 0 58 v0 rfl rfl) h0
  obtain ⟨c0, c1, c2, c3, c4, c5, rfl⟩ := arr6 hcs
  obtain ⟨_, _, e0, g0⟩ := hf 0 _ rfl
  simp at e0; subst e0
  obtain ⟨m, rfl, wm⟩ := agg_int Try.underlying3 g0
  obtain ⟨_, _, e1, g1⟩ := hf 1 _ rfl
  simp at e1; subst e1
  obtain ⟨t, rfl, wt⟩ := agg_int Try.underlying3 g1
  obtain ⟨_, _, e2, g2⟩ := hf 2 _ rfl
  simp at e2; subst e2
  obtain ⟨h, rfl, wh⟩ := agg_int Try.underlying3 g2
  obtain ⟨_, _, e3, g3⟩ := hf 3 _ rfl
  simp at e3; subst e3
  obtain ⟨q, rfl, wq⟩ := agg_int Try.underlying3 g3
  obtain ⟨_, _, e4, g4⟩ := hf 4 _ rfl
  simp at e4; subst e4
  obtain ⟨i, rfl, wi⟩ := agg_int Try.underlying3 g4
  obtain ⟨_, _, e5, g5⟩ := hf 5 _ rfl
  simp at e5; subst e5
  obtain ⟨s, rfl, ws⟩ := agg_int Try.underlying3 g5
  obtain ⟨a, rfl, rfl, rfl, wa⟩ := open_int Try.underlying55 (hval 1 55 v1 rfl rfl) h1
  obtain ⟨b, rfl, rfl, rfl, wb⟩ := open_int Try.underlying55 (hval 2 55 v2 rfl rfl) h2
  exact rawGrows_walk m t h q i s a b W (wf_i64 wm) (wf_i64 wt) (wf_i64 wh) (wf_i64 wq) (wf_i64 wi) (wf_i64 ws) (wf_u16 wa) (wf_u16 wb)

set_option maxRecDepth 100000 in
theorem rawGrows_holds : Rows.RawGrowsSaid :=
  OpenClaim.holds_of_wide 9 Try.f9 rfl rfl rfl rfl rfl rfl rfl ⟨rfl, rfl, rfl, rfl, rfl⟩ rfl rfl rfl rfl rfl (by kernel_rfl) Try.func9 (by kernel_rfl)
    (of_decide_eq_true (by kernel_rfl)) (by unfold Func.isWrapper; rw [if_neg (by decide +kernel)]; exact ⟨rfl, rfl⟩)
    (fun os started H enc _ => law_lifted own laidOut Try.underlying4 9 Try.f9 Rows.rawGrowsSpec Try.func9 (by kernel_rfl) (by kernel_rfl) (by kernel_rfl) rfl
      (fun H ds hl => by
        have hl : ds.length = 3 := hl
        match ds, hl with
        | [d1, d2, d3], _ => rfl)
      rawGrows_law os started H enc
      (ChangeSpec.witness6 (enc := enc) (C := Try.checked) false ⟨#[], #[.agg #[.int .i64 0, .int .i64 0, .int .i64 0, .int .i64 0, .int .i64 0, .int .i64 0], .int .u16 0, .int .u16 0], []⟩ 8 (by kernel_rfl) (by kernel_rfl) (by kernel_rfl) (by kernel_rfl)))
#print axioms rawGrows_holds
end Go.Proofs.Ytamnnggijmmogaa
