/- The law MuxTable holds: from no channels on, through any messages, there are at most eight, rising by number, of unlike remotes; each Open is answered once, unless it is wrong; the dead say nothing; for all limits and messages; no condition. -/
import Derived.Test.YtbamojbkehnmkaaMuxOpn
import Derived.Test.YtbamojbkehnmkaaMuxQ
namespace Go.Proofs.Ytbamojbkehnmkaa
set_option linter.all false
open Go.ChangeShapes Go.WideShapes Go.ChangeAt Go.RowKit Go.Deep

set_option maxRecDepth 100000 in
theorem muxTable_law : LawWalkS Try.prog 4 Try.f4 := by
  intro H enc W base args ds ps hval hA hsz
  rw [Try.params4] at hA hval hsz
  obtain ⟨v0, v1, d0, d1, p0, p1, rfl, rfl, rfl, h0, h1⟩ := trodAll_two hA
  obtain ⟨limit, rfl, rfl, rfl, u0⟩ := open_int Try.underlying23 (hval 0 23 v0 rfl rfl) h0
  obtain ⟨A, ms, cap, rfl, e1, e2, e3, e4⟩ := open_rdX (cf := MD.row) (ok := MArg W) Try.underlying31 (by kernel_rfl : Try.prog.cellsOf 28 = 10) (by decide) mdr_len (fun n l y hl hy => msg_cells hl hy) (hval 1 31 v1 rfl rfl) h1
  exact (table_walk limit ms A cap W (wf_u32 u0) e3 e1 e2 e4).mono fun e w' h => ⟨h.1, h.2.below (Nat.le_refl _) (by simp)⟩

set_option maxRecDepth 100000 in
theorem muxTable_holds : Rows.MuxTableSaid :=
  OpenClaim.holds_of_wide 4 Try.f4 rfl rfl rfl rfl rfl rfl rfl ⟨rfl, rfl, rfl, rfl, rfl⟩ rfl rfl rfl rfl rfl (by kernel_rfl) Try.func4 (by kernel_rfl)
    (of_decide_eq_true (by kernel_rfl)) (by unfold Func.isWrapper; rw [if_neg (by decide +kernel)]; exact ⟨rfl, rfl⟩)
    (fun os started H enc _ => law_liftedS own laidOut Try.underlying4 4 Try.f4 Rows.muxTableSpec Try.func4 (by kernel_rfl) (by kernel_rfl) (by kernel_rfl) rfl
      (fun H ds hl => by
        have hl : ds.length = 2 := hl
        match ds, hl with
        | [d1, d2], _ => rfl)
      muxTable_law os started H enc
      (ChangeSpec.witness6 (enc := enc) (C := Try.checked) false ⟨#[], #[.int .u32 0, .slice none 0 0], []⟩ 8 (by kernel_rfl) (by kernel_rfl) (by kernel_rfl) (by kernel_rfl)))
#print axioms muxTable_holds
end Go.Proofs.Ytbamojbkehnmkaa
