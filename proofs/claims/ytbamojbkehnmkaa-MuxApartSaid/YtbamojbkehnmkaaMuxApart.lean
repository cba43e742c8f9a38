/- The law MuxApart holds: what comes for one channel changes no other one, whatever channels and message are handed in; no condition. -/
import Derived.Test.YtbamojbkehnmkaaMuxOpn
namespace Go.Proofs.Ytbamojbkehnmkaa
set_option linter.all false
open Go.ChangeShapes Go.WideShapes Go.ChangeAt Go.RowKit Go.Deep

set_option maxRecDepth 100000 in
theorem muxApart_law : LawWalkS Try.prog 3 Try.f3 := by
  intro H enc W base args ds ps hval hA hsz
  rw [Try.params3] at hA hval hsz
  obtain ⟨v0, v1, d0, d1, p0, p1, rfl, rfl, rfl, h0, h1⟩ := trodAll_two hA
  obtain ⟨A, cap, l, lim, dead, rfl, e1, e2, e3, e4, e5⟩ := open_lmux (hval 0 25 v0 rfl rfl) h0
  obtain ⟨m, rfl, hm⟩ := open_msg (hval 1 28 v1 rfl rfl) h1
  exact (apart_walk A cap l lim dead m W e3 e1 e2 e4 e5 hm).mono fun e w' h => ⟨h.1, h.2.below (Nat.le_refl _) (by simp)⟩

set_option maxRecDepth 100000 in
theorem muxApart_holds : Rows.MuxApartSaid :=
  OpenClaim.holds_of_wide 3 Try.f3 rfl rfl rfl rfl rfl rfl rfl ⟨rfl, rfl, rfl, rfl, rfl⟩ rfl rfl rfl rfl rfl (by kernel_rfl) Try.func3 (by kernel_rfl)
    (of_decide_eq_true (by kernel_rfl)) (by unfold Func.isWrapper; rw [if_neg (by decide +kernel)]; exact ⟨rfl, rfl⟩)
    (fun os started H enc _ => law_liftedS own laidOut Try.underlying4 3 Try.f3 Rows.muxApartSpec Try.func3 (by kernel_rfl) (by kernel_rfl) (by kernel_rfl) rfl
      (fun H ds hl => by
        have hl : ds.length = 2 := hl
        match ds, hl with
        | [d1, d2], _ => rfl)
      muxApart_law os started H enc
      (ChangeSpec.witness6 (enc := enc) (C := Try.checked) false ⟨#[], #[.agg #[.slice none 0 0, .int .u32 0, .bool false], .agg #[.int .i64 0, .int .u32 0, .int .u32 0, .int .u32 0, .int .u32 0, .int .u32 0, .string ⟨#[]⟩, .string ⟨#[]⟩, .bool false, .slice none 0 0]], []⟩ 8 (by kernel_rfl) (by kernel_rfl) (by kernel_rfl) (by kernel_rfl)))
#print axioms muxApart_holds
end Go.Proofs.Ytbamojbkehnmkaa
