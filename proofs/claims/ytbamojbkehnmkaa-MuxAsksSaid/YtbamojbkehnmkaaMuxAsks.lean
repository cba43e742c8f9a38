/- The law MuxAsks holds: any channel of any, they with one changed, without those that are done, and behind a fault, are the document's; for all channels; no condition. -/
import Derived.Test.YtbamojbkehnmkaaMuxOpn
import Derived.Test.YtbamojbkehnmkaaMuxU
namespace Go.Proofs.Ytbamojbkehnmkaa
set_option linter.all false
open Go.ChangeShapes Go.WideShapes Go.ChangeAt Go.RowKit Go.Deep

set_option maxRecDepth 100000 in
theorem open_lch {H : Type} {enc : TypeId × Value → H} {w : World} {base : Nat} {spare : Nat → Bool} {held : Bool} {r : Reach} {b0 : Nat} {v : Value} {d : DataW H} {p : List MemPlace} (hv : Value.okWide Try.prog w r b0 53 v) (h : DataW.Trod enc Try.prog w base spare held 53 v d p) : ∃ c : CH, v = c.val ∧ c.ok := by
  obtain ⟨cs, rfl, hsz⟩ := okWide_struct Try.underlying53 hv
  obtain ⟨l⟩ := cs
  obtain ⟨fuel, hf⟩ := h
  have hcs : (Value.agg ⟨l⟩).cells.toList = l := by simp [Value.cells]
  rw [hcs] at hf
  obtain ⟨c, e, hc⟩ := lch_cells (by simpa using hsz.trans (by kernel_rfl : Try.prog.cellsOf 53 = 12)) hf
  exact ⟨c, by rw [e]; rfl, hc⟩
set_option maxRecDepth 100000 in
theorem muxAsks_law : LawWalkS Try.prog 5 Try.f5 := by
  intro H enc W base args ds ps hval hA hsz
  rw [Try.params5] at hA hval hsz
  obtain ⟨v0, v1, v2, d0, d1, d2, p0, p1, p2, rfl, rfl, rfl, h0, h1, h2⟩ := trodAll_three hA
  obtain ⟨A, cap, l, lim, dead, rfl, e1, e2, e3, e4, e5⟩ := open_lmux (hval 0 25 v0 rfl rfl) h0
  obtain ⟨loc, rfl, rfl, rfl, u1⟩ := open_int Try.underlying23 (hval 1 23 v1 rfl rfl) h1
  obtain ⟨c0, rfl, hc⟩ := open_lch (hval 2 53 v2 rfl rfl) h2
  exact (asks_walk A cap l lim dead loc c0 W e3 e1 e2 e4 e5 hc).mono fun e w' h => ⟨h.1, h.2.below (Nat.le_refl _) (by simp)⟩

set_option maxRecDepth 100000 in
theorem muxAsks_holds : Rows.MuxAsksSaid :=
  OpenClaim.holds_of_wide 5 Try.f5 rfl rfl rfl rfl rfl rfl rfl ⟨rfl, rfl, rfl, rfl, rfl⟩ rfl rfl rfl rfl rfl (by kernel_rfl) Try.func5 (by kernel_rfl)
    (of_decide_eq_true (by kernel_rfl)) (by unfold Func.isWrapper; rw [if_neg (by decide +kernel)]; exact ⟨rfl, rfl⟩)
    (fun os started H enc _ => law_liftedS own laidOut Try.underlying4 5 Try.f5 Rows.muxAsksSpec Try.func5 (by kernel_rfl) (by kernel_rfl) (by kernel_rfl) rfl
      (fun H ds hl => by
        have hl : ds.length = 3 := hl
        match ds, hl with
        | [d1, d2, d3], _ => rfl)
      muxAsks_law os started H enc
      (ChangeSpec.witness6 (enc := enc) (C := Try.checked) false ⟨#[], #[.agg #[.slice none 0 0, .int .u32 0, .bool false], .int .u32 0, .agg #[.int .u32 0, .int .u32 0, .int .u32 0, .int .u32 0, .int .u32 0, .int .u32 0, .bool false, .bool false, .bool false, .bool false, .int .i64 0, .bool false]], []⟩ 8 (by kernel_rfl) (by kernel_rfl) (by kernel_rfl) (by kernel_rfl)))
#print axioms muxAsks_holds
end Go.Proofs.Ytbamojbkehnmkaa
