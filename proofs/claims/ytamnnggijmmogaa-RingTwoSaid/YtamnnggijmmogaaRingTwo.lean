/- The law RingTwo holds: for every size, all steps and turns; no condition. -/
import Derived.Test.YtamnnggijmmogaaRingL
import Derived.Test.YtamnnggijmmogaaFrameS
import Derived.Lib.SmallJoins
import Derived.Deep.Grids
namespace Go.Proofs.Ytamnnggijmmogaa
set_option linter.all false
open Go.ChangeShapes Go.WideShapes Go.ChangeAt Go.RowKit Go.Deep

set_option maxRecDepth 100000 in
theorem bools_open {H : Type} {enc : TypeId × Value → H} {w : World} {base base' : Nat} {held : Bool} {r : Reach} {v : Value} {d : DataW H} {p : List MemPlace}
    (hv : Value.okWide Try.prog w r base' 90 v) (h : DataW.Trod enc Try.prog w base (fun _ => true) held 90 v d p) : ∃ T tc ts, v = .slice T ts.length tc ∧ ts.length ≤ tc ∧ tc ≤ maxLen ∧ Bools w T ts := by
  obtain ⟨a0, len, cap, rfl⟩ := okWide_slice Try.underlying90 hv
  obtain ⟨fuel, hf⟩ := h
  rcases open_bools Try.underlying90 Try.underlying4 (by kernel_rfl) hf with ⟨hcs, _⟩ | ⟨a, l, c, B, hcs, _, hl, hm, _, hc⟩
  · simp [Value.cells] at hcs
    obtain ⟨rfl, rfl, rfl⟩ := hcs
    exact ⟨none, 0, [], rfl, Nat.le_refl _, Nat.zero_le _, fun h => absurd h (Nat.lt_irrefl _)⟩
  · simp [Value.cells] at hcs
    obtain ⟨rfl, rfl, rfl⟩ := hcs
    refine ⟨some a, cap, (List.range len).map B, by simp, by simpa using hl, hm, fun h0 => ?_⟩
    have h0 : 0 < len := by simpa using h0
    have hs : a.spot = none := by
      have e0 := hc 0 (by omega)
      obtain ⟨b, o, s⟩ := a
      unfold Addr.add at e0
      simp at e0
      unfold World.cell? at e0
      cases s with
      | none => rfl
      | some s => simp at e0; split at e0 <;> simp at e0
    obtain ⟨b, o, s⟩ := a
    simp at hs
    subst hs
    refine ⟨b, o, rfl, World.block_lt_of_cell? w _ (hc 0 (by omega)), fun i v hi => ?_⟩
    rw [List.getElem?_map] at hi
    by_cases hil : i < len
    · rw [List.getElem?_range hil] at hi
      simp at hi
      subst hi
      have := hc i (by omega)
      simpa [Addr.add_lit] using this
    · rw [List.getElem?_eq_none (by simp; omega)] at hi
      simp at hi
set_option maxRecDepth 100000 in
theorem ringTwo_law : LawWalkS Try.prog 13 Try.f13 := by
  intro H enc W base args ds ps hval hA hsz
  rw [Try.params13] at hA hval hsz
  obtain ⟨v0, v1, v2, d0, d1, d2, p0, p1, p2, rfl, rfl, rfl, h0, h1, h2⟩ := trodAll_three hA
  obtain ⟨s, rfl, rfl, rfl, ws⟩ := open_int Try.underlying3 (hval 0 3 v0 rfl rfl) h0
  obtain ⟨P, cap, os, rfl, hl, hm, hr, hS⟩ := steps_open (hval 1 76 v1 rfl rfl) h1 (light_arg (j := 1) hsz rfl rfl)
  obtain ⟨T, tc, ts, rfl, ht, htm, hT⟩ := bools_open (hval 2 90 v2 rfl rfl) h2
  exact ringTwo_walk s P os cap T ts tc W hS hl hm hr hT ht htm

set_option maxRecDepth 100000 in
theorem ringTwo_holds : Rows.RingTwoSaid :=
  OpenClaim.holds_of_wide 13 Try.f13 rfl rfl rfl rfl rfl rfl rfl ⟨rfl, rfl, rfl, rfl, rfl⟩ rfl rfl rfl rfl rfl (by kernel_rfl) Try.func13 (by kernel_rfl)
    (of_decide_eq_true (by kernel_rfl)) (by unfold Func.isWrapper; rw [if_neg (by decide +kernel)]; exact ⟨rfl, rfl⟩)
    (fun os started H enc _ => law_liftedS own laidOut Try.underlying4 13 Try.f13 Rows.ringTwoSpec Try.func13 (by kernel_rfl) (by kernel_rfl) (by kernel_rfl) rfl
      (fun H ds hl => by
        have hl : ds.length = 3 := hl
        match ds, hl with
        | [d1, d2, d3], _ => rfl)
      ringTwo_law os started H enc
      (ChangeSpec.witness6 (enc := enc) (C := Try.checked) false ⟨#[], #[.int .i64 0, .slice none 0 0, .slice none 0 0], []⟩ 8 (by kernel_rfl) (by kernel_rfl) (by kernel_rfl) (by kernel_rfl)))
#print axioms ringTwo_holds
end Go.Proofs.Ytamnnggijmmogaa
