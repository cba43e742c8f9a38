/- The law RingParts holds: for every ring, bytes, cut and wishes; no condition. -/
import Derived.Test.YtamnnggijmmogaaRingH
import Derived.Test.YtamnnggijmmogaaOpen
import Derived.Lib.SmallJoins
namespace Go.Proofs.Ytamnnggijmmogaa
set_option linter.all false
open Go.ChangeShapes Go.WideShapes Go.ChangeAt Go.RowKit

theorem cellsParts : Try.prog.cellsOf 67 = 5 := by kernel_rfl
theorem arr5 {cs : Array Value} (h : cs.size = 5) : ∃ c0 c1 c2 c3 c4, cs = #[c0, c1, c2, c3, c4] := by
  obtain ⟨l⟩ := cs
  match l, h with
  | [c0, c1, c2, c3, c4], _ => exact ⟨c0, c1, c2, c3, c4, rfl⟩
section
variable {H : Type} {enc : TypeId × Value → H} {P : Program} {w : World} {base : Nat} {spare : Nat → Bool} {held : Bool}
theorem agg_ints {k : IntKind} {n : Nat} {t e : TypeId} {c : Value} {y : DataW H × List MemPlace} (ht : P.underlying t = some (.slice e)) (he : P.underlying e = some (.int k)) (hc : P.cellsOf e = 1) (h : DataW.trod enc P w base spare held n t [c] = some y) :
    ∃ A len cap zs, c = .slice A len cap ∧ len ≤ cap ∧ cap ≤ maxLen ∧ Ints k w A len zs := by
  rcases Go.ChangeShapes.open_ints ht he hc h with ⟨hcs, _⟩ | ⟨a, l, c', zs, hcs, _, hl, hm, hz, _, hcell, hwz⟩
  · simp at hcs
    subst hcs
    exact ⟨none, 0, 0, [], rfl, Nat.le_refl _, Nat.zero_le _, rfl, Nat.zero_le _, by simp, by simp⟩
  · simp at hcs
    subst hcs
    have hlz : l ≤ zs.length := by split at hz <;> omega
    refine ⟨some a, l, c', zs.take l, rfl, hl, hm, by simp; omega, by omega, fun n hn => hwz n (List.mem_of_mem_take hn), fun h0 => ?_⟩
    obtain ⟨b, off, rfl, hc'⟩ := ints_at hcell (by omega)
    refine ⟨b, off, rfl, World.block_lt_of_cell? w _ (hc' 0 (by omega)), fun i hi => ?_⟩
    rw [hc' i (by omega)]
    simp [List.getD_eq_getElem?_getD, List.getElem?_take, hi]
end
set_option maxRecDepth 100000 in
theorem ringParts_law : LawWalk Try.prog 10 Try.f10 := by
  intro H enc W base args ds ps hval hA
  rw [Try.params10] at hA hval
  obtain ⟨v0, d0, rfl, rfl, h0⟩ := trodAll_one hA
  obtain ⟨cs, n, rfl, hcs, hf⟩ := agg_fields Try.underlying67 (by kernel_rfl) cellsParts (hval 0 67 v0 rfl rfl) h0
  obtain ⟨c0, c1, c2, c3, c4, rfl⟩ := arr5 hcs
  obtain ⟨_, _, e0, g0⟩ := hf 0 _ rfl
  simp at e0; subst e0
  obtain ⟨_, _, e1, g1⟩ := hf 1 _ rfl
  simp at e1; subst e1
  obtain ⟨_, _, e2, g2⟩ := hf 2 _ rfl
  simp at e2; subst e2
  obtain ⟨_, _, e3, g3⟩ := hf 3 _ rfl
  simp at e3; subst e3
  obtain ⟨_, _, e4, g4⟩ := hf 4 _ rfl
  simp at e4; subst e4
  obtain ⟨s, rfl, ws⟩ := agg_int Try.underlying3 g0
  obtain ⟨A, len, cap, zs, rfl, hlc, hcm, hi⟩ := agg_ints Try.underlying65 Try.underlying5 (by kernel_rfl) g1
  obtain ⟨a, rfl, wa⟩ := agg_int Try.underlying55 g2
  obtain ⟨b, rfl, wb⟩ := agg_int Try.underlying55 g3
  obtain ⟨c, rfl, wc⟩ := agg_int Try.underlying55 g4
  exact ringParts_walk s A len cap zs a b c W hi hlc hcm (wf_u16 wa) (wf_u16 wb) (wf_u16 wc)

set_option maxRecDepth 100000 in
theorem ringParts_holds : Rows.RingPartsSaid :=
  OpenClaim.holds_of_wide 10 Try.f10 rfl rfl rfl rfl rfl rfl rfl ⟨rfl, rfl, rfl, rfl, rfl⟩ rfl rfl rfl rfl rfl (by kernel_rfl) Try.func10 (by kernel_rfl)
    (of_decide_eq_true (by kernel_rfl)) (by unfold Func.isWrapper; rw [if_neg (by decide +kernel)]; exact ⟨rfl, rfl⟩)
    (fun os started H enc _ => law_lifted own laidOut Try.underlying4 10 Try.f10 Rows.ringPartsSpec Try.func10 (by kernel_rfl) (by kernel_rfl) (by kernel_rfl) rfl
      (fun H ds hl => by
        have hl : ds.length = 1 := hl
        match ds, hl with
        | [d1], _ => rfl)
      ringParts_law os started H enc
      (ChangeSpec.witness6 (enc := enc) (C := Try.checked) false ⟨#[], #[.agg #[.int .i64 0, .slice none 0 0, .int .u16 0, .int .u16 0, .int .u16 0]], []⟩ 8 (by kernel_rfl) (by kernel_rfl) (by kernel_rfl) (by kernel_rfl)))
#print axioms ringParts_holds
end Go.Proofs.Ytamnnggijmmogaa
