/- A region that draws its order: where just one operation may come, it is taken, and the fact goes on behind it. Over any program; no condition. -/
import Derived.Test.YtmmcamkmglpgiaaGreatDoorHeld
namespace Go.Proofs.YtmmcamkmglpgiaaGreatDoor
set_option linter.all false
section
variable {P : Program} {ops : Array Oper} {md : Region.Mode} {Q : Exit → Act → World → Prop} {I : World → Prop} {es : List Nat}
theorem wpAnyE_one {f : Nat} {listed : Array Bool} {a : Act} {w : World} (i : Nat) {o : Oper} (ho : ops[i]? = some o) (hB : decide (Region.ready md ops listed = [i]) = true) (hI : I w)
    (h : ∀ K : Act → World → Prop, (∀ a w, wpAnyE P md ops Q I es f (listed.setIfInBounds i true) a w → K a w) → if Region.wanted o (yielded ops a.tmps) then o.wp P a w K Q else K (a.put o.dst undef) w) : wpAnyE P md ops Q I es (f + 1) listed a w := by
  have hB := of_decide_eq_true hB
  refine ⟨fun _ => hI, fun h1 => (by rw [hB] at h1; cases h1), fun j hj => ?_⟩
  rw [hB] at hj
  obtain rfl : j = i := by simpa using hj
  have h2 := h (fun a' w' => wpAnyE P md ops Q I es f (listed.setIfInBounds j true) a' w') (fun a w h => h)
  unfold wpOp
  simp only [ho]
  split at h2
  · rename_i hw; simp only [hw, if_true]; exact .inl h2
  · rename_i hw; simp only [hw]; exact h2
/-- Where two operations may come: either of them. -/
theorem wpAnyE_two {f : Nat} {listed : Array Bool} {a : Act} {w : World} (i j : Nat) {o p : Oper} (ho : ops[i]? = some o) (hp : ops[j]? = some p) (hB : decide (Region.ready md ops listed = [i, j]) = true) (hI : I w)
    (h : ∀ K : Act → World → Prop, (∀ a w, wpAnyE P md ops Q I es f (listed.setIfInBounds i true) a w → K a w) → if Region.wanted o (yielded ops a.tmps) then o.wp P a w K Q else K (a.put o.dst undef) w)
    (g : ∀ K : Act → World → Prop, (∀ a w, wpAnyE P md ops Q I es f (listed.setIfInBounds j true) a w → K a w) → if Region.wanted p (yielded ops a.tmps) then p.wp P a w K Q else K (a.put p.dst undef) w) : wpAnyE P md ops Q I es (f + 1) listed a w := by
  have hB := of_decide_eq_true hB
  refine ⟨fun _ => hI, fun h1 => (by rw [hB] at h1; cases h1), fun q hq => ?_⟩
  rw [hB] at hq
  rcases List.mem_cons.1 hq with rfl | hq
  · have h2 := h (fun a' w' => wpAnyE P md ops Q I es f (listed.setIfInBounds q true) a' w') (fun a w h => h)
    unfold wpOp
    simp only [ho]
    split at h2
    · rename_i hw; simp only [hw, if_true]; exact .inl h2
    · rename_i hw; simp only [hw]; exact h2
  · obtain rfl : q = j := by simpa using hq
    have h2 := g (fun a' w' => wpAnyE P md ops Q I es f (listed.setIfInBounds q true) a' w') (fun a w h => h)
    unfold wpOp
    simp only [hp]
    split at h2
    · rename_i hw; simp only [hw, if_true]; exact .inl h2
    · rename_i hw; simp only [hw]; exact h2
/-- All operations are through. -/
theorem wpAnyE_end {listed : Array Bool} {a : Act} {w : World} (hB : decide (Region.ready md ops listed = []) = true) (hI : I w) (h : Q .normal a w) : wpAnyE P md ops Q I es 0 listed a w :=
  ⟨fun _ => hI, of_decide_eq_true hB, h⟩
end
end Go.Proofs.YtmmcamkmglpgiaaGreatDoor
