/- The document's answer for layer 1: what is wrong with a field; no condition. -/
import Derived.Test.YtdmjabfjkkjhbaaDoorRefB
namespace Go.Proofs.YtdmjabfjkkjhbaaDoor
set_option linter.all false
open Go.RowKit

set_option maxRecDepth 100000 in
set_option maxHeartbeats 3200000 in
theorem refFault_plain (f : FD) (w : World) (hk : f.kind = 1 ∨ f.kind = 2 ∨ f.kind = 3 ∨ f.kind = 4 ∨ f.kind = 6) : Calls Tryd.prog 34 #[f.val] w fun e w' => e = .returned (.int .i64 (faultP f.pf)) ∧ Only [] w w' := by
  obtain ⟨kind, n, tA, tc, text, lA, lc, list⟩ := f
  unfold FD.val
  dsimp only at hk ⊢
  rcases hk with hk | hk | hk | hk | hk
  · subst hk
    by_cases hb : 255 < n
    · rw [show faultP (FD.pf ⟨1, n, tA, tc, text, lA, lc, list⟩) = 5 from by unfold faultP FD.pf; simp [over, hb]]
      go_enter Tryd.func34, Tryd.ntmps34
      go_wp2
      go_ret
      exact ⟨rfl, (Only.refl _ _).alloc _⟩
    · rw [show faultP (FD.pf ⟨1, n, tA, tc, text, lA, lc, list⟩) = 0 from by unfold faultP FD.pf; simp [over, hb]]
      go_enter Tryd.func34, Tryd.ntmps34
      go_wp2
      go_ret
      exact ⟨rfl, (Only.refl _ _).alloc _⟩
  · subst hk
    by_cases hb : 1 < n
    · rw [show faultP (FD.pf ⟨2, n, tA, tc, text, lA, lc, list⟩) = 5 from by unfold faultP FD.pf; simp [over, hb]]
      go_enter Tryd.func34, Tryd.ntmps34
      go_wp2
      go_ret
      exact ⟨rfl, (Only.refl _ _).alloc _⟩
    · rw [show faultP (FD.pf ⟨2, n, tA, tc, text, lA, lc, list⟩) = 0 from by unfold faultP FD.pf; simp [over, hb]]
      go_enter Tryd.func34, Tryd.ntmps34
      go_wp2
      go_ret
      exact ⟨rfl, (Only.refl _ _).alloc _⟩
  · subst hk
    rw [show faultP (FD.pf ⟨3, n, tA, tc, text, lA, lc, list⟩) = 0 from by unfold faultP FD.pf; simp]
    go_enter Tryd.func34, Tryd.ntmps34
    go_wp2
    go_ret
    exact ⟨rfl, (Only.refl _ _).alloc _⟩
  · subst hk
    obtain ⟨L, hL⟩ : ∃ L, text.length = L := ⟨_, rfl⟩
    by_cases hb : 32768 < L
    · rw [show faultP (FD.pf ⟨4, n, tA, tc, text, lA, lc, list⟩) = 6 from by unfold faultP FD.pf; simp [over]; omega]
      have hb' : (32768 : Int) < (L : Int) := by omega
      rw [hL]
      clear hL
      go_enter Tryd.func34, Tryd.ntmps34
      go_wp2
      go_ret
      exact ⟨rfl, (Only.refl _ _).alloc _⟩
    · rw [show faultP (FD.pf ⟨4, n, tA, tc, text, lA, lc, list⟩) = 0 from by unfold faultP FD.pf; simp [over]; omega]
      have hb' : ¬ (32768 : Int) < (L : Int) := by omega
      rw [hL]
      clear hL
      go_enter Tryd.func34, Tryd.ntmps34
      go_wp2
      go_ret
      exact ⟨rfl, (Only.refl _ _).alloc _⟩
  · subst hk
    obtain ⟨L, hL⟩ : ∃ L, text.length = L := ⟨_, rfl⟩
    by_cases hb : 33792 < L
    · rw [show faultP (FD.pf ⟨6, n, tA, tc, text, lA, lc, list⟩) = 6 from by unfold faultP FD.pf; simp [over]; omega]
      have hb' : (33792 : Int) < (L : Int) := by omega
      rw [hL]
      clear hL
      go_enter Tryd.func34, Tryd.ntmps34
      go_wp2
      go_ret
      exact ⟨rfl, (Only.refl _ _).alloc _⟩
    · rw [show faultP (FD.pf ⟨6, n, tA, tc, text, lA, lc, list⟩) = 0 from by unfold faultP FD.pf; simp [over]; omega]
      have hb' : ¬ (33792 : Int) < (L : Int) := by omega
      rw [hL]
      clear hL
      go_enter Tryd.func34, Tryd.ntmps34
      go_wp2
      go_ret
      exact ⟨rfl, (Only.refl _ _).alloc _⟩
end Go.Proofs.YtdmjabfjkkjhbaaDoor
