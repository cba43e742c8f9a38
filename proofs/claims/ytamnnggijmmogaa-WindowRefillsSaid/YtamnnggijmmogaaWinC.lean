/- The walk of layer 24's own examples: they hold; no condition. -/
import Derived.Test.YtamnnggijmmogaaWinB
namespace Go.Proofs.Ytamnnggijmmogaa
set_option linter.all false
open Go.RowKit

set_option maxHeartbeats 1600000 in
theorem alive24 (w : World) : Calls Try.prog 14 #[] w fun e w' => e = .returned (.bool true) ∧ Below w.heap.size w w' := by
  have s1 : sL 10 4 4 = 6 := by decide
  have s2 : sE 10 4 4 = 0 := by decide
  have s3 : fL 3 8 1 = 7 := by decide
  have s4 : fR 3 8 1 = 4 := by decide
  have s5 : fL 3 8 2 = 3 := by decide
  have s6 : fR 3 8 2 = 0 := by decide
  have s7 : fT 10 4 9 = 4 := by decide
  go_enter Try.func14, Try.ntmps14
  go_wp2_with fail
  go_call (sent_any 10 4 4 _ (by decide) (by decide)) as e w1 ⟨rfl, b1⟩
  have z1 : w.heap.size + 1 ≤ w1.heap.size := by have := b1.size; simpa using this
  have c0 := cellv b1 (b := w.heap.size) (o := 0) (v := .int .u32 10) (by go_size) (by simp [go_sem])
  have c1 := cellv b1 (b := w.heap.size) (o := 1) (v := .int .u32 4) (by go_size) (by simp [go_sem])
  have B1 : Below w.heap.size w w1 := ((Below.refl _ _).alloc (Nat.le_refl _) _).trans (b1.mono (by simp))
  clear b1
  go_wp2_with fail
  go_call (refill_any 3 8 1 _ (by decide) (by decide) (by decide)) as e w2 ⟨rfl, b2⟩
  have z2 : w1.heap.size + 1 ≤ w2.heap.size := by have := b2.size; simpa using this
  have B2 : Below w1.heap.size w1 w2 := ((Below.refl _ _).alloc (Nat.le_refl _) _).trans (b2.mono (by simp))
  have d0 := cellv b2 (b := w1.heap.size) (o := 0) (v := .int .u32 6) (by go_size) (by simp [go_sem])
  have c0 := cellv B2 (by omega) c0
  have c1 := cellv B2 (by omega) c1
  clear b2
  go_wp2_with fail
  go_call (refill_any 3 8 2 _ (by decide) (by decide) (by decide)) as e w3 ⟨rfl, b3⟩
  have z3 : w2.heap.size + 1 ≤ w3.heap.size := by have := b3.size; simpa using this
  have B3 : Below w2.heap.size w2 w3 := ((Below.refl _ _).alloc (Nat.le_refl _) _).trans (b3.mono (by simp))
  have e0 := cellv b3 (b := w2.heap.size) (o := 0) (v := .int .u32 7) (by go_size) (by simp [go_sem])
  have c0 := cellv B3 (by omega) c0
  have c1 := cellv B3 (by omega) c1
  have d0 := cellv B3 (by omega) d0
  clear b3
  have y0 : w.heap.size < w3.heap.size := by omega
  have y1 : w1.heap.size < w3.heap.size := by omega
  have y2 : w2.heap.size < w3.heap.size := by omega
  have BB : Below w.heap.size w w3 := (B1.trans (B2.mono (by omega))).trans (B3.mono (by omega))
  go_wp2_with fail
  go_call (fit_any 10 4 9 _ (by decide) (by decide)) as e w4 ⟨rfl, b4⟩
  have B4 : Below w3.heap.size w3 w4 := ((Below.refl _ _).alloc (Nat.le_refl _) _).trans (b4.mono (by simp))
  have d0 := cellv B4 (by omega) d0
  have e0 := cellv B4 (by omega) e0
  clear b4
  go_wp2_with fail
  go_ret
  exact ⟨rfl, BB.trans (B4.mono (by omega))⟩
end Go.Proofs.Ytamnnggijmmogaa
