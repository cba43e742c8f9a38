/- The walks of layer 14's examples and of the law RawReady; for every input that its types can hold. -/
import Derived.Test.YtamnnggijmmogaaRawC
namespace Go.Proofs.Ytamnnggijmmogaa
set_option linter.all false
open Go.RowKit

theorem alive14 (w : World) : Calls Try.prog 25 #[] w fun e w' => e = .returned (.bool true) ∧ Below w.heap.size w w' := by
  have q0 : rdB 1 0 0 2 0 0 = false := by decide
  have q1 : rdN 1 0 3 2 0 0 = 2 := by decide
  have q2 : rdB 1 0 3 2 0 0 = true := by decide
  have q3 : rdN 0 5 0 2 0 5 = 0 := by decide
  have q4 : rdB 0 5 0 2 0 5 = true := by decide
  have q5 : wtN 4 2 3 9 1 7 = 1 := by decide
  have q6 : wtB 4 2 3 9 1 7 = true := by decide
  go_enter Try.func25, Try.ntmps25
  go_wp2_with fail
  go_call (ready_any 1 0 0 2 0 0 _ (by decide) (by decide) (by decide) (by decide) (by decide) (by decide) ) as e w1 ⟨rfl, b1⟩
  have z1 : w.heap.size ≤ w1.heap.size := b1.size
  have B1 : Below w.heap.size w w1 := b1
  have BB : Below w.heap.size w w1 := B1
  clear b1 B1
  go_wp2_with fail
  go_call (ready_any 1 0 3 2 0 0 _ (by decide) (by decide) (by decide) (by decide) (by decide) (by decide) ) as e w2 ⟨rfl, b2⟩
  have z2 : w1.heap.size ≤ w2.heap.size := b2.size
  have B2 : Below w1.heap.size w1 w2 := b2
  have BB := BB.trans (B2.mono (by omega))
  clear b2 B2
  go_wp2_with fail
  go_call (ready_any 0 5 0 2 0 5 _ (by decide) (by decide) (by decide) (by decide) (by decide) (by decide) ) as e w3 ⟨rfl, b3⟩
  have z3 : w2.heap.size ≤ w3.heap.size := b3.size
  have B3 : Below w2.heap.size w2 w3 := b3
  have BB := BB.trans (B3.mono (by omega))
  clear b3 B3
  go_wp2_with fail
  go_call (wait_any 4 2 3 9 1 7 _ (by decide) (by decide) (by decide) (by decide) (by decide) (by decide) ) as e w4 ⟨rfl, b4⟩
  have z4 : w3.heap.size ≤ w4.heap.size := b4.size
  have B4 : Below w3.heap.size w3 w4 := b4
  have BB := BB.trans (B4.mono (by omega))
  clear b4 B4
  go_wp2_with fail
  go_ret
  exact ⟨rfl, BB⟩

theorem lready_any (m t h q i s : Int) (w : World) (mb : -9223372036854775808 ≤ m ∧ m ≤ 9223372036854775807) (tb : -9223372036854775808 ≤ t ∧ t ≤ 9223372036854775807) (hb : -9223372036854775808 ≤ h ∧ h ≤ 9223372036854775807) (qb : -9223372036854775808 ≤ q ∧ q ≤ 9223372036854775807) (ib : -9223372036854775808 ≤ i ∧ i ≤ 9223372036854775807) (sb : -9223372036854775808 ≤ s ∧ s ≤ 9223372036854775807) : Calls Try.prog 26 #[.agg #[.int .i64 m, .int .i64 t, .int .i64 h, .int .i64 q, .int .i64 i, .int .i64 s]] w fun e w' => e = .returned (.tuple #[.int .i64 (rdN m t h q i s), .bool (rdB m t h q i s)]) ∧ Below w.heap.size w w' := by
  go_enter Try.func26, Try.ntmps26
  go_wp2_with fail
  go_call (ready_any m t h q i s _ mb tb hb qb ib sb) as e w1 ⟨rfl, b1⟩
  have z1 : w.heap.size + 1 ≤ w1.heap.size := by (have := b1.size; simp at this; omega)
  have B1 : Below w.heap.size w w1 := ((Below.refl _ _).alloc (by go_size) _).trans (b1.mono (by go_size))
  have BB : Below w.heap.size w w1 := B1
  clear b1 B1
  go_wp2_with fail
  go_ret2
  exact ⟨rfl, BB⟩

theorem lwait_any (m t h q i s : Int) (w : World) (mb : -9223372036854775808 ≤ m ∧ m ≤ 9223372036854775807) (tb : -9223372036854775808 ≤ t ∧ t ≤ 9223372036854775807) (hb : -9223372036854775808 ≤ h ∧ h ≤ 9223372036854775807) (qb : -9223372036854775808 ≤ q ∧ q ≤ 9223372036854775807) (ib : -9223372036854775808 ≤ i ∧ i ≤ 9223372036854775807) (sb : -9223372036854775808 ≤ s ∧ s ≤ 9223372036854775807) : Calls Try.prog 28 #[.agg #[.int .i64 m, .int .i64 t, .int .i64 h, .int .i64 q, .int .i64 i, .int .i64 s]] w fun e w' => e = .returned (.tuple #[.int .i64 (wtN m t h q i s), .bool (wtB m t h q i s)]) ∧ Below w.heap.size w w' := by
  go_enter Try.func28, Try.ntmps28
  go_wp2_with fail
  go_call (wait_any m t h q i s _ mb tb hb qb ib sb) as e w1 ⟨rfl, b1⟩
  have z1 : w.heap.size + 1 ≤ w1.heap.size := by (have := b1.size; simp at this; omega)
  have B1 : Below w.heap.size w w1 := ((Below.refl _ _).alloc (by go_size) _).trans (b1.mono (by go_size))
  have BB : Below w.heap.size w w1 := B1
  clear b1 B1
  go_wp2_with fail
  go_ret2
  exact ⟨rfl, BB⟩

set_option maxRecDepth 100000 in
theorem rawReady_walk (m t h q i s : Int) (w : World) (mb : -9223372036854775808 ≤ m ∧ m ≤ 9223372036854775807) (tb : -9223372036854775808 ≤ t ∧ t ≤ 9223372036854775807) (hb : -9223372036854775808 ≤ h ∧ h ≤ 9223372036854775807) (qb : -9223372036854775808 ≤ q ∧ q ≤ 9223372036854775807) (ib : -9223372036854775808 ≤ i ∧ i ≤ 9223372036854775807) (sb : -9223372036854775808 ≤ s ∧ s ≤ 9223372036854775807) : Calls Try.prog 7 #[.agg #[.int .i64 m, .int .i64 t, .int .i64 h, .int .i64 q, .int .i64 i, .int .i64 s]] w fun e w' => e = .returned (.bool true) ∧ Below w.heap.size w w' := by
  go_enter Try.func7, Try.ntmps7
  go_wp2_with fail
  go_call (alive14 _) as e w1 ⟨rfl, b1⟩
  have z1 : w.heap.size + 1 ≤ w1.heap.size := by (have := b1.size; simp at this; omega)
  have B1 : Below w.heap.size w w1 := ((Below.refl _ _).alloc (by go_size) _).trans (b1.mono (by go_size))
  have c0 := cellv b1 (b := w.heap.size) (o := 0) (v := .int .i64 m) (by go_size) (by simp [go_sem])
  have c1 := cellv b1 (b := w.heap.size) (o := 1) (v := .int .i64 t) (by go_size) (by simp [go_sem])
  have c2 := cellv b1 (b := w.heap.size) (o := 2) (v := .int .i64 h) (by go_size) (by simp [go_sem])
  have c3 := cellv b1 (b := w.heap.size) (o := 3) (v := .int .i64 q) (by go_size) (by simp [go_sem])
  have c4 := cellv b1 (b := w.heap.size) (o := 4) (v := .int .i64 i) (by go_size) (by simp [go_sem])
  have c5 := cellv b1 (b := w.heap.size) (o := 5) (v := .int .i64 s) (by go_size) (by simp [go_sem])
  have y0 : w.heap.size < w1.heap.size := by omega
  have BB : Below w.heap.size w w1 := B1
  clear b1 B1
  go_wp2_with fail
  go_call (lready_any m t h q i s _ mb tb hb qb ib sb) as e w2 ⟨rfl, b2⟩
  have z2 : w1.heap.size ≤ w2.heap.size := b2.size
  have B2 : Below w1.heap.size w1 w2 := b2
  have c0 := cellv B2 (by omega) c0
  have c1 := cellv B2 (by omega) c1
  have c2 := cellv B2 (by omega) c2
  have c3 := cellv B2 (by omega) c3
  have c4 := cellv B2 (by omega) c4
  have c5 := cellv B2 (by omega) c5
  have y0 : w.heap.size < w2.heap.size := by omega
  have BB := BB.trans (B2.mono (by omega))
  clear b2 B2
  go_wp2_with fail
  go_call (rready_any m t h q i s _ mb tb hb qb ib sb) as e w3 ⟨rfl, b3⟩
  have z3 : w2.heap.size ≤ w3.heap.size := b3.size
  have B3 : Below w2.heap.size w2 w3 := b3
  have c0 := cellv B3 (by omega) c0
  have c1 := cellv B3 (by omega) c1
  have c2 := cellv B3 (by omega) c2
  have c3 := cellv B3 (by omega) c3
  have c4 := cellv B3 (by omega) c4
  have c5 := cellv B3 (by omega) c5
  have y0 : w.heap.size < w3.heap.size := by omega
  have BB := BB.trans (B3.mono (by omega))
  clear b3 B3
  go_wp2_with fail
  go_call (lwait_any m t h q i s _ mb tb hb qb ib sb) as e w4 ⟨rfl, b4⟩
  have z4 : w3.heap.size ≤ w4.heap.size := b4.size
  have B4 : Below w3.heap.size w3 w4 := b4
  have c0 := cellv B4 (by omega) c0
  have c1 := cellv B4 (by omega) c1
  have c2 := cellv B4 (by omega) c2
  have c3 := cellv B4 (by omega) c3
  have c4 := cellv B4 (by omega) c4
  have c5 := cellv B4 (by omega) c5
  have y0 : w.heap.size < w4.heap.size := by omega
  have BB := BB.trans (B4.mono (by omega))
  clear b4 B4
  go_wp2_with fail
  go_call (rwait_any m t h q i s _ mb tb hb qb ib sb) as e w5 ⟨rfl, b5⟩
  have z5 : w4.heap.size ≤ w5.heap.size := b5.size
  have B5 : Below w4.heap.size w4 w5 := b5
  have c0 := cellv B5 (by omega) c0
  have c1 := cellv B5 (by omega) c1
  have c2 := cellv B5 (by omega) c2
  have c3 := cellv B5 (by omega) c3
  have c4 := cellv B5 (by omega) c4
  have c5 := cellv B5 (by omega) c5
  have y0 : w.heap.size < w5.heap.size := by omega
  have BB := BB.trans (B5.mono (by omega))
  clear b5 B5
  go_wp2_with fail
  go_ret
  exact ⟨rfl, BB⟩
end Go.Proofs.Ytamnnggijmmogaa
