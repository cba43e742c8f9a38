/- The walk of the law RawWaits; for every input that its types can hold. -/
import Derived.Test.YtamnnggijmmogaaRawE
namespace Go.Proofs.Ytamnnggijmmogaa
set_option linter.all false
open Go.RowKit

set_option maxRecDepth 100000 in
set_option maxHeartbeats 3200000 in
theorem rawWaits_walk (m t h q i s : Int) (w : World) (mb : -9223372036854775808 ≤ m ∧ m ≤ 9223372036854775807) (tb : -9223372036854775808 ≤ t ∧ t ≤ 9223372036854775807) (hb : -9223372036854775808 ≤ h ∧ h ≤ 9223372036854775807) (qb : -9223372036854775808 ≤ q ∧ q ≤ 9223372036854775807) (ib : -9223372036854775808 ≤ i ∧ i ≤ 9223372036854775807) (sb : -9223372036854775808 ≤ s ∧ s ≤ 9223372036854775807) : Calls Try.prog 8 #[.agg #[.int .i64 m, .int .i64 t, .int .i64 h, .int .i64 q, .int .i64 i, .int .i64 s]] w fun e w' => e = .returned (.bool true) ∧ Below w.heap.size w w' := by
  by_cases hf : fairB m t h q i s = true
  · have hf' := hf
    unfold fairB at hf'
    obtain ⟨f0, f1, f2, f3, f4, f5⟩ := of_decide_eq_true hf'
    clear hf' mb tb hb qb ib sb
    by_cases h0 : L6 m t h q i s = 0
    · obtain ⟨e1, e2⟩ := wt_done m t h q i s h0
      have e3 : rdB m t h q i s = true := decide_eq_true h0
      clear h0
      go_enter Try.func8, Try.ntmps8
      go_wp2_with fail
      go_call (alive14 _) as e w1 ⟨rfl, b1⟩
      have z1 : w.heap.size + 1 ≤ w1.heap.size := by (have := b1.size; simp at this; omega)
      have B1 : Below w.heap.size w w1 := ((Below.refl _ _).alloc (by go_size) _).trans (b1.mono (by go_size))
      have c0 := cellv b1 (b := w.heap.size) (o := 0) (v := .int .i64 m) (by go_size) (by simp [go_sem])
      have c1 := cellv b1 (b := w.heap.size) (o := 1) (v := .int .i64 t) (by go_size) (by simp [go_sem])
      have c2 := cellv b1 (b := w.heap.size) (o := 2) (v := .int .i64 h) (by go_size) (by simp [go_sem])
      have c3 := cellv b1 (b := w.heap.size) (o := 3) (v := .int .i64 q) (by go_size) (by simp [go_sem])
      have c4 := cellv b1 (b := w.heap.size) (o := 4) (v := .int .i64 i) (by go_size) (by simp [go_sem])
      have c5 := cellv b1 (b := w.heap.size) (o := 5) (v := .int .i64 s) (by go_size) (by simp [go_sem])
      have y0 : w.heap.size < w1.heap.size := by omega
      have BB : Below w.heap.size w w1 := B1
      clear b1 B1
      go_wp2_with fail
      go_call (fair_any m t h q i s _) as e w2 ⟨rfl, b2⟩
      have z2 : w1.heap.size ≤ w2.heap.size := b2.size
      have B2 : Below w1.heap.size w1 w2 := b2
      have c0 := cellv B2 (by omega) c0
      have c1 := cellv B2 (by omega) c1
      have c2 := cellv B2 (by omega) c2
      have c3 := cellv B2 (by omega) c3
      have c4 := cellv B2 (by omega) c4
      have c5 := cellv B2 (by omega) c5
      have y0 : w.heap.size < w2.heap.size := by omega
      have BB := BB.trans (B2.mono (by omega))
      clear b2 B2
      go_wp2_with fail
      go_call (lwait_any m t h q i s _ ⟨by omega, by omega⟩ ⟨by omega, by omega⟩ ⟨by omega, by omega⟩ ⟨by omega, by omega⟩ ⟨by omega, by omega⟩ ⟨by omega, by omega⟩ ) as e w3 ⟨rfl, b3⟩
      have z3 : w2.heap.size ≤ w3.heap.size := b3.size
      have B3 : Below w2.heap.size w2 w3 := b3
      have c0 := cellv B3 (by omega) c0
      have c1 := cellv B3 (by omega) c1
      have c2 := cellv B3 (by omega) c2
      have c3 := cellv B3 (by omega) c3
      have c4 := cellv B3 (by omega) c4
      have c5 := cellv B3 (by omega) c5
      have y0 : w.heap.size < w3.heap.size := by omega
      have BB := BB.trans (B3.mono (by omega))
      clear b3 B3
      go_wp2_with fail
      go_call (lready_any m t h q i s _ ⟨by omega, by omega⟩ ⟨by omega, by omega⟩ ⟨by omega, by omega⟩ ⟨by omega, by omega⟩ ⟨by omega, by omega⟩ ⟨by omega, by omega⟩ ) as e w4 ⟨rfl, b4⟩
      have z4 : w3.heap.size ≤ w4.heap.size := b4.size
      have B4 : Below w3.heap.size w3 w4 := b4
      have c0 := cellv B4 (by omega) c0
      have c1 := cellv B4 (by omega) c1
      have c2 := cellv B4 (by omega) c2
      have c3 := cellv B4 (by omega) c3
      have c4 := cellv B4 (by omega) c4
      have c5 := cellv B4 (by omega) c5
      have y0 : w.heap.size < w4.heap.size := by omega
      have BB := BB.trans (B4.mono (by omega))
      clear b4 B4
      go_wp2_with fail
      go_ret
      exact ⟨rfl, BB⟩
    · have e3 : rdB m t h q i s = false := decide_eq_false h0
      rcases left_cases m t h q i s with h1 | h1
      · have e1 : wtN m t h q i s = 0 := by unfold wtN; rw [if_pos h1]
        have e2 : wtB m t h q i s = false := by unfold wtB; rw [h1]; rfl
        have e4 : rdB m t h q (i + 1) (s + 1) = false := by unfold rdB; rw [never_later _ _ _ _ _ _ 1 h1]; rfl
        have e5 : rdB m t h q (i + 1073741824) (s + 1073741824) = false := by unfold rdB; rw [never_later _ _ _ _ _ _ 1073741824 h1]; rfl
        clear h0 h1
        go_enter Try.func8, Try.ntmps8
        go_wp2_with fail
        go_call (alive14 _) as e w1 ⟨rfl, b1⟩
        have z1 : w.heap.size + 1 ≤ w1.heap.size := by (have := b1.size; simp at this; omega)
        have B1 : Below w.heap.size w w1 := ((Below.refl _ _).alloc (by go_size) _).trans (b1.mono (by go_size))
        have c0 := cellv b1 (b := w.heap.size) (o := 0) (v := .int .i64 m) (by go_size) (by simp [go_sem])
        have c1 := cellv b1 (b := w.heap.size) (o := 1) (v := .int .i64 t) (by go_size) (by simp [go_sem])
        have c2 := cellv b1 (b := w.heap.size) (o := 2) (v := .int .i64 h) (by go_size) (by simp [go_sem])
        have c3 := cellv b1 (b := w.heap.size) (o := 3) (v := .int .i64 q) (by go_size) (by simp [go_sem])
        have c4 := cellv b1 (b := w.heap.size) (o := 4) (v := .int .i64 i) (by go_size) (by simp [go_sem])
        have c5 := cellv b1 (b := w.heap.size) (o := 5) (v := .int .i64 s) (by go_size) (by simp [go_sem])
        have y0 : w.heap.size < w1.heap.size := by omega
        have BB : Below w.heap.size w w1 := B1
        clear b1 B1
        go_wp2_with fail
        go_call (fair_any m t h q i s _) as e w2 ⟨rfl, b2⟩
        have z2 : w1.heap.size ≤ w2.heap.size := b2.size
        have B2 : Below w1.heap.size w1 w2 := b2
        have c0 := cellv B2 (by omega) c0
        have c1 := cellv B2 (by omega) c1
        have c2 := cellv B2 (by omega) c2
        have c3 := cellv B2 (by omega) c3
        have c4 := cellv B2 (by omega) c4
        have c5 := cellv B2 (by omega) c5
        have y0 : w.heap.size < w2.heap.size := by omega
        have BB := BB.trans (B2.mono (by omega))
        clear b2 B2
        go_wp2_with fail
        go_call (lwait_any m t h q i s _ ⟨by omega, by omega⟩ ⟨by omega, by omega⟩ ⟨by omega, by omega⟩ ⟨by omega, by omega⟩ ⟨by omega, by omega⟩ ⟨by omega, by omega⟩ ) as e w3 ⟨rfl, b3⟩
        have z3 : w2.heap.size ≤ w3.heap.size := b3.size
        have B3 : Below w2.heap.size w2 w3 := b3
        have c0 := cellv B3 (by omega) c0
        have c1 := cellv B3 (by omega) c1
        have c2 := cellv B3 (by omega) c2
        have c3 := cellv B3 (by omega) c3
        have c4 := cellv B3 (by omega) c4
        have c5 := cellv B3 (by omega) c5
        have y0 : w.heap.size < w3.heap.size := by omega
        have BB := BB.trans (B3.mono (by omega))
        clear b3 B3
        go_wp2_with fail
        go_call (lready_any m t h q i s _ ⟨by omega, by omega⟩ ⟨by omega, by omega⟩ ⟨by omega, by omega⟩ ⟨by omega, by omega⟩ ⟨by omega, by omega⟩ ⟨by omega, by omega⟩ ) as e w4 ⟨rfl, b4⟩
        have z4 : w3.heap.size ≤ w4.heap.size := b4.size
        have B4 : Below w3.heap.size w3 w4 := b4
        have c0 := cellv B4 (by omega) c0
        have c1 := cellv B4 (by omega) c1
        have c2 := cellv B4 (by omega) c2
        have c3 := cellv B4 (by omega) c3
        have c4 := cellv B4 (by omega) c4
        have c5 := cellv B4 (by omega) c5
        have y0 : w.heap.size < w4.heap.size := by omega
        have BB := BB.trans (B4.mono (by omega))
        clear b4 B4
        go_wp2_with fail
        go_call (later_any m t h q i s 1 w.heap.size _ f0 f1 f2 f3 f4 f5 ⟨by omega, by omega⟩ (by omega) c0 c1 c2 c3 c4 c5) as e w5 ⟨rfl, b5⟩
        have z5 : w4.heap.size ≤ w5.heap.size := b5.size
        have B5 : Below w4.heap.size w4 w5 := b5
        have c0 := cellv B5 (by omega) c0
        have c1 := cellv B5 (by omega) c1
        have c2 := cellv B5 (by omega) c2
        have c3 := cellv B5 (by omega) c3
        have c4 := cellv B5 (by omega) c4
        have c5 := cellv B5 (by omega) c5
        have y0 : w.heap.size < w5.heap.size := by omega
        have BB := BB.trans (B5.mono (by omega))
        clear b5 B5
        go_wp2_with fail
        go_call (later_any m t h q i s 1073741824 w.heap.size _ f0 f1 f2 f3 f4 f5 ⟨by omega, by omega⟩ (by omega) c0 c1 c2 c3 c4 c5) as e w6 ⟨rfl, b6⟩
        have z6 : w5.heap.size ≤ w6.heap.size := b6.size
        have B6 : Below w5.heap.size w5 w6 := b6
        have c0 := cellv B6 (by omega) c0
        have c1 := cellv B6 (by omega) c1
        have c2 := cellv B6 (by omega) c2
        have c3 := cellv B6 (by omega) c3
        have c4 := cellv B6 (by omega) c4
        have c5 := cellv B6 (by omega) c5
        have y0 : w.heap.size < w6.heap.size := by omega
        have BB := BB.trans (B6.mono (by omega))
        clear b6 B6
        go_wp2_with fail
        go_ret
        exact ⟨rfl, BB⟩
      · obtain ⟨l1, l2, l3⟩ := later_done m t h q i s f0 f1 f2 f3 f4 f5 (by omega)
        obtain ⟨W, hW⟩ : ∃ W, L6 m t h q i s = W := ⟨_, rfl⟩
        have e1 : wtN m t h q i s = W := by unfold wtN; rw [if_neg (by omega), hW]
        have e2 : wtB m t h q i s = true := decide_eq_true (by omega)
        rw [hW] at l1 l2 l3 h0 h1
        have e4 : rdB m t h q (i + W) (s + W) = true := decide_eq_true l2
        have e5 : rdB m t h q (i + (W - 1)) (s + (W - 1)) = false := decide_eq_false l3
        have l0 : 0 < W := by omega
        clear h0 h1 hW l2 l3
        go_enter Try.func8, Try.ntmps8
        go_wp2_with fail
        go_call (alive14 _) as e w1 ⟨rfl, b1⟩
        have z1 : w.heap.size + 1 ≤ w1.heap.size := by (have := b1.size; simp at this; omega)
        have B1 : Below w.heap.size w w1 := ((Below.refl _ _).alloc (by go_size) _).trans (b1.mono (by go_size))
        have c0 := cellv b1 (b := w.heap.size) (o := 0) (v := .int .i64 m) (by go_size) (by simp [go_sem])
        have c1 := cellv b1 (b := w.heap.size) (o := 1) (v := .int .i64 t) (by go_size) (by simp [go_sem])
        have c2 := cellv b1 (b := w.heap.size) (o := 2) (v := .int .i64 h) (by go_size) (by simp [go_sem])
        have c3 := cellv b1 (b := w.heap.size) (o := 3) (v := .int .i64 q) (by go_size) (by simp [go_sem])
        have c4 := cellv b1 (b := w.heap.size) (o := 4) (v := .int .i64 i) (by go_size) (by simp [go_sem])
        have c5 := cellv b1 (b := w.heap.size) (o := 5) (v := .int .i64 s) (by go_size) (by simp [go_sem])
        have y0 : w.heap.size < w1.heap.size := by omega
        have BB : Below w.heap.size w w1 := B1
        clear b1 B1
        go_wp2_with fail
        go_call (fair_any m t h q i s _) as e w2 ⟨rfl, b2⟩
        have z2 : w1.heap.size ≤ w2.heap.size := b2.size
        have B2 : Below w1.heap.size w1 w2 := b2
        have c0 := cellv B2 (by omega) c0
        have c1 := cellv B2 (by omega) c1
        have c2 := cellv B2 (by omega) c2
        have c3 := cellv B2 (by omega) c3
        have c4 := cellv B2 (by omega) c4
        have c5 := cellv B2 (by omega) c5
        have y0 : w.heap.size < w2.heap.size := by omega
        have BB := BB.trans (B2.mono (by omega))
        clear b2 B2
        go_wp2_with fail
        go_call (lwait_any m t h q i s _ ⟨by omega, by omega⟩ ⟨by omega, by omega⟩ ⟨by omega, by omega⟩ ⟨by omega, by omega⟩ ⟨by omega, by omega⟩ ⟨by omega, by omega⟩ ) as e w3 ⟨rfl, b3⟩
        have z3 : w2.heap.size ≤ w3.heap.size := b3.size
        have B3 : Below w2.heap.size w2 w3 := b3
        have c0 := cellv B3 (by omega) c0
        have c1 := cellv B3 (by omega) c1
        have c2 := cellv B3 (by omega) c2
        have c3 := cellv B3 (by omega) c3
        have c4 := cellv B3 (by omega) c4
        have c5 := cellv B3 (by omega) c5
        have y0 : w.heap.size < w3.heap.size := by omega
        have BB := BB.trans (B3.mono (by omega))
        clear b3 B3
        go_wp2_with fail
        go_call (lready_any m t h q i s _ ⟨by omega, by omega⟩ ⟨by omega, by omega⟩ ⟨by omega, by omega⟩ ⟨by omega, by omega⟩ ⟨by omega, by omega⟩ ⟨by omega, by omega⟩ ) as e w4 ⟨rfl, b4⟩
        have z4 : w3.heap.size ≤ w4.heap.size := b4.size
        have B4 : Below w3.heap.size w3 w4 := b4
        have c0 := cellv B4 (by omega) c0
        have c1 := cellv B4 (by omega) c1
        have c2 := cellv B4 (by omega) c2
        have c3 := cellv B4 (by omega) c3
        have c4 := cellv B4 (by omega) c4
        have c5 := cellv B4 (by omega) c5
        have y0 : w.heap.size < w4.heap.size := by omega
        have BB := BB.trans (B4.mono (by omega))
        clear b4 B4
        go_wp2_with fail
        go_call (later_any m t h q i s W w.heap.size _ f0 f1 f2 f3 f4 f5 ⟨by omega, by omega⟩ (by omega) c0 c1 c2 c3 c4 c5) as e w5 ⟨rfl, b5⟩
        have z5 : w4.heap.size ≤ w5.heap.size := b5.size
        have B5 : Below w4.heap.size w4 w5 := b5
        have c0 := cellv B5 (by omega) c0
        have c1 := cellv B5 (by omega) c1
        have c2 := cellv B5 (by omega) c2
        have c3 := cellv B5 (by omega) c3
        have c4 := cellv B5 (by omega) c4
        have c5 := cellv B5 (by omega) c5
        have y0 : w.heap.size < w5.heap.size := by omega
        have BB := BB.trans (B5.mono (by omega))
        clear b5 B5
        go_wp2_with fail
        go_call (later_any m t h q i s (W - 1) w.heap.size _ f0 f1 f2 f3 f4 f5 ⟨by omega, by omega⟩ (by omega) c0 c1 c2 c3 c4 c5) as e w6 ⟨rfl, b6⟩
        have z6 : w5.heap.size ≤ w6.heap.size := b6.size
        have B6 : Below w5.heap.size w5 w6 := b6
        have c0 := cellv B6 (by omega) c0
        have c1 := cellv B6 (by omega) c1
        have c2 := cellv B6 (by omega) c2
        have c3 := cellv B6 (by omega) c3
        have c4 := cellv B6 (by omega) c4
        have c5 := cellv B6 (by omega) c5
        have y0 : w.heap.size < w6.heap.size := by omega
        have BB := BB.trans (B6.mono (by omega))
        clear b6 B6
        go_wp2_with fail
        go_ret
        exact ⟨rfl, BB⟩
  · have hf : fairB m t h q i s = false := by simpa using hf
    go_enter Try.func8, Try.ntmps8
    go_wp2_with fail
    go_call (alive14 _) as e w1 ⟨rfl, b1⟩
    have z1 : w.heap.size + 1 ≤ w1.heap.size := by (have := b1.size; simp at this; omega)
    have B1 : Below w.heap.size w w1 := ((Below.refl _ _).alloc (by go_size) _).trans (b1.mono (by go_size))
    have c0 := cellv b1 (b := w.heap.size) (o := 0) (v := .int .i64 m) (by go_size) (by simp [go_sem])
    have c1 := cellv b1 (b := w.heap.size) (o := 1) (v := .int .i64 t) (by go_size) (by simp [go_sem])
    have c2 := cellv b1 (b := w.heap.size) (o := 2) (v := .int .i64 h) (by go_size) (by simp [go_sem])
    have c3 := cellv b1 (b := w.heap.size) (o := 3) (v := .int .i64 q) (by go_size) (by simp [go_sem])
    have c4 := cellv b1 (b := w.heap.size) (o := 4) (v := .int .i64 i) (by go_size) (by simp [go_sem])
    have c5 := cellv b1 (b := w.heap.size) (o := 5) (v := .int .i64 s) (by go_size) (by simp [go_sem])
    have y0 : w.heap.size < w1.heap.size := by omega
    have BB : Below w.heap.size w w1 := B1
    clear b1 B1
    go_wp2_with fail
    go_call (fair_any m t h q i s _) as e w2 ⟨rfl, b2⟩
    have z2 : w1.heap.size ≤ w2.heap.size := b2.size
    have B2 : Below w1.heap.size w1 w2 := b2
    have c0 := cellv B2 (by omega) c0
    have c1 := cellv B2 (by omega) c1
    have c2 := cellv B2 (by omega) c2
    have c3 := cellv B2 (by omega) c3
    have c4 := cellv B2 (by omega) c4
    have c5 := cellv B2 (by omega) c5
    have y0 : w.heap.size < w2.heap.size := by omega
    have BB := BB.trans (B2.mono (by omega))
    clear b2 B2
    go_wp2_with fail
    go_ret
    exact ⟨rfl, BB⟩
end Go.Proofs.Ytamnnggijmmogaa
