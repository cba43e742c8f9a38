/- The walk of the law RawGrows; for every input that its types can hold. -/
import Derived.Test.YtamnnggijmmogaaRawE
namespace Go.Proofs.Ytamnnggijmmogaa
set_option linter.all false
open Go.RowKit

theorem rd_rng (m t h q i s : Int) (mb : 0 ≤ m ∧ m ≤ 1073741824) (tb : 0 ≤ t ∧ t ≤ 1073741824) (hb : 0 ≤ h ∧ h ≤ 1073741824) (qb : 0 ≤ q ∧ q ≤ 1073741824) (ib : 0 ≤ i ∧ i ≤ 1073741824) (sb : 0 ≤ s ∧ s ≤ 1073741824) : 0 ≤ rdN m t h q i s ∧ rdN m t h q i s ≤ q ∧ rdN m t h q i s ≤ h ∧ (rdB m t h q i s = false → rdN m t h q i s = 0) := by
  refine ⟨?_, ?_, ?_, ?_⟩
  · unfold rdN mn mx; split <;> omega
  · unfold rdN mn mx; split <;> omega
  · unfold rdN mn mx; split <;> omega
  · intro h; unfold rdN; rw [if_neg (of_decide_eq_false h)]
theorem L6_more (m t h q i s a b : Int) (mb : 0 ≤ m ∧ m ≤ 1073741824) (tb : 0 ≤ t ∧ t ≤ 1073741824) (hb : 0 ≤ h ∧ h ≤ 1073741824) (qb : 0 ≤ q ∧ q ≤ 1073741824) (ib : 0 ≤ i ∧ i ≤ 1073741824) (sb : 0 ≤ s ∧ s ≤ 1073741824) (ha : 0 ≤ a) (hb' : 0 ≤ b) (hl : L6 m t h q i s = 0) : L6 m t (h + a) q (i + b) (s + b) = 0 := by
  unfold L6 leftV at *; unfold mx at *
  split at hl
  · rw [if_pos (by assumption)]
  · rw [if_neg (by assumption)]
    split at hl
    · rw [if_pos (by assumption)]
      split at hl
      · rw [if_pos (by assumption)]
      · rw [if_neg (by assumption)]
        split at hl
        · rw [if_pos (by omega)]
        · split
          · rfl
          · omega
    · rw [if_neg (by assumption)]
      split at hl
      · rw [if_pos (by omega)]
      · split at hl
        · omega
        · split at hl
          · omega
          · split
            · rfl
            · rw [if_neg (by omega)]; omega
theorem rd_more (m t h q i s a b : Int) (mb : 0 ≤ m ∧ m ≤ 1073741824) (tb : 0 ≤ t ∧ t ≤ 1073741824) (hb : 0 ≤ h ∧ h ≤ 1073741824) (qb : 0 ≤ q ∧ q ≤ 1073741824) (ib : 0 ≤ i ∧ i ≤ 1073741824) (sb : 0 ≤ s ∧ s ≤ 1073741824) (ha : 0 ≤ a) (hb' : 0 ≤ b) (hl : rdB m t h q i s = true) : rdB m t (h + a) q (i + b) (s + b) = true ∧ rdN m t h q i s ≤ rdN m t (h + a) q (i + b) (s + b) := by
  have h1 := of_decide_eq_true hl
  have h2 := L6_more m t h q i s a b mb tb hb qb ib sb ha hb' h1
  refine ⟨decide_eq_true h2, ?_⟩
  unfold rdN; rw [if_pos h1, if_pos h2]; unfold mn mx; omega
theorem L6_zero (m h q i s a b : Int) : L6 m 0 h q b a = L6 m 0 h q i s := by
  unfold L6 leftV; simp [mx]
theorem rd_zero (m h q i s a b : Int) : rdN m 0 h q b a = rdN m 0 h q i s ∧ rdB m 0 h q b a = rdB m 0 h q i s := by
  unfold rdN rdB; rw [L6_zero m h q i s a b]; exact ⟨rfl, rfl⟩

set_option maxRecDepth 100000 in
set_option maxHeartbeats 3200000 in
theorem rawGrows_walk (m t h q i s a b : Int) (w : World) (mb : -9223372036854775808 ≤ m ∧ m ≤ 9223372036854775807) (tb : -9223372036854775808 ≤ t ∧ t ≤ 9223372036854775807) (hb : -9223372036854775808 ≤ h ∧ h ≤ 9223372036854775807) (qb : -9223372036854775808 ≤ q ∧ q ≤ 9223372036854775807) (ib : -9223372036854775808 ≤ i ∧ i ≤ 9223372036854775807) (sb : -9223372036854775808 ≤ s ∧ s ≤ 9223372036854775807) (ab : 0 ≤ a ∧ a ≤ 65535) (bb : 0 ≤ b ∧ b ≤ 65535) :
    Calls Try.prog 9 #[.agg #[.int .i64 m, .int .i64 t, .int .i64 h, .int .i64 q, .int .i64 i, .int .i64 s], .int .u16 a, .int .u16 b] w fun e w' => e = .returned (.bool true) ∧ Below w.heap.size w w' := by
  by_cases hf : fairB m t h q i s = true
  · have hf' := hf
    unfold fairB at hf'
    obtain ⟨f0, f1, f2, f3, f4, f5⟩ := of_decide_eq_true hf'
    clear hf' mb tb hb qb ib sb
    obtain ⟨r1, r2, r3, r4⟩ := rd_rng m t h q i s f0 f1 f2 f3 f4 f5
    by_cases hB : rdB m t h q i s = true
    · obtain ⟨e1, e2⟩ := rd_more m t h q i s a b f0 f1 f2 f3 f4 f5 ab.1 bb.1 hB
      clear r4
      by_cases ht : t = 0
      · subst ht
        obtain ⟨g1, g2⟩ := rd_zero m h q i s a b
        have g3 : ((0 : Int) != 0) = false := rfl
        go_enter Try.func9, Try.ntmps9
        go_wp2_with fail
        go_call (alive14 _) as e w1 ⟨rfl, b1⟩
        have z1 : w.heap.size + 1 ≤ w1.heap.size := by (have := b1.size; simp at this; omega)
        have B1 : Below w.heap.size w w1 := ((Below.refl _ _).alloc (by go_size) _).trans (b1.mono (by go_size))
        have c0 := cellv b1 (b := w.heap.size) (o := 0) (v := .int .i64 m) (by go_size) (by simp [go_sem])
        have c1 := cellv b1 (b := w.heap.size) (o := 1) (v := .int .i64 0) (by go_size) (by simp [go_sem])
        have c2 := cellv b1 (b := w.heap.size) (o := 2) (v := .int .i64 h) (by go_size) (by simp [go_sem])
        have c3 := cellv b1 (b := w.heap.size) (o := 3) (v := .int .i64 q) (by go_size) (by simp [go_sem])
        have c4 := cellv b1 (b := w.heap.size) (o := 4) (v := .int .i64 i) (by go_size) (by simp [go_sem])
        have c5 := cellv b1 (b := w.heap.size) (o := 5) (v := .int .i64 s) (by go_size) (by simp [go_sem])
        have y0 : w.heap.size < w1.heap.size := by omega
        have BB : Below w.heap.size w w1 := B1
        clear b1 B1
        go_wp2_with fail
        go_call (fair_any m 0 h q i s _) as e w2 ⟨rfl, b2⟩
        have z2 : w1.heap.size ≤ w2.heap.size := b2.size
        have B2 : Below w1.heap.size w1 w2 := b2
        have c0 := cellv B2 (by omega) c0
        have c1 := cellv B2 (by omega) c1
        have c2 := cellv B2 (by omega) c2
        have c3 := cellv B2 (by omega) c3
        have c4 := cellv B2 (by omega) c4
        have c5 := cellv B2 (by omega) c5
        have y0 : w.heap.size < w2.heap.size := by omega
        have BB := BB.trans (B2.mono (by omega))
        clear b2 B2
        go_wp2_with fail
        go_call (lready_any m 0 h q i s _ ⟨by omega, by omega⟩ ⟨by omega, by omega⟩ ⟨by omega, by omega⟩ ⟨by omega, by omega⟩ ⟨by omega, by omega⟩ ⟨by omega, by omega⟩ ) as e w3 ⟨rfl, b3⟩
        have z3 : w2.heap.size ≤ w3.heap.size := b3.size
        have B3 : Below w2.heap.size w2 w3 := b3
        have c0 := cellv B3 (by omega) c0
        have c1 := cellv B3 (by omega) c1
        have c2 := cellv B3 (by omega) c2
        have c3 := cellv B3 (by omega) c3
        have c4 := cellv B3 (by omega) c4
        have c5 := cellv B3 (by omega) c5
        have y0 : w.heap.size < w3.heap.size := by omega
        have BB := BB.trans (B3.mono (by omega))
        clear b3 B3
        go_wp2_with fail
        go_call (lready_any m 0 (h + a) q (i + b) (s + b) _ ⟨by omega, by omega⟩ ⟨by omega, by omega⟩ ⟨by omega, by omega⟩ ⟨by omega, by omega⟩ ⟨by omega, by omega⟩ ⟨by omega, by omega⟩ ) as e w4 ⟨rfl, b4⟩
        have z4 : w3.heap.size + 1 ≤ w4.heap.size := by (have := b4.size; simp at this; omega)
        have B4 : Below w3.heap.size w3 w4 := ((Below.refl _ _).alloc (by go_size) _).trans (b4.mono (by go_size))
        have c0 := cellv B4 (by omega) c0
        have c1 := cellv B4 (by omega) c1
        have c2 := cellv B4 (by omega) c2
        have c3 := cellv B4 (by omega) c3
        have c4 := cellv B4 (by omega) c4
        have c5 := cellv B4 (by omega) c5
        have y0 : w.heap.size < w4.heap.size := by omega
        have BB := BB.trans (B4.mono (by omega))
        clear b4 B4
        go_wp2_with fail
        go_call (lready_any m 0 h q b a _ ⟨by omega, by omega⟩ ⟨by omega, by omega⟩ ⟨by omega, by omega⟩ ⟨by omega, by omega⟩ ⟨by omega, by omega⟩ ⟨by omega, by omega⟩ ) as e w5 ⟨rfl, b5⟩
        have z5 : w4.heap.size + 1 ≤ w5.heap.size := by (have := b5.size; simp at this; omega)
        have B5 : Below w4.heap.size w4 w5 := ((Below.refl _ _).alloc (by go_size) _).trans (b5.mono (by go_size))
        have c0 := cellv B5 (by omega) c0
        have c1 := cellv B5 (by omega) c1
        have c2 := cellv B5 (by omega) c2
        have c3 := cellv B5 (by omega) c3
        have c4 := cellv B5 (by omega) c4
        have c5 := cellv B5 (by omega) c5
        have y0 : w.heap.size < w5.heap.size := by omega
        have BB := BB.trans (B5.mono (by omega))
        clear b5 B5
        go_wp2_with fail
        go_ret
        exact ⟨rfl, BB⟩
      · have g3 : (t == 0) = false := beq_eq_false_iff_ne.2 ht
        have g4 : (t != 0) = true := by simp [ht]
        clear ht
        go_enter Try.func9, Try.ntmps9
        go_wp2_with fail
        go_call (alive14 _) as e w1 ⟨rfl, b1⟩
        have z1 : w.heap.size + 1 ≤ w1.heap.size := by (have := b1.size; simp at this; omega)
        have B1 : Below w.heap.size w w1 := ((Below.refl _ _).alloc (by go_size) _).trans (b1.mono (by go_size))
        have c0 := cellv b1 (b := w.heap.size) (o := 0) (v := .int .i64 m) (by go_size) (by simp [go_sem])
        have c1 := cellv b1 (b := w.heap.size) (o := 1) (v := .int .i64 t) (by go_size) (by simp [go_sem])
        have c2 := cellv b1 (b := w.heap.size) (o := 2) (v := .int .i64 h) (by go_size) (by simp [go_sem])
        have c3 := cellv b1 (b := w.heap.size) (o := 3) (v := .int .i64 q) (by go_size) (by simp [go_sem])
        have c4 := cellv b1 (b := w.heap.size) (o := 4) (v := .int .i64 i) (by go_size) (by simp [go_sem])
        have c5 := cellv b1 (b := w.heap.size) (o := 5) (v := .int .i64 s) (by go_size) (by simp [go_sem])
        have y0 : w.heap.size < w1.heap.size := by omega
        have BB : Below w.heap.size w w1 := B1
        clear b1 B1
        go_wp2_with fail
        go_call (fair_any m t h q i s _) as e w2 ⟨rfl, b2⟩
        have z2 : w1.heap.size ≤ w2.heap.size := b2.size
        have B2 : Below w1.heap.size w1 w2 := b2
        have c0 := cellv B2 (by omega) c0
        have c1 := cellv B2 (by omega) c1
        have c2 := cellv B2 (by omega) c2
        have c3 := cellv B2 (by omega) c3
        have c4 := cellv B2 (by omega) c4
        have c5 := cellv B2 (by omega) c5
        have y0 : w.heap.size < w2.heap.size := by omega
        have BB := BB.trans (B2.mono (by omega))
        clear b2 B2
        go_wp2_with fail
        go_call (lready_any m t h q i s _ ⟨by omega, by omega⟩ ⟨by omega, by omega⟩ ⟨by omega, by omega⟩ ⟨by omega, by omega⟩ ⟨by omega, by omega⟩ ⟨by omega, by omega⟩ ) as e w3 ⟨rfl, b3⟩
        have z3 : w2.heap.size ≤ w3.heap.size := b3.size
        have B3 : Below w2.heap.size w2 w3 := b3
        have c0 := cellv B3 (by omega) c0
        have c1 := cellv B3 (by omega) c1
        have c2 := cellv B3 (by omega) c2
        have c3 := cellv B3 (by omega) c3
        have c4 := cellv B3 (by omega) c4
        have c5 := cellv B3 (by omega) c5
        have y0 : w.heap.size < w3.heap.size := by omega
        have BB := BB.trans (B3.mono (by omega))
        clear b3 B3
        go_wp2_with fail
        go_call (lready_any m t (h + a) q (i + b) (s + b) _ ⟨by omega, by omega⟩ ⟨by omega, by omega⟩ ⟨by omega, by omega⟩ ⟨by omega, by omega⟩ ⟨by omega, by omega⟩ ⟨by omega, by omega⟩ ) as e w4 ⟨rfl, b4⟩
        have z4 : w3.heap.size + 1 ≤ w4.heap.size := by (have := b4.size; simp at this; omega)
        have B4 : Below w3.heap.size w3 w4 := ((Below.refl _ _).alloc (by go_size) _).trans (b4.mono (by go_size))
        have c0 := cellv B4 (by omega) c0
        have c1 := cellv B4 (by omega) c1
        have c2 := cellv B4 (by omega) c2
        have c3 := cellv B4 (by omega) c3
        have c4 := cellv B4 (by omega) c4
        have c5 := cellv B4 (by omega) c5
        have y0 : w.heap.size < w4.heap.size := by omega
        have BB := BB.trans (B4.mono (by omega))
        clear b4 B4
        go_wp2_with fail
        go_call (lready_any m t h q b a _ ⟨by omega, by omega⟩ ⟨by omega, by omega⟩ ⟨by omega, by omega⟩ ⟨by omega, by omega⟩ ⟨by omega, by omega⟩ ⟨by omega, by omega⟩ ) as e w5 ⟨rfl, b5⟩
        have z5 : w4.heap.size + 1 ≤ w5.heap.size := by (have := b5.size; simp at this; omega)
        have B5 : Below w4.heap.size w4 w5 := ((Below.refl _ _).alloc (by go_size) _).trans (b5.mono (by go_size))
        have c0 := cellv B5 (by omega) c0
        have c1 := cellv B5 (by omega) c1
        have c2 := cellv B5 (by omega) c2
        have c3 := cellv B5 (by omega) c3
        have c4 := cellv B5 (by omega) c4
        have c5 := cellv B5 (by omega) c5
        have y0 : w.heap.size < w5.heap.size := by omega
        have BB := BB.trans (B5.mono (by omega))
        clear b5 B5
        go_wp2_with fail
        go_ret
        exact ⟨rfl, BB⟩
    · have hB : rdB m t h q i s = false := by simpa using hB
      have e1 := r4 hB
      clear r4
      by_cases ht : t = 0
      · subst ht
        obtain ⟨g1, g2⟩ := rd_zero m h q i s a b
        have g3 : ((0 : Int) != 0) = false := rfl
        go_enter Try.func9, Try.ntmps9
        go_wp2_with fail
        go_call (alive14 _) as e w1 ⟨rfl, b1⟩
        have z1 : w.heap.size + 1 ≤ w1.heap.size := by (have := b1.size; simp at this; omega)
        have B1 : Below w.heap.size w w1 := ((Below.refl _ _).alloc (by go_size) _).trans (b1.mono (by go_size))
        have c0 := cellv b1 (b := w.heap.size) (o := 0) (v := .int .i64 m) (by go_size) (by simp [go_sem])
        have c1 := cellv b1 (b := w.heap.size) (o := 1) (v := .int .i64 0) (by go_size) (by simp [go_sem])
        have c2 := cellv b1 (b := w.heap.size) (o := 2) (v := .int .i64 h) (by go_size) (by simp [go_sem])
        have c3 := cellv b1 (b := w.heap.size) (o := 3) (v := .int .i64 q) (by go_size) (by simp [go_sem])
        have c4 := cellv b1 (b := w.heap.size) (o := 4) (v := .int .i64 i) (by go_size) (by simp [go_sem])
        have c5 := cellv b1 (b := w.heap.size) (o := 5) (v := .int .i64 s) (by go_size) (by simp [go_sem])
        have y0 : w.heap.size < w1.heap.size := by omega
        have BB : Below w.heap.size w w1 := B1
        clear b1 B1
        go_wp2_with fail
        go_call (fair_any m 0 h q i s _) as e w2 ⟨rfl, b2⟩
        have z2 : w1.heap.size ≤ w2.heap.size := b2.size
        have B2 : Below w1.heap.size w1 w2 := b2
        have c0 := cellv B2 (by omega) c0
        have c1 := cellv B2 (by omega) c1
        have c2 := cellv B2 (by omega) c2
        have c3 := cellv B2 (by omega) c3
        have c4 := cellv B2 (by omega) c4
        have c5 := cellv B2 (by omega) c5
        have y0 : w.heap.size < w2.heap.size := by omega
        have BB := BB.trans (B2.mono (by omega))
        clear b2 B2
        go_wp2_with fail
        go_call (lready_any m 0 h q i s _ ⟨by omega, by omega⟩ ⟨by omega, by omega⟩ ⟨by omega, by omega⟩ ⟨by omega, by omega⟩ ⟨by omega, by omega⟩ ⟨by omega, by omega⟩ ) as e w3 ⟨rfl, b3⟩
        have z3 : w2.heap.size ≤ w3.heap.size := b3.size
        have B3 : Below w2.heap.size w2 w3 := b3
        have c0 := cellv B3 (by omega) c0
        have c1 := cellv B3 (by omega) c1
        have c2 := cellv B3 (by omega) c2
        have c3 := cellv B3 (by omega) c3
        have c4 := cellv B3 (by omega) c4
        have c5 := cellv B3 (by omega) c5
        have y0 : w.heap.size < w3.heap.size := by omega
        have BB := BB.trans (B3.mono (by omega))
        clear b3 B3
        go_wp2_with fail
        go_call (lready_any m 0 (h + a) q (i + b) (s + b) _ ⟨by omega, by omega⟩ ⟨by omega, by omega⟩ ⟨by omega, by omega⟩ ⟨by omega, by omega⟩ ⟨by omega, by omega⟩ ⟨by omega, by omega⟩ ) as e w4 ⟨rfl, b4⟩
        have z4 : w3.heap.size + 1 ≤ w4.heap.size := by (have := b4.size; simp at this; omega)
        have B4 : Below w3.heap.size w3 w4 := ((Below.refl _ _).alloc (by go_size) _).trans (b4.mono (by go_size))
        have c0 := cellv B4 (by omega) c0
        have c1 := cellv B4 (by omega) c1
        have c2 := cellv B4 (by omega) c2
        have c3 := cellv B4 (by omega) c3
        have c4 := cellv B4 (by omega) c4
        have c5 := cellv B4 (by omega) c5
        have y0 : w.heap.size < w4.heap.size := by omega
        have BB := BB.trans (B4.mono (by omega))
        clear b4 B4
        go_wp2_with fail
        go_call (lready_any m 0 h q b a _ ⟨by omega, by omega⟩ ⟨by omega, by omega⟩ ⟨by omega, by omega⟩ ⟨by omega, by omega⟩ ⟨by omega, by omega⟩ ⟨by omega, by omega⟩ ) as e w5 ⟨rfl, b5⟩
        have z5 : w4.heap.size + 1 ≤ w5.heap.size := by (have := b5.size; simp at this; omega)
        have B5 : Below w4.heap.size w4 w5 := ((Below.refl _ _).alloc (by go_size) _).trans (b5.mono (by go_size))
        have c0 := cellv B5 (by omega) c0
        have c1 := cellv B5 (by omega) c1
        have c2 := cellv B5 (by omega) c2
        have c3 := cellv B5 (by omega) c3
        have c4 := cellv B5 (by omega) c4
        have c5 := cellv B5 (by omega) c5
        have y0 : w.heap.size < w5.heap.size := by omega
        have BB := BB.trans (B5.mono (by omega))
        clear b5 B5
        go_wp2_with fail
        go_ret
        exact ⟨rfl, BB⟩
      · have g3 : (t == 0) = false := beq_eq_false_iff_ne.2 ht
        have g4 : (t != 0) = true := by simp [ht]
        clear ht
        go_enter Try.func9, Try.ntmps9
        go_wp2_with fail
        go_call (alive14 _) as e w1 ⟨rfl, b1⟩
        have z1 : w.heap.size + 1 ≤ w1.heap.size := by (have := b1.size; simp at this; omega)
        have B1 : Below w.heap.size w w1 := ((Below.refl _ _).alloc (by go_size) _).trans (b1.mono (by go_size))
        have c0 := cellv b1 (b := w.heap.size) (o := 0) (v := .int .i64 m) (by go_size) (by simp [go_sem])
        have c1 := cellv b1 (b := w.heap.size) (o := 1) (v := .int .i64 t) (by go_size) (by simp [go_sem])
        have c2 := cellv b1 (b := w.heap.size) (o := 2) (v := .int .i64 h) (by go_size) (by simp [go_sem])
        have c3 := cellv b1 (b := w.heap.size) (o := 3) (v := .int .i64 q) (by go_size) (by simp [go_sem])
        have c4 := cellv b1 (b := w.heap.size) (o := 4) (v := .int .i64 i) (by go_size) (by simp [go_sem])
        have c5 := cellv b1 (b := w.heap.size) (o := 5) (v := .int .i64 s) (by go_size) (by simp [go_sem])
        have y0 : w.heap.size < w1.heap.size := by omega
        have BB : Below w.heap.size w w1 := B1
        clear b1 B1
        go_wp2_with fail
        go_call (fair_any m t h q i s _) as e w2 ⟨rfl, b2⟩
        have z2 : w1.heap.size ≤ w2.heap.size := b2.size
        have B2 : Below w1.heap.size w1 w2 := b2
        have c0 := cellv B2 (by omega) c0
        have c1 := cellv B2 (by omega) c1
        have c2 := cellv B2 (by omega) c2
        have c3 := cellv B2 (by omega) c3
        have c4 := cellv B2 (by omega) c4
        have c5 := cellv B2 (by omega) c5
        have y0 : w.heap.size < w2.heap.size := by omega
        have BB := BB.trans (B2.mono (by omega))
        clear b2 B2
        go_wp2_with fail
        go_call (lready_any m t h q i s _ ⟨by omega, by omega⟩ ⟨by omega, by omega⟩ ⟨by omega, by omega⟩ ⟨by omega, by omega⟩ ⟨by omega, by omega⟩ ⟨by omega, by omega⟩ ) as e w3 ⟨rfl, b3⟩
        have z3 : w2.heap.size ≤ w3.heap.size := b3.size
        have B3 : Below w2.heap.size w2 w3 := b3
        have c0 := cellv B3 (by omega) c0
        have c1 := cellv B3 (by omega) c1
        have c2 := cellv B3 (by omega) c2
        have c3 := cellv B3 (by omega) c3
        have c4 := cellv B3 (by omega) c4
        have c5 := cellv B3 (by omega) c5
        have y0 : w.heap.size < w3.heap.size := by omega
        have BB := BB.trans (B3.mono (by omega))
        clear b3 B3
        go_wp2_with fail
        go_call (lready_any m t (h + a) q (i + b) (s + b) _ ⟨by omega, by omega⟩ ⟨by omega, by omega⟩ ⟨by omega, by omega⟩ ⟨by omega, by omega⟩ ⟨by omega, by omega⟩ ⟨by omega, by omega⟩ ) as e w4 ⟨rfl, b4⟩
        have z4 : w3.heap.size + 1 ≤ w4.heap.size := by (have := b4.size; simp at this; omega)
        have B4 : Below w3.heap.size w3 w4 := ((Below.refl _ _).alloc (by go_size) _).trans (b4.mono (by go_size))
        have c0 := cellv B4 (by omega) c0
        have c1 := cellv B4 (by omega) c1
        have c2 := cellv B4 (by omega) c2
        have c3 := cellv B4 (by omega) c3
        have c4 := cellv B4 (by omega) c4
        have c5 := cellv B4 (by omega) c5
        have y0 : w.heap.size < w4.heap.size := by omega
        have BB := BB.trans (B4.mono (by omega))
        clear b4 B4
        go_wp2_with fail
        go_call (lready_any m t h q b a _ ⟨by omega, by omega⟩ ⟨by omega, by omega⟩ ⟨by omega, by omega⟩ ⟨by omega, by omega⟩ ⟨by omega, by omega⟩ ⟨by omega, by omega⟩ ) as e w5 ⟨rfl, b5⟩
        have z5 : w4.heap.size + 1 ≤ w5.heap.size := by (have := b5.size; simp at this; omega)
        have B5 : Below w4.heap.size w4 w5 := ((Below.refl _ _).alloc (by go_size) _).trans (b5.mono (by go_size))
        have c0 := cellv B5 (by omega) c0
        have c1 := cellv B5 (by omega) c1
        have c2 := cellv B5 (by omega) c2
        have c3 := cellv B5 (by omega) c3
        have c4 := cellv B5 (by omega) c4
        have c5 := cellv B5 (by omega) c5
        have y0 : w.heap.size < w5.heap.size := by omega
        have BB := BB.trans (B5.mono (by omega))
        clear b5 B5
        go_wp2_with fail
        go_ret
        exact ⟨rfl, BB⟩
  · have hf : fairB m t h q i s = false := by simpa using hf
    go_enter Try.func9, Try.ntmps9
    go_wp2_with fail
    go_call (alive14 _) as e w1 ⟨rfl, b1⟩
    have z1 : w.heap.size + 1 ≤ w1.heap.size := by (have := b1.size; simp at this; omega)
    have B1 : Below w.heap.size w w1 := ((Below.refl _ _).alloc (by go_size) _).trans (b1.mono (by go_size))
    have c0 := cellv b1 (b := w.heap.size) (o := 0) (v := .int .i64 m) (by go_size) (by simp [go_sem])
    have c1 := cellv b1 (b := w.heap.size) (o := 1) (v := .int .i64 t) (by go_size) (by simp [go_sem])
    have c2 := cellv b1 (b := w.heap.size) (o := 2) (v := .int .i64 h) (by go_size) (by simp [go_sem])
    have c3 := cellv b1 (b := w.heap.size) (o := 3) (v := .int .i64 q) (by go_size) (by simp [go_sem])
    have c4 := cellv b1 (b := w.heap.size) (o := 4) (v := .int .i64 i) (by go_size) (by simp [go_sem])
    have c5 := cellv b1 (b := w.heap.size) (o := 5) (v := .int .i64 s) (by go_size) (by simp [go_sem])
    have y0 : w.heap.size < w1.heap.size := by omega
    have BB : Below w.heap.size w w1 := B1
    clear b1 B1
    go_wp2_with fail
    go_call (fair_any m t h q i s _) as e w2 ⟨rfl, b2⟩
    have z2 : w1.heap.size ≤ w2.heap.size := b2.size
    have B2 : Below w1.heap.size w1 w2 := b2
    have c0 := cellv B2 (by omega) c0
    have c1 := cellv B2 (by omega) c1
    have c2 := cellv B2 (by omega) c2
    have c3 := cellv B2 (by omega) c3
    have c4 := cellv B2 (by omega) c4
    have c5 := cellv B2 (by omega) c5
    have y0 : w.heap.size < w2.heap.size := by omega
    have BB := BB.trans (B2.mono (by omega))
    clear b2 B2
    go_wp2_with fail
    go_ret
    exact ⟨rfl, BB⟩
end Go.Proofs.Ytamnnggijmmogaa
