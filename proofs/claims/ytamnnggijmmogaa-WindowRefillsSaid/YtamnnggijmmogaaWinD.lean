/- The walks of the laws WindowOut and WindowIn: they return true and leave memory as it was; for every input that its types can hold. -/
import Derived.Test.YtamnnggijmmogaaWinC
namespace Go.Proofs.Ytamnnggijmmogaa
set_option linter.all false
open Go.RowKit

set_option maxHeartbeats 3200000 in
theorem windowOut_walk (l p n h : Int) (w : World) (hl : 0 ≤ l ∧ l ≤ 4294967295) (hp : 0 ≤ p ∧ p ≤ 4294967295) (hn : 0 ≤ n ∧ n ≤ 4294967295) (hh : -9223372036854775808 ≤ h ∧ h ≤ 9223372036854775807) :
    Calls Try.prog 3 #[.agg #[.int .u32 l, .int .u32 p], .int .u32 n, .int .i64 h] w fun e w' => e = .returned (.bool true) ∧ Below w.heap.size w w' := by
  go_enter Try.func3, Try.ntmps3
  go_wp2_with fail
  go_call (alive24 _) as e w1 ⟨rfl, b1⟩
  have y0 : w.heap.size < w1.heap.size := by have := b1.size; simp at this; omega
  have l0 := cellv b1 (b := w.heap.size) (o := 0) (v := .int .u32 l) (by go_size) (by simp [go_sem])
  have p0 := cellv b1 (b := w.heap.size) (o := 1) (v := .int .u32 p) (by go_size) (by simp [go_sem])
  have BB : Below w.heap.size w w1 := ((Below.refl _ _).alloc (Nat.le_refl _) _).trans (b1.mono (by simp))
  clear b1
  go_wp2_with fail
  go_call (grant_any l p n _ hl hn) as e w2 ⟨rfl, b2⟩
  have BB := BB.trans (b2.mono (by omega))
  have y0 : w.heap.size < w2.heap.size := by have := b2.size; omega
  have l0 := cellv b2 (by omega) l0
  have p0 := cellv b2 (by omega) p0
  clear b2
  go_wp2_with fail
  go_call (rgrant_any l p n _ hl hn) as e w3 ⟨rfl, b3⟩
  have B3 : Below w2.heap.size w2 w3 := ((Below.refl _ _).alloc (Nat.le_refl _) _).trans (b3.mono (by simp))
  have BB := BB.trans (B3.mono (by omega))
  have y2 : w2.heap.size < w3.heap.size := by have := b3.size; simp at this; omega
  have y0 : w.heap.size < w3.heap.size := by omega
  have l0 := cellv B3 (by omega) l0
  have p0 := cellv B3 (by omega) p0
  have l2 := cellv b3 (b := w2.heap.size) (o := 0) (v := .int .u32 (gL l n)) (by go_size) (by simp [go_sem])
  have p2 := cellv b3 (b := w2.heap.size) (o := 1) (v := .int .u32 p) (by go_size) (by simp [go_sem])
  clear b3 B3
  go_wp2_with fail
  go_call (sent_any l p h _ hl hp) as e w4 ⟨rfl, b4⟩
  have B4 : Below w3.heap.size w3 w4 := ((Below.refl _ _).alloc (Nat.le_refl _) _).trans (b4.mono (by simp))
  have BB := BB.trans (B4.mono (by omega))
  have y3 : w3.heap.size < w4.heap.size := by have := b4.size; simp at this; omega
  have y2 : w2.heap.size < w4.heap.size := by omega
  have y0 : w.heap.size < w4.heap.size := by omega
  have l0 := cellv B4 (by omega) l0
  have p0 := cellv B4 (by omega) p0
  have l2 := cellv B4 (by omega) l2
  have p2 := cellv B4 (by omega) p2
  have l3 := cellv b4 (b := w3.heap.size) (o := 0) (v := .int .u32 (gL l n)) (by go_size) (by simp [go_sem])
  have p3 := cellv b4 (b := w3.heap.size) (o := 1) (v := .int .u32 p) (by go_size) (by simp [go_sem])
  clear b4 B4
  go_wp2_with fail
  go_call (rsent_any l p h _ hl hp hh) as e w5 ⟨rfl, b5⟩
  have B5 : Below w4.heap.size w4 w5 := ((Below.refl _ _).alloc (Nat.le_refl _) _).trans (b5.mono (by simp))
  have BB := BB.trans (B5.mono (by omega))
  have y4 : w4.heap.size < w5.heap.size := by have := b5.size; simp at this; omega
  have y3 : w3.heap.size < w5.heap.size := by omega
  have y2 : w2.heap.size < w5.heap.size := by omega
  have y0 : w.heap.size < w5.heap.size := by omega
  have l0 := cellv B5 (by omega) l0
  have p0 := cellv B5 (by omega) p0
  have l2 := cellv B5 (by omega) l2
  have p2 := cellv B5 (by omega) p2
  have l3 := cellv B5 (by omega) l3
  have p3 := cellv B5 (by omega) p3
  have l4 := cellv b5 (b := w4.heap.size) (o := 0) (v := .int .u32 (sL l p h)) (by go_size) (by simp [go_sem])
  have p4 := cellv b5 (b := w4.heap.size) (o := 1) (v := .int .u32 p) (by go_size) (by simp [go_sem])
  clear b5 B5
  go_wp2_with fail
  go_region_held3 (fun w' => w'.cell? ⟨w.heap.size, 0, none⟩ = some (.int .u32 l) ∧ w'.cell? ⟨w.heap.size, 1, none⟩ = some (.int .u32 p) ∧ w'.cell? ⟨w2.heap.size, 0, none⟩ = some (.int .u32 (gL l n)) ∧ w'.cell? ⟨w2.heap.size, 1, none⟩ = some (.int .u32 p) ∧ w'.cell? ⟨w3.heap.size, 0, none⟩ = some (.int .u32 (gL l n)) ∧ w'.cell? ⟨w3.heap.size, 1, none⟩ = some (.int .u32 p) ∧ w'.cell? ⟨w4.heap.size, 0, none⟩ = some (.int .u32 (sL l p h)) ∧ w'.cell? ⟨w4.heap.size, 1, none⟩ = some (.int .u32 p) ∧ w'.cell? ⟨w5.heap.size, 0, none⟩ = some (.int .u32 (sL l p h)) ∧ w'.cell? ⟨w5.heap.size, 1, none⟩ = some (.int .u32 p) ∧ w5.heap.size < w'.heap.size ∧ Below w.heap.size w w')
    ((try go_split_ands
      refine ⟨?_, ?_, ?_, ?_, ?_, ?_, ?_, ?_, ?_, ?_, ?_, ?_⟩ <;> first | (with_reducible assumption) | (refine Below.trans ?_ (b7.mono ?_) <;> first | (with_reducible assumption) | omega) | (exact cellv b7 (by omega) (by assumption)) | (have := b7.size; omega) | (simp [go_sem, *]; done) | go_grown))
    (first | (go_at_call 19; go_call (fit_any l p h _ hl hp) as e w7 ⟨rfl, b7⟩) | (go_at_call 20; go_call (rfit_any l p h _ hl hp hh) as e w7 ⟨rfl, b7⟩))
  go_wp2
  go_ret
  refine ⟨rfl, ?_⟩
  (try go_split_ands)
  assumption

set_option maxHeartbeats 3200000 in
theorem windowIn_walk (l p n h : Int) (w : World) (hl : 0 ≤ l ∧ l ≤ 4294967295) (hp : 0 ≤ p ∧ p ≤ 4294967295) (hn : -9223372036854775808 ≤ n ∧ n ≤ 9223372036854775807) (hh : -9223372036854775808 ≤ h ∧ h ≤ 9223372036854775807) :
    Calls Try.prog 4 #[.agg #[.int .u32 l, .int .u32 p], .int .i64 n, .int .i64 h] w fun e w' => e = .returned (.bool true) ∧ Below w.heap.size w w' := by
  go_enter Try.func4, Try.ntmps4
  go_wp2_with fail
  go_call (alive24 _) as e w1 ⟨rfl, b1⟩
  have z1 : w.heap.size + 1 ≤ w1.heap.size := by (have := b1.size; simp at this; omega)
  have B1 : Below w.heap.size w w1 := ((Below.refl _ _).alloc (by go_size) _).trans (b1.mono (by go_size))
  have l0 := cellv b1 (b := w.heap.size) (o := 0) (v := .int .u32 l) (by go_size) (by simp [go_sem])
  have p0 := cellv b1 (b := w.heap.size) (o := 1) (v := .int .u32 p) (by go_size) (by simp [go_sem])
  have y0 : w.heap.size < w1.heap.size := by omega
  have BB : Below w.heap.size w w1 := B1
  clear b1 B1
  go_wp2_with fail
  go_call (got_any l p n _ hl hn) as e w2 ⟨rfl, b2⟩
  have z2 : w1.heap.size ≤ w2.heap.size := b2.size
  have B2 : Below w1.heap.size w1 w2 := b2
  have l0 := cellv B2 (by omega) l0
  have p0 := cellv B2 (by omega) p0
  have y0 : w.heap.size < w2.heap.size := by omega
  have BB := BB.trans (B2.mono (by omega))
  clear b2 B2
  go_wp2_with fail
  go_call (rgot_any l p n _ hl hn) as e w3 ⟨rfl, b3⟩
  have z3 : w2.heap.size + 1 ≤ w3.heap.size := by (have := b3.size; simp at this; omega)
  have B3 : Below w2.heap.size w2 w3 := ((Below.refl _ _).alloc (by go_size) _).trans (b3.mono (by go_size))
  have l0 := cellv B3 (by omega) l0
  have p0 := cellv B3 (by omega) p0
  have l2 := cellv b3 (b := w2.heap.size) (o := 0) (v := .int .u32 (oL l n)) (by go_size) (by simp [go_sem])
  have p2 := cellv b3 (b := w2.heap.size) (o := 1) (v := .int .u32 p) (by go_size) (by simp [go_sem])
  have y0 : w.heap.size < w3.heap.size := by omega
  have y1 : w2.heap.size < w3.heap.size := by omega
  have BB := BB.trans (B3.mono (by omega))
  clear b3 B3
  go_wp2_with fail
  go_call (refill_any l p h _ hl hp hh) as e w4 ⟨rfl, b4⟩
  have z4 : w3.heap.size + 1 ≤ w4.heap.size := by (have := b4.size; simp at this; omega)
  have B4 : Below w3.heap.size w3 w4 := ((Below.refl _ _).alloc (by go_size) _).trans (b4.mono (by go_size))
  have l0 := cellv B4 (by omega) l0
  have p0 := cellv B4 (by omega) p0
  have l2 := cellv B4 (by omega) l2
  have p2 := cellv B4 (by omega) p2
  have l3 := cellv b4 (b := w3.heap.size) (o := 0) (v := .int .u32 (oL l n)) (by go_size) (by simp [go_sem])
  have p3 := cellv b4 (b := w3.heap.size) (o := 1) (v := .int .u32 p) (by go_size) (by simp [go_sem])
  have y0 : w.heap.size < w4.heap.size := by omega
  have y1 : w2.heap.size < w4.heap.size := by omega
  have y2 : w3.heap.size < w4.heap.size := by omega
  have BB := BB.trans (B4.mono (by omega))
  clear b4 B4
  go_wp2_with fail
  go_call (rrefill_any l p h _ hl hp hh) as e w5 ⟨rfl, b5⟩
  have z5 : w4.heap.size + 1 ≤ w5.heap.size := by (have := b5.size; simp at this; omega)
  have B5 : Below w4.heap.size w4 w5 := ((Below.refl _ _).alloc (by go_size) _).trans (b5.mono (by go_size))
  have l0 := cellv B5 (by omega) l0
  have p0 := cellv B5 (by omega) p0
  have l2 := cellv B5 (by omega) l2
  have p2 := cellv B5 (by omega) p2
  have l3 := cellv B5 (by omega) l3
  have p3 := cellv B5 (by omega) p3
  have l4 := cellv b5 (b := w4.heap.size) (o := 0) (v := .int .u32 (fL l p h)) (by go_size) (by simp [go_sem])
  have p4 := cellv b5 (b := w4.heap.size) (o := 1) (v := .int .u32 p) (by go_size) (by simp [go_sem])
  have y0 : w.heap.size < w5.heap.size := by omega
  have y1 : w2.heap.size < w5.heap.size := by omega
  have y2 : w3.heap.size < w5.heap.size := by omega
  have y3 : w4.heap.size < w5.heap.size := by omega
  have BB := BB.trans (B5.mono (by omega))
  clear b5 B5
  go_wp2_with fail
  go_ret
  exact ⟨rfl, by go_grown⟩
end Go.Proofs.Ytamnnggijmmogaa
