/- The walk of the law WindowRefills: it returns true and leaves memory as it was; for every input that its types can hold. -/
import Derived.Test.YtamnnggijmmogaaWinD
namespace Go.Proofs.Ytamnnggijmmogaa
set_option linter.all false
open Go.RowKit

theorem fL_eq (a m t : Int) : fL a m t = a + fR a m t := by unfold fL fR; split <;> omega
theorem fR_rng (a m t : Int) (ha : 0 ≤ a) (ht : 0 ≤ t) (h : a + t ≤ m) : 0 ≤ fR a m t ∧ a + fR a m t + t ≤ m ∧ (1 < m → ¬ (a + fR a m t = 0 ∧ t = 0)) := by
  unfold fR; split
  · exact ⟨by omega, by omega, by omega⟩
  · exact ⟨by omega, by omega, by omega⟩

set_option maxRecDepth 100000 in
set_option maxHeartbeats 6400000 in
theorem windowRefills_walk (l : Int) (A : Option Addr) (len cap : Nat) (zs : List Int) (w : World) (hl : 0 ≤ l ∧ l ≤ 4294967295) (hI : Ints .u16 w A len zs) :
    Calls Try.prog 6 #[.int .u32 l, .slice A len cap] w fun e w' => e = .returned (.bool true) ∧ Below w.heap.size w w' := by
  have hm := hI.2.1
  unfold maxLen at hm
  obtain ⟨l1, l2⟩ := hl
  by_cases hlen : 1000 < len
  · go_enter Try.func6, Try.ntmps6
    go_wp2_with fail
    go_call (alive24 _) as e w1 ⟨rfl, b1⟩
    have z1 : w.heap.size ≤ w1.heap.size := b1.size
    have B1 : Below w.heap.size w w1 := b1
    have BB : Below w.heap.size w w1 := B1
    clear b1 B1
    go_wp2_with fail
    go_ret
    exact ⟨rfl, BB⟩
  · have M0 : 0 ≤ l % 1000000 := by omega
    have M1 : l % 1000000 < 1000000 := by omega
    go_enter Try.func6, Try.ntmps6
    go_wp2_with fail
    go_call (alive24 _) as e w1 ⟨rfl, b1⟩
    have z1 : w.heap.size ≤ w1.heap.size := b1.size
    have B1 : Below w.heap.size w w1 := b1
    have BB : Below w.heap.size w w1 := B1
    clear b1 B1
    go_wp2_with fail
    have BA : Below w.heap.size w w1 := BB
    clear BB
    obtain ⟨M, hM⟩ : ∃ M, l % 1000000 = M := ⟨_, rfl⟩
    rw [hM] at M0 M1 ⊢
    clear hM
    go_loopw [6, 25] (fun t i wr => ∃ (k : Nat) (a T : Int), k ≤ len ∧ t = .int .i64 T ∧ i = .int .i64 k ∧ 0 ≤ a ∧ 0 ≤ T ∧ a + T ≤ M ∧
      wr.cell? ⟨w1.heap.size, 0, none⟩ = some (.int .u32 a) ∧ wr.cell? ⟨w1.heap.size, 1, none⟩ = some (.int .u32 M) ∧
      wr.frozen? ⟨w1.heap.size, 0, none⟩ = false ∧ wr.frozen? ⟨w1.heap.size, 1, none⟩ = false ∧ w1.heap.size < wr.heap.size ∧ Below w1.heap.size w1 wr) (fun _ i _ => len - (intOf i).toNat)
    case atStart =>
      exact ⟨0, M, 0, by omega, rfl, rfl, by omega, by omega, by omega, by simp [go_sem], by simp [go_sem], by simp [go_sem], by simp [go_sem], by simp, by go_grown⟩
    case round =>
      obtain ⟨k, a, T, hk, rfl, rfl, g1, g2, g3, x0, x1, f0, f1, y0, BB⟩ := hrel
      by_cases hlt : k < len
      · obtain ⟨s, hs⟩ : ∃ s, zs.getD k 0 = s := ⟨_, rfl⟩
        have hw := hI.wf k hlt
        obtain ⟨b, off, rfl, hb, hc⟩ := hI.2.2.2 (by omega)
        have hc := cellv BB (by omega) (cellv BA (by omega) (hc k hlt))
        rw [hs] at hw hc
        obtain ⟨w1', w2'⟩ := wf_u16 hw
        clear hs hw
        by_cases hp : (k : Int) % 2 = 0
        · have hp' : ((k : Int) % 2 == 0) = true := beq_iff_eq.2 hp
          clear hp
          by_cases hg : s ≤ a
          · have e1 : oL a s = a - s := by unfold oL; rw [if_pos (by omega)]
            have e2 : oE a s = 0 := by unfold oE; rw [if_pos (by omega)]
            have e4 : decide (s ≤ a) = true := decide_eq_true hg
            have e5 := fL_eq (a - s) M (T + s)
            obtain ⟨r1, r2, r3⟩ := fR_rng (a - s) M (T + s) (by omega) (by omega) (by omega)
            by_cases h1 : 1 < M
            · by_cases h2 : a - s + fR (a - s) M (T + s) = 0
              · have h3 : ((a - s + fR (a - s) M (T + s)) == 0) = true := beq_iff_eq.2 h2
                have h4 : ((T + s) == 0) = false := beq_eq_false_iff_ne.2 (fun h => r3 h1 ⟨h2, h⟩)
                clear h2 r3
                go_wp2_with fail
                go_call (got_any a M s _ ⟨by omega, by omega⟩ ⟨by omega, by omega⟩) as e w2 ⟨rfl, b2⟩
                have z2 : wr.heap.size ≤ w2.heap.size := b2.size
                have B2 : Below wr.heap.size wr w2 := b2
                have x0 := cellv B2 (by omega) x0
                have x1 := cellv B2 (by omega) x1
                have f0 := frozenv B2 (by omega) f0
                have f1 := frozenv B2 (by omega) f1
                have y0 : w1.heap.size < w2.heap.size := by omega
                have BB := BB.trans (B2.mono (by omega))
                clear b2 B2
                go_wp2_with fail
                go_call (refill_any (a - s) M (T + s) _ ⟨by omega, by omega⟩ ⟨by omega, by omega⟩ ⟨by omega, by omega⟩) as e w3 ⟨rfl, b3⟩
                have z3 : w2.heap.size + 1 ≤ w3.heap.size := by (have := b3.size; simp at this; omega)
                have x0 := cellv b3 (b := w1.heap.size) (o := 0) (v := .int .u32 (a - s)) (by go_size) (by simp [go_sem, *])
                have x1 := cellv b3 (b := w1.heap.size) (o := 1) (v := .int .u32 M) (by go_size) (by simp [go_sem, *])
                have f0 := frozenv b3 (b := w1.heap.size) (o := 0) (c := false) (by go_size) (by simp [go_sem, *])
                have f1 := frozenv b3 (b := w1.heap.size) (o := 1) (c := false) (by go_size) (by simp [go_sem, *])
                have y0 : w1.heap.size < w3.heap.size := by omega
                have BB := (((BB.setCell (p := ⟨w1.heap.size, 0, none⟩) (Nat.le_refl _) _).setCell (p := ⟨w1.heap.size, 1, none⟩) (Nat.le_refl _) _).alloc (by go_size) _).trans (b3.mono (by go_size))
                clear b3
                go_wp2_with fail
                go_roundw
                case rel => exact ⟨k + 1, a - s + fR (a - s) M (T + s), T + s, by omega, rfl, by go_num, by omega, by omega, by omega, by simp [go_sem, *], by simp [go_sem, *], by simp [go_sem, *], by simp [go_sem, *], by simp; omega, by go_grown⟩
                case measure => simp [intOf]; omega
              · have h3 : ((a - s + fR (a - s) M (T + s)) == 0) = false := beq_eq_false_iff_ne.2 h2
                clear h2 r3
                go_wp2_with fail
                go_call (got_any a M s _ ⟨by omega, by omega⟩ ⟨by omega, by omega⟩) as e w2 ⟨rfl, b2⟩
                have z2 : wr.heap.size ≤ w2.heap.size := b2.size
                have B2 : Below wr.heap.size wr w2 := b2
                have x0 := cellv B2 (by omega) x0
                have x1 := cellv B2 (by omega) x1
                have f0 := frozenv B2 (by omega) f0
                have f1 := frozenv B2 (by omega) f1
                have y0 : w1.heap.size < w2.heap.size := by omega
                have BB := BB.trans (B2.mono (by omega))
                clear b2 B2
                go_wp2_with fail
                go_call (refill_any (a - s) M (T + s) _ ⟨by omega, by omega⟩ ⟨by omega, by omega⟩ ⟨by omega, by omega⟩) as e w3 ⟨rfl, b3⟩
                have z3 : w2.heap.size + 1 ≤ w3.heap.size := by (have := b3.size; simp at this; omega)
                have x0 := cellv b3 (b := w1.heap.size) (o := 0) (v := .int .u32 (a - s)) (by go_size) (by simp [go_sem, *])
                have x1 := cellv b3 (b := w1.heap.size) (o := 1) (v := .int .u32 M) (by go_size) (by simp [go_sem, *])
                have f0 := frozenv b3 (b := w1.heap.size) (o := 0) (c := false) (by go_size) (by simp [go_sem, *])
                have f1 := frozenv b3 (b := w1.heap.size) (o := 1) (c := false) (by go_size) (by simp [go_sem, *])
                have y0 : w1.heap.size < w3.heap.size := by omega
                have BB := (((BB.setCell (p := ⟨w1.heap.size, 0, none⟩) (Nat.le_refl _) _).setCell (p := ⟨w1.heap.size, 1, none⟩) (Nat.le_refl _) _).alloc (by go_size) _).trans (b3.mono (by go_size))
                clear b3
                go_wp2_with fail
                go_roundw
                case rel => exact ⟨k + 1, a - s + fR (a - s) M (T + s), T + s, by omega, rfl, by go_num, by omega, by omega, by omega, by simp [go_sem, *], by simp [go_sem, *], by simp [go_sem, *], by simp [go_sem, *], by simp; omega, by go_grown⟩
                case measure => simp [intOf]; omega
            · clear r3
              go_wp2_with fail
              go_call (got_any a M s _ ⟨by omega, by omega⟩ ⟨by omega, by omega⟩) as e w2 ⟨rfl, b2⟩
              have z2 : wr.heap.size ≤ w2.heap.size := b2.size
              have B2 : Below wr.heap.size wr w2 := b2
              have x0 := cellv B2 (by omega) x0
              have x1 := cellv B2 (by omega) x1
              have f0 := frozenv B2 (by omega) f0
              have f1 := frozenv B2 (by omega) f1
              have y0 : w1.heap.size < w2.heap.size := by omega
              have BB := BB.trans (B2.mono (by omega))
              clear b2 B2
              go_wp2_with fail
              go_call (refill_any (a - s) M (T + s) _ ⟨by omega, by omega⟩ ⟨by omega, by omega⟩ ⟨by omega, by omega⟩) as e w3 ⟨rfl, b3⟩
              have z3 : w2.heap.size + 1 ≤ w3.heap.size := by (have := b3.size; simp at this; omega)
              have x0 := cellv b3 (b := w1.heap.size) (o := 0) (v := .int .u32 (a - s)) (by go_size) (by simp [go_sem, *])
              have x1 := cellv b3 (b := w1.heap.size) (o := 1) (v := .int .u32 M) (by go_size) (by simp [go_sem, *])
              have f0 := frozenv b3 (b := w1.heap.size) (o := 0) (c := false) (by go_size) (by simp [go_sem, *])
              have f1 := frozenv b3 (b := w1.heap.size) (o := 1) (c := false) (by go_size) (by simp [go_sem, *])
              have y0 : w1.heap.size < w3.heap.size := by omega
              have BB := (((BB.setCell (p := ⟨w1.heap.size, 0, none⟩) (Nat.le_refl _) _).setCell (p := ⟨w1.heap.size, 1, none⟩) (Nat.le_refl _) _).alloc (by go_size) _).trans (b3.mono (by go_size))
              clear b3
              go_wp2_with fail
              go_roundw
              case rel => exact ⟨k + 1, a - s + fR (a - s) M (T + s), T + s, by omega, rfl, by go_num, by omega, by omega, by omega, by simp [go_sem, *], by simp [go_sem, *], by simp [go_sem, *], by simp [go_sem, *], by simp; omega, by go_grown⟩
              case measure => simp [intOf]; omega
          · have e1 : oL a s = a := by unfold oL; rw [if_neg (by omega)]
            have e2 : oE a s = 5 := by unfold oE; rw [if_neg (by omega)]
            have e4 : decide (s ≤ a) = false := decide_eq_false hg
            have e5 := fL_eq (a) M (T)
            obtain ⟨r1, r2, r3⟩ := fR_rng (a) M (T) (by omega) (by omega) (by omega)
            by_cases h1 : 1 < M
            · by_cases h2 : a + fR (a) M (T) = 0
              · have h3 : ((a + fR (a) M (T)) == 0) = true := beq_iff_eq.2 h2
                have h4 : ((T) == 0) = false := beq_eq_false_iff_ne.2 (fun h => r3 h1 ⟨h2, h⟩)
                clear h2 r3
                go_wp2_with fail
                go_call (got_any a M s _ ⟨by omega, by omega⟩ ⟨by omega, by omega⟩) as e w2 ⟨rfl, b2⟩
                have z2 : wr.heap.size ≤ w2.heap.size := b2.size
                have B2 : Below wr.heap.size wr w2 := b2
                have x0 := cellv B2 (by omega) x0
                have x1 := cellv B2 (by omega) x1
                have f0 := frozenv B2 (by omega) f0
                have f1 := frozenv B2 (by omega) f1
                have y0 : w1.heap.size < w2.heap.size := by omega
                have BB := BB.trans (B2.mono (by omega))
                clear b2 B2
                go_wp2_with fail
                go_call (refill_any (a) M (T) _ ⟨by omega, by omega⟩ ⟨by omega, by omega⟩ ⟨by omega, by omega⟩) as e w3 ⟨rfl, b3⟩
                have z3 : w2.heap.size + 1 ≤ w3.heap.size := by (have := b3.size; simp at this; omega)
                have x0 := cellv b3 (b := w1.heap.size) (o := 0) (v := .int .u32 (a)) (by go_size) (by simp [go_sem, *])
                have x1 := cellv b3 (b := w1.heap.size) (o := 1) (v := .int .u32 M) (by go_size) (by simp [go_sem, *])
                have f0 := frozenv b3 (b := w1.heap.size) (o := 0) (c := false) (by go_size) (by simp [go_sem, *])
                have f1 := frozenv b3 (b := w1.heap.size) (o := 1) (c := false) (by go_size) (by simp [go_sem, *])
                have y0 : w1.heap.size < w3.heap.size := by omega
                have BB := (((BB.setCell (p := ⟨w1.heap.size, 0, none⟩) (Nat.le_refl _) _).setCell (p := ⟨w1.heap.size, 1, none⟩) (Nat.le_refl _) _).alloc (by go_size) _).trans (b3.mono (by go_size))
                clear b3
                go_wp2_with fail
                go_roundw
                case rel => exact ⟨k + 1, a + fR (a) M (T), T, by omega, rfl, by go_num, by omega, by omega, by omega, by simp [go_sem, *], by simp [go_sem, *], by simp [go_sem, *], by simp [go_sem, *], by simp; omega, by go_grown⟩
                case measure => simp [intOf]; omega
              · have h3 : ((a + fR (a) M (T)) == 0) = false := beq_eq_false_iff_ne.2 h2
                clear h2 r3
                go_wp2_with fail
                go_call (got_any a M s _ ⟨by omega, by omega⟩ ⟨by omega, by omega⟩) as e w2 ⟨rfl, b2⟩
                have z2 : wr.heap.size ≤ w2.heap.size := b2.size
                have B2 : Below wr.heap.size wr w2 := b2
                have x0 := cellv B2 (by omega) x0
                have x1 := cellv B2 (by omega) x1
                have f0 := frozenv B2 (by omega) f0
                have f1 := frozenv B2 (by omega) f1
                have y0 : w1.heap.size < w2.heap.size := by omega
                have BB := BB.trans (B2.mono (by omega))
                clear b2 B2
                go_wp2_with fail
                go_call (refill_any (a) M (T) _ ⟨by omega, by omega⟩ ⟨by omega, by omega⟩ ⟨by omega, by omega⟩) as e w3 ⟨rfl, b3⟩
                have z3 : w2.heap.size + 1 ≤ w3.heap.size := by (have := b3.size; simp at this; omega)
                have x0 := cellv b3 (b := w1.heap.size) (o := 0) (v := .int .u32 (a)) (by go_size) (by simp [go_sem, *])
                have x1 := cellv b3 (b := w1.heap.size) (o := 1) (v := .int .u32 M) (by go_size) (by simp [go_sem, *])
                have f0 := frozenv b3 (b := w1.heap.size) (o := 0) (c := false) (by go_size) (by simp [go_sem, *])
                have f1 := frozenv b3 (b := w1.heap.size) (o := 1) (c := false) (by go_size) (by simp [go_sem, *])
                have y0 : w1.heap.size < w3.heap.size := by omega
                have BB := (((BB.setCell (p := ⟨w1.heap.size, 0, none⟩) (Nat.le_refl _) _).setCell (p := ⟨w1.heap.size, 1, none⟩) (Nat.le_refl _) _).alloc (by go_size) _).trans (b3.mono (by go_size))
                clear b3
                go_wp2_with fail
                go_roundw
                case rel => exact ⟨k + 1, a + fR (a) M (T), T, by omega, rfl, by go_num, by omega, by omega, by omega, by simp [go_sem, *], by simp [go_sem, *], by simp [go_sem, *], by simp [go_sem, *], by simp; omega, by go_grown⟩
                case measure => simp [intOf]; omega
            · clear r3
              go_wp2_with fail
              go_call (got_any a M s _ ⟨by omega, by omega⟩ ⟨by omega, by omega⟩) as e w2 ⟨rfl, b2⟩
              have z2 : wr.heap.size ≤ w2.heap.size := b2.size
              have B2 : Below wr.heap.size wr w2 := b2
              have x0 := cellv B2 (by omega) x0
              have x1 := cellv B2 (by omega) x1
              have f0 := frozenv B2 (by omega) f0
              have f1 := frozenv B2 (by omega) f1
              have y0 : w1.heap.size < w2.heap.size := by omega
              have BB := BB.trans (B2.mono (by omega))
              clear b2 B2
              go_wp2_with fail
              go_call (refill_any (a) M (T) _ ⟨by omega, by omega⟩ ⟨by omega, by omega⟩ ⟨by omega, by omega⟩) as e w3 ⟨rfl, b3⟩
              have z3 : w2.heap.size + 1 ≤ w3.heap.size := by (have := b3.size; simp at this; omega)
              have x0 := cellv b3 (b := w1.heap.size) (o := 0) (v := .int .u32 (a)) (by go_size) (by simp [go_sem, *])
              have x1 := cellv b3 (b := w1.heap.size) (o := 1) (v := .int .u32 M) (by go_size) (by simp [go_sem, *])
              have f0 := frozenv b3 (b := w1.heap.size) (o := 0) (c := false) (by go_size) (by simp [go_sem, *])
              have f1 := frozenv b3 (b := w1.heap.size) (o := 1) (c := false) (by go_size) (by simp [go_sem, *])
              have y0 : w1.heap.size < w3.heap.size := by omega
              have BB := (((BB.setCell (p := ⟨w1.heap.size, 0, none⟩) (Nat.le_refl _) _).setCell (p := ⟨w1.heap.size, 1, none⟩) (Nat.le_refl _) _).alloc (by go_size) _).trans (b3.mono (by go_size))
              clear b3
              go_wp2_with fail
              go_roundw
              case rel => exact ⟨k + 1, a + fR (a) M (T), T, by omega, rfl, by go_num, by omega, by omega, by omega, by simp [go_sem, *], by simp [go_sem, *], by simp [go_sem, *], by simp [go_sem, *], by simp; omega, by go_grown⟩
              case measure => simp [intOf]; omega
        · have hp' : ((k : Int) % 2 == 0) = false := beq_eq_false_iff_ne.2 hp
          clear hp
          by_cases hm1 : s < T
          · have e6 : T - min T s = T - s := by omega
            have e7 : min T s = s := by omega
            have e5 := fL_eq (a) M (T - s)
            obtain ⟨r1, r2, r3⟩ := fR_rng (a) M (T - s) (by omega) (by omega) (by omega)
            by_cases h1 : 1 < M
            · by_cases h2 : a + fR (a) M (T - s) = 0
              · have h3 : ((a + fR (a) M (T - s)) == 0) = true := beq_iff_eq.2 h2
                have h4 : ((T - s) == 0) = false := beq_eq_false_iff_ne.2 (fun h => r3 h1 ⟨h2, h⟩)
                clear h2 r3
                go_wp2_with fail
                go_call (refill_any (a) M (T - s) _ ⟨by omega, by omega⟩ ⟨by omega, by omega⟩ ⟨by omega, by omega⟩) as e w2 ⟨rfl, b2⟩
                have z2 : wr.heap.size ≤ w2.heap.size := b2.size
                have B2 : Below wr.heap.size wr w2 := b2
                have x0 := cellv B2 (by omega) x0
                have x1 := cellv B2 (by omega) x1
                have f0 := frozenv B2 (by omega) f0
                have f1 := frozenv B2 (by omega) f1
                have y0 : w1.heap.size < w2.heap.size := by omega
                have BB := BB.trans (B2.mono (by omega))
                clear b2 B2
                go_wp2_with fail
                go_roundw
                case rel => exact ⟨k + 1, a + fR (a) M (T - s), T - s, by omega, rfl, by go_num, by omega, by omega, by omega, by simp [go_sem, *], by simp [go_sem, *], by simp [go_sem, *], by simp [go_sem, *], by simp; omega, by go_grown⟩
                case measure => simp [intOf]; omega
              · have h3 : ((a + fR (a) M (T - s)) == 0) = false := beq_eq_false_iff_ne.2 h2
                clear h2 r3
                go_wp2_with fail
                go_call (refill_any (a) M (T - s) _ ⟨by omega, by omega⟩ ⟨by omega, by omega⟩ ⟨by omega, by omega⟩) as e w2 ⟨rfl, b2⟩
                have z2 : wr.heap.size ≤ w2.heap.size := b2.size
                have B2 : Below wr.heap.size wr w2 := b2
                have x0 := cellv B2 (by omega) x0
                have x1 := cellv B2 (by omega) x1
                have f0 := frozenv B2 (by omega) f0
                have f1 := frozenv B2 (by omega) f1
                have y0 : w1.heap.size < w2.heap.size := by omega
                have BB := BB.trans (B2.mono (by omega))
                clear b2 B2
                go_wp2_with fail
                go_roundw
                case rel => exact ⟨k + 1, a + fR (a) M (T - s), T - s, by omega, rfl, by go_num, by omega, by omega, by omega, by simp [go_sem, *], by simp [go_sem, *], by simp [go_sem, *], by simp [go_sem, *], by simp; omega, by go_grown⟩
                case measure => simp [intOf]; omega
            · clear r3
              go_wp2_with fail
              go_call (refill_any (a) M (T - s) _ ⟨by omega, by omega⟩ ⟨by omega, by omega⟩ ⟨by omega, by omega⟩) as e w2 ⟨rfl, b2⟩
              have z2 : wr.heap.size ≤ w2.heap.size := b2.size
              have B2 : Below wr.heap.size wr w2 := b2
              have x0 := cellv B2 (by omega) x0
              have x1 := cellv B2 (by omega) x1
              have f0 := frozenv B2 (by omega) f0
              have f1 := frozenv B2 (by omega) f1
              have y0 : w1.heap.size < w2.heap.size := by omega
              have BB := BB.trans (B2.mono (by omega))
              clear b2 B2
              go_wp2_with fail
              go_roundw
              case rel => exact ⟨k + 1, a + fR (a) M (T - s), T - s, by omega, rfl, by go_num, by omega, by omega, by omega, by simp [go_sem, *], by simp [go_sem, *], by simp [go_sem, *], by simp [go_sem, *], by simp; omega, by go_grown⟩
              case measure => simp [intOf]; omega
          · have e7 : min T s = T := by omega
            have e6 : T - min T s = 0 := by omega
            have e5 := fL_eq (a) M (0)
            obtain ⟨r1, r2, r3⟩ := fR_rng (a) M (0) (by omega) (by omega) (by omega)
            by_cases h1 : 1 < M
            · by_cases h2 : a + fR (a) M (0) = 0
              · exact absurd ⟨h2, rfl⟩ (r3 h1)
              · have h3 : ((a + fR (a) M (0)) == 0) = false := beq_eq_false_iff_ne.2 h2
                clear h2 r3
                go_wp2_with fail
                go_call (refill_any (a) M (0) _ ⟨by omega, by omega⟩ ⟨by omega, by omega⟩ ⟨by omega, by omega⟩) as e w2 ⟨rfl, b2⟩
                have z2 : wr.heap.size ≤ w2.heap.size := b2.size
                have B2 : Below wr.heap.size wr w2 := b2
                have x0 := cellv B2 (by omega) x0
                have x1 := cellv B2 (by omega) x1
                have f0 := frozenv B2 (by omega) f0
                have f1 := frozenv B2 (by omega) f1
                have y0 : w1.heap.size < w2.heap.size := by omega
                have BB := BB.trans (B2.mono (by omega))
                clear b2 B2
                go_wp2_with fail
                go_roundw
                case rel => exact ⟨k + 1, a + fR (a) M (0), 0, by omega, rfl, by go_num, by omega, by omega, by omega, by simp [go_sem, *], by simp [go_sem, *], by simp [go_sem, *], by simp [go_sem, *], by simp; omega, by go_grown⟩
                case measure => simp [intOf]; omega
            · clear r3
              go_wp2_with fail
              go_call (refill_any (a) M (0) _ ⟨by omega, by omega⟩ ⟨by omega, by omega⟩ ⟨by omega, by omega⟩) as e w2 ⟨rfl, b2⟩
              have z2 : wr.heap.size ≤ w2.heap.size := b2.size
              have B2 : Below wr.heap.size wr w2 := b2
              have x0 := cellv B2 (by omega) x0
              have x1 := cellv B2 (by omega) x1
              have f0 := frozenv B2 (by omega) f0
              have f1 := frozenv B2 (by omega) f1
              have y0 : w1.heap.size < w2.heap.size := by omega
              have BB := BB.trans (B2.mono (by omega))
              clear b2 B2
              go_wp2_with fail
              go_roundw
              case rel => exact ⟨k + 1, a + fR (a) M (0), 0, by omega, rfl, by go_num, by omega, by omega, by omega, by simp [go_sem, *], by simp [go_sem, *], by simp [go_sem, *], by simp [go_sem, *], by simp; omega, by go_grown⟩
              case measure => simp [intOf]; omega
      · go_wp2_with fail
        go_ret
        exact ⟨rfl, BA.trans (BB.mono (by omega))⟩
end Go.Proofs.Ytamnnggijmmogaa
