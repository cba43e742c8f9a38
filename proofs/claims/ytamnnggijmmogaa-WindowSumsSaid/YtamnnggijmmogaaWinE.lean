/- The walk of the law WindowSums: it returns true and leaves memory as it was; for every input that its types can hold. -/
import Derived.Test.YtamnnggijmmogaaWinD
namespace Go.Proofs.Ytamnnggijmmogaa
set_option linter.all false
open Go.RowKit

theorem fT_pos (l p h : Int) (hl : 0 ≤ l) (hp : 0 ≤ p) (hh : 0 < h) : 0 ≤ fT l p h ∧ fT l p h ≤ h ∧ fT l p h ≤ l ∧ fT l p h ≤ once l p := by unfold fT lst2 once lst3; omega
theorem sE_fT (l p h : Int) (hl : 0 ≤ l) (hp : 0 ≤ p) (hh : 0 < h) : sE l p (fT l p h) = 0 := by unfold sE; rw [if_pos]; have := fT_pos l p h hl hp hh; omega
theorem sL_fT (l p h : Int) (hl : 0 ≤ l) (hp : 0 ≤ p) (hh : 0 < h) : sL l p (fT l p h) = l - fT l p h := by unfold sL; rw [if_pos]; have := fT_pos l p h hl hp hh; omega
theorem sE_more (l p h : Int) (hl : 0 ≤ l) (hp : 0 ≤ p) (hh : 0 < h) (hf : fT l p h < h) : sE l p (fT l p h + 1) = 5 := by
  unfold sE; rw [if_neg]; unfold fT lst2 at hf ⊢; omega

set_option maxRecDepth 100000 in
set_option maxHeartbeats 3200000 in
theorem windowSums_walk (l p : Int) (A : Option Addr) (len cap : Nat) (zs : List Int) (w : World) (hl : 0 ≤ l ∧ l ≤ 4294967295) (hp : 0 ≤ p ∧ p ≤ 4294967295) (hI : Ints .i32 w A len zs) :
    Calls Try.prog 5 #[.agg #[.int .u32 l, .int .u32 p], .slice A len cap] w fun e w' => e = .returned (.bool true) ∧ Below w.heap.size w w' := by
  have hm := hI.2.1
  have hz := hI.1
  unfold maxLen at hm
  by_cases hlen : 1000 < len
  · go_enter Try.func5, Try.ntmps5
    go_wp2_with fail
    go_call (alive24 _) as e w1 ⟨rfl, b1⟩
    have z1 : w.heap.size + 1 ≤ w1.heap.size := by (have := b1.size; simp at this; omega)
    have B1 : Below w.heap.size w w1 := ((Below.refl _ _).alloc (by go_size) _).trans (b1.mono (by go_size))
    have l0 := cellv b1 (b := w.heap.size) (o := 0) (v := .int .u32 l) (by go_size) (by simp [go_sem])
    have p0 := cellv b1 (b := w.heap.size) (o := 1) (v := .int .u32 p) (by go_size) (by simp [go_sem])
    have y0 : w.heap.size < w1.heap.size := by omega
    have BB : Below w.heap.size w w1 := B1
    clear b1 B1
    go_wp2_with fail
    go_ret
    exact ⟨rfl, BB⟩
  · go_enter Try.func5, Try.ntmps5
    go_wp2_with fail
    go_call (alive24 _) as e w1 ⟨rfl, b1⟩
    have z1 : w.heap.size + 1 ≤ w1.heap.size := by (have := b1.size; simp at this; omega)
    have B1 : Below w.heap.size w w1 := ((Below.refl _ _).alloc (by go_size) _).trans (b1.mono (by go_size))
    have l0 := cellv b1 (b := w.heap.size) (o := 0) (v := .int .u32 l) (by go_size) (by simp [go_sem])
    have p0 := cellv b1 (b := w.heap.size) (o := 1) (v := .int .u32 p) (by go_size) (by simp [go_sem])
    have y0 : w.heap.size < w1.heap.size := by omega
    have BB : Below w.heap.size w w1 := B1
    clear b1 B1
    go_wp2_with fail
    have BA : Below w.heap.size w w1 := BB
    clear BB
    go_loopw [6, 7, 29] (fun g s i wr => ∃ (k : Nat) (G S : Int), k ≤ len ∧ g = .int .u64 G ∧ s = .int .u64 S ∧ i = .int .i64 k ∧ 0 ≤ S ∧ S ≤ G ∧ G - S ≤ 4294967295 ∧ G ≤ 4294967295 + k * 2147483648 ∧
      wr.cell? ⟨w1.heap.size, 0, none⟩ = some (.int .u32 (G - S)) ∧ wr.cell? ⟨w1.heap.size, 1, none⟩ = some (.int .u32 p) ∧ wr.cell? ⟨w.heap.size, 1, none⟩ = some (.int .u32 p) ∧
      wr.frozen? ⟨w1.heap.size, 0, none⟩ = false ∧ wr.frozen? ⟨w1.heap.size, 1, none⟩ = false ∧ w1.heap.size < wr.heap.size ∧ Below w1.heap.size w1 wr) (fun _ _ i _ => len - (intOf i).toNat)
    case atStart =>
      exact ⟨0, l, 0, by omega, rfl, rfl, rfl, by omega, by omega, by omega, by omega, by simp [go_sem], by simp [go_sem], by simp [go_sem, *], by simp [go_sem], by simp [go_sem], by simp, by go_grown⟩
    case round =>
      obtain ⟨k, G, S, hk, rfl, rfl, rfl, g1, g2, g3, g4, x0, x1, q1, f0, f1, y0, BB⟩ := hrel
      have y1 : w.heap.size < wr.heap.size := by omega
      by_cases hlt : k < len
      · obtain ⟨s, hs⟩ : ∃ s, zs.getD k 0 = s := ⟨_, rfl⟩
        have hw := hI.wf k hlt
        obtain ⟨b, off, rfl, hb, hc⟩ := hI.2.2.2 (by omega)
        have hc := cellv BB (by omega) (cellv BA (by omega) (hc k hlt))
        rw [hs] at hw hc
        have hw := wf_i32 hw
        clear hs
        by_cases hs0 : 0 ≤ s
        · by_cases ho : 4294967295 - (G - S) < s
          · have e1 : gL (G - S) s = G - S := by unfold gL; rw [if_pos ho]
            have e2 : gE (G - S) s = 5 := by unfold gE; rw [if_pos ho]
            go_wp2_with fail
            go_call (grant_any (G - S) p s _ ⟨by omega, by omega⟩ ⟨by omega, by omega⟩) as e w2 ⟨rfl, b2⟩
            have z2 : wr.heap.size ≤ w2.heap.size := b2.size
            have B2 : Below wr.heap.size wr w2 := b2
            have x0 := cellv B2 (by omega) x0
            have x1 := cellv B2 (by omega) x1
            have q1 := cellv B2 (by omega) q1
            have f0 := frozenv B2 (by omega) f0
            have f1 := frozenv B2 (by omega) f1
            have y0 : w1.heap.size < w2.heap.size := by omega
            have y1 : w.heap.size < w2.heap.size := by omega
            have BB := BB.trans (B2.mono (by omega))
            clear b2 B2
            go_wp2_with fail
            go_roundw
            case rel => exact ⟨k + 1, G, S, by omega, rfl, rfl, by go_num, by omega, by omega, by omega, by omega, by simp [go_sem, *], by simp [go_sem, *], by simp [go_sem, *], by simp [go_sem, *], by simp [go_sem, *], by simp; omega, by go_grown⟩
            case measure => simp [intOf]; omega
          · have e1 : gL (G - S) s = G + s - S := by unfold gL; rw [if_neg ho]; omega
            have e2 : gE (G - S) s = 0 := by unfold gE; rw [if_neg ho]
            go_wp2_with fail
            go_call (grant_any (G - S) p s _ ⟨by omega, by omega⟩ ⟨by omega, by omega⟩) as e w2 ⟨rfl, b2⟩
            have z2 : wr.heap.size ≤ w2.heap.size := b2.size
            have B2 : Below wr.heap.size wr w2 := b2
            have x0 := cellv B2 (by omega) x0
            have x1 := cellv B2 (by omega) x1
            have q1 := cellv B2 (by omega) q1
            have f0 := frozenv B2 (by omega) f0
            have f1 := frozenv B2 (by omega) f1
            have y0 : w1.heap.size < w2.heap.size := by omega
            have y1 : w.heap.size < w2.heap.size := by omega
            have BB := BB.trans (B2.mono (by omega))
            clear b2 B2
            go_wp2_with fail
            go_roundw
            case rel => exact ⟨k + 1, G + s, S, by omega, rfl, rfl, by go_num, by omega, by omega, by omega, by omega, by simp [go_sem, *], by simp [go_sem, *], by simp [go_sem, *], by simp [go_sem, *], by simp [go_sem, *], by simp; omega, by go_grown⟩
            case measure => simp [intOf]; omega
        · have hF := fT_pos (G - S) p (-s) (by omega) hp.1 (by omega)
          obtain ⟨hF1, hF2, hF3, hF4⟩ := hF
          have e1 := sE_fT (G - S) p (-s) (by omega) hp.1 (by omega)
          have e2 := sL_fT (G - S) p (-s) (by omega) hp.1 (by omega)
          have hd : fT (G - S) p (-s) < -s → sE (G - S) p (fT (G - S) p (-s) + 1) = 5 := sE_more (G - S) p (-s) (by omega) hp.1 (by omega)
          clear e2
          have e2 : sL (G - S) p (fT (G - S) p (-s)) = G - (S + fT (G - S) p (-s)) := by rw [sL_fT (G - S) p (-s) (by omega) hp.1 (by omega)]; omega
          by_cases hc1 : fT (G - S) p (-s) < -s
          · have e3 := hd hc1
            clear hd
            go_wp2_with fail
            go_call (fit_any (G - S) p (-s) _ ⟨by omega, by omega⟩ hp) as e w2 ⟨rfl, b2⟩
            have z2 : wr.heap.size ≤ w2.heap.size := b2.size
            have B2 : Below wr.heap.size wr w2 := b2
            have x0 := cellv B2 (by omega) x0
            have x1 := cellv B2 (by omega) x1
            have q1 := cellv B2 (by omega) q1
            have f0 := frozenv B2 (by omega) f0
            have f1 := frozenv B2 (by omega) f1
            have y0 : w1.heap.size < w2.heap.size := by omega
            have y1 : w.heap.size < w2.heap.size := by omega
            have BB := BB.trans (B2.mono (by omega))
            clear b2 B2
            go_wp2_with fail
            go_call (sent_any (G - S) p (fT (G - S) p (-s) + 1) _ ⟨by omega, by omega⟩ hp) as e w3 ⟨rfl, b3⟩
            have z3 : w2.heap.size ≤ w3.heap.size := b3.size
            have B3 : Below w2.heap.size w2 w3 := b3
            have x0 := cellv B3 (by omega) x0
            have x1 := cellv B3 (by omega) x1
            have q1 := cellv B3 (by omega) q1
            have f0 := frozenv B3 (by omega) f0
            have f1 := frozenv B3 (by omega) f1
            have y0 : w1.heap.size < w3.heap.size := by omega
            have y1 : w.heap.size < w3.heap.size := by omega
            have BB := BB.trans (B3.mono (by omega))
            clear b3 B3
            go_wp2_with fail
            go_call (sent_any (G - S) p (fT (G - S) p (-s)) _ ⟨by omega, by omega⟩ hp) as e w4 ⟨rfl, b4⟩
            have z4 : w3.heap.size + 1 ≤ w4.heap.size := by (have := b4.size; simp at this; omega)
            have B4 : Below w3.heap.size w3 w4 := ((Below.refl _ _).alloc (by go_size) _).trans (b4.mono (by go_size))
            have x0 := cellv B4 (by omega) x0
            have x1 := cellv B4 (by omega) x1
            have q1 := cellv B4 (by omega) q1
            have f0 := frozenv B4 (by omega) f0
            have f1 := frozenv B4 (by omega) f1
            have y0 : w1.heap.size < w4.heap.size := by omega
            have y1 : w.heap.size < w4.heap.size := by omega
            have BB := BB.trans (B4.mono (by omega))
            clear b4 B4
            go_wp2_with fail
            go_roundw
            case rel => exact ⟨k + 1, G, S + fT (G - S) p (-s), by omega, rfl, rfl, by go_num, by omega, by omega, by omega, by omega, by simp [go_sem, *], by simp [go_sem, *], by simp [go_sem, *], by simp [go_sem, *], by simp [go_sem, *], by simp; omega, by go_grown⟩
            case measure => simp [intOf]; omega
          · clear hd
            by_cases hc2 : fT (G - S) p (-s) + 1 ≤ once (G - S) p
            all_goals
              first | (have e3 : sE (G - S) p (fT (G - S) p (-s) + 1) = 0 := by unfold sE; rw [if_pos (by omega)]) | (have e3 : sE (G - S) p (fT (G - S) p (-s) + 1) = 5 := by unfold sE; rw [if_neg (by omega)])
              clear hc2
              go_wp2_with fail
              go_call (fit_any (G - S) p (-s) _ ⟨by omega, by omega⟩ hp) as e w2 ⟨rfl, b2⟩
              have z2 : wr.heap.size ≤ w2.heap.size := b2.size
              have B2 : Below wr.heap.size wr w2 := b2
              have x0 := cellv B2 (by omega) x0
              have x1 := cellv B2 (by omega) x1
              have q1 := cellv B2 (by omega) q1
              have f0 := frozenv B2 (by omega) f0
              have f1 := frozenv B2 (by omega) f1
              have y0 : w1.heap.size < w2.heap.size := by omega
              have y1 : w.heap.size < w2.heap.size := by omega
              have BB := BB.trans (B2.mono (by omega))
              clear b2 B2
              go_wp2_with fail
              go_call (sent_any (G - S) p (fT (G - S) p (-s) + 1) _ ⟨by omega, by omega⟩ hp) as e w3 ⟨rfl, b3⟩
              have z3 : w2.heap.size ≤ w3.heap.size := b3.size
              have B3 : Below w2.heap.size w2 w3 := b3
              have x0 := cellv B3 (by omega) x0
              have x1 := cellv B3 (by omega) x1
              have q1 := cellv B3 (by omega) q1
              have f0 := frozenv B3 (by omega) f0
              have f1 := frozenv B3 (by omega) f1
              have y0 : w1.heap.size < w3.heap.size := by omega
              have y1 : w.heap.size < w3.heap.size := by omega
              have BB := BB.trans (B3.mono (by omega))
              clear b3 B3
              go_wp2_with fail
              go_call (sent_any (G - S) p (fT (G - S) p (-s)) _ ⟨by omega, by omega⟩ hp) as e w4 ⟨rfl, b4⟩
              have z4 : w3.heap.size + 1 ≤ w4.heap.size := by (have := b4.size; simp at this; omega)
              have B4 : Below w3.heap.size w3 w4 := ((Below.refl _ _).alloc (by go_size) _).trans (b4.mono (by go_size))
              have x0 := cellv B4 (by omega) x0
              have x1 := cellv B4 (by omega) x1
              have q1 := cellv B4 (by omega) q1
              have f0 := frozenv B4 (by omega) f0
              have f1 := frozenv B4 (by omega) f1
              have y0 : w1.heap.size < w4.heap.size := by omega
              have y1 : w.heap.size < w4.heap.size := by omega
              have BB := BB.trans (B4.mono (by omega))
              clear b4 B4
              go_wp2_with fail
              go_roundw
              case rel => exact ⟨k + 1, G, S + fT (G - S) p (-s), by omega, rfl, rfl, by go_num, by omega, by omega, by omega, by omega, by simp [go_sem, *], by simp [go_sem, *], by simp [go_sem, *], by simp [go_sem, *], by simp [go_sem, *], by simp; omega, by go_grown⟩
              case measure => simp [intOf]; omega
      · go_wp2_with fail
        go_ret
        exact ⟨rfl, BA.trans (BB.mono (by omega))⟩
end Go.Proofs.Ytamnnggijmmogaa
