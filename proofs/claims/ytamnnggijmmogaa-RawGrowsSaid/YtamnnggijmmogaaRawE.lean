/- The walks of fair and of a later read; for every input that the types can hold. -/
import Derived.Test.YtamnnggijmmogaaRawD
namespace Go.Proofs.Ytamnnggijmmogaa
set_option linter.all false
open Go.RowKit

def okay (n : Int) : Prop := 0 ≤ n ∧ n ≤ 1073741824
def fairB (m t h q i s : Int) : Bool := decide ((0 ≤ m ∧ m ≤ 1073741824) ∧ (0 ≤ t ∧ t ≤ 1073741824) ∧ (0 ≤ h ∧ h ≤ 1073741824) ∧ (0 ≤ q ∧ q ≤ 1073741824) ∧ (0 ≤ i ∧ i ≤ 1073741824) ∧ (0 ≤ s ∧ s ≤ 1073741824))

set_option maxRecDepth 100000 in
set_option maxHeartbeats 3200000 in
theorem fair_any (m t h q i s : Int) (w : World) : Calls Try.prog 30 #[.agg #[.int .i64 m, .int .i64 t, .int .i64 h, .int .i64 q, .int .i64 i, .int .i64 s]] w fun e w' => e = .returned (.bool (fairB m t h q i s)) ∧ Below w.heap.size w w' := by
  have j0 : ∀ w, (Instr.index 94 (.agg #[.int .i64 m, .int .i64 t, .int .i64 h, .int .i64 q, .int .i64 i, .int .i64 s]) (.int .i64 0)).run Try.prog w = .ok (.int .i64 m) w := fun _ => by kernel_rfl
  have j1 : ∀ w, (Instr.index 94 (.agg #[.int .i64 m, .int .i64 t, .int .i64 h, .int .i64 q, .int .i64 i, .int .i64 s]) (.int .i64 1)).run Try.prog w = .ok (.int .i64 t) w := fun _ => by kernel_rfl
  have j2 : ∀ w, (Instr.index 94 (.agg #[.int .i64 m, .int .i64 t, .int .i64 h, .int .i64 q, .int .i64 i, .int .i64 s]) (.int .i64 2)).run Try.prog w = .ok (.int .i64 h) w := fun _ => by kernel_rfl
  have j3 : ∀ w, (Instr.index 94 (.agg #[.int .i64 m, .int .i64 t, .int .i64 h, .int .i64 q, .int .i64 i, .int .i64 s]) (.int .i64 3)).run Try.prog w = .ok (.int .i64 q) w := fun _ => by kernel_rfl
  have j4 : ∀ w, (Instr.index 94 (.agg #[.int .i64 m, .int .i64 t, .int .i64 h, .int .i64 q, .int .i64 i, .int .i64 s]) (.int .i64 4)).run Try.prog w = .ok (.int .i64 i) w := fun _ => by kernel_rfl
  have j5 : ∀ w, (Instr.index 94 (.agg #[.int .i64 m, .int .i64 t, .int .i64 h, .int .i64 q, .int .i64 i, .int .i64 s]) (.int .i64 5)).run Try.prog w = .ok (.int .i64 s) w := fun _ => by kernel_rfl
  go_enter Try.func30, Try.ntmps30
  go_wp2
  go_rounds 7
  all_goals
    go_ret
    refine ⟨?_, by go_grown⟩
    first | exact ret_bool (decide_eq_true (by omega)).symm | exact ret_bool (decide_eq_false (by omega)).symm

theorem later_any (m t h q i s n : Int) (b : Nat) (w : World) (mb : 0 ≤ m ∧ m ≤ 1073741824) (tb : 0 ≤ t ∧ t ≤ 1073741824) (hb : 0 ≤ h ∧ h ≤ 1073741824) (qb : 0 ≤ q ∧ q ≤ 1073741824) (ib : 0 ≤ i ∧ i ≤ 1073741824) (sb : 0 ≤ s ∧ s ≤ 1073741824) (nb : 0 ≤ n ∧ n ≤ 1073741824) (hb : b < w.heap.size) (c0 : w.cell? ⟨b, 0, none⟩ = some (.int .i64 m)) (c1 : w.cell? ⟨b, 1, none⟩ = some (.int .i64 t)) (c2 : w.cell? ⟨b, 2, none⟩ = some (.int .i64 h)) (c3 : w.cell? ⟨b, 3, none⟩ = some (.int .i64 q)) (c4 : w.cell? ⟨b, 4, none⟩ = some (.int .i64 i)) (c5 : w.cell? ⟨b, 5, none⟩ = some (.int .i64 s)) :
    Calls Try.prog 31 #[.int .i64 n, .pointer (some ⟨b, 0, none⟩)] w fun e w' => e = .returned (.bool (rdB m t h q (i + n) (s + n))) ∧ Below w.heap.size w w' := by
  go_enter Try.func31, Try.ntmps31
  go_wp2_with fail
  go_call (lready_any m t h q (i + n) (s + n) _ ⟨by omega, by omega⟩ ⟨by omega, by omega⟩ ⟨by omega, by omega⟩ ⟨by omega, by omega⟩ ⟨by omega, by omega⟩ ⟨by omega, by omega⟩) as e w1 ⟨rfl, b1⟩
  have BB : Below w.heap.size w w1 := ((Below.refl _ _).alloc (Nat.le_refl _) _).trans (b1.mono (by go_size))
  go_wp2_with fail
  go_ret
  exact ⟨rfl, BB⟩

theorem never_later (m t h q i s n : Int) (hl : L6 m t h q i s = -1) : L6 m t h q (i + n) (s + n) = -1 := by
  unfold L6 leftV at *; unfold mx at *; split at hl
  · omega
  · rw [if_neg (by assumption)]; split at hl
    · split at hl
      · omega
      · split at hl <;> omega
    · rw [if_neg (by assumption)]; split at hl
      · omega
      · rw [if_neg (by assumption)]; split
        · rfl
        · split
          · rfl
          · rw [if_neg (by omega), if_neg (by omega)] at hl; omega
theorem left_cases (m t h q i s : Int) : L6 m t h q i s = -1 ∨ 0 ≤ L6 m t h q i s := by
  unfold L6 leftV mx; repeat' split
  all_goals omega
theorem later_done (m t h q i s : Int) (mb : 0 ≤ m ∧ m ≤ 1073741824) (tb : 0 ≤ t ∧ t ≤ 1073741824) (hb : 0 ≤ h ∧ h ≤ 1073741824) (qb : 0 ≤ q ∧ q ≤ 1073741824) (ib : 0 ≤ i ∧ i ≤ 1073741824) (sb : 0 ≤ s ∧ s ≤ 1073741824) (hl : 0 < L6 m t h q i s) : L6 m t h q i s ≤ 1073741824 ∧ L6 m t h q (i + L6 m t h q i s) (s + L6 m t h q i s) = 0 ∧ L6 m t h q (i + (L6 m t h q i s - 1)) (s + (L6 m t h q i s - 1)) ≠ 0 := by
  have key : ∀ W, L6 m t h q i s = W → 0 < W → W ≤ 1073741824 ∧ L6 m t h q (i + W) (s + W) = 0 ∧ L6 m t h q (i + (W - 1)) (s + (W - 1)) ≠ 0 := by
    intro W hW h0
    unfold L6 leftV at *; unfold mx at *; split at hW
    · omega
    · split at hW
      · split at hW
        · omega
        · split at hW
          · omega
          · simp only [*, if_false, if_true, not_false_eq_true]
            refine ⟨by omega, ?_, ?_⟩
            · omega
            · omega
      · split at hW
        · omega
        · split at hW
          · omega
          · split at hW
            · omega
            · refine ⟨by omega, ?_, ?_⟩
              · rw [if_neg (by omega), if_neg (by omega), if_neg (by omega), if_neg (by omega), if_neg (by omega)]; omega
              · rw [if_neg (by omega), if_neg (by omega), if_neg (by omega), if_neg (by omega), if_neg (by omega)]; omega
  exact key _ rfl hl
end Go.Proofs.Ytamnnggijmmogaa
