/- The walks of package raw, continued: Ready and Wait, and their reference; for every input, no condition. -/
import Derived.Test.YtamnnggijmmogaaRawB
namespace Go.Proofs.Ytamnnggijmmogaa
set_option linter.all false
open Go.RowKit

theorem mx_if (n : Int) : (if 0 < n then n else 0) = mx n := by unfold mx; split <;> omega

theorem of_any (m t h q i s : Int) (w : World) : Calls Try.prog 58 #[.int .i64 m, .int .i64 t, .int .i64 h, .int .i64 q, .int .i64 i, .int .i64 s] w fun e w' =>
    e = .returned (.agg #[.int .i64 (mx m), .int .i64 (mx t), .int .i64 (mx h), .int .i64 (mx q), .int .i64 (mx i), .int .i64 (mx s)]) ∧ Below w.heap.size w w' := by
  have e0 := mx_if m
  have e1 := mx_if t
  have e2 := mx_if h
  have e3 := mx_if q
  have e4 := mx_if i
  have e5 := mx_if s
  go_enter Try.func58, Try.ntmps58
  go_wp2
  go_returns
  exact ⟨rfl, by go_grown⟩
/-! READY -/
theorem ret_pair {k : IntKind} {a b : Int} {c : Bool} (h : a = b) : Ending.returned (.tuple #[.int k a, .bool c]) = .returned (.tuple #[.int k b, .bool c]) := by rw [h]
def mn (a b : Int) : Int := min a b
theorem mn_if (a b : Int) : (if b < a then b else a) = mn a b := by unfold mn; split <;> omega
def L6 (m t h q i s : Int) : Int := leftV (mx m) (mx t) (mx h) (mx q) (mx i) (mx s)
def rdN (m t h q i s : Int) : Int := if L6 m t h q i s = 0 then mn (mx h) (mx q) else 0
def rdB (m t h q i s : Int) : Bool := decide (L6 m t h q i s = 0)
def wtN (m t h q i s : Int) : Int := if L6 m t h q i s = -1 then 0 else L6 m t h q i s
def wtB (m t h q i s : Int) : Bool := decide (L6 m t h q i s ≠ -1)

set_option maxRecDepth 100000 in
theorem ready_any (m t h q i s : Int) (w : World) (mb : -9223372036854775808 ≤ m ∧ m ≤ 9223372036854775807) (tb : -9223372036854775808 ≤ t ∧ t ≤ 9223372036854775807) (hb : -9223372036854775808 ≤ h ∧ h ≤ 9223372036854775807) (qb : -9223372036854775808 ≤ q ∧ q ≤ 9223372036854775807) (ib : -9223372036854775808 ≤ i ∧ i ≤ 9223372036854775807) (sb : -9223372036854775808 ≤ s ∧ s ≤ 9223372036854775807) : Calls Try.prog 48 #[.int .i64 m, .int .i64 t, .int .i64 h, .int .i64 q, .int .i64 i, .int .i64 s] w fun e w' => e = .returned (.tuple #[.int .i64 (rdN m t h q i s), .bool (rdB m t h q i s)]) ∧ Below w.heap.size w w' := by
  have e0 := mn_if (mx h) (mx q)
  by_cases hl : L6 m t h q i s = 0
  all_goals
    first | (have e1 : rdN m t h q i s = mn (mx h) (mx q) := by unfold rdN; rw [if_pos hl]) | (have e1 : rdN m t h q i s = 0 := by unfold rdN; rw [if_neg hl])
    first | (have e2 : rdB m t h q i s = true := decide_eq_true hl) | (have e2 : rdB m t h q i s = false := decide_eq_false hl)
    rw [e1, e2]; clear e1 e2
    unfold L6 at hl
    first | (have h1 : (leftV (mx m) (mx t) (mx h) (mx q) (mx i) (mx s) == 0) = true := beq_iff_eq.2 hl; have h2 : (leftV (mx m) (mx t) (mx h) (mx q) (mx i) (mx s) != 0) = false := by simp [hl]) | (have h1 : (leftV (mx m) (mx t) (mx h) (mx q) (mx i) (mx s) == 0) = false := beq_eq_false_iff_ne.2 hl; have h2 : (leftV (mx m) (mx t) (mx h) (mx q) (mx i) (mx s) != 0) = true := by simp [hl])
    clear hl
    go_enter Try.func48, Try.ntmps48
    go_wp2_with fail
    go_call (of_any m t h q i s _) as e w1 ⟨rfl, b1⟩
    have z1 : w.heap.size ≤ w1.heap.size := b1.size
    have B1 : Below w.heap.size w w1 := b1
    have BB : Below w.heap.size w w1 := B1
    clear b1 B1
    go_wp2_with fail
    go_call (left_any (mx m) (mx t) (mx h) (mx q) (mx i) (mx s) _ (mx_nonneg m) (mx_nonneg t) (mx_nonneg h) (mx_nonneg q) (mx_nonneg i) (mx_nonneg s) (mx_le m mb.2) (mx_le t tb.2) (mx_le h hb.2) (mx_le q qb.2) (mx_le i ib.2) (mx_le s sb.2)) as e w2 ⟨rfl, b2⟩
    have z2 : w1.heap.size + 1 ≤ w2.heap.size := by (have := b2.size; simp at this; omega)
    have B2 : Below w1.heap.size w1 w2 := ((Below.refl _ _).alloc (by go_size) _).trans (b2.mono (by go_size))
    have c0 := cellv b2 (b := w1.heap.size) (o := 0) (v := .int .i64 (mx m)) (by go_size) (by simp [go_sem])
    have c1 := cellv b2 (b := w1.heap.size) (o := 1) (v := .int .i64 (mx t)) (by go_size) (by simp [go_sem])
    have c2 := cellv b2 (b := w1.heap.size) (o := 2) (v := .int .i64 (mx h)) (by go_size) (by simp [go_sem])
    have c3 := cellv b2 (b := w1.heap.size) (o := 3) (v := .int .i64 (mx q)) (by go_size) (by simp [go_sem])
    have c4 := cellv b2 (b := w1.heap.size) (o := 4) (v := .int .i64 (mx i)) (by go_size) (by simp [go_sem])
    have c5 := cellv b2 (b := w1.heap.size) (o := 5) (v := .int .i64 (mx s)) (by go_size) (by simp [go_sem])
    have y0 : w1.heap.size < w2.heap.size := by omega
    have BB := BB.trans (B2.mono (by omega))
    clear b2 B2
    go_wp2_with fail
    go_ret2
    exact ⟨rfl, BB⟩

set_option maxRecDepth 100000 in
theorem wait_any (m t h q i s : Int) (w : World) (mb : -9223372036854775808 ≤ m ∧ m ≤ 9223372036854775807) (tb : -9223372036854775808 ≤ t ∧ t ≤ 9223372036854775807) (hb : -9223372036854775808 ≤ h ∧ h ≤ 9223372036854775807) (qb : -9223372036854775808 ≤ q ∧ q ≤ 9223372036854775807) (ib : -9223372036854775808 ≤ i ∧ i ≤ 9223372036854775807) (sb : -9223372036854775808 ≤ s ∧ s ≤ 9223372036854775807) : Calls Try.prog 49 #[.int .i64 m, .int .i64 t, .int .i64 h, .int .i64 q, .int .i64 i, .int .i64 s] w fun e w' => e = .returned (.tuple #[.int .i64 (wtN m t h q i s), .bool (wtB m t h q i s)]) ∧ Below w.heap.size w w' := by
  by_cases hl : L6 m t h q i s = -1
  all_goals
    first | (have e1 : wtN m t h q i s = 0 := by unfold wtN; rw [if_pos hl]) | (have e1 : wtN m t h q i s = leftV (mx m) (mx t) (mx h) (mx q) (mx i) (mx s) := by unfold wtN; rw [if_neg hl]; rfl)
    first | (have e2 : wtB m t h q i s = true := decide_eq_true hl) | (have e2 : wtB m t h q i s = false := decide_eq_false (by simp [hl]))
    rw [e1, e2]; clear e1 e2
    unfold L6 at hl
    first | (have h1 : (leftV (mx m) (mx t) (mx h) (mx q) (mx i) (mx s) == -1) = true := beq_iff_eq.2 hl) | (have h1 : (leftV (mx m) (mx t) (mx h) (mx q) (mx i) (mx s) == -1) = false := beq_eq_false_iff_ne.2 hl)
    clear hl
    go_enter Try.func49, Try.ntmps49
    go_wp2_with fail
    go_call (of_any m t h q i s _) as e w1 ⟨rfl, b1⟩
    have z1 : w.heap.size ≤ w1.heap.size := b1.size
    have B1 : Below w.heap.size w w1 := b1
    have BB : Below w.heap.size w w1 := B1
    clear b1 B1
    go_wp2_with fail
    go_call (left_any (mx m) (mx t) (mx h) (mx q) (mx i) (mx s) _ (mx_nonneg m) (mx_nonneg t) (mx_nonneg h) (mx_nonneg q) (mx_nonneg i) (mx_nonneg s) (mx_le m mb.2) (mx_le t tb.2) (mx_le h hb.2) (mx_le q qb.2) (mx_le i ib.2) (mx_le s sb.2)) as e w2 ⟨rfl, b2⟩
    have z2 : w1.heap.size ≤ w2.heap.size := b2.size
    have B2 : Below w1.heap.size w1 w2 := b2
    have BB := BB.trans (B2.mono (by omega))
    clear b2 B2
    go_wp2_with fail
    go_ret2
    exact ⟨rfl, BB⟩

set_option maxHeartbeats 3200000 in
theorem rready_any (m t h q i s : Int) (w : World) (mb : -9223372036854775808 ≤ m ∧ m ≤ 9223372036854775807) (tb : -9223372036854775808 ≤ t ∧ t ≤ 9223372036854775807) (hb : -9223372036854775808 ≤ h ∧ h ≤ 9223372036854775807) (qb : -9223372036854775808 ≤ q ∧ q ≤ 9223372036854775807) (ib : -9223372036854775808 ≤ i ∧ i ≤ 9223372036854775807) (sb : -9223372036854775808 ≤ s ∧ s ≤ 9223372036854775807) : Calls Try.prog 27 #[.int .i64 m, .int .i64 t, .int .i64 h, .int .i64 q, .int .i64 i, .int .i64 s] w fun e w' => e = .returned (.tuple #[.int .i64 (rdN m t h q i s), .bool (rdB m t h q i s)]) ∧ Below w.heap.size w w' := by
  have f0 : Value.int .i64 (if 0 < m then m else 0) = .int .i64 (mx m) := by rw [mx_if]
  have f1 : Value.int .i64 (if 0 < t then t else 0) = .int .i64 (mx t) := by rw [mx_if]
  have f2 : Value.int .i64 (if 0 < h then h else 0) = .int .i64 (mx h) := by rw [mx_if]
  have f3 : Value.int .i64 (if 0 < i then i else 0) = .int .i64 (mx i) := by rw [mx_if]
  have f4 : Value.int .i64 (if 0 < s then s else 0) = .int .i64 (mx s) := by rw [mx_if]
  have f5 : Value.int .i64 (if q < mx h then q else mx h) = .int .i64 (mn (mx h) q) := by rw [mn_if]
  have n0 := mx_nonneg m
  have n1 := mx_nonneg t
  have n2 := mx_nonneg h
  have n3 := mx_nonneg i
  have n4 := mx_nonneg s
  by_cases k0 : q ≤ 0
  · have d0 : decide (q ≤ 0) = true := decide_eq_true k0
    have e1 : rdN m t h q i s = (if q ≤ 0 then 0 else mn (mx h) q) := by unfold rdN L6 leftV mn; unfold mx at *; repeat' split; all_goals omega
    have e2 : rdB m t h q i s = true := by
      unfold rdB; apply decide_eq_true; unfold L6 leftV; unfold mx at *; repeat' split; all_goals omega
    rw [e1, e2]; clear e1 e2
    go_enter Try.func27, Try.ntmps27
    go_wp2
    go_ret2
    refine ⟨?_, Below.refl _ _⟩
    first | rfl | exact ret_pair (by unfold mn; omega)
  · have d0 : decide (q ≤ 0) = false := decide_eq_false k0
    by_cases k1 : 0 < mx m
    · have d1 : decide (0 < mx m) = true := decide_eq_true k1
      by_cases k2 : mx m ≤ mx h
      · have d2 : decide (mx m ≤ mx h) = true := decide_eq_true k2
        have e1 : rdN m t h q i s = (if q ≤ 0 then 0 else mn (mx h) q) := by unfold rdN L6 leftV mn; unfold mx at *; repeat' split; all_goals omega
        have e2 : rdB m t h q i s = true := by
          unfold rdB; apply decide_eq_true; unfold L6 leftV; unfold mx at *; repeat' split; all_goals omega
        rw [e1, e2]; clear e1 e2
        go_enter Try.func27, Try.ntmps27
        go_wp2
        go_ret2
        refine ⟨?_, Below.refl _ _⟩
        first | rfl | exact ret_pair (by unfold mn; omega)
      · have d2 : decide (mx m ≤ mx h) = false := decide_eq_false k2
        by_cases k3 : q ≤ mx h
        · have d3 : decide (q ≤ mx h) = true := decide_eq_true k3
          have e1 : rdN m t h q i s = (if q ≤ 0 then 0 else mn (mx h) q) := by unfold rdN L6 leftV mn; unfold mx at *; repeat' split; all_goals omega
          have e2 : rdB m t h q i s = true := by
            unfold rdB; apply decide_eq_true; unfold L6 leftV; unfold mx at *; repeat' split; all_goals omega
          rw [e1, e2]; clear e1 e2
          go_enter Try.func27, Try.ntmps27
          go_wp2
          go_ret2
          refine ⟨?_, Below.refl _ _⟩
          first | rfl | exact ret_pair (by unfold mn; omega)
        · have d3 : decide (q ≤ mx h) = false := decide_eq_false k3
          by_cases k4 : 0 < mx t
          · have d4 : decide (0 < mx t) = true := decide_eq_true k4
            by_cases k5 : 0 < mx h
            · have d5 : decide (0 < mx h) = true := decide_eq_true k5
              by_cases k6 : mx t ≤ mx i
              · have d6 : decide (mx t ≤ mx i) = true := decide_eq_true k6
                have e1 : rdN m t h q i s = (if q ≤ 0 then 0 else mn (mx h) q) := by unfold rdN L6 leftV mn; unfold mx at *; repeat' split; all_goals omega
                have e2 : rdB m t h q i s = true := by
                  unfold rdB; apply decide_eq_true; unfold L6 leftV; unfold mx at *; repeat' split; all_goals omega
                rw [e1, e2]; clear e1 e2
                go_enter Try.func27, Try.ntmps27
                go_wp2
                go_ret2
                refine ⟨?_, Below.refl _ _⟩
                first | rfl | exact ret_pair (by unfold mn; omega)
              · have d6 : decide (mx t ≤ mx i) = false := decide_eq_false k6
                have e1 : rdN m t h q i s = 0 := by unfold rdN L6 leftV mn; unfold mx at *; repeat' split; all_goals omega
                have e2 : rdB m t h q i s = false := by
                  unfold rdB; apply decide_eq_false; unfold L6 leftV; unfold mx at *; repeat' split; all_goals omega
                rw [e1, e2]; clear e1 e2
                go_enter Try.func27, Try.ntmps27
                go_wp2
                go_ret2
                refine ⟨?_, Below.refl _ _⟩
                first | rfl | exact ret_pair (by unfold mn; omega)
            · have d5 : decide (0 < mx h) = false := decide_eq_false k5
              have e1 : rdN m t h q i s = 0 := by unfold rdN L6 leftV mn; unfold mx at *; repeat' split; all_goals omega
              have e2 : rdB m t h q i s = false := by
                unfold rdB; apply decide_eq_false; unfold L6 leftV; unfold mx at *; repeat' split; all_goals omega
              rw [e1, e2]; clear e1 e2
              go_enter Try.func27, Try.ntmps27
              go_wp2
              go_ret2
              refine ⟨?_, Below.refl _ _⟩
              first | rfl | exact ret_pair (by unfold mn; omega)
          · have d4 : decide (0 < mx t) = false := decide_eq_false k4
            have e1 : rdN m t h q i s = 0 := by unfold rdN L6 leftV mn; unfold mx at *; repeat' split; all_goals omega
            have e2 : rdB m t h q i s = false := by
              unfold rdB; apply decide_eq_false; unfold L6 leftV; unfold mx at *; repeat' split; all_goals omega
            rw [e1, e2]; clear e1 e2
            go_enter Try.func27, Try.ntmps27
            go_wp2
            go_ret2
            refine ⟨?_, Below.refl _ _⟩
            first | rfl | exact ret_pair (by unfold mn; omega)
    · have d1 : decide (0 < mx m) = false := decide_eq_false k1
      by_cases k2 : mx t = 0
      · have d2 : decide (mx t = 0) = true := decide_eq_true k2
        have e1 : rdN m t h q i s = (if q ≤ 0 then 0 else mn (mx h) q) := by unfold rdN L6 leftV mn; unfold mx at *; repeat' split; all_goals omega
        have e2 : rdB m t h q i s = true := by
          unfold rdB; apply decide_eq_true; unfold L6 leftV; unfold mx at *; repeat' split; all_goals omega
        rw [e1, e2]; clear e1 e2
        go_enter Try.func27, Try.ntmps27
        go_wp2
        go_ret2
        refine ⟨?_, Below.refl _ _⟩
        first | rfl | exact ret_pair (by unfold mn; omega)
      · have d2 : decide (mx t = 0) = false := decide_eq_false k2
        by_cases k3 : 0 < mx h
        · have d3 : decide (0 < mx h) = true := decide_eq_true k3
          have e1 : rdN m t h q i s = (if q ≤ 0 then 0 else mn (mx h) q) := by unfold rdN L6 leftV mn; unfold mx at *; repeat' split; all_goals omega
          have e2 : rdB m t h q i s = true := by
            unfold rdB; apply decide_eq_true; unfold L6 leftV; unfold mx at *; repeat' split; all_goals omega
          rw [e1, e2]; clear e1 e2
          go_enter Try.func27, Try.ntmps27
          go_wp2
          go_ret2
          refine ⟨?_, Below.refl _ _⟩
          first | rfl | exact ret_pair (by unfold mn; omega)
        · have d3 : decide (0 < mx h) = false := decide_eq_false k3
          by_cases k4 : mx t ≤ mx s
          · have d4 : decide (mx t ≤ mx s) = true := decide_eq_true k4
            have e1 : rdN m t h q i s = (if q ≤ 0 then 0 else mn (mx h) q) := by unfold rdN L6 leftV mn; unfold mx at *; repeat' split; all_goals omega
            have e2 : rdB m t h q i s = true := by
              unfold rdB; apply decide_eq_true; unfold L6 leftV; unfold mx at *; repeat' split; all_goals omega
            rw [e1, e2]; clear e1 e2
            go_enter Try.func27, Try.ntmps27
            go_wp2
            go_ret2
            refine ⟨?_, Below.refl _ _⟩
            first | rfl | exact ret_pair (by unfold mn; omega)
          · have d4 : decide (mx t ≤ mx s) = false := decide_eq_false k4
            have e1 : rdN m t h q i s = 0 := by unfold rdN L6 leftV mn; unfold mx at *; repeat' split; all_goals omega
            have e2 : rdB m t h q i s = false := by
              unfold rdB; apply decide_eq_false; unfold L6 leftV; unfold mx at *; repeat' split; all_goals omega
            rw [e1, e2]; clear e1 e2
            go_enter Try.func27, Try.ntmps27
            go_wp2
            go_ret2
            refine ⟨?_, Below.refl _ _⟩
            first | rfl | exact ret_pair (by unfold mn; omega)

theorem wt_done (m t h q i s : Int) (hl : L6 m t h q i s = 0) : wtN m t h q i s = 0 ∧ wtB m t h q i s = true := by
  unfold wtN wtB; rw [hl]; exact ⟨rfl, rfl⟩
theorem wt_never (m t h q i s : Int) (hl : L6 m t h q i s ≠ 0) (h1 : t ≤ 0 ∨ (0 < m ∧ h ≤ 0)) : wtN m t h q i s = 0 ∧ wtB m t h q i s = false := by
  have : L6 m t h q i s = -1 := by
    unfold L6 leftV at *; unfold mx at *
    split at hl
    · omega
    · rw [if_neg (by assumption)]
      split at hl
      · split at hl
        · omega
        · split at hl <;> omega
      · rw [if_neg (by assumption)]
        split at hl
        · omega
        · rw [if_neg (by assumption)]
          split
          · rfl
          · rw [if_pos (by omega)]
  unfold wtN wtB; rw [this]; exact ⟨rfl, rfl⟩
theorem wt_gap (m t h q i s : Int) (hl : L6 m t h q i s ≠ 0) (h0 : 0 < t) (h1 : 0 < m) (h2 : 0 < h) : wtN m t h q i s = t - mx i ∧ wtB m t h q i s = true := by
  have : L6 m t h q i s = t - mx i ∧ L6 m t h q i s ≠ -1 := by
    unfold L6 leftV at *; unfold mx at *
    split at hl
    · omega
    · rw [if_neg (by assumption)]
      rw [if_neg (by omega)] at hl ⊢
      split at hl
      · omega
      · rw [if_neg (by assumption), if_neg (by omega), if_neg (by omega)]
        rw [if_neg (by omega), if_neg (by omega)] at hl
        omega
  unfold wtN wtB; rw [if_neg this.2]; exact ⟨this.1, decide_eq_true this.2⟩
theorem wt_time (m t h q i s : Int) (hl : L6 m t h q i s ≠ 0) (h0 : 0 < t) (h1 : ¬ 0 < m) : wtN m t h q i s = t - mx s ∧ wtB m t h q i s = true := by
  have : L6 m t h q i s = t - mx s ∧ L6 m t h q i s ≠ -1 := by
    unfold L6 leftV at *; unfold mx at *
    split at hl
    · omega
    · rw [if_neg (by assumption)]
      rw [if_pos (by omega)] at hl ⊢
      rw [if_neg (by omega)] at hl ⊢
      split at hl
      · omega
      · rw [if_neg (by assumption)]
        omega
  unfold wtN wtB; rw [if_neg this.2]; exact ⟨this.1, decide_eq_true this.2⟩

theorem rwait_any (m t h q i s : Int) (w : World) (mb : -9223372036854775808 ≤ m ∧ m ≤ 9223372036854775807) (tb : -9223372036854775808 ≤ t ∧ t ≤ 9223372036854775807) (hb : -9223372036854775808 ≤ h ∧ h ≤ 9223372036854775807) (qb : -9223372036854775808 ≤ q ∧ q ≤ 9223372036854775807) (ib : -9223372036854775808 ≤ i ∧ i ≤ 9223372036854775807) (sb : -9223372036854775808 ≤ s ∧ s ≤ 9223372036854775807) : Calls Try.prog 29 #[.int .i64 m, .int .i64 t, .int .i64 h, .int .i64 q, .int .i64 i, .int .i64 s] w fun e w' => e = .returned (.tuple #[.int .i64 (wtN m t h q i s), .bool (wtB m t h q i s)]) ∧ Below w.heap.size w w' := by
  have f3 : Value.int .i64 (if 0 < i then i else 0) = .int .i64 (mx i) := by rw [mx_if]
  have f4 : Value.int .i64 (if 0 < s then s else 0) = .int .i64 (mx s) := by rw [mx_if]
  have n3 := mx_nonneg i
  have n4 := mx_nonneg s
  have l3 := mx_le i ib.2
  have l4 := mx_le s sb.2
  by_cases hl : L6 m t h q i s = 0
  · obtain ⟨e1, e2⟩ := wt_done m t h q i s hl
    have e3 : rdB m t h q i s = true := decide_eq_true hl
    rw [e1, e2]; clear e1 e2 hl
    go_enter Try.func29, Try.ntmps29
    go_wp2_with fail
    go_call (rready_any m t h q i s _ mb tb hb qb ib sb) as e w1 ⟨rfl, b1⟩
    go_wp2_with fail
    go_ret2
    refine ⟨?_, b1⟩
    first | rfl | exact ret_pair (by omega)
  have e3 : rdB m t h q i s = false := decide_eq_false hl
  by_cases k0 : t ≤ 0
  · obtain ⟨e1, e2⟩ := wt_never m t h q i s hl (.inl k0)
    rw [e1, e2]; clear e1 e2 hl
    go_enter Try.func29, Try.ntmps29
    go_wp2_with fail
    go_call (rready_any m t h q i s _ mb tb hb qb ib sb) as e w1 ⟨rfl, b1⟩
    go_wp2_with fail
    go_ret2
    refine ⟨?_, b1⟩
    first | rfl | exact ret_pair (by omega)
  by_cases k1 : 0 < m
  · by_cases k2 : h ≤ 0
    · obtain ⟨e1, e2⟩ := wt_never m t h q i s hl (.inr ⟨k1, k2⟩)
      rw [e1, e2]; clear e1 e2 hl
      go_enter Try.func29, Try.ntmps29
      go_wp2_with fail
      go_call (rready_any m t h q i s _ mb tb hb qb ib sb) as e w1 ⟨rfl, b1⟩
      go_wp2_with fail
      go_ret2
      refine ⟨?_, b1⟩
      first | rfl | exact ret_pair (by omega)
    · obtain ⟨e1, e2⟩ := wt_gap m t h q i s hl (by omega) k1 (by omega)
      rw [e1, e2]; clear e1 e2 hl
      go_enter Try.func29, Try.ntmps29
      go_wp2_with fail
      go_call (rready_any m t h q i s _ mb tb hb qb ib sb) as e w1 ⟨rfl, b1⟩
      go_wp2_with fail
      go_ret2
      refine ⟨?_, b1⟩
      first | rfl | exact ret_pair (by omega)
  · obtain ⟨e1, e2⟩ := wt_time m t h q i s hl (by omega) k1
    rw [e1, e2]; clear e1 e2 hl
    go_enter Try.func29, Try.ntmps29
    go_wp2_with fail
    go_call (rready_any m t h q i s _ mb tb hb qb ib sb) as e w1 ⟨rfl, b1⟩
    go_wp2_with fail
    go_ret2
    refine ⟨?_, b1⟩
    first | rfl | exact ret_pair (by omega)
end Go.Proofs.Ytamnnggijmmogaa
