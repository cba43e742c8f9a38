/- The walks of package raw and of its reference: what each function returns, for every input; no condition. -/
import Derived.Test.YtamnnggijmmogaaFrame
import Derived.Test.YtamnnggijmmogaaKit
import Derived.Laws.EntriesVeiled
namespace Go.Proofs.Ytamnnggijmmogaa
set_option linter.all false
open Go.RowKit

def mx (n : Int) : Int := max 0 n
theorem mx_nonneg (n : Int) : 0 ≤ mx n := by unfold mx; omega
theorem mx_le (n : Int) (h : n ≤ 9223372036854775807) : mx n ≤ 9223372036854775807 := by unfold mx; omega

/-- Ticks left, of six numbers not below 0. -/
def leftV (m t h q i s : Int) : Int :=
  if q = 0 then 0
  else if m = 0 then (if t = 0 then 0 else if 0 < h then 0 else mx (t - s))
  else if m ≤ h ∨ q ≤ h then 0 else if t = 0 then -1 else if h = 0 then -1 else mx (t - i)

theorem one_0 (w : World) : Calls Try.prog 61 #[.int .i64 0] w fun e w' => e = .returned (.int .i64 0) ∧ w = w' := by
  go_enter Try.func61, Try.ntmps61
  go_wp2
  go_ret
  exact ⟨rfl, rfl⟩
theorem one_1 (n : Int) (hn : 0 < n) (w : World) : Calls Try.prog 61 #[.int .i64 n] w fun e w' => e = .returned (.int .i64 1) ∧ w = w' := by
  go_enter Try.func61, Try.ntmps61
  go_wp2
  all_goals (go_ret; exact ⟨ret_int (by omega), rfl⟩)

theorem sorts_any (w : World) : Calls Try.prog 60 #[] w fun e w' =>
    e = .returned (.agg #[(.func (.func 62) #[] #[]), (.func (.func 63) #[] #[]), (.func (.func 64) #[] #[]), (.func (.func 65) #[] #[])]) ∧ Below w.heap.size w w' := by
  go_enter Try.func60, Try.ntmps60
  go_wp2
  go_returns
  exact ⟨rfl, by go_grown⟩

theorem polling_any (m t h q i s : Int) (w : World) : Calls Try.prog 62 #[.agg #[.int .i64 m, .int .i64 t, .int .i64 h, .int .i64 q, .int .i64 i, .int .i64 s]] w fun e w' => e = .returned (.int .i64 0) ∧ Below w.heap.size w w' := by
  go_enter Try.func62, Try.ntmps62
  go_wp2
  go_ret
  exact ⟨rfl, by go_grown⟩

def timedV (t h s : Int) : Int := if 0 < h then 0 else mx (t - s)
theorem timed_any (m t h q i s : Int) (w : World) (m0 : 0 ≤ m) (t0 : 0 ≤ t) (h0 : 0 ≤ h) (q0 : 0 ≤ q) (i0 : 0 ≤ i) (s0 : 0 ≤ s) (m1 : m ≤ 9223372036854775807) (t1 : t ≤ 9223372036854775807) (h1 : h ≤ 9223372036854775807) (q1 : q ≤ 9223372036854775807) (i1 : i ≤ 9223372036854775807) (s1 : s ≤ 9223372036854775807) : Calls Try.prog 63 #[.agg #[.int .i64 m, .int .i64 t, .int .i64 h, .int .i64 q, .int .i64 i, .int .i64 s]] w fun e w' => e = .returned (.int .i64 (timedV t h s)) ∧ Below w.heap.size w w' := by
  unfold timedV mx
  by_cases hh : 0 < h
  · rw [if_pos hh]
    go_enter Try.func63, Try.ntmps63
    go_wp2
    go_ret
    exact ⟨rfl, by go_grown⟩
  · rw [if_neg hh]
    go_enter Try.func63, Try.ntmps63
    go_wp2
    all_goals (go_ret; exact ⟨ret_int (by omega), by go_grown⟩)

def enB (m h q : Int) : Bool := decide (m ≤ h ∨ q ≤ h)
theorem enough_any (m t h q i s : Int) (w : World) : Calls Try.prog 66 #[.agg #[.int .i64 m, .int .i64 t, .int .i64 h, .int .i64 q, .int .i64 i, .int .i64 s]] w fun e w' => e = .returned (.bool (enB m h q)) ∧ Below w.heap.size w w' := by
  unfold enB
  by_cases h1 : m ≤ h
  · rw [decide_eq_true (by omega)]
    go_enter Try.func66, Try.ntmps66
    go_wp2
    go_ret
    exact ⟨rfl, by go_grown⟩
  · by_cases h2 : q ≤ h
    · rw [decide_eq_true (by omega)]
      go_enter Try.func66, Try.ntmps66
      go_wp2
      go_ret
      exact ⟨ret_bool (by simp; try omega), by go_grown⟩
    · rw [decide_eq_false (by omega)]
      go_enter Try.func66, Try.ntmps66
      go_wp2
      go_ret
      exact ⟨ret_bool (by simp; try omega), by go_grown⟩

def blockV (m h q : Int) : Int := if m ≤ h ∨ q ≤ h then 0 else -1
theorem blocking_any (m t h q i s : Int) (w : World) : Calls Try.prog 64 #[.agg #[.int .i64 m, .int .i64 t, .int .i64 h, .int .i64 q, .int .i64 i, .int .i64 s]] w fun e w' => e = .returned (.int .i64 (blockV m h q)) ∧ Below w.heap.size w w' := by
  unfold blockV
  by_cases hh : m ≤ h ∨ q ≤ h
  · have hb : enB m h q = true := decide_eq_true hh
    rw [if_pos hh]; clear hh
    go_enter Try.func64, Try.ntmps64
    go_wp2_with fail
    go_call (enough_any m t h q i s) as e w1 ⟨rfl, b1⟩
    have BB := ((Below.refl _ _).alloc (Nat.le_refl _) _).trans (b1.mono (by go_size))
    go_wp2_with fail
    go_ret
    exact ⟨rfl, BB⟩
  · have hb : enB m h q = false := decide_eq_false hh
    rw [if_neg hh]; clear hh
    go_enter Try.func64, Try.ntmps64
    go_wp2_with fail
    go_call (enough_any m t h q i s) as e w1 ⟨rfl, b1⟩
    have BB := ((Below.refl _ _).alloc (Nat.le_refl _) _).trans (b1.mono (by go_size))
    go_wp2_with fail
    go_ret
    exact ⟨rfl, BB⟩

def gapsV (m t h q i : Int) : Int := if m ≤ h ∨ q ≤ h then 0 else if h = 0 then -1 else mx (t - i)
theorem gaps_any (m t h q i s : Int) (w : World) (m0 : 0 ≤ m) (t0 : 0 ≤ t) (h0 : 0 ≤ h) (q0 : 0 ≤ q) (i0 : 0 ≤ i) (s0 : 0 ≤ s) (m1 : m ≤ 9223372036854775807) (t1 : t ≤ 9223372036854775807) (h1 : h ≤ 9223372036854775807) (q1 : q ≤ 9223372036854775807) (i1 : i ≤ 9223372036854775807) (s1 : s ≤ 9223372036854775807) : Calls Try.prog 65 #[.agg #[.int .i64 m, .int .i64 t, .int .i64 h, .int .i64 q, .int .i64 i, .int .i64 s]] w fun e w' => e = .returned (.int .i64 (gapsV m t h q i)) ∧ Below w.heap.size w w' := by
  unfold gapsV mx
  by_cases hh : m ≤ h ∨ q ≤ h
  · have hb : enB m h q = true := decide_eq_true hh
    rw [if_pos hh]; clear hh
    go_enter Try.func65, Try.ntmps65
    go_wp2_with fail
    go_call (enough_any m t h q i s) as e w1 ⟨rfl, b1⟩
    have BB := ((Below.refl _ _).alloc (Nat.le_refl _) _).trans (b1.mono (by go_size))
    go_wp2_with fail
    go_ret
    exact ⟨rfl, BB⟩
  · have hb : enB m h q = false := decide_eq_false hh
    rw [if_neg hh]; clear hh
    by_cases hz : h = 0
    all_goals
      first | rw [if_pos hz] | rw [if_neg hz]
      first | (have hz' : (h == 0) = true := beq_iff_eq.2 hz) | (have hz' : (h == 0) = false := beq_eq_false_iff_ne.2 hz)
      clear hz
      go_enter Try.func65, Try.ntmps65
      go_wp2_with fail
      go_call (enough_any m t h q i s) as e w1 ⟨rfl, b1⟩
      have c1 := cellv b1 (b := w.heap.size) (o := 1) (v := .int .i64 t) (by go_size) (by simp [go_sem])
      have c2 := cellv b1 (b := w.heap.size) (o := 2) (v := .int .i64 h) (by go_size) (by simp [go_sem])
      have c4 := cellv b1 (b := w.heap.size) (o := 4) (v := .int .i64 i) (by go_size) (by simp [go_sem])
      have BB := ((Below.refl _ _).alloc (Nat.le_refl _) _).trans (b1.mono (by go_size))
      clear b1
      go_wp2_with fail
      all_goals (go_ret; exact ⟨ret_int (by omega), BB⟩)
end Go.Proofs.Ytamnnggijmmogaa
