/- The walks of package raw and of its reference: what each function returns, for every input; no condition · The walks of package raw, continued: how many ticks are left; for every input, no condition · The walks of package raw, continued: Ready and Wait, and their reference; for every input, no condition · Layer 16: what goes out, time, what is thrown away; for all disciplines; no condition but their size · Layer 16: what a program writes, a program's read; for all disciplines; no condition but their size · Layer 8: how a terminal is set at first; no condition · Layer 16: a discipline of the call's own; for all disciplines; no condition but their size · Layer 16's own examples: they hold; no condition. -/
import Derived.Test.YtnfcdbjckdhieaaGreatPkA
import Derived.Laws.EntriesVeiled
import Derived.Test.YtnfcdbjckdhieaaGreatPkF
import Derived.Test.YtnfcdbjckdhieaaGreatPkD
namespace Go.Proofs.YtnfcdbjckdhieaaGreat
set_option linter.all false
open Go.RowKit

def mx (n : Int) : Int := max 0 n
theorem mx_nonneg (n : Int) : 0 ≤ mx n := by unfold mx; omega
theorem mx_le (n : Int) (h : n ≤ 9223372036854775807) : mx n ≤ 9223372036854775807 := by unfold mx; omega

/-- Ticks left, of six numbers not below 0. -/
def leftV (m t h q i s : Int) : Int :=
  if q = 0 then 0
  else if m = 0 then (if t = 0 then 0 else if 0 < h then 0 else mx (t - s))
  else if m ≤ h ∨ q ≤ h then 0 else if t = 0 then -1 else if h = 0 then -1 else mx (t - i)

theorem one_0 (w : World) : Calls Tryz.prog 139 #[.int .i64 0] w fun e w' => e = .returned (.int .i64 0) ∧ w = w' := by
  go_enter Tryz.func139, Tryz.ntmps139
  go_wp2
  go_ret
  exact ⟨rfl, rfl⟩
theorem one_1 (n : Int) (hn : 0 < n) (w : World) : Calls Tryz.prog 139 #[.int .i64 n] w fun e w' => e = .returned (.int .i64 1) ∧ w = w' := by
  go_enter Tryz.func139, Tryz.ntmps139
  go_wp2
  all_goals (go_ret; exact ⟨ret_int (by omega), rfl⟩)

theorem sorts_any (w : World) : Calls Tryz.prog 138 #[] w fun e w' =>
    e = .returned (.agg #[(.func (.func 168) #[] #[]), (.func (.func 169) #[] #[]), (.func (.func 170) #[] #[]), (.func (.func 171) #[] #[])]) ∧ Below w.heap.size w w' := by
  go_enter Tryz.func138, Tryz.ntmps138
  go_wp2
  go_returns
  exact ⟨rfl, by go_grown⟩

theorem polling_any (m t h q i s : Int) (w : World) : Calls Tryz.prog 168 #[.agg #[.int .i64 m, .int .i64 t, .int .i64 h, .int .i64 q, .int .i64 i, .int .i64 s]] w fun e w' => e = .returned (.int .i64 0) ∧ Below w.heap.size w w' := by
  go_enter Tryz.func168, Tryz.ntmps168
  go_wp2
  go_ret
  exact ⟨rfl, by go_grown⟩

def timedV (t h s : Int) : Int := if 0 < h then 0 else mx (t - s)
theorem timed_any (m t h q i s : Int) (w : World) (m0 : 0 ≤ m) (t0 : 0 ≤ t) (h0 : 0 ≤ h) (q0 : 0 ≤ q) (i0 : 0 ≤ i) (s0 : 0 ≤ s) (m1 : m ≤ 9223372036854775807) (t1 : t ≤ 9223372036854775807) (h1 : h ≤ 9223372036854775807) (q1 : q ≤ 9223372036854775807) (i1 : i ≤ 9223372036854775807) (s1 : s ≤ 9223372036854775807) : Calls Tryz.prog 169 #[.agg #[.int .i64 m, .int .i64 t, .int .i64 h, .int .i64 q, .int .i64 i, .int .i64 s]] w fun e w' => e = .returned (.int .i64 (timedV t h s)) ∧ Below w.heap.size w w' := by
  unfold timedV mx
  by_cases hh : 0 < h
  · rw [if_pos hh]
    go_enter Tryz.func169, Tryz.ntmps169
    go_wp2
    go_ret
    exact ⟨rfl, by go_grown⟩
  · rw [if_neg hh]
    go_enter Tryz.func169, Tryz.ntmps169
    go_wp2
    all_goals (go_ret; exact ⟨ret_int (by omega), by go_grown⟩)

def enB (m h q : Int) : Bool := decide (m ≤ h ∨ q ≤ h)
theorem enough_any (m t h q i s : Int) (w : World) : Calls Tryz.prog 195 #[.agg #[.int .i64 m, .int .i64 t, .int .i64 h, .int .i64 q, .int .i64 i, .int .i64 s]] w fun e w' => e = .returned (.bool (enB m h q)) ∧ Below w.heap.size w w' := by
  unfold enB
  by_cases h1 : m ≤ h
  · rw [decide_eq_true (by omega)]
    go_enter Tryz.func195, Tryz.ntmps195
    go_wp2
    go_ret
    exact ⟨rfl, by go_grown⟩
  · by_cases h2 : q ≤ h
    · rw [decide_eq_true (by omega)]
      go_enter Tryz.func195, Tryz.ntmps195
      go_wp2
      go_ret
      exact ⟨ret_bool (by simp; try omega), by go_grown⟩
    · rw [decide_eq_false (by omega)]
      go_enter Tryz.func195, Tryz.ntmps195
      go_wp2
      go_ret
      exact ⟨ret_bool (by simp; try omega), by go_grown⟩

def blockV (m h q : Int) : Int := if m ≤ h ∨ q ≤ h then 0 else -1
theorem blocking_any (m t h q i s : Int) (w : World) : Calls Tryz.prog 170 #[.agg #[.int .i64 m, .int .i64 t, .int .i64 h, .int .i64 q, .int .i64 i, .int .i64 s]] w fun e w' => e = .returned (.int .i64 (blockV m h q)) ∧ Below w.heap.size w w' := by
  unfold blockV
  by_cases hh : m ≤ h ∨ q ≤ h
  · have hb : enB m h q = true := decide_eq_true hh
    rw [if_pos hh]; clear hh
    go_enter Tryz.func170, Tryz.ntmps170
    go_wp2_with fail
    go_call (enough_any m t h q i s) as e w1 ⟨rfl, b1⟩
    have BB := ((Below.refl _ _).alloc (Nat.le_refl _) _).trans (b1.mono (by go_size))
    go_wp2_with fail
    go_ret
    exact ⟨rfl, BB⟩
  · have hb : enB m h q = false := decide_eq_false hh
    rw [if_neg hh]; clear hh
    go_enter Tryz.func170, Tryz.ntmps170
    go_wp2_with fail
    go_call (enough_any m t h q i s) as e w1 ⟨rfl, b1⟩
    have BB := ((Below.refl _ _).alloc (Nat.le_refl _) _).trans (b1.mono (by go_size))
    go_wp2_with fail
    go_ret
    exact ⟨rfl, BB⟩

def gapsV (m t h q i : Int) : Int := if m ≤ h ∨ q ≤ h then 0 else if h = 0 then -1 else mx (t - i)
theorem gaps_any (m t h q i s : Int) (w : World) (m0 : 0 ≤ m) (t0 : 0 ≤ t) (h0 : 0 ≤ h) (q0 : 0 ≤ q) (i0 : 0 ≤ i) (s0 : 0 ≤ s) (m1 : m ≤ 9223372036854775807) (t1 : t ≤ 9223372036854775807) (h1 : h ≤ 9223372036854775807) (q1 : q ≤ 9223372036854775807) (i1 : i ≤ 9223372036854775807) (s1 : s ≤ 9223372036854775807) : Calls Tryz.prog 171 #[.agg #[.int .i64 m, .int .i64 t, .int .i64 h, .int .i64 q, .int .i64 i, .int .i64 s]] w fun e w' => e = .returned (.int .i64 (gapsV m t h q i)) ∧ Below w.heap.size w w' := by
  unfold gapsV mx
  by_cases hh : m ≤ h ∨ q ≤ h
  · have hb : enB m h q = true := decide_eq_true hh
    rw [if_pos hh]; clear hh
    go_enter Tryz.func171, Tryz.ntmps171
    go_wp2_with fail
    go_call (enough_any m t h q i s) as e w1 ⟨rfl, b1⟩
    have BB := ((Below.refl _ _).alloc (Nat.le_refl _) _).trans (b1.mono (by go_size))
    go_wp2_with fail
    go_ret
    exact ⟨rfl, BB⟩
  · have hb : enB m h q = false := decide_eq_false hh
    rw [if_neg hh]; clear hh
    by_cases hz : h = 0
    all_goals
      first | rw [if_pos hz] | rw [if_neg hz]
      first | (have hz' : (h == 0) = true := beq_iff_eq.2 hz) | (have hz' : (h == 0) = false := beq_eq_false_iff_ne.2 hz)
      clear hz
      go_enter Tryz.func171, Tryz.ntmps171
      go_wp2_with fail
      go_call (enough_any m t h q i s) as e w1 ⟨rfl, b1⟩
      have c1 := cellv b1 (b := w.heap.size) (o := 1) (v := .int .i64 t) (by go_size) (by simp [go_sem])
      have c2 := cellv b1 (b := w.heap.size) (o := 2) (v := .int .i64 h) (by go_size) (by simp [go_sem])
      have c4 := cellv b1 (b := w.heap.size) (o := 4) (v := .int .i64 i) (by go_size) (by simp [go_sem])
      have BB := ((Below.refl _ _).alloc (Nat.le_refl _) _).trans (b1.mono (by go_size))
      clear b1
      go_wp2_with fail
      all_goals (go_ret; exact ⟨ret_int (by omega), BB⟩)
end Go.Proofs.YtnfcdbjckdhieaaGreat

namespace Go.Proofs.YtnfcdbjckdhieaaGreat
set_option linter.all false
open Go.RowKit

set_option maxRecDepth 100000 in
set_option maxHeartbeats 3200000 in
theorem left_00 (m t h q i s : Int) (w : World) (m0 : 0 ≤ m) (t0 : 0 ≤ t) (h0 : 0 ≤ h) (q0 : 0 ≤ q) (i0 : 0 ≤ i) (s0 : 0 ≤ s) (m1 : m ≤ 9223372036854775807) (t1 : t ≤ 9223372036854775807) (h1 : h ≤ 9223372036854775807) (q1 : q ≤ 9223372036854775807) (i1 : i ≤ 9223372036854775807) (s1 : s ≤ 9223372036854775807) (hq : 0 < q) : Calls Tryz.prog 103 #[.agg #[.int .i64 0, .int .i64 0, .int .i64 h, .int .i64 q, .int .i64 i, .int .i64 s]] w fun e w' => e = .returned (.int .i64 (leftV 0 0 h q i s)) ∧ Below w.heap.size w w' := by
  have hq' : (q == 0) = false := beq_eq_false_iff_ne.2 (by omega)
  have hv : leftV 0 0 h q i s = 0 := by
    unfold leftV
    simp only [show ¬ q = 0 from by omega, if_false, if_true]
  rw [hv]; clear hv
  have ja : ∀ w, (Instr.index 198 (.agg #[(.func (.func 168) #[] #[]), (.func (.func 169) #[] #[]), (.func (.func 170) #[] #[]), (.func (.func 171) #[] #[])]) (.int .i64 0)).run Tryz.prog w = .ok (.agg #[(.func (.func 168) #[] #[]), (.func (.func 169) #[] #[])]) w := fun _ => by kernel_rfl
  have jb : ∀ w, (Instr.index 197 (.agg #[(.func (.func 168) #[] #[]), (.func (.func 169) #[] #[])]) (.int .i64 0)).run Tryz.prog w = .ok (.func (.func 168) #[] #[]) w := fun _ => by kernel_rfl
  go_enter Tryz.func103, Tryz.ntmps103
  go_wp2_with fail
  go_region_held3 (fun w' => w'.cell? ⟨w.heap.size, 0, none⟩ = some (.int .i64 0) ∧ w'.cell? ⟨w.heap.size, 1, none⟩ = some (.int .i64 0) ∧ w'.cell? ⟨w.heap.size, 2, none⟩ = some (.int .i64 h) ∧ w'.cell? ⟨w.heap.size, 3, none⟩ = some (.int .i64 q) ∧ w'.cell? ⟨w.heap.size, 4, none⟩ = some (.int .i64 i) ∧ w'.cell? ⟨w.heap.size, 5, none⟩ = some (.int .i64 s) ∧ w.heap.size < w'.heap.size ∧ Below w.heap.size w w')
    ((try go_split_ands
      refine ⟨?_, ?_, ?_, ?_, ?_, ?_, ?_, ?_⟩ <;> first | (with_reducible assumption) | (refine Below.trans ?_ (b7.mono ?_) <;> first | (with_reducible assumption) | omega) | (exact cellv b7 (by omega) (by assumption)) | (have := b7.size; omega) | (simp [go_sem, *]; done) | go_grown))
    (first | (go_at_call 138; go_call (sorts_any _) as e w7 ⟨rfl, b7⟩) | (go_at_call_of 139 (Value.int .i64 0); go_call (one_0 _) as e w7 ⟨rfl, rfl⟩) | (go_at_call_of 139 (Value.int .i64 0); go_call (one_0 _) as e w7 ⟨rfl, rfl⟩) | (go_at_call 168; go_call (polling_any 0 0 h q i s _) as e w7 ⟨rfl, b7⟩))
  all_goals (go_wp2_with fail; go_ret; refine ⟨rfl, ?_⟩; (try go_split_ands); assumption)

set_option maxRecDepth 100000 in
set_option maxHeartbeats 3200000 in
theorem left_01 (m t h q i s : Int) (w : World) (m0 : 0 ≤ m) (t0 : 0 ≤ t) (h0 : 0 ≤ h) (q0 : 0 ≤ q) (i0 : 0 ≤ i) (s0 : 0 ≤ s) (m1 : m ≤ 9223372036854775807) (t1 : t ≤ 9223372036854775807) (h1 : h ≤ 9223372036854775807) (q1 : q ≤ 9223372036854775807) (i1 : i ≤ 9223372036854775807) (s1 : s ≤ 9223372036854775807) (hq : 0 < q) (ht' : 0 < t) : Calls Tryz.prog 103 #[.agg #[.int .i64 0, .int .i64 t, .int .i64 h, .int .i64 q, .int .i64 i, .int .i64 s]] w fun e w' => e = .returned (.int .i64 (leftV 0 t h q i s)) ∧ Below w.heap.size w w' := by
  have hq' : (q == 0) = false := beq_eq_false_iff_ne.2 (by omega)
  have hv : leftV 0 t h q i s = timedV t h s := by
    unfold leftV
    simp only [show ¬ q = 0 from by omega, if_false, show ¬ t = 0 from by omega, if_true, timedV]
  rw [hv]; clear hv
  have ja : ∀ w, (Instr.index 198 (.agg #[(.func (.func 168) #[] #[]), (.func (.func 169) #[] #[]), (.func (.func 170) #[] #[]), (.func (.func 171) #[] #[])]) (.int .i64 0)).run Tryz.prog w = .ok (.agg #[(.func (.func 168) #[] #[]), (.func (.func 169) #[] #[])]) w := fun _ => by kernel_rfl
  have jb : ∀ w, (Instr.index 197 (.agg #[(.func (.func 168) #[] #[]), (.func (.func 169) #[] #[])]) (.int .i64 1)).run Tryz.prog w = .ok (.func (.func 169) #[] #[]) w := fun _ => by kernel_rfl
  go_enter Tryz.func103, Tryz.ntmps103
  go_wp2_with fail
  go_region_held3 (fun w' => w'.cell? ⟨w.heap.size, 0, none⟩ = some (.int .i64 0) ∧ w'.cell? ⟨w.heap.size, 1, none⟩ = some (.int .i64 t) ∧ w'.cell? ⟨w.heap.size, 2, none⟩ = some (.int .i64 h) ∧ w'.cell? ⟨w.heap.size, 3, none⟩ = some (.int .i64 q) ∧ w'.cell? ⟨w.heap.size, 4, none⟩ = some (.int .i64 i) ∧ w'.cell? ⟨w.heap.size, 5, none⟩ = some (.int .i64 s) ∧ w.heap.size < w'.heap.size ∧ Below w.heap.size w w')
    ((try go_split_ands
      refine ⟨?_, ?_, ?_, ?_, ?_, ?_, ?_, ?_⟩ <;> first | (with_reducible assumption) | (refine Below.trans ?_ (b7.mono ?_) <;> first | (with_reducible assumption) | omega) | (exact cellv b7 (by omega) (by assumption)) | (have := b7.size; omega) | (simp [go_sem, *]; done) | go_grown))
    (first | (go_at_call 138; go_call (sorts_any _) as e w7 ⟨rfl, b7⟩) | (go_at_call_of 139 (Value.int .i64 0); go_call (one_0 _) as e w7 ⟨rfl, rfl⟩) | (go_at_call_of 139 (Value.int .i64 t); go_call (one_1 t ht' _) as e w7 ⟨rfl, rfl⟩) | (go_at_call 169; go_call (timed_any 0 t h q i s _ (by omega) t0 h0 q0 i0 s0 (by omega) t1 h1 q1 i1 s1) as e w7 ⟨rfl, b7⟩))
  all_goals (go_wp2_with fail; go_ret; refine ⟨rfl, ?_⟩; (try go_split_ands); assumption)

set_option maxRecDepth 100000 in
set_option maxHeartbeats 3200000 in
theorem left_10 (m t h q i s : Int) (w : World) (m0 : 0 ≤ m) (t0 : 0 ≤ t) (h0 : 0 ≤ h) (q0 : 0 ≤ q) (i0 : 0 ≤ i) (s0 : 0 ≤ s) (m1 : m ≤ 9223372036854775807) (t1 : t ≤ 9223372036854775807) (h1 : h ≤ 9223372036854775807) (q1 : q ≤ 9223372036854775807) (i1 : i ≤ 9223372036854775807) (s1 : s ≤ 9223372036854775807) (hq : 0 < q) (hm' : 0 < m) : Calls Tryz.prog 103 #[.agg #[.int .i64 m, .int .i64 0, .int .i64 h, .int .i64 q, .int .i64 i, .int .i64 s]] w fun e w' => e = .returned (.int .i64 (leftV m 0 h q i s)) ∧ Below w.heap.size w w' := by
  have hq' : (q == 0) = false := beq_eq_false_iff_ne.2 (by omega)
  have hv : leftV m 0 h q i s = blockV m h q := by
    unfold leftV
    simp only [show ¬ q = 0 from by omega, if_false, show ¬ m = 0 from by omega, if_true, blockV, ite_self]
  rw [hv]; clear hv
  have ja : ∀ w, (Instr.index 198 (.agg #[(.func (.func 168) #[] #[]), (.func (.func 169) #[] #[]), (.func (.func 170) #[] #[]), (.func (.func 171) #[] #[])]) (.int .i64 1)).run Tryz.prog w = .ok (.agg #[(.func (.func 170) #[] #[]), (.func (.func 171) #[] #[])]) w := fun _ => by kernel_rfl
  have jb : ∀ w, (Instr.index 197 (.agg #[(.func (.func 170) #[] #[]), (.func (.func 171) #[] #[])]) (.int .i64 0)).run Tryz.prog w = .ok (.func (.func 170) #[] #[]) w := fun _ => by kernel_rfl
  go_enter Tryz.func103, Tryz.ntmps103
  go_wp2_with fail
  go_region_held3 (fun w' => w'.cell? ⟨w.heap.size, 0, none⟩ = some (.int .i64 m) ∧ w'.cell? ⟨w.heap.size, 1, none⟩ = some (.int .i64 0) ∧ w'.cell? ⟨w.heap.size, 2, none⟩ = some (.int .i64 h) ∧ w'.cell? ⟨w.heap.size, 3, none⟩ = some (.int .i64 q) ∧ w'.cell? ⟨w.heap.size, 4, none⟩ = some (.int .i64 i) ∧ w'.cell? ⟨w.heap.size, 5, none⟩ = some (.int .i64 s) ∧ w.heap.size < w'.heap.size ∧ Below w.heap.size w w')
    ((try go_split_ands
      refine ⟨?_, ?_, ?_, ?_, ?_, ?_, ?_, ?_⟩ <;> first | (with_reducible assumption) | (refine Below.trans ?_ (b7.mono ?_) <;> first | (with_reducible assumption) | omega) | (exact cellv b7 (by omega) (by assumption)) | (have := b7.size; omega) | (simp [go_sem, *]; done) | go_grown))
    (first | (go_at_call 138; go_call (sorts_any _) as e w7 ⟨rfl, b7⟩) | (go_at_call_of 139 (Value.int .i64 m); go_call (one_1 m hm' _) as e w7 ⟨rfl, rfl⟩) | (go_at_call_of 139 (Value.int .i64 0); go_call (one_0 _) as e w7 ⟨rfl, rfl⟩) | (go_at_call 170; go_call (blocking_any m 0 h q i s _) as e w7 ⟨rfl, b7⟩))
  all_goals (go_wp2_with fail; go_ret; refine ⟨rfl, ?_⟩; (try go_split_ands); assumption)

set_option maxRecDepth 100000 in
set_option maxHeartbeats 3200000 in
theorem left_11 (m t h q i s : Int) (w : World) (m0 : 0 ≤ m) (t0 : 0 ≤ t) (h0 : 0 ≤ h) (q0 : 0 ≤ q) (i0 : 0 ≤ i) (s0 : 0 ≤ s) (m1 : m ≤ 9223372036854775807) (t1 : t ≤ 9223372036854775807) (h1 : h ≤ 9223372036854775807) (q1 : q ≤ 9223372036854775807) (i1 : i ≤ 9223372036854775807) (s1 : s ≤ 9223372036854775807) (hq : 0 < q) (hm' : 0 < m) (ht' : 0 < t) : Calls Tryz.prog 103 #[.agg #[.int .i64 m, .int .i64 t, .int .i64 h, .int .i64 q, .int .i64 i, .int .i64 s]] w fun e w' => e = .returned (.int .i64 (leftV m t h q i s)) ∧ Below w.heap.size w w' := by
  have hq' : (q == 0) = false := beq_eq_false_iff_ne.2 (by omega)
  have hv : leftV m t h q i s = gapsV m t h q i := by
    unfold leftV
    simp only [show ¬ q = 0 from by omega, if_false, show ¬ m = 0 from by omega, show ¬ t = 0 from by omega, if_true, gapsV]
  rw [hv]; clear hv
  have ja : ∀ w, (Instr.index 198 (.agg #[(.func (.func 168) #[] #[]), (.func (.func 169) #[] #[]), (.func (.func 170) #[] #[]), (.func (.func 171) #[] #[])]) (.int .i64 1)).run Tryz.prog w = .ok (.agg #[(.func (.func 170) #[] #[]), (.func (.func 171) #[] #[])]) w := fun _ => by kernel_rfl
  have jb : ∀ w, (Instr.index 197 (.agg #[(.func (.func 170) #[] #[]), (.func (.func 171) #[] #[])]) (.int .i64 1)).run Tryz.prog w = .ok (.func (.func 171) #[] #[]) w := fun _ => by kernel_rfl
  go_enter Tryz.func103, Tryz.ntmps103
  go_wp2_with fail
  go_region_held3 (fun w' => w'.cell? ⟨w.heap.size, 0, none⟩ = some (.int .i64 m) ∧ w'.cell? ⟨w.heap.size, 1, none⟩ = some (.int .i64 t) ∧ w'.cell? ⟨w.heap.size, 2, none⟩ = some (.int .i64 h) ∧ w'.cell? ⟨w.heap.size, 3, none⟩ = some (.int .i64 q) ∧ w'.cell? ⟨w.heap.size, 4, none⟩ = some (.int .i64 i) ∧ w'.cell? ⟨w.heap.size, 5, none⟩ = some (.int .i64 s) ∧ w.heap.size < w'.heap.size ∧ Below w.heap.size w w')
    ((try go_split_ands
      refine ⟨?_, ?_, ?_, ?_, ?_, ?_, ?_, ?_⟩ <;> first | (with_reducible assumption) | (refine Below.trans ?_ (b7.mono ?_) <;> first | (with_reducible assumption) | omega) | (exact cellv b7 (by omega) (by assumption)) | (have := b7.size; omega) | (simp [go_sem, *]; done) | go_grown))
    (first | (go_at_call 138; go_call (sorts_any _) as e w7 ⟨rfl, b7⟩) | (go_at_call_of 139 (Value.int .i64 m); go_call (one_1 m hm' _) as e w7 ⟨rfl, rfl⟩) | (go_at_call_of 139 (Value.int .i64 t); go_call (one_1 t ht' _) as e w7 ⟨rfl, rfl⟩) | (go_at_call 171; go_call (gaps_any m t h q i s _ m0 t0 h0 q0 i0 s0 m1 t1 h1 q1 i1 s1) as e w7 ⟨rfl, b7⟩))
  all_goals (go_wp2_with fail; go_ret; refine ⟨rfl, ?_⟩; (try go_split_ands); assumption)

theorem left_q (m t h i s : Int) (w : World) : Calls Tryz.prog 103 #[.agg #[.int .i64 m, .int .i64 t, .int .i64 h, .int .i64 0, .int .i64 i, .int .i64 s]] w fun e w' => e = .returned (.int .i64 (leftV m t h 0 i s)) ∧ Below w.heap.size w w' := by
  have hv : leftV m t h 0 i s = 0 := by simp [leftV]
  rw [hv]; clear hv
  go_enter Tryz.func103, Tryz.ntmps103
  go_wp2
  go_ret
  exact ⟨rfl, by go_grown⟩

theorem left_any (m t h q i s : Int) (w : World) (m0 : 0 ≤ m) (t0 : 0 ≤ t) (h0 : 0 ≤ h) (q0 : 0 ≤ q) (i0 : 0 ≤ i) (s0 : 0 ≤ s) (m1 : m ≤ 9223372036854775807) (t1 : t ≤ 9223372036854775807) (h1 : h ≤ 9223372036854775807) (q1 : q ≤ 9223372036854775807) (i1 : i ≤ 9223372036854775807) (s1 : s ≤ 9223372036854775807) : Calls Tryz.prog 103 #[.agg #[.int .i64 m, .int .i64 t, .int .i64 h, .int .i64 q, .int .i64 i, .int .i64 s]] w fun e w' => e = .returned (.int .i64 (leftV m t h q i s)) ∧ Below w.heap.size w w' := by
  by_cases hq : q = 0
  · subst hq; exact left_q m t h i s w
  by_cases hm : m = 0
  · subst hm
    by_cases ht : t = 0
    · subst ht; exact left_00 0 0 h q i s w m0 t0 h0 q0 i0 s0 m1 t1 h1 q1 i1 s1 (by omega)
    · exact left_01 0 t h q i s w m0 t0 h0 q0 i0 s0 m1 t1 h1 q1 i1 s1 (by omega) (by omega)
  · by_cases ht : t = 0
    · subst ht; exact left_10 m 0 h q i s w m0 t0 h0 q0 i0 s0 m1 t1 h1 q1 i1 s1 (by omega) (by omega)
    · exact left_11 m t h q i s w m0 t0 h0 q0 i0 s0 m1 t1 h1 q1 i1 s1 (by omega) (by omega) (by omega)
end Go.Proofs.YtnfcdbjckdhieaaGreat

namespace Go.Proofs.YtnfcdbjckdhieaaGreat
set_option linter.all false
open Go.RowKit

theorem mx_if (n : Int) : (if 0 < n then n else 0) = mx n := by unfold mx; split <;> omega

theorem of_any (m t h q i s : Int) (w : World) : Calls Tryz.prog 102 #[.int .i64 m, .int .i64 t, .int .i64 h, .int .i64 q, .int .i64 i, .int .i64 s] w fun e w' =>
    e = .returned (.agg #[.int .i64 (mx m), .int .i64 (mx t), .int .i64 (mx h), .int .i64 (mx q), .int .i64 (mx i), .int .i64 (mx s)]) ∧ Below w.heap.size w w' := by
  have e0 := mx_if m
  have e1 := mx_if t
  have e2 := mx_if h
  have e3 := mx_if q
  have e4 := mx_if i
  have e5 := mx_if s
  go_enter Tryz.func102, Tryz.ntmps102
  go_wp2
  go_returns
  exact ⟨rfl, by go_grown⟩
/-! READY -/
theorem ret_pair {k : IntKind} {a b : Int} {c : Bool} (h : a = b) : Ending.returned (.tuple #[.int k a, .bool c]) = .returned (.tuple #[.int k b, .bool c]) := by rw [h]
def mn (a b : Int) : Int := min a b
theorem mn_if (a b : Int) : (if b < a then b else a) = mn a b := by unfold mn; split <;> omega
def L6 (m t h q i s : Int) : Int := leftV (mx m) (mx t) (mx h) (mx q) (mx i) (mx s)
def rdN (m t h q i s : Int) : Int := if L6 m t h q i s = 0 then mn (mx h) (mx q) else 0
def rdB (m t h q i s : Int) : Bool := decide (L6 m t h q i s = 0)
def wtN (m t h q i s : Int) : Int := if L6 m t h q i s = -1 then 0 else L6 m t h q i s
def wtB (m t h q i s : Int) : Bool := decide (L6 m t h q i s ≠ -1)

set_option maxRecDepth 100000 in
theorem ready_any (m t h q i s : Int) (w : World) (mb : -9223372036854775808 ≤ m ∧ m ≤ 9223372036854775807) (tb : -9223372036854775808 ≤ t ∧ t ≤ 9223372036854775807) (hb : -9223372036854775808 ≤ h ∧ h ≤ 9223372036854775807) (qb : -9223372036854775808 ≤ q ∧ q ≤ 9223372036854775807) (ib : -9223372036854775808 ≤ i ∧ i ≤ 9223372036854775807) (sb : -9223372036854775808 ≤ s ∧ s ≤ 9223372036854775807) : Calls Tryz.prog 53 #[.int .i64 m, .int .i64 t, .int .i64 h, .int .i64 q, .int .i64 i, .int .i64 s] w fun e w' => e = .returned (.tuple #[.int .i64 (rdN m t h q i s), .bool (rdB m t h q i s)]) ∧ Below w.heap.size w w' := by
  have e0 := mn_if (mx h) (mx q)
  by_cases hl : L6 m t h q i s = 0
  all_goals
    first | (have e1 : rdN m t h q i s = mn (mx h) (mx q) := by unfold rdN; rw [if_pos hl]) | (have e1 : rdN m t h q i s = 0 := by unfold rdN; rw [if_neg hl])
    first | (have e2 : rdB m t h q i s = true := decide_eq_true hl) | (have e2 : rdB m t h q i s = false := decide_eq_false hl)
    rw [e1, e2]; clear e1 e2
    unfold L6 at hl
    first | (have h1 : (leftV (mx m) (mx t) (mx h) (mx q) (mx i) (mx s) == 0) = true := beq_iff_eq.2 hl; have h2 : (leftV (mx m) (mx t) (mx h) (mx q) (mx i) (mx s) != 0) = false := by simp [hl]) | (have h1 : (leftV (mx m) (mx t) (mx h) (mx q) (mx i) (mx s) == 0) = false := beq_eq_false_iff_ne.2 hl; have h2 : (leftV (mx m) (mx t) (mx h) (mx q) (mx i) (mx s) != 0) = true := by simp [hl])
    clear hl
    go_enter Tryz.func53, Tryz.ntmps53
    go_wp2_with fail
    go_call (of_any m t h q i s _) as e w1 ⟨rfl, b1⟩
    have z1 : w.heap.size ≤ w1.heap.size := b1.size
    have B1 : Below w.heap.size w w1 := b1
    have BB : Below w.heap.size w w1 := B1
    clear b1 B1
    go_wp2_with fail
    go_call (left_any (mx m) (mx t) (mx h) (mx q) (mx i) (mx s) _ (mx_nonneg m) (mx_nonneg t) (mx_nonneg h) (mx_nonneg q) (mx_nonneg i) (mx_nonneg s) (mx_le m mb.2) (mx_le t tb.2) (mx_le h hb.2) (mx_le q qb.2) (mx_le i ib.2) (mx_le s sb.2)) as e w2 ⟨rfl, b2⟩
    have z2 : w1.heap.size + 1 ≤ w2.heap.size := by (have := b2.size; simp at this; omega)
    have B2 : Below w1.heap.size w1 w2 := ((Below.refl _ _).alloc (by go_size) _).trans (b2.mono (by go_size))
    have c0 := cellv b2 (b := w1.heap.size) (o := 0) (v := .int .i64 (mx m)) (by go_size) (by simp [go_sem])
    have c1 := cellv b2 (b := w1.heap.size) (o := 1) (v := .int .i64 (mx t)) (by go_size) (by simp [go_sem])
    have c2 := cellv b2 (b := w1.heap.size) (o := 2) (v := .int .i64 (mx h)) (by go_size) (by simp [go_sem])
    have c3 := cellv b2 (b := w1.heap.size) (o := 3) (v := .int .i64 (mx q)) (by go_size) (by simp [go_sem])
    have c4 := cellv b2 (b := w1.heap.size) (o := 4) (v := .int .i64 (mx i)) (by go_size) (by simp [go_sem])
    have c5 := cellv b2 (b := w1.heap.size) (o := 5) (v := .int .i64 (mx s)) (by go_size) (by simp [go_sem])
    have y0 : w1.heap.size < w2.heap.size := by omega
    have BB := BB.trans (B2.mono (by omega))
    clear b2 B2
    go_wp2_with fail
    go_ret2
    exact ⟨rfl, BB⟩

set_option maxHeartbeats 3200000 in
theorem rready_any (m t h q i s : Int) (w : World) (mb : -9223372036854775808 ≤ m ∧ m ≤ 9223372036854775807) (tb : -9223372036854775808 ≤ t ∧ t ≤ 9223372036854775807) (hb : -9223372036854775808 ≤ h ∧ h ≤ 9223372036854775807) (qb : -9223372036854775808 ≤ q ∧ q ≤ 9223372036854775807) (ib : -9223372036854775808 ≤ i ∧ i ≤ 9223372036854775807) (sb : -9223372036854775808 ≤ s ∧ s ≤ 9223372036854775807) : Calls Tryz.prog 148 #[.int .i64 m, .int .i64 t, .int .i64 h, .int .i64 q, .int .i64 i, .int .i64 s] w fun e w' => e = .returned (.tuple #[.int .i64 (rdN m t h q i s), .bool (rdB m t h q i s)]) ∧ Below w.heap.size w w' := by
  have f0 : Value.int .i64 (if 0 < m then m else 0) = .int .i64 (mx m) := by rw [mx_if]
  have f1 : Value.int .i64 (if 0 < t then t else 0) = .int .i64 (mx t) := by rw [mx_if]
  have f2 : Value.int .i64 (if 0 < h then h else 0) = .int .i64 (mx h) := by rw [mx_if]
  have f3 : Value.int .i64 (if 0 < i then i else 0) = .int .i64 (mx i) := by rw [mx_if]
  have f4 : Value.int .i64 (if 0 < s then s else 0) = .int .i64 (mx s) := by rw [mx_if]
  have f5 : Value.int .i64 (if q < mx h then q else mx h) = .int .i64 (mn (mx h) q) := by rw [mn_if]
  have n0 := mx_nonneg m
  have n1 := mx_nonneg t
  have n2 := mx_nonneg h
  have n3 := mx_nonneg i
  have n4 := mx_nonneg s
  by_cases k0 : q ≤ 0
  · have d0 : decide (q ≤ 0) = true := decide_eq_true k0
    have e1 : rdN m t h q i s = (if q ≤ 0 then 0 else mn (mx h) q) := by unfold rdN L6 leftV mn; unfold mx at *; repeat' split; all_goals omega
    have e2 : rdB m t h q i s = true := by
      unfold rdB; apply decide_eq_true; unfold L6 leftV; unfold mx at *; repeat' split; all_goals omega
    rw [e1, e2]; clear e1 e2
    go_enter Tryz.func148, Tryz.ntmps148
    go_wp2
    go_ret2
    refine ⟨?_, Below.refl _ _⟩
    first | rfl | exact ret_pair (by unfold mn; omega)
  · have d0 : decide (q ≤ 0) = false := decide_eq_false k0
    by_cases k1 : 0 < mx m
    · have d1 : decide (0 < mx m) = true := decide_eq_true k1
      by_cases k2 : mx m ≤ mx h
      · have d2 : decide (mx m ≤ mx h) = true := decide_eq_true k2
        have e1 : rdN m t h q i s = (if q ≤ 0 then 0 else mn (mx h) q) := by unfold rdN L6 leftV mn; unfold mx at *; repeat' split; all_goals omega
        have e2 : rdB m t h q i s = true := by
          unfold rdB; apply decide_eq_true; unfold L6 leftV; unfold mx at *; repeat' split; all_goals omega
        rw [e1, e2]; clear e1 e2
        go_enter Tryz.func148, Tryz.ntmps148
        go_wp2
        go_ret2
        refine ⟨?_, Below.refl _ _⟩
        first | rfl | exact ret_pair (by unfold mn; omega)
      · have d2 : decide (mx m ≤ mx h) = false := decide_eq_false k2
        by_cases k3 : q ≤ mx h
        · have d3 : decide (q ≤ mx h) = true := decide_eq_true k3
          have e1 : rdN m t h q i s = (if q ≤ 0 then 0 else mn (mx h) q) := by unfold rdN L6 leftV mn; unfold mx at *; repeat' split; all_goals omega
          have e2 : rdB m t h q i s = true := by
            unfold rdB; apply decide_eq_true; unfold L6 leftV; unfold mx at *; repeat' split; all_goals omega
          rw [e1, e2]; clear e1 e2
          go_enter Tryz.func148, Tryz.ntmps148
          go_wp2
          go_ret2
          refine ⟨?_, Below.refl _ _⟩
          first | rfl | exact ret_pair (by unfold mn; omega)
        · have d3 : decide (q ≤ mx h) = false := decide_eq_false k3
          by_cases k4 : 0 < mx t
          · have d4 : decide (0 < mx t) = true := decide_eq_true k4
            by_cases k5 : 0 < mx h
            · have d5 : decide (0 < mx h) = true := decide_eq_true k5
              by_cases k6 : mx t ≤ mx i
              · have d6 : decide (mx t ≤ mx i) = true := decide_eq_true k6
                have e1 : rdN m t h q i s = (if q ≤ 0 then 0 else mn (mx h) q) := by unfold rdN L6 leftV mn; unfold mx at *; repeat' split; all_goals omega
                have e2 : rdB m t h q i s = true := by
                  unfold rdB; apply decide_eq_true; unfold L6 leftV; unfold mx at *; repeat' split; all_goals omega
                rw [e1, e2]; clear e1 e2
                go_enter Tryz.func148, Tryz.ntmps148
                go_wp2
                go_ret2
                refine ⟨?_, Below.refl _ _⟩
                first | rfl | exact ret_pair (by unfold mn; omega)
              · have d6 : decide (mx t ≤ mx i) = false := decide_eq_false k6
                have e1 : rdN m t h q i s = 0 := by unfold rdN L6 leftV mn; unfold mx at *; repeat' split; all_goals omega
                have e2 : rdB m t h q i s = false := by
                  unfold rdB; apply decide_eq_false; unfold L6 leftV; unfold mx at *; repeat' split; all_goals omega
                rw [e1, e2]; clear e1 e2
                go_enter Tryz.func148, Tryz.ntmps148
                go_wp2
                go_ret2
                refine ⟨?_, Below.refl _ _⟩
                first | rfl | exact ret_pair (by unfold mn; omega)
            · have d5 : decide (0 < mx h) = false := decide_eq_false k5
              have e1 : rdN m t h q i s = 0 := by unfold rdN L6 leftV mn; unfold mx at *; repeat' split; all_goals omega
              have e2 : rdB m t h q i s = false := by
                unfold rdB; apply decide_eq_false; unfold L6 leftV; unfold mx at *; repeat' split; all_goals omega
              rw [e1, e2]; clear e1 e2
              go_enter Tryz.func148, Tryz.ntmps148
              go_wp2
              go_ret2
              refine ⟨?_, Below.refl _ _⟩
              first | rfl | exact ret_pair (by unfold mn; omega)
          · have d4 : decide (0 < mx t) = false := decide_eq_false k4
            have e1 : rdN m t h q i s = 0 := by unfold rdN L6 leftV mn; unfold mx at *; repeat' split; all_goals omega
            have e2 : rdB m t h q i s = false := by
              unfold rdB; apply decide_eq_false; unfold L6 leftV; unfold mx at *; repeat' split; all_goals omega
            rw [e1, e2]; clear e1 e2
            go_enter Tryz.func148, Tryz.ntmps148
            go_wp2
            go_ret2
            refine ⟨?_, Below.refl _ _⟩
            first | rfl | exact ret_pair (by unfold mn; omega)
    · have d1 : decide (0 < mx m) = false := decide_eq_false k1
      by_cases k2 : mx t = 0
      · have d2 : decide (mx t = 0) = true := decide_eq_true k2
        have e1 : rdN m t h q i s = (if q ≤ 0 then 0 else mn (mx h) q) := by unfold rdN L6 leftV mn; unfold mx at *; repeat' split; all_goals omega
        have e2 : rdB m t h q i s = true := by
          unfold rdB; apply decide_eq_true; unfold L6 leftV; unfold mx at *; repeat' split; all_goals omega
        rw [e1, e2]; clear e1 e2
        go_enter Tryz.func148, Tryz.ntmps148
        go_wp2
        go_ret2
        refine ⟨?_, Below.refl _ _⟩
        first | rfl | exact ret_pair (by unfold mn; omega)
      · have d2 : decide (mx t = 0) = false := decide_eq_false k2
        by_cases k3 : 0 < mx h
        · have d3 : decide (0 < mx h) = true := decide_eq_true k3
          have e1 : rdN m t h q i s = (if q ≤ 0 then 0 else mn (mx h) q) := by unfold rdN L6 leftV mn; unfold mx at *; repeat' split; all_goals omega
          have e2 : rdB m t h q i s = true := by
            unfold rdB; apply decide_eq_true; unfold L6 leftV; unfold mx at *; repeat' split; all_goals omega
          rw [e1, e2]; clear e1 e2
          go_enter Tryz.func148, Tryz.ntmps148
          go_wp2
          go_ret2
          refine ⟨?_, Below.refl _ _⟩
          first | rfl | exact ret_pair (by unfold mn; omega)
        · have d3 : decide (0 < mx h) = false := decide_eq_false k3
          by_cases k4 : mx t ≤ mx s
          · have d4 : decide (mx t ≤ mx s) = true := decide_eq_true k4
            have e1 : rdN m t h q i s = (if q ≤ 0 then 0 else mn (mx h) q) := by unfold rdN L6 leftV mn; unfold mx at *; repeat' split; all_goals omega
            have e2 : rdB m t h q i s = true := by
              unfold rdB; apply decide_eq_true; unfold L6 leftV; unfold mx at *; repeat' split; all_goals omega
            rw [e1, e2]; clear e1 e2
            go_enter Tryz.func148, Tryz.ntmps148
            go_wp2
            go_ret2
            refine ⟨?_, Below.refl _ _⟩
            first | rfl | exact ret_pair (by unfold mn; omega)
          · have d4 : decide (mx t ≤ mx s) = false := decide_eq_false k4
            have e1 : rdN m t h q i s = 0 := by unfold rdN L6 leftV mn; unfold mx at *; repeat' split; all_goals omega
            have e2 : rdB m t h q i s = false := by
              unfold rdB; apply decide_eq_false; unfold L6 leftV; unfold mx at *; repeat' split; all_goals omega
            rw [e1, e2]; clear e1 e2
            go_enter Tryz.func148, Tryz.ntmps148
            go_wp2
            go_ret2
            refine ⟨?_, Below.refl _ _⟩
            first | rfl | exact ret_pair (by unfold mn; omega)

theorem wt_done (m t h q i s : Int) (hl : L6 m t h q i s = 0) : wtN m t h q i s = 0 ∧ wtB m t h q i s = true := by
  unfold wtN wtB; rw [hl]; exact ⟨rfl, rfl⟩
theorem wt_never (m t h q i s : Int) (hl : L6 m t h q i s ≠ 0) (h1 : t ≤ 0 ∨ (0 < m ∧ h ≤ 0)) : wtN m t h q i s = 0 ∧ wtB m t h q i s = false := by
  have : L6 m t h q i s = -1 := by
    unfold L6 leftV at *; unfold mx at *
    split at hl
    · omega
    · rw [if_neg (by assumption)]
      split at hl
      · split at hl
        · omega
        · split at hl <;> omega
      · rw [if_neg (by assumption)]
        split at hl
        · omega
        · rw [if_neg (by assumption)]
          split
          · rfl
          · rw [if_pos (by omega)]
  unfold wtN wtB; rw [this]; exact ⟨rfl, rfl⟩
theorem wt_gap (m t h q i s : Int) (hl : L6 m t h q i s ≠ 0) (h0 : 0 < t) (h1 : 0 < m) (h2 : 0 < h) : wtN m t h q i s = t - mx i ∧ wtB m t h q i s = true := by
  have : L6 m t h q i s = t - mx i ∧ L6 m t h q i s ≠ -1 := by
    unfold L6 leftV at *; unfold mx at *
    split at hl
    · omega
    · rw [if_neg (by assumption)]
      rw [if_neg (by omega)] at hl ⊢
      split at hl
      · omega
      · rw [if_neg (by assumption), if_neg (by omega), if_neg (by omega)]
        rw [if_neg (by omega), if_neg (by omega)] at hl
        omega
  unfold wtN wtB; rw [if_neg this.2]; exact ⟨this.1, decide_eq_true this.2⟩
theorem wt_time (m t h q i s : Int) (hl : L6 m t h q i s ≠ 0) (h0 : 0 < t) (h1 : ¬ 0 < m) : wtN m t h q i s = t - mx s ∧ wtB m t h q i s = true := by
  have : L6 m t h q i s = t - mx s ∧ L6 m t h q i s ≠ -1 := by
    unfold L6 leftV at *; unfold mx at *
    split at hl
    · omega
    · rw [if_neg (by assumption)]
      rw [if_pos (by omega)] at hl ⊢
      rw [if_neg (by omega)] at hl ⊢
      split at hl
      · omega
      · rw [if_neg (by assumption)]
        omega
  unfold wtN wtB; rw [if_neg this.2]; exact ⟨this.1, decide_eq_true this.2⟩

end Go.Proofs.YtnfcdbjckdhieaaGreat

namespace Go.Proofs.YtnfcdbjckdhieaaGreat
set_option linter.all false
set_option maxRecDepth 100000
open Go.RowKit

/-- What a method leaves that answers bytes, too. -/
def RPost (w : World) (g : Nat) (s : DS) (d d' : DM) (l : List Int) (v : Option Addr → Nat → Value) : Ending → World → Prop := fun e w' => ∃ s' A c, e = .returned (v A c) ∧ Only [g] w w' ∧ Blk w' g 96 (discV d' s') ∧ Turns w w' g (Data s d) (fun w => Data s' d' w ∧ RdU w A c l)
theorem RPost.of {w w1 w' : World} {g : Nat} {s0 s : DS} {d0 d : DM} {L1 β : List Nat} {hp : List HB} {D1 : World → Prop} {l : List Int} {v : Option Addr → Nat → Value} {A : Option Addr} {c : Nat} (C : Cx w g (Data s0 d0) w1 L1 D1) (H : Mem w1 L1 β hp w') (hβ : β[0]? = some g) (hk : hp[0]? = some (.b true 96 (discSC d s))) (f : ∀ w, D1 w → Data s d w ∧ RdU w A c l) : RPost w g s0 d0 d l v (.returned (v A c)) w' := by
  refine ⟨s, A, c, rfl, C.only H, ?_, (C.turns H).imp f⟩
  have := H.at 0 hk
  rw [nm_get hβ] at this
  exact this
theorem off_new (A : Option Addr) (cap : Nat) (l : List Int) (i : Nat) (w : World) (hb : RdU w A cap l) (hlen : l.length ≤ 1000000) (hi : i ≤ l.length) : Calls Tryz.prog 54 #[.slice A l.length cap, .int .i64 i] w (NewX w (two (l.take i) (l.drop i)) (Two (l.take i) (l.drop i))) := by
  have hc := hb.2.1
  have hl1 : (l.take i).length = i := by rw [List.length_take, Nat.min_eq_left hi]
  have hl2 : (l.drop i).length = l.length - i := List.length_drop
  refine Hs.enter Tryz.func54 [] [] [] [.c (.v (.slice A l.length cap)), .c (.v (.int .i64 i))] (Mem.start0 w) (by kernel_rfl) (by kernel_rfl) ?_
  refine Hs.run0 300 (fun _ => by kernel_rfl) ?_
  refine Hs.any [] (by kernel_rfl) ?_
  refine Hs.run0 300 (fun _ => by kernel_rfl) ?_
  refine Hs.takeHi 2 elemU8 (rd := []) (A := A) (len := l.length) (cap := cap) (i := i) (by omega) (by kernel_rfl) ?_
  refine Hs.takeLo 6 elemU8 (rd := []) (A := A) (len := l.length) (cap := cap) (i := i) hi (by kernel_rfl) ?_
  refine Hs.run0 300 (fun _ => by kernel_rfl) ?_
  refine Hs.callS (cf := cu8) (E := 5) (size := 1) (fun A cap => .slice A i cap) (l.take i) i hl1 (fun w' H => by
    have := cloneB_any (l.take i) (hiA 1 A cap) cap w' (rdX_hi cu8_len (hb.1.only H.only) hi) (by rw [hl1]; omega)
    rw [hl1] at this; exact this) (by kernel_rfl) (by kernel_rfl) fun A1 c1 h1 h2 => ?_
  refine Hs.run0 300 (fun _ => by kernel_rfl) ?_
  refine Hs.callS (cf := cu8) (E := 5) (size := 1) (fun A cap => .slice A (l.length - i) cap) (l.drop i) (l.length - i) hl2 (fun w' H => by
    have := cloneB_any (l.drop i) (loA 1 A i cap) (cap - i) w' (rdX_lo cu8_len (hb.1.only H.only) hi hc) (by rw [hl2]; omega)
    rw [hl2] at this; exact this) (by kernel_rfl) (by kernel_rfl) fun A2 c2 h3 h4 => ?_
  refine Hs.run0 300 (fun _ => by kernel_rfl) ?_
  exact Hs.ret (v := .tuple #[.slice A1 i c1, .slice A2 (l.length - i) c2]) Tryz.func54 (by kernel_rfl) fun w' H => by
    refine ⟨((A1, c1), (A2, c2)), by rw [two, hl1, hl2], H.only, fun L hL => ?_⟩
    have o1 := H.fresh (cf := cu8) (l := l.take i) (E := 5) (size := 1) (A := A1) (cap := c1) (nl := i) 0 hl1 (by kernel_rfl)
    have o2 := H.fresh (cf := cu8) (l := l.drop i) (E := 5) (size := 1) (A := A2) (cap := c2) (nl := l.length - i) 1 hl2 (by kernel_rfl)
    exact (ownX_keepsN hl1 o1 L hL).and (ownX_keepsN hl2 o2 L hL)
def outN (d : DM) (n : Int) : Nat := (max 0 (min n d.out.length)).toNat
theorem outN_le (d : DM) (n : Int) : outN d n ≤ d.out.length := by unfold outN; omega
def outputD (d : DM) (n : Int) : DM × List Int := if d.st then (d, []) else ({ d with out := d.out.drop (outN d n) }, d.out.take (outN d n))
theorem outputD_few {d : DM} {n : Int} (hf : Few d) : Few (outputD d n).1 := by
  unfold outputD
  split
  · exact hf
  · exact ⟨hf.line, hf.raw, by show (d.out.drop _).length ≤ _; have := hf.out; rw [List.length_drop]; omega, hf.used, hf.zero⟩
theorem output_any (d : DM) (s : DS) (g : Nat) (n : Int) (w : World) (h : DAt w g d s) (hf : Few d) : Calls Tryz.prog 22 #[.pointer (some ⟨g, 0, none⟩), .int .i64 n] w (RPost w g s d (outputD d n).1 (outputD d n).2 fun A c => .slice A (outputD d n).2.length c) := by
  have C := Cx.start h.data (Blk.lt h.blk)
  have hol := hf.out
  refine Hs.enter Tryz.func22 [g] [g] [.b true 96 (discSC d s)] [.c (.p 0 0), .c (.v (.int .i64 n))] (Mem.one w g h.blk) (by kernel_rfl) (by kernel_rfl) ?_
  refine Hs.run0 300 (fun _ => by kernel_rfl) ?_
  refine Hs.rung0 [2] 300 (fun _ => by kernel_rfl) ?_
  refine Hs.cond d.st (by kernel_rfl) (fun h1 => ?_) (fun h1 => ?_)
  · have e : outputD d n = (d, []) := by unfold outputD; rw [if_pos h1]
    rw [e]
    refine Hs.run0 300 (fun _ => by kernel_rfl) ?_
    exact Hs.ret (v := .slice none 0 0) Tryz.func22 (by kernel_rfl) fun w' H => RPost.of (s := s) (d := d) (l := []) (v := fun A c => .slice A ([] : List Int).length c) (A := none) (c := 0) C H rfl (by kernel_rfl) fun w h => ⟨h, rdU_nil w⟩
  · have hle := outN_le d n
    have e : outputD d n = ({ d with out := d.out.drop (outN d n) }, d.out.take (outN d n)) := by unfold outputD; rw [if_neg (by rw [h1]; decide)]
    have ev : (outN d n : Int) = max 0 (min n d.out.length) := by unfold outN; omega
    rw [e]
    have hl1 : (d.out.take (outN d n)).length = outN d n := by rw [List.length_take, Nat.min_eq_left hle]
    have hl2 : (d.out.drop (outN d n)).length = d.out.length - outN d n := List.length_drop
    generalize outN d n = k at hle hl1 hl2 ev
    refine Hs.run0 300 (fun _ => by kernel_rfl) ?_
    refine Hs.any [0, 1020] (by kernel_rfl) ?_
    refine Hs.run0 300 (fun _ => by kernel_rfl) ?_
    refine Hs.slot 28 (.c (.v (.int .i64 (k : Nat)))) rfl ((by kernel_rfl : _ = Value.int .i64 (if (if (d.out.length : Int) < n then (d.out.length : Int) else n) > 0 then (if (d.out.length : Int) < n then (d.out.length : Int) else n) else 0)).trans (by
      rw [show (if (if (d.out.length : Int) < n then (d.out.length : Int) else n) > 0 then (if (d.out.length : Int) < n then (d.out.length : Int) else n) else 0) = (k : Int) by rw [ev]; split <;> split <;> omega]
      rfl)) ?_
    refine Hs.callN0 (g := g) (two (d.out.take k) (d.out.drop k)) (fun x w => Two (d.out.take k) (d.out.drop k) x w) 0 C rfl (by kernel_rfl : _ = some (HB.b true 96 (discSC d s))) (fun w' H => off_new s.oa s.oc d.out k w' (C.now H).out (by omega) hle) (by kernel_rfl) fun x w1 L1 C1 => ?_
    refine Hs.run0 300 (fun _ => by kernel_rfl) ?_
    exact Hs.ret (v := .slice x.1.1 (d.out.take k).length x.1.2) Tryz.func22 (by kernel_rfl) fun w' H => RPost.of (s := { s with oa := x.2.1, oc := x.2.2 }) (d := { d with out := d.out.drop k }) (l := d.out.take k) (v := fun A c => .slice A (d.out.take k).length c) (A := x.1.1) (c := x.1.2) C1 H rfl (by kernel_rfl) fun w h => ⟨⟨h.2.line, h.2.lines, h.2.map, h.2.raw, h.1.2⟩, h.1.1⟩
def tickD (d : DM) (n : Int) : DM := if n > 0 ∧ d.idle ≤ 1048576 - n then { d with idle := d.idle + n } else d
theorem tickD_few {d : DM} {n : Int} (hf : Few d) : Few (tickD d n) := by
  unfold tickD
  split
  · exact ⟨hf.line, hf.raw, hf.out, hf.used, hf.zero⟩
  · exact hf
theorem flush_nil (n : Int) (w : World) : Calls Tryz.prog 72 #[.pointer none, .int .i64 n] w fun e w' => e = .returned (.int .i64 1) ∧ Only [] w w' := by
  refine Hs.enter Tryz.func72 [] [] [] [.c (.v (.pointer none)), .c (.v (.int .i64 n))] (Mem.start0 w) (by kernel_rfl) (by kernel_rfl) ?_
  refine Hs.run0 300 (fun _ => by kernel_rfl) ?_
  refine Hs.condT (by kernel_rfl) ?_
  refine Hs.run0 300 (fun _ => by kernel_rfl) ?_
  exact Hs.ret (v := .int .i64 1) Tryz.func72 (by kernel_rfl) fun w' H => ⟨rfl, H.only⟩
theorem used_nil (w : World) : Calls Tryz.prog 33 #[.pointer none] w fun e w' => e = .returned (.int .i64 0) ∧ Only [] w w' := by
  refine Hs.enter Tryz.func33 [] [] [] [.c (.v (.pointer none))] (Mem.start0 w) (by kernel_rfl) (by kernel_rfl) ?_
  refine Hs.run0 300 (fun _ => by kernel_rfl) ?_
  refine Hs.condT (by kernel_rfl) ?_
  refine Hs.run0 300 (fun _ => by kernel_rfl) ?_
  exact Hs.ret (v := .int .i64 0) Tryz.func33 (by kernel_rfl) fun w' H => ⟨rfl, H.only⟩
def andI (a b : Int) : Int := IntKind.i64.wrap (((BitVec.ofInt 64 a) &&& (BitVec.ofInt 64 b)).toNat)
def flush2 (d : DM) (n : Int) : DM := if andI n 2 != 0 then { d with out := [] } else d
def flushD (d : DM) (n : Int) : DM × Int := if n < 1 ∨ n > 3 then (d, 2) else (flush2 (if andI n 1 != 0 then { clearD d with next := false } else d) n, 0)
theorem flushD_few {d : DM} {n : Int} (hf : Few d) : Few (flushD d n).1 := by
  have h1 : Few (if andI n 1 != 0 then { clearD d with next := false } else d) := by
    split
    · exact ⟨Nat.zero_le _, Nat.zero_le _, hf.out, Nat.zero_le _, Nat.zero_le _⟩
    · exact hf
  unfold flushD flush2
  split
  · exact hf
  · split
    · exact ⟨h1.line, h1.raw, Nat.zero_le _, h1.used, h1.zero⟩
    · exact h1
theorem flush_any (d : DM) (s : DS) (g : Nat) (n : Int) (w : World) (h : DAt w g d s) : Calls Tryz.prog 72 #[.pointer (some ⟨g, 0, none⟩), .int .i64 n] w (DPost w g s d (flushD d n).1 (.int .i64 (flushD d n).2)) := by
  have C := Cx.start h.data (Blk.lt h.blk)
  have K : ∀ (d1 : DM) (s1 : DS) (w1 : World) (L1 : List Nat), Cx w g (Data s d) w1 L1 (Data s1 d1) → ∀ (u : Nat → Value), Hs Tryz.prog 72 (DPost w g s d (flush2 d1 n) (.int .i64 0)) (Tryz.f72).ntmps w1 L1 [g] ⟨.no, atR Tryz.f72 8, pins [(0, .c (.p 0 0)), (1, .c (.v (.int .i64 n)))] (.vals u), [.b true 96 (discSC d1 s1)]⟩ := by
    intro d1 s1 w1 L1 C1 u
    unfold flush2
    refine Hs.run0 300 (fun _ => by kernel_rfl) ?_
    refine Hs.cond (andI n 2 != 0) (by kernel_rfl) (fun h1 => ?_) (fun h1 => ?_)
    · rw [if_pos h1]
      refine Hs.run0 300 (fun _ => by kernel_rfl) ?_
      exact Hs.ret (v := .int .i64 0) Tryz.func72 (by kernel_rfl) fun w' H => DPost.of (s := { s1 with oa := none, oc := 0 }) (d := { d1 with out := [] }) C1 H rfl (by kernel_rfl) fun w h => ⟨h.line, h.lines, h.map, h.raw, rdU_nil w⟩
    · rw [if_neg (by rw [h1]; decide)]
      refine Hs.run0 300 (fun _ => by kernel_rfl) ?_
      exact Hs.ret (v := .int .i64 0) Tryz.func72 (by kernel_rfl) fun w' H => DPost.of (s := s1) (d := d1) C1 H rfl (by kernel_rfl) fun w h => h
  refine Hs.enter Tryz.func72 [g] [g] [.b true 96 (discSC d s)] [.c (.p 0 0), .c (.v (.int .i64 n))] (Mem.one w g h.blk) (by kernel_rfl) (by kernel_rfl) ?_
  refine Hs.run0 300 (fun _ => by kernel_rfl) ?_
  refine Hs.condF (by kernel_rfl) ?_
  refine Hs.run0 300 (fun _ => by kernel_rfl) ?_
  refine Hs.bool 11 (decide (n < 1)) (by kernel_rfl) (fun h1 => ?_) (fun h1 => ?_)
  · have h1' : n < 1 := by simpa using h1
    have e : flushD d n = (d, 2) := by unfold flushD; rw [if_pos (.inl h1')]
    rw [e]
    refine Hs.rung0 [2] 300 (fun _ => by kernel_rfl) ?_
    refine Hs.condT (by kernel_rfl) ?_
    refine Hs.run0 300 (fun _ => by kernel_rfl) ?_
    exact Hs.ret (v := .int .i64 2) Tryz.func72 (by kernel_rfl) fun w' H => DPost.of (s := s) (d := d) C H rfl (by kernel_rfl) fun w h => h
  · have h1' : ¬ n < 1 := by simpa using h1
    refine Hs.rung0 [2] 300 (fun _ => by kernel_rfl) ?_
    refine Hs.condP (n > 3) (by kernel_rfl) (fun h2 => ?_) (fun h2 => ?_)
    · have e : flushD d n = (d, 2) := by unfold flushD; rw [if_pos (.inr h2)]
      rw [e]
      refine Hs.run0 300 (fun _ => by kernel_rfl) ?_
      exact Hs.ret (v := .int .i64 2) Tryz.func72 (by kernel_rfl) fun w' H => DPost.of (s := s) (d := d) C H rfl (by kernel_rfl) fun w h => h
    · have e : flushD d n = (flush2 (if andI n 1 != 0 then { clearD d with next := false } else d) n, 0) := by unfold flushD; rw [if_neg fun h => h.elim h1' h2]
      rw [e]
      refine Hs.run0 300 (fun _ => by kernel_rfl) ?_
      refine Hs.cond (andI n 1 != 0) (by kernel_rfl) (fun h3 => ?_) (fun h3 => ?_)
      · rw [if_pos h3]
        refine Hs.run0 300 (fun _ => by kernel_rfl) ?_
        refine Hs.callDD (F := fun w => True) (s := s) (d := d) (d' := clearD d) (v := .tuple #[]) (C.imp fun w h => ⟨h, trivial⟩) rfl (by kernel_rfl) (fun w' H hD => dclear_any d s g w' hD) (by kernel_rfl) (by kernel_rfl) (fun _ => (by kernel_rfl)) fun s1 w1 L1 C1 => ?_
        refine Hs.runR0 8 [] 300 (fun _ => by kernel_rfl) ?_
        exact Hs.goto (atR Tryz.f72 8) [0] [.b true 96 (discSC { clearD d with next := false } s1)] [(0, .c (.p 0 0)), (1, .c (.v (.int .i64 n)))] (by kernel_rfl) (by decide) (by kernel_rfl) (by kernel_rfl) (fun _ => (by kernel_rfl)) (fun u => K { clearD d with next := false } s1 w1 L1 (C1.imp fun w h => ⟨h.1.line, h.1.lines, h.1.map, h.1.raw, h.1.out⟩) u)
      · rw [if_neg (by rw [h3]; decide)]
        refine Hs.runR0 8 [] 300 (fun _ => by kernel_rfl) ?_
        exact Hs.goto (atR Tryz.f72 8) [0] [.b true 96 (discSC d s)] [(0, .c (.p 0 0)), (1, .c (.v (.int .i64 n)))] (by kernel_rfl) (by decide) (by kernel_rfl) (by kernel_rfl) (fun _ => (by kernel_rfl)) (fun u => K d s w [g] C u)
end Go.Proofs.YtnfcdbjckdhieaaGreat

namespace Go.Proofs.YtnfcdbjckdhieaaGreat
set_option linter.all false
set_option maxRecDepth 100000
open Go.RowKit

theorem fitL_le (t : TM) (room : Int) : ∀ (b : List Int) (col : Int) (n : Nat), fitL t room col n b ≤ b.length
  | [], _, _ => Nat.le_refl _
  | c :: b, col, n => by
    have ih := fitL_le t room b (writeC t col c).1 (n + (writeC t col c).2.length)
    unfold fitL
    split
    · exact Nat.zero_le _
    · simp only [List.length_cons]; omega
theorem fitL_room (t : TM) (room : Int) : ∀ (b : List Int) (col : Int) (n : Nat), (n : Int) ≤ room → ((n + (postC t col (b.take (fitL t room col n b))).2.length : Nat) : Int) ≤ room
  | [], col, n, h => by simpa [fitL, postC] using h
  | c :: b, col, n, h => by
    unfold fitL
    split
    · simpa [postC] using h
    · rename_i h1
      have ih := fitL_room t room b (writeC t col c).1 (n + (writeC t col c).2.length) (by omega)
      rw [List.take_succ_cons]
      simp only [postC, List.length_append]
      omega
def fitN (d : DM) (b : List Int) : Nat := if (4096 : Int) - d.out.length < 0 then 0 else fitL d.t (4096 - d.out.length) (withinC d.col) 0 b
theorem fitN_le (d : DM) (b : List Int) : fitN d b ≤ b.length := by
  unfold fitN
  split
  · exact Nat.zero_le _
  · exact fitL_le _ _ _ _ _
theorem fitN_fitC (d : DM) (b : List Int) : fitC d.t d.col b (4096 - d.out.length) = (fitN d b : Int) := by
  unfold fitC fitN
  split <;> rfl
def writeD (d : DM) (b : List Int) : DM := { d with out := d.out ++ (postC d.t (withinC d.col) (b.take (fitN d b))).2, col := (postC d.t (withinC d.col) (b.take (fitN d b))).1 }
theorem writeD_out (d : DM) (b : List Int) : (writeD d b).out.length ≤ d.out.length ∨ (writeD d b).out.length ≤ 4096 := by
  have e : (writeD d b).out.length = d.out.length + (postC d.t (withinC d.col) (b.take (fitN d b))).2.length := by
    show (d.out ++ _).length = _
    rw [List.length_append]
  rw [e]
  unfold fitN
  split
  · left; simp [postC]
  · right
    rename_i h
    have := fitL_room d.t (4096 - d.out.length) b (withinC d.col) 0 (by omega)
    rw [Nat.zero_add] at this
    omega
theorem writeD_few {d : DM} {b : List Int} (hf : Few d) : Few (writeD d b) := ⟨hf.line, hf.raw, by have := writeD_out d b; have := hf.out; omega, hf.used, hf.zero⟩
theorem write_any16 (d : DM) (s : DS) (g : Nat) (B : Option Addr) (cB : Nat) (b : List Int) (w : World) (h : DAt w g d s) (hf : Few d) (hb : Keeps w [g] (fun w => RdU w B cB b)) (hbl : b.length ≤ 250000) : Calls Tryz.prog 18 #[.pointer (some ⟨g, 0, none⟩), .slice B b.length cB] w (DPost w g s d (writeD d b) (.int .i64 (fitN d b))) := by
  have C := Cx.start h.data (Blk.lt h.blk)
  have hol := hf.out
  have hle := fitN_le d b
  have hfc := fitN_fitC d b
  have e1 : IntKind.i64.wrap (4096 - (d.out.length : Int)) = 4096 - (d.out.length : Int) := IntWalk.i64_in _ (by omega)
  unfold writeD
  generalize fitN d b = k at hle hfc
  have hlt : (b.take k).length = k := by rw [List.length_take, Nat.min_eq_left hle]
  have hr := post_rng (t := d.t) (b := b.take k) (within_rng d.col)
  generalize hq : postC d.t (withinC d.col) (b.take k) = q at hr
  refine Hs.enter Tryz.func18 [g] [g] [.b true 96 (discSC d s)] [.c (.p 0 0), .c (.v (.slice B b.length cB))] (Mem.one w g h.blk) (by kernel_rfl) (by kernel_rfl) ?_
  refine Hs.run0 300 (fun _ => by kernel_rfl) ?_
  refine Hs.condF (by kernel_rfl) ?_
  refine Hs.run0 300 (fun _ => by kernel_rfl) ?_
  refine Hs.any [0] (by kernel_rfl) ?_
  refine Hs.run0 300 (fun _ => by kernel_rfl) ?_
  refine Hs.callV (v := .int .i64 (k : Nat)) (fun w' H => by
    have := post_Fit_any d.t d.col (IntKind.i64.wrap (4096 - (d.out.length : Int))) B cB b w' (hb w' H.only).1 (hb w' H.only).2.1 (hb w' H.only).2.2 (by omega)
    rw [show fitC d.t d.col b (IntKind.i64.wrap (4096 - (d.out.length : Int))) = (k : Int) by rw [e1]; exact hfc] at this
    exact this) (by kernel_rfl) ?_
  refine Hs.run0 300 (fun _ => by kernel_rfl) ?_
  refine Hs.any [0] (by kernel_rfl) ?_
  refine Hs.run0 300 (fun _ => by kernel_rfl) ?_
  refine Hs.hi elemU8 (A := B) (len := b.length) (cap := cB) (i := k) (by have := (hb w (Only.refl [g] w)).2.1; omega) (by kernel_rfl) ?_
  refine Hs.run0 300 (fun _ => by kernel_rfl) ?_
  refine Hs.callS (cf := cu8) (E := 5) (size := 1) (fun A cap => .tuple #[.slice A q.2.length cap, .int .i64 q.1]) q.2 _ rfl (fun w' H => by
    have hb' := hb w' H.only
    have := post_Bytes_any d.t d.col (hiA 1 B cB) cB (b.take k) w' (rdX_hi cu8_len hb'.1 hle) (by rw [hlt]; have := hb'.2.1; omega) hb'.2.2 (by rw [hlt]; omega)
    rw [hq, hlt] at this
    exact this) (by kernel_rfl) (by kernel_rfl) fun A1 c1 h1 h2 => ?_
  refine Hs.run1 300 (fun _ => by kernel_rfl) fun b1 => ?_
  refine Hs.callS (cf := cu8) (E := 5) (size := 1) (fun A cap => .slice A (d.out ++ q.2).length cap) (d.out ++ q.2) _ rfl (fun w' H => by
    have := concatB_any [⟨s.oa, s.oc, d.out⟩, ⟨A1, c1, q.2⟩] (some ⟨b1, 0, none⟩) 2 w' (H.rdB (cf := Pc.cs) (wr := true) (T := 27) (cs := [.v (.slice s.oa d.out.length s.oc), .v (.slice A1 q.2.length c1)]) 2 (by kernel_rfl) rfl) ⟨by simp, by unfold maxLen; omega⟩ (fun p hp => by
      simp only [List.mem_cons, List.not_mem_nil, or_false] at hp
      rcases hp with rfl | rfl
      · exact (C.now H).out.1
      · exact H.rdX (cf := cu8) (A := A1) (cap := c1) (E := 5) (size := 1) 1 rfl (by kernel_rfl)) (by rw [totP_two]; show (d.out ++ q.2).length ≤ _; rw [List.length_append]; have := hr.2; omega)
    rw [totP_two] at this
    exact this) (by kernel_rfl) (by kernel_rfl) fun A3 c3 h3 h4 => ?_
  refine Hs.freeze 0 3 (A := A3) (cap := c3) (nl := (d.out ++ q.2).length) (E := 5) C rfl (by kernel_rfl : _ = some (HB.b true 96 (discSC d s))) rfl rfl rfl (by kernel_rfl) (by decide) (by kernel_rfl) fun w1 L1 C1 => ?_
  refine Hs.run0 300 (fun _ => by kernel_rfl) ?_
  exact Hs.ret (v := .int .i64 (k : Nat)) Tryz.func18 (by kernel_rfl) fun w' H => DPost.of (s := { s with oa := A3, oc := c3 }) (d := { d with out := d.out ++ q.2, col := q.1 }) C1 H rfl (by kernel_rfl) fun w h => ⟨h.2.line, h.2.lines, h.2.map, h.2.raw, h.1⟩
/-- The numbers of a discipline are numbers of the program. -/
structure Rng (d : DM) : Prop where
  mn : -9223372036854775808 ≤ d.t.mn ∧ d.t.mn ≤ 9223372036854775807
  tm : -9223372036854775808 ≤ d.t.tm ∧ d.t.tm ≤ 9223372036854775807
  idle : -9223372036854775808 ≤ d.idle ∧ d.idle ≤ 9223372036854775807
def rdOk (d : DM) (n q : Int) : Bool := rdB d.t.mn d.t.tm d.raw.length n d.idle q
def rdK (d : DM) (n q : Int) : Nat := (rdN d.t.mn d.t.tm d.raw.length n d.idle q).toNat
theorem rdK_eq (d : DM) (n q : Int) : rdN d.t.mn d.t.tm d.raw.length n d.idle q = (rdK d n q : Int) := by
  unfold rdK rdN mn mx
  split <;> omega
theorem rdK_le (d : DM) (n q : Int) : rdK d n q ≤ d.raw.length := by
  unfold rdK rdN mn mx
  split <;> omega
def readD (d : DM) (n q : Int) : DM × List Int × Bool :=
  if d.t.has 51 then (if (readL d.lines n).2.2 then (marksD { d with lines := (readL d.lines n).2.1 }, (readL d.lines n).1, true) else (d, [], false))
  else if rdOk d n q then (marksD { d with raw := d.raw.drop (rdK d n q) }, d.raw.take (rdK d n q), true) else (d, [], false)
theorem readL_used (ls : List (List Int × Bool)) (n : Int) : usedM (readL ls n).2.1 ≤ usedM ls ∧ zeroN (readL ls n).2.1 ≤ zeroN ls := by
  cases ls with
  | nil => exact ⟨Nat.le_refl _, Nat.le_refl _⟩
  | cons p r =>
    simp only [readL]
    split
    · exact ⟨Nat.le_refl _, Nat.le_refl _⟩
    · split
      · have e : usedM (p :: r) = sizeM p + usedM r := by simp [usedM]
        have e2 : zeroN (p :: r) = zeroN [p] + zeroN r := zeroN_app [p] r
        exact ⟨by show usedM r ≤ _; omega, by show zeroN r ≤ _; omega⟩
      · rename_i h1 h2
        have hs : sizeM (p.1.drop n.toNat, p.2) ≤ sizeM p ∧ 1 ≤ sizeM (p.1.drop n.toNat, p.2) := by
          unfold sizeM
          simp only [List.length_drop]
          omega
        have e : usedM (p :: r) = sizeM p + usedM r := by simp [usedM]
        have e1 : usedM ((p.1.drop n.toNat, p.2) :: r) = sizeM (p.1.drop n.toNat, p.2) + usedM r := by simp [usedM]
        have e2 : zeroN ((p.1.drop n.toNat, p.2) :: r) = zeroN [(p.1.drop n.toNat, p.2)] + zeroN r := zeroN_app [(p.1.drop n.toNat, p.2)] r
        have e3 : zeroN (p :: r) = zeroN [p] + zeroN r := zeroN_app [p] r
        have e4 : zeroN [(p.1.drop n.toNat, p.2)] = 0 := by
          unfold zeroN
          have : ¬ sizeM (p.1.drop n.toNat, p.2) = 0 := by omega
          simp [this]
        exact ⟨by show usedM ((p.1.drop n.toNat, p.2) :: r) ≤ _; omega, by show zeroN ((p.1.drop n.toNat, p.2) :: r) ≤ _; omega⟩
theorem readD_few {d : DM} {n q : Int} (hf : Few d) : Few (readD d n q).1 := by
  have h1 := readL_used d.lines n
  unfold readD
  split
  · split
    · exact marksD_few ⟨hf.line, hf.raw, hf.out, Nat.le_trans h1.1 hf.used, Nat.le_trans h1.2 hf.zero⟩
    · exact hf
  · split
    · exact marksD_few ⟨hf.line, by show (d.raw.drop _).length ≤ _; have := hf.raw; rw [List.length_drop]; omega, hf.out, hf.used, hf.zero⟩
    · exact hf
theorem read_any16 (d : DM) (s : DS) (g : Nat) (n q : Int) (w : World) (h : DAt w g d s) (hf : Few d) (hR : Rng d) (hn : -9223372036854775808 ≤ n ∧ n ≤ 9223372036854775807) (hq : -9223372036854775808 ≤ q ∧ q ≤ 9223372036854775807) : Calls Tryz.prog 20 #[.pointer (some ⟨g, 0, none⟩), .int .i64 n, .int .i64 q] w (RPost w g s d (readD d n q).1 (readD d n q).2.1 fun A c => .tuple #[.slice A (readD d n q).2.1.length c, .bool (readD d n q).2.2]) := by
  have C := Cx.start h.data (Blk.lt h.blk)
  have hu := readL_used d.lines n
  have hul := hf.used
  have hll := hf.lines
  have hrl := hf.raw
  have hmap := h.data.at.map
  have hlen := h.data.at.llen
  refine Hs.enter Tryz.func20 [g] [g] [.b true 96 (discSC d s)] [.c (.p 0 0), .c (.v (.int .i64 n)), .c (.v (.int .i64 q))] (Mem.one w g h.blk) (by kernel_rfl) (by kernel_rfl) ?_
  refine Hs.run0 300 (fun _ => by kernel_rfl) ?_
  refine Hs.condF (by kernel_rfl) ?_
  refine Hs.run0 300 (fun _ => by kernel_rfl) ?_
  refine Hs.callV (fun w' H => dhas_any 51 d s g w' (H.at (wr := true) (T := 96) (cs := discSC d s) 0 (by kernel_rfl))) (by kernel_rfl) ?_
  refine Hs.run0 300 (fun _ => by kernel_rfl) ?_
  refine Hs.cond (d.t.has 51) (by kernel_rfl) (fun h1 => ?_) (fun h1 => ?_)
  · have e : readD d n q = (if (readL d.lines n).2.2 then (marksD { d with lines := (readL d.lines n).2.1 }, (readL d.lines n).1, true) else (d, [], false)) := by unfold readD; rw [if_pos h1]
    rw [e]
    generalize hr : readL d.lines n = r at hu
    refine Hs.run0 300 (fun _ => by kernel_rfl) ?_
    refine Hs.callN (g := g) (readV r.1.length r.2.1.length r.2.2) (ReadQ r.1 r.2.1) 0 C rfl (by kernel_rfl : _ = some (HB.b true 96 (discSC d s))) (fun w' H => by
      have hd := C.now H
      have := read_new s.sa s.sc s.xs n w' hd.lines (by rw [hmap]; omega) (by rw [hlen]; omega)
      rw [hmap, hlen, hr] at this
      exact this) (by kernel_rfl) (by kernel_rfl) fun x w1 L1 C1 => ?_
    refine Hs.run0 300 (fun _ => by kernel_rfl) ?_
    refine Hs.cond (!r.2.2) (by kernel_rfl) (fun h2 => ?_) (fun h2 => ?_)
    · rw [if_neg (by simpa using h2)]
      refine Hs.run0 300 (fun _ => by kernel_rfl) ?_
      exact Hs.ret (v := .tuple #[.slice none 0 0, .bool false]) Tryz.func20 (by kernel_rfl) fun w' H => RPost.of (s := s) (d := d) (l := []) (v := fun A c => .tuple #[.slice A ([] : List Int).length c, .bool false]) (A := none) (c := 0) C1 H rfl (by kernel_rfl) fun w h => ⟨h.2, rdU_nil w⟩
    · rw [if_pos (by simpa using h2)]
      refine Hs.run0 300 (fun _ => by kernel_rfl) ?_
      refine Hs.callDD (F := fun w => RdU w x.1.1 x.1.2 r.1) (s := { s with sa := x.2.1, sc := x.2.2.1, xs := x.2.2.2 }) (d := { d with lines := r.2.1 }) (d' := marksD { d with lines := r.2.1 }) (v := .tuple #[]) (C1.imp fun w h => ⟨⟨h.2.line, h.1.2.1, h.1.2.2, h.2.raw, h.2.out⟩, h.1.1⟩) rfl (by kernel_rfl) (fun w' H hD => dmarks_any { d with lines := r.2.1 } { s with sa := x.2.1, sc := x.2.2.1, xs := x.2.2.2 } g w' hD ⟨hf.line, hf.raw, hf.out, Nat.le_trans hu.1 hf.used, Nat.le_trans hu.2 hf.zero⟩) (by kernel_rfl) (by kernel_rfl) (fun _ => (by kernel_rfl)) fun s2 w2 L2 C2 => ?_
      refine Hs.run0 300 (fun _ => by kernel_rfl) ?_
      exact Hs.ret (v := .tuple #[.slice x.1.1 r.1.length x.1.2, .bool true]) Tryz.func20 (by kernel_rfl) fun w' H => RPost.of (s := s2) (d := marksD { d with lines := r.2.1 }) (l := r.1) (v := fun A c => .tuple #[.slice A r.1.length c, .bool true]) (A := x.1.1) (c := x.1.2) C2 H rfl (by kernel_rfl) fun w h => h
  · have e : readD d n q = (if rdOk d n q then (marksD { d with raw := d.raw.drop (rdK d n q) }, d.raw.take (rdK d n q), true) else (d, [], false)) := by unfold readD; rw [if_neg (by rw [h1]; decide)]
    rw [e]
    have hk := rdK_eq d n q
    have hkl := rdK_le d n q
    have hok : rdB d.t.mn d.t.tm d.raw.length n d.idle q = rdOk d n q := rfl
    generalize rdK d n q = k at hk hkl
    generalize rdOk d n q = ok at hok
    refine Hs.run0 300 (fun _ => by kernel_rfl) ?_
    refine Hs.any [0] (by kernel_rfl) ?_
    refine Hs.run0 300 (fun _ => by kernel_rfl) ?_
    refine Hs.callV (v := .tuple #[.int .i64 (k : Nat), .bool ok]) (fun w' H => by
      have := ready_any d.t.mn d.t.tm d.raw.length n d.idle q w' hR.mn hR.tm (by omega) hn hR.idle hq
      rw [hk, hok] at this
      exact Calls.mono this fun e w2 h => ⟨h.1, only_of_below h.2⟩) (by kernel_rfl) ?_
    refine Hs.run0 300 (fun _ => by kernel_rfl) ?_
    refine Hs.cond (!ok) (by kernel_rfl) (fun h2 => ?_) (fun h2 => ?_)
    · rw [if_neg (by simpa using h2)]
      refine Hs.run0 300 (fun _ => by kernel_rfl) ?_
      exact Hs.ret (v := .tuple #[.slice none 0 0, .bool false]) Tryz.func20 (by kernel_rfl) fun w' H => RPost.of (s := s) (d := d) (l := []) (v := fun A c => .tuple #[.slice A ([] : List Int).length c, .bool false]) (A := none) (c := 0) C H rfl (by kernel_rfl) fun w h => ⟨h, rdU_nil w⟩
    · rw [if_pos (by simpa using h2)]
      refine Hs.run0 300 (fun _ => by kernel_rfl) ?_
      refine Hs.callN (g := g) (two (d.raw.take k) (d.raw.drop k)) (fun x w => Two (d.raw.take k) (d.raw.drop k) x w) 0 C rfl (by kernel_rfl : _ = some (HB.b true 96 (discSC d s))) (fun w' H => off_new s.ra s.rc d.raw k w' (C.now H).raw (by omega) hkl) (by kernel_rfl) (by kernel_rfl) fun x w1 L1 C1 => ?_
      refine Hs.run0 300 (fun _ => by kernel_rfl) ?_
      refine Hs.callDD (F := fun w => RdU w x.1.1 x.1.2 (d.raw.take k)) (s := { s with ra := x.2.1, rc := x.2.2 }) (d := { d with raw := d.raw.drop k }) (d' := marksD { d with raw := d.raw.drop k }) (v := .tuple #[]) (C1.imp fun w h => ⟨⟨h.2.line, h.2.lines, h.2.map, h.1.2, h.2.out⟩, h.1.1⟩) rfl (by kernel_rfl) (fun w' H hD => dmarks_any { d with raw := d.raw.drop k } { s with ra := x.2.1, rc := x.2.2 } g w' hD ⟨hf.line, by show (d.raw.drop k).length ≤ _; rw [List.length_drop]; omega, hf.out, hf.used, hf.zero⟩) (by kernel_rfl) (by kernel_rfl) (fun _ => (by kernel_rfl)) fun s2 w2 L2 C2 => ?_
      refine Hs.run0 300 (fun _ => by kernel_rfl) ?_
      exact Hs.ret (v := .tuple #[.slice x.1.1 (d.raw.take k).length x.1.2, .bool true]) Tryz.func20 (by kernel_rfl) fun w' H => RPost.of (s := s2) (d := marksD { d with raw := d.raw.drop k }) (l := d.raw.take k) (v := fun A c => .tuple #[.slice A (d.raw.take k).length c, .bool true]) (A := x.1.1) (c := x.1.2) C2 H rfl (by kernel_rfl) fun w h => h
end Go.Proofs.YtnfcdbjckdhieaaGreat

namespace Go.Proofs.YtnfcdbjckdhieaaGreat
set_option linter.all false
set_option maxRecDepth 100000
open Go.RowKit

def tDef : TM := ⟨fun k => [0, 3, 28, 127, 21, 4, 255, 255, 17, 19, 26, 255, 18, 23, 22, 255, 255, 255, 15].getD k 0, 2305848510591797568, 38400, 38400, 1, 0⟩
theorem default_any (w : World) : Calls Tryz.prog 34 #[] w fun e w' => e = .returned tDef.val ∧ Only [] w w' := by
  refine Hs.enter Tryz.func34 [] [] [] [] (Mem.start0 w) (by kernel_rfl) (by kernel_rfl) ?_
  refine Hs.run2 300 (fun _ => by kernel_rfl) fun b0 b1 => ?_
  refine Hs.loop (by kernel_rfl) ?_
  refine Hs.goto (loopAt Tryz.f34 0) [0, 1] [.b true 26 [.v (.int .u8 0), .v (.int .u8 0), .v (.int .u8 0), .v (.int .u8 0), .v (.int .u8 0), .v (.int .u8 0), .v (.int .u8 0), .v (.int .u8 0), .v (.int .u8 0), .v (.int .u8 0), .v (.int .u8 0), .v (.int .u8 0), .v (.int .u8 0), .v (.int .u8 0), .v (.int .u8 0), .v (.int .u8 0), .v (.int .u8 0), .v (.int .u8 0), .v (.int .u8 0), .v (.int .u64 0), .v (.int .u32 0), .v (.int .u32 0), .v (.int .i64 0), .v (.int .i64 0)], .b true 26 [.v (.int .u8 0), .v (.int .u8 3), .v (.int .u8 28), .v (.int .u8 127), .v (.int .u8 21), .v (.int .u8 4), .v (.int .u8 0), .v (.int .u8 0), .v (.int .u8 17), .v (.int .u8 19), .v (.int .u8 26), .v (.int .u8 0), .v (.int .u8 18), .v (.int .u8 23), .v (.int .u8 22), .v (.int .u8 0), .v (.int .u8 0), .v (.int .u8 0), .v (.int .u8 15), .v (.int .u64 0), .v (.int .u32 38400), .v (.int .u32 38400), .v (.int .i64 1), .v (.int .i64 0)]] [(0, .c (.p 0 0)), (1, .c (.p 1 0)), (2, .c (.v (.int .i64 1)))] (by kernel_rfl) (by decide) (by kernel_rfl) (by kernel_rfl) (fun _ => (by kernel_rfl)) (fun u => ?_)
  refine Hs.run0 300 (fun _ => by kernel_rfl) ?_
  refine Hs.condT (by kernel_rfl) ?_
  refine Hs.run0 300 (fun _ => by kernel_rfl) ?_
  refine Hs.condF (by kernel_rfl) ?_
  refine Hs.run0 300 (fun _ => by kernel_rfl) ?_
  refine Hs.loop (by kernel_rfl) ?_
  refine Hs.goto (loopAt Tryz.f34 0) [0, 1] [.b true 26 [.v (.int .u8 0), .v (.int .u8 0), .v (.int .u8 0), .v (.int .u8 0), .v (.int .u8 0), .v (.int .u8 0), .v (.int .u8 0), .v (.int .u8 0), .v (.int .u8 0), .v (.int .u8 0), .v (.int .u8 0), .v (.int .u8 0), .v (.int .u8 0), .v (.int .u8 0), .v (.int .u8 0), .v (.int .u8 0), .v (.int .u8 0), .v (.int .u8 0), .v (.int .u8 0), .v (.int .u64 0), .v (.int .u32 0), .v (.int .u32 0), .v (.int .i64 0), .v (.int .i64 0)], .b true 26 [.v (.int .u8 0), .v (.int .u8 3), .v (.int .u8 28), .v (.int .u8 127), .v (.int .u8 21), .v (.int .u8 4), .v (.int .u8 0), .v (.int .u8 0), .v (.int .u8 17), .v (.int .u8 19), .v (.int .u8 26), .v (.int .u8 0), .v (.int .u8 18), .v (.int .u8 23), .v (.int .u8 22), .v (.int .u8 0), .v (.int .u8 0), .v (.int .u8 0), .v (.int .u8 15), .v (.int .u64 0), .v (.int .u32 38400), .v (.int .u32 38400), .v (.int .i64 1), .v (.int .i64 0)]] [(0, .c (.p 0 0)), (1, .c (.p 1 0)), (2, .c (.v (.int .i64 2)))] (by kernel_rfl) (by decide) (by kernel_rfl) (by kernel_rfl) (fun _ => (by kernel_rfl)) (fun u => ?_)
  refine Hs.run0 300 (fun _ => by kernel_rfl) ?_
  refine Hs.condT (by kernel_rfl) ?_
  refine Hs.run0 300 (fun _ => by kernel_rfl) ?_
  refine Hs.condF (by kernel_rfl) ?_
  refine Hs.run0 300 (fun _ => by kernel_rfl) ?_
  refine Hs.loop (by kernel_rfl) ?_
  refine Hs.goto (loopAt Tryz.f34 0) [0, 1] [.b true 26 [.v (.int .u8 0), .v (.int .u8 0), .v (.int .u8 0), .v (.int .u8 0), .v (.int .u8 0), .v (.int .u8 0), .v (.int .u8 0), .v (.int .u8 0), .v (.int .u8 0), .v (.int .u8 0), .v (.int .u8 0), .v (.int .u8 0), .v (.int .u8 0), .v (.int .u8 0), .v (.int .u8 0), .v (.int .u8 0), .v (.int .u8 0), .v (.int .u8 0), .v (.int .u8 0), .v (.int .u64 0), .v (.int .u32 0), .v (.int .u32 0), .v (.int .i64 0), .v (.int .i64 0)], .b true 26 [.v (.int .u8 0), .v (.int .u8 3), .v (.int .u8 28), .v (.int .u8 127), .v (.int .u8 21), .v (.int .u8 4), .v (.int .u8 0), .v (.int .u8 0), .v (.int .u8 17), .v (.int .u8 19), .v (.int .u8 26), .v (.int .u8 0), .v (.int .u8 18), .v (.int .u8 23), .v (.int .u8 22), .v (.int .u8 0), .v (.int .u8 0), .v (.int .u8 0), .v (.int .u8 15), .v (.int .u64 0), .v (.int .u32 38400), .v (.int .u32 38400), .v (.int .i64 1), .v (.int .i64 0)]] [(0, .c (.p 0 0)), (1, .c (.p 1 0)), (2, .c (.v (.int .i64 3)))] (by kernel_rfl) (by decide) (by kernel_rfl) (by kernel_rfl) (fun _ => (by kernel_rfl)) (fun u => ?_)
  refine Hs.run0 300 (fun _ => by kernel_rfl) ?_
  refine Hs.condT (by kernel_rfl) ?_
  refine Hs.run0 300 (fun _ => by kernel_rfl) ?_
  refine Hs.condF (by kernel_rfl) ?_
  refine Hs.run0 300 (fun _ => by kernel_rfl) ?_
  refine Hs.loop (by kernel_rfl) ?_
  refine Hs.goto (loopAt Tryz.f34 0) [0, 1] [.b true 26 [.v (.int .u8 0), .v (.int .u8 0), .v (.int .u8 0), .v (.int .u8 0), .v (.int .u8 0), .v (.int .u8 0), .v (.int .u8 0), .v (.int .u8 0), .v (.int .u8 0), .v (.int .u8 0), .v (.int .u8 0), .v (.int .u8 0), .v (.int .u8 0), .v (.int .u8 0), .v (.int .u8 0), .v (.int .u8 0), .v (.int .u8 0), .v (.int .u8 0), .v (.int .u8 0), .v (.int .u64 0), .v (.int .u32 0), .v (.int .u32 0), .v (.int .i64 0), .v (.int .i64 0)], .b true 26 [.v (.int .u8 0), .v (.int .u8 3), .v (.int .u8 28), .v (.int .u8 127), .v (.int .u8 21), .v (.int .u8 4), .v (.int .u8 0), .v (.int .u8 0), .v (.int .u8 17), .v (.int .u8 19), .v (.int .u8 26), .v (.int .u8 0), .v (.int .u8 18), .v (.int .u8 23), .v (.int .u8 22), .v (.int .u8 0), .v (.int .u8 0), .v (.int .u8 0), .v (.int .u8 15), .v (.int .u64 0), .v (.int .u32 38400), .v (.int .u32 38400), .v (.int .i64 1), .v (.int .i64 0)]] [(0, .c (.p 0 0)), (1, .c (.p 1 0)), (2, .c (.v (.int .i64 4)))] (by kernel_rfl) (by decide) (by kernel_rfl) (by kernel_rfl) (fun _ => (by kernel_rfl)) (fun u => ?_)
  refine Hs.run0 300 (fun _ => by kernel_rfl) ?_
  refine Hs.condT (by kernel_rfl) ?_
  refine Hs.run0 300 (fun _ => by kernel_rfl) ?_
  refine Hs.condF (by kernel_rfl) ?_
  refine Hs.run0 300 (fun _ => by kernel_rfl) ?_
  refine Hs.loop (by kernel_rfl) ?_
  refine Hs.goto (loopAt Tryz.f34 0) [0, 1] [.b true 26 [.v (.int .u8 0), .v (.int .u8 0), .v (.int .u8 0), .v (.int .u8 0), .v (.int .u8 0), .v (.int .u8 0), .v (.int .u8 0), .v (.int .u8 0), .v (.int .u8 0), .v (.int .u8 0), .v (.int .u8 0), .v (.int .u8 0), .v (.int .u8 0), .v (.int .u8 0), .v (.int .u8 0), .v (.int .u8 0), .v (.int .u8 0), .v (.int .u8 0), .v (.int .u8 0), .v (.int .u64 0), .v (.int .u32 0), .v (.int .u32 0), .v (.int .i64 0), .v (.int .i64 0)], .b true 26 [.v (.int .u8 0), .v (.int .u8 3), .v (.int .u8 28), .v (.int .u8 127), .v (.int .u8 21), .v (.int .u8 4), .v (.int .u8 0), .v (.int .u8 0), .v (.int .u8 17), .v (.int .u8 19), .v (.int .u8 26), .v (.int .u8 0), .v (.int .u8 18), .v (.int .u8 23), .v (.int .u8 22), .v (.int .u8 0), .v (.int .u8 0), .v (.int .u8 0), .v (.int .u8 15), .v (.int .u64 0), .v (.int .u32 38400), .v (.int .u32 38400), .v (.int .i64 1), .v (.int .i64 0)]] [(0, .c (.p 0 0)), (1, .c (.p 1 0)), (2, .c (.v (.int .i64 5)))] (by kernel_rfl) (by decide) (by kernel_rfl) (by kernel_rfl) (fun _ => (by kernel_rfl)) (fun u => ?_)
  refine Hs.run0 300 (fun _ => by kernel_rfl) ?_
  refine Hs.condT (by kernel_rfl) ?_
  refine Hs.run0 300 (fun _ => by kernel_rfl) ?_
  refine Hs.condF (by kernel_rfl) ?_
  refine Hs.run0 300 (fun _ => by kernel_rfl) ?_
  refine Hs.loop (by kernel_rfl) ?_
  refine Hs.goto (loopAt Tryz.f34 0) [0, 1] [.b true 26 [.v (.int .u8 0), .v (.int .u8 0), .v (.int .u8 0), .v (.int .u8 0), .v (.int .u8 0), .v (.int .u8 0), .v (.int .u8 0), .v (.int .u8 0), .v (.int .u8 0), .v (.int .u8 0), .v (.int .u8 0), .v (.int .u8 0), .v (.int .u8 0), .v (.int .u8 0), .v (.int .u8 0), .v (.int .u8 0), .v (.int .u8 0), .v (.int .u8 0), .v (.int .u8 0), .v (.int .u64 0), .v (.int .u32 0), .v (.int .u32 0), .v (.int .i64 0), .v (.int .i64 0)], .b true 26 [.v (.int .u8 0), .v (.int .u8 3), .v (.int .u8 28), .v (.int .u8 127), .v (.int .u8 21), .v (.int .u8 4), .v (.int .u8 0), .v (.int .u8 0), .v (.int .u8 17), .v (.int .u8 19), .v (.int .u8 26), .v (.int .u8 0), .v (.int .u8 18), .v (.int .u8 23), .v (.int .u8 22), .v (.int .u8 0), .v (.int .u8 0), .v (.int .u8 0), .v (.int .u8 15), .v (.int .u64 0), .v (.int .u32 38400), .v (.int .u32 38400), .v (.int .i64 1), .v (.int .i64 0)]] [(0, .c (.p 0 0)), (1, .c (.p 1 0)), (2, .c (.v (.int .i64 6)))] (by kernel_rfl) (by decide) (by kernel_rfl) (by kernel_rfl) (fun _ => (by kernel_rfl)) (fun u => ?_)
  refine Hs.run0 300 (fun _ => by kernel_rfl) ?_
  refine Hs.condT (by kernel_rfl) ?_
  refine Hs.run0 300 (fun _ => by kernel_rfl) ?_
  refine Hs.condT (by kernel_rfl) ?_
  refine Hs.run0 300 (fun _ => by kernel_rfl) ?_
  refine Hs.loop (by kernel_rfl) ?_
  refine Hs.goto (loopAt Tryz.f34 0) [0, 1] [.b true 26 [.v (.int .u8 0), .v (.int .u8 0), .v (.int .u8 0), .v (.int .u8 0), .v (.int .u8 0), .v (.int .u8 0), .v (.int .u8 0), .v (.int .u8 0), .v (.int .u8 0), .v (.int .u8 0), .v (.int .u8 0), .v (.int .u8 0), .v (.int .u8 0), .v (.int .u8 0), .v (.int .u8 0), .v (.int .u8 0), .v (.int .u8 0), .v (.int .u8 0), .v (.int .u8 0), .v (.int .u64 0), .v (.int .u32 0), .v (.int .u32 0), .v (.int .i64 0), .v (.int .i64 0)], .b true 26 [.v (.int .u8 0), .v (.int .u8 3), .v (.int .u8 28), .v (.int .u8 127), .v (.int .u8 21), .v (.int .u8 4), .v (.int .u8 255), .v (.int .u8 0), .v (.int .u8 17), .v (.int .u8 19), .v (.int .u8 26), .v (.int .u8 0), .v (.int .u8 18), .v (.int .u8 23), .v (.int .u8 22), .v (.int .u8 0), .v (.int .u8 0), .v (.int .u8 0), .v (.int .u8 15), .v (.int .u64 0), .v (.int .u32 38400), .v (.int .u32 38400), .v (.int .i64 1), .v (.int .i64 0)]] [(0, .c (.p 0 0)), (1, .c (.p 1 0)), (2, .c (.v (.int .i64 7)))] (by kernel_rfl) (by decide) (by kernel_rfl) (by kernel_rfl) (fun _ => (by kernel_rfl)) (fun u => ?_)
  refine Hs.run0 300 (fun _ => by kernel_rfl) ?_
  refine Hs.condT (by kernel_rfl) ?_
  refine Hs.run0 300 (fun _ => by kernel_rfl) ?_
  refine Hs.condT (by kernel_rfl) ?_
  refine Hs.run0 300 (fun _ => by kernel_rfl) ?_
  refine Hs.loop (by kernel_rfl) ?_
  refine Hs.goto (loopAt Tryz.f34 0) [0, 1] [.b true 26 [.v (.int .u8 0), .v (.int .u8 0), .v (.int .u8 0), .v (.int .u8 0), .v (.int .u8 0), .v (.int .u8 0), .v (.int .u8 0), .v (.int .u8 0), .v (.int .u8 0), .v (.int .u8 0), .v (.int .u8 0), .v (.int .u8 0), .v (.int .u8 0), .v (.int .u8 0), .v (.int .u8 0), .v (.int .u8 0), .v (.int .u8 0), .v (.int .u8 0), .v (.int .u8 0), .v (.int .u64 0), .v (.int .u32 0), .v (.int .u32 0), .v (.int .i64 0), .v (.int .i64 0)], .b true 26 [.v (.int .u8 0), .v (.int .u8 3), .v (.int .u8 28), .v (.int .u8 127), .v (.int .u8 21), .v (.int .u8 4), .v (.int .u8 255), .v (.int .u8 255), .v (.int .u8 17), .v (.int .u8 19), .v (.int .u8 26), .v (.int .u8 0), .v (.int .u8 18), .v (.int .u8 23), .v (.int .u8 22), .v (.int .u8 0), .v (.int .u8 0), .v (.int .u8 0), .v (.int .u8 15), .v (.int .u64 0), .v (.int .u32 38400), .v (.int .u32 38400), .v (.int .i64 1), .v (.int .i64 0)]] [(0, .c (.p 0 0)), (1, .c (.p 1 0)), (2, .c (.v (.int .i64 8)))] (by kernel_rfl) (by decide) (by kernel_rfl) (by kernel_rfl) (fun _ => (by kernel_rfl)) (fun u => ?_)
  refine Hs.run0 300 (fun _ => by kernel_rfl) ?_
  refine Hs.condT (by kernel_rfl) ?_
  refine Hs.run0 300 (fun _ => by kernel_rfl) ?_
  refine Hs.condF (by kernel_rfl) ?_
  refine Hs.run0 300 (fun _ => by kernel_rfl) ?_
  refine Hs.loop (by kernel_rfl) ?_
  refine Hs.goto (loopAt Tryz.f34 0) [0, 1] [.b true 26 [.v (.int .u8 0), .v (.int .u8 0), .v (.int .u8 0), .v (.int .u8 0), .v (.int .u8 0), .v (.int .u8 0), .v (.int .u8 0), .v (.int .u8 0), .v (.int .u8 0), .v (.int .u8 0), .v (.int .u8 0), .v (.int .u8 0), .v (.int .u8 0), .v (.int .u8 0), .v (.int .u8 0), .v (.int .u8 0), .v (.int .u8 0), .v (.int .u8 0), .v (.int .u8 0), .v (.int .u64 0), .v (.int .u32 0), .v (.int .u32 0), .v (.int .i64 0), .v (.int .i64 0)], .b true 26 [.v (.int .u8 0), .v (.int .u8 3), .v (.int .u8 28), .v (.int .u8 127), .v (.int .u8 21), .v (.int .u8 4), .v (.int .u8 255), .v (.int .u8 255), .v (.int .u8 17), .v (.int .u8 19), .v (.int .u8 26), .v (.int .u8 0), .v (.int .u8 18), .v (.int .u8 23), .v (.int .u8 22), .v (.int .u8 0), .v (.int .u8 0), .v (.int .u8 0), .v (.int .u8 15), .v (.int .u64 0), .v (.int .u32 38400), .v (.int .u32 38400), .v (.int .i64 1), .v (.int .i64 0)]] [(0, .c (.p 0 0)), (1, .c (.p 1 0)), (2, .c (.v (.int .i64 9)))] (by kernel_rfl) (by decide) (by kernel_rfl) (by kernel_rfl) (fun _ => (by kernel_rfl)) (fun u => ?_)
  refine Hs.run0 300 (fun _ => by kernel_rfl) ?_
  refine Hs.condT (by kernel_rfl) ?_
  refine Hs.run0 300 (fun _ => by kernel_rfl) ?_
  refine Hs.condF (by kernel_rfl) ?_
  refine Hs.run0 300 (fun _ => by kernel_rfl) ?_
  refine Hs.loop (by kernel_rfl) ?_
  refine Hs.goto (loopAt Tryz.f34 0) [0, 1] [.b true 26 [.v (.int .u8 0), .v (.int .u8 0), .v (.int .u8 0), .v (.int .u8 0), .v (.int .u8 0), .v (.int .u8 0), .v (.int .u8 0), .v (.int .u8 0), .v (.int .u8 0), .v (.int .u8 0), .v (.int .u8 0), .v (.int .u8 0), .v (.int .u8 0), .v (.int .u8 0), .v (.int .u8 0), .v (.int .u8 0), .v (.int .u8 0), .v (.int .u8 0), .v (.int .u8 0), .v (.int .u64 0), .v (.int .u32 0), .v (.int .u32 0), .v (.int .i64 0), .v (.int .i64 0)], .b true 26 [.v (.int .u8 0), .v (.int .u8 3), .v (.int .u8 28), .v (.int .u8 127), .v (.int .u8 21), .v (.int .u8 4), .v (.int .u8 255), .v (.int .u8 255), .v (.int .u8 17), .v (.int .u8 19), .v (.int .u8 26), .v (.int .u8 0), .v (.int .u8 18), .v (.int .u8 23), .v (.int .u8 22), .v (.int .u8 0), .v (.int .u8 0), .v (.int .u8 0), .v (.int .u8 15), .v (.int .u64 0), .v (.int .u32 38400), .v (.int .u32 38400), .v (.int .i64 1), .v (.int .i64 0)]] [(0, .c (.p 0 0)), (1, .c (.p 1 0)), (2, .c (.v (.int .i64 10)))] (by kernel_rfl) (by decide) (by kernel_rfl) (by kernel_rfl) (fun _ => (by kernel_rfl)) (fun u => ?_)
  refine Hs.run0 300 (fun _ => by kernel_rfl) ?_
  refine Hs.condT (by kernel_rfl) ?_
  refine Hs.run0 300 (fun _ => by kernel_rfl) ?_
  refine Hs.condF (by kernel_rfl) ?_
  refine Hs.run0 300 (fun _ => by kernel_rfl) ?_
  refine Hs.loop (by kernel_rfl) ?_
  refine Hs.goto (loopAt Tryz.f34 0) [0, 1] [.b true 26 [.v (.int .u8 0), .v (.int .u8 0), .v (.int .u8 0), .v (.int .u8 0), .v (.int .u8 0), .v (.int .u8 0), .v (.int .u8 0), .v (.int .u8 0), .v (.int .u8 0), .v (.int .u8 0), .v (.int .u8 0), .v (.int .u8 0), .v (.int .u8 0), .v (.int .u8 0), .v (.int .u8 0), .v (.int .u8 0), .v (.int .u8 0), .v (.int .u8 0), .v (.int .u8 0), .v (.int .u64 0), .v (.int .u32 0), .v (.int .u32 0), .v (.int .i64 0), .v (.int .i64 0)], .b true 26 [.v (.int .u8 0), .v (.int .u8 3), .v (.int .u8 28), .v (.int .u8 127), .v (.int .u8 21), .v (.int .u8 4), .v (.int .u8 255), .v (.int .u8 255), .v (.int .u8 17), .v (.int .u8 19), .v (.int .u8 26), .v (.int .u8 0), .v (.int .u8 18), .v (.int .u8 23), .v (.int .u8 22), .v (.int .u8 0), .v (.int .u8 0), .v (.int .u8 0), .v (.int .u8 15), .v (.int .u64 0), .v (.int .u32 38400), .v (.int .u32 38400), .v (.int .i64 1), .v (.int .i64 0)]] [(0, .c (.p 0 0)), (1, .c (.p 1 0)), (2, .c (.v (.int .i64 11)))] (by kernel_rfl) (by decide) (by kernel_rfl) (by kernel_rfl) (fun _ => (by kernel_rfl)) (fun u => ?_)
  refine Hs.run0 300 (fun _ => by kernel_rfl) ?_
  refine Hs.condT (by kernel_rfl) ?_
  refine Hs.run0 300 (fun _ => by kernel_rfl) ?_
  refine Hs.condT (by kernel_rfl) ?_
  refine Hs.run0 300 (fun _ => by kernel_rfl) ?_
  refine Hs.loop (by kernel_rfl) ?_
  refine Hs.goto (loopAt Tryz.f34 0) [0, 1] [.b true 26 [.v (.int .u8 0), .v (.int .u8 0), .v (.int .u8 0), .v (.int .u8 0), .v (.int .u8 0), .v (.int .u8 0), .v (.int .u8 0), .v (.int .u8 0), .v (.int .u8 0), .v (.int .u8 0), .v (.int .u8 0), .v (.int .u8 0), .v (.int .u8 0), .v (.int .u8 0), .v (.int .u8 0), .v (.int .u8 0), .v (.int .u8 0), .v (.int .u8 0), .v (.int .u8 0), .v (.int .u64 0), .v (.int .u32 0), .v (.int .u32 0), .v (.int .i64 0), .v (.int .i64 0)], .b true 26 [.v (.int .u8 0), .v (.int .u8 3), .v (.int .u8 28), .v (.int .u8 127), .v (.int .u8 21), .v (.int .u8 4), .v (.int .u8 255), .v (.int .u8 255), .v (.int .u8 17), .v (.int .u8 19), .v (.int .u8 26), .v (.int .u8 255), .v (.int .u8 18), .v (.int .u8 23), .v (.int .u8 22), .v (.int .u8 0), .v (.int .u8 0), .v (.int .u8 0), .v (.int .u8 15), .v (.int .u64 0), .v (.int .u32 38400), .v (.int .u32 38400), .v (.int .i64 1), .v (.int .i64 0)]] [(0, .c (.p 0 0)), (1, .c (.p 1 0)), (2, .c (.v (.int .i64 12)))] (by kernel_rfl) (by decide) (by kernel_rfl) (by kernel_rfl) (fun _ => (by kernel_rfl)) (fun u => ?_)
  refine Hs.run0 300 (fun _ => by kernel_rfl) ?_
  refine Hs.condT (by kernel_rfl) ?_
  refine Hs.run0 300 (fun _ => by kernel_rfl) ?_
  refine Hs.condF (by kernel_rfl) ?_
  refine Hs.run0 300 (fun _ => by kernel_rfl) ?_
  refine Hs.loop (by kernel_rfl) ?_
  refine Hs.goto (loopAt Tryz.f34 0) [0, 1] [.b true 26 [.v (.int .u8 0), .v (.int .u8 0), .v (.int .u8 0), .v (.int .u8 0), .v (.int .u8 0), .v (.int .u8 0), .v (.int .u8 0), .v (.int .u8 0), .v (.int .u8 0), .v (.int .u8 0), .v (.int .u8 0), .v (.int .u8 0), .v (.int .u8 0), .v (.int .u8 0), .v (.int .u8 0), .v (.int .u8 0), .v (.int .u8 0), .v (.int .u8 0), .v (.int .u8 0), .v (.int .u64 0), .v (.int .u32 0), .v (.int .u32 0), .v (.int .i64 0), .v (.int .i64 0)], .b true 26 [.v (.int .u8 0), .v (.int .u8 3), .v (.int .u8 28), .v (.int .u8 127), .v (.int .u8 21), .v (.int .u8 4), .v (.int .u8 255), .v (.int .u8 255), .v (.int .u8 17), .v (.int .u8 19), .v (.int .u8 26), .v (.int .u8 255), .v (.int .u8 18), .v (.int .u8 23), .v (.int .u8 22), .v (.int .u8 0), .v (.int .u8 0), .v (.int .u8 0), .v (.int .u8 15), .v (.int .u64 0), .v (.int .u32 38400), .v (.int .u32 38400), .v (.int .i64 1), .v (.int .i64 0)]] [(0, .c (.p 0 0)), (1, .c (.p 1 0)), (2, .c (.v (.int .i64 13)))] (by kernel_rfl) (by decide) (by kernel_rfl) (by kernel_rfl) (fun _ => (by kernel_rfl)) (fun u => ?_)
  refine Hs.run0 300 (fun _ => by kernel_rfl) ?_
  refine Hs.condT (by kernel_rfl) ?_
  refine Hs.run0 300 (fun _ => by kernel_rfl) ?_
  refine Hs.condF (by kernel_rfl) ?_
  refine Hs.run0 300 (fun _ => by kernel_rfl) ?_
  refine Hs.loop (by kernel_rfl) ?_
  refine Hs.goto (loopAt Tryz.f34 0) [0, 1] [.b true 26 [.v (.int .u8 0), .v (.int .u8 0), .v (.int .u8 0), .v (.int .u8 0), .v (.int .u8 0), .v (.int .u8 0), .v (.int .u8 0), .v (.int .u8 0), .v (.int .u8 0), .v (.int .u8 0), .v (.int .u8 0), .v (.int .u8 0), .v (.int .u8 0), .v (.int .u8 0), .v (.int .u8 0), .v (.int .u8 0), .v (.int .u8 0), .v (.int .u8 0), .v (.int .u8 0), .v (.int .u64 0), .v (.int .u32 0), .v (.int .u32 0), .v (.int .i64 0), .v (.int .i64 0)], .b true 26 [.v (.int .u8 0), .v (.int .u8 3), .v (.int .u8 28), .v (.int .u8 127), .v (.int .u8 21), .v (.int .u8 4), .v (.int .u8 255), .v (.int .u8 255), .v (.int .u8 17), .v (.int .u8 19), .v (.int .u8 26), .v (.int .u8 255), .v (.int .u8 18), .v (.int .u8 23), .v (.int .u8 22), .v (.int .u8 0), .v (.int .u8 0), .v (.int .u8 0), .v (.int .u8 15), .v (.int .u64 0), .v (.int .u32 38400), .v (.int .u32 38400), .v (.int .i64 1), .v (.int .i64 0)]] [(0, .c (.p 0 0)), (1, .c (.p 1 0)), (2, .c (.v (.int .i64 14)))] (by kernel_rfl) (by decide) (by kernel_rfl) (by kernel_rfl) (fun _ => (by kernel_rfl)) (fun u => ?_)
  refine Hs.run0 300 (fun _ => by kernel_rfl) ?_
  refine Hs.condT (by kernel_rfl) ?_
  refine Hs.run0 300 (fun _ => by kernel_rfl) ?_
  refine Hs.condF (by kernel_rfl) ?_
  refine Hs.run0 300 (fun _ => by kernel_rfl) ?_
  refine Hs.loop (by kernel_rfl) ?_
  refine Hs.goto (loopAt Tryz.f34 0) [0, 1] [.b true 26 [.v (.int .u8 0), .v (.int .u8 0), .v (.int .u8 0), .v (.int .u8 0), .v (.int .u8 0), .v (.int .u8 0), .v (.int .u8 0), .v (.int .u8 0), .v (.int .u8 0), .v (.int .u8 0), .v (.int .u8 0), .v (.int .u8 0), .v (.int .u8 0), .v (.int .u8 0), .v (.int .u8 0), .v (.int .u8 0), .v (.int .u8 0), .v (.int .u8 0), .v (.int .u8 0), .v (.int .u64 0), .v (.int .u32 0), .v (.int .u32 0), .v (.int .i64 0), .v (.int .i64 0)], .b true 26 [.v (.int .u8 0), .v (.int .u8 3), .v (.int .u8 28), .v (.int .u8 127), .v (.int .u8 21), .v (.int .u8 4), .v (.int .u8 255), .v (.int .u8 255), .v (.int .u8 17), .v (.int .u8 19), .v (.int .u8 26), .v (.int .u8 255), .v (.int .u8 18), .v (.int .u8 23), .v (.int .u8 22), .v (.int .u8 0), .v (.int .u8 0), .v (.int .u8 0), .v (.int .u8 15), .v (.int .u64 0), .v (.int .u32 38400), .v (.int .u32 38400), .v (.int .i64 1), .v (.int .i64 0)]] [(0, .c (.p 0 0)), (1, .c (.p 1 0)), (2, .c (.v (.int .i64 15)))] (by kernel_rfl) (by decide) (by kernel_rfl) (by kernel_rfl) (fun _ => (by kernel_rfl)) (fun u => ?_)
  refine Hs.run0 300 (fun _ => by kernel_rfl) ?_
  refine Hs.condT (by kernel_rfl) ?_
  refine Hs.run0 300 (fun _ => by kernel_rfl) ?_
  refine Hs.condT (by kernel_rfl) ?_
  refine Hs.run0 300 (fun _ => by kernel_rfl) ?_
  refine Hs.loop (by kernel_rfl) ?_
  refine Hs.goto (loopAt Tryz.f34 0) [0, 1] [.b true 26 [.v (.int .u8 0), .v (.int .u8 0), .v (.int .u8 0), .v (.int .u8 0), .v (.int .u8 0), .v (.int .u8 0), .v (.int .u8 0), .v (.int .u8 0), .v (.int .u8 0), .v (.int .u8 0), .v (.int .u8 0), .v (.int .u8 0), .v (.int .u8 0), .v (.int .u8 0), .v (.int .u8 0), .v (.int .u8 0), .v (.int .u8 0), .v (.int .u8 0), .v (.int .u8 0), .v (.int .u64 0), .v (.int .u32 0), .v (.int .u32 0), .v (.int .i64 0), .v (.int .i64 0)], .b true 26 [.v (.int .u8 0), .v (.int .u8 3), .v (.int .u8 28), .v (.int .u8 127), .v (.int .u8 21), .v (.int .u8 4), .v (.int .u8 255), .v (.int .u8 255), .v (.int .u8 17), .v (.int .u8 19), .v (.int .u8 26), .v (.int .u8 255), .v (.int .u8 18), .v (.int .u8 23), .v (.int .u8 22), .v (.int .u8 255), .v (.int .u8 0), .v (.int .u8 0), .v (.int .u8 15), .v (.int .u64 0), .v (.int .u32 38400), .v (.int .u32 38400), .v (.int .i64 1), .v (.int .i64 0)]] [(0, .c (.p 0 0)), (1, .c (.p 1 0)), (2, .c (.v (.int .i64 16)))] (by kernel_rfl) (by decide) (by kernel_rfl) (by kernel_rfl) (fun _ => (by kernel_rfl)) (fun u => ?_)
  refine Hs.run0 300 (fun _ => by kernel_rfl) ?_
  refine Hs.condT (by kernel_rfl) ?_
  refine Hs.run0 300 (fun _ => by kernel_rfl) ?_
  refine Hs.condT (by kernel_rfl) ?_
  refine Hs.run0 300 (fun _ => by kernel_rfl) ?_
  refine Hs.loop (by kernel_rfl) ?_
  refine Hs.goto (loopAt Tryz.f34 0) [0, 1] [.b true 26 [.v (.int .u8 0), .v (.int .u8 0), .v (.int .u8 0), .v (.int .u8 0), .v (.int .u8 0), .v (.int .u8 0), .v (.int .u8 0), .v (.int .u8 0), .v (.int .u8 0), .v (.int .u8 0), .v (.int .u8 0), .v (.int .u8 0), .v (.int .u8 0), .v (.int .u8 0), .v (.int .u8 0), .v (.int .u8 0), .v (.int .u8 0), .v (.int .u8 0), .v (.int .u8 0), .v (.int .u64 0), .v (.int .u32 0), .v (.int .u32 0), .v (.int .i64 0), .v (.int .i64 0)], .b true 26 [.v (.int .u8 0), .v (.int .u8 3), .v (.int .u8 28), .v (.int .u8 127), .v (.int .u8 21), .v (.int .u8 4), .v (.int .u8 255), .v (.int .u8 255), .v (.int .u8 17), .v (.int .u8 19), .v (.int .u8 26), .v (.int .u8 255), .v (.int .u8 18), .v (.int .u8 23), .v (.int .u8 22), .v (.int .u8 255), .v (.int .u8 255), .v (.int .u8 0), .v (.int .u8 15), .v (.int .u64 0), .v (.int .u32 38400), .v (.int .u32 38400), .v (.int .i64 1), .v (.int .i64 0)]] [(0, .c (.p 0 0)), (1, .c (.p 1 0)), (2, .c (.v (.int .i64 17)))] (by kernel_rfl) (by decide) (by kernel_rfl) (by kernel_rfl) (fun _ => (by kernel_rfl)) (fun u => ?_)
  refine Hs.run0 300 (fun _ => by kernel_rfl) ?_
  refine Hs.condT (by kernel_rfl) ?_
  refine Hs.run0 300 (fun _ => by kernel_rfl) ?_
  refine Hs.condT (by kernel_rfl) ?_
  refine Hs.run0 300 (fun _ => by kernel_rfl) ?_
  refine Hs.loop (by kernel_rfl) ?_
  refine Hs.goto (loopAt Tryz.f34 0) [0, 1] [.b true 26 [.v (.int .u8 0), .v (.int .u8 0), .v (.int .u8 0), .v (.int .u8 0), .v (.int .u8 0), .v (.int .u8 0), .v (.int .u8 0), .v (.int .u8 0), .v (.int .u8 0), .v (.int .u8 0), .v (.int .u8 0), .v (.int .u8 0), .v (.int .u8 0), .v (.int .u8 0), .v (.int .u8 0), .v (.int .u8 0), .v (.int .u8 0), .v (.int .u8 0), .v (.int .u8 0), .v (.int .u64 0), .v (.int .u32 0), .v (.int .u32 0), .v (.int .i64 0), .v (.int .i64 0)], .b true 26 [.v (.int .u8 0), .v (.int .u8 3), .v (.int .u8 28), .v (.int .u8 127), .v (.int .u8 21), .v (.int .u8 4), .v (.int .u8 255), .v (.int .u8 255), .v (.int .u8 17), .v (.int .u8 19), .v (.int .u8 26), .v (.int .u8 255), .v (.int .u8 18), .v (.int .u8 23), .v (.int .u8 22), .v (.int .u8 255), .v (.int .u8 255), .v (.int .u8 255), .v (.int .u8 15), .v (.int .u64 0), .v (.int .u32 38400), .v (.int .u32 38400), .v (.int .i64 1), .v (.int .i64 0)]] [(0, .c (.p 0 0)), (1, .c (.p 1 0)), (2, .c (.v (.int .i64 18)))] (by kernel_rfl) (by decide) (by kernel_rfl) (by kernel_rfl) (fun _ => (by kernel_rfl)) (fun u => ?_)
  refine Hs.run0 300 (fun _ => by kernel_rfl) ?_
  refine Hs.condT (by kernel_rfl) ?_
  refine Hs.run0 300 (fun _ => by kernel_rfl) ?_
  refine Hs.condF (by kernel_rfl) ?_
  refine Hs.run0 300 (fun _ => by kernel_rfl) ?_
  refine Hs.loop (by kernel_rfl) ?_
  refine Hs.goto (loopAt Tryz.f34 0) [0, 1] [.b true 26 [.v (.int .u8 0), .v (.int .u8 0), .v (.int .u8 0), .v (.int .u8 0), .v (.int .u8 0), .v (.int .u8 0), .v (.int .u8 0), .v (.int .u8 0), .v (.int .u8 0), .v (.int .u8 0), .v (.int .u8 0), .v (.int .u8 0), .v (.int .u8 0), .v (.int .u8 0), .v (.int .u8 0), .v (.int .u8 0), .v (.int .u8 0), .v (.int .u8 0), .v (.int .u8 0), .v (.int .u64 0), .v (.int .u32 0), .v (.int .u32 0), .v (.int .i64 0), .v (.int .i64 0)], .b true 26 [.v (.int .u8 0), .v (.int .u8 3), .v (.int .u8 28), .v (.int .u8 127), .v (.int .u8 21), .v (.int .u8 4), .v (.int .u8 255), .v (.int .u8 255), .v (.int .u8 17), .v (.int .u8 19), .v (.int .u8 26), .v (.int .u8 255), .v (.int .u8 18), .v (.int .u8 23), .v (.int .u8 22), .v (.int .u8 255), .v (.int .u8 255), .v (.int .u8 255), .v (.int .u8 15), .v (.int .u64 0), .v (.int .u32 38400), .v (.int .u32 38400), .v (.int .i64 1), .v (.int .i64 0)]] [(0, .c (.p 0 0)), (1, .c (.p 1 0)), (2, .c (.v (.int .i64 19)))] (by kernel_rfl) (by decide) (by kernel_rfl) (by kernel_rfl) (fun _ => (by kernel_rfl)) (fun u => ?_)
  refine Hs.run0 300 (fun _ => by kernel_rfl) ?_
  refine Hs.condF (by kernel_rfl) ?_
  refine Hs.run0 300 (fun _ => by kernel_rfl) ?_
  refine Hs.loop (by kernel_rfl) ?_
  refine Hs.goto (loopAt Tryz.f34 1) [0, 1] [.b true 26 [.v (.int .u8 0), .v (.int .u8 0), .v (.int .u8 0), .v (.int .u8 0), .v (.int .u8 0), .v (.int .u8 0), .v (.int .u8 0), .v (.int .u8 0), .v (.int .u8 0), .v (.int .u8 0), .v (.int .u8 0), .v (.int .u8 0), .v (.int .u8 0), .v (.int .u8 0), .v (.int .u8 0), .v (.int .u8 0), .v (.int .u8 0), .v (.int .u8 0), .v (.int .u8 0), .v (.int .u64 0), .v (.int .u32 0), .v (.int .u32 0), .v (.int .i64 0), .v (.int .i64 0)], .b true 26 [.v (.int .u8 0), .v (.int .u8 3), .v (.int .u8 28), .v (.int .u8 127), .v (.int .u8 21), .v (.int .u8 4), .v (.int .u8 255), .v (.int .u8 255), .v (.int .u8 17), .v (.int .u8 19), .v (.int .u8 26), .v (.int .u8 255), .v (.int .u8 18), .v (.int .u8 23), .v (.int .u8 22), .v (.int .u8 255), .v (.int .u8 255), .v (.int .u8 255), .v (.int .u8 15), .v (.int .u64 0), .v (.int .u32 38400), .v (.int .u32 38400), .v (.int .i64 1), .v (.int .i64 0)]] [(0, .c (.p 0 0)), (1, .c (.p 1 0)), (20, .c (.v (.agg #[.int .i64 36, .int .i64 38, .int .i64 41, .int .i64 50, .int .i64 51, .int .i64 53, .int .i64 54, .int .i64 55, .int .i64 60, .int .i64 61, .int .i64 59, .int .i64 70, .int .i64 72, .int .i64 91]))), (21, .c (.v (.int .i64 0)))] (by kernel_rfl) (by decide) (by kernel_rfl) (by kernel_rfl) (fun _ => (by kernel_rfl)) (fun u => ?_)
  refine Hs.run0 300 (fun _ => by kernel_rfl) ?_
  refine Hs.condT (by kernel_rfl) ?_
  refine Hs.run0 300 (fun _ => by kernel_rfl) ?_
  refine Hs.any [1, 1006] (by kernel_rfl) ?_
  refine Hs.run0 300 (fun _ => by kernel_rfl) ?_
  refine Hs.callV (fun w' H => bit_any 36 (by decide) (by decide) w') (by kernel_rfl) ?_
  refine Hs.run0 300 (fun _ => by kernel_rfl) ?_
  refine Hs.loop (by kernel_rfl) ?_
  refine Hs.goto (loopAt Tryz.f34 1) [0, 1] [.b true 26 [.v (.int .u8 0), .v (.int .u8 0), .v (.int .u8 0), .v (.int .u8 0), .v (.int .u8 0), .v (.int .u8 0), .v (.int .u8 0), .v (.int .u8 0), .v (.int .u8 0), .v (.int .u8 0), .v (.int .u8 0), .v (.int .u8 0), .v (.int .u8 0), .v (.int .u8 0), .v (.int .u8 0), .v (.int .u8 0), .v (.int .u8 0), .v (.int .u8 0), .v (.int .u8 0), .v (.int .u64 0), .v (.int .u32 0), .v (.int .u32 0), .v (.int .i64 0), .v (.int .i64 0)], .b true 26 [.v (.int .u8 0), .v (.int .u8 3), .v (.int .u8 28), .v (.int .u8 127), .v (.int .u8 21), .v (.int .u8 4), .v (.int .u8 255), .v (.int .u8 255), .v (.int .u8 17), .v (.int .u8 19), .v (.int .u8 26), .v (.int .u8 255), .v (.int .u8 18), .v (.int .u8 23), .v (.int .u8 22), .v (.int .u8 255), .v (.int .u8 255), .v (.int .u8 255), .v (.int .u8 15), .v (.int .u64 64), .v (.int .u32 38400), .v (.int .u32 38400), .v (.int .i64 1), .v (.int .i64 0)]] [(0, .c (.p 0 0)), (1, .c (.p 1 0)), (20, .c (.v (.agg #[.int .i64 36, .int .i64 38, .int .i64 41, .int .i64 50, .int .i64 51, .int .i64 53, .int .i64 54, .int .i64 55, .int .i64 60, .int .i64 61, .int .i64 59, .int .i64 70, .int .i64 72, .int .i64 91]))), (21, .c (.v (.int .i64 1)))] (by kernel_rfl) (by decide) (by kernel_rfl) (by kernel_rfl) (fun _ => (by kernel_rfl)) (fun u => ?_)
  refine Hs.run0 300 (fun _ => by kernel_rfl) ?_
  refine Hs.condT (by kernel_rfl) ?_
  refine Hs.run0 300 (fun _ => by kernel_rfl) ?_
  refine Hs.any [1, 1006] (by kernel_rfl) ?_
  refine Hs.run0 300 (fun _ => by kernel_rfl) ?_
  refine Hs.callV (fun w' H => bit_any 38 (by decide) (by decide) w') (by kernel_rfl) ?_
  refine Hs.run0 300 (fun _ => by kernel_rfl) ?_
  refine Hs.loop (by kernel_rfl) ?_
  refine Hs.goto (loopAt Tryz.f34 1) [0, 1] [.b true 26 [.v (.int .u8 0), .v (.int .u8 0), .v (.int .u8 0), .v (.int .u8 0), .v (.int .u8 0), .v (.int .u8 0), .v (.int .u8 0), .v (.int .u8 0), .v (.int .u8 0), .v (.int .u8 0), .v (.int .u8 0), .v (.int .u8 0), .v (.int .u8 0), .v (.int .u8 0), .v (.int .u8 0), .v (.int .u8 0), .v (.int .u8 0), .v (.int .u8 0), .v (.int .u8 0), .v (.int .u64 0), .v (.int .u32 0), .v (.int .u32 0), .v (.int .i64 0), .v (.int .i64 0)], .b true 26 [.v (.int .u8 0), .v (.int .u8 3), .v (.int .u8 28), .v (.int .u8 127), .v (.int .u8 21), .v (.int .u8 4), .v (.int .u8 255), .v (.int .u8 255), .v (.int .u8 17), .v (.int .u8 19), .v (.int .u8 26), .v (.int .u8 255), .v (.int .u8 18), .v (.int .u8 23), .v (.int .u8 22), .v (.int .u8 255), .v (.int .u8 255), .v (.int .u8 255), .v (.int .u8 15), .v (.int .u64 320), .v (.int .u32 38400), .v (.int .u32 38400), .v (.int .i64 1), .v (.int .i64 0)]] [(0, .c (.p 0 0)), (1, .c (.p 1 0)), (20, .c (.v (.agg #[.int .i64 36, .int .i64 38, .int .i64 41, .int .i64 50, .int .i64 51, .int .i64 53, .int .i64 54, .int .i64 55, .int .i64 60, .int .i64 61, .int .i64 59, .int .i64 70, .int .i64 72, .int .i64 91]))), (21, .c (.v (.int .i64 2)))] (by kernel_rfl) (by decide) (by kernel_rfl) (by kernel_rfl) (fun _ => (by kernel_rfl)) (fun u => ?_)
  refine Hs.run0 300 (fun _ => by kernel_rfl) ?_
  refine Hs.condT (by kernel_rfl) ?_
  refine Hs.run0 300 (fun _ => by kernel_rfl) ?_
  refine Hs.any [1, 1006] (by kernel_rfl) ?_
  refine Hs.run0 300 (fun _ => by kernel_rfl) ?_
  refine Hs.callV (fun w' H => bit_any 41 (by decide) (by decide) w') (by kernel_rfl) ?_
  refine Hs.run0 300 (fun _ => by kernel_rfl) ?_
  refine Hs.loop (by kernel_rfl) ?_
  refine Hs.goto (loopAt Tryz.f34 1) [0, 1] [.b true 26 [.v (.int .u8 0), .v (.int .u8 0), .v (.int .u8 0), .v (.int .u8 0), .v (.int .u8 0), .v (.int .u8 0), .v (.int .u8 0), .v (.int .u8 0), .v (.int .u8 0), .v (.int .u8 0), .v (.int .u8 0), .v (.int .u8 0), .v (.int .u8 0), .v (.int .u8 0), .v (.int .u8 0), .v (.int .u8 0), .v (.int .u8 0), .v (.int .u8 0), .v (.int .u8 0), .v (.int .u64 0), .v (.int .u32 0), .v (.int .u32 0), .v (.int .i64 0), .v (.int .i64 0)], .b true 26 [.v (.int .u8 0), .v (.int .u8 3), .v (.int .u8 28), .v (.int .u8 127), .v (.int .u8 21), .v (.int .u8 4), .v (.int .u8 255), .v (.int .u8 255), .v (.int .u8 17), .v (.int .u8 19), .v (.int .u8 26), .v (.int .u8 255), .v (.int .u8 18), .v (.int .u8 23), .v (.int .u8 22), .v (.int .u8 255), .v (.int .u8 255), .v (.int .u8 255), .v (.int .u8 15), .v (.int .u64 2368), .v (.int .u32 38400), .v (.int .u32 38400), .v (.int .i64 1), .v (.int .i64 0)]] [(0, .c (.p 0 0)), (1, .c (.p 1 0)), (20, .c (.v (.agg #[.int .i64 36, .int .i64 38, .int .i64 41, .int .i64 50, .int .i64 51, .int .i64 53, .int .i64 54, .int .i64 55, .int .i64 60, .int .i64 61, .int .i64 59, .int .i64 70, .int .i64 72, .int .i64 91]))), (21, .c (.v (.int .i64 3)))] (by kernel_rfl) (by decide) (by kernel_rfl) (by kernel_rfl) (fun _ => (by kernel_rfl)) (fun u => ?_)
  refine Hs.run0 300 (fun _ => by kernel_rfl) ?_
  refine Hs.condT (by kernel_rfl) ?_
  refine Hs.run0 300 (fun _ => by kernel_rfl) ?_
  refine Hs.any [1, 1006] (by kernel_rfl) ?_
  refine Hs.run0 300 (fun _ => by kernel_rfl) ?_
  refine Hs.callV (fun w' H => bit_any 50 (by decide) (by decide) w') (by kernel_rfl) ?_
  refine Hs.run0 300 (fun _ => by kernel_rfl) ?_
  refine Hs.loop (by kernel_rfl) ?_
  refine Hs.goto (loopAt Tryz.f34 1) [0, 1] [.b true 26 [.v (.int .u8 0), .v (.int .u8 0), .v (.int .u8 0), .v (.int .u8 0), .v (.int .u8 0), .v (.int .u8 0), .v (.int .u8 0), .v (.int .u8 0), .v (.int .u8 0), .v (.int .u8 0), .v (.int .u8 0), .v (.int .u8 0), .v (.int .u8 0), .v (.int .u8 0), .v (.int .u8 0), .v (.int .u8 0), .v (.int .u8 0), .v (.int .u8 0), .v (.int .u8 0), .v (.int .u64 0), .v (.int .u32 0), .v (.int .u32 0), .v (.int .i64 0), .v (.int .i64 0)], .b true 26 [.v (.int .u8 0), .v (.int .u8 3), .v (.int .u8 28), .v (.int .u8 127), .v (.int .u8 21), .v (.int .u8 4), .v (.int .u8 255), .v (.int .u8 255), .v (.int .u8 17), .v (.int .u8 19), .v (.int .u8 26), .v (.int .u8 255), .v (.int .u8 18), .v (.int .u8 23), .v (.int .u8 22), .v (.int .u8 255), .v (.int .u8 255), .v (.int .u8 255), .v (.int .u8 15), .v (.int .u64 1050944), .v (.int .u32 38400), .v (.int .u32 38400), .v (.int .i64 1), .v (.int .i64 0)]] [(0, .c (.p 0 0)), (1, .c (.p 1 0)), (20, .c (.v (.agg #[.int .i64 36, .int .i64 38, .int .i64 41, .int .i64 50, .int .i64 51, .int .i64 53, .int .i64 54, .int .i64 55, .int .i64 60, .int .i64 61, .int .i64 59, .int .i64 70, .int .i64 72, .int .i64 91]))), (21, .c (.v (.int .i64 4)))] (by kernel_rfl) (by decide) (by kernel_rfl) (by kernel_rfl) (fun _ => (by kernel_rfl)) (fun u => ?_)
  refine Hs.run0 300 (fun _ => by kernel_rfl) ?_
  refine Hs.condT (by kernel_rfl) ?_
  refine Hs.run0 300 (fun _ => by kernel_rfl) ?_
  refine Hs.any [1, 1006] (by kernel_rfl) ?_
  refine Hs.run0 300 (fun _ => by kernel_rfl) ?_
  refine Hs.callV (fun w' H => bit_any 51 (by decide) (by decide) w') (by kernel_rfl) ?_
  refine Hs.run0 300 (fun _ => by kernel_rfl) ?_
  refine Hs.loop (by kernel_rfl) ?_
  refine Hs.goto (loopAt Tryz.f34 1) [0, 1] [.b true 26 [.v (.int .u8 0), .v (.int .u8 0), .v (.int .u8 0), .v (.int .u8 0), .v (.int .u8 0), .v (.int .u8 0), .v (.int .u8 0), .v (.int .u8 0), .v (.int .u8 0), .v (.int .u8 0), .v (.int .u8 0), .v (.int .u8 0), .v (.int .u8 0), .v (.int .u8 0), .v (.int .u8 0), .v (.int .u8 0), .v (.int .u8 0), .v (.int .u8 0), .v (.int .u8 0), .v (.int .u64 0), .v (.int .u32 0), .v (.int .u32 0), .v (.int .i64 0), .v (.int .i64 0)], .b true 26 [.v (.int .u8 0), .v (.int .u8 3), .v (.int .u8 28), .v (.int .u8 127), .v (.int .u8 21), .v (.int .u8 4), .v (.int .u8 255), .v (.int .u8 255), .v (.int .u8 17), .v (.int .u8 19), .v (.int .u8 26), .v (.int .u8 255), .v (.int .u8 18), .v (.int .u8 23), .v (.int .u8 22), .v (.int .u8 255), .v (.int .u8 255), .v (.int .u8 255), .v (.int .u8 15), .v (.int .u64 3148096), .v (.int .u32 38400), .v (.int .u32 38400), .v (.int .i64 1), .v (.int .i64 0)]] [(0, .c (.p 0 0)), (1, .c (.p 1 0)), (20, .c (.v (.agg #[.int .i64 36, .int .i64 38, .int .i64 41, .int .i64 50, .int .i64 51, .int .i64 53, .int .i64 54, .int .i64 55, .int .i64 60, .int .i64 61, .int .i64 59, .int .i64 70, .int .i64 72, .int .i64 91]))), (21, .c (.v (.int .i64 5)))] (by kernel_rfl) (by decide) (by kernel_rfl) (by kernel_rfl) (fun _ => (by kernel_rfl)) (fun u => ?_)
  refine Hs.run0 300 (fun _ => by kernel_rfl) ?_
  refine Hs.condT (by kernel_rfl) ?_
  refine Hs.run0 300 (fun _ => by kernel_rfl) ?_
  refine Hs.any [1, 1006] (by kernel_rfl) ?_
  refine Hs.run0 300 (fun _ => by kernel_rfl) ?_
  refine Hs.callV (fun w' H => bit_any 53 (by decide) (by decide) w') (by kernel_rfl) ?_
  refine Hs.run0 300 (fun _ => by kernel_rfl) ?_
  refine Hs.loop (by kernel_rfl) ?_
  refine Hs.goto (loopAt Tryz.f34 1) [0, 1] [.b true 26 [.v (.int .u8 0), .v (.int .u8 0), .v (.int .u8 0), .v (.int .u8 0), .v (.int .u8 0), .v (.int .u8 0), .v (.int .u8 0), .v (.int .u8 0), .v (.int .u8 0), .v (.int .u8 0), .v (.int .u8 0), .v (.int .u8 0), .v (.int .u8 0), .v (.int .u8 0), .v (.int .u8 0), .v (.int .u8 0), .v (.int .u8 0), .v (.int .u8 0), .v (.int .u8 0), .v (.int .u64 0), .v (.int .u32 0), .v (.int .u32 0), .v (.int .i64 0), .v (.int .i64 0)], .b true 26 [.v (.int .u8 0), .v (.int .u8 3), .v (.int .u8 28), .v (.int .u8 127), .v (.int .u8 21), .v (.int .u8 4), .v (.int .u8 255), .v (.int .u8 255), .v (.int .u8 17), .v (.int .u8 19), .v (.int .u8 26), .v (.int .u8 255), .v (.int .u8 18), .v (.int .u8 23), .v (.int .u8 22), .v (.int .u8 255), .v (.int .u8 255), .v (.int .u8 255), .v (.int .u8 15), .v (.int .u64 11536704), .v (.int .u32 38400), .v (.int .u32 38400), .v (.int .i64 1), .v (.int .i64 0)]] [(0, .c (.p 0 0)), (1, .c (.p 1 0)), (20, .c (.v (.agg #[.int .i64 36, .int .i64 38, .int .i64 41, .int .i64 50, .int .i64 51, .int .i64 53, .int .i64 54, .int .i64 55, .int .i64 60, .int .i64 61, .int .i64 59, .int .i64 70, .int .i64 72, .int .i64 91]))), (21, .c (.v (.int .i64 6)))] (by kernel_rfl) (by decide) (by kernel_rfl) (by kernel_rfl) (fun _ => (by kernel_rfl)) (fun u => ?_)
  refine Hs.run0 300 (fun _ => by kernel_rfl) ?_
  refine Hs.condT (by kernel_rfl) ?_
  refine Hs.run0 300 (fun _ => by kernel_rfl) ?_
  refine Hs.any [1, 1006] (by kernel_rfl) ?_
  refine Hs.run0 300 (fun _ => by kernel_rfl) ?_
  refine Hs.callV (fun w' H => bit_any 54 (by decide) (by decide) w') (by kernel_rfl) ?_
  refine Hs.run0 300 (fun _ => by kernel_rfl) ?_
  refine Hs.loop (by kernel_rfl) ?_
  refine Hs.goto (loopAt Tryz.f34 1) [0, 1] [.b true 26 [.v (.int .u8 0), .v (.int .u8 0), .v (.int .u8 0), .v (.int .u8 0), .v (.int .u8 0), .v (.int .u8 0), .v (.int .u8 0), .v (.int .u8 0), .v (.int .u8 0), .v (.int .u8 0), .v (.int .u8 0), .v (.int .u8 0), .v (.int .u8 0), .v (.int .u8 0), .v (.int .u8 0), .v (.int .u8 0), .v (.int .u8 0), .v (.int .u8 0), .v (.int .u8 0), .v (.int .u64 0), .v (.int .u32 0), .v (.int .u32 0), .v (.int .i64 0), .v (.int .i64 0)], .b true 26 [.v (.int .u8 0), .v (.int .u8 3), .v (.int .u8 28), .v (.int .u8 127), .v (.int .u8 21), .v (.int .u8 4), .v (.int .u8 255), .v (.int .u8 255), .v (.int .u8 17), .v (.int .u8 19), .v (.int .u8 26), .v (.int .u8 255), .v (.int .u8 18), .v (.int .u8 23), .v (.int .u8 22), .v (.int .u8 255), .v (.int .u8 255), .v (.int .u8 255), .v (.int .u8 15), .v (.int .u64 28313920), .v (.int .u32 38400), .v (.int .u32 38400), .v (.int .i64 1), .v (.int .i64 0)]] [(0, .c (.p 0 0)), (1, .c (.p 1 0)), (20, .c (.v (.agg #[.int .i64 36, .int .i64 38, .int .i64 41, .int .i64 50, .int .i64 51, .int .i64 53, .int .i64 54, .int .i64 55, .int .i64 60, .int .i64 61, .int .i64 59, .int .i64 70, .int .i64 72, .int .i64 91]))), (21, .c (.v (.int .i64 7)))] (by kernel_rfl) (by decide) (by kernel_rfl) (by kernel_rfl) (fun _ => (by kernel_rfl)) (fun u => ?_)
  refine Hs.run0 300 (fun _ => by kernel_rfl) ?_
  refine Hs.condT (by kernel_rfl) ?_
  refine Hs.run0 300 (fun _ => by kernel_rfl) ?_
  refine Hs.any [1, 1006] (by kernel_rfl) ?_
  refine Hs.run0 300 (fun _ => by kernel_rfl) ?_
  refine Hs.callV (fun w' H => bit_any 55 (by decide) (by decide) w') (by kernel_rfl) ?_
  refine Hs.run0 300 (fun _ => by kernel_rfl) ?_
  refine Hs.loop (by kernel_rfl) ?_
  refine Hs.goto (loopAt Tryz.f34 1) [0, 1] [.b true 26 [.v (.int .u8 0), .v (.int .u8 0), .v (.int .u8 0), .v (.int .u8 0), .v (.int .u8 0), .v (.int .u8 0), .v (.int .u8 0), .v (.int .u8 0), .v (.int .u8 0), .v (.int .u8 0), .v (.int .u8 0), .v (.int .u8 0), .v (.int .u8 0), .v (.int .u8 0), .v (.int .u8 0), .v (.int .u8 0), .v (.int .u8 0), .v (.int .u8 0), .v (.int .u8 0), .v (.int .u64 0), .v (.int .u32 0), .v (.int .u32 0), .v (.int .i64 0), .v (.int .i64 0)], .b true 26 [.v (.int .u8 0), .v (.int .u8 3), .v (.int .u8 28), .v (.int .u8 127), .v (.int .u8 21), .v (.int .u8 4), .v (.int .u8 255), .v (.int .u8 255), .v (.int .u8 17), .v (.int .u8 19), .v (.int .u8 26), .v (.int .u8 255), .v (.int .u8 18), .v (.int .u8 23), .v (.int .u8 22), .v (.int .u8 255), .v (.int .u8 255), .v (.int .u8 255), .v (.int .u8 15), .v (.int .u64 61868352), .v (.int .u32 38400), .v (.int .u32 38400), .v (.int .i64 1), .v (.int .i64 0)]] [(0, .c (.p 0 0)), (1, .c (.p 1 0)), (20, .c (.v (.agg #[.int .i64 36, .int .i64 38, .int .i64 41, .int .i64 50, .int .i64 51, .int .i64 53, .int .i64 54, .int .i64 55, .int .i64 60, .int .i64 61, .int .i64 59, .int .i64 70, .int .i64 72, .int .i64 91]))), (21, .c (.v (.int .i64 8)))] (by kernel_rfl) (by decide) (by kernel_rfl) (by kernel_rfl) (fun _ => (by kernel_rfl)) (fun u => ?_)
  refine Hs.run0 300 (fun _ => by kernel_rfl) ?_
  refine Hs.condT (by kernel_rfl) ?_
  refine Hs.run0 300 (fun _ => by kernel_rfl) ?_
  refine Hs.any [1, 1006] (by kernel_rfl) ?_
  refine Hs.run0 300 (fun _ => by kernel_rfl) ?_
  refine Hs.callV (fun w' H => bit_any 60 (by decide) (by decide) w') (by kernel_rfl) ?_
  refine Hs.run0 300 (fun _ => by kernel_rfl) ?_
  refine Hs.loop (by kernel_rfl) ?_
  refine Hs.goto (loopAt Tryz.f34 1) [0, 1] [.b true 26 [.v (.int .u8 0), .v (.int .u8 0), .v (.int .u8 0), .v (.int .u8 0), .v (.int .u8 0), .v (.int .u8 0), .v (.int .u8 0), .v (.int .u8 0), .v (.int .u8 0), .v (.int .u8 0), .v (.int .u8 0), .v (.int .u8 0), .v (.int .u8 0), .v (.int .u8 0), .v (.int .u8 0), .v (.int .u8 0), .v (.int .u8 0), .v (.int .u8 0), .v (.int .u8 0), .v (.int .u64 0), .v (.int .u32 0), .v (.int .u32 0), .v (.int .i64 0), .v (.int .i64 0)], .b true 26 [.v (.int .u8 0), .v (.int .u8 3), .v (.int .u8 28), .v (.int .u8 127), .v (.int .u8 21), .v (.int .u8 4), .v (.int .u8 255), .v (.int .u8 255), .v (.int .u8 17), .v (.int .u8 19), .v (.int .u8 26), .v (.int .u8 255), .v (.int .u8 18), .v (.int .u8 23), .v (.int .u8 22), .v (.int .u8 255), .v (.int .u8 255), .v (.int .u8 255), .v (.int .u8 15), .v (.int .u64 1135610176), .v (.int .u32 38400), .v (.int .u32 38400), .v (.int .i64 1), .v (.int .i64 0)]] [(0, .c (.p 0 0)), (1, .c (.p 1 0)), (20, .c (.v (.agg #[.int .i64 36, .int .i64 38, .int .i64 41, .int .i64 50, .int .i64 51, .int .i64 53, .int .i64 54, .int .i64 55, .int .i64 60, .int .i64 61, .int .i64 59, .int .i64 70, .int .i64 72, .int .i64 91]))), (21, .c (.v (.int .i64 9)))] (by kernel_rfl) (by decide) (by kernel_rfl) (by kernel_rfl) (fun _ => (by kernel_rfl)) (fun u => ?_)
  refine Hs.run0 300 (fun _ => by kernel_rfl) ?_
  refine Hs.condT (by kernel_rfl) ?_
  refine Hs.run0 300 (fun _ => by kernel_rfl) ?_
  refine Hs.any [1, 1006] (by kernel_rfl) ?_
  refine Hs.run0 300 (fun _ => by kernel_rfl) ?_
  refine Hs.callV (fun w' H => bit_any 61 (by decide) (by decide) w') (by kernel_rfl) ?_
  refine Hs.run0 300 (fun _ => by kernel_rfl) ?_
  refine Hs.loop (by kernel_rfl) ?_
  refine Hs.goto (loopAt Tryz.f34 1) [0, 1] [.b true 26 [.v (.int .u8 0), .v (.int .u8 0), .v (.int .u8 0), .v (.int .u8 0), .v (.int .u8 0), .v (.int .u8 0), .v (.int .u8 0), .v (.int .u8 0), .v (.int .u8 0), .v (.int .u8 0), .v (.int .u8 0), .v (.int .u8 0), .v (.int .u8 0), .v (.int .u8 0), .v (.int .u8 0), .v (.int .u8 0), .v (.int .u8 0), .v (.int .u8 0), .v (.int .u8 0), .v (.int .u64 0), .v (.int .u32 0), .v (.int .u32 0), .v (.int .i64 0), .v (.int .i64 0)], .b true 26 [.v (.int .u8 0), .v (.int .u8 3), .v (.int .u8 28), .v (.int .u8 127), .v (.int .u8 21), .v (.int .u8 4), .v (.int .u8 255), .v (.int .u8 255), .v (.int .u8 17), .v (.int .u8 19), .v (.int .u8 26), .v (.int .u8 255), .v (.int .u8 18), .v (.int .u8 23), .v (.int .u8 22), .v (.int .u8 255), .v (.int .u8 255), .v (.int .u8 255), .v (.int .u8 15), .v (.int .u64 3283093824), .v (.int .u32 38400), .v (.int .u32 38400), .v (.int .i64 1), .v (.int .i64 0)]] [(0, .c (.p 0 0)), (1, .c (.p 1 0)), (20, .c (.v (.agg #[.int .i64 36, .int .i64 38, .int .i64 41, .int .i64 50, .int .i64 51, .int .i64 53, .int .i64 54, .int .i64 55, .int .i64 60, .int .i64 61, .int .i64 59, .int .i64 70, .int .i64 72, .int .i64 91]))), (21, .c (.v (.int .i64 10)))] (by kernel_rfl) (by decide) (by kernel_rfl) (by kernel_rfl) (fun _ => (by kernel_rfl)) (fun u => ?_)
  refine Hs.run0 300 (fun _ => by kernel_rfl) ?_
  refine Hs.condT (by kernel_rfl) ?_
  refine Hs.run0 300 (fun _ => by kernel_rfl) ?_
  refine Hs.any [1, 1006] (by kernel_rfl) ?_
  refine Hs.run0 300 (fun _ => by kernel_rfl) ?_
  refine Hs.callV (fun w' H => bit_any 59 (by decide) (by decide) w') (by kernel_rfl) ?_
  refine Hs.run0 300 (fun _ => by kernel_rfl) ?_
  refine Hs.loop (by kernel_rfl) ?_
  refine Hs.goto (loopAt Tryz.f34 1) [0, 1] [.b true 26 [.v (.int .u8 0), .v (.int .u8 0), .v (.int .u8 0), .v (.int .u8 0), .v (.int .u8 0), .v (.int .u8 0), .v (.int .u8 0), .v (.int .u8 0), .v (.int .u8 0), .v (.int .u8 0), .v (.int .u8 0), .v (.int .u8 0), .v (.int .u8 0), .v (.int .u8 0), .v (.int .u8 0), .v (.int .u8 0), .v (.int .u8 0), .v (.int .u8 0), .v (.int .u8 0), .v (.int .u64 0), .v (.int .u32 0), .v (.int .u32 0), .v (.int .i64 0), .v (.int .i64 0)], .b true 26 [.v (.int .u8 0), .v (.int .u8 3), .v (.int .u8 28), .v (.int .u8 127), .v (.int .u8 21), .v (.int .u8 4), .v (.int .u8 255), .v (.int .u8 255), .v (.int .u8 17), .v (.int .u8 19), .v (.int .u8 26), .v (.int .u8 255), .v (.int .u8 18), .v (.int .u8 23), .v (.int .u8 22), .v (.int .u8 255), .v (.int .u8 255), .v (.int .u8 255), .v (.int .u8 15), .v (.int .u64 3819964736), .v (.int .u32 38400), .v (.int .u32 38400), .v (.int .i64 1), .v (.int .i64 0)]] [(0, .c (.p 0 0)), (1, .c (.p 1 0)), (20, .c (.v (.agg #[.int .i64 36, .int .i64 38, .int .i64 41, .int .i64 50, .int .i64 51, .int .i64 53, .int .i64 54, .int .i64 55, .int .i64 60, .int .i64 61, .int .i64 59, .int .i64 70, .int .i64 72, .int .i64 91]))), (21, .c (.v (.int .i64 11)))] (by kernel_rfl) (by decide) (by kernel_rfl) (by kernel_rfl) (fun _ => (by kernel_rfl)) (fun u => ?_)
  refine Hs.run0 300 (fun _ => by kernel_rfl) ?_
  refine Hs.condT (by kernel_rfl) ?_
  refine Hs.run0 300 (fun _ => by kernel_rfl) ?_
  refine Hs.any [1, 1006] (by kernel_rfl) ?_
  refine Hs.run0 300 (fun _ => by kernel_rfl) ?_
  refine Hs.callV (fun w' H => bit_any 70 (by decide) (by decide) w') (by kernel_rfl) ?_
  refine Hs.run0 300 (fun _ => by kernel_rfl) ?_
  refine Hs.loop (by kernel_rfl) ?_
  refine Hs.goto (loopAt Tryz.f34 1) [0, 1] [.b true 26 [.v (.int .u8 0), .v (.int .u8 0), .v (.int .u8 0), .v (.int .u8 0), .v (.int .u8 0), .v (.int .u8 0), .v (.int .u8 0), .v (.int .u8 0), .v (.int .u8 0), .v (.int .u8 0), .v (.int .u8 0), .v (.int .u8 0), .v (.int .u8 0), .v (.int .u8 0), .v (.int .u8 0), .v (.int .u8 0), .v (.int .u8 0), .v (.int .u8 0), .v (.int .u8 0), .v (.int .u64 0), .v (.int .u32 0), .v (.int .u32 0), .v (.int .i64 0), .v (.int .i64 0)], .b true 26 [.v (.int .u8 0), .v (.int .u8 3), .v (.int .u8 28), .v (.int .u8 127), .v (.int .u8 21), .v (.int .u8 4), .v (.int .u8 255), .v (.int .u8 255), .v (.int .u8 17), .v (.int .u8 19), .v (.int .u8 26), .v (.int .u8 255), .v (.int .u8 18), .v (.int .u8 23), .v (.int .u8 22), .v (.int .u8 255), .v (.int .u8 255), .v (.int .u8 255), .v (.int .u8 15), .v (.int .u64 1103331592512), .v (.int .u32 38400), .v (.int .u32 38400), .v (.int .i64 1), .v (.int .i64 0)]] [(0, .c (.p 0 0)), (1, .c (.p 1 0)), (20, .c (.v (.agg #[.int .i64 36, .int .i64 38, .int .i64 41, .int .i64 50, .int .i64 51, .int .i64 53, .int .i64 54, .int .i64 55, .int .i64 60, .int .i64 61, .int .i64 59, .int .i64 70, .int .i64 72, .int .i64 91]))), (21, .c (.v (.int .i64 12)))] (by kernel_rfl) (by decide) (by kernel_rfl) (by kernel_rfl) (fun _ => (by kernel_rfl)) (fun u => ?_)
  refine Hs.run0 300 (fun _ => by kernel_rfl) ?_
  refine Hs.condT (by kernel_rfl) ?_
  refine Hs.run0 300 (fun _ => by kernel_rfl) ?_
  refine Hs.any [1, 1006] (by kernel_rfl) ?_
  refine Hs.run0 300 (fun _ => by kernel_rfl) ?_
  refine Hs.callV (fun w' H => bit_any 72 (by decide) (by decide) w') (by kernel_rfl) ?_
  refine Hs.run0 300 (fun _ => by kernel_rfl) ?_
  refine Hs.loop (by kernel_rfl) ?_
  refine Hs.goto (loopAt Tryz.f34 1) [0, 1] [.b true 26 [.v (.int .u8 0), .v (.int .u8 0), .v (.int .u8 0), .v (.int .u8 0), .v (.int .u8 0), .v (.int .u8 0), .v (.int .u8 0), .v (.int .u8 0), .v (.int .u8 0), .v (.int .u8 0), .v (.int .u8 0), .v (.int .u8 0), .v (.int .u8 0), .v (.int .u8 0), .v (.int .u8 0), .v (.int .u8 0), .v (.int .u8 0), .v (.int .u8 0), .v (.int .u8 0), .v (.int .u64 0), .v (.int .u32 0), .v (.int .u32 0), .v (.int .i64 0), .v (.int .i64 0)], .b true 26 [.v (.int .u8 0), .v (.int .u8 3), .v (.int .u8 28), .v (.int .u8 127), .v (.int .u8 21), .v (.int .u8 4), .v (.int .u8 255), .v (.int .u8 255), .v (.int .u8 17), .v (.int .u8 19), .v (.int .u8 26), .v (.int .u8 255), .v (.int .u8 18), .v (.int .u8 23), .v (.int .u8 22), .v (.int .u8 255), .v (.int .u8 255), .v (.int .u8 255), .v (.int .u8 15), .v (.int .u64 5501378103616), .v (.int .u32 38400), .v (.int .u32 38400), .v (.int .i64 1), .v (.int .i64 0)]] [(0, .c (.p 0 0)), (1, .c (.p 1 0)), (20, .c (.v (.agg #[.int .i64 36, .int .i64 38, .int .i64 41, .int .i64 50, .int .i64 51, .int .i64 53, .int .i64 54, .int .i64 55, .int .i64 60, .int .i64 61, .int .i64 59, .int .i64 70, .int .i64 72, .int .i64 91]))), (21, .c (.v (.int .i64 13)))] (by kernel_rfl) (by decide) (by kernel_rfl) (by kernel_rfl) (fun _ => (by kernel_rfl)) (fun u => ?_)
  refine Hs.run0 300 (fun _ => by kernel_rfl) ?_
  refine Hs.condT (by kernel_rfl) ?_
  refine Hs.run0 300 (fun _ => by kernel_rfl) ?_
  refine Hs.any [1, 1006] (by kernel_rfl) ?_
  refine Hs.run0 300 (fun _ => by kernel_rfl) ?_
  refine Hs.callV (fun w' H => bit_any 91 (by decide) (by decide) w') (by kernel_rfl) ?_
  refine Hs.run0 300 (fun _ => by kernel_rfl) ?_
  refine Hs.loop (by kernel_rfl) ?_
  refine Hs.goto (loopAt Tryz.f34 1) [0, 1] [.b true 26 [.v (.int .u8 0), .v (.int .u8 0), .v (.int .u8 0), .v (.int .u8 0), .v (.int .u8 0), .v (.int .u8 0), .v (.int .u8 0), .v (.int .u8 0), .v (.int .u8 0), .v (.int .u8 0), .v (.int .u8 0), .v (.int .u8 0), .v (.int .u8 0), .v (.int .u8 0), .v (.int .u8 0), .v (.int .u8 0), .v (.int .u8 0), .v (.int .u8 0), .v (.int .u8 0), .v (.int .u64 0), .v (.int .u32 0), .v (.int .u32 0), .v (.int .i64 0), .v (.int .i64 0)], .b true 26 [.v (.int .u8 0), .v (.int .u8 3), .v (.int .u8 28), .v (.int .u8 127), .v (.int .u8 21), .v (.int .u8 4), .v (.int .u8 255), .v (.int .u8 255), .v (.int .u8 17), .v (.int .u8 19), .v (.int .u8 26), .v (.int .u8 255), .v (.int .u8 18), .v (.int .u8 23), .v (.int .u8 22), .v (.int .u8 255), .v (.int .u8 255), .v (.int .u8 255), .v (.int .u8 15), .v (.int .u64 2305848510591797568), .v (.int .u32 38400), .v (.int .u32 38400), .v (.int .i64 1), .v (.int .i64 0)]] [(0, .c (.p 0 0)), (1, .c (.p 1 0)), (20, .c (.v (.agg #[.int .i64 36, .int .i64 38, .int .i64 41, .int .i64 50, .int .i64 51, .int .i64 53, .int .i64 54, .int .i64 55, .int .i64 60, .int .i64 61, .int .i64 59, .int .i64 70, .int .i64 72, .int .i64 91]))), (21, .c (.v (.int .i64 14)))] (by kernel_rfl) (by decide) (by kernel_rfl) (by kernel_rfl) (fun _ => (by kernel_rfl)) (fun u => ?_)
  refine Hs.run0 300 (fun _ => by kernel_rfl) ?_
  refine Hs.condF (by kernel_rfl) ?_
  refine Hs.run0 300 (fun _ => by kernel_rfl) ?_
  exact Hs.ret (v := tDef.val) Tryz.func34 (by kernel_rfl) fun w' H => ⟨rfl, H.only⟩
end Go.Proofs.YtnfcdbjckdhieaaGreat

namespace Go.Proofs.YtnfcdbjckdhieaaGreat
set_option linter.all false
set_option maxRecDepth 100000
open Go.RowKit

def newD (t : TM) : DM := ⟨t, [], false, [], [], false, false, [], 0, 0, 0⟩
def nilS : DS := ⟨none, 0, none, 0, [], none, 0, none, 0⟩
theorem data_new (t : TM) (w : World) : Data nilS (newD t) w := ⟨rdU_nil w, rdL_nil w, rfl, rdU_nil w, rdU_nil w⟩
theorem few_new (t : TM) : Few (newD t) := ⟨Nat.zero_le _, Nat.zero_le _, Nat.zero_le _, Nat.zero_le _, Nat.zero_le _⟩
section
variable {P : Program} {f : FuncId} {R : Ending → World → Prop} {n : Nat} {w0 w00 : World} {L : List Nat} {β : List Nat} {m : SM} {F : World → Prop} {g : Nat}
/-- A method of a discipline of our own that answers no slice. -/
theorem Hs.callNP {s : DS} {d d' : DM} {v : Value} {Fn : FuncId} {args : Array Value} (k : Nat) (C : Nx w00 w0 L (fun w => Data s d w ∧ F w)) (hβ : β[k]? = some g) (hk : m.hp[k]? = some (.b true 96 (discSC d s)))
    (hC : ∀ w, Mem w0 L β m.hp w → DAt w g d s → Calls P Fn args w (DPost w g s d d' v)) (hc : callOf P n β m = some (Fn, args)) (hrd : rdOf m = []) (hwf : ∀ s1, (discSC d' s1).all (SC.wf m.hp.length) = true)
    (h : ∀ s1 w1 L1, Nx w00 w1 L1 (fun w => Data s1 d' w ∧ F w) → Hs P f R n w1 L1 β (m.put (dstOf m) (.c (.v v)) (m.hp.set k (.b true 96 (discSC d' s1))))) : Hs P f R n w0 L β m :=
  Hs.callND k (fun _ : DS => v) (fun s1 => discSC d' s1) (fun s1 => Data s1 d') C hβ hk (fun w H hB hK => hC w H ⟨hB, hK⟩) hc hrd hwf h
/-- One that answers bytes. -/
theorem Hs.callNR {s : DS} {d d' : DM} {l : List Int} {v : Option Addr → Nat → Value} {Fn : FuncId} {args : Array Value} (k : Nat) (C : Nx w00 w0 L (fun w => Data s d w ∧ F w)) (hβ : β[k]? = some g) (hk : m.hp[k]? = some (.b true 96 (discSC d s)))
    (hC : ∀ w, Mem w0 L β m.hp w → DAt w g d s → Calls P Fn args w (RPost w g s d d' l v)) (hc : callOf P n β m = some (Fn, args)) (hrd : rdOf m = []) (hwf : ∀ s1, (discSC d' s1).all (SC.wf m.hp.length) = true)
    (h : ∀ s1 A c w1 L1, Nx w00 w1 L1 (fun w => (Data s1 d' w ∧ RdU w A c l) ∧ F w) → Hs P f R n w1 L1 β (m.put (dstOf m) (.c (.v (v A c))) (m.hp.set k (.b true 96 (discSC d' s1))))) : Hs P f R n w0 L β m :=
  Hs.callND k (fun x : DS × Option Addr × Nat => v x.2.1 x.2.2) (fun x => discSC d' x.1) (fun x w => Data x.1 d' w ∧ RdU w x.2.1 x.2.2 l) C hβ hk (fun w H hB hK => (hC w H ⟨hB, hK⟩).mono fun e w' ⟨s', A, c, h1, h2, h3, h4⟩ => ⟨(s', A, c), h1, h2, h3, h4⟩) hc hrd (fun x => hwf x.1) fun x w1 L1 C1 => h x.1 x.2.1 x.2.2 w1 L1 C1
/-- A byte typed. -/
theorem Hs.callNI {s : DS} {d d' : DM} {l : List Int} {Fn : FuncId} {args : Array Value} (k : Nat) (nl : Nat) (hl : l.length = nl) (C : Nx w00 w0 L (fun w => Data s d w ∧ F w)) (hβ : β[k]? = some g) (hk : m.hp[k]? = some (.b true 96 (discSC d s)))
    (hC : ∀ w, Mem w0 L β m.hp w → DAt w g d s → Calls P Fn args w (IPost w g s d d' l)) (hc : callOf P n β m = some (Fn, args)) (hrd : rdOf m = []) (hwf : ∀ s1, (discSC d' s1).all (SC.wf m.hp.length) = true)
    (h : ∀ s1 A w1 L1, Nx w00 w1 L1 (fun w => (Data s1 d' w ∧ RdX ci64 w A l) ∧ F w) → Hs P f R n w1 L1 β (m.put (dstOf m) (.c (.v (.slice A nl nl))) (m.hp.set k (.b true 96 (discSC d' s1))))) : Hs P f R n w0 L β m := by
  subst hl
  exact Hs.callND k (fun x : DS × Option Addr => .slice x.2 l.length l.length) (fun x => discSC d' x.1) (fun x w => Data x.1 d' w ∧ RdX ci64 w x.2 l) C hβ hk (fun w H hB hK => (hC w H ⟨hB, hK⟩).mono fun e w' ⟨s', A, h1, h2, h3, h4⟩ => ⟨(s', A), h1, h2, h3, h4⟩) hc hrd (fun x => hwf x.1) fun x w1 L1 C1 => h x.1 x.2 w1 L1 C1
end
theorem rd_at {w : World} {b o i : Nat} {l : List Int} {x : Int} (h : Rd w (some ⟨b, o, none⟩) l) (hx : l[i]? = some x) : w.cell? ⟨b, o + i * 1, none⟩ = some (.int .u8 x) := by
  have hil := (List.getElem?_eq_some_iff.1 hx).1
  obtain ⟨b', o', e, _, hc⟩ := h (by omega)
  injection e with e
  injection e with e1 e2
  subst e1; subst e2
  rw [Nat.mul_one]
  exact hc i x hx
def d16a : DM := { newD tDef with line := [97], out := [97], col := 1 }
def d16b : DM := { newD tDef with line := [97, 98], out := [97, 98], col := 2 }
def d16c : DM := { newD tDef with line := [97], out := [97, 98, 8, 32, 8], col := 1 }
def d16d : DM := { newD tDef with line := [97, 99], out := [97, 98, 8, 32, 8, 99], col := 2 }
def d16e : DM := { newD tDef with lines := [([97, 99, 10], false)], out := [97, 98, 8, 32, 8, 99, 13, 10] }
def d16f : DM := { newD tDef with lines := [([97, 99, 10], false)] }
def d16h : DM := { newD tDef with out := [94, 67], col := 2 }
def d16i : DM := { newD tDef with col := 2 }
theorem ex16a : inputD (newD tDef) 97 = (d16a, []) := by kernel_rfl
theorem ex16b : inputD d16a 98 = (d16b, []) := by kernel_rfl
theorem ex16c : inputD d16b 127 = (d16c, []) := by kernel_rfl
theorem ex16d : inputD d16c 99 = (d16d, []) := by kernel_rfl
theorem ex16e : inputD d16d 10 = (d16e, []) := by kernel_rfl
theorem ex16f : outputD d16e 99 = (d16f, [97, 98, 8, 32, 8, 99, 13, 10]) := by kernel_rfl
theorem ex16g : readD d16f 9 0 = (newD tDef, [97, 99, 10], true) := by kernel_rfl
theorem ex16h : inputD (newD tDef) 3 = (d16h, [2]) := by kernel_rfl
theorem ex16i : outputD d16h 9 = (d16i, [94, 67]) := by kernel_rfl
end Go.Proofs.YtnfcdbjckdhieaaGreat

namespace Go.Proofs.YtnfcdbjckdhieaaGreat
set_option linter.all false
set_option maxRecDepth 100000
open Go.RowKit

theorem few_small (d : DM) (h1 : d.line.length ≤ 100) (h2 : d.raw.length ≤ 100) (h3 : d.out.length ≤ 100) (h4 : usedM d.lines ≤ 100) (h5 : zeroN d.lines ≤ 100) : Few d := ⟨by omega, by omega, by omega, by omega, by omega⟩
theorem elemInt : ElemT Tryz.prog 56 3 1 (Tryz.prog.bytesOf 3) := elemT_of (z := .int .i64 0) (by kernel_rfl) (by kernel_rfl) (by decide) (by decide)
theorem i64_cell {w : World} {b off i : Nat} {l : List Int} {x : Int} (hr : RdX ci64 w (some ⟨b, off, none⟩) l) (hx : l[i]? = some x) : w.cell? ⟨b, off + i * 1, none⟩ = some (.int .i64 x) := by
  have := rdX_cell ci64_len hr hx (j := 0) (v := .int .i64 x) rfl
  exact this
def MK (b : Nat) : HB := .q true (some ⟨b, 0, none⟩) (fun w => Rd w (some ⟨b, 0, none⟩) [97, 98, 127, 99, 10]) rd_st
end Go.Proofs.YtnfcdbjckdhieaaGreat
