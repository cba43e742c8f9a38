/- The walks of package raw, continued: how many ticks are left; for every input, no condition. -/
import Derived.Test.YtamnnggijmmogaaRawA
namespace Go.Proofs.Ytamnnggijmmogaa
set_option linter.all false
open Go.RowKit

set_option maxRecDepth 100000 in
set_option maxHeartbeats 3200000 in
theorem left_00 (m t h q i s : Int) (w : World) (m0 : 0 ≤ m) (t0 : 0 ≤ t) (h0 : 0 ≤ h) (q0 : 0 ≤ q) (i0 : 0 ≤ i) (s0 : 0 ≤ s) (m1 : m ≤ 9223372036854775807) (t1 : t ≤ 9223372036854775807) (h1 : h ≤ 9223372036854775807) (q1 : q ≤ 9223372036854775807) (i1 : i ≤ 9223372036854775807) (s1 : s ≤ 9223372036854775807) (hq : 0 < q) : Calls Try.prog 59 #[.agg #[.int .i64 0, .int .i64 0, .int .i64 h, .int .i64 q, .int .i64 i, .int .i64 s]] w fun e w' => e = .returned (.int .i64 (leftV 0 0 h q i s)) ∧ Below w.heap.size w w' := by
  have hq' : (q == 0) = false := beq_eq_false_iff_ne.2 (by omega)
  have hv : leftV 0 0 h q i s = 0 := by
    unfold leftV
    simp only [show ¬ q = 0 from by omega, if_false, if_true]
  rw [hv]; clear hv
  have ja : ∀ w, (Instr.index 104 (.agg #[(.func (.func 62) #[] #[]), (.func (.func 63) #[] #[]), (.func (.func 64) #[] #[]), (.func (.func 65) #[] #[])]) (.int .i64 0)).run Try.prog w = .ok (.agg #[(.func (.func 62) #[] #[]), (.func (.func 63) #[] #[])]) w := fun _ => by kernel_rfl
  have jb : ∀ w, (Instr.index 103 (.agg #[(.func (.func 62) #[] #[]), (.func (.func 63) #[] #[])]) (.int .i64 0)).run Try.prog w = .ok (.func (.func 62) #[] #[]) w := fun _ => by kernel_rfl
  go_enter Try.func59, Try.ntmps59
  go_wp2_with fail
  go_region_held3 (fun w' => w'.cell? ⟨w.heap.size, 0, none⟩ = some (.int .i64 0) ∧ w'.cell? ⟨w.heap.size, 1, none⟩ = some (.int .i64 0) ∧ w'.cell? ⟨w.heap.size, 2, none⟩ = some (.int .i64 h) ∧ w'.cell? ⟨w.heap.size, 3, none⟩ = some (.int .i64 q) ∧ w'.cell? ⟨w.heap.size, 4, none⟩ = some (.int .i64 i) ∧ w'.cell? ⟨w.heap.size, 5, none⟩ = some (.int .i64 s) ∧ w.heap.size < w'.heap.size ∧ Below w.heap.size w w')
    ((try go_split_ands
      refine ⟨?_, ?_, ?_, ?_, ?_, ?_, ?_, ?_⟩ <;> first | (with_reducible assumption) | (refine Below.trans ?_ (b7.mono ?_) <;> first | (with_reducible assumption) | omega) | (exact cellv b7 (by omega) (by assumption)) | (have := b7.size; omega) | (simp [go_sem, *]; done) | go_grown))
    (first | (go_at_call 60; go_call (sorts_any _) as e w7 ⟨rfl, b7⟩) | (go_at_call_of 61 (Value.int .i64 0); go_call (one_0 _) as e w7 ⟨rfl, rfl⟩) | (go_at_call_of 61 (Value.int .i64 0); go_call (one_0 _) as e w7 ⟨rfl, rfl⟩) | (go_at_call 62; go_call (polling_any 0 0 h q i s _) as e w7 ⟨rfl, b7⟩))
  all_goals (go_wp2_with fail; go_ret; refine ⟨rfl, ?_⟩; (try go_split_ands); assumption)

set_option maxRecDepth 100000 in
set_option maxHeartbeats 3200000 in
theorem left_01 (m t h q i s : Int) (w : World) (m0 : 0 ≤ m) (t0 : 0 ≤ t) (h0 : 0 ≤ h) (q0 : 0 ≤ q) (i0 : 0 ≤ i) (s0 : 0 ≤ s) (m1 : m ≤ 9223372036854775807) (t1 : t ≤ 9223372036854775807) (h1 : h ≤ 9223372036854775807) (q1 : q ≤ 9223372036854775807) (i1 : i ≤ 9223372036854775807) (s1 : s ≤ 9223372036854775807) (hq : 0 < q) (ht' : 0 < t) : Calls Try.prog 59 #[.agg #[.int .i64 0, .int .i64 t, .int .i64 h, .int .i64 q, .int .i64 i, .int .i64 s]] w fun e w' => e = .returned (.int .i64 (leftV 0 t h q i s)) ∧ Below w.heap.size w w' := by
  have hq' : (q == 0) = false := beq_eq_false_iff_ne.2 (by omega)
  have hv : leftV 0 t h q i s = timedV t h s := by
    unfold leftV
    simp only [show ¬ q = 0 from by omega, if_false, show ¬ t = 0 from by omega, if_true, timedV]
  rw [hv]; clear hv
  have ja : ∀ w, (Instr.index 104 (.agg #[(.func (.func 62) #[] #[]), (.func (.func 63) #[] #[]), (.func (.func 64) #[] #[]), (.func (.func 65) #[] #[])]) (.int .i64 0)).run Try.prog w = .ok (.agg #[(.func (.func 62) #[] #[]), (.func (.func 63) #[] #[])]) w := fun _ => by kernel_rfl
  have jb : ∀ w, (Instr.index 103 (.agg #[(.func (.func 62) #[] #[]), (.func (.func 63) #[] #[])]) (.int .i64 1)).run Try.prog w = .ok (.func (.func 63) #[] #[]) w := fun _ => by kernel_rfl
  go_enter Try.func59, Try.ntmps59
  go_wp2_with fail
  go_region_held3 (fun w' => w'.cell? ⟨w.heap.size, 0, none⟩ = some (.int .i64 0) ∧ w'.cell? ⟨w.heap.size, 1, none⟩ = some (.int .i64 t) ∧ w'.cell? ⟨w.heap.size, 2, none⟩ = some (.int .i64 h) ∧ w'.cell? ⟨w.heap.size, 3, none⟩ = some (.int .i64 q) ∧ w'.cell? ⟨w.heap.size, 4, none⟩ = some (.int .i64 i) ∧ w'.cell? ⟨w.heap.size, 5, none⟩ = some (.int .i64 s) ∧ w.heap.size < w'.heap.size ∧ Below w.heap.size w w')
    ((try go_split_ands
      refine ⟨?_, ?_, ?_, ?_, ?_, ?_, ?_, ?_⟩ <;> first | (with_reducible assumption) | (refine Below.trans ?_ (b7.mono ?_) <;> first | (with_reducible assumption) | omega) | (exact cellv b7 (by omega) (by assumption)) | (have := b7.size; omega) | (simp [go_sem, *]; done) | go_grown))
    (first | (go_at_call 60; go_call (sorts_any _) as e w7 ⟨rfl, b7⟩) | (go_at_call_of 61 (Value.int .i64 0); go_call (one_0 _) as e w7 ⟨rfl, rfl⟩) | (go_at_call_of 61 (Value.int .i64 t); go_call (one_1 t ht' _) as e w7 ⟨rfl, rfl⟩) | (go_at_call 63; go_call (timed_any 0 t h q i s _ (by omega) t0 h0 q0 i0 s0 (by omega) t1 h1 q1 i1 s1) as e w7 ⟨rfl, b7⟩))
  all_goals (go_wp2_with fail; go_ret; refine ⟨rfl, ?_⟩; (try go_split_ands); assumption)

set_option maxRecDepth 100000 in
set_option maxHeartbeats 3200000 in
theorem left_10 (m t h q i s : Int) (w : World) (m0 : 0 ≤ m) (t0 : 0 ≤ t) (h0 : 0 ≤ h) (q0 : 0 ≤ q) (i0 : 0 ≤ i) (s0 : 0 ≤ s) (m1 : m ≤ 9223372036854775807) (t1 : t ≤ 9223372036854775807) (h1 : h ≤ 9223372036854775807) (q1 : q ≤ 9223372036854775807) (i1 : i ≤ 9223372036854775807) (s1 : s ≤ 9223372036854775807) (hq : 0 < q) (hm' : 0 < m) : Calls Try.prog 59 #[.agg #[.int .i64 m, .int .i64 0, .int .i64 h, .int .i64 q, .int .i64 i, .int .i64 s]] w fun e w' => e = .returned (.int .i64 (leftV m 0 h q i s)) ∧ Below w.heap.size w w' := by
  have hq' : (q == 0) = false := beq_eq_false_iff_ne.2 (by omega)
  have hv : leftV m 0 h q i s = blockV m h q := by
    unfold leftV
    simp only [show ¬ q = 0 from by omega, if_false, show ¬ m = 0 from by omega, if_true, blockV, ite_self]
  rw [hv]; clear hv
  have ja : ∀ w, (Instr.index 104 (.agg #[(.func (.func 62) #[] #[]), (.func (.func 63) #[] #[]), (.func (.func 64) #[] #[]), (.func (.func 65) #[] #[])]) (.int .i64 1)).run Try.prog w = .ok (.agg #[(.func (.func 64) #[] #[]), (.func (.func 65) #[] #[])]) w := fun _ => by kernel_rfl
  have jb : ∀ w, (Instr.index 103 (.agg #[(.func (.func 64) #[] #[]), (.func (.func 65) #[] #[])]) (.int .i64 0)).run Try.prog w = .ok (.func (.func 64) #[] #[]) w := fun _ => by kernel_rfl
  go_enter Try.func59, Try.ntmps59
  go_wp2_with fail
  go_region_held3 (fun w' => w'.cell? ⟨w.heap.size, 0, none⟩ = some (.int .i64 m) ∧ w'.cell? ⟨w.heap.size, 1, none⟩ = some (.int .i64 0) ∧ w'.cell? ⟨w.heap.size, 2, none⟩ = some (.int .i64 h) ∧ w'.cell? ⟨w.heap.size, 3, none⟩ = some (.int .i64 q) ∧ w'.cell? ⟨w.heap.size, 4, none⟩ = some (.int .i64 i) ∧ w'.cell? ⟨w.heap.size, 5, none⟩ = some (.int .i64 s) ∧ w.heap.size < w'.heap.size ∧ Below w.heap.size w w')
    ((try go_split_ands
      refine ⟨?_, ?_, ?_, ?_, ?_, ?_, ?_, ?_⟩ <;> first | (with_reducible assumption) | (refine Below.trans ?_ (b7.mono ?_) <;> first | (with_reducible assumption) | omega) | (exact cellv b7 (by omega) (by assumption)) | (have := b7.size; omega) | (simp [go_sem, *]; done) | go_grown))
    (first | (go_at_call 60; go_call (sorts_any _) as e w7 ⟨rfl, b7⟩) | (go_at_call_of 61 (Value.int .i64 m); go_call (one_1 m hm' _) as e w7 ⟨rfl, rfl⟩) | (go_at_call_of 61 (Value.int .i64 0); go_call (one_0 _) as e w7 ⟨rfl, rfl⟩) | (go_at_call 64; go_call (blocking_any m 0 h q i s _) as e w7 ⟨rfl, b7⟩))
  all_goals (go_wp2_with fail; go_ret; refine ⟨rfl, ?_⟩; (try go_split_ands); assumption)

set_option maxRecDepth 100000 in
set_option maxHeartbeats 3200000 in
theorem left_11 (m t h q i s : Int) (w : World) (m0 : 0 ≤ m) (t0 : 0 ≤ t) (h0 : 0 ≤ h) (q0 : 0 ≤ q) (i0 : 0 ≤ i) (s0 : 0 ≤ s) (m1 : m ≤ 9223372036854775807) (t1 : t ≤ 9223372036854775807) (h1 : h ≤ 9223372036854775807) (q1 : q ≤ 9223372036854775807) (i1 : i ≤ 9223372036854775807) (s1 : s ≤ 9223372036854775807) (hq : 0 < q) (hm' : 0 < m) (ht' : 0 < t) : Calls Try.prog 59 #[.agg #[.int .i64 m, .int .i64 t, .int .i64 h, .int .i64 q, .int .i64 i, .int .i64 s]] w fun e w' => e = .returned (.int .i64 (leftV m t h q i s)) ∧ Below w.heap.size w w' := by
  have hq' : (q == 0) = false := beq_eq_false_iff_ne.2 (by omega)
  have hv : leftV m t h q i s = gapsV m t h q i := by
    unfold leftV
    simp only [show ¬ q = 0 from by omega, if_false, show ¬ m = 0 from by omega, show ¬ t = 0 from by omega, if_true, gapsV]
  rw [hv]; clear hv
  have ja : ∀ w, (Instr.index 104 (.agg #[(.func (.func 62) #[] #[]), (.func (.func 63) #[] #[]), (.func (.func 64) #[] #[]), (.func (.func 65) #[] #[])]) (.int .i64 1)).run Try.prog w = .ok (.agg #[(.func (.func 64) #[] #[]), (.func (.func 65) #[] #[])]) w := fun _ => by kernel_rfl
  have jb : ∀ w, (Instr.index 103 (.agg #[(.func (.func 64) #[] #[]), (.func (.func 65) #[] #[])]) (.int .i64 1)).run Try.prog w = .ok (.func (.func 65) #[] #[]) w := fun _ => by kernel_rfl
  go_enter Try.func59, Try.ntmps59
  go_wp2_with fail
  go_region_held3 (fun w' => w'.cell? ⟨w.heap.size, 0, none⟩ = some (.int .i64 m) ∧ w'.cell? ⟨w.heap.size, 1, none⟩ = some (.int .i64 t) ∧ w'.cell? ⟨w.heap.size, 2, none⟩ = some (.int .i64 h) ∧ w'.cell? ⟨w.heap.size, 3, none⟩ = some (.int .i64 q) ∧ w'.cell? ⟨w.heap.size, 4, none⟩ = some (.int .i64 i) ∧ w'.cell? ⟨w.heap.size, 5, none⟩ = some (.int .i64 s) ∧ w.heap.size < w'.heap.size ∧ Below w.heap.size w w')
    ((try go_split_ands
      refine ⟨?_, ?_, ?_, ?_, ?_, ?_, ?_, ?_⟩ <;> first | (with_reducible assumption) | (refine Below.trans ?_ (b7.mono ?_) <;> first | (with_reducible assumption) | omega) | (exact cellv b7 (by omega) (by assumption)) | (have := b7.size; omega) | (simp [go_sem, *]; done) | go_grown))
    (first | (go_at_call 60; go_call (sorts_any _) as e w7 ⟨rfl, b7⟩) | (go_at_call_of 61 (Value.int .i64 m); go_call (one_1 m hm' _) as e w7 ⟨rfl, rfl⟩) | (go_at_call_of 61 (Value.int .i64 t); go_call (one_1 t ht' _) as e w7 ⟨rfl, rfl⟩) | (go_at_call 65; go_call (gaps_any m t h q i s _ m0 t0 h0 q0 i0 s0 m1 t1 h1 q1 i1 s1) as e w7 ⟨rfl, b7⟩))
  all_goals (go_wp2_with fail; go_ret; refine ⟨rfl, ?_⟩; (try go_split_ands); assumption)

theorem left_q (m t h i s : Int) (w : World) : Calls Try.prog 59 #[.agg #[.int .i64 m, .int .i64 t, .int .i64 h, .int .i64 0, .int .i64 i, .int .i64 s]] w fun e w' => e = .returned (.int .i64 (leftV m t h 0 i s)) ∧ Below w.heap.size w w' := by
  have hv : leftV m t h 0 i s = 0 := by simp [leftV]
  rw [hv]; clear hv
  go_enter Try.func59, Try.ntmps59
  go_wp2
  go_ret
  exact ⟨rfl, by go_grown⟩

theorem left_any (m t h q i s : Int) (w : World) (m0 : 0 ≤ m) (t0 : 0 ≤ t) (h0 : 0 ≤ h) (q0 : 0 ≤ q) (i0 : 0 ≤ i) (s0 : 0 ≤ s) (m1 : m ≤ 9223372036854775807) (t1 : t ≤ 9223372036854775807) (h1 : h ≤ 9223372036854775807) (q1 : q ≤ 9223372036854775807) (i1 : i ≤ 9223372036854775807) (s1 : s ≤ 9223372036854775807) : Calls Try.prog 59 #[.agg #[.int .i64 m, .int .i64 t, .int .i64 h, .int .i64 q, .int .i64 i, .int .i64 s]] w fun e w' => e = .returned (.int .i64 (leftV m t h q i s)) ∧ Below w.heap.size w w' := by
  by_cases hq : q = 0
  · subst hq; exact left_q m t h i s w
  by_cases hm : m = 0
  · subst hm
    by_cases ht : t = 0
    · subst ht; exact left_00 0 0 h q i s w m0 t0 h0 q0 i0 s0 m1 t1 h1 q1 i1 s1 (by omega)
    · exact left_01 0 t h q i s w m0 t0 h0 q0 i0 s0 m1 t1 h1 q1 i1 s1 (by omega) (by omega)
  · by_cases ht : t = 0
    · subst ht; exact left_10 m 0 h q i s w m0 t0 h0 q0 i0 s0 m1 t1 h1 q1 i1 s1 (by omega) (by omega)
    · exact left_11 m t h q i s w m0 t0 h0 q0 i0 s0 m1 t1 h1 q1 i1 s1 (by omega) (by omega) (by omega)
end Go.Proofs.Ytamnnggijmmogaa
