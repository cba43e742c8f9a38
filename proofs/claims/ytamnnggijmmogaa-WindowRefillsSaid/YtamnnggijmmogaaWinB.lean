/- The walks of package window and of its reference, continued: what comes, and refilling; the law's own examples; for every input, no condition. -/
import Derived.Test.YtamnnggijmmogaaWinA
namespace Go.Proofs.Ytamnnggijmmogaa
set_option linter.all false
open Go.RowKit

def oL (l n : Int) : Int := if 0 ≤ n ∧ n ≤ l then l - n else l
def oE (l n : Int) : Int := if 0 ≤ n ∧ n ≤ l then 0 else 5
theorem got_any (l m n : Int) (w : World) (hl : 0 ≤ l ∧ l ≤ 4294967295) (hn : -9223372036854775808 ≤ n ∧ n ≤ 9223372036854775807) :
    Calls Try.prog 21 #[.agg #[.int .u32 l, .int .u32 m], .int .i64 n] w fun e w' => e = .returned (.tuple #[.agg #[.int .u32 (oL l n), .int .u32 m], .int .i64 (oE l n)]) ∧ Below w.heap.size w w' := by
  obtain ⟨a1, a2⟩ := hl; obtain ⟨c1, c2⟩ := hn
  by_cases h0 : n < 0
  · have e1 : oL l n = l := by unfold oL; first | rw [if_neg (by omega)] | rw [if_pos (by omega)]
    have e2 : oE l n = 5 := by unfold oE; first | rw [if_neg (by omega)] | rw [if_pos (by omega)]
    rw [e1, e2]; clear e1 e2
    first | (have hb : inB n l = true := by unfold inB; exact decide_eq_true (by omega)) | (have hb : inB n l = false := by unfold inB; exact decide_eq_false (by omega))
    go_enter Try.func21, Try.ntmps21
    go_wp2_with (go_at_call 45; go_call (within_b n l) as e w' ⟨rfl, rfl⟩)
    go_returns
    exact ⟨rfl, by go_grown⟩
  by_cases h1 : l < n
  · have e1 : oL l n = l := by unfold oL; first | rw [if_neg (by omega)] | rw [if_pos (by omega)]
    have e2 : oE l n = 5 := by unfold oE; first | rw [if_neg (by omega)] | rw [if_pos (by omega)]
    rw [e1, e2]; clear e1 e2
    first | (have hb : inB n l = true := by unfold inB; exact decide_eq_true (by omega)) | (have hb : inB n l = false := by unfold inB; exact decide_eq_false (by omega))
    go_enter Try.func21, Try.ntmps21
    go_wp2_with (go_at_call 45; go_call (within_b n l) as e w' ⟨rfl, rfl⟩)
    go_returns
    exact ⟨rfl, by go_grown⟩
  · have e1 : oL l n = l - n := by unfold oL; first | rw [if_neg (by omega)] | rw [if_pos (by omega)]
    have e2 : oE l n = 0 := by unfold oE; first | rw [if_neg (by omega)] | rw [if_pos (by omega)]
    rw [e1, e2]; clear e1 e2
    first | (have hb : inB n l = true := by unfold inB; exact decide_eq_true (by omega)) | (have hb : inB n l = false := by unfold inB; exact decide_eq_false (by omega))
    go_enter Try.func21, Try.ntmps21
    go_wp2_with (go_at_call 45; go_call (within_b n l) as e w' ⟨rfl, rfl⟩)
    go_returns
    exact ⟨rfl, by go_grown⟩

theorem rgot_any (l m n : Int) (w : World) (hl : 0 ≤ l ∧ l ≤ 4294967295) (hn : -9223372036854775808 ≤ n ∧ n ≤ 9223372036854775807) :
    Calls Try.prog 22 #[.agg #[.int .u32 l, .int .u32 m], .int .i64 n] w fun e w' => e = .returned (.tuple #[.agg #[.int .u32 (oL l n), .int .u32 m], .int .i64 (oE l n)]) ∧ Below w.heap.size w w' := by
  obtain ⟨a1, a2⟩ := hl; obtain ⟨c1, c2⟩ := hn
  by_cases h0 : n < 0
  · have e1 : oL l n = l := by unfold oL; first | rw [if_neg (by omega)] | rw [if_pos (by omega)]
    have e2 : oE l n = 5 := by unfold oE; first | rw [if_neg (by omega)] | rw [if_pos (by omega)]
    rw [e1, e2]; clear e1 e2
    go_enter Try.func22, Try.ntmps22
    go_wp2
    go_returns
    exact ⟨rfl, by go_grown⟩
  by_cases h1 : l < n
  · have e1 : oL l n = l := by unfold oL; first | rw [if_neg (by omega)] | rw [if_pos (by omega)]
    have e2 : oE l n = 5 := by unfold oE; first | rw [if_neg (by omega)] | rw [if_pos (by omega)]
    rw [e1, e2]; clear e1 e2
    go_enter Try.func22, Try.ntmps22
    go_wp2
    go_returns
    exact ⟨rfl, by go_grown⟩
  · have e1 : oL l n = l - n := by unfold oL; first | rw [if_neg (by omega)] | rw [if_pos (by omega)]
    have e2 : oE l n = 0 := by unfold oE; first | rw [if_neg (by omega)] | rw [if_pos (by omega)]
    rw [e1, e2]; clear e1 e2
    go_enter Try.func22, Try.ntmps22
    go_wp2
    go_returns
    exact ⟨rfl, by go_grown⟩

def fL (l m n : Int) : Int := if 0 ≤ n ∧ n ≤ m ∧ 0 < m - l - n ∧ m / 2 ≤ m - l - n then l + (m - l - n) else l
def fR (l m n : Int) : Int := if 0 ≤ n ∧ n ≤ m ∧ 0 < m - l - n ∧ m / 2 ≤ m - l - n then m - l - n else 0
theorem refill_any (l m n : Int) (w : World) (hl : 0 ≤ l ∧ l ≤ 4294967295) (hm : 0 ≤ m ∧ m ≤ 4294967295) (hn : -9223372036854775808 ≤ n ∧ n ≤ 9223372036854775807) :
    Calls Try.prog 23 #[.agg #[.int .u32 l, .int .u32 m], .int .i64 n] w fun e w' => e = .returned (.tuple #[.agg #[.int .u32 (fL l m n), .int .u32 m], .int .u32 (fR l m n)]) ∧ Below w.heap.size w w' := by
  obtain ⟨a1, a2⟩ := hl; obtain ⟨b1, b2⟩ := hm; obtain ⟨c1, c2⟩ := hn
  by_cases h0 : n < 0
  · have e1 : fL l m n = l := by unfold fL; first | rw [if_neg (by omega)] | rw [if_pos (by omega)]
    have e2 : fR l m n = 0 := by unfold fR; first | rw [if_neg (by omega)] | rw [if_pos (by omega)]
    rw [e1, e2]; clear e1 e2
    first | (have hb : inB n m = true := by unfold inB; exact decide_eq_true (by omega)) | (have hb : inB n m = false := by unfold inB; exact decide_eq_false (by omega))
    go_enter Try.func23, Try.ntmps23
    go_wp2_with (go_at_call 45; go_call (within_b n m) as e w' ⟨rfl, rfl⟩)
    go_returns
    exact ⟨rfl, by go_grown⟩
  by_cases h1 : m < n
  · have e1 : fL l m n = l := by unfold fL; first | rw [if_neg (by omega)] | rw [if_pos (by omega)]
    have e2 : fR l m n = 0 := by unfold fR; first | rw [if_neg (by omega)] | rw [if_pos (by omega)]
    rw [e1, e2]; clear e1 e2
    first | (have hb : inB n m = true := by unfold inB; exact decide_eq_true (by omega)) | (have hb : inB n m = false := by unfold inB; exact decide_eq_false (by omega))
    go_enter Try.func23, Try.ntmps23
    go_wp2_with (go_at_call 45; go_call (within_b n m) as e w' ⟨rfl, rfl⟩)
    go_returns
    exact ⟨rfl, by go_grown⟩
  by_cases h2 : m - n < l
  · have e1 : fL l m n = l := by unfold fL; first | rw [if_neg (by omega)] | rw [if_pos (by omega)]
    have e2 : fR l m n = 0 := by unfold fR; first | rw [if_neg (by omega)] | rw [if_pos (by omega)]
    rw [e1, e2]; clear e1 e2
    first | (have hb : inB n m = true := by unfold inB; exact decide_eq_true (by omega)) | (have hb : inB n m = false := by unfold inB; exact decide_eq_false (by omega))
    go_enter Try.func23, Try.ntmps23
    go_wp2_with (go_at_call 45; go_call (within_b n m) as e w' ⟨rfl, rfl⟩)
    go_returns
    exact ⟨rfl, by go_grown⟩
  by_cases h4 : m - n = l
  · obtain rfl : l = m - n := by omega
    have e1 : fL (m - n) m n = m - n := by unfold fL; first | rw [if_neg (by omega)] | rw [if_pos (by omega)]
    have e2 : fR (m - n) m n = 0 := by unfold fR; first | rw [if_neg (by omega)] | rw [if_pos (by omega)]
    rw [e1, e2]; clear e1 e2
    first | (have hb : inB n m = true := by unfold inB; exact decide_eq_true (by omega)) | (have hb : inB n m = false := by unfold inB; exact decide_eq_false (by omega))
    go_enter Try.func23, Try.ntmps23
    go_wp2_with (go_at_call 45; go_call (within_b n m) as e w' ⟨rfl, rfl⟩)
    go_returns
    exact ⟨rfl, by go_grown⟩
  by_cases h3 : m - l - n < m / 2
  · have e1 : fL l m n = l := by unfold fL; first | rw [if_neg (by omega)] | rw [if_pos (by omega)]
    have e2 : fR l m n = 0 := by unfold fR; first | rw [if_neg (by omega)] | rw [if_pos (by omega)]
    rw [e1, e2]; clear e1 e2
    first | (have hb : inB n m = true := by unfold inB; exact decide_eq_true (by omega)) | (have hb : inB n m = false := by unfold inB; exact decide_eq_false (by omega))
    go_enter Try.func23, Try.ntmps23
    go_wp2_with (go_at_call 45; go_call (within_b n m) as e w' ⟨rfl, rfl⟩)
    go_returns
    exact ⟨rfl, by go_grown⟩
  · have e1 : fL l m n = l + (m - l - n) := by unfold fL; first | rw [if_neg (by omega)] | rw [if_pos (by omega)]
    have e2 : fR l m n = m - l - n := by unfold fR; first | rw [if_neg (by omega)] | rw [if_pos (by omega)]
    rw [e1, e2]; clear e1 e2
    first | (have hb : inB n m = true := by unfold inB; exact decide_eq_true (by omega)) | (have hb : inB n m = false := by unfold inB; exact decide_eq_false (by omega))
    go_enter Try.func23, Try.ntmps23
    go_wp2_with (go_at_call 45; go_call (within_b n m) as e w' ⟨rfl, rfl⟩)
    go_returns
    exact ⟨rfl, by go_grown⟩

theorem rrefill_any (l m n : Int) (w : World) (hl : 0 ≤ l ∧ l ≤ 4294967295) (hm : 0 ≤ m ∧ m ≤ 4294967295) (hn : -9223372036854775808 ≤ n ∧ n ≤ 9223372036854775807) :
    Calls Try.prog 24 #[.agg #[.int .u32 l, .int .u32 m], .int .i64 n] w fun e w' => e = .returned (.tuple #[.agg #[.int .u32 (fL l m n), .int .u32 m], .int .u32 (fR l m n)]) ∧ Below w.heap.size w w' := by
  obtain ⟨a1, a2⟩ := hl; obtain ⟨b1, b2⟩ := hm; obtain ⟨c1, c2⟩ := hn
  by_cases h0 : n < 0
  · have e1 : fL l m n = l := by unfold fL; first | rw [if_neg (by omega)] | rw [if_pos (by omega)]
    have e2 : fR l m n = 0 := by unfold fR; first | rw [if_neg (by omega)] | rw [if_pos (by omega)]
    rw [e1, e2]; clear e1 e2
    go_enter Try.func24, Try.ntmps24
    go_wp2
    go_returns
    exact ⟨rfl, by go_grown⟩
  by_cases h1 : m < n
  · have e1 : fL l m n = l := by unfold fL; first | rw [if_neg (by omega)] | rw [if_pos (by omega)]
    have e2 : fR l m n = 0 := by unfold fR; first | rw [if_neg (by omega)] | rw [if_pos (by omega)]
    rw [e1, e2]; clear e1 e2
    go_enter Try.func24, Try.ntmps24
    go_wp2
    go_returns
    exact ⟨rfl, by go_grown⟩
  by_cases h2 : m - n < l
  · have e1 : fL l m n = l := by unfold fL; first | rw [if_neg (by omega)] | rw [if_pos (by omega)]
    have e2 : fR l m n = 0 := by unfold fR; first | rw [if_neg (by omega)] | rw [if_pos (by omega)]
    rw [e1, e2]; clear e1 e2
    go_enter Try.func24, Try.ntmps24
    go_wp2
    go_returns
    exact ⟨rfl, by go_grown⟩
  by_cases h4 : m - n = l
  · obtain rfl : l = m - n := by omega
    have e1 : fL (m - n) m n = m - n := by unfold fL; first | rw [if_neg (by omega)] | rw [if_pos (by omega)]
    have e2 : fR (m - n) m n = 0 := by unfold fR; first | rw [if_neg (by omega)] | rw [if_pos (by omega)]
    rw [e1, e2]; clear e1 e2
    go_enter Try.func24, Try.ntmps24
    go_wp2
    go_returns
    exact ⟨rfl, by go_grown⟩
  by_cases h3 : m - l - n < m / 2
  · have e1 : fL l m n = l := by unfold fL; first | rw [if_neg (by omega)] | rw [if_pos (by omega)]
    have e2 : fR l m n = 0 := by unfold fR; first | rw [if_neg (by omega)] | rw [if_pos (by omega)]
    rw [e1, e2]; clear e1 e2
    have hz : ((m - n - l) == 0) = false := beq_eq_false_iff_ne.2 (by omega)
    go_enter Try.func24, Try.ntmps24
    go_wp2
    go_returns
    exact ⟨rfl, by go_grown⟩
  · have e1 : fL l m n = l + (m - n - l) := by unfold fL; rw [if_pos (by omega)]; omega
    have e2 : fR l m n = m - n - l := by unfold fR; rw [if_pos (by omega)]; omega
    rw [e1, e2]; clear e1 e2
    have hz : ((m - n - l) == 0) = false := beq_eq_false_iff_ne.2 (by omega)
    go_enter Try.func24, Try.ntmps24
    go_wp2
    go_returns
    exact ⟨rfl, by go_grown⟩

end Go.Proofs.Ytamnnggijmmogaa
