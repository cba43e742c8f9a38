/- Layer 24: windows, the program's and the document's; for all numbers of their types. -/
import Derived.Test.YtbamojbkehnmkaaFrame
import Derived.Test.YtbamojbkehnmkaaKit
namespace Go.Proofs.Ytbamojbkehnmkaa
set_option linter.all false
open Go.RowKit


def lst2 (x y : Int) : Int := max (min x y) 0
def lst3 (x y z : Int) : Int := max (min (min x y) z) 0

def once (l p : Int) : Int := lst3 l p 32768

def gL (l n : Int) : Int := if 4294967295 - l < n then l else l + n
def gE (l n : Int) : Int := if 4294967295 - l < n then 5 else 0
theorem gL_rng (l n : Int) (hl : 0 ≤ l ∧ l ≤ 4294967295) (hn : 0 ≤ n) : 0 ≤ gL l n ∧ gL l n ≤ 4294967295 := by unfold gL; split <;> omega

theorem grant_any (l p n : Int) (w : World) (hl : 0 ≤ l ∧ l ≤ 4294967295) (hn : 0 ≤ n ∧ n ≤ 4294967295) :
    Calls Try.prog 67 #[.agg #[.int .u32 l, .int .u32 p], .int .u32 n] w fun e w' => e = .returned (.tuple #[.agg #[.int .u32 (gL l n), .int .u32 p], .int .i64 (gE l n)]) ∧ Below w.heap.size w w' := by
  obtain ⟨a1, a2⟩ := hl; obtain ⟨b1, b2⟩ := hn
  unfold gL gE
  by_cases h : 4294967295 - l < n
  · rw [if_pos h, if_pos h]
    go_enter Try.func67, Try.ntmps67
    go_wp2
    go_returns
    exact ⟨rfl, by go_grown⟩
  · rw [if_neg h, if_neg h]
    go_enter Try.func67, Try.ntmps67
    go_wp2
    go_returns
    exact ⟨rfl, by go_grown⟩

def sL (l p n : Int) : Int := if 0 ≤ n ∧ n ≤ once l p then l - n else l
def sE (l p n : Int) : Int := if 0 ≤ n ∧ n ≤ once l p then 0 else 5
theorem once_rng (l p : Int) (hl : 0 ≤ l) (hp : 0 ≤ p) : 0 ≤ once l p ∧ once l p ≤ l ∧ once l p ≤ p ∧ once l p ≤ 32768 := by unfold once lst3; omega

theorem winWithin_any (n hi : Int) (w : World) :
    Calls Try.prog 68 #[.int .i64 n, .int .i64 hi] w fun e w' => e = .returned (.bool (decide (0 ≤ n ∧ n ≤ hi))) ∧ w = w' := by
  by_cases h1 : 0 ≤ n
  · by_cases h2 : n ≤ hi
    · go_enter Try.func68, Try.ntmps68
      go_wp2
      go_ret
      exact ⟨ret_bool (by simp [h1, h2]), rfl⟩
    · go_enter Try.func68, Try.ntmps68
      go_wp2
      go_ret
      exact ⟨ret_bool (by simp [h2]), rfl⟩
  · go_enter Try.func68, Try.ntmps68
    go_wp2
    go_ret
    exact ⟨ret_bool (by simp; omega), rfl⟩

def inB (n hi : Int) : Bool := decide (0 ≤ n ∧ n ≤ hi)
theorem winWithin_b (n hi : Int) (w : World) :
    Calls Try.prog 68 #[.int .i64 n, .int .i64 hi] w fun e w' => e = .returned (.bool (inB n hi)) ∧ w = w' := winWithin_any n hi w

def fT (l p h : Int) : Int := lst2 h (once l p)

end Go.Proofs.Ytbamojbkehnmkaa

namespace Go.Proofs.Ytbamojbkehnmkaa
set_option linter.all false
open Go.RowKit

def oL (l n : Int) : Int := if 0 ≤ n ∧ n ≤ l then l - n else l
def oE (l n : Int) : Int := if 0 ≤ n ∧ n ≤ l then 0 else 5
theorem got_any (l m n : Int) (w : World) (hl : 0 ≤ l ∧ l ≤ 4294967295) (hn : -9223372036854775808 ≤ n ∧ n ≤ 9223372036854775807) :
    Calls Try.prog 66 #[.agg #[.int .u32 l, .int .u32 m], .int .i64 n] w fun e w' => e = .returned (.tuple #[.agg #[.int .u32 (oL l n), .int .u32 m], .int .i64 (oE l n)]) ∧ Below w.heap.size w w' := by
  obtain ⟨a1, a2⟩ := hl; obtain ⟨c1, c2⟩ := hn
  by_cases h0 : n < 0
  · have e1 : oL l n = l := by unfold oL; first | rw [if_neg (by omega)] | rw [if_pos (by omega)]
    have e2 : oE l n = 5 := by unfold oE; first | rw [if_neg (by omega)] | rw [if_pos (by omega)]
    rw [e1, e2]; clear e1 e2
    first | (have hb : inB n l = true := by unfold inB; exact decide_eq_true (by omega)) | (have hb : inB n l = false := by unfold inB; exact decide_eq_false (by omega))
    go_enter Try.func66, Try.ntmps66
    go_wp2_with (go_at_call 68; go_call (winWithin_b n l) as e w' ⟨rfl, rfl⟩)
    go_returns
    exact ⟨rfl, by go_grown⟩
  by_cases h1 : l < n
  · have e1 : oL l n = l := by unfold oL; first | rw [if_neg (by omega)] | rw [if_pos (by omega)]
    have e2 : oE l n = 5 := by unfold oE; first | rw [if_neg (by omega)] | rw [if_pos (by omega)]
    rw [e1, e2]; clear e1 e2
    first | (have hb : inB n l = true := by unfold inB; exact decide_eq_true (by omega)) | (have hb : inB n l = false := by unfold inB; exact decide_eq_false (by omega))
    go_enter Try.func66, Try.ntmps66
    go_wp2_with (go_at_call 68; go_call (winWithin_b n l) as e w' ⟨rfl, rfl⟩)
    go_returns
    exact ⟨rfl, by go_grown⟩
  · have e1 : oL l n = l - n := by unfold oL; first | rw [if_neg (by omega)] | rw [if_pos (by omega)]
    have e2 : oE l n = 0 := by unfold oE; first | rw [if_neg (by omega)] | rw [if_pos (by omega)]
    rw [e1, e2]; clear e1 e2
    first | (have hb : inB n l = true := by unfold inB; exact decide_eq_true (by omega)) | (have hb : inB n l = false := by unfold inB; exact decide_eq_false (by omega))
    go_enter Try.func66, Try.ntmps66
    go_wp2_with (go_at_call 68; go_call (winWithin_b n l) as e w' ⟨rfl, rfl⟩)
    go_returns
    exact ⟨rfl, by go_grown⟩

def fL (l m n : Int) : Int := if 0 ≤ n ∧ n ≤ m ∧ 0 < m - l - n ∧ m / 2 ≤ m - l - n then l + (m - l - n) else l
def fR (l m n : Int) : Int := if 0 ≤ n ∧ n ≤ m ∧ 0 < m - l - n ∧ m / 2 ≤ m - l - n then m - l - n else 0
end Go.Proofs.Ytbamojbkehnmkaa
