/- Layer 24: windows, the program's and the document's; for all numbers of their types. -/
import Derived.Test.YtpojfcpeibnohaaGreatDoorFrame
import Derived.Test.YtpojfcpeibnohaaGreatDoorKit
namespace Go.Proofs.YtpojfcpeibnohaaGreatDoor
set_option linter.all false
open Go.RowKit


def lst2 (x y : Int) : Int := max (min x y) 0
def lst3 (x y z : Int) : Int := max (min (min x y) z) 0

set_option maxHeartbeats 400000 in
theorem least2 (x y : Int) (w : World) (b : Nat) (h0 : w.cell? ⟨b, 0, none⟩ = some (.int .i64 x)) (h1 : w.cell? ⟨b, 1, none⟩ = some (.int .i64 y)) :
    Calls Tryz.prog 46 #[.slice (some ⟨b, 0, none⟩) 2 2] w fun e w' => e = .returned (.int .i64 (lst2 x y)) ∧ w = w' := by
  go_enter Tryz.func46, Tryz.ntmps46
  go_wp2
  go_rounds 2
  all_goals (go_ret; exact ⟨ret_int (by unfold lst2; omega), rfl⟩)

set_option maxHeartbeats 400000 in
theorem least3 (x y z : Int) (w : World) (b : Nat) (h0 : w.cell? ⟨b, 0, none⟩ = some (.int .i64 x)) (h1 : w.cell? ⟨b, 1, none⟩ = some (.int .i64 y)) (h2 : w.cell? ⟨b, 2, none⟩ = some (.int .i64 z)) :
    Calls Tryz.prog 46 #[.slice (some ⟨b, 0, none⟩) 3 3] w fun e w' => e = .returned (.int .i64 (lst3 x y z)) ∧ w = w' := by
  go_enter Tryz.func46, Tryz.ntmps46
  go_wp2
  go_rounds 3
  all_goals (go_ret; exact ⟨ret_int (by unfold lst3; omega), rfl⟩)

def once (l p : Int) : Int := lst3 l p 32768

theorem atOnce_any (l p : Int) (w : World) (hl : 0 ≤ l ∧ l ≤ 4294967295) (hp : 0 ≤ p ∧ p ≤ 4294967295) :
    Calls Tryz.prog 47 #[.agg #[.int .u32 l, .int .u32 p]] w fun e w' => e = .returned (.int .i64 (once l p)) ∧ Below w.heap.size w w' := by
  obtain ⟨a1, a2⟩ := hl; obtain ⟨b1, b2⟩ := hp
  go_enter Tryz.func47, Tryz.ntmps47
  go_wp2_with (go_at_call 46; go_call (least3 l p 32768) as e w' ⟨rfl, rfl⟩)
  go_ret
  exact ⟨rfl, by go_grown⟩

/-! What a grant makes of a window: the new Left, the error. -/
def gL (l n : Int) : Int := if 4294967295 - l < n then l else l + n
def gE (l n : Int) : Int := if 4294967295 - l < n then 5 else 0
theorem gL_rng (l n : Int) (hl : 0 ≤ l ∧ l ≤ 4294967295) (hn : 0 ≤ n) : 0 ≤ gL l n ∧ gL l n ≤ 4294967295 := by unfold gL; split <;> omega

theorem grant_any (l p n : Int) (w : World) (hl : 0 ≤ l ∧ l ≤ 4294967295) (hn : 0 ≤ n ∧ n ≤ 4294967295) :
    Calls Tryz.prog 55 #[.agg #[.int .u32 l, .int .u32 p], .int .u32 n] w fun e w' => e = .returned (.tuple #[.agg #[.int .u32 (gL l n), .int .u32 p], .int .i64 (gE l n)]) ∧ Below w.heap.size w w' := by
  obtain ⟨a1, a2⟩ := hl; obtain ⟨b1, b2⟩ := hn
  unfold gL gE
  by_cases h : 4294967295 - l < n
  · rw [if_pos h, if_pos h]
    go_enter Tryz.func55, Tryz.ntmps55
    go_wp2
    go_returns
    exact ⟨rfl, by go_grown⟩
  · rw [if_neg h, if_neg h]
    go_enter Tryz.func55, Tryz.ntmps55
    go_wp2
    go_returns
    exact ⟨rfl, by go_grown⟩

theorem rgrant_any (l p n : Int) (w : World) (hl : 0 ≤ l ∧ l ≤ 4294967295) (hn : 0 ≤ n ∧ n ≤ 4294967295) :
    Calls Tryz.prog 49 #[.agg #[.int .u32 l, .int .u32 p], .int .u32 n] w fun e w' => e = .returned (.tuple #[.agg #[.int .u32 (gL l n), .int .u32 p], .int .i64 (gE l n)]) ∧ Below w.heap.size w w' := by
  obtain ⟨a1, a2⟩ := hl; obtain ⟨b1, b2⟩ := hn
  unfold gL gE
  by_cases h : 4294967295 - l < n
  · rw [if_pos h, if_pos h]
    have h' : 4294967295 < l + n := by omega
    clear h
    go_enter Tryz.func49, Tryz.ntmps49
    go_wp2
    go_returns
    exact ⟨rfl, by go_grown⟩
  · rw [if_neg h, if_neg h]
    go_enter Tryz.func49, Tryz.ntmps49
    go_wp2
    go_returns
    exact ⟨rfl, by go_grown⟩

/-! Sent: the new Left, the error. -/
def sL (l p n : Int) : Int := if 0 ≤ n ∧ n ≤ once l p then l - n else l
def sE (l p n : Int) : Int := if 0 ≤ n ∧ n ≤ once l p then 0 else 5
theorem once_rng (l p : Int) (hl : 0 ≤ l) (hp : 0 ≤ p) : 0 ≤ once l p ∧ once l p ≤ l ∧ once l p ≤ p ∧ once l p ≤ 32768 := by unfold once lst3; omega

theorem winWithin_any (n hi : Int) (w : World) :
    Calls Tryz.prog 53 #[.int .i64 n, .int .i64 hi] w fun e w' => e = .returned (.bool (decide (0 ≤ n ∧ n ≤ hi))) ∧ w = w' := by
  by_cases h1 : 0 ≤ n
  · by_cases h2 : n ≤ hi
    · go_enter Tryz.func53, Tryz.ntmps53
      go_wp2
      go_ret
      exact ⟨ret_bool (by simp [h1, h2]), rfl⟩
    · go_enter Tryz.func53, Tryz.ntmps53
      go_wp2
      go_ret
      exact ⟨ret_bool (by simp [h2]), rfl⟩
  · go_enter Tryz.func53, Tryz.ntmps53
    go_wp2
    go_ret
    exact ⟨ret_bool (by simp; omega), rfl⟩

def inB (n hi : Int) : Bool := decide (0 ≤ n ∧ n ≤ hi)
theorem winWithin_b (n hi : Int) (w : World) :
    Calls Tryz.prog 53 #[.int .i64 n, .int .i64 hi] w fun e w' => e = .returned (.bool (inB n hi)) ∧ w = w' := winWithin_any n hi w

theorem sent_any (l p n : Int) (w : World) (hl : 0 ≤ l ∧ l ≤ 4294967295) (hp : 0 ≤ p ∧ p ≤ 4294967295) :
    Calls Tryz.prog 35 #[.agg #[.int .u32 l, .int .u32 p], .int .i64 n] w fun e w' => e = .returned (.tuple #[.agg #[.int .u32 (sL l p n), .int .u32 p], .int .i64 (sE l p n)]) ∧ Below w.heap.size w w' := by
  have ho := once_rng l p hl.1 hp.1
  unfold sL sE
  by_cases h : 0 ≤ n ∧ n ≤ once l p
  all_goals
    first | rw [if_pos h, if_pos h] | rw [if_neg h, if_neg h]
    first | (have hb : inB n (once l p) = true := by unfold inB; simpa using h) | (have hb : inB n (once l p) = false := by unfold inB; simpa using h)
    try (have h3 : n ≤ l := by omega)
    try (have h4 : 0 ≤ n := h.1)
    clear h ho
    obtain ⟨a1, a2⟩ := hl
    go_enter Tryz.func35, Tryz.ntmps35
    go_wp2_with fail
    go_call (atOnce_any l p) as e w1 ⟨rfl, b1⟩
    have d0 := cellv b1 (b := w.heap.size) (o := 0) (v := .int .u32 l) (by go_size) (by simp [go_sem])
    have d1 := cellv b1 (b := w.heap.size) (o := 1) (v := .int .u32 p) (by go_size) (by simp [go_sem])
    have d2 := cellv b1 (b := w.heap.size + 1) (o := 0) (v := .int .u32 0) (by go_size) (by simp [go_sem])
    have d3 := cellv b1 (b := w.heap.size + 1) (o := 1) (v := .int .u32 0) (by go_size) (by simp [go_sem])
    obtain ⟨c1, f1⟩ := bcell b1
    go_wp2_with fail
    go_call (winWithin_b n (once l p)) as e w' ⟨rfl, rfl⟩
    go_wp2_with fail
    refine bodyPost_ret (by simp [results, Tryz.results35, go_sem, d0, d1, d2, d3]; try rfl) rfl ?_
    have b2 : Below w.heap.size w w1 := (((Below.refl _ _).alloc (Nat.le_refl _) _).alloc (by simp) _).trans (b1.mono (by simp; omega))
    exact ⟨rfl, by go_grown⟩

/-- The reference's Sent. -/
theorem rsent_any (l p n : Int) (w : World) (hl : 0 ≤ l ∧ l ≤ 4294967295) (hp : 0 ≤ p ∧ p ≤ 4294967295) (hn : -9223372036854775808 ≤ n ∧ n ≤ 9223372036854775807) :
    Calls Tryz.prog 50 #[.agg #[.int .u32 l, .int .u32 p], .int .i64 n] w fun e w' => e = .returned (.tuple #[.agg #[.int .u32 (sL l p n), .int .u32 p], .int .i64 (sE l p n)]) ∧ Below w.heap.size w w' := by
  obtain ⟨a1, a2⟩ := hl; obtain ⟨b1, b2⟩ := hp; obtain ⟨c1, c2⟩ := hn
  by_cases h0 : n < 0
  · have e1 : sL l p n = l := by unfold sL once lst3; first | rw [if_neg (by omega)] | rw [if_pos (by omega)]
    have e2 : sE l p n = 5 := by unfold sE once lst3; first | rw [if_neg (by omega)] | rw [if_pos (by omega)]
    rw [e1, e2]; clear e1 e2
    go_enter Tryz.func50, Tryz.ntmps50
    go_wp2
    go_returns
    exact ⟨rfl, by go_grown⟩
  by_cases h1 : 32768 < n
  · have e1 : sL l p n = l := by unfold sL once lst3; first | rw [if_neg (by omega)] | rw [if_pos (by omega)]
    have e2 : sE l p n = 5 := by unfold sE once lst3; first | rw [if_neg (by omega)] | rw [if_pos (by omega)]
    rw [e1, e2]; clear e1 e2
    go_enter Tryz.func50, Tryz.ntmps50
    go_wp2
    go_returns
    exact ⟨rfl, by go_grown⟩
  by_cases h2 : l < n
  · have e1 : sL l p n = l := by unfold sL once lst3; first | rw [if_neg (by omega)] | rw [if_pos (by omega)]
    have e2 : sE l p n = 5 := by unfold sE once lst3; first | rw [if_neg (by omega)] | rw [if_pos (by omega)]
    rw [e1, e2]; clear e1 e2
    go_enter Tryz.func50, Tryz.ntmps50
    go_wp2
    go_returns
    exact ⟨rfl, by go_grown⟩
  by_cases h3 : p < n
  · have e1 : sL l p n = l := by unfold sL once lst3; first | rw [if_neg (by omega)] | rw [if_pos (by omega)]
    have e2 : sE l p n = 5 := by unfold sE once lst3; first | rw [if_neg (by omega)] | rw [if_pos (by omega)]
    rw [e1, e2]; clear e1 e2
    go_enter Tryz.func50, Tryz.ntmps50
    go_wp2
    go_returns
    exact ⟨rfl, by go_grown⟩
  · have e1 : sL l p n = l - n := by unfold sL once lst3; first | rw [if_neg (by omega)] | rw [if_pos (by omega)]
    have e2 : sE l p n = 0 := by unfold sE once lst3; first | rw [if_neg (by omega)] | rw [if_pos (by omega)]
    rw [e1, e2]; clear e1 e2
    go_enter Tryz.func50, Tryz.ntmps50
    go_wp2
    go_returns
    exact ⟨rfl, by go_grown⟩

/-! Fit. -/
def fT (l p h : Int) : Int := lst2 h (once l p)

theorem fit_any (l p h : Int) (w : World) (hl : 0 ≤ l ∧ l ≤ 4294967295) (hp : 0 ≤ p ∧ p ≤ 4294967295) :
    Calls Tryz.prog 24 #[.agg #[.int .u32 l, .int .u32 p], .int .i64 h] w fun e w' => e = .returned (.int .i64 (fT l p h)) ∧ Below w.heap.size w w' := by
  go_enter Tryz.func24, Tryz.ntmps24
  go_wp2_with fail
  go_call (atOnce_any l p _ hl hp) as e w1 ⟨rfl, b1⟩
  have b2 : Below w.heap.size w w1 := ((Below.refl _ _).alloc (Nat.le_refl _) _).trans (b1.mono (by simp))
  have z1 := b2.size
  go_wp2_with fail
  go_call (least2 h (once l p)) as e w' ⟨rfl, rfl⟩
  go_wp2_with fail
  go_ret
  exact ⟨rfl, by go_grown⟩

theorem rfit_any (l p h : Int) (w : World) (hl : 0 ≤ l ∧ l ≤ 4294967295) (hp : 0 ≤ p ∧ p ≤ 4294967295) (hn : -9223372036854775808 ≤ h ∧ h ≤ 9223372036854775807) :
    Calls Tryz.prog 26 #[.agg #[.int .u32 l, .int .u32 p], .int .i64 h] w fun e w' => e = .returned (.int .i64 (fT l p h)) ∧ Below w.heap.size w w' := by
  obtain ⟨a1, a2⟩ := hl; obtain ⟨b1, b2⟩ := hp; obtain ⟨c1, c2⟩ := hn
  go_enter Tryz.func26, Tryz.ntmps26
  go_wp2
  go_loop [5] (fun i => ∃ k : Nat, k ≤ 32768 ∧ (k : Int) ≤ fT l p h ∧ i = .int .i64 k) (fun i => 32768 - (intOf i).toNat)
  case atStart => exact ⟨0, by omega, by unfold fT once lst3 lst2; omega, rfl⟩
  case round =>
    obtain ⟨k, hk, hf, rfl⟩ := hrel
    have hF := hide hf
    unfold fT once lst3 lst2 at hf
    by_cases g1 : (k : Int) < h
    · by_cases g2 : (k : Int) < 32768
      · by_cases g3 : (k : Int) < l
        · by_cases g4 : (k : Int) < p
          · clear hf
            go_wp2
            go_round
            case rel => exact ⟨k + 1, by omega, by unfold fT once lst3 lst2; omega, by go_num⟩
            case measure => simp [intOf]; omega
          · have e : fT l p h = k := by unfold fT once lst3 lst2; omega
            clear hf
            rw [e]
            go_wp2
            go_ret
            exact ⟨rfl, by go_grown⟩
        · have e : fT l p h = k := by unfold fT once lst3 lst2; omega
          clear hf
          rw [e]
          go_wp2
          go_ret
          exact ⟨rfl, by go_grown⟩
      · have e : fT l p h = k := by unfold fT once lst3 lst2; omega
        clear hf
        rw [e]
        go_wp2
        go_ret
        exact ⟨rfl, by go_grown⟩
    · have e : fT l p h = k := by unfold fT once lst3 lst2; omega
      clear hf
      rw [e]
      go_wp2
      go_ret
      exact ⟨rfl, by go_grown⟩
end Go.Proofs.YtpojfcpeibnohaaGreatDoor

namespace Go.Proofs.YtpojfcpeibnohaaGreatDoor
set_option linter.all false
open Go.RowKit

def oL (l n : Int) : Int := if 0 ≤ n ∧ n ≤ l then l - n else l
def oE (l n : Int) : Int := if 0 ≤ n ∧ n ≤ l then 0 else 5
theorem got_any (l m n : Int) (w : World) (hl : 0 ≤ l ∧ l ≤ 4294967295) (hn : -9223372036854775808 ≤ n ∧ n ≤ 9223372036854775807) :
    Calls Tryz.prog 54 #[.agg #[.int .u32 l, .int .u32 m], .int .i64 n] w fun e w' => e = .returned (.tuple #[.agg #[.int .u32 (oL l n), .int .u32 m], .int .i64 (oE l n)]) ∧ Below w.heap.size w w' := by
  obtain ⟨a1, a2⟩ := hl; obtain ⟨c1, c2⟩ := hn
  by_cases h0 : n < 0
  · have e1 : oL l n = l := by unfold oL; first | rw [if_neg (by omega)] | rw [if_pos (by omega)]
    have e2 : oE l n = 5 := by unfold oE; first | rw [if_neg (by omega)] | rw [if_pos (by omega)]
    rw [e1, e2]; clear e1 e2
    first | (have hb : inB n l = true := by unfold inB; exact decide_eq_true (by omega)) | (have hb : inB n l = false := by unfold inB; exact decide_eq_false (by omega))
    go_enter Tryz.func54, Tryz.ntmps54
    go_wp2_with (go_at_call 53; go_call (winWithin_b n l) as e w' ⟨rfl, rfl⟩)
    go_returns
    exact ⟨rfl, by go_grown⟩
  by_cases h1 : l < n
  · have e1 : oL l n = l := by unfold oL; first | rw [if_neg (by omega)] | rw [if_pos (by omega)]
    have e2 : oE l n = 5 := by unfold oE; first | rw [if_neg (by omega)] | rw [if_pos (by omega)]
    rw [e1, e2]; clear e1 e2
    first | (have hb : inB n l = true := by unfold inB; exact decide_eq_true (by omega)) | (have hb : inB n l = false := by unfold inB; exact decide_eq_false (by omega))
    go_enter Tryz.func54, Tryz.ntmps54
    go_wp2_with (go_at_call 53; go_call (winWithin_b n l) as e w' ⟨rfl, rfl⟩)
    go_returns
    exact ⟨rfl, by go_grown⟩
  · have e1 : oL l n = l - n := by unfold oL; first | rw [if_neg (by omega)] | rw [if_pos (by omega)]
    have e2 : oE l n = 0 := by unfold oE; first | rw [if_neg (by omega)] | rw [if_pos (by omega)]
    rw [e1, e2]; clear e1 e2
    first | (have hb : inB n l = true := by unfold inB; exact decide_eq_true (by omega)) | (have hb : inB n l = false := by unfold inB; exact decide_eq_false (by omega))
    go_enter Tryz.func54, Tryz.ntmps54
    go_wp2_with (go_at_call 53; go_call (winWithin_b n l) as e w' ⟨rfl, rfl⟩)
    go_returns
    exact ⟨rfl, by go_grown⟩

theorem rgot_any (l m n : Int) (w : World) (hl : 0 ≤ l ∧ l ≤ 4294967295) (hn : -9223372036854775808 ≤ n ∧ n ≤ 9223372036854775807) :
    Calls Tryz.prog 48 #[.agg #[.int .u32 l, .int .u32 m], .int .i64 n] w fun e w' => e = .returned (.tuple #[.agg #[.int .u32 (oL l n), .int .u32 m], .int .i64 (oE l n)]) ∧ Below w.heap.size w w' := by
  obtain ⟨a1, a2⟩ := hl; obtain ⟨c1, c2⟩ := hn
  by_cases h0 : n < 0
  · have e1 : oL l n = l := by unfold oL; first | rw [if_neg (by omega)] | rw [if_pos (by omega)]
    have e2 : oE l n = 5 := by unfold oE; first | rw [if_neg (by omega)] | rw [if_pos (by omega)]
    rw [e1, e2]; clear e1 e2
    go_enter Tryz.func48, Tryz.ntmps48
    go_wp2
    go_returns
    exact ⟨rfl, by go_grown⟩
  by_cases h1 : l < n
  · have e1 : oL l n = l := by unfold oL; first | rw [if_neg (by omega)] | rw [if_pos (by omega)]
    have e2 : oE l n = 5 := by unfold oE; first | rw [if_neg (by omega)] | rw [if_pos (by omega)]
    rw [e1, e2]; clear e1 e2
    go_enter Tryz.func48, Tryz.ntmps48
    go_wp2
    go_returns
    exact ⟨rfl, by go_grown⟩
  · have e1 : oL l n = l - n := by unfold oL; first | rw [if_neg (by omega)] | rw [if_pos (by omega)]
    have e2 : oE l n = 0 := by unfold oE; first | rw [if_neg (by omega)] | rw [if_pos (by omega)]
    rw [e1, e2]; clear e1 e2
    go_enter Tryz.func48, Tryz.ntmps48
    go_wp2
    go_returns
    exact ⟨rfl, by go_grown⟩

def fL (l m n : Int) : Int := if 0 ≤ n ∧ n ≤ m ∧ 0 < m - l - n ∧ m / 2 ≤ m - l - n then l + (m - l - n) else l
def fR (l m n : Int) : Int := if 0 ≤ n ∧ n ≤ m ∧ 0 < m - l - n ∧ m / 2 ≤ m - l - n then m - l - n else 0
theorem refill_any (l m n : Int) (w : World) (hl : 0 ≤ l ∧ l ≤ 4294967295) (hm : 0 ≤ m ∧ m ≤ 4294967295) (hn : -9223372036854775808 ≤ n ∧ n ≤ 9223372036854775807) :
    Calls Tryz.prog 44 #[.agg #[.int .u32 l, .int .u32 m], .int .i64 n] w fun e w' => e = .returned (.tuple #[.agg #[.int .u32 (fL l m n), .int .u32 m], .int .u32 (fR l m n)]) ∧ Below w.heap.size w w' := by
  obtain ⟨a1, a2⟩ := hl; obtain ⟨b1, b2⟩ := hm; obtain ⟨c1, c2⟩ := hn
  by_cases h0 : n < 0
  · have e1 : fL l m n = l := by unfold fL; first | rw [if_neg (by omega)] | rw [if_pos (by omega)]
    have e2 : fR l m n = 0 := by unfold fR; first | rw [if_neg (by omega)] | rw [if_pos (by omega)]
    rw [e1, e2]; clear e1 e2
    first | (have hb : inB n m = true := by unfold inB; exact decide_eq_true (by omega)) | (have hb : inB n m = false := by unfold inB; exact decide_eq_false (by omega))
    go_enter Tryz.func44, Tryz.ntmps44
    go_wp2_with (go_at_call 53; go_call (winWithin_b n m) as e w' ⟨rfl, rfl⟩)
    go_returns
    exact ⟨rfl, by go_grown⟩
  by_cases h1 : m < n
  · have e1 : fL l m n = l := by unfold fL; first | rw [if_neg (by omega)] | rw [if_pos (by omega)]
    have e2 : fR l m n = 0 := by unfold fR; first | rw [if_neg (by omega)] | rw [if_pos (by omega)]
    rw [e1, e2]; clear e1 e2
    first | (have hb : inB n m = true := by unfold inB; exact decide_eq_true (by omega)) | (have hb : inB n m = false := by unfold inB; exact decide_eq_false (by omega))
    go_enter Tryz.func44, Tryz.ntmps44
    go_wp2_with (go_at_call 53; go_call (winWithin_b n m) as e w' ⟨rfl, rfl⟩)
    go_returns
    exact ⟨rfl, by go_grown⟩
  by_cases h2 : m - n < l
  · have e1 : fL l m n = l := by unfold fL; first | rw [if_neg (by omega)] | rw [if_pos (by omega)]
    have e2 : fR l m n = 0 := by unfold fR; first | rw [if_neg (by omega)] | rw [if_pos (by omega)]
    rw [e1, e2]; clear e1 e2
    first | (have hb : inB n m = true := by unfold inB; exact decide_eq_true (by omega)) | (have hb : inB n m = false := by unfold inB; exact decide_eq_false (by omega))
    go_enter Tryz.func44, Tryz.ntmps44
    go_wp2_with (go_at_call 53; go_call (winWithin_b n m) as e w' ⟨rfl, rfl⟩)
    go_returns
    exact ⟨rfl, by go_grown⟩
  by_cases h4 : m - n = l
  · obtain rfl : l = m - n := by omega
    have e1 : fL (m - n) m n = m - n := by unfold fL; first | rw [if_neg (by omega)] | rw [if_pos (by omega)]
    have e2 : fR (m - n) m n = 0 := by unfold fR; first | rw [if_neg (by omega)] | rw [if_pos (by omega)]
    rw [e1, e2]; clear e1 e2
    first | (have hb : inB n m = true := by unfold inB; exact decide_eq_true (by omega)) | (have hb : inB n m = false := by unfold inB; exact decide_eq_false (by omega))
    go_enter Tryz.func44, Tryz.ntmps44
    go_wp2_with (go_at_call 53; go_call (winWithin_b n m) as e w' ⟨rfl, rfl⟩)
    go_returns
    exact ⟨rfl, by go_grown⟩
  by_cases h3 : m - l - n < m / 2
  · have e1 : fL l m n = l := by unfold fL; first | rw [if_neg (by omega)] | rw [if_pos (by omega)]
    have e2 : fR l m n = 0 := by unfold fR; first | rw [if_neg (by omega)] | rw [if_pos (by omega)]
    rw [e1, e2]; clear e1 e2
    first | (have hb : inB n m = true := by unfold inB; exact decide_eq_true (by omega)) | (have hb : inB n m = false := by unfold inB; exact decide_eq_false (by omega))
    go_enter Tryz.func44, Tryz.ntmps44
    go_wp2_with (go_at_call 53; go_call (winWithin_b n m) as e w' ⟨rfl, rfl⟩)
    go_returns
    exact ⟨rfl, by go_grown⟩
  · have e1 : fL l m n = l + (m - l - n) := by unfold fL; first | rw [if_neg (by omega)] | rw [if_pos (by omega)]
    have e2 : fR l m n = m - l - n := by unfold fR; first | rw [if_neg (by omega)] | rw [if_pos (by omega)]
    rw [e1, e2]; clear e1 e2
    first | (have hb : inB n m = true := by unfold inB; exact decide_eq_true (by omega)) | (have hb : inB n m = false := by unfold inB; exact decide_eq_false (by omega))
    go_enter Tryz.func44, Tryz.ntmps44
    go_wp2_with (go_at_call 53; go_call (winWithin_b n m) as e w' ⟨rfl, rfl⟩)
    go_returns
    exact ⟨rfl, by go_grown⟩

theorem rrefill_any (l m n : Int) (w : World) (hl : 0 ≤ l ∧ l ≤ 4294967295) (hm : 0 ≤ m ∧ m ≤ 4294967295) (hn : -9223372036854775808 ≤ n ∧ n ≤ 9223372036854775807) :
    Calls Tryz.prog 51 #[.agg #[.int .u32 l, .int .u32 m], .int .i64 n] w fun e w' => e = .returned (.tuple #[.agg #[.int .u32 (fL l m n), .int .u32 m], .int .u32 (fR l m n)]) ∧ Below w.heap.size w w' := by
  obtain ⟨a1, a2⟩ := hl; obtain ⟨b1, b2⟩ := hm; obtain ⟨c1, c2⟩ := hn
  by_cases h0 : n < 0
  · have e1 : fL l m n = l := by unfold fL; first | rw [if_neg (by omega)] | rw [if_pos (by omega)]
    have e2 : fR l m n = 0 := by unfold fR; first | rw [if_neg (by omega)] | rw [if_pos (by omega)]
    rw [e1, e2]; clear e1 e2
    go_enter Tryz.func51, Tryz.ntmps51
    go_wp2
    go_returns
    exact ⟨rfl, by go_grown⟩
  by_cases h1 : m < n
  · have e1 : fL l m n = l := by unfold fL; first | rw [if_neg (by omega)] | rw [if_pos (by omega)]
    have e2 : fR l m n = 0 := by unfold fR; first | rw [if_neg (by omega)] | rw [if_pos (by omega)]
    rw [e1, e2]; clear e1 e2
    go_enter Tryz.func51, Tryz.ntmps51
    go_wp2
    go_returns
    exact ⟨rfl, by go_grown⟩
  by_cases h2 : m - n < l
  · have e1 : fL l m n = l := by unfold fL; first | rw [if_neg (by omega)] | rw [if_pos (by omega)]
    have e2 : fR l m n = 0 := by unfold fR; first | rw [if_neg (by omega)] | rw [if_pos (by omega)]
    rw [e1, e2]; clear e1 e2
    go_enter Tryz.func51, Tryz.ntmps51
    go_wp2
    go_returns
    exact ⟨rfl, by go_grown⟩
  by_cases h4 : m - n = l
  · obtain rfl : l = m - n := by omega
    have e1 : fL (m - n) m n = m - n := by unfold fL; first | rw [if_neg (by omega)] | rw [if_pos (by omega)]
    have e2 : fR (m - n) m n = 0 := by unfold fR; first | rw [if_neg (by omega)] | rw [if_pos (by omega)]
    rw [e1, e2]; clear e1 e2
    go_enter Tryz.func51, Tryz.ntmps51
    go_wp2
    go_returns
    exact ⟨rfl, by go_grown⟩
  by_cases h3 : m - l - n < m / 2
  · have e1 : fL l m n = l := by unfold fL; first | rw [if_neg (by omega)] | rw [if_pos (by omega)]
    have e2 : fR l m n = 0 := by unfold fR; first | rw [if_neg (by omega)] | rw [if_pos (by omega)]
    rw [e1, e2]; clear e1 e2
    have hz : ((m - n - l) == 0) = false := beq_eq_false_iff_ne.2 (by omega)
    go_enter Tryz.func51, Tryz.ntmps51
    go_wp2
    go_returns
    exact ⟨rfl, by go_grown⟩
  · have e1 : fL l m n = l + (m - n - l) := by unfold fL; rw [if_pos (by omega)]; omega
    have e2 : fR l m n = m - n - l := by unfold fR; rw [if_pos (by omega)]; omega
    rw [e1, e2]; clear e1 e2
    have hz : ((m - n - l) == 0) = false := beq_eq_false_iff_ne.2 (by omega)
    go_enter Tryz.func51, Tryz.ntmps51
    go_wp2
    go_returns
    exact ⟨rfl, by go_grown⟩

end Go.Proofs.YtpojfcpeibnohaaGreatDoor
