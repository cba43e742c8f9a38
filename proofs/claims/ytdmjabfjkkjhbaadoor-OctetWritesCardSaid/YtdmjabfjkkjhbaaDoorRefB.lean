/- The document's answer for layer 1: a number in four bytes; no condition. -/
import Derived.Test.YtdmjabfjkkjhbaaDoorRefA
namespace Go.Proofs.YtdmjabfjkkjhbaaDoor
set_option linter.all false
open Go.RowKit

set_option maxHeartbeats 1600000 in
theorem refFour_any (n : Int) (w : World) (h0 : 0 ≤ n) (h1 : n ≤ 4294967295) : Calls Tryd.prog 59 #[.int .u32 n] w fun e w' => e = .returned (.slice (some ⟨w.heap.size, 0, none⟩) 4 4) ∧ w' = w.alloc (.cells (u8s (four n)).toArray 5) := by
  go_enter Tryd.func59, Tryd.ntmps59
  go_wp2
  go_ret
  refine ⟨rfl, ?_⟩
  have e : n / 16777216 % 256 = n / 16777216 := by omega
  simp [four, u8s, e]

/-- The number that four bytes are. -/
theorem refNumber_any (A : Option Addr) (l : List Int) (c : Nat) (w : World) (h : Rd w A l) (h4 : 4 ≤ l.length) (hb : ∀ x ∈ l, 0 ≤ x ∧ x < 256) : Calls Tryd.prog 56 #[.slice A l.length c] w fun e w' => e = .returned (.int .u32 (be4 l)) ∧ Only [] w w' := by
  have hx : ∀ k, k < 4 → ∃ x, l[k]? = some x ∧ l.getD k 0 = x ∧ 0 ≤ x ∧ x < 256 := by
    intro k hk
    refine ⟨l[k]'(by omega), List.getElem?_eq_getElem (by omega), ?_, hb _ (List.getElem_mem _)⟩
    simp [List.getD, List.getElem?_eq_getElem (show k < l.length by omega)]
  obtain ⟨x0, hx0, hd0, a0, b0⟩ := hx 0 (by omega)
  obtain ⟨x1, hx1, hd1, a1, b1⟩ := hx 1 (by omega)
  obtain ⟨x2, hx2, hd2, a2, b2⟩ := hx 2 (by omega)
  obtain ⟨x3, hx3, hd3, a3, b3⟩ := hx 3 (by omega)
  obtain ⟨b, off, rfl, hlt, hc⟩ := h (by omega)
  have c0 : w.cell? ⟨b, off, none⟩ = some (.int .u8 x0) := hc 0 x0 hx0
  have c1 := hc 1 x1 hx1
  have c2 := hc 2 x2 hx2
  have c3 := hc 3 x3 hx3
  have hbe : be4 l = x0 * 16777216 + x1 * 65536 + x2 * 256 + x3 := by unfold be4; rw [hd0, hd1, hd2, hd3]
  rw [hbe]
  obtain ⟨L, hL⟩ : ∃ L, l.length = L := ⟨_, rfl⟩
  rw [hL] at h4 ⊢
  clear hL hbe hd0 hd1 hd2 hd3 hx hx0 hx1 hx2 hx3 hc hb
  have l0 : (0 : Int) < L := by omega
  have l1 : (1 : Int) < L := by omega
  have l2 : (2 : Int) < L := by omega
  have l3 : (3 : Int) < L := by omega
  have m0 : 0 < L := by omega
  have m1 : 1 < L := by omega
  have m2 : 2 < L := by omega
  have m3 : 3 < L := by omega
  go_enter Tryd.func56, Tryd.ntmps56
  go_wp2
  go_quiet (fail)
  go_wp2
  go_ret
  exact ⟨rfl, (Only.refl _ _).drewN _⟩
end Go.Proofs.YtdmjabfjkkjhbaaDoor
