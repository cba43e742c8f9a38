/- The document's answer for layer 1: rows of kinds; no condition · The document's answer for layer 1: a number in four bytes; no condition. -/
import Derived.Test.YtmpeidliacbelaaGreatDoorOctS
namespace Go.Proofs.YtmpeidliacbelaaGreatDoor
set_option linter.all false
open Go.RowKit

set_option maxHeartbeats 1600000 in
theorem refKinds_any (A : Option Addr) (ks : List Int) (cap : Nat) (w : World) (h : RdI w A ks) (hl : ks.length ≤ maxLen) : Calls Tryz.prog 51 #[.slice A ks.length cap] w fun e w' => e = .returned (.bool (rowOk ks)) ∧ w = w' := by
  unfold maxLen at hl
  obtain ⟨n, hn⟩ : ∃ n, n = ks.length := ⟨_, rfl⟩
  obtain ⟨R, hR⟩ : ∃ R, R = rowOk ks := ⟨_, rfl⟩
  rw [← hR]
  rw [← hn] at hl ⊢
  have HR := hide hR
  have HN := hide hn
  clear hR hn
  go_enter Tryz.func51, Tryz.ntmps51
  go_wp2
  go_loop [7] (fun i => ∃ k : Nat, k ≤ n ∧ i = .int .i64 k ∧ Good ks k) (fun i => n - (intOf i).toNat)
  case atStart => exact ⟨0, by omega, rfl, fun i hi => by omega⟩
  case round =>
    obtain ⟨k, hk, rfl, hg⟩ := hrel
    by_cases hlt : k < n
    · obtain ⟨b, off, x, rfl, hb, hx, hc⟩ := h.at k (by rw [← HN.out]; exact hlt)
      have hga : goodAt ks k = (kindOk x && !(decide (x = 6) && decide (k + 1 < n))) := by
        unfold goodAt
        rw [List.getD_eq_getElem?_getD, hx, HN.out]; rfl
      have hg' : goodAt ks k = true → Good ks (k + 1) := fun h i hi => by
        by_cases e : i = k
        · rw [e]; exact h
        · exact hg i (by omega)
      have hnot : goodAt ks k = false → R = false := fun h => by rw [HR.out]; exact rowOk_not (by rw [← HN.out]; exact hlt) h
      rw [hga] at hg' hnot
      replace hg' := hide hg'
      replace hnot := hide hnot
      clear hga hx
      replace hg := hide hg
      have hk1 : kindOk x = (decide (1 ≤ x) && decide (x ≤ 6)) := rfl
      by_cases h1 : 1 ≤ x
      · by_cases h2 : x ≤ 6
        · have hok : kindOk x = true := by rw [hk1]; simp [h1, h2]
          have p1 : ¬ x < 1 := by omega
          have p2 : ¬ (6 : Int) < x := by omega
          by_cases h6 : x = 6
          · subst h6
            by_cases hl2 : k + 1 < n
            · obtain rfl : R = false := hnot.out (by simp [hok, hl2])
              have hl3 : ((k : Int) != (n : Int) - 1) = true := by simp; omega
              clear hg' hnot hok hk1
              go_wp2
              go_ret
              exact ⟨rfl, rfl⟩
            · have hl3 : ((k : Int) != (n : Int) - 1) = false := by simp; omega
              have hG : Good ks (k + 1) := hg'.out (by simp [hok]; omega)
              replace hG := hide hG
              clear hg' hnot hok hk1
              go_wp2
              go_round
              case rel => exact ⟨k + 1, by omega, by go_num, hG.out⟩
              case measure => simp [intOf]; omega
          · have h6' : (x == 6) = false := beq_eq_false_iff_ne.2 h6
            have hG : Good ks (k + 1) := hg'.out (by simp [hok, h6])
            replace hG := hide hG
            clear hg' hnot hok hk1
            go_wp2
            go_round
            case rel => exact ⟨k + 1, by omega, by go_num, hG.out⟩
            case measure => simp [intOf]; omega
        · have p1 : ¬ x < 1 := by omega
          have p2 : (6 : Int) < x := by omega
          obtain rfl : R = false := hnot.out (by rw [hk1]; simp [h2])
          clear hg' hnot hk1
          go_wp2
          go_ret
          exact ⟨rfl, rfl⟩
      · have p1 : x < 1 := by omega
        obtain rfl : R = false := hnot.out (by rw [hk1]; simp [h1])
        clear hg' hnot hk1
        go_wp2
        go_ret
        exact ⟨rfl, rfl⟩
    · obtain rfl : k = n := by omega
      obtain rfl : R = true := by rw [HR.out]; exact rowOk_iff.2 (fun i hi => hg i (by rw [HN.out]; exact hi))
      replace hg := hide hg
      go_wp2
      go_ret
      exact ⟨rfl, rfl⟩
end Go.Proofs.YtmpeidliacbelaaGreatDoor

namespace Go.Proofs.YtmpeidliacbelaaGreatDoor
set_option linter.all false
open Go.RowKit

set_option maxHeartbeats 1600000 in
theorem refFour_any (n : Int) (w : World) (h0 : 0 ≤ n) (h1 : n ≤ 4294967295) : Calls Tryz.prog 83 #[.int .u32 n] w fun e w' => e = .returned (.slice (some ⟨w.heap.size, 0, none⟩) 4 4) ∧ w' = w.alloc (.cells (u8s (four n)).toArray 5) := by
  go_enter Tryz.func83, Tryz.ntmps83
  go_wp2
  go_ret
  refine ⟨rfl, ?_⟩
  have e : n / 16777216 % 256 = n / 16777216 := by omega
  simp [four, u8s, e]

/-- The number that four bytes are. -/
theorem refNumber_any (A : Option Addr) (l : List Int) (c : Nat) (w : World) (h : Rd w A l) (h4 : 4 ≤ l.length) (hb : ∀ x ∈ l, 0 ≤ x ∧ x < 256) : Calls Tryz.prog 80 #[.slice A l.length c] w fun e w' => e = .returned (.int .u32 (be4 l)) ∧ Only [] w w' := by
  have hx : ∀ k, k < 4 → ∃ x, l[k]? = some x ∧ l.getD k 0 = x ∧ 0 ≤ x ∧ x < 256 := by
    intro k hk
    refine ⟨l[k]'(by omega), List.getElem?_eq_getElem (by omega), ?_, hb _ (List.getElem_mem _)⟩
    simp [List.getD, List.getElem?_eq_getElem (show k < l.length by omega)]
  obtain ⟨x0, hx0, hd0, a0, b0⟩ := hx 0 (by omega)
  obtain ⟨x1, hx1, hd1, a1, b1⟩ := hx 1 (by omega)
  obtain ⟨x2, hx2, hd2, a2, b2⟩ := hx 2 (by omega)
  obtain ⟨x3, hx3, hd3, a3, b3⟩ := hx 3 (by omega)
  obtain ⟨b, off, rfl, hlt, hc⟩ := h (by omega)
  have c0 : w.cell? ⟨b, off, none⟩ = some (.int .u8 x0) := hc 0 x0 hx0
  have c1 := hc 1 x1 hx1
  have c2 := hc 2 x2 hx2
  have c3 := hc 3 x3 hx3
  have hbe : be4 l = x0 * 16777216 + x1 * 65536 + x2 * 256 + x3 := by unfold be4; rw [hd0, hd1, hd2, hd3]
  rw [hbe]
  obtain ⟨L, hL⟩ : ∃ L, l.length = L := ⟨_, rfl⟩
  rw [hL] at h4 ⊢
  clear hL hbe hd0 hd1 hd2 hd3 hx hx0 hx1 hx2 hx3 hc hb
  have l0 : (0 : Int) < L := by omega
  have l1 : (1 : Int) < L := by omega
  have l2 : (2 : Int) < L := by omega
  have l3 : (3 : Int) < L := by omega
  have m0 : 0 < L := by omega
  have m1 : 1 < L := by omega
  have m2 : 2 < L := by omega
  have m3 : 3 < L := by omega
  go_enter Tryz.func80, Tryz.ntmps80
  go_wp2
  go_quiet (fail)
  go_wp2
  go_ret
  exact ⟨rfl, (Only.refl _ _).drewN _⟩
end Go.Proofs.YtmpeidliacbelaaGreatDoor
