/- The document's answer for layer 1: rows of kinds; no condition · The document's answer for layer 1: a number in four bytes; no condition. -/
import Derived.Test.YtpojfcpeibnohaaGreatDoorOctS
namespace Go.Proofs.YtpojfcpeibnohaaGreatDoor
set_option linter.all false
open Go.RowKit

set_option maxHeartbeats 1600000 in
theorem refKinds_any (A : Option Addr) (ks : List Int) (cap : Nat) (w : World) (h : RdI w A ks) (hl : ks.length ≤ maxLen) : Calls Tryz.prog 66 #[.slice A ks.length cap] w fun e w' => e = .returned (.bool (rowOk ks)) ∧ w = w' := by
  unfold maxLen at hl
  obtain ⟨n, hn⟩ : ∃ n, n = ks.length := ⟨_, rfl⟩
  obtain ⟨R, hR⟩ : ∃ R, R = rowOk ks := ⟨_, rfl⟩
  rw [← hR]
  rw [← hn] at hl ⊢
  have HR := hide hR
  have HN := hide hn
  clear hR hn
  go_enter Tryz.func66, Tryz.ntmps66
  go_wp2
  go_loop [7] (fun i => ∃ k : Nat, k ≤ n ∧ i = .int .i64 k ∧ Good ks k) (fun i => n - (intOf i).toNat)
  case atStart => exact ⟨0, by omega, rfl, fun i hi => by omega⟩
  case round =>
    obtain ⟨k, hk, rfl, hg⟩ := hrel
    by_cases hlt : k < n
    · obtain ⟨b, off, x, rfl, hb, hx, hc⟩ := h.at k (by rw [← HN.out]; exact hlt)
      have hga : goodAt ks k = (kindOk x && !(decide (x = 6) && decide (k + 1 < n))) := by
        unfold goodAt
        rw [List.getD_eq_getElem?_getD, hx, HN.out]; rfl
      have hg' : goodAt ks k = true → Good ks (k + 1) := fun h i hi => by
        by_cases e : i = k
        · rw [e]; exact h
        · exact hg i (by omega)
      have hnot : goodAt ks k = false → R = false := fun h => by rw [HR.out]; exact rowOk_not (by rw [← HN.out]; exact hlt) h
      rw [hga] at hg' hnot
      replace hg' := hide hg'
      replace hnot := hide hnot
      clear hga hx
      replace hg := hide hg
      have hk1 : kindOk x = (decide (1 ≤ x) && decide (x ≤ 6)) := rfl
      by_cases h1 : 1 ≤ x
      · by_cases h2 : x ≤ 6
        · have hok : kindOk x = true := by rw [hk1]; simp [h1, h2]
          have p1 : ¬ x < 1 := by omega
          have p2 : ¬ (6 : Int) < x := by omega
          by_cases h6 : x = 6
          · subst h6
            by_cases hl2 : k + 1 < n
            · obtain rfl : R = false := hnot.out (by simp [hok, hl2])
              have hl3 : ((k : Int) != (n : Int) - 1) = true := by simp; omega
              clear hg' hnot hok hk1
              go_wp2
              go_ret
              exact ⟨rfl, rfl⟩
            · have hl3 : ((k : Int) != (n : Int) - 1) = false := by simp; omega
              have hG : Good ks (k + 1) := hg'.out (by simp [hok]; omega)
              replace hG := hide hG
              clear hg' hnot hok hk1
              go_wp2
              go_round
              case rel => exact ⟨k + 1, by omega, by go_num, hG.out⟩
              case measure => simp [intOf]; omega
          · have h6' : (x == 6) = false := beq_eq_false_iff_ne.2 h6
            have hG : Good ks (k + 1) := hg'.out (by simp [hok, h6])
            replace hG := hide hG
            clear hg' hnot hok hk1
            go_wp2
            go_round
            case rel => exact ⟨k + 1, by omega, by go_num, hG.out⟩
            case measure => simp [intOf]; omega
        · have p1 : ¬ x < 1 := by omega
          have p2 : (6 : Int) < x := by omega
          obtain rfl : R = false := hnot.out (by rw [hk1]; simp [h2])
          clear hg' hnot hk1
          go_wp2
          go_ret
          exact ⟨rfl, rfl⟩
      · have p1 : x < 1 := by omega
        obtain rfl : R = false := hnot.out (by rw [hk1]; simp [h1])
        clear hg' hnot hk1
        go_wp2
        go_ret
        exact ⟨rfl, rfl⟩
    · obtain rfl : k = n := by omega
      obtain rfl : R = true := by rw [HR.out]; exact rowOk_iff.2 (fun i hi => hg i (by rw [HN.out]; exact hi))
      replace hg := hide hg
      go_wp2
      go_ret
      exact ⟨rfl, rfl⟩
end Go.Proofs.YtpojfcpeibnohaaGreatDoor

namespace Go.Proofs.YtpojfcpeibnohaaGreatDoor
set_option linter.all false
open Go.RowKit

set_option maxHeartbeats 1600000 in
theorem refFour_any (n : Int) (w : World) (h0 : 0 ≤ n) (h1 : n ≤ 4294967295) : Calls Tryz.prog 114 #[.int .u32 n] w fun e w' => e = .returned (.slice (some ⟨w.heap.size, 0, none⟩) 4 4) ∧ w' = w.alloc (.cells (u8s (four n)).toArray 5) := by
  go_enter Tryz.func114, Tryz.ntmps114
  go_wp2
  go_ret
  refine ⟨rfl, ?_⟩
  have e : n / 16777216 % 256 = n / 16777216 := by omega
  simp [four, u8s, e]

end Go.Proofs.YtpojfcpeibnohaaGreatDoor
