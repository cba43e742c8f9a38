/- Layer 1: rows of kinds, faults of names; for every input that the types can hold, no condition. -/
import Derived.Test.YtdmjabfjkkjhbaaDoorOctA
import Derived.Test.YtdmjabfjkkjhbaaDoorReads
namespace Go.Proofs.YtdmjabfjkkjhbaaDoor
set_option linter.all false
open Go.RowKit

set_option maxHeartbeats 1600000 in
theorem refName_any (s : ByteArray) (w : World) (hs : s.size ≤ maxLen) : Calls Tryd.prog 58 #[.string s] w fun e w' => e = .returned (.bool (nameOk s)) ∧ w = w' := by
  unfold maxLen at hs
  by_cases h0 : s.size < 1
  · have e : nameOk s = false := by unfold nameOk; simp; omega
    rw [e]; clear e
    go_enter Tryd.func58, Tryd.ntmps58
    go_wp2
    go_ret
    exact ⟨rfl, rfl⟩
  · by_cases h64 : 64 < s.size
    · have e : nameOk s = false := by unfold nameOk; simp; omega
      rw [e]; clear e
      go_enter Tryd.func58, Tryd.ntmps58
      go_wp2
      go_ret
      exact ⟨rfl, rfl⟩
    · obtain ⟨N, hN⟩ : ∃ N, N = nameOk s := ⟨_, rfl⟩
      have hN2 : N = s.data.toList.all nameC := by rw [hN]; unfold nameOk; simp; omega
      rw [← hN]
      replace hN2 := hide hN2
      clear hN
      go_enter Tryd.func58, Tryd.ntmps58
      go_wp2
      go_loop [3] (fun i => ∃ k : Nat, k ≤ s.size ∧ i = .int .i64 k ∧ Hid ((s.data.toList.take k).all nameC = true)) (fun i => s.size - (intOf i).toNat)
      case atStart => exact ⟨0, by omega, rfl, hide rfl⟩
      case round =>
        obtain ⟨k, hk, rfl, hall⟩ := hrel
        by_cases hlt : k < s.size
        · have hts := hide (take_snocS s k hlt)
          by_cases hc : nameC s[k] = true
          · have hcc := hide hc
            unfold nameC at hc
            simp only [Bool.and_eq_true, decide_eq_true_eq] at hc
            obtain ⟨⟨q1, q2⟩, q3⟩ := hc
            have q4 : ((s[k].toNat : Int) == 44) = false := beq_eq_false_iff_ne.2 (by omega)
            replace q3 := hide q3
            go_wp2
            go_round
            case rel => exact ⟨k + 1, by omega, by go_num, hide (by rw [hts.out, List.all_append, hall.out]; simp [hcc.out])⟩
            case measure => simp [intOf]; omega
          · have hf : N = false := by
              rw [hN2.out, Bool.eq_false_iff]
              intro h
              have := List.all_eq_true.1 h s[k] (by
                have : s[k] = s.data.toList[k]'(by simpa using hlt) := rfl
                rw [this]; exact List.getElem_mem _)
              exact hc this
            subst hf
            have hq : s[k].toNat < 33 ∨ 126 < s[k].toNat ∨ s[k].toNat = 44 := by
              unfold nameC at hc
              simp at hc
              omega
            clear hN2 hc
            by_cases q1 : s[k].toNat < 33
            · clear hq
              go_wp2
              go_ret
              exact ⟨rfl, rfl⟩
            · by_cases q2 : 126 < s[k].toNat
              · clear hq
                go_wp2
                go_ret
                exact ⟨rfl, rfl⟩
              · have q3 : ((s[k].toNat : Int) == 44) = true := beq_iff_eq.2 (by omega)
                clear hq
                go_wp2
                go_ret
                exact ⟨rfl, rfl⟩
        · have hf : N = true := by
            have h := hall.out
            rw [List.take_of_length_le (by simp; omega)] at h
            rw [hN2.out, h]
          subst hf
          clear hN2
          go_wp2
          go_ret
          exact ⟨rfl, rfl⟩

/-! Rows of kinds. -/
def goodAt (ks : List Int) (i : Nat) : Bool := kindOk (ks.getD i 0) && !(decide (ks.getD i 0 = 6) && decide (i + 1 < ks.length))
def rowOk (ks : List Int) : Bool := (List.range ks.length).all (goodAt ks)
theorem rowOk_iff {ks : List Int} : rowOk ks = true ↔ ∀ i, i < ks.length → goodAt ks i = true := by
  unfold rowOk
  rw [List.all_eq_true]
  simp
theorem rowOk_not {ks : List Int} {i : Nat} (hi : i < ks.length) (h : goodAt ks i = false) : rowOk ks = false := by
  rw [Bool.eq_false_iff]
  intro hr
  rw [rowOk_iff.1 hr i hi] at h
  cases h
def Good (ks : List Int) (k : Nat) : Prop := ∀ i, i < k → goodAt ks i = true

set_option maxHeartbeats 1600000 in
theorem row_any (A : Option Addr) (ks : List Int) (cap : Nat) (w : World) (h : RdI w A ks) (hl : ks.length ≤ maxLen) : Calls Tryd.prog 29 #[.slice A ks.length cap] w fun e w' => e = .returned (.bool (rowOk ks)) ∧ w = w' := by
  unfold maxLen at hl
  obtain ⟨n, hn⟩ : ∃ n, n = ks.length := ⟨_, rfl⟩
  obtain ⟨R, hR⟩ : ∃ R, R = rowOk ks := ⟨_, rfl⟩
  rw [← hR]
  rw [← hn] at hl ⊢
  have HR := hide hR
  have HN := hide hn
  clear hR hn
  go_enter Tryd.func29, Tryd.ntmps29
  go_wp2
  go_loop [7] (fun i => ∃ k : Nat, k ≤ n ∧ i = .int .i64 k ∧ Good ks k) (fun i => n - (intOf i).toNat)
  case atStart => exact ⟨0, by omega, rfl, fun i hi => by omega⟩
  case round =>
    obtain ⟨k, hk, rfl, hg⟩ := hrel
    by_cases hlt : k < n
    · obtain ⟨b, off, x, rfl, hb, hx, hc⟩ := h.at k (by rw [← HN.out]; exact hlt)
      have hga : goodAt ks k = (kindOk x && !(decide (x = 6) && decide (k + 1 < n))) := by
        unfold goodAt
        rw [List.getD_eq_getElem?_getD, hx, HN.out]; rfl
      have hg' : goodAt ks k = true → Good ks (k + 1) := fun h i hi => by
        by_cases e : i = k
        · rw [e]; exact h
        · exact hg i (by omega)
      have hnot : goodAt ks k = false → R = false := fun h => by rw [HR.out]; exact rowOk_not (by rw [← HN.out]; exact hlt) h
      rw [hga] at hg' hnot
      replace hg' := hide hg'
      replace hnot := hide hnot
      clear hga hx
      replace hg := hide hg
      by_cases h1 : kindOk x = true
      · have K : Calls Tryd.prog 36 #[.int .i64 x] w fun e w' => e = .returned (.bool true) ∧ w = w' := by rw [← h1]; exact known_any x w
        by_cases h6 : x = 6
        · subst h6
          by_cases hl2 : k + 1 < n
          · obtain rfl : R = false := hnot.out (by simp [h1, hl2])
            have hl3 : (k : Int) < (n : Int) - 1 := by omega
            clear hg' hnot h1
            go_wp2_with fail
            go_call K as e w' ⟨rfl, rfl⟩
            clear K
            go_wp2
            go_ret
            exact ⟨rfl, rfl⟩
          · have hl3 : ¬ (k : Int) < (n : Int) - 1 := by omega
            have hG : Good ks (k + 1) := hg'.out (by simp [h1]; omega)
            replace hG := hide hG
            clear hg' hnot h1
            go_wp2_with fail
            go_call K as e w' ⟨rfl, rfl⟩
            clear K
            go_wp2
            go_round
            case rel => exact ⟨k + 1, by omega, by go_num, hG.out⟩
            case measure => simp [intOf]; omega
        · have h6' : (x == 6) = false := beq_eq_false_iff_ne.2 h6
          have hG : Good ks (k + 1) := hg'.out (by simp [h1, h6])
          replace hG := hide hG
          clear hg' hnot h1
          go_wp2_with fail
          go_call K as e w' ⟨rfl, rfl⟩
          clear K
          go_wp2
          go_round
          case rel => exact ⟨k + 1, by omega, by go_num, hG.out⟩
          case measure => simp [intOf]; omega
      · have h1 : kindOk x = false := by simpa using h1
        obtain rfl : R = false := hnot.out (by simp [h1])
        have K : Calls Tryd.prog 36 #[.int .i64 x] w fun e w' => e = .returned (.bool false) ∧ w = w' := by rw [← h1]; exact known_any x w
        clear hg' hnot h1
        go_wp2_with fail
        go_call K as e w' ⟨rfl, rfl⟩
        clear K
        go_wp2
        go_ret
        exact ⟨rfl, rfl⟩
    · obtain rfl : k = n := by omega
      obtain rfl : R = true := by rw [HR.out]; exact rowOk_iff.2 (fun i hi => hg i (by rw [HN.out]; exact hi))
      replace hg := hide hg
      go_wp2
      go_ret
      exact ⟨rfl, rfl⟩
end Go.Proofs.YtdmjabfjkkjhbaaDoor
