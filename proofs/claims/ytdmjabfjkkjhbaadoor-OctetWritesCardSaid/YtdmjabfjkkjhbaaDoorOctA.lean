/- Layer 1: names and kinds; the walks of the functions that ask them; for every input that the types can hold, no condition. -/
import Derived.Test.YtdmjabfjkkjhbaaDoorFrame
import Derived.Test.YtdmjabfjkkjhbaaDoorApp3
import Derived.WalkSpells
namespace Go.Proofs.YtdmjabfjkkjhbaaDoor
set_option linter.all false
open Go.RowKit

/-- A byte that a name may hold. -/
def nameC (c : UInt8) : Bool := decide (33 ≤ c.toNat) && decide (c.toNat ≤ 126) && decide (c.toNat ≠ 44)
/-- A name that may be. -/
def nameOk (s : ByteArray) : Bool := decide (1 ≤ s.size) && decide (s.size ≤ 64) && s.data.toList.all nameC
theorem take_snocS (s : ByteArray) (k : Nat) (h : k < s.size) : s.data.toList.take (k + 1) = s.data.toList.take k ++ [s[k]] := by
  rw [List.take_succ_eq_append_getElem (by simpa using h)]; rfl

theorem strEmpty (s : ByteArray) : s.toList.isEmpty = decide (s.size = 0) := by
  rw [ByteArray.toList_eq]
  have e : s.size = s.data.toList.length := by simp
  rw [e]
  cases s.data.toList <;> simp
def kindOk (k : Int) : Bool := decide (1 ≤ k) && decide (k ≤ 6)
theorem known_any (k : Int) (w : World) : Calls Tryd.prog 36 #[.int .i64 k] w fun e w' => e = .returned (.bool (kindOk k)) ∧ w = w' := by
  by_cases h1 : 1 ≤ k
  · go_enter Tryd.func36, Tryd.ntmps36
    go_wp2
    go_ret
    exact ⟨ret_bool (by unfold kindOk; simp [h1] <;> omega), rfl⟩
  · go_enter Tryd.func36, Tryd.ntmps36
    go_wp2
    go_ret
    exact ⟨ret_bool (by unfold kindOk; simp [h1] <;> omega), rfl⟩
/-- Error c if a is above b. -/
def over (a b c : Int) : Int := if b < a then c else 0
theorem over_pos {a b c : Int} (h : b < a) : over a b c = c := if_pos h
theorem over_neg {a b c : Int} (h : ¬ b < a) : over a b c = 0 := if_neg h
theorem within_any (a b : Int) (w : World) : Calls Tryd.prog 72 #[.int .u32 a, .int .u32 b] w fun e w' => e = .returned (.int .i64 (over a b 5)) ∧ w = w' := by
  by_cases h1 : b < a
  · rw [over_pos h1]
    go_enter Tryd.func72, Tryd.ntmps72
    go_wp2
    go_ret
    exact ⟨rfl, rfl⟩
  · rw [over_neg h1]
    go_enter Tryd.func72, Tryd.ntmps72
    go_wp2
    go_ret
    exact ⟨rfl, rfl⟩
theorem room_any (a b : Int) (w : World) : Calls Tryd.prog 74 #[.int .i64 a, .int .i64 b] w fun e w' => e = .returned (.int .i64 (over a b 6)) ∧ w = w' := by
  by_cases h1 : b < a
  · rw [over_pos h1]
    go_enter Tryd.func74, Tryd.ntmps74
    go_wp2
    go_ret
    exact ⟨rfl, rfl⟩
  · rw [over_neg h1]
    go_enter Tryd.func74, Tryd.ntmps74
    go_wp2
    go_ret
    exact ⟨rfl, rfl⟩

set_option maxHeartbeats 1600000 in
theorem named_any (s : ByteArray) (w : World) (hs : s.size ≤ maxLen) : Calls Tryd.prog 78 #[.string s] w fun e w' => e = .returned (.bool (nameOk s)) ∧ w = w' := by
  unfold maxLen at hs
  by_cases h0 : s.size = 0
  · have e : nameOk s = false := by unfold nameOk; simp [h0]
    rw [e]; clear e
    have hl2 : s.toList.isEmpty = true := by rw [strEmpty]; simp [h0]
    go_enter Tryd.func78, Tryd.ntmps78
    go_wp2
    go_ret
    exact ⟨rfl, rfl⟩
  · have hl2 : s.toList.isEmpty = false := by rw [strEmpty]; simp [h0]
    by_cases h64 : 64 < s.size
    · have e : nameOk s = false := by unfold nameOk; simp; omega
      rw [e]; clear e
      go_enter Tryd.func78, Tryd.ntmps78
      go_wp2
      go_ret
      exact ⟨rfl, rfl⟩
    · obtain ⟨N, hN⟩ : ∃ N, N = nameOk s := ⟨_, rfl⟩
      have hN2 : N = s.data.toList.all nameC := by rw [hN]; unfold nameOk; simp; omega
      rw [← hN]
      replace hN2 := hide hN2
      clear hN h0
      go_enter Tryd.func78, Tryd.ntmps78
      go_wp2
      go_loop [14] (fun i => ∃ k : Nat, k ≤ s.size ∧ i = .int .i64 k ∧ Hid ((s.data.toList.take k).all nameC = true)) (fun i => s.size - (intOf i).toNat)
      case atStart => exact ⟨0, by omega, rfl, hide rfl⟩
      case round =>
        obtain ⟨k, hk, rfl, hall⟩ := hrel
        by_cases hlt : k < s.size
        · have hts := hide (take_snocS s k hlt)
          by_cases hc : nameC s[k] = true
          · have hcc := hide hc
            unfold nameC at hc
            simp only [Bool.and_eq_true, decide_eq_true_eq] at hc
            obtain ⟨⟨q1, q2⟩, q3⟩ := hc
            have q4 : ((s[k].toNat : Int) == 44) = false := beq_eq_false_iff_ne.2 (by omega)
            replace q3 := hide q3
            go_wp2
            go_round
            case rel => exact ⟨k + 1, by omega, by go_num, hide (by rw [hts.out, List.all_append, hall.out]; simp [hcc.out])⟩
            case measure => simp [intOf]; omega
          · have hf : N = false := by
              rw [hN2.out, Bool.eq_false_iff]
              intro h
              have := List.all_eq_true.1 h s[k] (by
                have : s[k] = s.data.toList[k]'(by simpa using hlt) := rfl
                rw [this]; exact List.getElem_mem _)
              exact hc this
            subst hf
            have hq : s[k].toNat < 33 ∨ 126 < s[k].toNat ∨ s[k].toNat = 44 := by
              unfold nameC at hc
              simp at hc
              omega
            clear hN2 hc
            by_cases q1 : s[k].toNat < 33
            · clear hq
              go_wp2
              go_ret
              exact ⟨rfl, rfl⟩
            · by_cases q2 : 126 < s[k].toNat
              · clear hq
                go_wp2
                go_ret
                exact ⟨rfl, rfl⟩
              · have q3 : ((s[k].toNat : Int) == 44) = true := beq_iff_eq.2 (by omega)
                clear hq
                go_wp2
                go_ret
                exact ⟨rfl, rfl⟩
        · have hf : N = true := by
            have h := hall.out
            rw [List.take_of_length_le (by simp; omega)] at h
            rw [hN2.out, h]
          subst hf
          clear hN2
          go_wp2
          go_ret
          exact ⟨rfl, rfl⟩
end Go.Proofs.YtdmjabfjkkjhbaaDoor
