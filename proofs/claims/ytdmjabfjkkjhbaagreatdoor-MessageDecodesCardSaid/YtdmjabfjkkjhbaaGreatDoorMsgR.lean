/- The document's answer for layer 3: words; no condition. -/
import Derived.Test.YtdmjabfjkkjhbaaGreatDoorMsgM
namespace Go.Proofs.YtdmjabfjkkjhbaaGreatDoor
set_option linter.all false
open Go.RowKit

set_option maxRecDepth 100000 in
set_option maxHeartbeats 1600000 in
theorem refWord_any (s : ByteArray) (least : Nat) (w : World) (hs : s.size ≤ maxLen) : Calls Tryz.prog 40 #[.string s, .int .i64 (least : Int)] w fun e w' => e = .returned (.bool (printOk s least)) ∧ w = w' := by
  unfold maxLen at hs
  obtain ⟨R, hR⟩ : ∃ R, R = printOk s least := ⟨_, rfl⟩
  rw [← hR]
  replace hR := hide hR
  by_cases h1 : s.size < least
  · have hR0 : R = false := by rw [hR.out]; unfold printOk; rw [decide_eq_false (show ¬ least ≤ s.size by omega)]; rfl
    have i1 : (s.size : Int) < (least : Int) := by omega
    replace hR0 := hide hR0
    go_enter Tryz.func40, Tryz.ntmps40
    go_wp2
    go_ret
    exact ⟨ret_bool hR0.out.symm, rfl⟩
  have i1 : ¬ (s.size : Int) < (least : Int) := by omega
  by_cases h2 : 64 < s.size
  · have hR0 : R = false := by rw [hR.out]; unfold printOk; rw [decide_eq_false (show ¬ s.size ≤ 64 by omega)]; simp
    have i2 : (64 : Int) < (s.size : Int) := by omega
    replace hR0 := hide hR0
    go_enter Tryz.func40, Tryz.ntmps40
    go_wp2
    go_ret
    exact ⟨ret_bool hR0.out.symm, rfl⟩
  have i2 : ¬ (64 : Int) < (s.size : Int) := by omega
  have hR1 : R = s.data.toList.all signC := by rw [hR.out]; unfold printOk; rw [decide_eq_true (show least ≤ s.size by omega), decide_eq_true (show s.size ≤ 64 by omega)]; rfl
  obtain ⟨n, hn⟩ : ∃ n, s.size = n := ⟨_, rfl⟩
  replace hR1 := hide hR1
  replace hn := hide hn
  go_enter Tryz.func40, Tryz.ntmps40
  go_wp2
  go_loop [5] (fun i => ∃ k : Nat, k ≤ s.size ∧ i = .int .i64 k ∧ Hid ((s.data.toList.take k).all signC = true)) (fun i => s.size - (intOf i).toNat)
  case atStart => exact ⟨0, by omega, rfl, hide rfl⟩
  case round =>
    obtain ⟨k, hk, rfl, hg⟩ := hrel
    by_cases hlt : k < s.size
    · have hts := hide (take_snocS s k hlt)
      by_cases hc : signC s[k] = true
      · have hcc := hide hc
        unfold signC at hc
        simp only [Bool.and_eq_true, decide_eq_true_eq] at hc
        obtain ⟨q1, q2⟩ := hc
        go_wp2
        go_round
        case rel => exact ⟨k + 1, by omega, by go_num, hide (by rw [hts.out, List.all_append, hg.out]; simp [hcc.out])⟩
        case measure => simp [intOf]; omega
      · have hf : R = false := by
          rw [hR1.out, Bool.eq_false_iff]
          intro h
          have := List.all_eq_true.1 h s[k] (by
            have : s[k] = s.data.toList[k]'(by simpa using hlt) := rfl
            rw [this]; exact List.getElem_mem _)
          exact hc this
        subst hf
        have hq : s[k].toNat < 33 ∨ 126 < s[k].toNat := by
          unfold signC at hc
          simp at hc
          omega
        clear hR1 hc
        by_cases q1 : s[k].toNat < 33
        · clear hq
          go_wp2
          go_ret
          exact ⟨rfl, rfl⟩
        · have q2 : 126 < s[k].toNat := by omega
          clear hq
          go_wp2
          go_ret
          exact ⟨rfl, rfl⟩
    · obtain rfl : k = s.size := by omega
      have hf : R = true := by
        rw [hR1.out]
        have := hg.out
        rw [List.take_of_length_le (by simp)] at this
        exact this
      replace hf := hide hf
      go_wp2
      go_ret
      exact ⟨ret_bool hf.out.symm, rfl⟩

set_option maxRecDepth 100000 in
set_option maxHeartbeats 1600000 in
theorem refWords_any (m : MD) (w : World) (hn : m.name.size ≤ maxLen) (hl : m.lang.size ≤ maxLen) : Calls Tryz.prog 18 #[m.val] w fun e w' => e = .returned (.bool (fitsP m)) ∧ Only [] w w' := by
  obtain ⟨w1, hw1⟩ : ∃ w1, w1 = w.alloc (.cells #[.int .i64 m.kind, .int .u32 m.chan, .int .u32 m.sender, .int .u32 m.window, .int .u32 m.packet, .int .u32 m.code, .string m.name, .string m.lang, .bool m.want, .slice m.dA m.data.length m.dc] 25) := ⟨_, rfl⟩
  have P1 : Only [] w w1 := by rw [hw1]; exact (Only.refl _ _).alloc _
  have PN := refWord_any m.name 1 w1 hn
  have PL := refWord_any m.lang 0 w1 hl
  obtain ⟨R, hR⟩ : ∃ R, fitsP m = R := ⟨_, rfl⟩
  rw [hR]
  unfold fitsP at hR
  unfold MD.val
  by_cases h80 : m.kind = 80
  · rw [if_pos (by omega)] at hR
    rw [hR] at PN
    rw [h80] at hw1 ⊢
    replace hR := hide hR
    go_enter Tryz.func18, Tryz.ntmps18
    go_wp2_with fail
    rw [← hw1]
    replace hw1 := hide hw1
    go_call PN as e w2 ⟨rfl, rfl⟩
    go_wp2_with fail
    go_ret
    exact ⟨rfl, P1⟩
  by_cases h90 : m.kind = 90
  · rw [if_pos (by omega)] at hR
    rw [hR] at PN
    rw [h90] at hw1 ⊢
    replace hR := hide hR
    go_enter Tryz.func18, Tryz.ntmps18
    go_wp2_with fail
    rw [← hw1]
    replace hw1 := hide hw1
    go_call PN as e w2 ⟨rfl, rfl⟩
    go_wp2_with fail
    go_ret
    exact ⟨rfl, P1⟩
  by_cases h98 : m.kind = 98
  · rw [if_pos (by omega)] at hR
    rw [hR] at PN
    rw [h98] at hw1 ⊢
    replace hR := hide hR
    go_enter Tryz.func18, Tryz.ntmps18
    go_wp2_with fail
    rw [← hw1]
    replace hw1 := hide hw1
    go_call PN as e w2 ⟨rfl, rfl⟩
    go_wp2_with fail
    go_ret
    exact ⟨rfl, P1⟩
  by_cases h1 : m.kind = 1
  · rw [if_neg (by omega), if_pos (by omega)] at hR
    rw [hR] at PL
    rw [h1] at hw1 ⊢
    replace hR := hide hR
    go_enter Tryz.func18, Tryz.ntmps18
    go_wp2_with fail
    rw [← hw1]
    replace hw1 := hide hw1
    go_call PL as e w2 ⟨rfl, rfl⟩
    go_wp2_with fail
    go_ret
    exact ⟨rfl, P1⟩
  by_cases h92 : m.kind = 92
  · rw [if_neg (by omega), if_pos (by omega)] at hR
    rw [hR] at PL
    rw [h92] at hw1 ⊢
    replace hR := hide hR
    go_enter Tryz.func18, Tryz.ntmps18
    go_wp2_with fail
    rw [← hw1]
    replace hw1 := hide hw1
    go_call PL as e w2 ⟨rfl, rfl⟩
    go_wp2_with fail
    go_ret
    exact ⟨rfl, P1⟩
  rw [if_neg (by omega), if_neg (by omega)] at hR
  have e80 : (m.kind == 80) = false := beq_eq_false_iff_ne.2 h80
  have e90 : (m.kind == 90) = false := beq_eq_false_iff_ne.2 h90
  have e98 : (m.kind == 98) = false := beq_eq_false_iff_ne.2 h98
  have e1 : (m.kind == 1) = false := beq_eq_false_iff_ne.2 h1
  have e92 : (m.kind == 92) = false := beq_eq_false_iff_ne.2 h92
  replace hR := hide hR
  go_enter Tryz.func18, Tryz.ntmps18
  go_wp2_with fail
  rw [← hw1]
  replace hw1 := hide hw1
  go_ret
  exact ⟨ret_bool hR.out, P1⟩
end Go.Proofs.YtdmjabfjkkjhbaaGreatDoor
