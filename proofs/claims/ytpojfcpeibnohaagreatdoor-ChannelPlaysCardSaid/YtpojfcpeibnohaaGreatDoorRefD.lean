/- The document's answer for layer 1: what is wrong with a field; no condition · The document's answer for layer 1: what is wrong with any field; no condition. -/
import Derived.Test.YtpojfcpeibnohaaGreatDoorRefB
namespace Go.Proofs.YtpojfcpeibnohaaGreatDoor
set_option linter.all false
open Go.RowKit

set_option maxRecDepth 100000 in
set_option maxHeartbeats 3200000 in
theorem refFault_plain (f : FD) (w : World) (hk : f.kind = 1 ∨ f.kind = 2 ∨ f.kind = 3 ∨ f.kind = 4 ∨ f.kind = 6) : Calls Tryz.prog 67 #[f.val] w fun e w' => e = .returned (.int .i64 (faultP f.pf)) ∧ Only [] w w' := by
  obtain ⟨kind, n, tA, tc, text, lA, lc, list⟩ := f
  unfold FD.val
  dsimp only at hk ⊢
  rcases hk with hk | hk | hk | hk | hk
  · subst hk
    by_cases hb : 255 < n
    · rw [show faultP (FD.pf ⟨1, n, tA, tc, text, lA, lc, list⟩) = 5 from by unfold faultP FD.pf; simp [over, hb]]
      go_enter Tryz.func67, Tryz.ntmps67
      go_wp2
      go_ret
      exact ⟨rfl, (Only.refl _ _).alloc _⟩
    · rw [show faultP (FD.pf ⟨1, n, tA, tc, text, lA, lc, list⟩) = 0 from by unfold faultP FD.pf; simp [over, hb]]
      go_enter Tryz.func67, Tryz.ntmps67
      go_wp2
      go_ret
      exact ⟨rfl, (Only.refl _ _).alloc _⟩
  · subst hk
    by_cases hb : 1 < n
    · rw [show faultP (FD.pf ⟨2, n, tA, tc, text, lA, lc, list⟩) = 5 from by unfold faultP FD.pf; simp [over, hb]]
      go_enter Tryz.func67, Tryz.ntmps67
      go_wp2
      go_ret
      exact ⟨rfl, (Only.refl _ _).alloc _⟩
    · rw [show faultP (FD.pf ⟨2, n, tA, tc, text, lA, lc, list⟩) = 0 from by unfold faultP FD.pf; simp [over, hb]]
      go_enter Tryz.func67, Tryz.ntmps67
      go_wp2
      go_ret
      exact ⟨rfl, (Only.refl _ _).alloc _⟩
  · subst hk
    rw [show faultP (FD.pf ⟨3, n, tA, tc, text, lA, lc, list⟩) = 0 from by unfold faultP FD.pf; simp]
    go_enter Tryz.func67, Tryz.ntmps67
    go_wp2
    go_ret
    exact ⟨rfl, (Only.refl _ _).alloc _⟩
  · subst hk
    obtain ⟨L, hL⟩ : ∃ L, text.length = L := ⟨_, rfl⟩
    by_cases hb : 32768 < L
    · rw [show faultP (FD.pf ⟨4, n, tA, tc, text, lA, lc, list⟩) = 6 from by unfold faultP FD.pf; simp [over]; omega]
      have hb' : (32768 : Int) < (L : Int) := by omega
      rw [hL]
      clear hL
      go_enter Tryz.func67, Tryz.ntmps67
      go_wp2
      go_ret
      exact ⟨rfl, (Only.refl _ _).alloc _⟩
    · rw [show faultP (FD.pf ⟨4, n, tA, tc, text, lA, lc, list⟩) = 0 from by unfold faultP FD.pf; simp [over]; omega]
      have hb' : ¬ (32768 : Int) < (L : Int) := by omega
      rw [hL]
      clear hL
      go_enter Tryz.func67, Tryz.ntmps67
      go_wp2
      go_ret
      exact ⟨rfl, (Only.refl _ _).alloc _⟩
  · subst hk
    obtain ⟨L, hL⟩ : ∃ L, text.length = L := ⟨_, rfl⟩
    by_cases hb : 33792 < L
    · rw [show faultP (FD.pf ⟨6, n, tA, tc, text, lA, lc, list⟩) = 6 from by unfold faultP FD.pf; simp [over]; omega]
      have hb' : (33792 : Int) < (L : Int) := by omega
      rw [hL]
      clear hL
      go_enter Tryz.func67, Tryz.ntmps67
      go_wp2
      go_ret
      exact ⟨rfl, (Only.refl _ _).alloc _⟩
    · rw [show faultP (FD.pf ⟨6, n, tA, tc, text, lA, lc, list⟩) = 0 from by unfold faultP FD.pf; simp [over]; omega]
      have hb' : ¬ (33792 : Int) < (L : Int) := by omega
      rw [hL]
      clear hL
      go_enter Tryz.func67, Tryz.ntmps67
      go_wp2
      go_ret
      exact ⟨rfl, (Only.refl _ _).alloc _⟩
end Go.Proofs.YtpojfcpeibnohaaGreatDoor

namespace Go.Proofs.YtpojfcpeibnohaaGreatDoor
set_option linter.all false
open Go.RowKit

set_option maxRecDepth 100000 in
set_option maxHeartbeats 3200000 in
theorem refFault_names (f : FD) (w : World) (hk : f.kind = 5) (hf : f.ok w) : Calls Tryz.prog 67 #[f.val] w fun e w' => e = .returned (.int .i64 (faultP f.pf)) ∧ Only [] w w' := by
  rw [show faultP f.pf = namesBad f.list by unfold faultP FD.pf; simp [hk]]
  obtain ⟨kind, n, tA, tc, text, lA, lc, list⟩ := f
  unfold FD.val
  dsimp only at hk ⊢
  subst hk
  have hl := hf.list
  have hs := hf.strs
  have hll := hf.lle
  have hlm := hf.lmax
  dsimp only at hl hs hll hlm
  obtain ⟨L, hL⟩ : ∃ L, L = list.length := ⟨_, rfl⟩
  rw [← hL] at hll ⊢
  obtain ⟨R, hR⟩ : ∃ R, R = namesBad list := ⟨_, rfl⟩
  rw [← hR]
  have hR1 : 64 < L → R = 6 := fun h => by rw [hR]; unfold namesBad; rw [if_pos (by omega)]
  have hR2 : ¬ 64 < L → list.all nameOk = true → R = 0 := fun h h2 => by rw [hR]; unfold namesBad; rw [if_neg (by omega), if_pos h2]
  have hR3 : ¬ 64 < L → list.all nameOk = false → R = 4 := fun h h2 => by rw [hR]; unfold namesBad; rw [if_neg (by omega), if_neg (by simp [h2])]
  clear hR hf
  unfold maxLen at hlm
  by_cases hb : 64 < L
  · obtain rfl := hR1 hb
    have hb' : (64 : Int) < (L : Int) := by omega
    clear hR1 hR2 hR3 hL
    go_enter Tryz.func67, Tryz.ntmps67
    go_wp2
    go_ret
    exact ⟨rfl, (Only.refl _ _).alloc _⟩
  · have hb' : ¬ (64 : Int) < (L : Int) := by omega
    have HN := hide hL
    have H2 := hide (hR2 hb)
    have H3 := hide (hR3 hb)
    have P1 : Only [] w (w.alloc (.cells #[.int .i64 5, .int .u32 n, .slice tA text.length tc, .slice lA L lc] 123)) := (Only.refl _ _).alloc _
    have hl1 := hl.only P1
    replace hs := hide hs
    clear hL hR1 hR2 hR3 hl
    go_enter Tryz.func67, Tryz.ntmps67
    go_wp2
    obtain ⟨w1, hw1⟩ : ∃ w1, w1 = w.alloc (.cells #[.int .i64 5, .int .u32 n, .slice tA text.length tc, .slice lA L lc] 123) := ⟨_, rfl⟩
    rw [← hw1] at P1 hl1 ⊢
    replace hw1 := hide hw1
    go_loop [43] (fun i => ∃ k : Nat, k ≤ L ∧ i = .int .i64 k ∧ Hid ((list.take k).all nameOk = true)) (fun i => L - (intOf i).toNat)
    case atStart => exact ⟨0, by omega, rfl, hide rfl⟩
    case round =>
      obtain ⟨k, hk, rfl, hg⟩ := hrel
      by_cases hlt : k < L
      · obtain ⟨b, off, s, rfl, hb, hx, hc⟩ := hl1.at k (by rw [← HN.out]; exact hlt)
        have hts := hide (take_snocG hx)
        have hmem : s ∈ list := List.mem_of_getElem? hx
        have K := refName_any s w1 (hs.out s hmem)
        have hfin : nameOk s = false → list.all nameOk = false := fun hb => by
          rw [Bool.eq_false_iff]
          intro h
          rw [List.all_eq_true.1 h s hmem] at hb
          cases hb
        replace hfin := hide hfin
        clear hx hmem
        by_cases ho : nameOk s = true
        · rw [ho] at K
          have ho := hide ho
          clear hfin
          go_wp2_with fail
          go_call K as e w' ⟨rfl, rfl⟩
          clear K
          go_wp2
          go_round
          case rel => exact ⟨k + 1, by omega, by go_num, hide (by rw [hts.out, List.all_append, hg.out]; simp [ho.out])⟩
          case measure => simp [intOf]; omega
        · have ho : nameOk s = false := by simpa using ho
          rw [ho] at K
          obtain rfl := H3.out (hfin.out ho)
          clear hfin ho
          go_wp2_with fail
          go_call K as e w' ⟨rfl, rfl⟩
          clear K
          go_wp2
          go_ret
          exact ⟨rfl, P1⟩
      · obtain rfl : k = L := by omega
        have hf : list.all nameOk = true := by have := hg.out; rw [List.take_of_length_le (by rw [← HN.out]; exact Nat.le_refl _)] at this; exact this
        obtain rfl := H2.out hf
        clear hg hf
        go_wp2
        go_ret
        exact ⟨rfl, P1⟩
theorem refFault_any (f : FD) (w : World) (h1 : 1 ≤ f.kind) (h6 : f.kind ≤ 6) (hf : f.ok w) : Calls Tryz.prog 67 #[f.val] w fun e w' => e = .returned (.int .i64 (faultP f.pf)) ∧ Only [] w w' := by
  by_cases h5 : f.kind = 5
  · exact refFault_names f w h5 hf
  · exact refFault_plain f w (by omega)
end Go.Proofs.YtpojfcpeibnohaaGreatDoor
