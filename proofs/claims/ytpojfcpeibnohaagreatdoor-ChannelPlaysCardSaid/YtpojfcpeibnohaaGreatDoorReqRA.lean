/- The document's answer for layer 4: names, words; no condition · The document's answer for layer 4: what is wrong; no condition. -/
import Derived.Test.YtpojfcpeibnohaaGreatDoorReqN
namespace Go.Proofs.YtpojfcpeibnohaaGreatDoor
set_option linter.all false
open Go.RowKit

theorem all_and {α : Type} (p q : α → Bool) (l : List α) : (l.all fun c => p c && q c) = (l.all p && l.all q) := by
  induction l with
  | nil => rfl
  | cons a l ih => rw [List.all_cons, List.all_cons, List.all_cons, ih]; cases p a <;> cases q a <;> cases l.all p <;> rfl
def nmRow : List Value := [.string (rname 0), .string (rname 1), .string (rname 2), .string (rname 3), .string (rname 4), .string (rname 5), .string (rname 6), .string (rname 7), .string (rname 8), .string (rname 9), .string (rname 10)]
def nmTab : Array Value := nmRow.toArray
theorem nm_index (k : Nat) (h1 : 1 ≤ k) (h2 : k ≤ 10) (w : World) : (Instr.index 145 (.agg nmTab) (.int .i64 (k : Int))).run Tryz.prog w = .ok (.string (rname k)) w := by
  rcases k10 h1 h2 with rfl | rfl | rfl | rfl | rfl | rfl | rfl | rfl | rfl | rfl <;> kernel_rfl
set_option maxRecDepth 100000 in
set_option maxHeartbeats 1600000 in
theorem refRName_any (k : Nat) (h1 : 1 ≤ k) (h2 : k ≤ 10) (w : World) : Calls Tryz.prog 58 #[.int .i64 (k : Int)] w fun e w' => e = .returned (.tuple #[.string (rname k), .bool true]) ∧ w = w' := by
  have i1 : ¬ (k : Int) < 1 := by omega
  have i2 : ¬ (10 : Int) < (k : Int) := by omega
  have hx := fun w => nm_index k h1 h2 w
  obtain ⟨nm, hnm⟩ : ∃ nm, rname k = nm := ⟨_, rfl⟩
  rw [hnm]
  rw [hnm] at hx
  replace hnm := hide hnm
  go_enter Tryz.func58, Tryz.ntmps58
  go_wp2_with (refine wpList_built 10 rfl rfl 145 _ rfl nmTab (by kernel_rfl) ?_)
  go_ret2
  exact ⟨rfl, rfl⟩
set_option maxRecDepth 100000 in
set_option maxHeartbeats 1600000 in
theorem refRName_none (k : Int) (h : ¬ (1 ≤ k ∧ k ≤ 10)) (w : World) : Calls Tryz.prog 58 #[.int .i64 k] w fun e w' => e = .returned (.tuple #[.string ⟨#[]⟩, .bool false]) ∧ w = w' := by
  by_cases h1 : k < 1
  · clear h
    go_enter Tryz.func58, Tryz.ntmps58
    go_wp2_with fail
    go_ret2
    exact ⟨rfl, rfl⟩
  · have h2 : 10 < k := by omega
    clear h
    go_enter Tryz.func58, Tryz.ntmps58
    go_wp2_with fail
    go_ret2
    exact ⟨rfl, rfl⟩
/-- A text of so many signs, none of them one. -/
def wordB (s : ByteArray) (least : Nat) (but : Int) : Bool := wordOk s least && s.data.toList.all fun c => decide ((c.toNat : Int) ≠ but)
set_option maxRecDepth 100000 in
set_option maxHeartbeats 1600000 in
theorem refRword_any (s : ByteArray) (least : Nat) (but : Int) (w : World) (hs : s.size ≤ maxLen) : Calls Tryz.prog 65 #[.string s, .int .i64 (least : Int), .int .u8 but] w fun e w' => e = .returned (.bool (wordB s least but)) ∧ w = w' := by
  unfold maxLen at hs
  obtain ⟨R, hR⟩ : ∃ R, R = wordB s least but := ⟨_, rfl⟩
  rw [← hR]
  by_cases h1 : s.size < least
  · have hR0 : R = false := by rw [hR]; unfold wordB wordOk; rw [decide_eq_false (show ¬ least ≤ s.size by omega)]; rfl
    have i1 : (s.size : Int) < (least : Int) := by omega
    clear hR
    replace hR0 := hide hR0
    go_enter Tryz.func65, Tryz.ntmps65
    go_wp2
    go_ret
    exact ⟨ret_bool hR0.out.symm, rfl⟩
  have i1 : ¬ (s.size : Int) < (least : Int) := by omega
  by_cases h2 : 64 < s.size
  · have hR0 : R = false := by rw [hR]; unfold wordB wordOk; rw [decide_eq_false (show ¬ s.size ≤ 64 by omega)]; simp
    have i2 : (64 : Int) < (s.size : Int) := by omega
    clear hR
    replace hR0 := hide hR0
    go_enter Tryz.func65, Tryz.ntmps65
    go_wp2
    go_ret
    exact ⟨ret_bool hR0.out.symm, rfl⟩
  have i2 : ¬ (64 : Int) < (s.size : Int) := by omega
  have hR1 : R = s.data.toList.all fun c => wSign c && decide ((c.toNat : Int) ≠ but) := by
    rw [hR]
    unfold wordB wordOk
    rw [decide_eq_true (show least ≤ s.size by omega), decide_eq_true (show s.size ≤ 64 by omega), Bool.true_and, Bool.true_and, ← all_and]
  clear hR
  obtain ⟨n, hn⟩ : ∃ n, s.size = n := ⟨_, rfl⟩
  replace hR1 := hide hR1
  replace hn := hide hn
  go_enter Tryz.func65, Tryz.ntmps65
  go_wp2
  go_loop [7] (fun i => ∃ k : Nat, k ≤ s.size ∧ i = .int .i64 k ∧ Hid ((s.data.toList.take k).all (fun c => wSign c && decide ((c.toNat : Int) ≠ but)) = true)) (fun i => s.size - (intOf i).toNat)
  case atStart => exact ⟨0, by omega, rfl, hide rfl⟩
  case round =>
    obtain ⟨k, hk, rfl, hg⟩ := hrel
    by_cases hlt : k < s.size
    · have hts := hide (take_snocS s k hlt)
      have hmem : s[k] ∈ s.data.toList := by
        have : s[k] = s.data.toList[k]'(by simpa using hlt) := rfl
        rw [this]; exact List.getElem_mem _
      replace hmem := hide hmem
      by_cases q1 : s[k].toNat < 33
      · have hf : R = false := by
          rw [hR1.out, Bool.eq_false_iff]
          intro h
          have := List.all_eq_true.1 h s[k] hmem.out
          unfold wSign at this
          simp at this
          omega
        clear hR1
        replace hf := hide hf
        go_wp2
        go_ret
        exact ⟨ret_bool hf.out.symm, rfl⟩
      by_cases q2 : 126 < s[k].toNat
      · have hf : R = false := by
          rw [hR1.out, Bool.eq_false_iff]
          intro h
          have := List.all_eq_true.1 h s[k] hmem.out
          unfold wSign at this
          simp at this
          omega
        clear hR1
        replace hf := hide hf
        go_wp2
        go_ret
        exact ⟨ret_bool hf.out.symm, rfl⟩
      by_cases q3 : (s[k].toNat : Int) = but
      · have hf : R = false := by
          rw [hR1.out, Bool.eq_false_iff]
          intro h
          have := List.all_eq_true.1 h s[k] hmem.out
          simp [q3] at this
        have q3b : ((s[k].toNat : Int) == but) = true := by simpa using q3
        clear hR1
        replace hf := hide hf
        replace q3 := hide q3
        go_wp2
        go_ret
        exact ⟨ret_bool hf.out.symm, rfl⟩
      · have q3b : ((s[k].toNat : Int) == but) = false := by simpa using q3
        have hcc : (wSign s[k] && decide ((s[k].toNat : Int) ≠ but)) = true := by
          unfold wSign
          simp [q3]
          omega
        replace hcc := hide hcc
        replace q3 := hide q3
        go_wp2
        go_round
        case rel => exact ⟨k + 1, by omega, by go_num, hide (by rw [hts.out, List.all_append, hg.out, List.all_cons, hcc.out]; rfl)⟩
        case measure => simp [intOf]; omega
    · obtain rfl : k = s.size := by omega
      have hf : R = true := by
        rw [hR1.out]
        have := hg.out
        rw [List.take_of_length_le (by simp)] at this
        exact this
      replace hf := hide hf
      go_wp2
      go_ret
      exact ⟨ret_bool hf.out.symm, rfl⟩
theorem wordB_0 (s : ByteArray) (least : Nat) : wordB s least 0 = wordOk s least := by
  unfold wordB
  cases h : wordOk s least with
  | false => rfl
  | true =>
    unfold wordOk at h
    simp only [Bool.and_eq_true] at h
    rw [Bool.true_and, List.all_eq_true]
    intro c hc
    have := List.all_eq_true.1 h.2 c hc
    unfold wSign at this
    simp at this
    simp
    omega
theorem wordB_61 (s : ByteArray) (least : Nat) : wordB s least 61 = (wordOk s least && !hasEq s) := by
  unfold wordB
  congr 1
  rw [Bool.eq_iff_iff, List.all_eq_true, Bool.not_eq_true']
  unfold hasEq
  rw [decide_eq_false_iff_not]
  constructor
  · intro h hc
    have := h 61 hc
    rw [decide_eq_true_eq] at this
    exact this rfl
  · intro h c hc
    rw [decide_eq_true_eq]
    intro e
    have : c = 61 := by
      apply UInt8.toNat_inj.1
      show c.toNat = 61
      omega
    exact h (this ▸ hc)
end Go.Proofs.YtpojfcpeibnohaaGreatDoor

namespace Go.Proofs.YtpojfcpeibnohaaGreatDoor
set_option linter.all false
open Go.RowKit

theorem wordE_4 {s : ByteArray} {n : Nat} (h : wordOk s n = false) : wordE s n = 4 := by unfold wordE; rw [h]; rfl
theorem wordE_0 {s : ByteArray} {n : Nat} (h : wordOk s n = true) : wordE s n = 0 := by unfold wordE; rw [h]; rfl
theorem firstE_4 {s : ByteArray} {n : Nat} {l : List Int} (h : wordOk s n = false) : firstE (wordE s n :: l) = 4 := by
  rw [wordE_4 h]; rfl
theorem firstE_skip {a : Int} {l : List Int} {E : Int} (h : a = 0) (h2 : firstE l = E) : firstE (a :: l) = E := by
  subst h; exact h2
theorem firstE_long6 {n : Nat} (h : 1024 < n) : firstE [longE n] = 6 := by rw [show longE n = 6 from if_pos h]; rfl
theorem firstE_long0 {n : Nat} (h : ¬ 1024 < n) : firstE [longE n] = 0 := by rw [show longE n = 0 from if_neg h]; rfl
theorem ask2_bad {m : RQ} (h : wordB m.text 1 61 = false) : askR m 2 = 4 := by
  rw [wordB_61] at h
  by_cases hq : hasEq m.text = true
  · exact if_pos hq
  · have : hasEq m.text = false := by simpa using hq
    rw [this] at h
    rw [show askR m 2 = firstE [wordE m.text 1, longE m.value.size] from if_neg hq]
    exact firstE_4 (by simpa using h)
theorem ask2_good {m : RQ} {E : Int} (h : wordB m.text 1 61 = true) (h2 : firstE [longE m.value.size] = E) : askR m 2 = E := by
  rw [wordB_61] at h
  simp only [Bool.and_eq_true, Bool.not_eq_true'] at h
  rw [show askR m 2 = firstE [wordE m.text 1, longE m.value.size] from if_neg (by rw [h.2]; simp)]
  exact firstE_skip (wordE_0 h.1) h2
set_option maxRecDepth 100000 in
set_option maxHeartbeats 1600000 in
theorem reffault_any (m : RQ) (w : World) (k : Nat) (h1 : 1 ≤ k) (h2 : k ≤ 10) (hk : m.kind = k) (ok : m.ok w) : Calls Tryz.prog 59 #[m.val] w fun e w' => e = .returned (.int .i64 (askR m k)) ∧ Only [] w w' := by
  have O : Only [] w (w.alloc (.cells #[.int .i64 m.kind, .string m.text, .string m.value, .string m.lang, .int .u32 m.cols, .int .u32 m.rows, .int .u32 m.width, .int .u32 m.height, .slice m.mA m.modes.length m.mc, .bool m.on, .int .u32 m.code] 39)) := (Only.refl _ _).alloc _
  have W := fun s n b hs => refRword_any s n b (w.alloc (.cells #[.int .i64 m.kind, .string m.text, .string m.value, .string m.lang, .int .u32 m.cols, .int .u32 m.rows, .int .u32 m.width, .int .u32 m.height, .slice m.mA m.modes.length m.mc, .bool m.on, .int .u32 m.code] 39)) hs
  obtain ⟨w1, hw1⟩ : ∃ w1, w1 = w.alloc (.cells #[.int .i64 m.kind, .string m.text, .string m.value, .string m.lang, .int .u32 m.cols, .int .u32 m.rows, .int .u32 m.width, .int .u32 m.height, .slice m.mA m.modes.length m.mc, .bool m.on, .int .u32 m.code] 39) := ⟨_, rfl⟩
  rw [← hw1] at O W
  have K1 : Blk w1 w.heap.size 39 m.cells := by rw [hw1]; exact Blk.new w _ _
  unfold RQ.val
  have c0 : w1.cell? ⟨w.heap.size, 0, none⟩ = some (.int .i64 m.kind) := K1.cell 0
  have c1 : w1.cell? ⟨w.heap.size, 1, none⟩ = some (.string m.text) := K1.cell 1
  have c2 : w1.cell? ⟨w.heap.size, 2, none⟩ = some (.string m.value) := K1.cell 2
  have c3 : w1.cell? ⟨w.heap.size, 3, none⟩ = some (.string m.lang) := K1.cell 3
  have c4 : w1.cell? ⟨w.heap.size, 4, none⟩ = some (.int .u32 m.cols) := K1.cell 4
  have c5 : w1.cell? ⟨w.heap.size, 5, none⟩ = some (.int .u32 m.rows) := K1.cell 5
  have c6 : w1.cell? ⟨w.heap.size, 6, none⟩ = some (.int .u32 m.width) := K1.cell 6
  have c7 : w1.cell? ⟨w.heap.size, 7, none⟩ = some (.int .u32 m.height) := K1.cell 7
  have c8 : w1.cell? ⟨w.heap.size, 8, none⟩ = some (.slice m.mA m.modes.length m.mc) := K1.cell 8
  have c9 : w1.cell? ⟨w.heap.size, 9, none⟩ = some (.bool m.on) := K1.cell 9
  have c10 : w1.cell? ⟨w.heap.size, 10, none⟩ = some (.int .u32 m.code) := K1.cell 10
  rcases k10 h1 h2 with rfl | rfl | rfl | rfl | rfl | rfl | rfl | rfl | rfl | rfl
  · have hk : m.kind = 1 := hk
    rw [hk] at hw1 c0 ⊢
    replace hk := hide hk
    have W1 := W m.text 0 0 ok.text
    obtain ⟨b, hb⟩ : ∃ b, wordB m.text 0 0 = b := ⟨_, rfl⟩
    rw [hb] at W1
    replace hb := hide hb
    obtain ⟨E, hE⟩ : ∃ E, askR m 1 = E := ⟨_, rfl⟩
    rw [hE]
    replace hE := hide hE
    replace W := hide W
    go_enter Tryz.func59, Tryz.ntmps59
    go_wp2_with fail
    rw [← hw1]
    replace hw1 := hide hw1
    go_call W1 as e w2 ⟨rfl, rfl⟩
    clear W1
    cases b with
    | false =>
      have hq : E = 4 := by
        rw [← hE.out]
        have := hb.out; rw [wordB_0] at this; exact firstE_4 this
      replace hq := hide hq
      go_wp2_with fail
      go_ret
      exact ⟨ret_int hq.out.symm, O⟩
    | true =>
      by_cases hx : 1024 < m.modes.length
      · have ix : (1024 : Int) < (m.modes.length : Int) := by omega
        have hq : E = 6 := by
          rw [← hE.out]
          have h1 := hb.out; rw [wordB_0] at h1; exact firstE_skip (wordE_0 h1) (firstE_long6 hx)
        replace hq := hide hq
        go_wp2_with fail
        go_ret
        exact ⟨ret_int hq.out.symm, O⟩
      · have ix : ¬ (1024 : Int) < (m.modes.length : Int) := by omega
        have hq : E = 0 := by
          rw [← hE.out]
          have h1 := hb.out; rw [wordB_0] at h1; exact firstE_skip (wordE_0 h1) (firstE_long0 hx)
        replace hq := hide hq
        go_wp2_with fail
        go_ret
        exact ⟨ret_int hq.out.symm, O⟩
  · have hk : m.kind = 2 := hk
    rw [hk] at hw1 c0 ⊢
    replace hk := hide hk
    have W1 := W m.text 1 61 ok.text
    obtain ⟨b, hb⟩ : ∃ b, wordB m.text 1 61 = b := ⟨_, rfl⟩
    rw [hb] at W1
    replace hb := hide hb
    obtain ⟨E, hE⟩ : ∃ E, askR m 2 = E := ⟨_, rfl⟩
    rw [hE]
    replace hE := hide hE
    replace W := hide W
    go_enter Tryz.func59, Tryz.ntmps59
    go_wp2_with fail
    rw [← hw1]
    replace hw1 := hide hw1
    go_call W1 as e w2 ⟨rfl, rfl⟩
    clear W1
    cases b with
    | false =>
      have hq : E = 4 := by
        rw [← hE.out]
        exact ask2_bad hb.out
      replace hq := hide hq
      go_wp2_with fail
      go_ret
      exact ⟨ret_int hq.out.symm, O⟩
    | true =>
      by_cases hx : 1024 < m.value.size
      · have ix : (1024 : Int) < (m.value.size : Int) := by omega
        have hq : E = 6 := by
          rw [← hE.out]
          exact ask2_good hb.out (firstE_long6 hx)
        replace hq := hide hq
        go_wp2_with fail
        go_ret
        exact ⟨ret_int hq.out.symm, O⟩
      · have ix : ¬ (1024 : Int) < (m.value.size : Int) := by omega
        have hq : E = 0 := by
          rw [← hE.out]
          exact ask2_good hb.out (firstE_long0 hx)
        replace hq := hide hq
        go_wp2_with fail
        go_ret
        exact ⟨ret_int hq.out.symm, O⟩
  · have hk : m.kind = 3 := hk
    rw [hk] at hw1 c0 ⊢
    replace hk := hide hk
    replace W := hide W
    go_enter Tryz.func59, Tryz.ntmps59
    go_wp2_with fail
    rw [← hw1]
    replace hw1 := hide hw1
    go_ret
    exact ⟨rfl, O⟩
  · have hk : m.kind = 4 := hk
    rw [hk] at hw1 c0 ⊢
    replace hk := hide hk
    replace W := hide W
    by_cases hx : 1024 < m.text.size
    · have hE : askR m 4 = 6 := if_pos hx
      have ix : (1024 : Int) < (m.text.size : Int) := by omega
      rw [hE]
      clear hE
      go_enter Tryz.func59, Tryz.ntmps59
      go_wp2_with fail
      rw [← hw1]
      replace hw1 := hide hw1
      go_ret
      exact ⟨rfl, O⟩
    · have hE : askR m 4 = 0 := if_neg hx
      have ix : ¬ (1024 : Int) < (m.text.size : Int) := by omega
      rw [hE]
      clear hE
      go_enter Tryz.func59, Tryz.ntmps59
      go_wp2_with fail
      rw [← hw1]
      replace hw1 := hide hw1
      go_ret
      exact ⟨rfl, O⟩
  · have hk : m.kind = 5 := hk
    rw [hk] at hw1 c0 ⊢
    replace hk := hide hk
    have W1 := W m.text 1 0 ok.text
    obtain ⟨b, hb⟩ : ∃ b, wordB m.text 1 0 = b := ⟨_, rfl⟩
    rw [hb] at W1
    replace hb := hide hb
    obtain ⟨E, hE⟩ : ∃ E, askR m 5 = E := ⟨_, rfl⟩
    rw [hE]
    replace hE := hide hE
    replace W := hide W
    go_enter Tryz.func59, Tryz.ntmps59
    go_wp2_with fail
    rw [← hw1]
    replace hw1 := hide hw1
    go_call W1 as e w2 ⟨rfl, rfl⟩
    clear W1
    cases b with
    | false =>
      have hq : E = 4 := by
        rw [← hE.out]
        have := hb.out; rw [wordB_0] at this; exact wordE_4 this
      replace hq := hide hq
      go_wp2_with fail
      go_ret
      exact ⟨ret_int hq.out.symm, O⟩
    | true =>
      have hq : E = 0 := by
        rw [← hE.out]
        have := hb.out; rw [wordB_0] at this; exact wordE_0 this
      replace hq := hide hq
      go_wp2_with fail
      go_ret
      exact ⟨ret_int hq.out.symm, O⟩
  · have hk : m.kind = 6 := hk
    rw [hk] at hw1 c0 ⊢
    replace hk := hide hk
    replace W := hide W
    go_enter Tryz.func59, Tryz.ntmps59
    go_wp2_with fail
    rw [← hw1]
    replace hw1 := hide hw1
    go_ret
    exact ⟨rfl, O⟩
  · have hk : m.kind = 7 := hk
    rw [hk] at hw1 c0 ⊢
    replace hk := hide hk
    replace W := hide W
    go_enter Tryz.func59, Tryz.ntmps59
    go_wp2_with fail
    rw [← hw1]
    replace hw1 := hide hw1
    go_ret
    exact ⟨rfl, O⟩
  · have hk : m.kind = 8 := hk
    rw [hk] at hw1 c0 ⊢
    replace hk := hide hk
    have W1 := W m.text 1 0 ok.text
    obtain ⟨b, hb⟩ : ∃ b, wordB m.text 1 0 = b := ⟨_, rfl⟩
    rw [hb] at W1
    replace hb := hide hb
    obtain ⟨E, hE⟩ : ∃ E, askR m 8 = E := ⟨_, rfl⟩
    rw [hE]
    replace hE := hide hE
    replace W := hide W
    go_enter Tryz.func59, Tryz.ntmps59
    go_wp2_with fail
    rw [← hw1]
    replace hw1 := hide hw1
    go_call W1 as e w2 ⟨rfl, rfl⟩
    clear W1
    cases b with
    | false =>
      have hq : E = 4 := by
        rw [← hE.out]
        have := hb.out; rw [wordB_0] at this; exact wordE_4 this
      replace hq := hide hq
      go_wp2_with fail
      go_ret
      exact ⟨ret_int hq.out.symm, O⟩
    | true =>
      have hq : E = 0 := by
        rw [← hE.out]
        have := hb.out; rw [wordB_0] at this; exact wordE_0 this
      replace hq := hide hq
      go_wp2_with fail
      go_ret
      exact ⟨ret_int hq.out.symm, O⟩
  · have hk : m.kind = 9 := hk
    rw [hk] at hw1 c0 ⊢
    replace hk := hide hk
    replace W := hide W
    go_enter Tryz.func59, Tryz.ntmps59
    go_wp2_with fail
    rw [← hw1]
    replace hw1 := hide hw1
    go_ret
    exact ⟨rfl, O⟩
  · have hk : m.kind = 10 := hk
    rw [hk] at hw1 c0 ⊢
    replace hk := hide hk
    have W1 := W m.text 1 0 ok.text
    obtain ⟨b, hb⟩ : ∃ b, wordB m.text 1 0 = b := ⟨_, rfl⟩
    rw [hb] at W1
    replace hb := hide hb
    obtain ⟨E, hE⟩ : ∃ E, askR m 10 = E := ⟨_, rfl⟩
    rw [hE]
    replace hE := hide hE
    have W2 := W m.lang 0 0 ok.lang
    obtain ⟨b2, hb2⟩ : ∃ b, wordB m.lang 0 0 = b := ⟨_, rfl⟩
    rw [hb2] at W2
    replace hb2 := hide hb2
    replace W := hide W
    go_enter Tryz.func59, Tryz.ntmps59
    go_wp2_with fail
    rw [← hw1]
    replace hw1 := hide hw1
    go_call W1 as e w2 ⟨rfl, rfl⟩
    clear W1
    cases b with
    | false =>
      have hq : E = 4 := by
        rw [← hE.out]
        have := hb.out; rw [wordB_0] at this; exact firstE_4 this
      replace hq := hide hq
      go_wp2_with fail
      go_ret
      exact ⟨ret_int hq.out.symm, O⟩
    | true =>
      go_wp2_with fail
      go_call W2 as e w2 ⟨rfl, rfl⟩
      clear W2
      cases b2 with
      | false =>
        have hq : E = 4 := by
          rw [← hE.out]
          have h1 := hb.out; have h2 := hb2.out; rw [wordB_0] at h1 h2
          exact firstE_skip (wordE_0 h1) (firstE_4 h2)
        replace hq := hide hq
        go_wp2_with fail
        go_ret
        exact ⟨ret_int hq.out.symm, O⟩
      | true =>
        by_cases hx : 1024 < m.value.size
        · have ix : (1024 : Int) < (m.value.size : Int) := by omega
          have hq : E = 6 := by
            rw [← hE.out]
            have h1 := hb.out; have h2 := hb2.out; rw [wordB_0] at h1 h2; exact firstE_skip (wordE_0 h1) (firstE_skip (wordE_0 h2) (firstE_long6 hx))
          replace hq := hide hq
          go_wp2_with fail
          go_ret
          exact ⟨ret_int hq.out.symm, O⟩
        · have ix : ¬ (1024 : Int) < (m.value.size : Int) := by omega
          have hq : E = 0 := by
            rw [← hE.out]
            have h1 := hb.out; have h2 := hb2.out; rw [wordB_0] at h1 h2; exact firstE_skip (wordE_0 h1) (firstE_skip (wordE_0 h2) (firstE_long0 hx))
          replace hq := hide hq
          go_wp2_with fail
          go_ret
          exact ⟨ret_int hq.out.symm, O⟩
end Go.Proofs.YtpojfcpeibnohaaGreatDoor
