/- Layer 1: names and kinds; the walks of the functions that ask them; for every input that the types can hold, no condition · Layer 1: rows of kinds, faults of names; for every input that the types can hold, no condition · Layer 1: fields and their faults; for every field, no condition. -/
import Derived.Test.YtkgikodiecmakaaGreatDoorFrame
import Derived.Test.YtkgikodiecmakaaGreatDoorApp3
import Derived.WalkSpells
import Derived.Test.YtkgikodiecmakaaGreatDoorReads
namespace Go.Proofs.YtkgikodiecmakaaGreatDoor
set_option linter.all false
open Go.RowKit

/-- A byte that a name may hold. -/
def nameC (c : UInt8) : Bool := decide (33 ≤ c.toNat) && decide (c.toNat ≤ 126) && decide (c.toNat ≠ 44)
/-- A name that may be. -/
def nameOk (s : ByteArray) : Bool := decide (1 ≤ s.size) && decide (s.size ≤ 64) && s.data.toList.all nameC
theorem take_snocS (s : ByteArray) (k : Nat) (h : k < s.size) : s.data.toList.take (k + 1) = s.data.toList.take k ++ [s[k]] := by
  rw [List.take_succ_eq_append_getElem (by simpa using h)]; rfl

theorem strEmpty (s : ByteArray) : s.toList.isEmpty = decide (s.size = 0) := by
  rw [ByteArray.toList_eq]
  have e : s.size = s.data.toList.length := by simp
  rw [e]
  cases s.data.toList <;> simp
def kindOk (k : Int) : Bool := decide (1 ≤ k) && decide (k ≤ 6)
theorem known_any (k : Int) (w : World) : Calls Tryz.prog 107 #[.int .i64 k] w fun e w' => e = .returned (.bool (kindOk k)) ∧ w = w' := by
  by_cases h1 : 1 ≤ k
  · go_enter Tryz.func107, Tryz.ntmps107
    go_wp2
    go_ret
    exact ⟨ret_bool (by unfold kindOk; simp [h1] <;> omega), rfl⟩
  · go_enter Tryz.func107, Tryz.ntmps107
    go_wp2
    go_ret
    exact ⟨ret_bool (by unfold kindOk; simp [h1] <;> omega), rfl⟩
/-- Error c if a is above b. -/
def over (a b c : Int) : Int := if b < a then c else 0
theorem over_pos {a b c : Int} (h : b < a) : over a b c = c := if_pos h
theorem over_neg {a b c : Int} (h : ¬ b < a) : over a b c = 0 := if_neg h
theorem within_any (a b : Int) (w : World) : Calls Tryz.prog 127 #[.int .u32 a, .int .u32 b] w fun e w' => e = .returned (.int .i64 (over a b 5)) ∧ w = w' := by
  by_cases h1 : b < a
  · rw [over_pos h1]
    go_enter Tryz.func127, Tryz.ntmps127
    go_wp2
    go_ret
    exact ⟨rfl, rfl⟩
  · rw [over_neg h1]
    go_enter Tryz.func127, Tryz.ntmps127
    go_wp2
    go_ret
    exact ⟨rfl, rfl⟩
theorem room_any (a b : Int) (w : World) : Calls Tryz.prog 129 #[.int .i64 a, .int .i64 b] w fun e w' => e = .returned (.int .i64 (over a b 6)) ∧ w = w' := by
  by_cases h1 : b < a
  · rw [over_pos h1]
    go_enter Tryz.func129, Tryz.ntmps129
    go_wp2
    go_ret
    exact ⟨rfl, rfl⟩
  · rw [over_neg h1]
    go_enter Tryz.func129, Tryz.ntmps129
    go_wp2
    go_ret
    exact ⟨rfl, rfl⟩

set_option maxHeartbeats 1600000 in
theorem named_any (s : ByteArray) (w : World) (hs : s.size ≤ maxLen) : Calls Tryz.prog 133 #[.string s] w fun e w' => e = .returned (.bool (nameOk s)) ∧ w = w' := by
  unfold maxLen at hs
  by_cases h0 : s.size = 0
  · have e : nameOk s = false := by unfold nameOk; simp [h0]
    rw [e]; clear e
    have hl2 : s.toList.isEmpty = true := by rw [strEmpty]; simp [h0]
    go_enter Tryz.func133, Tryz.ntmps133
    go_wp2
    go_ret
    exact ⟨rfl, rfl⟩
  · have hl2 : s.toList.isEmpty = false := by rw [strEmpty]; simp [h0]
    by_cases h64 : 64 < s.size
    · have e : nameOk s = false := by unfold nameOk; simp; omega
      rw [e]; clear e
      go_enter Tryz.func133, Tryz.ntmps133
      go_wp2
      go_ret
      exact ⟨rfl, rfl⟩
    · obtain ⟨N, hN⟩ : ∃ N, N = nameOk s := ⟨_, rfl⟩
      have hN2 : N = s.data.toList.all nameC := by rw [hN]; unfold nameOk; simp; omega
      rw [← hN]
      replace hN2 := hide hN2
      clear hN h0
      go_enter Tryz.func133, Tryz.ntmps133
      go_wp2
      go_loop [14] (fun i => ∃ k : Nat, k ≤ s.size ∧ i = .int .i64 k ∧ Hid ((s.data.toList.take k).all nameC = true)) (fun i => s.size - (intOf i).toNat)
      case atStart => exact ⟨0, by omega, rfl, hide rfl⟩
      case round =>
        obtain ⟨k, hk, rfl, hall⟩ := hrel
        by_cases hlt : k < s.size
        · have hts := hide (take_snocS s k hlt)
          by_cases hc : nameC s[k] = true
          · have hcc := hide hc
            unfold nameC at hc
            simp only [Bool.and_eq_true, decide_eq_true_eq] at hc
            obtain ⟨⟨q1, q2⟩, q3⟩ := hc
            have q4 : ((s[k].toNat : Int) == 44) = false := beq_eq_false_iff_ne.2 (by omega)
            replace q3 := hide q3
            go_wp2
            go_round
            case rel => exact ⟨k + 1, by omega, by go_num, hide (by rw [hts.out, List.all_append, hall.out]; simp [hcc.out])⟩
            case measure => simp [intOf]; omega
          · have hf : N = false := by
              rw [hN2.out, Bool.eq_false_iff]
              intro h
              have := List.all_eq_true.1 h s[k] (by
                have : s[k] = s.data.toList[k]'(by simpa using hlt) := rfl
                rw [this]; exact List.getElem_mem _)
              exact hc this
            subst hf
            have hq : s[k].toNat < 33 ∨ 126 < s[k].toNat ∨ s[k].toNat = 44 := by
              unfold nameC at hc
              simp at hc
              omega
            clear hN2 hc
            by_cases q1 : s[k].toNat < 33
            · clear hq
              go_wp2
              go_ret
              exact ⟨rfl, rfl⟩
            · by_cases q2 : 126 < s[k].toNat
              · clear hq
                go_wp2
                go_ret
                exact ⟨rfl, rfl⟩
              · have q3 : ((s[k].toNat : Int) == 44) = true := beq_iff_eq.2 (by omega)
                clear hq
                go_wp2
                go_ret
                exact ⟨rfl, rfl⟩
        · have hf : N = true := by
            have h := hall.out
            rw [List.take_of_length_le (by simp; omega)] at h
            rw [hN2.out, h]
          subst hf
          clear hN2
          go_wp2
          go_ret
          exact ⟨rfl, rfl⟩
end Go.Proofs.YtkgikodiecmakaaGreatDoor

namespace Go.Proofs.YtkgikodiecmakaaGreatDoor
set_option linter.all false
open Go.RowKit

set_option maxHeartbeats 1600000 in
theorem refName_any (s : ByteArray) (w : World) (hs : s.size ≤ maxLen) : Calls Tryz.prog 94 #[.string s] w fun e w' => e = .returned (.bool (nameOk s)) ∧ w = w' := by
  unfold maxLen at hs
  by_cases h0 : s.size < 1
  · have e : nameOk s = false := by unfold nameOk; simp; omega
    rw [e]; clear e
    go_enter Tryz.func94, Tryz.ntmps94
    go_wp2
    go_ret
    exact ⟨rfl, rfl⟩
  · by_cases h64 : 64 < s.size
    · have e : nameOk s = false := by unfold nameOk; simp; omega
      rw [e]; clear e
      go_enter Tryz.func94, Tryz.ntmps94
      go_wp2
      go_ret
      exact ⟨rfl, rfl⟩
    · obtain ⟨N, hN⟩ : ∃ N, N = nameOk s := ⟨_, rfl⟩
      have hN2 : N = s.data.toList.all nameC := by rw [hN]; unfold nameOk; simp; omega
      rw [← hN]
      replace hN2 := hide hN2
      clear hN
      go_enter Tryz.func94, Tryz.ntmps94
      go_wp2
      go_loop [3] (fun i => ∃ k : Nat, k ≤ s.size ∧ i = .int .i64 k ∧ Hid ((s.data.toList.take k).all nameC = true)) (fun i => s.size - (intOf i).toNat)
      case atStart => exact ⟨0, by omega, rfl, hide rfl⟩
      case round =>
        obtain ⟨k, hk, rfl, hall⟩ := hrel
        by_cases hlt : k < s.size
        · have hts := hide (take_snocS s k hlt)
          by_cases hc : nameC s[k] = true
          · have hcc := hide hc
            unfold nameC at hc
            simp only [Bool.and_eq_true, decide_eq_true_eq] at hc
            obtain ⟨⟨q1, q2⟩, q3⟩ := hc
            have q4 : ((s[k].toNat : Int) == 44) = false := beq_eq_false_iff_ne.2 (by omega)
            replace q3 := hide q3
            go_wp2
            go_round
            case rel => exact ⟨k + 1, by omega, by go_num, hide (by rw [hts.out, List.all_append, hall.out]; simp [hcc.out])⟩
            case measure => simp [intOf]; omega
          · have hf : N = false := by
              rw [hN2.out, Bool.eq_false_iff]
              intro h
              have := List.all_eq_true.1 h s[k] (by
                have : s[k] = s.data.toList[k]'(by simpa using hlt) := rfl
                rw [this]; exact List.getElem_mem _)
              exact hc this
            subst hf
            have hq : s[k].toNat < 33 ∨ 126 < s[k].toNat ∨ s[k].toNat = 44 := by
              unfold nameC at hc
              simp at hc
              omega
            clear hN2 hc
            by_cases q1 : s[k].toNat < 33
            · clear hq
              go_wp2
              go_ret
              exact ⟨rfl, rfl⟩
            · by_cases q2 : 126 < s[k].toNat
              · clear hq
                go_wp2
                go_ret
                exact ⟨rfl, rfl⟩
              · have q3 : ((s[k].toNat : Int) == 44) = true := beq_iff_eq.2 (by omega)
                clear hq
                go_wp2
                go_ret
                exact ⟨rfl, rfl⟩
        · have hf : N = true := by
            have h := hall.out
            rw [List.take_of_length_le (by simp; omega)] at h
            rw [hN2.out, h]
          subst hf
          clear hN2
          go_wp2
          go_ret
          exact ⟨rfl, rfl⟩

/-! Rows of kinds. -/
def goodAt (ks : List Int) (i : Nat) : Bool := kindOk (ks.getD i 0) && !(decide (ks.getD i 0 = 6) && decide (i + 1 < ks.length))
def rowOk (ks : List Int) : Bool := (List.range ks.length).all (goodAt ks)
theorem rowOk_iff {ks : List Int} : rowOk ks = true ↔ ∀ i, i < ks.length → goodAt ks i = true := by
  unfold rowOk
  rw [List.all_eq_true]
  simp
theorem rowOk_not {ks : List Int} {i : Nat} (hi : i < ks.length) (h : goodAt ks i = false) : rowOk ks = false := by
  rw [Bool.eq_false_iff]
  intro hr
  rw [rowOk_iff.1 hr i hi] at h
  cases h
def Good (ks : List Int) (k : Nat) : Prop := ∀ i, i < k → goodAt ks i = true

set_option maxHeartbeats 1600000 in
theorem row_any (A : Option Addr) (ks : List Int) (cap : Nat) (w : World) (h : RdI w A ks) (hl : ks.length ≤ maxLen) : Calls Tryz.prog 92 #[.slice A ks.length cap] w fun e w' => e = .returned (.bool (rowOk ks)) ∧ w = w' := by
  unfold maxLen at hl
  obtain ⟨n, hn⟩ : ∃ n, n = ks.length := ⟨_, rfl⟩
  obtain ⟨R, hR⟩ : ∃ R, R = rowOk ks := ⟨_, rfl⟩
  rw [← hR]
  rw [← hn] at hl ⊢
  have HR := hide hR
  have HN := hide hn
  clear hR hn
  go_enter Tryz.func92, Tryz.ntmps92
  go_wp2
  go_loop [7] (fun i => ∃ k : Nat, k ≤ n ∧ i = .int .i64 k ∧ Good ks k) (fun i => n - (intOf i).toNat)
  case atStart => exact ⟨0, by omega, rfl, fun i hi => by omega⟩
  case round =>
    obtain ⟨k, hk, rfl, hg⟩ := hrel
    by_cases hlt : k < n
    · obtain ⟨b, off, x, rfl, hb, hx, hc⟩ := h.at k (by rw [← HN.out]; exact hlt)
      have hga : goodAt ks k = (kindOk x && !(decide (x = 6) && decide (k + 1 < n))) := by
        unfold goodAt
        rw [List.getD_eq_getElem?_getD, hx, HN.out]; rfl
      have hg' : goodAt ks k = true → Good ks (k + 1) := fun h i hi => by
        by_cases e : i = k
        · rw [e]; exact h
        · exact hg i (by omega)
      have hnot : goodAt ks k = false → R = false := fun h => by rw [HR.out]; exact rowOk_not (by rw [← HN.out]; exact hlt) h
      rw [hga] at hg' hnot
      replace hg' := hide hg'
      replace hnot := hide hnot
      clear hga hx
      replace hg := hide hg
      by_cases h1 : kindOk x = true
      · have K : Calls Tryz.prog 107 #[.int .i64 x] w fun e w' => e = .returned (.bool true) ∧ w = w' := by rw [← h1]; exact known_any x w
        by_cases h6 : x = 6
        · subst h6
          by_cases hl2 : k + 1 < n
          · obtain rfl : R = false := hnot.out (by simp [h1, hl2])
            have hl3 : (k : Int) < (n : Int) - 1 := by omega
            clear hg' hnot h1
            go_wp2_with fail
            go_call K as e w' ⟨rfl, rfl⟩
            clear K
            go_wp2
            go_ret
            exact ⟨rfl, rfl⟩
          · have hl3 : ¬ (k : Int) < (n : Int) - 1 := by omega
            have hG : Good ks (k + 1) := hg'.out (by simp [h1]; omega)
            replace hG := hide hG
            clear hg' hnot h1
            go_wp2_with fail
            go_call K as e w' ⟨rfl, rfl⟩
            clear K
            go_wp2
            go_round
            case rel => exact ⟨k + 1, by omega, by go_num, hG.out⟩
            case measure => simp [intOf]; omega
        · have h6' : (x == 6) = false := beq_eq_false_iff_ne.2 h6
          have hG : Good ks (k + 1) := hg'.out (by simp [h1, h6])
          replace hG := hide hG
          clear hg' hnot h1
          go_wp2_with fail
          go_call K as e w' ⟨rfl, rfl⟩
          clear K
          go_wp2
          go_round
          case rel => exact ⟨k + 1, by omega, by go_num, hG.out⟩
          case measure => simp [intOf]; omega
      · have h1 : kindOk x = false := by simpa using h1
        obtain rfl : R = false := hnot.out (by simp [h1])
        have K : Calls Tryz.prog 107 #[.int .i64 x] w fun e w' => e = .returned (.bool false) ∧ w = w' := by rw [← h1]; exact known_any x w
        clear hg' hnot h1
        go_wp2_with fail
        go_call K as e w' ⟨rfl, rfl⟩
        clear K
        go_wp2
        go_ret
        exact ⟨rfl, rfl⟩
    · obtain rfl : k = n := by omega
      obtain rfl : R = true := by rw [HR.out]; exact rowOk_iff.2 (fun i hi => hg i (by rw [HN.out]; exact hi))
      replace hg := hide hg
      go_wp2
      go_ret
      exact ⟨rfl, rfl⟩
end Go.Proofs.YtkgikodiecmakaaGreatDoor

namespace Go.Proofs.YtkgikodiecmakaaGreatDoor
set_option linter.all false
open Go.RowKit

/-- A field: its kind, number, text and names, and where the last two lie. -/
structure FD where
  kind : Int
  n : Int
  tA : Option Addr
  tc : Nat
  text : List Int
  lA : Option Addr
  lc : Nat
  list : List ByteArray
def FD.cells (f : FD) : List Value := [.int .i64 f.kind, .int .u32 f.n, .slice f.tA f.text.length f.tc, .slice f.lA f.list.length f.lc]
def FD.val (f : FD) : Value := .agg #[.int .i64 f.kind, .int .u32 f.n, .slice f.tA f.text.length f.tc, .slice f.lA f.list.length f.lc]
/-- It can be read in w. -/
structure FD.ok (w : World) (f : FD) : Prop where
  text : RdG (.int .u8) w f.tA f.text
  list : RdS w f.lA f.list
  tle : f.text.length ≤ f.tc
  tmax : f.tc ≤ maxLen
  lle : f.list.length ≤ f.lc
  lmax : f.lc ≤ maxLen
  strs : ∀ s ∈ f.list, s.size ≤ maxLen
theorem FD.ok.only {w w' : World} {f : FD} (h : f.ok w) (hb : Only [] w w') : f.ok w' := { h with text := h.text.only hb, list := h.list.only hb }

/-- What is wrong with a field. -/
def namesBad (l : List ByteArray) : Int := if 64 < l.length then 6 else if l.all nameOk then 0 else 4
def FD.fault (f : FD) : Int :=
  if f.kind = 1 then over f.n 255 5 else if f.kind = 2 then over f.n 1 5 else if f.kind = 4 then over f.text.length 32768 6
  else if f.kind = 5 then namesBad f.list else if f.kind = 6 then over f.text.length 33792 6 else 0

theorem bad1_any (s : ByteArray) (w : World) (hs : s.size ≤ maxLen) : Calls Tryz.prog 132 #[.string s] w fun e w' => e = .returned (.bool (!nameOk s)) ∧ w = w' := by
  have h := named_any s w hs
  obtain ⟨N, hN⟩ : ∃ N, N = nameOk s := ⟨_, rfl⟩
  rw [← hN] at h ⊢
  clear hN
  go_enter Tryz.func132, Tryz.ntmps132
  go_wp2_with fail
  go_call h as e w' ⟨rfl, rfl⟩
  clear h
  go_wp2
  go_ret
  exact ⟨rfl, rfl⟩

/-- The place of the first name that may not be; -1: there is none. -/
def FirstBad (l : List ByteArray) (e : Ending) : Prop := (l.all nameOk = true ∧ e = .returned (.int .i64 (-1))) ∨ (l.all nameOk = false ∧ ∃ k : Nat, k < l.length ∧ e = .returned (.int .i64 k))
set_option maxHeartbeats 1600000 in
theorem indexBad_any (A : Option Addr) (l : List ByteArray) (cap : Nat) (w : World) (h : RdS w A l) (hl : l.length ≤ maxLen) (hs : ∀ s ∈ l, s.size ≤ maxLen) :
    Calls Tryz.prog 137 #[.slice A l.length cap, .func (.func 132) #[] #[]] w fun e w' => FirstBad l e ∧ w = w' := by
  unfold maxLen at hl
  obtain ⟨n, hn⟩ : ∃ n, n = l.length := ⟨_, rfl⟩
  rw [← hn] at hl ⊢
  have HN := hide hn
  replace hs := hide hs
  clear hn
  go_enter Tryz.func137, Tryz.ntmps137
  go_wp2
  go_loop [8] (fun i => ∃ k : Nat, k ≤ n ∧ i = .int .i64 k ∧ Hid ((l.take k).all nameOk = true)) (fun i => n - (intOf i).toNat)
  case atStart => exact ⟨0, by omega, rfl, hide rfl⟩
  case round =>
    obtain ⟨k, hk, rfl, hg⟩ := hrel
    by_cases hlt : k < n
    · obtain ⟨b, off, s, rfl, hb, hx, hc⟩ := h.at k (by rw [← HN.out]; exact hlt)
      have hts := hide (take_snocG hx)
      have hmem : s ∈ l := List.mem_of_getElem? hx
      have K := bad1_any s w (hs.out s hmem)
      have hfin : nameOk s = false → l.all nameOk = false := fun hb => by
        rw [Bool.eq_false_iff]
        intro h
        rw [List.all_eq_true.1 h s hmem] at hb
        cases hb
      replace hfin := hide hfin
      clear hx hmem
      by_cases ho : nameOk s = true
      · rw [ho] at K
        have ho := hide ho
        clear hfin
        go_wp2_with fail
        go_call K as e w' ⟨rfl, rfl⟩
        clear K
        go_wp2
        go_round
        case rel => exact ⟨k + 1, by omega, by go_num, hide (by rw [hts.out, List.all_append, hg.out]; simp [ho.out])⟩
        case measure => simp [intOf]; omega
      · have ho : nameOk s = false := by simpa using ho
        rw [ho] at K
        have hf := hide (hfin.out ho)
        clear hfin ho
        go_wp2_with fail
        go_call K as e w' ⟨rfl, rfl⟩
        clear K
        go_wp2
        go_ret
        exact ⟨.inr ⟨hf.out, k, by rw [← HN.out]; exact hlt, rfl⟩, rfl⟩
    · obtain rfl : k = n := by omega
      have hf : l.all nameOk = true := by have := hg.out; rw [List.take_of_length_le (by rw [← HN.out]; exact Nat.le_refl _)] at this; exact this
      replace hf := hide hf
      clear hg
      go_wp2
      go_ret
      exact ⟨.inl ⟨hf.out, rfl⟩, rfl⟩
theorem containsBad_any (A : Option Addr) (l : List ByteArray) (cap : Nat) (w : World) (h : RdS w A l) (hl : l.length ≤ maxLen) (hs : ∀ s ∈ l, s.size ≤ maxLen) :
    Calls Tryz.prog 131 #[.slice A l.length cap, .func (.func 132) #[] #[]] w fun e w' => e = .returned (.bool (!l.all nameOk)) ∧ w = w' := by
  have K := indexBad_any A l cap w h hl hs
  obtain ⟨B, hB⟩ : ∃ B, B = l.all nameOk := ⟨_, rfl⟩
  have K2 : Calls Tryz.prog 137 #[.slice A l.length cap, .func (.func 132) #[] #[]] w fun e w' => ∃ i : Int, e = .returned (.int .i64 i) ∧ (0 ≤ i ↔ B = false) ∧ w = w' := by
    refine K.mono fun e w' ⟨hf, hw⟩ => ?_
    rcases hf with ⟨h1, h2⟩ | ⟨h1, k, _, h2⟩
    · exact ⟨-1, h2, by rw [hB, h1]; simp, hw⟩
    · exact ⟨k, h2, by rw [hB, h1]; simp, hw⟩
  rw [← hB]
  clear K hB
  go_enter Tryz.func131, Tryz.ntmps131
  go_wp2_with fail
  go_call K2 as e w' ⟨i, rfl, hi, rfl⟩
  clear K2
  cases B with
  | true =>
    have h0 : ¬ (0 ≤ i) := fun h => by have := hi.1 h; cases this
    clear hi
    go_wp2
    go_ret
    exact ⟨ret_bool (by simp; omega), rfl⟩
  | false =>
    have h0 : 0 ≤ i := hi.2 rfl
    clear hi
    go_wp2
    go_ret
    exact ⟨rfl, rfl⟩

theorem namesFault_any (f : FD) (w : World) (h : f.ok w) : Calls Tryz.prog 119 #[f.val] w fun e w' => e = .returned (.int .i64 (namesBad f.list)) ∧ Only [] w w' := by
  obtain ⟨kind, n, tA, tc, text, lA, lc, list⟩ := f
  have hmax : list.length ≤ 9223372036854775807 := by have := h.lle; have := h.lmax; unfold maxLen at *; dsimp at *; omega
  unfold FD.val
  dsimp only
  by_cases h64 : 64 < list.length
  · have e : namesBad list = 6 := by unfold namesBad; rw [if_pos h64]
    rw [e]
    clear e
    obtain ⟨N, hN⟩ : ∃ N, N = list.length := ⟨_, rfl⟩
    rw [← hN] at h64 hmax ⊢
    clear hN h
    go_enter Tryz.func119, Tryz.ntmps119
    go_wp2
    go_ret
    exact ⟨rfl, (Only.refl _ _).alloc _⟩
  · have K := containsBad_any lA list lc (w.alloc (.cells #[.int .i64 kind, .int .u32 n, .slice tA text.length tc, .slice lA list.length lc] 86)) (h.list.only ((Only.refl _ _).alloc _)) (by unfold maxLen; omega) h.strs
    have e : namesBad list = if list.all nameOk then 0 else 4 := by unfold namesBad; rw [if_neg h64]
    rw [e]
    clear e
    cases hB : list.all nameOk with
    | true =>
      rw [hB] at K
      replace hB := hide hB
      go_enter Tryz.func119, Tryz.ntmps119
      go_wp2_with fail
      go_call K as e w' ⟨rfl, rfl⟩
      clear K
      go_wp2
      go_ret
      exact ⟨rfl, (Only.refl _ _).alloc _⟩
    | false =>
      rw [hB] at K
      replace hB := hide hB
      go_enter Tryz.func119, Tryz.ntmps119
      go_wp2_with fail
      go_call K as e w' ⟨rfl, rfl⟩
      clear K
      go_wp2
      go_ret
      exact ⟨rfl, (Only.refl _ _).alloc _⟩
section
variable (f : FD) (w : World)
theorem octetFault_any : Calls Tryz.prog 108 #[f.val] w fun e w' => e = .returned (.int .i64 (over f.n 255 5)) ∧ Only [] w w' := by
  obtain ⟨kind, n, tA, tc, text, lA, lc, list⟩ := f
  unfold FD.val
  go_enter Tryz.func108, Tryz.ntmps108
  go_wp2_with fail
  go_call (within_any n 255 _) as e w' ⟨rfl, rfl⟩
  go_wp2
  go_ret
  exact ⟨rfl, (Only.refl _ _).alloc _⟩
theorem flagFault_any : Calls Tryz.prog 111 #[f.val] w fun e w' => e = .returned (.int .i64 (over f.n 1 5)) ∧ Only [] w w' := by
  obtain ⟨kind, n, tA, tc, text, lA, lc, list⟩ := f
  unfold FD.val
  go_enter Tryz.func111, Tryz.ntmps111
  go_wp2_with fail
  go_call (within_any n 1 _) as e w' ⟨rfl, rfl⟩
  go_wp2
  go_ret
  exact ⟨rfl, (Only.refl _ _).alloc _⟩
theorem noFault_any : Calls Tryz.prog 113 #[f.val] w fun e w' => e = .returned (.int .i64 0) ∧ Only [] w w' := by
  obtain ⟨kind, n, tA, tc, text, lA, lc, list⟩ := f
  unfold FD.val
  go_enter Tryz.func113, Tryz.ntmps113
  go_wp2
  go_ret
  exact ⟨rfl, (Only.refl _ _).alloc _⟩
theorem textFault_any (h : f.ok w) : Calls Tryz.prog 116 #[f.val] w fun e w' => e = .returned (.int .i64 (over f.text.length 32768 6)) ∧ Only [] w w' := by
  obtain ⟨kind, n, tA, tc, text, lA, lc, list⟩ := f
  have hmax : text.length ≤ 9223372036854775807 := by have := h.tle; have := h.tmax; unfold maxLen at *; dsimp at *; omega
  unfold FD.val
  dsimp only
  obtain ⟨N, hN⟩ : ∃ N, N = text.length := ⟨_, rfl⟩
  rw [← hN] at hmax ⊢
  clear hN h
  go_enter Tryz.func116, Tryz.ntmps116
  go_wp2_with fail
  go_call (room_any N 32768 _) as e w' ⟨rfl, rfl⟩
  go_wp2
  go_ret
  exact ⟨rfl, (Only.refl _ _).alloc _⟩
theorem restFault_any (h : f.ok w) : Calls Tryz.prog 122 #[f.val] w fun e w' => e = .returned (.int .i64 (over f.text.length 33792 6)) ∧ Only [] w w' := by
  obtain ⟨kind, n, tA, tc, text, lA, lc, list⟩ := f
  have hmax : text.length ≤ 9223372036854775807 := by have := h.tle; have := h.tmax; unfold maxLen at *; dsimp at *; omega
  unfold FD.val
  dsimp only
  obtain ⟨N, hN⟩ : ∃ N, N = text.length := ⟨_, rfl⟩
  rw [← hN] at hmax ⊢
  clear hN h
  go_enter Tryz.func122, Tryz.ntmps122
  go_wp2_with fail
  go_call (room_any N 33792 _) as e w' ⟨rfl, rfl⟩
  go_wp2
  go_ret
  exact ⟨rfl, (Only.refl _ _).alloc _⟩
end
end Go.Proofs.YtkgikodiecmakaaGreatDoor
