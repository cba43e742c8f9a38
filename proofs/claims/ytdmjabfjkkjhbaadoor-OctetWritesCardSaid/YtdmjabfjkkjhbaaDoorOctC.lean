/- Layer 1: fields and their faults; for every field, no condition. -/
import Derived.Test.YtdmjabfjkkjhbaaDoorOctB
namespace Go.Proofs.YtdmjabfjkkjhbaaDoor
set_option linter.all false
open Go.RowKit

/-- A field: its kind, number, text and names, and where the last two lie. -/
structure FD where
  kind : Int
  n : Int
  tA : Option Addr
  tc : Nat
  text : List Int
  lA : Option Addr
  lc : Nat
  list : List ByteArray
def FD.cells (f : FD) : List Value := [.int .i64 f.kind, .int .u32 f.n, .slice f.tA f.text.length f.tc, .slice f.lA f.list.length f.lc]
def FD.val (f : FD) : Value := .agg #[.int .i64 f.kind, .int .u32 f.n, .slice f.tA f.text.length f.tc, .slice f.lA f.list.length f.lc]
/-- It can be read in w. -/
structure FD.ok (w : World) (f : FD) : Prop where
  text : RdG (.int .u8) w f.tA f.text
  list : RdS w f.lA f.list
  tle : f.text.length ≤ f.tc
  tmax : f.tc ≤ maxLen
  lle : f.list.length ≤ f.lc
  lmax : f.lc ≤ maxLen
  strs : ∀ s ∈ f.list, s.size ≤ maxLen
theorem FD.ok.only {w w' : World} {f : FD} (h : f.ok w) (hb : Only [] w w') : f.ok w' := { h with text := h.text.only hb, list := h.list.only hb }

/-- What is wrong with a field. -/
def namesBad (l : List ByteArray) : Int := if 64 < l.length then 6 else if l.all nameOk then 0 else 4
def FD.fault (f : FD) : Int :=
  if f.kind = 1 then over f.n 255 5 else if f.kind = 2 then over f.n 1 5 else if f.kind = 4 then over f.text.length 32768 6
  else if f.kind = 5 then namesBad f.list else if f.kind = 6 then over f.text.length 33792 6 else 0

theorem bad1_any (s : ByteArray) (w : World) (hs : s.size ≤ maxLen) : Calls Tryd.prog 77 #[.string s] w fun e w' => e = .returned (.bool (!nameOk s)) ∧ w = w' := by
  have h := named_any s w hs
  obtain ⟨N, hN⟩ : ∃ N, N = nameOk s := ⟨_, rfl⟩
  rw [← hN] at h ⊢
  clear hN
  go_enter Tryd.func77, Tryd.ntmps77
  go_wp2_with fail
  go_call h as e w' ⟨rfl, rfl⟩
  clear h
  go_wp2
  go_ret
  exact ⟨rfl, rfl⟩

/-- The place of the first name that may not be; -1: there is none. -/
def FirstBad (l : List ByteArray) (e : Ending) : Prop := (l.all nameOk = true ∧ e = .returned (.int .i64 (-1))) ∨ (l.all nameOk = false ∧ ∃ k : Nat, k < l.length ∧ e = .returned (.int .i64 k))
set_option maxHeartbeats 1600000 in
theorem indexBad_any (A : Option Addr) (l : List ByteArray) (cap : Nat) (w : World) (h : RdS w A l) (hl : l.length ≤ maxLen) (hs : ∀ s ∈ l, s.size ≤ maxLen) :
    Calls Tryd.prog 99 #[.slice A l.length cap, .func (.func 77) #[] #[]] w fun e w' => FirstBad l e ∧ w = w' := by
  unfold maxLen at hl
  obtain ⟨n, hn⟩ : ∃ n, n = l.length := ⟨_, rfl⟩
  rw [← hn] at hl ⊢
  have HN := hide hn
  replace hs := hide hs
  clear hn
  go_enter Tryd.func99, Tryd.ntmps99
  go_wp2
  go_loop [8] (fun i => ∃ k : Nat, k ≤ n ∧ i = .int .i64 k ∧ Hid ((l.take k).all nameOk = true)) (fun i => n - (intOf i).toNat)
  case atStart => exact ⟨0, by omega, rfl, hide rfl⟩
  case round =>
    obtain ⟨k, hk, rfl, hg⟩ := hrel
    by_cases hlt : k < n
    · obtain ⟨b, off, s, rfl, hb, hx, hc⟩ := h.at k (by rw [← HN.out]; exact hlt)
      have hts := hide (take_snocG hx)
      have hmem : s ∈ l := List.mem_of_getElem? hx
      have K := bad1_any s w (hs.out s hmem)
      have hfin : nameOk s = false → l.all nameOk = false := fun hb => by
        rw [Bool.eq_false_iff]
        intro h
        rw [List.all_eq_true.1 h s hmem] at hb
        cases hb
      replace hfin := hide hfin
      clear hx hmem
      by_cases ho : nameOk s = true
      · rw [ho] at K
        have ho := hide ho
        clear hfin
        go_wp2_with fail
        go_call K as e w' ⟨rfl, rfl⟩
        clear K
        go_wp2
        go_round
        case rel => exact ⟨k + 1, by omega, by go_num, hide (by rw [hts.out, List.all_append, hg.out]; simp [ho.out])⟩
        case measure => simp [intOf]; omega
      · have ho : nameOk s = false := by simpa using ho
        rw [ho] at K
        have hf := hide (hfin.out ho)
        clear hfin ho
        go_wp2_with fail
        go_call K as e w' ⟨rfl, rfl⟩
        clear K
        go_wp2
        go_ret
        exact ⟨.inr ⟨hf.out, k, by rw [← HN.out]; exact hlt, rfl⟩, rfl⟩
    · obtain rfl : k = n := by omega
      have hf : l.all nameOk = true := by have := hg.out; rw [List.take_of_length_le (by rw [← HN.out]; exact Nat.le_refl _)] at this; exact this
      replace hf := hide hf
      clear hg
      go_wp2
      go_ret
      exact ⟨.inl ⟨hf.out, rfl⟩, rfl⟩
theorem containsBad_any (A : Option Addr) (l : List ByteArray) (cap : Nat) (w : World) (h : RdS w A l) (hl : l.length ≤ maxLen) (hs : ∀ s ∈ l, s.size ≤ maxLen) :
    Calls Tryd.prog 76 #[.slice A l.length cap, .func (.func 77) #[] #[]] w fun e w' => e = .returned (.bool (!l.all nameOk)) ∧ w = w' := by
  have K := indexBad_any A l cap w h hl hs
  obtain ⟨B, hB⟩ : ∃ B, B = l.all nameOk := ⟨_, rfl⟩
  have K2 : Calls Tryd.prog 99 #[.slice A l.length cap, .func (.func 77) #[] #[]] w fun e w' => ∃ i : Int, e = .returned (.int .i64 i) ∧ (0 ≤ i ↔ B = false) ∧ w = w' := by
    refine K.mono fun e w' ⟨hf, hw⟩ => ?_
    rcases hf with ⟨h1, h2⟩ | ⟨h1, k, _, h2⟩
    · exact ⟨-1, h2, by rw [hB, h1]; simp, hw⟩
    · exact ⟨k, h2, by rw [hB, h1]; simp, hw⟩
  rw [← hB]
  clear K hB
  go_enter Tryd.func76, Tryd.ntmps76
  go_wp2_with fail
  go_call K2 as e w' ⟨i, rfl, hi, rfl⟩
  clear K2
  cases B with
  | true =>
    have h0 : ¬ (0 ≤ i) := fun h => by have := hi.1 h; cases this
    clear hi
    go_wp2
    go_ret
    exact ⟨ret_bool (by simp; omega), rfl⟩
  | false =>
    have h0 : 0 ≤ i := hi.2 rfl
    clear hi
    go_wp2
    go_ret
    exact ⟨rfl, rfl⟩

theorem namesFault_any (f : FD) (w : World) (h : f.ok w) : Calls Tryd.prog 50 #[f.val] w fun e w' => e = .returned (.int .i64 (namesBad f.list)) ∧ Only [] w w' := by
  obtain ⟨kind, n, tA, tc, text, lA, lc, list⟩ := f
  have hmax : list.length ≤ 9223372036854775807 := by have := h.lle; have := h.lmax; unfold maxLen at *; dsimp at *; omega
  unfold FD.val
  dsimp only
  by_cases h64 : 64 < list.length
  · have e : namesBad list = 6 := by unfold namesBad; rw [if_pos h64]
    rw [e]
    clear e
    obtain ⟨N, hN⟩ : ∃ N, N = list.length := ⟨_, rfl⟩
    rw [← hN] at h64 hmax ⊢
    clear hN h
    go_enter Tryd.func50, Tryd.ntmps50
    go_wp2
    go_ret
    exact ⟨rfl, (Only.refl _ _).alloc _⟩
  · have K := containsBad_any lA list lc (w.alloc (.cells #[.int .i64 kind, .int .u32 n, .slice tA text.length tc, .slice lA list.length lc] 35)) (h.list.only ((Only.refl _ _).alloc _)) (by unfold maxLen; omega) h.strs
    have e : namesBad list = if list.all nameOk then 0 else 4 := by unfold namesBad; rw [if_neg h64]
    rw [e]
    clear e
    cases hB : list.all nameOk with
    | true =>
      rw [hB] at K
      replace hB := hide hB
      go_enter Tryd.func50, Tryd.ntmps50
      go_wp2_with fail
      go_call K as e w' ⟨rfl, rfl⟩
      clear K
      go_wp2
      go_ret
      exact ⟨rfl, (Only.refl _ _).alloc _⟩
    | false =>
      rw [hB] at K
      replace hB := hide hB
      go_enter Tryd.func50, Tryd.ntmps50
      go_wp2_with fail
      go_call K as e w' ⟨rfl, rfl⟩
      clear K
      go_wp2
      go_ret
      exact ⟨rfl, (Only.refl _ _).alloc _⟩
section
variable (f : FD) (w : World)
theorem octetFault_any : Calls Tryd.prog 39 #[f.val] w fun e w' => e = .returned (.int .i64 (over f.n 255 5)) ∧ Only [] w w' := by
  obtain ⟨kind, n, tA, tc, text, lA, lc, list⟩ := f
  unfold FD.val
  go_enter Tryd.func39, Tryd.ntmps39
  go_wp2_with fail
  go_call (within_any n 255 _) as e w' ⟨rfl, rfl⟩
  go_wp2
  go_ret
  exact ⟨rfl, (Only.refl _ _).alloc _⟩
theorem flagFault_any : Calls Tryd.prog 42 #[f.val] w fun e w' => e = .returned (.int .i64 (over f.n 1 5)) ∧ Only [] w w' := by
  obtain ⟨kind, n, tA, tc, text, lA, lc, list⟩ := f
  unfold FD.val
  go_enter Tryd.func42, Tryd.ntmps42
  go_wp2_with fail
  go_call (within_any n 1 _) as e w' ⟨rfl, rfl⟩
  go_wp2
  go_ret
  exact ⟨rfl, (Only.refl _ _).alloc _⟩
theorem noFault_any : Calls Tryd.prog 44 #[f.val] w fun e w' => e = .returned (.int .i64 0) ∧ Only [] w w' := by
  obtain ⟨kind, n, tA, tc, text, lA, lc, list⟩ := f
  unfold FD.val
  go_enter Tryd.func44, Tryd.ntmps44
  go_wp2
  go_ret
  exact ⟨rfl, (Only.refl _ _).alloc _⟩
theorem textFault_any (h : f.ok w) : Calls Tryd.prog 47 #[f.val] w fun e w' => e = .returned (.int .i64 (over f.text.length 32768 6)) ∧ Only [] w w' := by
  obtain ⟨kind, n, tA, tc, text, lA, lc, list⟩ := f
  have hmax : text.length ≤ 9223372036854775807 := by have := h.tle; have := h.tmax; unfold maxLen at *; dsimp at *; omega
  unfold FD.val
  dsimp only
  obtain ⟨N, hN⟩ : ∃ N, N = text.length := ⟨_, rfl⟩
  rw [← hN] at hmax ⊢
  clear hN h
  go_enter Tryd.func47, Tryd.ntmps47
  go_wp2_with fail
  go_call (room_any N 32768 _) as e w' ⟨rfl, rfl⟩
  go_wp2
  go_ret
  exact ⟨rfl, (Only.refl _ _).alloc _⟩
theorem restFault_any (h : f.ok w) : Calls Tryd.prog 53 #[f.val] w fun e w' => e = .returned (.int .i64 (over f.text.length 33792 6)) ∧ Only [] w w' := by
  obtain ⟨kind, n, tA, tc, text, lA, lc, list⟩ := f
  have hmax : text.length ≤ 9223372036854775807 := by have := h.tle; have := h.tmax; unfold maxLen at *; dsimp at *; omega
  unfold FD.val
  dsimp only
  obtain ⟨N, hN⟩ : ∃ N, N = text.length := ⟨_, rfl⟩
  rw [← hN] at hmax ⊢
  clear hN h
  go_enter Tryd.func53, Tryd.ntmps53
  go_wp2_with fail
  go_call (room_any N 33792 _) as e w' ⟨rfl, rfl⟩
  go_wp2
  go_ret
  exact ⟨rfl, (Only.refl _ _).alloc _⟩
end
end Go.Proofs.YtdmjabfjkkjhbaaDoor
