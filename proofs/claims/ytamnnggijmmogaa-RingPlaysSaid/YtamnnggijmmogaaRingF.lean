/- Package ring by what a ring holds: each method on a ring that holds c; for every ring, no condition. -/
import Derived.Test.YtamnnggijmmogaaRingE
namespace Go.Proofs.Ytamnnggijmmogaa
set_option linter.all false
open Go.RowKit

theorem cont_drop (zs : List Int) (first n k : Nat) (hf : first < zs.length) (hn : n ≤ zs.length) (hk : k ≤ n) : cont zs (dropF zs.length first k) (n - k) = (cont zs first n).drop k := by
  have hd : dropF zs.length first k < zs.length := by unfold dropF; split; exact idx_lt _ _ _ hf (by omega); exact hf
  apply List.ext_getElem?
  intro j
  rw [getElem?_cont _ _ _ _ hd (by omega), List.getElem?_drop, getElem?_cont _ _ _ _ hf hn]
  by_cases h : j < n - k
  · rw [if_pos h, if_pos (by omega)]
    congr 1
    unfold dropF idx
    repeat' split
    all_goals omega
  · rw [if_neg h, if_neg (by omega)]

/-- A ring of so many places, in blocks g and bb, holds c. -/
def RingC (w : World) (g bb size : Nat) (c : List Int) : Prop := ∃ zs first, RingS w g bb size zs first c.length ∧ cont zs first c.length = c
section
variable {w w' : World} {g bb size : Nat} {c : List Int}
theorem RingC.only {L : List Nat} (h : RingC w g bb size c) (hb : Only L w w') (h1 : g ∉ L) (h2 : bb ∉ L) : RingC w' g bb size c := by
  obtain ⟨zs, first, h, hc⟩ := h
  exact ⟨zs, first, h.only hb h1 h2, hc⟩
theorem RingC.le (h : RingC w g bb size c) : c.length ≤ size := by obtain ⟨zs, first, h, hc⟩ := h; exact h.cnt
theorem RingC.big (h : RingC w g bb size c) : size ≤ 65536 := by obtain ⟨zs, first, h, hc⟩ := h; exact h.big
theorem RingC.ltg (h : RingC w g bb size c) : g < w.heap.size := by obtain ⟨zs, first, h, hc⟩ := h; exact h.ring.lt
theorem RingC.ltb (h : RingC w g bb size c) : bb < w.heap.size := by obtain ⟨zs, first, h, hc⟩ := h; exact h.row.lt
theorem cont_take (zs : List Int) (first n k : Nat) (hk : k ≤ n) : cont zs first k = (cont zs first n).take k := by simp [cont, List.take_take, Nat.min_eq_left hk]

theorem len_c (h : RingC w g bb size c) : Calls Try.prog 37 #[.pointer (some ⟨g, 0, none⟩)] w fun e w' => e = .returned (.int .i64 c.length) ∧ w = w' := by
  obtain ⟨zs, first, h, hc⟩ := h; exact len_any g bb size zs first _ w h
theorem cap_c (h : RingC w g bb size c) : Calls Try.prog 42 #[.pointer (some ⟨g, 0, none⟩)] w fun e w' => e = .returned (.int .i64 size) ∧ w = w' := by
  obtain ⟨zs, first, h, hc⟩ := h; exact cap_any g bb size zs first _ w h
theorem room_c (h : RingC w g bb size c) : Calls Try.prog 43 #[.pointer (some ⟨g, 0, none⟩)] w fun e w' => e = .returned (.int .i64 (size - c.length : Int)) ∧ w = w' := by
  obtain ⟨zs, first, h, hc⟩ := h; exact room_any g bb size zs first _ w h
theorem peek_c (m : Int) (h : RingC w g bb size c) : Calls Try.prog 44 #[.pointer (some ⟨g, 0, none⟩), .int .i64 m] w (PeekPost w (c.take (some_ c.length m))) := by
  obtain ⟨zs, first, h, hc⟩ := h
  have := peek_any g bb size zs first _ w m h
  rw [cont_take zs first c.length _ (some_le _ _), hc] at this
  exact this
theorem ring_dropped {zs : List Int} {first : Nat} (k : Nat) (hk : k ≤ c.length) (hc : cont zs first c.length = c) (hf : first < zs.length) (hn : c.length ≤ zs.length)
    (hl : zs.length = size) (h : RingS w g bb size zs (dropF size first k) (c.length - k)) : RingC w g bb size (c.drop k) := by
  refine ⟨zs, dropF size first k, by simpa using h, ?_⟩
  have := cont_drop zs first c.length k hf hn hk
  rw [hl, hc] at this
  simpa using this
def DropPost (w : World) (g bb size : Nat) (c : List Int) (k : Nat) (e : Ending) (w' : World) : Prop := e = .returned (.int .i64 k) ∧ RingC w' g bb size (c.drop k) ∧ Only [g] w w'
theorem drop_c (m : Int) (h : RingC w g bb size c) : Calls Try.prog 51 #[.pointer (some ⟨g, 0, none⟩), .int .i64 m] w (DropPost w g bb size c (some_ c.length m)) := by
  obtain ⟨zs, first, h, hc⟩ := h
  refine (drop_any g bb size zs first _ w m h).mono fun e w' ⟨he, hr, ho⟩ => ⟨he, ring_dropped _ (some_le _ _) hc (by rw [h.len]; exact h.fst) (by rw [h.len]; exact h.cnt) h.len hr, ho⟩
def ReadPost (w : World) (g bb size : Nat) (c : List Int) (k : Nat) (e : Ending) (w' : World) : Prop := ∃ v, e = .returned v ∧ Byt w' w.heap.size v (c.take k) ∧ RingC w' g bb size (c.drop k) ∧ Only [g] w w'
theorem read_c (m : Int) (h : RingC w g bb size c) : Calls Try.prog 35 #[.pointer (some ⟨g, 0, none⟩), .int .i64 m] w (ReadPost w g bb size c (some_ c.length m)) := by
  obtain ⟨zs, first, h, hc⟩ := h
  refine (read_any g bb size zs first _ w m h).mono fun e w' ⟨v, he, hv, hr, ho⟩ => ⟨v, he, ?_, ring_dropped _ (some_le _ _) hc (by rw [h.len]; exact h.fst) (by rw [h.len]; exact h.cnt) h.len hr, ho⟩
  rw [cont_take zs first c.length _ (some_le _ _), hc] at hv
  exact hv
theorem clear_c (h : RingC w g bb size c) : Calls Try.prog 52 #[.pointer (some ⟨g, 0, none⟩)] w fun e w' => e = .returned (.tuple #[]) ∧ RingC w' g bb size [] ∧ Only [g] w w' := by
  obtain ⟨zs, first, h, hc⟩ := h
  exact (clear_any g bb size zs first _ w h).mono fun e w' ⟨he, hr, ho⟩ => ⟨he, ⟨zs, _, hr, by simp [cont]⟩, ho⟩
def WrotePost (w : World) (g bb size : Nat) (c l : List Int) (e : Ending) (w' : World) : Prop := e = .returned (.int .i64 (fitN size c.length l.length)) ∧ RingC w' g bb size (c ++ l.take (fitN size c.length l.length)) ∧ Only [g, bb] w w'
theorem write_c (A : Option Addr) (l : List Int) (cap : Nat) (h : RingC w g bb size c) (hS : Src w [g, bb] A l) (hcap : l.length ≤ cap) (hlen : l.length ≤ maxLen) :
    Calls Try.prog 34 #[.pointer (some ⟨g, 0, none⟩), .slice A l.length cap] w (WrotePost w g bb size c l) := by
  obtain ⟨zs, first, h, hc⟩ := h
  have e1 : fitN size c.length l.length ≤ l.length := by unfold fitN; omega
  have e2 : c.length + fitN size c.length l.length ≤ size := by have := h.cnt; unfold fitN; omega
  refine (write_any g bb size zs first _ w A l cap h hS hcap hlen).mono fun e w' ⟨he, hr, ho, _⟩ => ⟨he, ⟨_, first, by simpa [Nat.min_eq_left e1] using hr, ?_⟩, ho⟩
  have := cont_wr zs first c.length l (fitN size c.length l.length) (by rw [h.len]; exact h.fst) (by rw [h.len]; exact e2) e1
  rw [hc] at this
  simpa [Nat.min_eq_left e1] using this
end

theorem new_ok (size : Nat) (w : World) (h1 : 1 ≤ size) (h2 : size ≤ 65536) : Calls Try.prog 33 #[.int .i64 size] w fun e w' =>
    e = .returned (.tuple #[.pointer (some ⟨w.heap.size + 1, 0, none⟩), .int .i64 0]) ∧ RingC w' (w.heap.size + 1) w.heap.size size [] ∧ Only [] w w' := by
  refine (new_any size w).mono fun e w' h => ?_
  rcases h with ⟨h, _⟩ | ⟨_, he, hr, ho⟩
  · omega
  · exact ⟨he, ⟨_, 0, by simpa using hr, by simp [cont]⟩, ho⟩
theorem new_bad (size : Int) (w : World) (h : size < 1 ∨ 65536 < size) : Calls Try.prog 33 #[.int .i64 size] w fun e w' => e = .returned (.tuple #[.pointer none, .int .i64 2]) ∧ w = w' := by
  refine (new_any size w).mono fun e w' h' => ?_
  rcases h' with ⟨_, he, hw⟩ | ⟨h', _⟩
  · exact ⟨he, hw.symm⟩
  · omega
/-! No ring. -/
theorem len_nil (w : World) : Calls Try.prog 37 #[.pointer none] w fun e w' => e = .returned (.int .i64 0) ∧ w = w' := by
  go_enter Try.func37, Try.ntmps37
  go_wp2
  go_ret
  exact ⟨rfl, rfl⟩
theorem write_nil (w : World) (A : Option Addr) (n cap : Nat) (hn : n ≤ maxLen) : Calls Try.prog 34 #[.pointer none, .slice A n cap] w fun e w' => e = .returned (.int .i64 0) ∧ w = w' := by
  unfold maxLen at hn
  have hv : Value.int .i64 (if (0 : Int) < n then 0 else (n : Int)) = .int .i64 0 := by congr 1; split <;> omega
  go_enter Try.func34, Try.ntmps34
  go_wp2
  all_goals (go_ret; exact ⟨rfl, rfl⟩)
end Go.Proofs.Ytamnnggijmmogaa
