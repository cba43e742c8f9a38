/- The walks of package ring, continued: Peek, Read, Write; for every ring, no condition. -/
import Derived.Test.YtamnnggijmmogaaRingA
import Derived.Deep.OwnRows
namespace Go.Proofs.Ytamnnggijmmogaa
set_option linter.all false
open Go.RowKit

theorem u8info : (Try.prog.info? 5).map (fun i => (i.zero, i.size, i.bytes)) = some (some (.int .u8 0), 1, 1) := by kernel_rfl
theorem u8size : (Try.prog.info? 5).map (·.size) = some 1 := by kernel_rfl

/-- The cells of k bytes 0. -/
def zer (k : Nat) : Array Value := (u8s (List.replicate k 0)).toArray
theorem made_zer (k : Nat) : madeCells #[.int .u8 0] k = zer k := by
  apply Array.ext
  · simp [madeCells, zer, u8s]
  · intro i h1 h2
    simp [madeCells, zer, u8s, Nat.mod_one]
theorem make_zer (k : Nat) (hk : k ≤ 1048576) (W : World) : (Instr.makeSlice 65 (.int .i64 (k : Int)) (.int .i64 (k : Int))).run Try.prog W = .ok (.slice (some ⟨W.heap.size, 0, none⟩) k k) (W.alloc (.cells (zer k) 5)) := by
  have h := run_make_row' (P := Try.prog) 65 5 (.int .u8 0) 1 Try.underlying65 u8info rfl .i64 .i64 k (by omega) (by omega) W
  rw [made_zer] at h
  exact h
theorem blk_zer (k : Nat) (W : World) : Blk (W.alloc (.cells (zer k) 5)) W.heap.size 5 (u8s (List.replicate k 0)) := Blk.new W 5 _

/-- What the ring holds, in order. -/
def rot (zs : List Int) (first : Nat) : List Int := zs.drop first ++ zs.take first
def cont (zs : List Int) (first n : Nat) : List Int := (rot zs first).take n
theorem length_cont (zs : List Int) (first n : Nat) (hf : first ≤ zs.length) (hn : n ≤ zs.length) : (cont zs first n).length = n := by simp [cont, rot]; omega

theorem getElem?_splice {α : Type} (L : List α) (off : Nat) (cs : List α) (j : Nat) (h : off + cs.length ≤ L.length) :
    (splice L off cs)[j]? = if j < off then L[j]? else if j < off + cs.length then cs[j - off]? else L[j]? := by
  unfold splice
  by_cases h1 : j < off
  · rw [if_pos h1, List.getElem?_append_left (by simp; omega), List.getElem?_take_of_lt h1]
  · rw [if_neg h1, List.getElem?_append_right (by simp; omega)]
    have e1 : (List.take off L).length = off := by simp; omega
    rw [e1]
    by_cases h2 : j < off + cs.length
    · rw [if_pos h2, List.getElem?_append_left (by omega)]
    · rw [if_neg h2, List.getElem?_append_right (by omega), List.getElem?_drop]
      congr 1; omega
theorem getElem?_rot (zs : List Int) (first i : Nat) (hf : first < zs.length) (hi : i < zs.length) : (rot zs first)[i]? = zs[idx zs.length first i]? := by
  unfold rot idx
  split
  · rw [List.getElem?_append_left (by simp; omega), List.getElem?_drop]
  · rw [List.getElem?_append_right (by simp; omega), List.length_drop, List.getElem?_take_of_lt (by omega)]
    congr 1; omega
theorem getElem?_cont (zs : List Int) (first n i : Nat) (hf : first < zs.length) (hn : n ≤ zs.length) : (cont zs first n)[i]? = if i < n then zs[idx zs.length first i]? else none := by
  unfold cont
  split
  · rw [List.getElem?_take_of_lt (by assumption), getElem?_rot zs first i hf (by omega)]
  · rw [List.getElem?_take_eq_none (by omega)]

theorem peek_two (zs : List Int) (first k : Nat) (hf : first < zs.length) (hk : k ≤ zs.length) (a : Nat) (ha : a = min k (zs.length - first)) :
    splice (splice (List.replicate k 0) 0 ((zs.drop first).take a)) a (zs.take (k - a)) = cont zs first k := by
  apply List.ext_getElem?
  intro j
  have l1 : ((zs.drop first).take a).length = a := by simp; omega
  have l2 : (zs.take (k - a)).length = k - a := by simp; omega
  have l3 : (splice (List.replicate k 0) 0 ((zs.drop first).take a)).length = k := by rw [length_splice _ _ _ (by simp; omega)]; simp
  rw [getElem?_splice _ _ _ _ (by omega), getElem?_splice _ _ _ _ (by simp; omega), getElem?_cont _ _ _ _ hf hk, l1, l2]
  unfold idx
  by_cases h1 : j < a
  · rw [if_pos h1, if_neg (by omega), if_pos (by omega), if_pos (by omega), if_pos (by omega), List.getElem?_take_of_lt (by omega), List.getElem?_drop]
    first | rfl | (congr 1; omega)
  · rw [if_neg h1]
    by_cases h2 : j < k
    · rw [if_pos (by omega), if_pos h2, if_neg (by omega), List.getElem?_take_of_lt (by omega)]
      congr 1; omega
    · rw [if_neg (by omega), if_neg (by omega), if_neg (by omega), if_neg h2]
      exact List.getElem?_eq_none (by simp; omega)

/-- The places of a ring of n bytes behind a Write of m bytes off b. -/
def wr (zs : List Int) (first n : Nat) (b : List Int) (m : Nat) : List Int :=
  splice (splice zs (idx zs.length first n) (b.take (min m (zs.length - idx zs.length first n)))) 0 ((b.take m).drop (min m (zs.length - idx zs.length first n)))
theorem length_wr (zs : List Int) (first n : Nat) (b : List Int) (m : Nat) (hf : first < zs.length) (hn : n + m ≤ zs.length) (hm : m ≤ b.length) : (wr zs first n b m).length = zs.length := by
  have := idx_lt zs.length first n hf (by omega)
  unfold wr
  rw [length_splice, length_splice]
  · simp; omega
  · rw [length_splice] <;> simp <;> omega
theorem cont_wr (zs : List Int) (first n : Nat) (b : List Int) (m : Nat) (hf : first < zs.length) (hn : n + m ≤ zs.length) (hm : m ≤ b.length) :
    cont (wr zs first n b m) first (n + m) = cont zs first n ++ b.take m := by
  have hl := length_wr zs first n b m hf hn hm
  have hi := idx_lt zs.length first n hf (by omega)
  apply List.ext_getElem?
  intro j
  rw [getElem?_cont _ _ _ _ (by omega) (by omega), hl]
  have l1 : (cont zs first n).length = n := length_cont _ _ _ (by omega) (by omega)
  have s1 : (List.take (min m (zs.length - idx zs.length first n)) b).length = min m (zs.length - idx zs.length first n) := by simp; omega
  have s2 : (List.drop (min m (zs.length - idx zs.length first n)) (List.take m b)).length = m - min m (zs.length - idx zs.length first n) := by simp; omega
  have s3 : (splice zs (idx zs.length first n) (b.take (min m (zs.length - idx zs.length first n)))).length = zs.length := length_splice _ _ _ (by omega)
  have key : ∀ x y : Nat, idx zs.length first j = x → idx zs.length first n = y → (wr zs first n b m)[x]? = if x < 0 + (m - min m (zs.length - y)) then ((b.take m).drop (min m (zs.length - y)))[x - 0]? else if x < y then zs[x]? else if x < y + min m (zs.length - y) then (b.take (min m (zs.length - y)))[x - y]? else zs[x]? := by
    intro x y hx hy
    unfold wr
    rw [hy] at s1 s2 s3 hi ⊢
    rw [getElem?_splice _ _ _ _ (by omega), getElem?_splice _ _ _ _ (by omega), s1, s2, if_neg (by omega)]
  by_cases h2 : j < n + m
  · rw [if_pos h2]
    by_cases c1 : first + j < zs.length
    · have hx : idx zs.length first j = first + j := by unfold idx; rw [if_pos c1]
      by_cases c2 : first + n < zs.length
      · have hy : idx zs.length first n = first + n := by unfold idx; rw [if_pos c2]
        rw [key _ _ rfl rfl, hx, hy]
        by_cases h1 : j < n
        · rw [List.getElem?_append_left (by omega), getElem?_cont _ _ _ _ hf (by omega), if_pos h1, hx, if_neg (by omega), if_pos (by omega)]
        · rw [List.getElem?_append_right (by omega), l1, List.getElem?_take_of_lt (by omega), if_neg (by omega), if_neg (by omega), if_pos (by omega), List.getElem?_take_of_lt (by omega)]
          congr 1; omega
      · have hy : idx zs.length first n = first + n - zs.length := by unfold idx; rw [if_neg c2]
        rw [key _ _ rfl rfl, hx, hy]
        have h1 : j < n := by omega
        rw [List.getElem?_append_left (by omega), getElem?_cont _ _ _ _ hf (by omega), if_pos h1, hx, if_neg (by omega), if_neg (by omega), if_neg (by omega)]
    · have hx : idx zs.length first j = first + j - zs.length := by unfold idx; rw [if_neg c1]
      by_cases c2 : first + n < zs.length
      · have hy : idx zs.length first n = first + n := by unfold idx; rw [if_pos c2]
        rw [key _ _ rfl rfl, hx, hy]
        have h1 : ¬ j < n := by omega
        rw [List.getElem?_append_right (by omega), l1, List.getElem?_take_of_lt (by omega), if_pos (by omega), List.getElem?_drop, List.getElem?_take_of_lt (by omega)]
        rw [List.getElem?_take_of_lt (show j - n < m by omega)]
        congr 1; omega
      · have hy : idx zs.length first n = first + n - zs.length := by unfold idx; rw [if_neg c2]
        rw [key _ _ rfl rfl, hx, hy]
        by_cases h1 : j < n
        · rw [List.getElem?_append_left (by omega), getElem?_cont _ _ _ _ hf (by omega), if_pos h1, hx, if_neg (by omega), if_pos (by omega)]
        · rw [List.getElem?_append_right (by omega), l1, List.getElem?_take_of_lt (by omega), if_neg (by omega), if_neg (by omega), if_pos (by omega), List.getElem?_take_of_lt (by omega)]
          congr 1; omega
  · rw [if_neg h2]
    exact (List.getElem?_eq_none (by simp [l1]; omega)).symm
end Go.Proofs.Ytamnnggijmmogaa
