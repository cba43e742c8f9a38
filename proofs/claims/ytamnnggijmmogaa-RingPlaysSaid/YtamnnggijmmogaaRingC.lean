/- The walks of package ring, continued: Peek; for every ring, no condition. -/
import Derived.Test.YtamnnggijmmogaaRingB
namespace Go.Proofs.Ytamnnggijmmogaa
set_option linter.all false
open Go.RowKit

/-- A slice of bytes that a call made: what it reads as. -/
def Byt (w : World) (base : Nat) (v : Value) (l : List Int) : Prop := (l = [] ∧ v = .slice none 0 0) ∨ ∃ b, v = .slice (some ⟨b, 0, none⟩) l.length l.length ∧ base ≤ b ∧ Blk w b 5 (u8s l)
def PeekPost (w : World) (l : List Int) (e : Ending) (w' : World) : Prop := ∃ v, e = .returned v ∧ Byt w' w.heap.size v l ∧ Only [] w w'

theorem u8s_src {w : World} {b off : Nat} {zs : List Int} (h : Blk w b 5 (u8s zs)) (n : Nat) : ∀ (j : Nat) (v : Value), (u8s ((zs.drop off).take n))[j]? = some v → w.cell? (Addr.add ⟨b, off, none⟩ j) = some v := by
  intro j v hj
  rw [getElem?_u8s] at hj
  have e : (Addr.add ⟨b, off, none⟩ j : Addr) = ⟨b, off + j, none⟩ := by simp [Addr.add]
  rw [e, h.cell, getElem?_u8s]
  rw [List.getElem?_take] at hj
  split at hj
  · rw [List.getElem?_drop] at hj; exact hj
  · simp at hj

section
variable (g bb size : Nat) (zs : List Int) (first n : Nat) (w : World)
set_option maxRecDepth 100000 in
set_option maxHeartbeats 1600000 in
theorem peek_any (m : Int) (h : RingS w g bb size zs first n) : Calls Try.prog 44 #[.pointer (some ⟨g, 0, none⟩), .int .i64 m] w (PeekPost w (cont zs first (some_ n m))) := by
  have hk := some_le n m
  obtain ⟨k, hk'⟩ : ∃ k, some_ n m = k := ⟨_, rfl⟩
  have hs := some_any g bb size zs first n w m h
  rw [hk'] at hs hk ⊢
  clear hk'
  have hb := h.big
  have hc := h.cnt
  have hf := h.fst
  have hp := h.pos
  have hl := h.len
  by_cases h0 : 0 < k
  · have h1 : ((k : Int) == 0) = false := beq_eq_false_iff_ne.2 (by omega)
    have hmk := make_zer k (by omega)
    have HL := hide hl
    clear hl
    have c0 := (h.ring.alloc (.cells (zer k) 5)).cell 0
    have c1 := (h.ring.alloc (.cells (zer k) 5)).cell 1
    go_enter Try.func44, Try.ntmps44
    go_wp2_with fail
    go_call hs as e w' ⟨rfl, rfl⟩
    clear hs
    go_wp2_with fail
    obtain ⟨w1, hw1⟩ : ∃ w1, w1 = w.alloc (.cells (zer k) 5) := ⟨_, rfl⟩
    have hk1 := blk_zer k w
    have O1 : Only [] w w1 := by rw [hw1]; exact (Only.refl _ _).alloc _
    rw [← hw1] at hk1 c0 c1 ⊢
    clear hw1 hmk
    have c0' : ({ w1 with drawn := w1.drawn + 1 } : World).cell? ⟨g, 0, none⟩ = some (.slice (some ⟨bb, 0, none⟩) size size) := c0
    have c1' : ({ w1 with drawn := w1.drawn + 1 } : World).cell? ⟨g, 1, none⟩ = some (.int .i64 first) := c1
    have g1 : first ≤ size := by omega
    have g2 : ¬ size = first := by omega
    go_still_tail 10, (by kernel_rfl)

    obtain ⟨a, ha⟩ : ∃ a, a = min k (size - first) := ⟨_, rfl⟩
    have hz := HL.out
    have l1 : (u8s ((zs.drop first).take a)).length = a := by simp [u8s]; omega
    have r1 : Blk w1 bb 5 (u8s zs) := h.row.only O1 (by simp)
    have q1 : Blk w1 g 96 _ := h.ring.only O1 (by simp)
    have n1 : bb ≠ w.heap.size := by have := h.row.lt; omega
    have n2 : g ≠ w.heap.size := by have := h.ring.lt; omega
    refine wpList_copy_blk rfl (.tmp 14) (.tmp 23) _ _ rfl 5 Try.underlying65 u8size _ _ _ _ _ _ rfl rfl w.heap.size 0 (u8s (List.replicate k 0)) 5 hk1 (u8s ((zs.drop first).take a))
      (by rw [l1]; show a = min (size - first) k; omega) (fun _ => ⟨rfl, _, rfl, u8s_src r1 a⟩) (by rw [l1, length_u8s]; simp; omega) (u8s_one _) ?_
    intro w2 H2 O2 S2
    rw [l1]
    have r2 : Blk w2 bb 5 (u8s zs) := Blk.only (w := w1) r1 ⟨O2.os, O2.tape, O2.output, O2.size, O2.block⟩ (by simpa using n1)
    have q2 : Blk w2 g 96 _ := Blk.only (w := w1) q1 ⟨O2.os, O2.tape, O2.output, O2.size, O2.block⟩ (by simpa using n2)
    have P2 : Only [] w w2 := O1.trans (w1 := w1) (L' := [w.heap.size]) ⟨O2.os, O2.tape, O2.output, O2.size, O2.block⟩ (by simp)
    clear O2 r1 q1 hk1 c0 c1 c0' c1'
    have hz := hide hz
    have ha' := hide ha
    have a1 : a ≤ k := by omega
    have a2 : a ≤ size - first := by omega
    have l1 := hide l1
    have S2 := hide S2
    clear ha
    have c0 := q2.cell 0
    have c0' : ({ w2 with drawn := w2.drawn + 1 } : World).cell? ⟨g, 0, none⟩ = some (.slice (some ⟨bb, 0, none⟩) size size) := c0
    go_wp2_with fail
    go_still_tail 7, (by kernel_rfl)
    generalize hD : (if k = a then some (⟨w.heap.size, 0, none⟩ : Addr) else some ⟨w.heap.size, a, none⟩) = D
    have HD := hide hD
    clear hD
    have hz := hz.out
    have B2 := H2.out
    rw [splice_u8s] at B2
    have ha := ha'.out
    have l2 : (u8s ((zs.drop 0).take (k - a))).length = k - a := by simp [u8s]; omega
    have l3 : (splice (List.replicate k 0) 0 ((zs.drop first).take a)).length = k := by rw [length_splice _ _ _ (by simp; omega)]; simp
    refine wpList_copy_blk rfl (.tmp 27) (.tmp 31) _ _ rfl 5 Try.underlying65 u8size _ _ _ _ _ _ rfl rfl w.heap.size a (u8s (splice (List.replicate k 0) 0 ((zs.drop first).take a))) 5 B2 (u8s ((zs.drop 0).take (k - a)))
      (by rw [l2]; show k - a = min size (k - a); omega) (fun hp => ⟨by rw [← HD.out]; exact if_neg (by omega), _, rfl, u8s_src (off := 0) r2 (k - a)⟩) (by rw [l2, length_u8s, l3]; omega) (u8s_one _) ?_
    intro w3 H3 O3 S3
    rw [l2]
    have P3 : Only [] w w3 := P2.trans (w1 := w2) (L' := [w.heap.size]) ⟨O3.os, O3.tape, O3.output, O3.size, O3.block⟩ (by simp)
    have B3 : Blk w3 w.heap.size 5 (u8s (cont zs first k)) := by
      have := H3.out
      rw [splice_u8s, List.drop_zero, peek_two zs first k (by omega) (by omega) a (by omega)] at this
      exact this
    have lc := length_cont zs first k (by omega) (by omega)
    have B3 := hide B3
    clear O3 H3 l2 l3 B2 H2 r2 q2 c0 c0' hz ha
    go_wp2_with fail
    go_ret
    exact ⟨_, rfl, .inr ⟨w.heap.size, by rw [lc]; rfl, Nat.le_refl _, B3.out⟩, P3⟩
  · obtain rfl : k = 0 := by omega
    go_enter Try.func44, Try.ntmps44
    go_wp2_with fail
    go_call hs as e w' ⟨rfl, rfl⟩
    clear hs
    go_wp2_with fail
    go_ret
    exact ⟨_, rfl, .inl ⟨rfl, rfl⟩, Only.refl _ _⟩
end
end Go.Proofs.Ytamnnggijmmogaa
