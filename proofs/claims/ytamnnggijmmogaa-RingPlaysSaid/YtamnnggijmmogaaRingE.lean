/- The walks of package ring, continued: Write; for every ring, no condition. -/
import Derived.Test.YtamnnggijmmogaaRingD
namespace Go.Proofs.Ytamnnggijmmogaa
set_option linter.all false
open Go.RowKit

theorem src_cells {w w' : World} {b off : Nat} {l : List Int} (k m : Nat) (hc : ∀ i v, l[i]? = some v → w.cell? ⟨b, off + i, none⟩ = some (.int .u8 v)) (hw : w'.heap[b]? = w.heap[b]?) :
    ∀ (j : Nat) (v : Value), (u8s ((l.take m).drop k))[j]? = some v → w'.cell? (Addr.add ⟨b, off + k, none⟩ j) = some v := by
  intro j v hj
  rw [getElem?_u8s, List.getElem?_drop, List.getElem?_take] at hj
  have e : (Addr.add ⟨b, off + k, none⟩ j : Addr) = ⟨b, off + (k + j), none⟩ := by simp [Addr.add, Nat.add_assoc]
  rw [e, World.cell?_of_block (w := w) hw]
  split at hj
  · simp at hj
    obtain ⟨a, ha, rfl⟩ := hj
    exact hc _ _ ha
  · simp at hj

/-- How many bytes fit. -/
def fitN (size n : Nat) (b : Nat) : Nat := min b (size - n)
def WritePost (w : World) (g bb size : Nat) (zs : List Int) (first n : Nat) (l : List Int) (e : Ending) (w' : World) : Prop :=
  e = .returned (.int .i64 (fitN size n l.length)) ∧ RingS w' g bb size (wr zs first n l (fitN size n l.length)) first (n + fitN size n l.length) ∧ Only [g, bb] w w' ∧ (∀ x, x < w.heap.size → x ≠ g → x ≠ bb → w'.heap[x]? = w.heap[x]?)

theorem wr_zero (zs : List Int) (first n : Nat) (l : List Int) (hl : idx zs.length first n ≤ zs.length) : wr zs first n l 0 = zs := by
  unfold wr; simp [splice]

set_option maxRecDepth 100000 in
set_option maxHeartbeats 1600000 in
theorem write_any (g bb size : Nat) (zs : List Int) (first n : Nat) (w : World) (A : Option Addr) (l : List Int) (cap : Nat) (h : RingS w g bb size zs first n) (hS : Src w [g, bb] A l) (hcap : l.length ≤ cap) (hlen : l.length ≤ maxLen) :
    Calls Try.prog 34 #[.pointer (some ⟨g, 0, none⟩), .slice A l.length cap] w (WritePost w g bb size zs first n l) := by
  unfold maxLen at hlen
  have hb := h.big
  have hc := h.cnt
  have hf := h.fst
  have hp := h.pos
  have hl := h.len
  obtain ⟨B, hB⟩ : ∃ B, B = l.length := ⟨_, rfl⟩
  obtain ⟨m, hm⟩ : ∃ m, m = fitN size n l.length := ⟨_, rfl⟩
  have hm' : (if (size : Int) - n < B then (size : Int) - n else (B : Int)) = m := by
    rw [hm, hB]; unfold fitN; split <;> omega
  have hmv : Value.int .i64 (if (size : Int) - n < B then (size : Int) - n else (B : Int)) = .int .i64 m := by rw [hm']
  clear hm'
  have hmB : m ≤ B := by rw [hm, hB]; unfold fitN; omega
  have hms : n + m ≤ size := by rw [hm]; unfold fitN; omega
  unfold WritePost
  rw [← hm]
  rw [← hB] at hlen hcap ⊢
  have HB := hide hB
  clear hm hB
  by_cases h0 : m = 0
  · subst h0
    have hw : wr zs first n l 0 = zs := wr_zero zs first n l (by have := idx_lt size first n hf (by omega); rw [hl]; omega)
    rw [hw]; clear hw
    have H := hide h
    have HL := hide hl
    clear hl
    go_enter Try.func34, Try.ntmps34
    go_wp2_with fail
    go_call (room_any g bb size zs first n w h) as e w' ⟨rfl, rfl⟩
    go_wp2_with fail
    go_ret
    exact ⟨rfl, h, Only.refl _ _, fun _ _ _ _ => rfl⟩
  · obtain ⟨sb, off, rfl, hsb, hno, hcell⟩ := hS (by rw [← HB.out]; omega)
    simp only [List.mem_cons, List.not_mem_nil, or_false, not_or] at hno
    have hq : ((m : Int) == 0) = false := beq_eq_false_iff_ne.2 (by omega)
    have hi := idx_lt size first n hf (by omega)
    obtain ⟨at_, hat⟩ : ∃ a, idx size first n = a := ⟨_, rfl⟩
    have hplace := place_any g bb size zs first n w n h hc
    rw [hat] at hi hplace
    have HA := hide hat
    have HL := hide hl
    have hgb := h.ne
    clear hat hl hS
    have c2 := h.ring.cell 2
    go_enter Try.func34, Try.ntmps34
    go_wp2_with fail
    go_call (room_any g bb size zs first n w h) as e w' ⟨rfl, rfl⟩
    go_wp2_with fail
    go_call hplace as e w1 ⟨rfl, O1⟩
    have h1 := h.only O1 (by simp) (by simp)
    clear hplace c2
    have c0 := h1.ring.cell 0
    have c0' : ({ w1 with drawn := w1.drawn + 1 } : World).cell? ⟨g, 0, none⟩ = some (.slice (some ⟨bb, 0, none⟩) size size) := c0
    have g1 : at_ ≤ size := by omega
    have g2 : ¬ size = at_ := by omega
    have g3 : m ≤ cap := by omega
    go_wp2_with fail
    go_still_tail 9, (by kernel_rfl)
    obtain ⟨a, ha⟩ : ∃ a, a = min m (size - at_) := ⟨_, rfl⟩
    have hz := HL.out
    have hBl := HB.out
    have e1 : (u8s ((l.take a).drop 0)).length = a := by simp [u8s]; omega
    have k1 : sb ≠ bb := hno.2
    have r1 : Blk w1 bb 5 (u8s zs) := h1.row
    have q1 := h1.ring
    have s1 : w1.heap[sb]? = w.heap[sb]? := O1.block sb hsb (by simp)
    refine wpList_copy_blk rfl (.tmp 26) (.tmp 29) _ _ rfl 5 Try.underlying65 u8size _ _ _ _ _ _ rfl rfl bb at_ (u8s zs) 5 r1 (u8s ((l.take a).drop 0))
      (by rw [e1]; show a = min m (size - at_); omega) (fun _ => ⟨rfl, _, rfl, src_cells 0 a hcell s1⟩) (by rw [e1, length_u8s]; omega) (u8s_one _) ?_
    intro w2 H2 O2 S2
    rw [e1]
    have q2 : Blk w2 g 96 _ := Blk.only (w := w1) q1 ⟨O2.os, O2.tape, O2.output, O2.size, O2.block⟩ (by simpa using hgb)
    have s2 : w2.heap[sb]? = w.heap[sb]? := (O2.block sb (Nat.lt_of_lt_of_le hsb O1.size) (by simpa using k1)).trans s1
    have P2 : Only [g, bb] w w2 := (O1.mono (by simp)).trans (w1 := w1) (L' := [bb]) ⟨O2.os, O2.tape, O2.output, O2.size, O2.block⟩ (by simp)
    have hz := hide hz
    have hBl := hide hBl
    have ha' := hide ha
    have a1 : a ≤ m := by omega
    have a2 : m ≤ B := hmB
    have e1 := hide e1
    have S2 := hide S2
    have s2 := hide s2
    clear ha O2 r1 q1 s1 c0 c0' h1
    have c0 := q2.cell 0
    have c0' : ({ w2 with drawn := w2.drawn + 1 } : World).cell? ⟨g, 0, none⟩ = some (.slice (some ⟨bb, 0, none⟩) size size) := c0
    go_wp2_with fail
    go_still_tail 8, (by kernel_rfl)
    generalize hD : (if cap = a then some (⟨sb, off, none⟩ : Addr) else some ⟨sb, off + a, none⟩) = D
    have HD := hide hD
    clear hD
    have hz := hz.out
    have hBl := hBl.out
    have ha := ha'.out
    have hs2 := s2.out
    have B2 := H2.out
    rw [splice_u8s] at B2
    have e2 : (u8s ((l.take m).drop a)).length = m - a := by simp [u8s]; omega
    have e3 : (splice zs at_ ((l.take a).drop 0)).length = size := by rw [length_splice _ _ _ (by simp; omega), hz]
    refine wpList_copy_blk rfl (.tmp 34) (.tmp 38) _ _ rfl 5 Try.underlying65 u8size _ _ _ _ _ _ rfl rfl bb 0 (u8s (splice zs at_ ((l.take a).drop 0))) 5 B2 (u8s ((l.take m).drop a))
      (by rw [e2]; show m - a = min (m - a) size; omega) (fun hp => ⟨rfl, _, by rw [← HD.out]; exact if_neg (by omega), src_cells a m hcell hs2⟩) (by rw [e2, length_u8s, e3]; omega) (u8s_one _) ?_
    intro w3 H3 O3 S3
    rw [e2]
    have q3 : Blk w3 g 96 _ := Blk.only (w := w2) q2 ⟨O3.os, O3.tape, O3.output, O3.size, O3.block⟩ (by simpa using hgb)
    have P3 : Only [g, bb] w w3 := P2.trans (w1 := w2) (L' := [bb]) ⟨O3.os, O3.tape, O3.output, O3.size, O3.block⟩ (by simp)
    have hat := HA.out
    have B3 : Blk w3 bb 5 (u8s (wr zs first n l m)) := by
      have := H3.out
      rw [splice_u8s] at this
      unfold wr
      rw [hz, hat, ← ha]
      simpa using this
    have lw : (wr zs first n l m).length = size := by rw [length_wr] <;> omega
    have B3 := hide B3
    have lw := hide lw
    clear O3 H3 e2 e3 B2 H2 q2 c0 c0' hz ha hBl hat hs2 s2
    have c2 := q3.cell 2
    have f2 := q3.frozen 2
    go_wp2_with fail
    go_ret
    refine ⟨rfl, ⟨?_, B3.out.far (p := ⟨g, 2, none⟩) (Ne.symm hgb) _, lw.out, hp, hb, hf, hms⟩, P3.setCell (p := ⟨g, 2, none⟩) (.inl (by simp)) _, ?_⟩
    · have := q3.set_ 2 (.int .i64 ((n + m : Nat) : Int))
      simpa using this
    · intro x hx h1 h2
      rw [Below.heap_setCell _ _ _ _ h1]
      exact P3.block x hx (by simp [h1, h2])
end Go.Proofs.Ytamnnggijmmogaa
