/- The walks of layer 5's laws' own helpers: a step of a ring; for every ring and step, no condition. -/
import Derived.Test.YtamnnggijmmogaaRingH
namespace Go.Proofs.Ytamnnggijmmogaa
set_option linter.all false
open Go.RowKit

/-- What a step answers, and what the ring holds behind it. -/
def rdoB (c : List Int) (kind n : Int) : List Int := if kind = 2 ∨ kind = 3 then c.take (some_ c.length n) else []
def rdoN (size : Nat) (c : List Int) (kind n : Int) (b : List Int) : Nat := if kind = 1 then fitN size c.length b.length else if kind = 4 then some_ c.length n else 0
def rdoC (size : Nat) (c : List Int) (kind n : Int) (b : List Int) : List Int :=
  if kind = 1 then c ++ b.take (fitN size c.length b.length) else if kind = 2 ∨ kind = 4 then c.drop (some_ c.length n) else if kind = 5 then [] else c
def DoPost (w : World) (g bb size : Nat) (c : List Int) (kind n : Int) (b : List Int) (e : Ending) (w' : World) : Prop :=
  ∃ v, e = .returned (.tuple #[v, .int .i64 (rdoN size c kind n b)]) ∧ OwnB w' w.heap.size v (rdoB c kind n) ∧ RingC w' g bb size (rdoC size c kind n b) ∧ Only [g, bb] w w'

set_option maxHeartbeats 1600000 in
theorem do_any (g bb size : Nat) (c : List Int) (kind n : Int) (A : Option Addr) (b : List Int) (cap : Nat) (w : World) (h : RingC w g bb size c) (hS : Src w [g, bb] A b) (hcap : b.length ≤ cap) (hlen : b.length ≤ maxLen) :
    Calls Try.prog 40 #[.pointer (some ⟨g, 0, none⟩), .agg #[.int .i64 kind, .int .i64 n, .slice A b.length cap]] w (DoPost w g bb size c kind n b) := by
  have hg := h.ltg
  have hbb := h.ltb
  have hl := h.le
  have hbig := h.big
  obtain ⟨w1, hw1⟩ : ∃ w1, w1 = w.alloc (.cells #[.int .i64 kind, .int .i64 n, .slice A b.length cap] 82) := ⟨_, rfl⟩
  have P1 : Only [] w w1 := by rw [hw1]; exact (Only.refl _ _).alloc _
  have h1 : RingC w1 g bb size c := h.only P1 (by simp) (by simp)
  have hs1 : w.heap.size ≤ w1.heap.size := P1.size
  have S1 : Src w1 [g, bb] A b := fun h0 => by
    obtain ⟨sb, off, rfl, hlt, hno, hc⟩ := hS h0
    exact ⟨sb, off, rfl, by omega, hno, fun i v hi => (World.cell?_of_block (w := w) (P1.block sb hlt (by simp))).trans (hc i v hi)⟩
  have kb : ∀ k, some_ c.length k ≤ maxLen := fun k => by have := some_le c.length k; unfold maxLen; omega
  by_cases k1 : kind = 1
  · subst k1
    have X := write_c A b cap h1 S1 hcap hlen
    rw [hw1] at X
    have e1 : rdoB c 1 n = [] := rfl
    have e2 : rdoN size c 1 n b = fitN size c.length b.length := rfl
    have e3 : rdoC size c 1 n b = c ++ b.take (fitN size c.length b.length) := rfl
    unfold DoPost
    rw [e1, e2, e3]
    clear e1 e2 e3 h1 S1 hS h kb
    have P1 := hide P1
    have hw1 := hide hw1
    go_enter Try.func40, Try.ntmps40
    go_wp2_with fail
    go_call X as e w2 ⟨rfl, R2, P2⟩
    clear X
    go_wp2_with fail
    go_ret2
    exact ⟨_, rfl, ownB_nil _ _, R2, ((P1.out.mono (by simp)).trans (w1 := w1) (by rw [hw1.out]; exact P2) (by simp))⟩
  by_cases k2 : kind = 2
  · subst k2
    have X := read_c n h1
    rw [hw1] at X
    have e1 : rdoB c 2 n = c.take (some_ c.length n) := rfl
    have e2 : rdoN size c 2 n b = 0 := rfl
    have e3 : rdoC size c 2 n b = c.drop (some_ c.length n) := rfl
    unfold DoPost
    rw [e1, e2, e3]
    have kb := hide (kb n)
    clear e1 e2 e3 h1 S1 hS h k1
    have P1 := hide P1
    have hw1 := hide hw1
    go_enter Try.func40, Try.ntmps40
    go_wp2_with fail
    go_call X as e w2 ⟨v, rfl, V2, R2, P2⟩
    clear X
    go_wp2_with fail
    go_ret2
    have kb := kb.out
    exact ⟨_, rfl, (V2.own (by simp; omega)).mono (by simp), R2, ((P1.out.mono (by simp)).trans (w1 := w1) (by rw [hw1.out]; exact P2.mono (L' := [g, bb]) (by simp)) (by simp))⟩
  by_cases k3 : kind = 3
  · subst k3
    have X := peek_c n h1
    rw [hw1] at X
    have e1 : rdoB c 3 n = c.take (some_ c.length n) := rfl
    have e2 : rdoN size c 3 n b = 0 := rfl
    have e3 : rdoC size c 3 n b = c := rfl
    unfold DoPost
    rw [e1, e2, e3]
    have kb := hide (kb n)
    clear e1 e2 e3 S1 hS h k1 k2
    have P1 := hide P1
    rw [hw1] at h1
    have hw1 := hide hw1
    go_enter Try.func40, Try.ntmps40
    go_wp2_with fail
    go_call X as e w2 ⟨v, rfl, V2, P2⟩
    clear X
    go_wp2_with fail
    go_ret2
    have kb := kb.out
    exact ⟨_, rfl, (V2.own (by simp; omega)).mono (by simp), h1.only P2 (by simp) (by simp), ((P1.out.mono (by simp)).trans (w1 := w1) (by rw [hw1.out]; exact P2.mono (L' := [g, bb]) (by simp)) (by simp))⟩
  by_cases k4 : kind = 4
  · subst k4
    have X := drop_c n h1
    rw [hw1] at X
    have e1 : rdoB c 4 n = [] := rfl
    have e2 : rdoN size c 4 n b = some_ c.length n := rfl
    have e3 : rdoC size c 4 n b = c.drop (some_ c.length n) := rfl
    unfold DoPost
    rw [e1, e2, e3]
    clear e1 e2 e3 h1 S1 hS h kb k1 k2 k3
    have P1 := hide P1
    have hw1 := hide hw1
    go_enter Try.func40, Try.ntmps40
    go_wp2_with fail
    go_call X as e w2 ⟨rfl, R2, P2⟩
    clear X
    go_wp2_with fail
    go_ret2
    exact ⟨_, rfl, ownB_nil _ _, R2, ((P1.out.mono (by simp)).trans (w1 := w1) (by rw [hw1.out]; exact P2.mono (L' := [g, bb]) (by simp)) (by simp))⟩
  by_cases k5 : kind = 5
  · subst k5
    have X := clear_c h1
    rw [hw1] at X
    have e1 : rdoB c 5 n = [] := rfl
    have e2 : rdoN size c 5 n b = 0 := rfl
    have e3 : rdoC size c 5 n b = [] := rfl
    unfold DoPost
    rw [e1, e2, e3]
    clear e1 e2 e3 h1 S1 hS h kb k1 k2 k3 k4
    have P1 := hide P1
    have hw1 := hide hw1
    go_enter Try.func40, Try.ntmps40
    go_wp2_with fail
    go_call X as e w2 ⟨rfl, R2, P2⟩
    clear X
    go_wp2_with fail
    go_ret2
    exact ⟨_, rfl, ownB_nil _ _, R2, ((P1.out.mono (by simp)).trans (w1 := w1) (by rw [hw1.out]; exact P2.mono (L' := [g, bb]) (by simp)) (by simp))⟩
  · have e1 : rdoB c kind n = [] := by unfold rdoB; rw [if_neg (by omega)]
    have e2 : rdoN size c kind n b = 0 := by unfold rdoN; rw [if_neg k1, if_neg k4]
    have e3 : rdoC size c kind n b = c := by unfold rdoC; rw [if_neg k1, if_neg (by omega), if_neg k5]
    unfold DoPost
    rw [e1, e2, e3]
    have b1 : (kind == 1) = false := beq_eq_false_iff_ne.2 k1
    have b2 : (kind == 2) = false := beq_eq_false_iff_ne.2 k2
    have b3 : (kind == 3) = false := beq_eq_false_iff_ne.2 k3
    have b4 : (kind == 4) = false := beq_eq_false_iff_ne.2 k4
    have b5 : (kind == 5) = false := beq_eq_false_iff_ne.2 k5
    clear e1 e2 e3 S1 hS h kb k1 k2 k3 k4 k5
    have P1 := hide P1
    rw [hw1] at h1
    have hw1 := hide hw1
    go_enter Try.func40, Try.ntmps40
    go_wp2_with fail
    go_ret2
    exact ⟨_, rfl, ownB_nil _ _, h1, by have := P1.out.mono (L' := [g, bb]) (by simp); rw [hw1.out] at this; exact this⟩
end Go.Proofs.Ytamnnggijmmogaa
