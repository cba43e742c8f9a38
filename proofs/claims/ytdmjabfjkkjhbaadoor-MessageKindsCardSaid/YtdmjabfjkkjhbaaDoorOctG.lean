/- Layer 1: the reader: copies, what is taken off; for all bytes, no condition. -/
import Derived.Test.YtdmjabfjkkjhbaaDoorOctF
import Derived.Lib.SliceRun
namespace Go.Proofs.YtdmjabfjkkjhbaaDoor
set_option linter.all false
open Go.RowKit

/-- xs == nil. -/
theorem nil_none (w : World) (n c : Nat) : (binOp .eql 23 (.slice none n c) (.slice none 0 0)).run Tryd.prog w = .ok (.bool true) w := Lib.run_eql_slice_nil (P := Tryd.prog) w 23 5 none n c 0 0 (by kernel_rfl)
theorem nil_some (w : World) (a : Addr) (n c : Nat) : (binOp .eql 23 (.slice (some a) n c) (.slice none 0 0)).run Tryd.prog w = .ok (.bool false) w := Lib.run_eql_slice_nil (P := Tryd.prog) w 23 5 (some a) n c 0 0 (by kernel_rfl)

/-- Bytes that are read, in a slice whose memory lies from B on. -/
structure Bs (w : World) (B : Nat) (A : Option Addr) (l : List Int) (c : Nat) : Prop where
  rd : Rd w A l
  le : l.length ≤ c
  max : c ≤ maxLen
  new : ∀ a, A = some a → B ≤ a.block
  soft : ∀ a, A = some a → ∀ i, i < l.length → w.frozen? (a.add i) = false
theorem OwnB.soft {w : World} {base : Nat} {A : Option Addr} {n cap : Nat} {l : List Int} (h : OwnB w base (.slice A n cap) l) : ∀ a, A = some a → ∀ i, i < l.length → w.frozen? (a.add i) = false := by
  intro a ha i hi
  rcases h.2 with ⟨e, hn⟩ | ⟨g, cap', cur, e, hg, hh, r⟩
  · omega
  · injection e with e1
    rw [ha] at e1
    injection e1 with e1
    subst e1
    rw [Addr.add_lit]
    exact frozen_of_row w g _ _ _ hh
set_option maxRecDepth 100000 in
set_option maxHeartbeats 3200000 in
theorem clone_any (w : World) (A : Option Addr) (l : List Int) (c : Nat) (h : Rd w A l) (hl : l.length ≤ 140737488355000) :
    Calls Tryd.prog 75 #[.slice A l.length c] w fun e w' => Only [] w w' ∧ ∃ A' c', e = .returned (.slice A' l.length c') ∧ Bs w' w.heap.size A' l c' := by
  cases A with
  | none =>
    have h0 : l.length = 0 := by
      rcases Nat.eq_zero_or_pos l.length with h0 | h0
      · exact h0
      · obtain ⟨b, off, e, _⟩ := h h0
        cases e
    obtain rfl : l = [] := List.eq_nil_of_length_eq_zero h0
    go_enter Tryd.func75, Tryd.ntmps75
    have kn := nil_none
    go_wp2
    go_ret
    exact ⟨Only.refl _ _, none, 0, rfl, ⟨fun h => absurd h (by simp), by simp, by simp, (fun a ha => by cases ha), (fun a ha => by cases ha)⟩⟩
  | some ad =>
    obtain ⟨k, hgl⟩ : ∃ k, l.length = k := ⟨_, rfl⟩
    rw [hgl] at hl ⊢
    have V0 : OwnB (w.alloc (.cells #[] 5)) w.heap.size (.slice (some ⟨w.heap.size, 0, none⟩) 0 0) [] := by
      have := ownB_lit w w.heap.size [] (Nat.le_refl _) (by decide)
      simpa [u8s] using this
    have P1 : Only [] w (w.alloc (.cells #[] 5)) := (Only.refl _ _).alloc _
    have okr := h.only P1
    replace hgl := hide hgl
    have kn := nil_some
    go_enter Tryd.func75, Tryd.ntmps75
    go_wp2_with (at_builtin; go_must (refine wpList_app3 rfl (.tmp 5) (.tmp 6) rfl w.heap.size (.slice (some ⟨w.heap.size, 0, none⟩) 0 0) [] rfl V0 (some ad) c l k hgl.out rfl okr (by rw [hgl.out]; simp; omega) (by simp) ?_); intro v9 w9 V9 P9 _
                 obtain ⟨A9, k9, rfl, G9, q9, m9, a9⟩ := V9.out.rd)
    go_ret
    rw [List.nil_append] at G9 q9
    have SF : OwnB w9 w.heap.size (.slice A9 ([] ++ l).length k9) ([] ++ l) := V9.out
    rw [List.nil_append] at SF
    have P9' : Only [w.heap.size] _ w9 := P9
    refine ⟨P1.trans P9' (by simp), A9, k9, ?_, ⟨G9, q9, m9, a9, SF.soft⟩⟩
    simp [hgl.out]
end Go.Proofs.YtdmjabfjkkjhbaaDoor
