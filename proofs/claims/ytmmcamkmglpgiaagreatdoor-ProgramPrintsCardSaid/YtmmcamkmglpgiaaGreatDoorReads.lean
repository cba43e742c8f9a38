/- Slices whose elements take one cell, read; over any program, no condition. -/
import Derived.Test.YtmmcamkmglpgiaaGreatDoorApp3
namespace Go.Proofs.YtmmcamkmglpgiaaGreatDoor
set_option linter.all false
open Go.RowKit

/-- A slice that is read: its elements, each a cell. -/
def RdG {α : Type} (mk : α → Value) (w : World) (A : Option Addr) (l : List α) : Prop :=
  0 < l.length → ∃ b off, A = some ⟨b, off, none⟩ ∧ b < w.heap.size ∧ ∀ i x, l[i]? = some x → w.cell? ⟨b, off + i, none⟩ = some (mk x)
section
variable {α : Type} {mk : α → Value} {w w' : World} {A : Option Addr} {l : List α}
theorem RdG.onlyL {L : List Nat} (h : RdG mk w A l) (hb : Only L w w') (hL : ∀ a, A = some a → 0 < l.length → a.block ∉ L) : RdG mk w' A l := by
  intro h0
  obtain ⟨b, off, rfl, hlt, hc⟩ := h h0
  exact ⟨b, off, rfl, Nat.lt_of_lt_of_le hlt hb.size, fun i v hi => (World.cell?_of_block (w := w) (hb.block b hlt (hL _ rfl h0))).trans (hc i v hi)⟩
theorem RdG.only (h : RdG mk w A l) (hb : Only [] w w') : RdG mk w' A l := h.onlyL hb (fun _ _ _ => by simp)
theorem RdG.nil : RdG mk w A [] := fun h => absurd h (Nat.lt_irrefl _)
theorem RdG.lt (h : RdG mk w A l) (h0 : 0 < l.length) : ∀ a, A = some a → a.block < w.heap.size := by
  intro a ha
  obtain ⟨b, off, e, hb, _⟩ := h h0
  rw [ha] at e; injection e with e; rw [e]; exact hb
theorem RdG.take (h : RdG mk w A l) (k : Nat) : RdG mk w A (l.take k) := by
  intro h0
  obtain ⟨b, off, rfl, hlt, hc⟩ := h (by simp at h0; omega)
  refine ⟨b, off, rfl, hlt, fun i v hi => hc i v ?_⟩
  rw [List.getElem?_take] at hi
  split at hi
  · exact hi
  · cases hi
theorem RdG.drop (h : RdG mk w A l) (k : Nat) : RdG mk w (Option.map (fun x => x.add k) A) (l.drop k) := by
  intro h0
  obtain ⟨b, off, rfl, hlt, hc⟩ := h (by simp at h0; omega)
  refine ⟨b, off + k, by simp [Addr.add_lit], hlt, fun i v hi => ?_⟩
  rw [List.getElem?_drop] at hi
  rw [Nat.add_assoc]; exact hc _ _ hi
/-- The cell of an element. -/
theorem RdG.at (h : RdG mk w A l) (k : Nat) (hk : k < l.length) : ∃ b off x, A = some ⟨b, off, none⟩ ∧ b < w.heap.size ∧ l[k]? = some x ∧ w.cell? ⟨b, off + k, none⟩ = some (mk x) := by
  obtain ⟨b, off, rfl, hlt, hc⟩ := h (by omega)
  have hx : l[k]? = some (l[k]'hk) := List.getElem?_eq_getElem hk
  exact ⟨b, off, _, rfl, hlt, hx, hc k _ hx⟩
end
/-- Integers and texts. -/
abbrev RdI := RdG (Value.int .i64)
abbrev RdS := RdG Value.string
theorem take_snocG {α : Type} {l : List α} {k : Nat} {x : α} (h : l[k]? = some x) : l.take (k + 1) = l.take k ++ [x] := by rw [List.take_add_one, h]; rfl
end Go.Proofs.YtmmcamkmglpgiaaGreatDoor
