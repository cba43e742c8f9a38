/- The document's answer for layer 3: Decode; no condition but the number of bytes. -/
import Derived.Test.YtdmjabfjkkjhbaaGreatDoorMsgQC
import Derived.Test.YtdmjabfjkkjhbaaGreatDoorMsgR
import Derived.Test.YtdmjabfjkkjhbaaGreatDoorRefS
namespace Go.Proofs.YtdmjabfjkkjhbaaGreatDoor
set_option linter.all false
open Go.RowKit

/-- What the document's Decode hands on. -/
def RDecPost (w : World) (l : List Int) : Ending → World → Prop := fun e w' => Only [] w w' ∧ ∃ (m : MD) (E : Int), e = .returned (.tuple #[m.val, .int .i64 E]) ∧ m.ok w' ∧ DecIs l m E
theorem far_msg {w : World} {q : Nat} {m : MD} {A : Option Addr} {l : List Int} (K : Blk w q 25 m.cells) (h : RdG (.int .u8) w A l) (h0 : 0 < l.length) (a : Addr) (ha : A = some a) : a.block ≠ q := by
  obtain ⟨b, off, e, hb, hc⟩ := h h0
  rw [e] at ha
  injection ha with ha
  subst ha
  intro hbq
  dsimp only at hbq
  subst hbq
  have hx : l[0]? = some (l[0]'h0) := List.getElem?_eq_getElem h0
  have := hc 0 _ hx
  rw [Nat.add_zero, K.cell off] at this
  have hm := List.mem_of_getElem? this
  simp [MD.cells] at hm
theorem MD.ok.onlyN {w w' : World} {q : Nat} {m : MD} (h : m.ok w) (hb : Only [q] w w') (hn : ∀ a, m.dA = some a → 0 < m.data.length → a.block ≠ q) : m.ok w' :=
  { h with data := h.data.onlyL hb (fun a ha h0 => by have := hn a ha h0; simp; omega) }
end Go.Proofs.YtdmjabfjkkjhbaaGreatDoor
