/- The document's answer for layer 4: Great, Same; no condition. -/
import Derived.Test.YtdplnedpbkpgpaaGreatDoorReqI
namespace Go.Proofs.YtdplnedpbkpgpaaGreatDoor
set_option linter.all false
open Go.RowKit

def RGreatPost (m : RQ) (w : World) : Ending → World → Prop := fun e w' => Only [] w w' ∧ ∃ b, e = .returned (.bool b) ∧ (b = false → m.text.size ≤ 10000 ∧ m.value.size ≤ 10000 ∧ m.lang.size ≤ 10000 ∧ m.modes.length ≤ 10000)
set_option maxRecDepth 100000 in
set_option maxHeartbeats 3200000 in
theorem rsame_true (a b : RQ) (w : World) (ha : a.ok w) (hb : b.ok w) (h : SameR a b) : Calls Tryz.prog 21 #[a.val, b.val] w fun e w' => e = .returned (.bool true) ∧ Only [] w w' := by
  obtain ⟨k0, k1, k2, k3, k4, k5, k6, k7, dA, dc, d, k8, k9⟩ := a
  obtain ⟨l0, l1, l2, l3, l4, l5, l6, l7, eA, ec, e, l8, l9⟩ := b
  obtain ⟨h0, h1, h2, h3, h4, h5, h6, h7, h8, h9, h10⟩ := h
  dsimp only at h0 h1 h2 h3 h4 h5 h6 h7 h8 h9 h10
  subst h0 h1 h2 h3 h4 h5 h6 h7 h8 h9 h10
  obtain ⟨w2, hw2⟩ : ∃ w2, w2 = (w.alloc (.cells #[.int .i64 l0, .string l1, .string l2, .string l3, .int .u32 l4, .int .u32 l5, .int .u32 l6, .int .u32 l7, .slice dA e.length dc, .bool l8, .int .u32 l9] 63)).alloc (.cells #[.int .i64 l0, .string l1, .string l2, .string l3, .int .u32 l4, .int .u32 l5, .int .u32 l6, .int .u32 l7, .slice eA e.length ec, .bool l8, .int .u32 l9] 63) := ⟨_, rfl⟩
  have P2 : Only [] w w2 := by rw [hw2]; exact ((Only.refl _ _).alloc _).alloc _
  have q1 := ha.mle
  have q2 := ha.mmax
  dsimp only at q1 q2
  have BT := bytes_any w2 dA eA e e dc ec (ha.modes.only P2) (hb.modes.only P2) (by omega) (by omega)
  rw [show eqB e e = true by simp [eqB]] at BT
  unfold RQ.val
  dsimp only
  clear q1 q2 ha hb
  go_enter Tryz.func21, Tryz.ntmps21
  go_wp2_with fail
  rw [← hw2]
  replace hw2 := hide hw2
  go_call BT as e' w3 ⟨rfl, P3⟩
  go_wp2_with fail
  go_ret
  exact ⟨rfl, P2.trans P3 (by simp)⟩
end Go.Proofs.YtdplnedpbkpgpaaGreatDoor
