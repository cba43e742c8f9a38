/- The document's answer for layer 3: is a message more than is looked at; the same messages are told so; no condition. -/
import Derived.Test.YtdmjabfjkkjhbaaDoorMsgH
namespace Go.Proofs.YtdmjabfjkkjhbaaDoor
set_option linter.all false
open Go.RowKit

def MGreatPost (m : MD) (w : World) : Ending → World → Prop := fun e w' => Only [] w w' ∧ ∃ b, e = .returned (.bool b) ∧ (b = false → m.data.length ≤ 100000 ∧ m.name.size ≤ 10000 ∧ m.lang.size ≤ 10000)
set_option maxRecDepth 100000 in
set_option maxHeartbeats 1600000 in
theorem mgreat_any (m : MD) (w : World) : Calls Tryd.prog 24 #[m.val] w (MGreatPost m w) := by
  have O : Only [] w (w.alloc (.cells #[.int .i64 m.kind, .int .u32 m.chan, .int .u32 m.sender, .int .u32 m.window, .int .u32 m.packet, .int .u32 m.code, .string m.name, .string m.lang, .bool m.want, .slice m.dA m.data.length m.dc] 47)) := (Only.refl _ _).alloc _
  unfold MD.val
  by_cases h1 : (100000 : Int) < (m.data.length : Int)
  · go_enter Tryd.func24, Tryd.ntmps24
    go_wp2_with fail
    go_ret
    exact ⟨O, true, rfl, fun h => by cases h⟩
  by_cases h2 : (10000 : Int) < (m.name.size : Int)
  · go_enter Tryd.func24, Tryd.ntmps24
    go_wp2_with fail
    go_ret
    exact ⟨O, true, rfl, fun h => by cases h⟩
  by_cases h3 : (10000 : Int) < (m.lang.size : Int)
  · go_enter Tryd.func24, Tryd.ntmps24
    go_wp2_with fail
    go_ret
    exact ⟨O, true, rfl, fun h => by cases h⟩
  have hfin : m.data.length ≤ 100000 ∧ m.name.size ≤ 10000 ∧ m.lang.size ≤ 10000 := ⟨by omega, by omega, by omega⟩
  replace hfin := hide hfin
  go_enter Tryd.func24, Tryd.ntmps24
  go_wp2_with fail
  go_ret
  exact ⟨O, false, rfl, fun _ => hfin.out⟩

set_option maxRecDepth 100000 in
set_option maxHeartbeats 3200000 in
theorem msame_true (a b : MD) (w : World) (ha : a.ok w) (hb : b.ok w) (h0 : b.kind = a.kind) (h1 : b.chan = a.chan) (h2 : b.sender = a.sender) (h3 : b.window = a.window) (h4 : b.packet = a.packet) (h5 : b.code = a.code) (h6 : b.name = a.name) (h7 : b.lang = a.lang) (h8 : b.want = a.want) (h9 : b.data = a.data) :
    Calls Tryd.prog 27 #[a.val, b.val] w fun e w' => e = .returned (.bool true) ∧ Only [] w w' := by
  obtain ⟨k0, k1, k2, k3, k4, k5, k6, k7, k8, dA, dc, d⟩ := a
  obtain ⟨l0, l1, l2, l3, l4, l5, l6, l7, l8, eA, ec, e⟩ := b
  dsimp only at h0 h1 h2 h3 h4 h5 h6 h7 h8 h9
  subst h0 h1 h2 h3 h4 h5 h6 h7 h8 h9
  obtain ⟨w2, hw2⟩ : ∃ w2, w2 = (w.alloc (.cells #[.int .i64 l0, .int .u32 l1, .int .u32 l2, .int .u32 l3, .int .u32 l4, .int .u32 l5, .string l6, .string l7, .bool l8, .slice dA e.length dc] 47)).alloc (.cells #[.int .i64 l0, .int .u32 l1, .int .u32 l2, .int .u32 l3, .int .u32 l4, .int .u32 l5, .string l6, .string l7, .bool l8, .slice eA e.length ec] 47) := ⟨_, rfl⟩
  have P2 : Only [] w w2 := by rw [hw2]; exact ((Only.refl _ _).alloc _).alloc _
  have q1 := ha.dle
  have q2 := ha.dmax
  dsimp only at q1 q2
  have BT := bytes_any w2 dA eA e e dc ec (ha.data.only P2) (hb.data.only P2) (by omega) (by omega)
  rw [show eqB e e = true by simp [eqB]] at BT
  unfold MD.val
  dsimp only
  clear q1 q2 ha hb
  go_enter Tryd.func27, Tryd.ntmps27
  go_wp2_with fail
  rw [← hw2]
  replace hw2 := hide hw2
  go_call BT as e' w3 ⟨rfl, P3⟩
  go_wp2_with fail
  go_ret
  exact ⟨rfl, P2.trans P3 (by simp)⟩
end Go.Proofs.YtdmjabfjkkjhbaaDoor
