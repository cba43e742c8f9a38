/- The document's answer for layer 4: Great, Same; no condition. -/
import Derived.Test.YtpojfcpeibnohaaGreatDoorReqI
namespace Go.Proofs.YtpojfcpeibnohaaGreatDoor
set_option linter.all false
open Go.RowKit

def RGreatPost (m : RQ) (w : World) : Ending → World → Prop := fun e w' => Only [] w w' ∧ ∃ b, e = .returned (.bool b) ∧ (b = false → m.text.size ≤ 10000 ∧ m.value.size ≤ 10000 ∧ m.lang.size ≤ 10000 ∧ m.modes.length ≤ 10000)
set_option maxRecDepth 100000 in
set_option maxHeartbeats 1600000 in
theorem rgreat_any (m : RQ) (w : World) : Calls Tryz.prog 17 #[m.val] w (RGreatPost m w) := by
  have O : Only [] w (w.alloc (.cells #[.int .i64 m.kind, .string m.text, .string m.value, .string m.lang, .int .u32 m.cols, .int .u32 m.rows, .int .u32 m.width, .int .u32 m.height, .slice m.mA m.modes.length m.mc, .bool m.on, .int .u32 m.code] 39)) := (Only.refl _ _).alloc _
  unfold RQ.val
  by_cases h0 : (10000 : Int) < (m.text.size : Int)
  · go_enter Tryz.func17, Tryz.ntmps17
    go_wp2_with fail
    go_ret
    exact ⟨O, true, rfl, fun h => by cases h⟩
  by_cases h1 : (10000 : Int) < (m.value.size : Int)
  · go_enter Tryz.func17, Tryz.ntmps17
    go_wp2_with fail
    go_ret
    exact ⟨O, true, rfl, fun h => by cases h⟩
  by_cases h2 : (10000 : Int) < (m.lang.size : Int)
  · go_enter Tryz.func17, Tryz.ntmps17
    go_wp2_with fail
    go_ret
    exact ⟨O, true, rfl, fun h => by cases h⟩
  by_cases h3 : (10000 : Int) < (m.modes.length : Int)
  · go_enter Tryz.func17, Tryz.ntmps17
    go_wp2_with fail
    go_ret
    exact ⟨O, true, rfl, fun h => by cases h⟩
  have hfin : m.text.size ≤ 10000 ∧ m.value.size ≤ 10000 ∧ m.lang.size ≤ 10000 ∧ m.modes.length ≤ 10000 := by omega
  replace hfin := hide hfin
  go_enter Tryz.func17, Tryz.ntmps17
  go_wp2_with fail
  go_ret
  exact ⟨O, false, rfl, fun _ => hfin.out⟩
end Go.Proofs.YtpojfcpeibnohaaGreatDoor
