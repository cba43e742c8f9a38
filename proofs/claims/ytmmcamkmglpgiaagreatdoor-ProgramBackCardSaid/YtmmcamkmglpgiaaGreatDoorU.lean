/- Bounds; no condition. -/
import Derived.Test.YtmmcamkmglpgiaaGreatDoorKit
namespace Go.Proofs.YtmmcamkmglpgiaaGreatDoor
set_option linter.all false
def U32 (n : Int) : Prop := 0 ≤ n ∧ n ≤ 4294967295
end Go.Proofs.YtmmcamkmglpgiaaGreatDoor
