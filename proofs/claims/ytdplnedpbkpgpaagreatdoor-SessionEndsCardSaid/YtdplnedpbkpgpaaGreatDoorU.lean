/- Bounds; no condition. -/
import Derived.Test.YtdplnedpbkpgpaaGreatDoorKit
namespace Go.Proofs.YtdplnedpbkpgpaaGreatDoor
set_option linter.all false
def U32 (n : Int) : Prop := 0 ≤ n ∧ n ≤ 4294967295
end Go.Proofs.YtdplnedpbkpgpaaGreatDoor
