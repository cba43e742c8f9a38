/- Layer 19: what the rows of layer 19 list of the library's variables, as the walks want it; no condition. -/
import Derived.Lib.LaidTab
import Derived.Stop.LaidErr
import Derived.LaidLaws
import Derived.MakeChecks
import Derived.Test.YtmmcamkmglpgiaaGreatDoorPrD
import Derived.Test.YtmmcamkmglpgiaaGreatDoorCards
namespace Go.Proofs.YtmmcamkmglpgiaaGreatDoor
open Go.Shelf Go.RowKit Go.Lib
set_option linter.all false
set_option maxRecDepth 100000
theorem star19 : "*" ++ "errors.errorString" = "*errors.errorString" := by decide
theorem errRow19 (u : TypeId) (h : Tryz.prog.typeName? 3 u = some "*errors.errorString") : u = 193 :=
  typeName_ptr_named (nm := "errors.errorString") (by rw [star19]; kernel_rfl) (by kernel_rfl) (by decide) u (by rw [star19]; exact h)
theorem slib_laid {W : World} {d1 d2 d3 : String × DataW Unit} {r : List (String × DataW Unit)} (hL : laidMet Tryz.prog (d1 :: d2 :: ("internal/strconv.uint64pow10", tabData .u64 Lib.pow10Tab) :: d3 :: ("strconv.ErrRange", .iface "*errors.errorString" (.ptr (.agg [.lit (.string [118, 97, 108, 117, 101, 32, 111, 117, 116, 32, 111, 102, 32, 114, 97, 110, 103, 101])]))) :: ("strconv.ErrSyntax", .iface "*errors.errorString" (.ptr (.agg [.lit (.string [105, 110, 118, 97, 108, 105, 100, 32, 115, 121, 110, 116, 97, 120])]))) :: r) W) {m : Int} (hm : W.cell? ⟨0, 0, none⟩ = some (.int .i64 m)) : SLib W := by
  obtain ⟨a0, s0, hv0, -, -, -⟩ := laid_sentinel (g := 3) (ti := 67) (tp := 193) (te := 195) (ts := 9) hL.tail.tail.tail.tail (by kernel_rfl) (by kernel_rfl) Tryz.underlying67 errRow19 Tryz.underlying193 Tryz.underlying195 rfl rfl Tryz.underlying9 (by kernel_rfl) (by kernel_rfl)
  obtain ⟨a1, s1, hv1, -, -, -⟩ := laid_sentinel (g := 2) (ti := 67) (tp := 193) (te := 195) (ts := 9) hL.tail.tail.tail.tail.tail (by kernel_rfl) (by kernel_rfl) Tryz.underlying67 errRow19 Tryz.underlying193 Tryz.underlying195 rfl rfl Tryz.underlying9 (by kernel_rfl) (by kernel_rfl)
  exact ⟨⟨_, _, hv1⟩, ⟨_, _, hv0⟩, tabIs_of_head (g := 1) (t := 173) (e := 147) (n := 20) (by kernel_rfl) (by kernel_rfl) Tryz.underlying173 Tryz.underlying147 (by kernel_rfl) (by kernel_rfl) hL.tail.tail, ⟨m, hm⟩⟩
theorem slib_work {W : World} (hL : laidMetH Tryz.prog Rows.programWorkRow.laid W) {m : Int} (hm : W.cell? ⟨0, 0, none⟩ = some (.int .i64 m)) : SLib W := by
  rw [MakeChecks.laidMetH_plain _ _ _ (by kernel_rfl)] at hL
  exact slib_laid hL hm
end Go.Proofs.YtmmcamkmglpgiaaGreatDoor
