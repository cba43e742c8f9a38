/- A text of bytes that are read; no condition. -/
import Derived.Test.YtdplnedpbkpgpaaGreatDoorReqB
namespace Go.Proofs.YtdplnedpbkpgpaaGreatDoor
set_option linter.all false
open Go.RowKit

theorem conv_rd {w : World} {A : Option Addr} {l : List Int} {c : Nat} (h : RdG (.int .u8) w A l) : (convert 32 9 (.slice A l.length c)).run Tryz.prog w = .ok (.string (strOfNums l)) w := by
  by_cases h0 : 0 < l.length
  · obtain ⟨b, off, rfl, _, hc⟩ := h h0
    exact run_convert_bytes_arg (P := Tryz.prog) (w := w) 32 5 (by kernel_rfl) (by kernel_rfl) b off l.length c l rfl (fun i hi => by
      have hx : l[i]? = some (l[i]'hi) := List.getElem?_eq_getElem hi
      rw [hc i _ hx]
      simp [List.getD, hx]) 9 (by kernel_rfl)
  · obtain rfl : l = [] := List.eq_nil_of_length_eq_zero (by omega)
    cases A with
    | none =>
      have e : (convert 32 9 (.slice none 0 c)).run Tryz.prog w = (Conv.bytesToString (.slice none 0 c)).run Tryz.prog w := by simp [convert, run_underlying Tryz.underlying32, run_underlying Tryz.underlying9, run_underlying Tryz.underlying5]
      rw [show ([] : List Int).length = 0 from rfl, e]
      first | rfl | (simp [Conv.bytesToString, loadCells, loadCellsFrom, strOfNums]; try rfl)
    | some a =>
      have e : (convert 32 9 (.slice (some a) 0 c)).run Tryz.prog w = (Conv.bytesToString (.slice (some a) 0 c)).run Tryz.prog w := by simp [convert, run_underlying Tryz.underlying32, run_underlying Tryz.underlying9, run_underlying Tryz.underlying5]
      rw [show ([] : List Int).length = 0 from rfl, e]
      first | rfl | (simp [Conv.bytesToString, loadCells, loadCellsFrom, strOfNums]; try rfl)
end Go.Proofs.YtdplnedpbkpgpaaGreatDoor
