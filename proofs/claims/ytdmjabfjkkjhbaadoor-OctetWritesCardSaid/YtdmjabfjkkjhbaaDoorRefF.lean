/- The document's answer for layer 1: names with commas between them; no condition. -/
import Derived.Test.YtdmjabfjkkjhbaaDoorRefE
import Derived.Lib.AppendStr
namespace Go.Proofs.YtdmjabfjkkjhbaaDoor
set_option linter.all false
open Go.RowKit

theorem inter_snoc (sep : List UInt8) (l : List (List UInt8)) (x : List UInt8) : sep.intercalate (l ++ [x]) = if l = [] then x else sep.intercalate l ++ sep ++ x := by
  induction l with
  | nil => simp [List.intercalate]
  | cons a r ih =>
    cases r with
    | nil => simp [List.intercalate]
    | cons b r =>
      rw [if_neg (by simp)] at ih ⊢
      simp only [List.intercalate, List.cons_append, List.intersperse_cons₂, List.flatten_cons, List.append_assoc] at ih ⊢
      rw [ih]
theorem joinU_snoc (l : List ByteArray) (x : ByteArray) : joinU (l ++ [x]) = if l = [] then x.data.toList else joinU l ++ [44] ++ x.data.toList := by
  unfold joinU Lib.join
  rw [List.map_append, List.map_cons, List.map_nil, inter_snoc]
  simp
theorem u8i_app (a b : List UInt8) : u8i (a ++ b) = u8i a ++ u8i b := by simp [u8i]
theorem strCells_u8i (s : ByteArray) : Lib.strCells s = u8s (u8i s.data.toList) := by simp [Lib.strCells, u8s, u8i]
end Go.Proofs.YtdmjabfjkkjhbaaDoor
