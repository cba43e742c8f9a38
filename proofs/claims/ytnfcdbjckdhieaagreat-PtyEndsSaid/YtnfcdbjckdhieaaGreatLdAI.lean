/- Layer 16: is a discipline more than is looked at; for all disciplines; no condition but the lengths of its slices. -/
import Derived.Test.YtnfcdbjckdhieaaGreatLdAH
namespace Go.Proofs.YtnfcdbjckdhieaaGreat
set_option linter.all false
set_option maxRecDepth 100000
open Go.RowKit

def addN (n : Int) (l : List (List Int × Bool)) : Int := l.foldl (fun n p => IntKind.i64.wrap (n + (p.1.length : Int))) n
def great0 (d : DM) : Int := IntKind.i64.wrap (IntKind.i64.wrap ((d.line.length : Int) + (d.raw.length : Int)) + (d.out.length : Int))
def greatD (d : DM) : Bool := decide (addN (great0 d) d.lines > 12000) || decide ((d.lines.length : Int) > 2000)
theorem addN_snoc (n : Int) (l : List (List Int × Bool)) (p : List Int × Bool) : addN n (l ++ [p]) = IntKind.i64.wrap (addN n l + (p.1.length : Int)) := by simp [addN]
/-- The slices' lengths may be. -/
structure LenOk (d : DM) : Prop where
  line : d.line.length ≤ 140737488355328
  raw : d.raw.length ≤ 140737488355328
  out : d.out.length ≤ 140737488355328
  txt : ∀ p ∈ d.lines, p.1.length ≤ 140737488355328
theorem addN_eq : ∀ (l : List (List Int × Bool)) (n : Int), (∀ p ∈ l, p.1.length ≤ 140737488355328) → 0 ≤ n → n + (l.length : Int) * 140737488355328 ≤ 9000000000000000000 → addN n l = n + (((l.map fun p => p.1.length).sum : Nat) : Int)
  | [], n, _, _, _ => by simp [addN]
  | p :: l, n, hp, h0, h1 => by
    have hp0 : p.1.length ≤ 140737488355328 := hp p List.mem_cons_self
    simp only [List.length_cons] at h1
    have e : IntKind.i64.wrap (n + (p.1.length : Int)) = n + (p.1.length : Int) := IntWalk.i64_in _ (by omega)
    have ih := addN_eq l (n + (p.1.length : Int)) (fun q hq => hp q (List.mem_cons_of_mem _ hq)) (by omega) (by omega)
    show addN (IntKind.i64.wrap (n + (p.1.length : Int))) l = _
    rw [e, ih]
    simp only [List.map_cons, List.sum_cons]
    omega
theorem used_sum : ∀ l : List (List Int × Bool), usedM l ≤ (l.map fun p => p.1.length).sum + l.length
  | [] => by simp [usedM]
  | p :: l => by
    have ih := used_sum l
    have e : usedM (p :: l) = sizeM p + usedM l := by simp [usedM]
    have e2 : sizeM p ≤ p.1.length + 1 := by unfold sizeM eofN; split <;> omega
    simp only [List.map_cons, List.sum_cons, List.length_cons]
    omega
theorem few_of {d : DM} (hL : LenOk d) (h : greatD d = false) : Few d ∧ d.line.length + d.raw.length + d.out.length + usedM d.lines ≤ 14000 := by
  unfold greatD at h
  simp only [Bool.or_eq_false_iff, decide_eq_false_iff_not] at h
  obtain ⟨h1, h2⟩ := h
  have l1 : d.line.length ≤ 140737488355328 := hL.line
  have l2 : d.raw.length ≤ 140737488355328 := hL.raw
  have l3 : d.out.length ≤ 140737488355328 := hL.out
  have e0 : great0 d = (d.line.length : Int) + (d.raw.length : Int) + (d.out.length : Int) := by
    unfold great0
    rw [IntWalk.i64_in ((d.line.length : Int) + (d.raw.length : Int)) (by omega), IntWalk.i64_in _ (by omega)]
  rw [addN_eq d.lines (great0 d) hL.txt (by omega) (by omega), e0] at h1
  have hu := used_sum d.lines
  have hz : zeroN d.lines ≤ d.lines.length := List.length_filter_le _ _
  exact ⟨⟨by omega, by omega, by omega, by omega, by omega⟩, by omega⟩
end Go.Proofs.YtnfcdbjckdhieaaGreat
