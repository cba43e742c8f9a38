/- append to a slice of bytes of the call's own, and where the new slice lies; no condition. -/
import Derived.Test.YtdmjabfjkkjhbaaDoorApp
import Derived.Laws.OwnMore
namespace Go.Proofs.YtdmjabfjkkjhbaaDoor
set_option linter.all false
open Go.RowKit

theorem run_app2 {w : World} (ty : TypeId) (base : Nat) (v : Value) (l : List Int) (hown : OwnB w base v l) (A : Option Addr) (c : Nat) (m : List Int) (hr : Rd w A m)
    (hlen : l.length + m.length ≤ 140737488355328) (hbase : base ≤ w.heap.size) :
    ∃ v' w', (Builtin.append_ #[23, 23] ty #[v, .slice A m.length c]).run Tryd.prog w = .ok v' w' ∧ OwnB w' base v' (l ++ m) ∧ Only v.ownBlock.toList w w' ∧ (v' = .slice none 0 0 ↔ v = .slice none 0 0 ∧ m.length = 0) ∧
      (v'.ownBlock = v.ownBlock ∨ v'.ownBlock = some w.heap.size) := by
  obtain ⟨v', w', e, h1, h2, h3⟩ := run_app ty base v l hown A c m hr hlen hbase
  refine ⟨v', w', e, h1, h2, h3, ?_⟩
  obtain ⟨i0, hi, hz0, hz1, hz2⟩ := info_parts u8infos
  have hu := Tryd.underlying23
  have hsm : ((u8s m).length = m.length * i0.size) := by rw [hz1]; simp [u8s]
  by_cases h0 : 0 < m.length
  · obtain ⟨ad, rfl, hn⟩ := hr.news h0
    rcases hown.2 with ⟨rfl, hn0⟩ | ⟨g, cap, cur, rfl, hg, hh, hc, hm, hs, ht⟩
    · have := run_append_nil (P := Tryd.prog) w 23 ty 5 i0 (.int .u8 0) hu hi hz0 ad m.length c (u8s m) hsm hn h0 (by omega) (by rw [hz2]; omega)
      rw [this] at e
      injection e with e1 e2
      right; rw [← e1]; rfl
    · by_cases hroom : l.length + m.length ≤ cap
      · obtain ⟨w2, e2, _⟩ := run_append_fits (P := Tryd.prog) w base 23 ty 5 i0 1 hu hi hz1 g l.length cap (u8s l) hown ad m.length c (u8s m) (by simp [u8s]) hn (u8s_one m) hroom
        rw [e2] at e
        injection e with e1 _
        left; rw [← e1]; rfl
      · have holds : ∀ j u, (u8s l)[j]? = some u → w.cell? ((⟨g, 0, none⟩ : Addr).add j) = some u := World.ownsRow.cells hown (g := g) rfl
        have := run_append_grow (P := Tryd.prog) w 23 ty 5 i0 (.int .u8 0) hu hi hz0 ⟨g, 0, none⟩ l.length cap (u8s l) (by rw [hz1]; simp [u8s]) holds ad m.length c (u8s m) hsm hn (by omega) (by omega) (growslice_fits (by omega) (by rw [hz2]; omega))
        rw [this] at e
        injection e with e1 _
        right; rw [← e1]; rfl
  · have e0 : m = [] := List.eq_nil_of_length_eq_zero (by omega)
    subst e0
    have hf : ∀ w' : World, (Builtin.firstCells 1 0 (.slice A 0 c)).run Tryd.prog w' = .ok #[] w' := by
      intro w'
      cases A <;> simp [Builtin.firstCells, loadCells, loadCellsFrom]
    have : (Builtin.append_ #[23, 23] ty #[v, .slice A 0 c]).run Tryd.prog w = .ok v w := by
      rcases hown.2 with ⟨rfl, hn⟩ | ⟨g, cap, cur, rfl, _, _, hnc, _⟩
      · cases A <;> simp [Builtin.append_, run_underlying hu, sizeOf, typeInfo, hi, hz1, Builtin.lenOf, hf]
      · cases A <;> simp [Builtin.append_, run_underlying hu, sizeOf, typeInfo, hi, hz1, Builtin.lenOf, hf, hnc, storeCells]
    rw [show ([] : List Int).length = 0 from rfl, this] at e
    injection e with e1 _
    left; rw [e1]

/-- append(s, x...), s of the call's own, x whatever reads as m. -/
theorem wpList_app2 {w : World} {ops : Array Oper} {rest : List Oper} {o : Oper} {a : Act} {Q : Exit → Act → World → Prop} (hgd : o.guard = none) (s x : Operand)
    (ho : o.op = .call { callee := .builtin .append, args := #[s, x], argTypes := #[23, 23] })
    (base : Nat) (v : Value) (l : List Int) (hs : a.eval s = v) (hown : OwnB w base v l) (A : Option Addr) (c : Nat) (m : List Int) (hx : a.eval x = .slice A m.length c) (hr : Rd w A m)
    (hlen : l.length + m.length ≤ 140737488355328) (hbase : base ≤ w.heap.size)
    (h : ∀ v' w', Hid (OwnB w' base v' (l ++ m)) → Only v.ownBlock.toList w w' → Hid (v'.ownBlock = v.ownBlock ∨ v'.ownBlock = some w.heap.size) → wpList Tryd.prog ops Q rest (a.put o.dst v') w') : wpList Tryd.prog ops Q (o :: rest) a w := by
  refine wpList_plain hgd fun K hK => ?_
  obtain ⟨v', w', hrun, h1, h2, _, h3⟩ := run_app2 o.type base v l hown A c m hr hlen hbase
  unfold Oper.wp execOp
  simp only [ho, resolve, invoke, builtin, Sem.run_bind, Sem.run_pure, Result.andThen_ok, List.map_toArray, List.map_cons, List.map_nil, hs, hx, hrun]
  exact hK _ _ (h v' w' h1 h2 h3)
end Go.Proofs.YtdmjabfjkkjhbaaDoor
