/- Layer 1: a slice of fields of the call's own; append to it; no condition. -/
import Derived.Test.YtkgikodiecmakaaGreatDoorOctN
namespace Go.Proofs.YtkgikodiecmakaaGreatDoor
set_option linter.all false
open Go.RowKit

theorem fieldInfos : (Tryz.prog.info? 86).map (fun i => (i.zero, i.size, i.bytes)) = some (some (.agg #[.int .i64 0, .int .u32 0, .slice none 0 0, .slice none 0 0]), 4, 64) := by kernel_rfl
def fcells (fs : List FD) : List Value := fs.flatMap FD.cells
theorem fcells_length (fs : List FD) : (fcells fs).length = fs.length * 4 := by
  unfold fcells
  induction fs with
  | nil => rfl
  | cons a r ih => rw [List.flatMap_cons, List.length_append, ih, List.length_cons]; simp [FD.cells]; omega
/-- A slice of fields of the call's own, in a block from base on. -/
def OwnF (w : World) (base : Nat) (v : Value) (fs : List FD) : Prop := w.ownsRow base 86 4 v fs.length (fcells fs)
theorem ownF_nil (w : World) (base : Nat) : OwnF w base (.slice none 0 0) [] := World.ownsRow_nil w base _ _
theorem OwnF.far {w w' : World} {base : Nat} {v : Value} {fs : List FD} {L : List Nat} (h : OwnF w base v fs) (hb : Only L w w') (hL : ∀ x ∈ L, some x ≠ v.ownBlock) : OwnF w' base v fs := by
  refine ⟨h.1, ?_⟩
  rcases h.2 with h | ⟨g, cap, cur, e, hg, hh, r⟩
  · exact .inl h
  · exact .inr ⟨g, cap, cur, e, hg, (hb.block g (Array.getElem?_eq_some_iff.1 hh).1 (fun hm => hL g hm (by rw [e]; rfl))).trans hh, r⟩
theorem OwnF.block {w : World} {base : Nat} {v : Value} {fs : List FD} (h : OwnF w base v fs) : ∀ k, v.ownBlock = some k → base ≤ k ∧ k < w.heap.size := World.ownsRow.lt h
/-- What it is. -/
theorem OwnF.form {w : World} {base : Nat} {v : Value} {fs : List FD} (h : OwnF w base v fs) : ∃ A cap, v = .slice A fs.length cap ∧ fs.length ≤ cap ∧ cap ≤ maxLen ∧
    (0 < fs.length → ∃ b, A = some ⟨b, 0, none⟩ ∧ base ≤ b ∧ b < w.heap.size ∧ ∀ j u, (fcells fs)[j]? = some u → w.cell? ⟨b, j, none⟩ = some u) := by
  rcases h.2 with ⟨e, hn⟩ | ⟨g, cap, cur, e, hg, hh, hc, hm, hs, ht⟩
  · exact ⟨none, 0, by rw [e, hn], by omega, by simp [maxLen], fun h0 => by omega⟩
  · refine ⟨some ⟨g, 0, none⟩, cap, e, hc, hm, fun _ => ⟨g, rfl, hg, (Array.getElem?_eq_some_iff.1 hh).1, fun j u hj => ?_⟩⟩
    subst e
    have := World.ownsRow.cells h (g := g) rfl j u hj
    simpa [Addr.add_lit] using this

theorem run_appF {w : World} (ty : TypeId) (base : Nat) (v : Value) (fs : List FD) (hown : OwnF w base v fs) (q : Nat) (f : FD) (hr : Blk w q 86 f.cells)
    (hlen : fs.length < 1000000) (hbase : base ≤ w.heap.size) :
    ∃ A' cap w', (Builtin.append_ #[82, 82] ty #[v, .slice (some ⟨q, 0, none⟩) 1 1]).run Tryz.prog w = .ok (.slice A' (fs.length + 1) cap) w' ∧ OwnF w' base (.slice A' (fs.length + 1) cap) (fs ++ [f]) ∧ Only v.ownBlock.toList w w' ∧
      Where2 v (.slice A' (fs.length + 1) cap) w.heap.size := by
  obtain ⟨i0, hi, hz0, hz1, hz2⟩ := info_parts fieldInfos
  have hu := Tryz.underlying82
  have hn : ∀ j u, f.cells[j]? = some u → w.cell? ((⟨q, 0, none⟩ : Addr).add j) = some u := by
    intro j u hj
    rw [Addr.add_lit, Nat.zero_add, hr.cell j]
    exact hj
  have h1c : ∀ u ∈ f.cells, u.oneCell' = true := by intro u hu; simp [FD.cells] at hu; rcases hu with rfl | rfl | rfl | rfl <;> rfl
  have hfl : f.cells.length = 1 * 4 := rfl
  obtain ⟨v', w', e, h1, h2, h3⟩ := run_append_own (P := Tryz.prog) w base 82 ty 86 i0 _ 4 64 hu hi hz0 hz1 hz2 rfl (by decide) v fs.length (fcells fs) hown ⟨q, 0, none⟩ 1 1 f.cells hfl hn h1c (by simp only [maxLen]; omega) (by omega) hbase
  have hh : OwnF w' base v' (fs ++ [f]) := by
    show World.ownsRow _ _ _ _ _ _ _
    simpa [fcells, List.flatMap_append] using h1
  have hwh : v'.ownBlock = v.ownBlock ∨ v'.ownBlock = some w.heap.size := by
    rcases hown.2 with ⟨rfl, hn0⟩ | ⟨g, cap, cur, rfl, hg, hh, hc, hm, hs, ht⟩
    · have := run_append_nil (P := Tryz.prog) w 82 ty 86 i0 _ hu hi hz0 ⟨q, 0, none⟩ 1 1 f.cells (by rw [hz1]; rfl) hn (by decide) (by omega) (by rw [hz2]; omega)
      rw [this] at e
      injection e with e1 e2
      right; rw [← e1]; rfl
    · by_cases hroom : fs.length + 1 ≤ cap
      · obtain ⟨w2, e2, _⟩ := run_append_fits (P := Tryz.prog) w base 82 ty 86 i0 4 hu hi hz1 g fs.length cap (fcells fs) hown ⟨q, 0, none⟩ 1 1 f.cells hfl hn h1c hroom
        rw [e2] at e
        injection e with e1 _
        left; rw [← e1]; rfl
      · have holds : ∀ j u, (fcells fs)[j]? = some u → w.cell? ((⟨g, 0, none⟩ : Addr).add j) = some u := World.ownsRow.cells hown (g := g) rfl
        have := run_append_grow (P := Tryz.prog) w 82 ty 86 i0 _ hu hi hz0 ⟨g, 0, none⟩ fs.length cap (fcells fs) (by rw [hz1]; exact fcells_length fs) holds ⟨q, 0, none⟩ 1 1 f.cells (by rw [hz1]; rfl) hn (by omega) (by omega) (growslice_fits (by omega) (by rw [hz2]; omega))
        rw [this] at e
        injection e with e1 _
        right; rw [← e1]; rfl
  obtain ⟨A', cap, rfl, _⟩ := hh.form
  rw [List.length_append] at *
  exact ⟨A', cap, w', e, hh, only_of_grown h2, hwh⟩

theorem wpList_appF {w : World} {ops : Array Oper} {rest : List Oper} {o : Oper} {a : Act} {Q : Exit → Act → World → Prop} (hgd : o.guard = none) (s x : Operand)
    (ho : o.op = .call { callee := .builtin .append, args := #[s, x], argTypes := #[82, 82] })
    (base : Nat) (v : Value) (fs : List FD) (hs : a.eval s = v) (hown : OwnF w base v fs) (q : Nat) (f : FD) (hx : a.eval x = .slice (some ⟨q, 0, none⟩) 1 1) (hr : Blk w q 86 f.cells)
    (hlen : fs.length < 1000000) (hbase : base ≤ w.heap.size)
    (h : ∀ A' cap w', Hid (OwnF w' base (.slice A' (fs.length + 1) cap) (fs ++ [f])) → Only v.ownBlock.toList w w' → Hid (Where2 v (.slice A' (fs.length + 1) cap) w.heap.size) → wpList Tryz.prog ops Q rest (a.put o.dst (.slice A' (fs.length + 1) cap)) w') : wpList Tryz.prog ops Q (o :: rest) a w := by
  refine wpList_plain hgd fun K hK => ?_
  obtain ⟨A', cap, w', hrun, h1, h2, h3⟩ := run_appF o.type base v fs hown q f hr hlen hbase
  unfold Oper.wp execOp
  simp only [ho, resolve, invoke, builtin, Sem.run_bind, Sem.run_pure, Result.andThen_ok, List.map_toArray, List.map_cons, List.map_nil, hs, hx, hrun]
  exact hK _ _ (h A' cap w' h1 h2 h3)
end Go.Proofs.YtkgikodiecmakaaGreatDoor
