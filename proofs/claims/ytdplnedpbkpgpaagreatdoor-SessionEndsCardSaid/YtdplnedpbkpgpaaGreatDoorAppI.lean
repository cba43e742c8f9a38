/- append(s, x...) for slices of texts: s of the call's own, x whatever reads as a list; no condition · append(s, x...) for slices of integers: s of the call's own, x whatever reads as a list; no condition. -/
import Derived.Test.YtdplnedpbkpgpaaGreatDoorOctW
namespace Go.Proofs.YtdplnedpbkpgpaaGreatDoor
set_option linter.all false
open Go.RowKit

theorem strInfos : (Tryz.prog.info? 9).map (fun i => (i.zero, i.size, i.bytes)) = some (some (.string ByteArray.empty), 1, 16) := by kernel_rfl
def strs' (l : List ByteArray) : List Value := l.map Value.string
/-- A slice of texts of the call's own, in a block from base on. -/
def OwnS (w : World) (base : Nat) (v : Value) (l : List ByteArray) : Prop := w.ownsRow base 9 1 v l.length (strs' l)
theorem ownS_nil (w : World) (base : Nat) : OwnS w base (.slice none 0 0) [] := World.ownsRow_nil w base _ _
theorem OwnS.far {w w' : World} {base : Nat} {v : Value} {l : List ByteArray} {L : List Nat} (h : OwnS w base v l) (hb : Only L w w') (hL : ∀ x ∈ L, some x ≠ v.ownBlock) : OwnS w' base v l := by
  refine ⟨h.1, ?_⟩
  rcases h.2 with h | ⟨g, cap, cur, e, hg, hh, r⟩
  · exact .inl h
  · exact .inr ⟨g, cap, cur, e, hg, (hb.block g (Array.getElem?_eq_some_iff.1 hh).1 (fun hm => hL g hm (by rw [e]; rfl))).trans hh, r⟩
theorem OwnS.block {w : World} {base : Nat} {v : Value} {l : List ByteArray} (h : OwnS w base v l) : ∀ k, v.ownBlock = some k → base ≤ k ∧ k < w.heap.size := World.ownsRow.lt h
theorem OwnS.rd {w : World} {base : Nat} {v : Value} {l : List ByteArray} (h : OwnS w base v l) : ∃ A cap, v = .slice A l.length cap ∧ RdS w A l ∧ l.length ≤ cap ∧ cap ≤ maxLen ∧ (∀ a, A = some a → base ≤ a.block) := by
  rcases h.2 with ⟨e, hn⟩ | ⟨g, cap, cur, e, hg, hh, hc, hm, hs, ht⟩
  · refine ⟨none, 0, by rw [e, hn], ?_, by omega, by simp [maxLen], by simp⟩
    obtain rfl := List.eq_nil_of_length_eq_zero hn
    exact RdG.nil
  · refine ⟨some ⟨g, 0, none⟩, cap, e, fun _ => ⟨g, 0, rfl, (Array.getElem?_eq_some_iff.1 hh).1, fun i v hi => ?_⟩, hc, hm, fun a ha => by simp at ha; subst ha; exact hg⟩
    subst e
    have := World.ownsRow.cells h (g := g) rfl i (.string v) (by simp [strs', hi])
    simpa [Addr.add_lit] using this
theorem ownS_new (w : World) : OwnS (w.alloc (.cells #[] 9)) w.heap.size (.slice (some ⟨w.heap.size, 0, none⟩) 0 0) [] := by
  refine ⟨by simp [strs'], .inr ⟨w.heap.size, 0, #[], rfl, Nat.le_refl _, heap_alloc_new w (.cells #[] 9), by simp, by simp [maxLen], by simp, by simp [strs']⟩⟩

theorem run_appS {w : World} (ty : TypeId) (base : Nat) (v : Value) (l : List ByteArray) (hown : OwnS w base v l) (A : Option Addr) (c : Nat) (m : List ByteArray) (hr : RdS w A m)
    (hlen : l.length + m.length ≤ 8796093022208) (hbase : base ≤ w.heap.size) :
    ∃ v' w', (Builtin.append_ #[121, 121] ty #[v, .slice A m.length c]).run Tryz.prog w = .ok v' w' ∧ OwnS w' base v' (l ++ m) ∧ Only v.ownBlock.toList w w' := by
  obtain ⟨i0, hi, hz0, hz1, hz2⟩ := info_parts strInfos
  have hu := Tryz.underlying121
  by_cases h0 : 0 < m.length
  · obtain ⟨b, off, rfl, hb, hc⟩ := hr h0
    have hn : ∀ j u, (strs' m)[j]? = some u → w.cell? ((⟨b, off, none⟩ : Addr).add j) = some u := by
      intro j u hj
      unfold strs' at hj
      rw [List.getElem?_map] at hj
      obtain ⟨s, hs, rfl⟩ := Option.map_eq_some_iff.1 hj
      rw [Addr.add_lit]
      exact hc j s hs
    have h1c : ∀ u ∈ strs' m, u.oneCell' = true := by
      intro u hu
      unfold strs' at hu
      obtain ⟨s, _, rfl⟩ := List.mem_map.1 hu
      rfl
    obtain ⟨v', w', e, h1, h2, h3⟩ := run_append_own (P := Tryz.prog) w base 121 ty 9 i0 _ 1 16 hu hi hz0 hz1 hz2 rfl (by decide) v l.length (strs' l) hown ⟨b, off, none⟩ m.length c (strs' m) (by simp [strs']) hn h1c (by simp only [maxLen]; omega) (by omega) hbase
    exact ⟨v', w', e, by show World.ownsRow _ _ _ _ _ _ _; simpa [strs'] using h1, only_of_grown h2⟩
  · have e0 : m = [] := List.eq_nil_of_length_eq_zero (by omega)
    subst e0
    refine ⟨v, w, ?_, by rw [List.append_nil]; exact hown, Only.refl _ _⟩
    have hf : ∀ w' : World, (Builtin.firstCells 1 0 (.slice A 0 c)).run Tryz.prog w' = .ok #[] w' := by
      intro w'
      cases A <;> simp [Builtin.firstCells, loadCells, loadCellsFrom]
    rcases hown.2 with ⟨rfl, hn⟩ | ⟨g, cap, cur, rfl, _, _, hnc, _⟩
    · cases A <;> simp [Builtin.append_, run_underlying hu, sizeOf, typeInfo, hi, hz1, Builtin.lenOf, hf]
    · cases A <;> simp [Builtin.append_, run_underlying hu, sizeOf, typeInfo, hi, hz1, Builtin.lenOf, hf, hnc, storeCells]

theorem wpList_appS {w : World} {ops : Array Oper} {rest : List Oper} {o : Oper} {a : Act} {Q : Exit → Act → World → Prop} (hgd : o.guard = none) (s x : Operand)
    (ho : o.op = .call { callee := .builtin .append, args := #[s, x], argTypes := #[121, 121] })
    (base : Nat) (v : Value) (l : List ByteArray) (hs : a.eval s = v) (hown : OwnS w base v l) (A : Option Addr) (c : Nat) (m : List ByteArray) (k : Nat) (hk : m.length = k) (hx : a.eval x = .slice A k c) (hr : RdS w A m)
    (hlen : l.length + m.length ≤ 8796093022208) (hbase : base ≤ w.heap.size)
    (h : ∀ v' w', Hid (OwnS w' base v' (l ++ m)) → Only v.ownBlock.toList w w' → wpList Tryz.prog ops Q rest (a.put o.dst v') w') : wpList Tryz.prog ops Q (o :: rest) a w := by
  subst hk
  refine wpList_plain hgd fun K hK => ?_
  obtain ⟨v', w', hrun, h1, h2⟩ := run_appS o.type base v l hown A c m hr hlen hbase
  unfold Oper.wp execOp
  simp only [ho, resolve, invoke, builtin, Sem.run_bind, Sem.run_pure, Result.andThen_ok, List.map_toArray, List.map_cons, List.map_nil, hs, hx, hrun]
  exact hK _ _ (h v' w' h1 h2)
end Go.Proofs.YtdplnedpbkpgpaaGreatDoor

namespace Go.Proofs.YtdplnedpbkpgpaaGreatDoor
set_option linter.all false
open Go.RowKit

theorem intInfos2 : (Tryz.prog.info? 3).map (fun i => (i.zero, i.size, i.bytes)) = some (some (.int .i64 0), 1, 8) := by kernel_rfl
/-- A slice of integers of the call's own, in a block from base on. -/
def OwnI (w : World) (base : Nat) (v : Value) (l : List Int) : Prop := w.ownsRow base 3 1 v l.length (ints l)
theorem ownI_nil (w : World) (base : Nat) : OwnI w base (.slice none 0 0) [] := World.ownsRow_nil w base _ _
theorem OwnI.far {w w' : World} {base : Nat} {v : Value} {l : List Int} {L : List Nat} (h : OwnI w base v l) (hb : Only L w w') (hL : ∀ x ∈ L, some x ≠ v.ownBlock) : OwnI w' base v l := by
  refine ⟨h.1, ?_⟩
  rcases h.2 with h | ⟨g, cap, cur, e, hg, hh, r⟩
  · exact .inl h
  · exact .inr ⟨g, cap, cur, e, hg, (hb.block g (Array.getElem?_eq_some_iff.1 hh).1 (fun hm => hL g hm (by rw [e]; rfl))).trans hh, r⟩
theorem OwnI.block {w : World} {base : Nat} {v : Value} {l : List Int} (h : OwnI w base v l) : ∀ k, v.ownBlock = some k → base ≤ k ∧ k < w.heap.size := World.ownsRow.lt h
theorem OwnI.rd {w : World} {base : Nat} {v : Value} {l : List Int} (h : OwnI w base v l) : ∃ A cap, v = .slice A l.length cap ∧ RdI w A l ∧ l.length ≤ cap ∧ cap ≤ maxLen ∧ (∀ a, A = some a → base ≤ a.block) := by
  rcases h.2 with ⟨e, hn⟩ | ⟨g, cap, cur, e, hg, hh, hc, hm, hs, ht⟩
  · refine ⟨none, 0, by rw [e, hn], ?_, by omega, by simp [maxLen], by simp⟩
    obtain rfl := List.eq_nil_of_length_eq_zero hn
    exact RdG.nil
  · refine ⟨some ⟨g, 0, none⟩, cap, e, fun _ => ⟨g, 0, rfl, (Array.getElem?_eq_some_iff.1 hh).1, fun i v hi => ?_⟩, hc, hm, fun a ha => by simp at ha; subst ha; exact hg⟩
    subst e
    have := World.ownsRow.cells h (g := g) rfl i (.int .i64 v) (by simp [ints, hi])
    simpa [Addr.add_lit] using this
theorem ownI_new (w : World) : OwnI (w.alloc (.cells #[] 3)) w.heap.size (.slice (some ⟨w.heap.size, 0, none⟩) 0 0) [] := by
  refine ⟨by simp [ints], .inr ⟨w.heap.size, 0, #[], rfl, Nat.le_refl _, heap_alloc_new w (.cells #[] 3), by simp, by simp [maxLen], by simp, by simp [ints]⟩⟩

theorem run_appI {w : World} (ty : TypeId) (base : Nat) (v : Value) (l : List Int) (hown : OwnI w base v l) (A : Option Addr) (c : Nat) (m : List Int) (hr : RdI w A m)
    (hlen : l.length + m.length ≤ 8796093022208) (hbase : base ≤ w.heap.size) :
    ∃ v' w', (Builtin.append_ #[109, 109] ty #[v, .slice A m.length c]).run Tryz.prog w = .ok v' w' ∧ OwnI w' base v' (l ++ m) ∧ Only v.ownBlock.toList w w' := by
  obtain ⟨i0, hi, hz0, hz1, hz2⟩ := info_parts intInfos2
  have hu := Tryz.underlying109
  by_cases h0 : 0 < m.length
  · obtain ⟨b, off, rfl, hb, hc⟩ := hr h0
    have hn : ∀ j u, (ints m)[j]? = some u → w.cell? ((⟨b, off, none⟩ : Addr).add j) = some u := by
      intro j u hj
      unfold ints at hj
      rw [List.getElem?_map] at hj
      obtain ⟨s, hs, rfl⟩ := Option.map_eq_some_iff.1 hj
      rw [Addr.add_lit]
      exact hc j s hs
    have h1c : ∀ u ∈ ints m, u.oneCell' = true := by
      intro u hu
      unfold ints at hu
      obtain ⟨s, _, rfl⟩ := List.mem_map.1 hu
      rfl
    obtain ⟨v', w', e, h1, h2, h3⟩ := run_append_own (P := Tryz.prog) w base 109 ty 3 i0 _ 1 8 hu hi hz0 hz1 hz2 rfl (by decide) v l.length (ints l) hown ⟨b, off, none⟩ m.length c (ints m) (by simp [ints]) hn h1c (by simp only [maxLen]; omega) (by omega) hbase
    exact ⟨v', w', e, by show World.ownsRow _ _ _ _ _ _ _; simpa [ints] using h1, only_of_grown h2⟩
  · have e0 : m = [] := List.eq_nil_of_length_eq_zero (by omega)
    subst e0
    refine ⟨v, w, ?_, by rw [List.append_nil]; exact hown, Only.refl _ _⟩
    have hf : ∀ w' : World, (Builtin.firstCells 1 0 (.slice A 0 c)).run Tryz.prog w' = .ok #[] w' := by
      intro w'
      cases A <;> simp [Builtin.firstCells, loadCells, loadCellsFrom]
    rcases hown.2 with ⟨rfl, hn⟩ | ⟨g, cap, cur, rfl, _, _, hnc, _⟩
    · cases A <;> simp [Builtin.append_, run_underlying hu, sizeOf, typeInfo, hi, hz1, Builtin.lenOf, hf]
    · cases A <;> simp [Builtin.append_, run_underlying hu, sizeOf, typeInfo, hi, hz1, Builtin.lenOf, hf, hnc, storeCells]

theorem wpList_appI {w : World} {ops : Array Oper} {rest : List Oper} {o : Oper} {a : Act} {Q : Exit → Act → World → Prop} (hgd : o.guard = none) (s x : Operand)
    (ho : o.op = .call { callee := .builtin .append, args := #[s, x], argTypes := #[109, 109] })
    (base : Nat) (v : Value) (l : List Int) (hs : a.eval s = v) (hown : OwnI w base v l) (A : Option Addr) (c : Nat) (m : List Int) (k : Nat) (hk : m.length = k) (hx : a.eval x = .slice A k c) (hr : RdI w A m)
    (hlen : l.length + m.length ≤ 8796093022208) (hbase : base ≤ w.heap.size)
    (h : ∀ v' w', Hid (OwnI w' base v' (l ++ m)) → Only v.ownBlock.toList w w' → wpList Tryz.prog ops Q rest (a.put o.dst v') w') : wpList Tryz.prog ops Q (o :: rest) a w := by
  subst hk
  refine wpList_plain hgd fun K hK => ?_
  obtain ⟨v', w', hrun, h1, h2⟩ := run_appI o.type base v l hown A c m hr hlen hbase
  unfold Oper.wp execOp
  simp only [ho, resolve, invoke, builtin, Sem.run_bind, Sem.run_pure, Result.andThen_ok, List.map_toArray, List.map_cons, List.map_nil, hs, hx, hrun]
  exact hK _ _ (h v' w' h1 h2)
end Go.Proofs.YtdplnedpbkpgpaaGreatDoor
