/- Slices of bytes that a call has made itself: what they read as; append to them; over the program's own type of bytes, no condition. -/
import Derived.Test.YtdmjabfjkkjhbaaDoorMem
import Derived.Test.YtdmjabfjkkjhbaaDoorBytes
import Derived.Laws.AppendOwnNone
namespace Go.Proofs.YtdmjabfjkkjhbaaDoor
set_option linter.all false
open Go.RowKit

theorem u8infos : (Tryd.prog.info? 5).map (fun i => (i.zero, i.size, i.bytes)) = some (some (.int .u8 0), 1, 1) := by kernel_rfl

/-- A slice of bytes of the call's own, in a block from base on: it reads as l. -/
def OwnB (w : World) (base : Nat) (v : Value) (l : List Int) : Prop := w.ownsRow base 5 1 v l.length (u8s l)
section
variable {w w' : World} {base : Nat} {v : Value} {l : List Int} {L : List Nat}
theorem ownB_nil (w : World) (base : Nat) : OwnB w base (.slice none 0 0) [] := World.ownsRow_nil w base _ _
theorem ownB_lit (w : World) (base : Nat) (l : List Int) (hb : base ≤ w.heap.size) (hl : l.length ≤ maxLen) : OwnB (w.alloc (.cells (u8s l).toArray 5)) base (.slice (some ⟨w.heap.size, 0, none⟩) l.length l.length) l := by
  have := World.ownsRow_lit (w := w) (base := base) (e := 5) (size := 1) (u8s l).toArray l.length hb hl (by simp [u8s])
  simpa [OwnB] using this
theorem ownB_blk {g : Nat} (h : Blk w g 5 (u8s l)) (hb : base ≤ g) (hl : l.length ≤ maxLen) : OwnB w base (.slice (some ⟨g, 0, none⟩) l.length l.length) l :=
  ⟨by simp [u8s], .inr ⟨g, l.length, (u8s l).toArray, rfl, hb, h, Nat.le_refl _, hl, by simp [u8s], by rw [List.take_of_length_le (by simp [u8s])]⟩⟩
theorem OwnB.mono {base' : Nat} (h : OwnB w base v l) (hb : base' ≤ base) : OwnB w base' v l := by
  refine ⟨h.1, ?_⟩
  rcases h.2 with h | ⟨g, cap, cur, e, hg, r⟩
  · exact .inl h
  · exact .inr ⟨g, cap, cur, e, by omega, r⟩
theorem OwnB.only (h : OwnB w base v l) (hb : Only L w w') (hL : ∀ x ∈ L, x < base) : OwnB w' base v l := by
  refine ⟨h.1, ?_⟩
  rcases h.2 with h | ⟨g, cap, cur, e, hg, hh, r⟩
  · exact .inl h
  · exact .inr ⟨g, cap, cur, e, hg, (hb.block g (Array.getElem?_eq_some_iff.1 hh).1 (fun hm => by have := hL g hm; omega)).trans hh, r⟩
theorem OwnB.far (h : OwnB w base v l) (hb : Only L w w') (hL : ∀ x ∈ L, some x ≠ v.ownBlock) : OwnB w' base v l := by
  refine ⟨h.1, ?_⟩
  rcases h.2 with h | ⟨g, cap, cur, e, hg, hh, r⟩
  · exact .inl h
  · exact .inr ⟨g, cap, cur, e, hg, (hb.block g (Array.getElem?_eq_some_iff.1 hh).1 (fun hm => hL g hm (by rw [e]; rfl))).trans hh, r⟩
theorem OwnB.block (h : OwnB w base v l) : ∀ k, v.ownBlock = some k → base ≤ k ∧ k < w.heap.size := World.ownsRow.lt h
/-- What it reads as, for whoever reads it. -/
theorem OwnB.rd (h : OwnB w base v l) : ∃ A cap, v = .slice A l.length cap ∧ Rd w A l ∧ l.length ≤ cap ∧ cap ≤ maxLen ∧ (∀ a, A = some a → base ≤ a.block) := by
  rcases h.2 with ⟨e, hn⟩ | ⟨g, cap, cur, e, hg, hh, hc, hm, hs, ht⟩
  · exact ⟨none, 0, by rw [e, hn], fun h0 => absurd h0 (by omega), by omega, by simp [maxLen], fun a ha => by cases ha⟩
  · refine ⟨some ⟨g, 0, none⟩, cap, e, fun _ => ⟨g, 0, rfl, (Array.getElem?_eq_some_iff.1 hh).1, fun i x hx => ?_⟩, hc, hm, fun a ha => by injection ha with ha; rw [← ha]; exact hg⟩
    subst e
    have := World.ownsRow.cells h (g := g) rfl i (.int .u8 x) (by rw [getElem?_u8s, hx]; rfl)
    simpa [Addr.add_lit] using this
end

/-- The cells that a slice of bytes reads as. -/
theorem Rd.news {w : World} {A : Option Addr} {l : List Int} (h : Rd w A l) (h0 : 0 < l.length) : ∃ ad, A = some ad ∧ ∀ j u, (u8s l)[j]? = some u → w.cell? (ad.add j) = some u := by
  obtain ⟨b, off, rfl, _, hc⟩ := h h0
  refine ⟨_, rfl, fun j u hu => ?_⟩
  rw [getElem?_u8s] at hu
  simp at hu
  obtain ⟨x, hx, rfl⟩ := hu
  have := hc j x hx
  simpa [Addr.add_lit] using this

/-- What append(s, x...) comes to, s of the call's own, x whatever reads as m. -/
theorem run_app {w : World} (ty : TypeId) (base : Nat) (v : Value) (l : List Int) (hown : OwnB w base v l) (A : Option Addr) (c : Nat) (m : List Int) (hr : Rd w A m)
    (hlen : l.length + m.length ≤ 140737488355328) (hbase : base ≤ w.heap.size) :
    ∃ v' w', (Builtin.append_ #[23, 23] ty #[v, .slice A m.length c]).run Tryd.prog w = .ok v' w' ∧ OwnB w' base v' (l ++ m) ∧ Only v.ownBlock.toList w w' ∧ (v' = .slice none 0 0 ↔ v = .slice none 0 0 ∧ m.length = 0) := by
  obtain ⟨i0, hi, hz0, hz1, hz2⟩ := info_parts u8infos
  have hu := Tryd.underlying23
  by_cases h0 : 0 < m.length
  · obtain ⟨ad, rfl, hn⟩ := hr.news h0
    obtain ⟨v', w', e, h1, h2, h3⟩ := run_append_own (P := Tryd.prog) w base 23 ty 5 i0 (.int .u8 0) 1 1 hu hi hz0 hz1 hz2 rfl (by decide) v l.length (u8s l) hown ad m.length c (u8s m) (by simp [u8s]) hn (u8s_one m) (by simp only [maxLen]; omega) (by omega) hbase
    exact ⟨v', w', e, by show World.ownsRow _ _ _ _ _ _ _; simpa [u8s] using h1, only_of_grown h2, h3⟩
  · have e0 : m = [] := List.eq_nil_of_length_eq_zero (by omega)
    subst e0
    refine ⟨v, w, ?_, by rw [List.append_nil]; exact hown, Only.refl _ _, by simp⟩
    have hf : ∀ w' : World, (Builtin.firstCells 1 0 (.slice A 0 c)).run Tryd.prog w' = .ok #[] w' := by
      intro w'
      cases A <;> simp [Builtin.firstCells, loadCells, loadCellsFrom]
    rcases hown.2 with ⟨rfl, hn⟩ | ⟨g, cap, cur, rfl, _, _, hnc, _⟩
    · cases A <;> simp [Builtin.append_, run_underlying hu, sizeOf, typeInfo, hi, hz1, Builtin.lenOf, hf]
    · cases A <;> simp [Builtin.append_, run_underlying hu, sizeOf, typeInfo, hi, hz1, Builtin.lenOf, hf, hnc, storeCells]

/-- append(s, x...), s of the call's own, x whatever reads as m. -/
theorem wpList_app {w : World} {ops : Array Oper} {rest : List Oper} {o : Oper} {a : Act} {Q : Exit → Act → World → Prop} (hgd : o.guard = none) (s x : Operand)
    (ho : o.op = .call { callee := .builtin .append, args := #[s, x], argTypes := #[23, 23] })
    (base : Nat) (v : Value) (l : List Int) (hs : a.eval s = v) (hown : OwnB w base v l) (A : Option Addr) (c : Nat) (m : List Int) (hx : a.eval x = .slice A m.length c) (hr : Rd w A m)
    (hlen : l.length + m.length ≤ 140737488355328) (hbase : base ≤ w.heap.size)
    (h : ∀ v' w', Hid (OwnB w' base v' (l ++ m)) → Only v.ownBlock.toList w w' → Hid (v' = .slice none 0 0 ↔ v = .slice none 0 0 ∧ m.length = 0) → wpList Tryd.prog ops Q rest (a.put o.dst v') w') : wpList Tryd.prog ops Q (o :: rest) a w := by
  refine wpList_plain hgd fun K hK => ?_
  obtain ⟨v', w', hrun, h1, h2, h3⟩ := run_app o.type base v l hown A c m hr hlen hbase
  unfold Oper.wp execOp
  simp only [ho, resolve, invoke, builtin, Sem.run_bind, Sem.run_pure, Result.andThen_ok, List.map_toArray, List.map_cons, List.map_nil, hs, hx, hrun]
  exact hK _ _ (h v' w' h1 h2 h3)
end Go.Proofs.YtdmjabfjkkjhbaaDoor
