/- Slices of a call's own of any element, appended to; over any program; no condition but the sizes. -/
import Derived.Test.YtmmcamkmglpgiaaGreatDoorApp3
import Derived.Test.YtmmcamkmglpgiaaGreatDoorReads
namespace Go.Proofs.YtmmcamkmglpgiaaGreatDoor
set_option linter.all false
open Go.RowKit

/-- The type of a slice's elements: so many cells, so many bytes. -/
structure ElemT (P : Program) (tS E : TypeId) (size bytes : Nat) : Prop where
  ht : P.underlying tS = some (.slice E)
  info : ∃ (i : TypeInfo) (z : Value), P.info? E = some i ∧ i.zero = some z ∧ i.size = size ∧ i.bytes = bytes ∧ z.cells.size = size
  pos : 0 < size
theorem elemT_of {P : Program} {tS E : TypeId} {size bytes : Nat} {z : Value} (ht : P.underlying tS = some (.slice E)) (hi : (P.info? E).map (fun i => (i.zero, i.size, i.bytes)) = some (some z, size, bytes)) (hz : z.cells.size = size) (hp : 0 < size) : ElemT P tS E size bytes := by
  obtain ⟨i0, h1, h2, h3, h4⟩ := info_parts hi
  exact ⟨ht, ⟨i0, z, h1, h2, h3, h4, hz⟩, hp⟩
section
variable {α : Type}
/-- The slice v is of the call's own (from block base on) and holds these. -/
def OwnX (cf : α → List Value) (E : TypeId) (size : Nat) (w : World) (base : Nat) (v : Value) (l : List α) : Prop := w.ownsRow base E size v l.length (l.flatMap cf)
/-- A slice that is read. -/
def RdX (cf : α → List Value) (w : World) (A : Option Addr) (l : List α) : Prop :=
  0 < l.length → ∃ b off, A = some ⟨b, off, none⟩ ∧ b < w.heap.size ∧ ∀ j u, (l.flatMap cf)[j]? = some u → w.cell? ⟨b, off + j, none⟩ = some u
variable {cf : α → List Value} {E : TypeId} {size : Nat} {w w' : World} {base : Nat} {v : Value} {l : List α} {A : Option Addr}
theorem ownX_nil : OwnX cf E size w base (.slice none 0 0) [] := World.ownsRow_nil w base _ _
theorem OwnX.far {L : List Nat} (h : OwnX cf E size w base v l) (hb : Only L w w') (hL : ∀ x ∈ L, some x ≠ v.ownBlock) : OwnX cf E size w' base v l := by
  rcases h with ⟨h1, h2 | ⟨g, cap, cur, rfl, hg, hh, hr⟩⟩
  · exact ⟨h1, .inl h2⟩
  · exact ⟨h1, .inr ⟨g, cap, cur, rfl, hg, (hb.block g (Array.getElem?_eq_some_iff.1 hh).1 (fun hm => hL g hm rfl)).trans hh, hr⟩⟩
theorem OwnX.only (h : OwnX cf E size w base v l) (hb : Only [] w w') : OwnX cf E size w' base v l := h.far hb (fun x hx => by simp at hx)
theorem OwnX.mono {base' : Nat} (h : OwnX cf E size w base v l) (hb : base' ≤ base) : OwnX cf E size w base' v l := by
  rcases h with ⟨h1, h2 | ⟨g, cap, cur, rfl, hg, hh⟩⟩
  · exact ⟨h1, .inl h2⟩
  · exact ⟨h1, .inr ⟨g, cap, cur, rfl, by omega, hh⟩⟩
theorem OwnX.block (h : OwnX cf E size w base v l) : ∀ k, v.ownBlock = some k → base ≤ k ∧ k < w.heap.size := World.ownsRow.lt h
theorem OwnX.form (h : OwnX cf E size w base v l) : ∃ A cap, v = .slice A l.length cap ∧ l.length ≤ cap ∧ cap ≤ maxLen ∧ RdX cf w A l ∧ ∀ a, A = some a → base ≤ a.block ∧ a.block < w.heap.size ∧ v.ownBlock = some a.block := by
  have hb := h.block
  rcases h with ⟨h1, ⟨rfl, hn⟩ | ⟨g, cap, cur, rfl, hg, hh, hc, hm, hs, ht⟩⟩
  · exact ⟨none, 0, by rw [hn], by omega, by simp [maxLen], fun h0 => by omega, fun a ha => by cases ha⟩
  · refine ⟨some ⟨g, 0, none⟩, cap, rfl, hc, hm, fun _ => ⟨g, 0, rfl, (Array.getElem?_eq_some_iff.1 hh).1, fun j u hj => ?_⟩, fun a ha => ?_⟩
    · have := World.ownsRow.cells (w := w) (base := base) (e := E) (size := size) (n := l.length) (xs := l.flatMap cf) ⟨h1, .inr ⟨g, cap, cur, rfl, hg, hh, hc, hm, hs, ht⟩⟩ (g := g) rfl j u hj
      simpa [Addr.add_lit] using this
    · injection ha with ha
      subst ha
      exact ⟨(hb _ rfl).1, (hb _ rfl).2, rfl⟩
theorem RdX.only (h : RdX cf w A l) (hb : Only [] w w') : RdX cf w' A l := fun h0 => by
  obtain ⟨b, off, e, hlt, hc⟩ := h h0
  exact ⟨b, off, e, Nat.lt_of_lt_of_le hlt hb.size, fun j u hj => (World.cell?_of_block (w := w) (hb.block b hlt (by simp))).trans (hc j u hj)⟩
theorem RdX.far {L : List Nat} (h : RdX cf w A l) (hb : Only L w w') (hL : ∀ a, A = some a → 0 < l.length → a.block ∉ L) : RdX cf w' A l := fun h0 => by
  obtain ⟨b, off, e, hlt, hc⟩ := h h0
  refine ⟨b, off, e, Nat.lt_of_lt_of_le hlt hb.size, fun j u hj => ?_⟩
  have hk := hc j u hj
  have hbk := hb.block b hlt (hL _ e h0)
  exact (World.cell?_of_block (w := w) hbk).trans hk
theorem rdX_nil : RdX cf w A [] := fun h => absurd h (Nat.lt_irrefl _)
/-- A literal of these. -/
theorem ownX_lit (w : World) (l : List α) (n : Nat) (hn : l.length = n) (hm : n ≤ maxLen) (hc : ∀ x, (cf x).length = size) (cs : Array Value) (h : cs = (l.flatMap cf).toArray) : OwnX cf E size (w.alloc (.cells cs E)) w.heap.size (.slice (some ⟨w.heap.size, 0, none⟩) n n) l := by
  subst h
  subst hn
  have hl : ∀ l : List α, (l.flatMap cf).length = l.length * size := by
    intro l
    induction l with
    | nil => simp
    | cons a l ih => rw [List.flatMap_cons, List.length_append, ih, hc, List.length_cons, Nat.succ_mul]; omega
  exact ⟨hl l, .inr ⟨w.heap.size, l.length, (l.flatMap cf).toArray, rfl, Nat.le_refl _, heap_alloc_new w (.cells (l.flatMap cf).toArray E), Nat.le_refl _, hm, by simp [hl l], by rw [← hl l]; exact List.take_of_length_le (Nat.le_refl _)⟩⟩
variable {P : Program} {tS : TypeId} {bytes : Nat}
theorem run_appX (ht : ElemT P tS E size bytes) (ty : TypeId) (hone : ∀ x, ∀ u ∈ cf x, u.oneCell' = true) (hown : OwnX cf E size w base v l) (A : Option Addr) (c : Nat) (gs : List α) (hgl : (gs.flatMap cf).length = gs.length * size) (hr : RdX cf w A gs)
    (hlen : l.length + gs.length ≤ maxLen) (hby : (l.length + gs.length) * bytes ≤ 140737488355328) (hbase : base ≤ w.heap.size) :
    ∃ v' w', (Builtin.append_ #[tS, tS] ty #[v, .slice A gs.length c]).run P w = .ok v' w' ∧ OwnX cf E size w' base v' (l ++ gs) ∧ Only v.ownBlock.toList w w' ∧ Where2 v v' w.heap.size := by
  obtain ⟨hu, ⟨i0, z, hi, hz0, hz1, hz2, hzs⟩, hpos⟩ := ht
  by_cases h0 : 0 < gs.length
  · obtain ⟨b, off, rfl, hb, hc⟩ := hr h0
    have hn : ∀ j u, (gs.flatMap cf)[j]? = some u → w.cell? ((⟨b, off, none⟩ : Addr).add j) = some u := fun j u hj => by rw [Addr.add_lit]; exact hc j u hj
    have h1c : ∀ u ∈ gs.flatMap cf, u.oneCell' = true := fun u hu => by
      obtain ⟨x, _, hx⟩ := List.mem_flatMap.1 hu
      exact hone x u hx
    obtain ⟨v', w', e, h1, h2, h3⟩ := run_append_own (P := P) w base tS ty E i0 z size bytes hu hi hz0 hz1 hz2 hzs hpos v l.length (l.flatMap cf) hown ⟨b, off, none⟩ gs.length c (gs.flatMap cf) hgl hn h1c hlen hby hbase
    have hwh : v'.ownBlock = v.ownBlock ∨ v'.ownBlock = some w.heap.size := by
      have hle : (l.length + gs.length) * i0.bytes ≤ 140737488355328 := by rw [hz2]; exact hby
      have hlm : ((l.length + gs.length : Nat) : Int) ≤ 9223372036854775807 := by unfold maxLen at hlen; omega
      rcases hown.2 with ⟨rfl, hn0⟩ | ⟨g, cap, cur, rfl, hg, hh, hc2, hm, hs, htk⟩
      · have := run_append_nil (P := P) w tS ty E i0 z hu hi hz0 ⟨b, off, none⟩ gs.length c (gs.flatMap cf) (by rw [hz1]; exact hgl) hn h0 (by omega) (by rw [hn0, Nat.zero_add] at hle; omega)
        rw [this] at e
        injection e with e1 e2
        right; rw [← e1]; rfl
      · by_cases hroom : l.length + gs.length ≤ cap
        · obtain ⟨w2, e2, _⟩ := run_append_fits (P := P) w base tS ty E i0 size hu hi hz1 g l.length cap (l.flatMap cf) hown ⟨b, off, none⟩ gs.length c (gs.flatMap cf) hgl hn h1c hroom
          rw [e2] at e
          injection e with e1 _
          left; rw [← e1]; rfl
        · have holds : ∀ j u, (l.flatMap cf)[j]? = some u → w.cell? ((⟨g, 0, none⟩ : Addr).add j) = some u := World.ownsRow.cells hown (g := g) rfl
          have := run_append_grow (P := P) w tS ty E i0 z hu hi hz0 ⟨g, 0, none⟩ l.length cap (l.flatMap cf) (by rw [hz1]; exact hown.1) holds ⟨b, off, none⟩ gs.length c (gs.flatMap cf) (by rw [hz1]; exact hgl) hn (by omega) (by omega) (growslice_fits (by omega) (by omega))
          rw [this] at e
          injection e with e1 _
          right; rw [← e1]; rfl
    exact ⟨v', w', e, by show World.ownsRow _ _ _ _ _ _ _; simpa [List.flatMap_append] using h1, only_of_grown h2, hwh⟩
  · have e0 : gs = [] := List.eq_nil_of_length_eq_zero (by omega)
    subst e0
    refine ⟨v, w, ?_, by rw [List.append_nil]; exact hown, Only.refl _ _, .inl rfl⟩
    have hf : ∀ w' : World, (Builtin.firstCells size 0 (.slice A 0 c)).run P w' = .ok #[] w' := by
      intro w'
      cases A <;> simp [Builtin.firstCells, loadCells, loadCellsFrom]
    rcases hown.2 with ⟨rfl, hn⟩ | ⟨g, cap, cur, rfl, _, _, hnc, _⟩
    · cases A <;> simp [Builtin.append_, run_underlying hu, sizeOf, typeInfo, hi, hz1, Builtin.lenOf, hf]
    · cases A <;> simp [Builtin.append_, run_underlying hu, sizeOf, typeInfo, hi, hz1, Builtin.lenOf, hf, hnc, storeCells]
/-- The operation append, as it stands in a region. -/
theorem wp_appX {o : Oper} {a : Act} {K : Act → World → Prop} {Q : Exit → Act → World → Prop} (s x : Operand)
    (ht : ElemT P tS E size bytes) (ho : o.op = .call { callee := .builtin .append, args := #[s, x], argTypes := #[tS, tS] })
    (hone : ∀ x, ∀ u ∈ cf x, u.oneCell' = true) (hcl : ∀ x, (cf x).length = size) (hs : a.eval s = v) (hown : OwnX cf E size w base v l) (A : Option Addr) (c : Nat) (gs : List α) (n : Nat) (hn : gs.length = n) (hx : a.eval x = .slice A n c) (hr : RdX cf w A gs)
    (hlen : l.length + gs.length ≤ maxLen) (hby : (l.length + gs.length) * bytes ≤ 140737488355328) (hbase : base ≤ w.heap.size)
    (h : ∀ v' w', Hid (OwnX cf E size w' base v' (l ++ gs)) → Only v.ownBlock.toList w w' → Hid (Where2 v v' w.heap.size) → K (a.put o.dst v') w') : o.wp P a w K Q := by
  subst hn
  have hgl : (gs.flatMap cf).length = gs.length * size := by
    clear hx hr hlen hby h
    induction gs with
    | nil => simp
    | cons a gs ih => rw [List.flatMap_cons, List.length_append, ih, hcl, List.length_cons, Nat.succ_mul]; omega
  obtain ⟨v', w', hrun, h1, h2, h3⟩ := run_appX ht o.type hone hown A c gs hgl hr hlen hby hbase
  unfold Oper.wp execOp
  simp only [ho, resolve, invoke, builtin, Sem.run_bind, Sem.run_pure, Result.andThen_ok, List.map_toArray, List.map_cons, List.map_nil, hs, hx, hrun]
  exact h v' w' h1 h2 h3
theorem wpList_appX {ops : Array Oper} {rest : List Oper} {o : Oper} {a : Act} {Q : Exit → Act → World → Prop} (hgd : o.guard = none) (s x : Operand)
    (ht : ElemT P tS E size bytes) (ho : o.op = .call { callee := .builtin .append, args := #[s, x], argTypes := #[tS, tS] })
    (hone : ∀ x, ∀ u ∈ cf x, u.oneCell' = true) (hcl : ∀ x, (cf x).length = size) (hs : a.eval s = v) (hown : OwnX cf E size w base v l) (A : Option Addr) (c : Nat) (gs : List α) (n : Nat) (hn : gs.length = n) (hx : a.eval x = .slice A n c) (hr : RdX cf w A gs)
    (hlen : l.length + gs.length ≤ maxLen) (hby : (l.length + gs.length) * bytes ≤ 140737488355328) (hbase : base ≤ w.heap.size)
    (h : ∀ v' w', Hid (OwnX cf E size w' base v' (l ++ gs)) → Only v.ownBlock.toList w w' → Hid (Where2 v v' w.heap.size) → wpList P ops Q rest (a.put o.dst v') w') : wpList P ops Q (o :: rest) a w :=
  wpList_plain hgd fun K hK => wp_appX s x ht ho hone hcl hs hown A c gs n hn hx hr hlen hby hbase (fun v' w' h1 h2 h3 => hK _ _ (h v' w' h1 h2 h3))
end
end Go.Proofs.YtmmcamkmglpgiaaGreatDoor
