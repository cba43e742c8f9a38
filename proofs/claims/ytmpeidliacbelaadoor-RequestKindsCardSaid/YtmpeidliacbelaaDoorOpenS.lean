/- Arguments opened with their reach: slices of structs, slices of integers; over any program, no condition. -/
import Derived.Test.YtmpeidliacbelaaDoorFrameS
namespace Go.Proofs.YtmpeidliacbelaaDoor
set_option linter.all false
open Go.ChangeShapes Go.WideShapes Go.ChangeAt Go.RowKit Go.Deep

/-- All that a datum holds is within reach. -/
def Light {H : Type} (P : Program) (t : TypeId) (d : DataW H) : Prop := ∀ n ∈ d.weights P t, n ≤ reachBytes
section
variable {H : Type} {enc : TypeId × Value → H} {P : Program} {w : World} {base : Nat} {spare : Nat → Bool} {held : Bool}
theorem light_of {t : TypeId} {d : DataW H} (h : (d.weights P t).all (· ≤ reachBytes) = true) : Light P t d := fun n hn => by
  have := List.all_eq_true.1 h n hn
  simpa using this
theorem light_arg {ts : List TypeId} {ds : List (DataW H)} {j : Nat} {t : TypeId} {d : DataW H} (h : (DataW.weightsEach P ts ds).all (· ≤ reachBytes) = true) (ht : ts[j]? = some t) (hd : ds[j]? = some d) : Light P t d := fun n hn => by
  have := List.all_eq_true.1 h n (DataW.weights_mem_each ht hd n hn)
  simpa using this
theorem weightsAll_mem {e : TypeId} : ∀ {ds : List (DataW H)} {d : DataW H}, d ∈ ds → ∀ n ∈ d.weights P e, n ∈ DataW.weightsAll P e ds
  | d0 :: ds, d, hd, n, hn => by
    simp only [DataW.weightsAll, List.mem_append]
    rcases List.mem_cons.1 hd with rfl | hd
    · exact .inl hn
    · exact .inr (weightsAll_mem hd n hn)
theorem Light.elem {t e : TypeId} {xs sp : List (DataW H)} (ht : P.underlying t = some (.slice e)) (h : Light P t (.slice xs sp)) : ∀ d ∈ xs, Light P e d := fun d hd n hn => h n (by
  simp only [DataW.weights, ht, List.mem_cons, List.mem_append]
  exact .inr (.inl (weightsAll_mem hd n hn)))
theorem Light.len {t e : TypeId} {xs sp : List (DataW H)} (ht : P.underlying t = some (.slice e)) (h : Light P t (.slice xs sp)) : (xs.length + sp.length) * P.bytesOf e ≤ reachBytes := h _ (by simp [DataW.weights, ht])
theorem Light.part {t : TypeId} {fs : Array Field} {xs : List (DataW H)} (ht : P.underlying t = some (.struct fs)) (h : Light P t (.agg xs)) : ∀ (j : Nat) (f : Field) (d : DataW H), fs[j]? = some f → xs[j]? = some d → Light P f.type d := fun j f d hf hd n hn => h n (by
  simp only [DataW.weights, ht]
  exact DataW.weights_mem_each (j := j) (by simp [hf]) hd n hn)

/-- A slice of structs, whatever their fields (each of one cell): each field's cell, its reading, its reach. -/
theorem openS_structs {t e : TypeId} {fs : Array Field} {v : Value} {d : DataW H} {p : List MemPlace} {r : Reach} {b0 : Nat} (ht : P.underlying t = some (.slice e)) (he : P.underlying e = some (.struct fs))
    (hone : oneCellFields P fs = true) (hC : P.cellsOf e = fs.size) (h0 : 0 < fs.size) (hv : Value.okWide P w r b0 t v) (h : DataW.Trod enc P w base spare held t v d p) (hl : Light P t d) :
    ∃ (A : Option Addr) (len cap : Nat), v = .slice A len cap ∧ len ≤ cap ∧ cap ≤ maxLen ∧ len * P.bytesOf e ≤ reachBytes ∧
      (0 < len → ∃ b off, A = some ⟨b, off, none⟩ ∧ b < w.heap.size ∧ ∀ i, i < len → ∃ n, ∀ (j : Nat) (f : Field), fs[j]? = some f → ∃ (c : Value) (y : DataW H × List MemPlace), w.cell? ⟨b, off + (i * fs.size + j), none⟩ = some c ∧ DataW.trod enc P w base spare held n f.type [c] = some y ∧ Light P f.type y.1) := by
  obtain ⟨a0, len, cap, rfl⟩ := okWide_slice ht hv
  obtain ⟨fuel, hf⟩ := h
  rcases open_slice_fields ht he hone hC hf with ⟨hcs, _⟩ | ⟨a, l, c, m, D, Pl, hcs, _, hlc, hm, hmm, hx, hi⟩
  · simp [Value.cells] at hcs
    obtain ⟨rfl, rfl, rfl⟩ := hcs
    exact ⟨none, 0, 0, rfl, Nat.le_refl _, Nat.zero_le _, by simp, fun h => absurd h (Nat.lt_irrefl _)⟩
  · simp [Value.cells] at hcs
    obtain ⟨rfl, rfl, rfl⟩ := hcs
    simp only [Prod.mk.injEq] at hx
    obtain ⟨rfl, rfl⟩ := hx
    have hlm : len ≤ m := by rw [hmm]; split <;> omega
    refine ⟨some a, len, cap, rfl, hlc, hm, ?_, fun hl0 => ?_⟩
    · have := hl.len ht
      simp at this
      exact Nat.le_trans (Nat.mul_le_mul_right _ (Nat.le_add_right _ _)) this
    · have cell : ∀ i j v, i < len → w.cell? (a.add (i * fs.size + j)) = some v → (i * fs.size + j ≠ 0 ∨ a.spot = none) → w.cell? ⟨a.block, a.off + (i * fs.size + j), none⟩ = some v := by
        intro i j v _ hc hn
        obtain ⟨b, o, s⟩ := a
        unfold Addr.add at hc
        split at hc
        · rename_i h0
          rw [h0] at hn ⊢
          rcases hn with hn | hn
          · exact absurd rfl hn
          · simp at hn; subst hn; exact hc
        · exact hc
      obtain ⟨ys0, n0, _, _, hy0, hf0⟩ := hi 0 (by omega)
      obtain ⟨v0, y0, e0, _, _⟩ := hf0 0 (fs[0]'h0) (by simp [h0])
      simp only [Nat.zero_mul, Nat.add_zero] at e0
      have hs : a.spot = none := by
        obtain ⟨b, o, s⟩ := a
        unfold Addr.add at e0
        simp at e0
        unfold World.cell? at e0
        cases s with
        | none => rfl
        | some s => simp at e0; split at e0 <;> simp at e0
      refine ⟨a.block, a.off, by obtain ⟨b, o, s⟩ := a; simp at hs; rw [hs], ?_, fun i hil => ?_⟩
      · have := cell 0 0 v0 hl0 (by simpa using e0) (.inr hs)
        exact World.block_lt_of_cell? w ⟨a.block, a.off + (0 * fs.size + 0), none⟩ this
      · obtain ⟨ys, n, hD, _, hyl, hff⟩ := hi i (by omega)
        refine ⟨n, fun j f hj => ?_⟩
        obtain ⟨v, y, hc, hy, htr⟩ := hff j f hj
        refine ⟨v, y, cell i j v hil hc (.inr hs), htr, ?_⟩
        have hLi : Light P e (D i) := hl.elem ht (D i) (List.mem_map.2 ⟨i, List.mem_range.2 hil, rfl⟩)
        rw [hD] at hLi
        exact hLi.part he j f y.1 hj (by simp [hy])

theorem aggS_ints {k : IntKind} {n : Nat} {t e : TypeId} {c : Value} {y : DataW H × List MemPlace} (ht : P.underlying t = some (.slice e)) (he : P.underlying e = some (.int k)) (hc : P.cellsOf e = 1) (h : DataW.trod enc P w base spare held n t [c] = some y) (hl : Light P t y.1) :
    ∃ A len cap zs, c = .slice A len cap ∧ len ≤ cap ∧ cap ≤ maxLen ∧ Ints k w A len zs ∧ len * P.bytesOf e ≤ reachBytes := by
  rcases Go.ChangeShapes.open_ints ht he hc h with ⟨hcs, _⟩ | ⟨a, l, c', zs, hcs, _, hl', hm, hz, hx, hcell, hwz⟩
  · simp at hcs
    subst hcs
    exact ⟨none, 0, 0, [], rfl, Nat.le_refl _, Nat.zero_le _, ⟨rfl, Nat.zero_le _, by simp, by simp⟩, by simp⟩
  · simp at hcs
    subst hcs
    have hlz : l ≤ zs.length := by split at hz <;> omega
    refine ⟨some a, l, c', zs.take l, rfl, hl', hm, ⟨by simp; omega, by omega, fun n hn => hwz n (List.mem_of_mem_take hn), fun h0 => ?_⟩, ?_⟩
    · obtain ⟨b, off, rfl, hc'⟩ := ints_at hcell (by omega)
      refine ⟨b, off, rfl, World.block_lt_of_cell? w _ (hc' 0 (by omega)), fun i hi => ?_⟩
      rw [hc' i (by omega)]
      simp [List.getD_eq_getElem?_getD, List.getElem?_take, hi]
    · rw [hx] at hl
      have := hl.len ht
      simp [lits] at this
      refine Nat.le_trans (Nat.mul_le_mul_right _ ?_) this
      omega
end
end Go.Proofs.YtmpeidliacbelaaDoor
