/- Arguments opened: structs by value, whatever the number of their fields; no condition · The frame of a law whose walk is told the reach of its arguments; no condition · Arguments opened with their reach: slices of structs, slices of integers; over any program, no condition · Arguments opened: a slice of fields, of any bytes and texts; no condition · Arguments opened: structs whose fields are structs, strings, flags; no condition · Arguments opened: a request; no condition · The frame of a law whose row lists tables: if the call returns true and leaves all memory that was there as it was, then the law's row holds; the walk is told the reach and the world's shape; no condition. -/
import Derived.Test.YtmpeidliacbelaaGreatDoorKit
import Derived.Deep.Fields
import Derived.Deep.Slices
import Derived.Test.YtmpeidliacbelaaGreatDoorFrame
import Derived.SizedLaws
import Derived.Test.YtmpeidliacbelaaGreatDoorOctW
import Derived.Deep.Strs
import Derived.Test.YtmpeidliacbelaaGreatDoorReqP
import Derived.HandedShaped
import Derived.Shelf.Vars
import Derived.Lay
import Derived.LaidLaws
import Derived.SevenTiedAt
namespace Go.Proofs.YtmpeidliacbelaaGreatDoor
set_option linter.all false
open Go.ChangeShapes Go.WideShapes Go.RowKit Go.Deep

section
variable {H : Type} {enc : TypeId × Value → H} {P : Program} {w : World} {base : Nat} {spare : Nat → Bool} {held : Bool}
theorem agg_fields {r : Reach} {b0 : Nat} {t : TypeId} {fs : Array Field} {v : Value} {d : DataW H} {p : List MemPlace} (hs : P.underlying t = some (.struct fs)) (hone : oneCellFields P fs = true) (hC : P.cellsOf t = fs.size)
    (hv : Value.okWide P w r b0 t v) (h : DataW.Trod enc P w base spare held t v d p) :
    ∃ (cs : Array Value) (n : Nat), v = .agg cs ∧ cs.size = fs.size ∧ ∀ (j : Nat) (f : Field), fs[j]? = some f → ∃ c y, cs[j]? = some c ∧ DataW.trod enc P w base spare held n f.type [c] = some y := by
  obtain ⟨cs, rfl, hsz⟩ := okWide_struct hs hv
  obtain ⟨l⟩ := cs
  obtain ⟨fuel, hf⟩ := h
  obtain ⟨ys, n, hn, hy, hlen, hyl, hg⟩ := DataW.trod_struct hs hf
  have hl : l.length = fs.size := by simpa using hsz.trans hC
  refine ⟨⟨l⟩, n, rfl, by simpa using hl, fun j f hj => ?_⟩
  obtain ⟨ho, hk⟩ := hone_of hone j f hj
  have hjl : j < fs.size := (Array.getElem?_eq_some_iff.1 hj).1
  have h1 := hg j f hj
  have hcs : (Value.agg ⟨l⟩).cells.toList = l := by simp [Value.cells]
  rw [ho, hk] at h1
  have hone' : (((Value.agg ⟨l⟩).cells.toList).drop j).take 1 = [l[j]'(by omega)] := by
    rw [hcs, List.drop_eq_getElem_cons (by omega)]
    rfl
  rw [hone'] at h1
  have hys : ys[j]? = some (ys[j]'(by omega)) := List.getElem?_eq_getElem (by omega)
  exact ⟨l[j]'(by omega), _, by simp [show j < l.length by omega], h1.trans hys⟩

theorem agg_int {k : IntKind} {n : Nat} {t : TypeId} {c : Value} {y : DataW H × List MemPlace} (ht : P.underlying t = some (.int k)) (h : DataW.trod enc P w base spare held n t [c] = some y) : ∃ a, c = .int k a ∧ (Lit.int k a).wf = true := by
  obtain ⟨a, e, _, wa⟩ := DataW.trod_int ht h
  exact ⟨a, by simpa using e, wa⟩
end
theorem arr6 {cs : Array Value} (h : cs.size = 6) : ∃ c0 c1 c2 c3 c4 c5, cs = #[c0, c1, c2, c3, c4, c5] := by
  obtain ⟨l⟩ := cs
  match l, h with
  | [c0, c1, c2, c3, c4, c5], _ => exact ⟨c0, c1, c2, c3, c4, c5, rfl⟩
end Go.Proofs.YtmpeidliacbelaaGreatDoor

namespace Go.Proofs.YtmpeidliacbelaaGreatDoor
set_option linter.all false
open Go.ChangeShapes Go.WideShapes Go.ChangeAt Go.RowKit Go.Deep

/-- What the walk of a law is handed: the arguments read as data, and how much each takes. -/
def LawWalkS (P : Program) (f : FuncId) (fn : Func) : Prop :=
  ∀ (H : Type) (enc : TypeId × Value → H) (W : World) (base : Nat) (args : Array Value) (ds : List (DataW H)) (ps : List MemPlace),
    (∀ (j : Nat) t v, fn.params[j]? = some t → args[j]? = some v → Value.okWide P W .any base t v) →
    DataW.TrodAll enc P W 0 (fun _ => true) true fn.params.toList args.toList ds ps →
    (DataW.weightsEach P fn.params.toList ds).all (· ≤ reachBytes) = true →
    Calls P f args W fun e W' => e = .returned (.bool true) ∧ Below W.heap.size W W'

theorem law_liftedS {C : Checked} {tb : TypeId} (own : ownKnob C.prog.godebug = none) (laidOut : laidOutB C.prog = true) (hb : C.prog.underlying tb = some .bool) (f : FuncId) (fn : Func) (s : ChangeSpec)
    (hfn : C.prog.funcs[f]? = some fn) (noInit : C.prog.inits.idxOf? f = none) (hres : fn.resultTypes = #[tb])
    (hread : readsAll C.prog fn.params.toList = true) (hv : s.vars = [])
    (hs : ∀ (H : Type) (ds : List (DataW H)), ds.length = fn.params.size → s.fn H ds = { results := [.lit (.bool true)], args := ds })
    (walk : LawWalkS C.prog f fn) (os : Os) (started : os.Started) (H : Type) (enc : TypeId × Value → H)
    (witness : ∃ (w : World) (tape : Tape) (i : Input), w.os = os ∧ (w.forCall tape i).Shaped C.prog ∧ i.vars = [] ∧ Input.okWide C.prog (w.forCall tape i) .any w.heap.size f i ∧
      s.pre6 enc C.prog fn [] false (w.forCall tape i).memory i.args ∧ Assume.holds {} C.prog (lone (Frame.enter C.prog f i.args .normal) [] (w.forCall tape i))) :
    ReturnsInHanded {} C os f .any (s.pre6 enc C.prog fn [] false) (s.post enc C.prog fn false true false false) := by
  refine returnsInHanded_of_change_sized own started noInit hfn witness ?_
  intro W base args ds gs before hval hW hcnd hsz _
  have hW' := hW
  obtain ⟨p, q, hA, hV, rfl, hfz, hnd⟩ := hW
  have hty : s.plain.varTypes C.prog = [] := by simp [ChangeSpec.plain, hv, DataSpec.varTypes]
  rw [hv] at hV
  obtain ⟨rfl, rfl⟩ := trodVars_none hV
  rw [hty, List.append_nil, List.append_nil] at hsz
  have hlt := DataW.TrodAll.lt hA
  have hlen : ds.length = fn.params.size := by have := trodAll_len _ _ _ _ hA; simpa using this
  have hfnc := hs H ds hlen
  refine (walk H enc W base args ds p hval hA hsz).mono fun e W' ⟨he, bel⟩ => ?_
  subst he
  refine ⟨_, rfl, ds, [], p ++ [], [], p, [], hW', ?_, ?_, ?_, bel.frame _, fun h => by cases h⟩
  · rw [hres, List.append_nil, hfnc]
    exact trodAll_mk1 (shut_bool hb _)
  · rw [List.append_nil, hfnc]
    exact trodAll_stays laidOut bel _ _ _ _ hread hA hlt
  · rw [hv, List.append_nil, hfnc]
    rfl

section
variable {H : Type} {enc : TypeId × Value → H} {P : Program} {w : World} {base : Nat} {spare : Nat → Bool} {held : Bool}
theorem open_slice_fields {t e : TypeId} {fs : Array Field} {fuel : Nat} {cs : List Value} {x : DataW H × List MemPlace} (ht : P.underlying t = some (.slice e)) (he : P.underlying e = some (.struct fs))
    (hone : oneCellFields P fs = true) (hC : P.cellsOf e = fs.size) (h : DataW.trod enc P w base spare held fuel t cs = some x) :
    (cs = [.slice none 0 0] ∧ x = (.nil, [])) ∨
    ∃ (a : Addr) (len cap m : Nat) (D : Nat → DataW H) (Pl : Nat → List MemPlace), cs = [.slice (some a) len cap] ∧ base ≤ a.block ∧ len ≤ cap ∧ cap ≤ maxLen ∧ m = (if spare a.block then cap else len) ∧
      x = (.slice ((List.range len).map D) ((List.range (m - len)).map fun j => D (len + j)), MemPlace.row a (m * fs.size) ++ (List.range m).flatMap Pl) ∧
      ∀ i, i < m → ∃ (ys : List (DataW H × List MemPlace)) (n : Nat), D i = .agg (ys.map (·.1)) ∧ Pl i = ys.flatMap (·.2) ∧ ys.length = fs.size ∧
        ∀ (j : Nat) (f : Field), fs[j]? = some f → ∃ (v : Value) (y : DataW H × List MemPlace), w.cell? (a.add (i * fs.size + j)) = some v ∧ ys[j]? = some y ∧ DataW.trod enc P w base spare held n f.type [v] = some y := by
  rcases open_slice ht h with h0 | ⟨a, len, cap, m, n, D, Pl, hcs, hb, hl, hm, hmm, hx, hi⟩
  · exact .inl h0
  · refine .inr ⟨a, len, cap, m, D, Pl, hcs, hb, hl, hm, hmm, by rw [hC] at hx; exact hx, fun i him => ?_⟩
    obtain ⟨cs', hc, ht'⟩ := hi i him
    rw [hC] at hc
    obtain ⟨ys, n', hn', hy, hlen, hyl, hf⟩ := DataW.trod_struct he ht'
    obtain ⟨_, hcl, hat⟩ := World.cells?_some hc
    simp only [Prod.mk.injEq] at hy
    refine ⟨ys, n', hy.1, hy.2, hyl, fun j f hj => ?_⟩
    obtain ⟨ho, hk⟩ := hone_of hone j f hj
    have hjl : j < fs.size := (Array.getElem?_eq_some_iff.1 hj).1
    have hcell := hat j hjl
    have hv : cs'[j]? = some (cs'[j]'(by omega)) := List.getElem?_eq_getElem (by omega)
    have h1 := hf j f hj
    rw [ho, hk] at h1
    have hone' : (cs'.drop j).take 1 = [cs'[j]'(by omega)] := by
      rw [List.drop_eq_getElem_cons (by omega)]
      rfl
    rw [hone'] at h1
    have hys : ys[j]? = some (ys[j]'(by omega)) := List.getElem?_eq_getElem (by omega)
    refine ⟨_, _, ?_, hys, h1.trans hys⟩
    rw [← Go.Deep.add_add, hcell, hv]
theorem agg_ints {k : IntKind} {n : Nat} {t e : TypeId} {c : Value} {y : DataW H × List MemPlace} (ht : P.underlying t = some (.slice e)) (he : P.underlying e = some (.int k)) (hc : P.cellsOf e = 1) (h : DataW.trod enc P w base spare held n t [c] = some y) :
    ∃ A len cap zs, c = .slice A len cap ∧ len ≤ cap ∧ cap ≤ maxLen ∧ Ints k w A len zs := by
  rcases Go.ChangeShapes.open_ints ht he hc h with ⟨hcs, _⟩ | ⟨a, l, c', zs, hcs, _, hl, hm, hz, _, hcell, hwz⟩
  · simp at hcs
    subst hcs
    exact ⟨none, 0, 0, [], rfl, Nat.le_refl _, Nat.zero_le _, rfl, Nat.zero_le _, by simp, by simp⟩
  · simp at hcs
    subst hcs
    have hlz : l ≤ zs.length := by split at hz <;> omega
    refine ⟨some a, l, c', zs.take l, rfl, hl, hm, by simp; omega, by omega, fun n hn => hwz n (List.mem_of_mem_take hn), fun h0 => ?_⟩
    obtain ⟨b, off, rfl, hc'⟩ := ints_at hcell (by omega)
    refine ⟨b, off, rfl, World.block_lt_of_cell? w _ (hc' 0 (by omega)), fun i hi => ?_⟩
    rw [hc' i (by omega)]
    simp [List.getD_eq_getElem?_getD, List.getElem?_take, hi]
end
end Go.Proofs.YtmpeidliacbelaaGreatDoor

namespace Go.Proofs.YtmpeidliacbelaaGreatDoor
set_option linter.all false
open Go.ChangeShapes Go.WideShapes Go.ChangeAt Go.RowKit Go.Deep

/-- All that a datum holds is within reach. -/
def Light {H : Type} (P : Program) (t : TypeId) (d : DataW H) : Prop := ∀ n ∈ d.weights P t, n ≤ reachBytes
section
variable {H : Type} {enc : TypeId × Value → H} {P : Program} {w : World} {base : Nat} {spare : Nat → Bool} {held : Bool}
theorem light_of {t : TypeId} {d : DataW H} (h : (d.weights P t).all (· ≤ reachBytes) = true) : Light P t d := fun n hn => by
  have := List.all_eq_true.1 h n hn
  simpa using this
theorem light_arg {ts : List TypeId} {ds : List (DataW H)} {j : Nat} {t : TypeId} {d : DataW H} (h : (DataW.weightsEach P ts ds).all (· ≤ reachBytes) = true) (ht : ts[j]? = some t) (hd : ds[j]? = some d) : Light P t d := fun n hn => by
  have := List.all_eq_true.1 h n (DataW.weights_mem_each ht hd n hn)
  simpa using this
theorem weightsAll_mem {e : TypeId} : ∀ {ds : List (DataW H)} {d : DataW H}, d ∈ ds → ∀ n ∈ d.weights P e, n ∈ DataW.weightsAll P e ds
  | d0 :: ds, d, hd, n, hn => by
    simp only [DataW.weightsAll, List.mem_append]
    rcases List.mem_cons.1 hd with rfl | hd
    · exact .inl hn
    · exact .inr (weightsAll_mem hd n hn)
theorem Light.elem {t e : TypeId} {xs sp : List (DataW H)} (ht : P.underlying t = some (.slice e)) (h : Light P t (.slice xs sp)) : ∀ d ∈ xs, Light P e d := fun d hd n hn => h n (by
  simp only [DataW.weights, ht, List.mem_cons, List.mem_append]
  exact .inr (.inl (weightsAll_mem hd n hn)))
theorem Light.len {t e : TypeId} {xs sp : List (DataW H)} (ht : P.underlying t = some (.slice e)) (h : Light P t (.slice xs sp)) : (xs.length + sp.length) * P.bytesOf e ≤ reachBytes := h _ (by simp [DataW.weights, ht])
theorem Light.part {t : TypeId} {fs : Array Field} {xs : List (DataW H)} (ht : P.underlying t = some (.struct fs)) (h : Light P t (.agg xs)) : ∀ (j : Nat) (f : Field) (d : DataW H), fs[j]? = some f → xs[j]? = some d → Light P f.type d := fun j f d hf hd n hn => h n (by
  simp only [DataW.weights, ht]
  exact DataW.weights_mem_each (j := j) (by simp [hf]) hd n hn)

/-- A slice of structs, whatever their fields (each of one cell): each field's cell, its reading, its reach. -/
theorem openS_structs {t e : TypeId} {fs : Array Field} {v : Value} {d : DataW H} {p : List MemPlace} {r : Reach} {b0 : Nat} (ht : P.underlying t = some (.slice e)) (he : P.underlying e = some (.struct fs))
    (hone : oneCellFields P fs = true) (hC : P.cellsOf e = fs.size) (h0 : 0 < fs.size) (hv : Value.okWide P w r b0 t v) (h : DataW.Trod enc P w base spare held t v d p) (hl : Light P t d) :
    ∃ (A : Option Addr) (len cap : Nat), v = .slice A len cap ∧ len ≤ cap ∧ cap ≤ maxLen ∧ len * P.bytesOf e ≤ reachBytes ∧
      (0 < len → ∃ b off, A = some ⟨b, off, none⟩ ∧ b < w.heap.size ∧ ∀ i, i < len → ∃ n, ∀ (j : Nat) (f : Field), fs[j]? = some f → ∃ (c : Value) (y : DataW H × List MemPlace), w.cell? ⟨b, off + (i * fs.size + j), none⟩ = some c ∧ DataW.trod enc P w base spare held n f.type [c] = some y ∧ Light P f.type y.1) := by
  obtain ⟨a0, len, cap, rfl⟩ := okWide_slice ht hv
  obtain ⟨fuel, hf⟩ := h
  rcases open_slice_fields ht he hone hC hf with ⟨hcs, _⟩ | ⟨a, l, c, m, D, Pl, hcs, _, hlc, hm, hmm, hx, hi⟩
  · simp [Value.cells] at hcs
    obtain ⟨rfl, rfl, rfl⟩ := hcs
    exact ⟨none, 0, 0, rfl, Nat.le_refl _, Nat.zero_le _, by simp, fun h => absurd h (Nat.lt_irrefl _)⟩
  · simp [Value.cells] at hcs
    obtain ⟨rfl, rfl, rfl⟩ := hcs
    simp only [Prod.mk.injEq] at hx
    obtain ⟨rfl, rfl⟩ := hx
    have hlm : len ≤ m := by rw [hmm]; split <;> omega
    refine ⟨some a, len, cap, rfl, hlc, hm, ?_, fun hl0 => ?_⟩
    · have := hl.len ht
      simp at this
      exact Nat.le_trans (Nat.mul_le_mul_right _ (Nat.le_add_right _ _)) this
    · have cell : ∀ i j v, i < len → w.cell? (a.add (i * fs.size + j)) = some v → (i * fs.size + j ≠ 0 ∨ a.spot = none) → w.cell? ⟨a.block, a.off + (i * fs.size + j), none⟩ = some v := by
        intro i j v _ hc hn
        obtain ⟨b, o, s⟩ := a
        unfold Addr.add at hc
        split at hc
        · rename_i h0
          rw [h0] at hn ⊢
          rcases hn with hn | hn
          · exact absurd rfl hn
          · simp at hn; subst hn; exact hc
        · exact hc
      obtain ⟨ys0, n0, _, _, hy0, hf0⟩ := hi 0 (by omega)
      obtain ⟨v0, y0, e0, _, _⟩ := hf0 0 (fs[0]'h0) (by simp [h0])
      simp only [Nat.zero_mul, Nat.add_zero] at e0
      have hs : a.spot = none := by
        obtain ⟨b, o, s⟩ := a
        unfold Addr.add at e0
        simp at e0
        unfold World.cell? at e0
        cases s with
        | none => rfl
        | some s => simp at e0; split at e0 <;> simp at e0
      refine ⟨a.block, a.off, by obtain ⟨b, o, s⟩ := a; simp at hs; rw [hs], ?_, fun i hil => ?_⟩
      · have := cell 0 0 v0 hl0 (by simpa using e0) (.inr hs)
        exact World.block_lt_of_cell? w ⟨a.block, a.off + (0 * fs.size + 0), none⟩ this
      · obtain ⟨ys, n, hD, _, hyl, hff⟩ := hi i (by omega)
        refine ⟨n, fun j f hj => ?_⟩
        obtain ⟨v, y, hc, hy, htr⟩ := hff j f hj
        refine ⟨v, y, cell i j v hil hc (.inr hs), htr, ?_⟩
        have hLi : Light P e (D i) := hl.elem ht (D i) (List.mem_map.2 ⟨i, List.mem_range.2 hil, rfl⟩)
        rw [hD] at hLi
        exact hLi.part he j f y.1 hj (by simp [hy])

theorem aggS_ints {k : IntKind} {n : Nat} {t e : TypeId} {c : Value} {y : DataW H × List MemPlace} (ht : P.underlying t = some (.slice e)) (he : P.underlying e = some (.int k)) (hc : P.cellsOf e = 1) (h : DataW.trod enc P w base spare held n t [c] = some y) (hl : Light P t y.1) :
    ∃ A len cap zs, c = .slice A len cap ∧ len ≤ cap ∧ cap ≤ maxLen ∧ Ints k w A len zs ∧ len * P.bytesOf e ≤ reachBytes := by
  rcases Go.ChangeShapes.open_ints ht he hc h with ⟨hcs, _⟩ | ⟨a, l, c', zs, hcs, _, hl', hm, hz, hx, hcell, hwz⟩
  · simp at hcs
    subst hcs
    exact ⟨none, 0, 0, [], rfl, Nat.le_refl _, Nat.zero_le _, ⟨rfl, Nat.zero_le _, by simp, by simp⟩, by simp⟩
  · simp at hcs
    subst hcs
    have hlz : l ≤ zs.length := by split at hz <;> omega
    refine ⟨some a, l, c', zs.take l, rfl, hl', hm, ⟨by simp; omega, by omega, fun n hn => hwz n (List.mem_of_mem_take hn), fun h0 => ?_⟩, ?_⟩
    · obtain ⟨b, off, rfl, hc'⟩ := ints_at hcell (by omega)
      refine ⟨b, off, rfl, World.block_lt_of_cell? w _ (hc' 0 (by omega)), fun i hi => ?_⟩
      rw [hc' i (by omega)]
      simp [List.getD_eq_getElem?_getD, List.getElem?_take, hi]
    · rw [hx] at hl
      have := hl.len ht
      simp [lits] at this
      refine Nat.le_trans (Nat.mul_le_mul_right _ ?_) this
      omega
end
end Go.Proofs.YtmpeidliacbelaaGreatDoor

namespace Go.Proofs.YtmpeidliacbelaaGreatDoor
set_option linter.all false
open Go.ChangeShapes Go.WideShapes Go.ChangeAt Go.RowKit Go.Deep

/-- A slice that is handed in lies in a block that is there. -/
theorem slice_lt {P : Program} {w : World} {r : Reach} {b0 : Nat} {t e : TypeId} {A : Option Addr} {len cap : Nat} (ht : P.underlying t = some (.slice e)) (hv : Value.okWide P w r b0 t (.slice A len cap)) : ∀ a, A = some a → a.block < w.heap.size := by
  intro a ha
  subst ha
  simp only [Value.okWide, ht, Cell.okWide, Cell.ok, World.has] at hv
  obtain ⟨_, _, _, _, row, cells, hs, _⟩ := hv
  unfold World.shape? at hs
  by_cases h : a.block < w.heap.size
  · exact h
  · rw [Array.getElem?_eq_none (by omega)] at hs
    cases hs
theorem cellsF : Tryz.prog.cellsOf 61 = 4 := by kernel_rfl
section
variable {H : Type} {enc : TypeId × Value → H} {w : World} {base : Nat} {spare : Nat → Bool} {held : Bool}
theorem agg_strs {n : Nat} {c : Value} {y : DataW H × List MemPlace} (h : DataW.trod enc Tryz.prog w base spare held n 59 [c] = some y) (hlt : Light Tryz.prog 59 y.1) :
    ∃ (A : Option Addr) (len cap : Nat) (l : List ByteArray), c = .slice A len cap ∧ l.length = len ∧ len ≤ cap ∧ cap ≤ maxLen ∧ RdS w A l ∧ (∀ s ∈ l, s.size ≤ maxLen) ∧ len ≤ 8796093022208 := by
  rcases open_strs Tryz.underlying59 Tryz.underlying9 (by kernel_rfl) h with ⟨hcs, _⟩ | ⟨a, len, cap, m, Sx, hcs, _, hl, hm, hmm, hyy, hx⟩
  · simp at hcs
    subst hcs
    exact ⟨none, 0, 0, [], rfl, rfl, Nat.le_refl _, Nat.zero_le _, RdG.nil, by simp, Nat.zero_le _⟩
  · simp at hcs
    subst hcs
    have hfew : len ≤ 8796093022208 := by
      rw [hyy] at hlt
      have := hlt.len Tryz.underlying59
      rw [show Tryz.prog.bytesOf 9 = 16 by kernel_rfl] at this
      simp at this
      have := reachBytes_lt
      omega
    have hlm : len ≤ m := by rw [hmm]; split <;> omega
    refine ⟨some a, len, cap, (List.range len).map Sx, rfl, by simp, hl, hm, fun h0 => ?_, fun s hs => ?_, hfew⟩
    · rw [List.length_map, List.length_range] at h0
      have c0 := (hx 0 (by omega)).1
      have hs : a.spot = none := by
        obtain ⟨b, o, s⟩ := a
        cases s with
        | none => rfl
        | some s =>
          unfold Addr.add World.cell? at c0
          simp at c0
          split at c0 <;> simp at c0
      obtain ⟨b, o, s⟩ := a
      simp only at hs
      subst hs
      have hadd : ∀ i, (⟨b, o, none⟩ : Addr).add i = ⟨b, o + i, none⟩ := fun i => Addr.add_lit _ _ _
      refine ⟨b, o, rfl, ?_, fun i v hi => ?_⟩
      · rw [hadd] at c0
        exact World.block_lt_of_cell? w ⟨b, o + 0, none⟩ c0
      · rw [List.getElem?_map] at hi
        by_cases hil : i < len
        · rw [List.getElem?_range hil] at hi
          simp at hi
          subst hi
          rw [← hadd]
          exact (hx i (by omega)).1
        · rw [List.getElem?_eq_none (by simp; omega)] at hi
          cases hi
    · obtain ⟨i, hi, rfl⟩ := List.mem_map.1 hs
      exact (hx i (by have := List.mem_range.1 hi; omega)).2

/-- A slice of numbers, opened. -/
theorem open_sl {P : Program} {k : IntKind} {t e : TypeId} {v : Value} {d : DataW H} {p : List MemPlace} {r : Reach} {b0 : Nat} (ht : P.underlying t = some (.slice e)) (he : P.underlying e = some (.int k)) (hc : P.cellsOf e = 1) (hv : Value.okWide P w r b0 t v) (h : DataW.Trod enc P w base spare held t v d p) :
    ∃ (A : Option Addr) (zs : List Int) (cap : Nat), v = .slice A zs.length cap ∧ zs.length ≤ cap ∧ cap ≤ maxLen ∧ RdG (.int k) w A zs ∧ (∀ z ∈ zs, (Lit.int k z).wf = true) ∧ ∀ a, A = some a → a.block < w.heap.size := by
  obtain ⟨A, len, cap, rfl⟩ := okWide_slice ht hv
  have hlt := slice_lt ht hv
  obtain ⟨fuel, hf⟩ := h
  obtain ⟨A', len', cap', zs, e1, h1, h2, hz1, hz2, hz3, hz4⟩ := agg_ints ht he hc (n := fuel) (c := .slice A len cap) hf
  injection e1 with e1 e2 e3
  subst e1; subst e2; subst e3
  subst hz1
  refine ⟨A, zs, cap, rfl, h1, h2, fun h0 => ?_, hz3, hlt⟩
  obtain ⟨b, off, e, hb, hcell⟩ := hz4 h0
  refine ⟨b, off, e, hb, fun i v hi => ?_⟩
  have hi' : i < zs.length := (List.getElem?_eq_some_iff.1 hi).1
  rw [hcell i hi', List.getD_eq_getElem?_getD, hi]
  rfl

set_option maxRecDepth 100000 in
/-- A slice of fields, opened. -/
theorem openF {v : Value} {d : DataW H} {p : List MemPlace} {r : Reach} {b0 : Nat} (hv : Value.okWide Tryz.prog w r b0 52 v) (h : DataW.Trod enc Tryz.prog w base spare held 52 v d p) (hl : Light Tryz.prog 52 d) :
    ∃ (A : Option Addr) (fs : List FD) (c : Nat), v = .slice A fs.length c ∧ fs.length ≤ c ∧ c ≤ maxLen ∧ RdF w A fs ∧ (∀ f ∈ fs, ∀ x ∈ f.text, 0 ≤ x ∧ x < 256) ∧ ∀ f ∈ fs, f.text.length ≤ 140737488355328 ∧ f.list.length ≤ 8796093022208 := by
  obtain ⟨A, len, cap, rfl, hlc, hcm, _, hc⟩ := openS_structs Tryz.underlying52 Tryz.underlying61 (by kernel_rfl) cellsF (Nat.succ_pos 3) hv h hl
  by_cases h0 : 0 < len
  · obtain ⟨b, off, rfl, hb, hi⟩ := hc h0
    have each : ∀ i, i < len → ∃ f : FD, (w.cell? ⟨b, off + i * 4, none⟩ = some (.int .i64 f.kind) ∧ w.cell? ⟨b, off + i * 4 + 1, none⟩ = some (.int .u32 f.n) ∧ w.cell? ⟨b, off + i * 4 + 2, none⟩ = some (.slice f.tA f.text.length f.tc) ∧ w.cell? ⟨b, off + i * 4 + 3, none⟩ = some (.slice f.lA f.list.length f.lc)) ∧
        (f.ok w ∧ 0 ≤ f.n ∧ f.n ≤ 4294967295) ∧ (∀ x ∈ f.text, 0 ≤ x ∧ x < 256) ∧ f.text.length ≤ 140737488355328 ∧ f.list.length ≤ 8796093022208 := fun i hil => by
      obtain ⟨n, hf⟩ := hi i hil
      obtain ⟨c0, y0, e0, g0, _⟩ := hf 0 _ rfl
      obtain ⟨c1, y1, e1, g1, _⟩ := hf 1 _ rfl
      obtain ⟨c2, y2, e2, g2, l2⟩ := hf 2 _ rfl
      obtain ⟨c3, y3, e3, g3, l3⟩ := hf 3 _ rfl
      obtain ⟨kd, rfl, _⟩ := agg_int Tryz.underlying3 g0
      obtain ⟨nn, rfl, wn⟩ := agg_int Tryz.underlying24 g1
      obtain ⟨tA, tl, tc, zs, rfl, htl, htc, hz, htw⟩ := aggS_ints Tryz.underlying22 Tryz.underlying5 (by kernel_rfl) g2 l2
      rw [show Tryz.prog.bytesOf 5 = 1 by kernel_rfl] at htw
      obtain ⟨lA, ll, lc, ls, rfl, hll, hlc2, hlm2, hS, hss, hfew⟩ := agg_strs g3 l3
      obtain ⟨hz1, hz2, hz3, hz4⟩ := id hz
      have wn2 := wf_u32 wn
      refine ⟨⟨kd, nn, tA, tc, zs, lA, lc, ls⟩, ⟨e0, ?_, ?_, ?_⟩, ⟨⟨?_, hS, by dsimp only; omega, htc, by dsimp only; omega, hlm2, hss⟩, wn2⟩, fun x hx => ?_, by have := reachBytes_lt; dsimp only; omega, by dsimp only; omega⟩
      · rw [Nat.add_assoc]; exact e1
      · rw [Nat.add_assoc, hz1]; exact e2
      · rw [Nat.add_assoc, hll]; exact e3
      · intro h0
        dsimp only at h0 ⊢
        obtain ⟨b', off', e, hlt, hcc⟩ := hz4 (by omega)
        refine ⟨b', off', e, hlt, fun j v hj => ?_⟩
        have hj' : j < zs.length := (List.getElem?_eq_some_iff.1 hj).1
        rw [hcc j (by omega), List.getD_eq_getElem?_getD, hj]
        rfl
      · have := hz3 x hx
        have := wf_u8 this
        omega
    haveI : Inhabited FD := ⟨⟨0, 0, none, 0, [], none, 0, []⟩⟩
    obtain ⟨F, hF⟩ := choose_lt each
    have hget : ∀ (i : Nat) (f : FD), ((List.range len).map F)[i]? = some f → i < len ∧ f = F i := fun i f hf => by
      rw [List.getElem?_map] at hf
      by_cases hil : i < len
      · rw [List.getElem?_range hil] at hf
        simp at hf
        exact ⟨hil, hf.symm⟩
      · rw [List.getElem?_eq_none (by simp; omega)] at hf
        cases hf
    refine ⟨some ⟨b, off, none⟩, (List.range len).map F, cap, by simp, by simpa using hlc, hcm, ⟨fun _ => ⟨b, off, rfl, hb, fun i f hf => ?_⟩, fun f hf => ?_⟩, fun f hf => ?_, fun f hf => ?_⟩
    · obtain ⟨hil, rfl⟩ := hget i f hf
      exact (hF i hil).1
    · obtain ⟨i, hi', rfl⟩ := List.mem_map.1 hf
      exact (hF i (List.mem_range.1 hi')).2.1
    · obtain ⟨i, hi', rfl⟩ := List.mem_map.1 hf
      exact (hF i (List.mem_range.1 hi')).2.2.1
    · obtain ⟨i, hi', rfl⟩ := List.mem_map.1 hf
      exact (hF i (List.mem_range.1 hi')).2.2.2
  · obtain rfl : len = 0 := by omega
    exact ⟨A, [], cap, rfl, hlc, hcm, ⟨fun h => absurd h (Nat.lt_irrefl _), fun f hf => by simp at hf⟩, fun f hf => by simp at hf, fun f hf => by simp at hf⟩
end
end Go.Proofs.YtmpeidliacbelaaGreatDoor

namespace Go.Proofs.YtmpeidliacbelaaGreatDoor
set_option linter.all false
open Go.ChangeShapes Go.WideShapes Go.ChangeAt Go.RowKit Go.Deep

section
variable {H : Type} {enc : TypeId × Value → H} {P : Program} {w : World} {base : Nat} {spare : Nat → Bool} {held : Bool}
def FieldsAt (enc : TypeId × Value → H) (P : Program) (w : World) (base : Nat) (spare : Nat → Bool) (held : Bool) (n : Nat) (fs : Array Field) (l : List Value) : Prop :=
  ∀ (j : Nat) (f : Field), fs[j]? = some f → ∃ y, DataW.trod enc P w base spare held n f.type ((l.drop f.offset).take (P.cellsOf f.type)) = some y
theorem trod_fields {n : Nat} {t : TypeId} {fs : Array Field} {l : List Value} {y : DataW H × List MemPlace} (hs : P.underlying t = some (.struct fs)) (h : DataW.trod enc P w base spare held n t l = some y) : ∃ n', FieldsAt enc P w base spare held n' fs l := by
  obtain ⟨ys, n', _, _, _, hyl, hg⟩ := DataW.trod_struct hs h
  refine ⟨n', fun j f hj => ?_⟩
  have hjl : j < fs.size := (Array.getElem?_eq_some_iff.1 hj).1
  exact ⟨ys[j]'(by omega), (hg j f hj).trans (List.getElem?_eq_getElem (by omega))⟩
theorem FieldsAt.at_ {n : Nat} {fs : Array Field} {l l' : List Value} (h : FieldsAt enc P w base spare held n fs l) (j : Nat) (T : TypeId) (off k : Nat) (f : Field) (hj : fs[j]? = some f) (hT : f.type = T) (ho : f.offset = off) (hk : P.cellsOf T = k) (hl : (l.drop off).take k = l') :
    ∃ y, DataW.trod enc P w base spare held n T l' = some y := by
  obtain ⟨y, hy⟩ := h j f hj
  rw [hT, ho, hk, hl] at hy
  exact ⟨y, hy⟩
/-- A struct that is handed in: its cells, its fields. -/
theorem open_struct {r : Reach} {b0 : Nat} {t : TypeId} {fs : Array Field} {v : Value} {d : DataW H} {p : List MemPlace} {k : Nat} (hs : P.underlying t = some (.struct fs)) (hC : P.cellsOf t = k)
    (hv : Value.okWide P w r b0 t v) (h : DataW.Trod enc P w base spare held t v d p) : ∃ (l : List Value) (n : Nat), v = .agg l.toArray ∧ l.length = k ∧ FieldsAt enc P w base spare held n fs l := by
  obtain ⟨cs, rfl, hsz⟩ := okWide_struct hs hv
  obtain ⟨l⟩ := cs
  obtain ⟨fuel, hf⟩ := h
  obtain ⟨n, hn⟩ := trod_fields hs hf
  have hcs : (Value.agg ⟨l⟩).cells.toList = l := by simp [Value.cells]
  rw [hcs] at hn
  exact ⟨l, n, rfl, by simpa using hsz.trans hC, hn⟩
theorem aggP_ints {k : IntKind} {n : Nat} {t e : TypeId} {c : Value} {y : DataW H × List MemPlace} (ht : P.underlying t = some (.slice e)) (he : P.underlying e = some (.int k)) (hc : P.cellsOf e = 1) (h : DataW.trod enc P w base spare held n t [c] = some y) :
    ∃ A len cap zs, c = .slice A len cap ∧ len ≤ cap ∧ cap ≤ maxLen ∧ Ints k w A len zs := by
  rcases Go.ChangeShapes.open_ints ht he hc h with ⟨hcs, _⟩ | ⟨a, l, c', zs, hcs, _, hl, hm, hz, _, hcell, hwz⟩
  · simp at hcs
    subst hcs
    exact ⟨none, 0, 0, [], rfl, Nat.le_refl _, Nat.zero_le _, rfl, Nat.zero_le _, by simp, by simp⟩
  · simp at hcs
    subst hcs
    have hlz : l ≤ zs.length := by split at hz <;> omega
    refine ⟨some a, l, c', zs.take l, rfl, hl, hm, by simp; omega, by omega, fun n hn => hwz n (List.mem_of_mem_take hn), fun h0 => ?_⟩
    obtain ⟨b, off, rfl, hc'⟩ := ints_at hcell (by omega)
    refine ⟨b, off, rfl, World.block_lt_of_cell? w _ (hc' 0 (by omega)), fun i hi => ?_⟩
    rw [hc' i (by omega)]
    simp [List.getD_eq_getElem?_getD, List.getElem?_take, hi]
theorem agg_strP {n : Nat} {t : TypeId} {c : Value} {y : DataW H × List MemPlace} (ht : P.underlying t = some .string) (h : DataW.trod enc P w base spare held n t [c] = some y) : ∃ s : ByteArray, c = .string s ∧ s.size ≤ maxLen := by
  obtain ⟨s, h1, _, h3⟩ := DataW.trod_string ht h
  exact ⟨s, by simpa using h1, h3⟩
theorem agg_boolP {n : Nat} {t : TypeId} {c : Value} {y : DataW H × List MemPlace} (ht : P.underlying t = some .bool) (h : DataW.trod enc P w base spare held n t [c] = some y) : ∃ b : Bool, c = .bool b := by
  obtain ⟨b, h1, _⟩ := DataW.trod_bool ht h
  exact ⟨b, by simpa using h1⟩
/-- Bytes in a field. -/
theorem agg_bytes {n : Nat} {t e : TypeId} {c : Value} {y : DataW H × List MemPlace} (ht : P.underlying t = some (.slice e)) (he : P.underlying e = some (.int .u8)) (hc : P.cellsOf e = 1) (h : DataW.trod enc P w base spare held n t [c] = some y) :
    ∃ (A : Option Addr) (cap : Nat) (zs : List Int), c = .slice A zs.length cap ∧ zs.length ≤ cap ∧ cap ≤ maxLen ∧ RdG (.int .u8) w A zs ∧ ∀ x ∈ zs, 0 ≤ x ∧ x < 256 := by
  obtain ⟨A, len, cap, zs, rfl, hlc, hcm, hz1, hz2, hz3, hz4⟩ := aggP_ints ht he hc h
  subst hz1
  refine ⟨A, cap, zs, rfl, hlc, hcm, fun h0 => ?_, fun x hx => ?_⟩
  · obtain ⟨b', off', e, hlt, hcc⟩ := hz4 (by omega)
    refine ⟨b', off', e, hlt, fun j v hj => ?_⟩
    have hj' : j < zs.length := (List.getElem?_eq_some_iff.1 hj).1
    rw [hcc j (by omega), List.getD_eq_getElem?_getD, hj]
    rfl
  · have := hz3 x hx
    have := wf_u8 this
    omega
end
end Go.Proofs.YtmpeidliacbelaaGreatDoor

namespace Go.Proofs.YtmpeidliacbelaaGreatDoor
set_option linter.all false
open Go.ChangeShapes Go.WideShapes Go.ChangeAt Go.RowKit Go.Deep

theorem arr11 {l : List Value} (h : l.length = 11) : ∃ c0 c1 c2 c3 c4 c5 c6 c7 c8 c9 c10, l = [c0, c1, c2, c3, c4, c5, c6, c7, c8, c9, c10] := by
  match l, h with
  | [c0, c1, c2, c3, c4, c5, c6, c7, c8, c9, c10], _ => exact ⟨c0, c1, c2, c3, c4, c5, c6, c7, c8, c9, c10, rfl⟩
set_option maxRecDepth 100000 in
/-- A request, opened. -/
theorem openR {H : Type} {enc : TypeId × Value → H} {w : World} {base : Nat} {spare : Nat → Bool} {held : Bool} {v : Value} {d : DataW H} {p : List MemPlace} {r : Reach} {b0 : Nat} (hv : Value.okWide Tryz.prog w r b0 28 v) (h : DataW.Trod enc Tryz.prog w base spare held 28 v d p) :
    ∃ m : RQ, v = m.val ∧ m.ok w := by
  obtain ⟨l, n, rfl, hl, hf⟩ := open_struct (k := 11) Tryz.underlying28 (by kernel_rfl) hv h
  obtain ⟨c0, c1, c2, c3, c4, c5, c6, c7, c8, c9, c10, rfl⟩ := arr11 hl
  obtain ⟨_, g0⟩ := hf.at_ 0 3 0 1 _ rfl rfl rfl (by kernel_rfl) rfl
  obtain ⟨_, g1⟩ := hf.at_ 1 9 1 1 _ rfl rfl rfl (by kernel_rfl) rfl
  obtain ⟨_, g2⟩ := hf.at_ 2 9 2 1 _ rfl rfl rfl (by kernel_rfl) rfl
  obtain ⟨_, g3⟩ := hf.at_ 3 9 3 1 _ rfl rfl rfl (by kernel_rfl) rfl
  obtain ⟨_, gs⟩ := hf.at_ 4 26 4 4 _ rfl rfl rfl (by kernel_rfl) rfl
  obtain ⟨n2, hs⟩ := trod_fields Tryz.underlying26 gs
  obtain ⟨_, g4⟩ := hs.at_ 0 24 0 1 _ rfl rfl rfl (by kernel_rfl) rfl
  obtain ⟨_, g5⟩ := hs.at_ 1 24 1 1 _ rfl rfl rfl (by kernel_rfl) rfl
  obtain ⟨_, g6⟩ := hs.at_ 2 24 2 1 _ rfl rfl rfl (by kernel_rfl) rfl
  obtain ⟨_, g7⟩ := hs.at_ 3 24 3 1 _ rfl rfl rfl (by kernel_rfl) rfl
  obtain ⟨_, g8⟩ := hf.at_ 5 22 8 1 _ rfl rfl rfl (by kernel_rfl) rfl
  obtain ⟨_, g9⟩ := hf.at_ 6 4 9 1 _ rfl rfl rfl (by kernel_rfl) rfl
  obtain ⟨_, g10⟩ := hf.at_ 7 24 10 1 _ rfl rfl rfl (by kernel_rfl) rfl
  obtain ⟨kind, rfl, _⟩ := agg_int Tryz.underlying3 g0
  obtain ⟨text, rfl, s1⟩ := agg_strP Tryz.underlying9 g1
  obtain ⟨value, rfl, s2⟩ := agg_strP Tryz.underlying9 g2
  obtain ⟨lang, rfl, s3⟩ := agg_strP Tryz.underlying9 g3
  obtain ⟨cols, rfl, u4⟩ := agg_int Tryz.underlying24 g4
  obtain ⟨rows, rfl, u5⟩ := agg_int Tryz.underlying24 g5
  obtain ⟨width, rfl, u6⟩ := agg_int Tryz.underlying24 g6
  obtain ⟨height, rfl, u7⟩ := agg_int Tryz.underlying24 g7
  obtain ⟨A, cap, zs, rfl, hlc, hcm, hR, hb⟩ := agg_bytes Tryz.underlying22 Tryz.underlying5 (by kernel_rfl) g8
  obtain ⟨on, rfl⟩ := agg_boolP Tryz.underlying4 g9
  obtain ⟨code, rfl, u10⟩ := agg_int Tryz.underlying24 g10
  exact ⟨⟨kind, text, value, lang, cols, rows, width, height, A, cap, zs, on, code⟩, rfl, ⟨hR, hlc, hcm, hb, ⟨wf_u32 u4, wf_u32 u5, wf_u32 u6, wf_u32 u7, wf_u32 u10⟩, s1, s2, s3⟩⟩
end Go.Proofs.YtmpeidliacbelaaGreatDoor

namespace Go.Proofs.YtmpeidliacbelaaGreatDoor
set_option linter.all false
open Go.ChangeShapes Go.WideShapes Go.ChangeAt Go.RowKit Go.Deep

/-- What the walk of a law is handed: the arguments read as data, how much each takes, the world's shape. -/
def LawWalkC (P : Program) (f : FuncId) (fn : Func) : Prop :=
  ∀ (H : Type) (enc : TypeId × Value → H) (W : World) (base : Nat) (args : Array Value) (ds : List (DataW H)) (ps : List MemPlace),
    (∀ (j : Nat) t v, fn.params[j]? = some t → args[j]? = some v → Value.okWide P W .any base t v) →
    DataW.TrodAll enc P W 0 (fun _ => true) true fn.params.toList args.toList ds ps →
    (DataW.weightsEach P fn.params.toList ds).all (· ≤ reachBytes) = true →
    W.ShapedOpen P →
    Calls P f args W fun e W' => e = .returned (.bool true) ∧ Below W.heap.size W W'

theorem law_liftedC {C : Checked} {tb : TypeId} (own : ownKnob C.prog.godebug = none) (laidOut : laidOutB C.prog = true) (hb : C.prog.underlying tb = some .bool) (f : FuncId) (fn : Func) (s : ChangeSpec)
    (hfn : C.prog.funcs[f]? = some fn) (noInit : C.prog.inits.idxOf? f = none) (hres : fn.resultTypes = #[tb])
    (hread : readsAll C.prog fn.params.toList = true) (hv : s.vars = [])
    (hs : ∀ (H : Type) (ds : List (DataW H)), ds.length = fn.params.size → s.fn H ds = { results := [.lit (.bool true)], args := ds })
    (X : World → Prop)
    (walk : LawWalkC C.prog f fn) (os : Os) (started : os.Started) (H : Type) (enc : TypeId × Value → H)
    (witness : ∃ (w : World) (tape : Tape) (i : Input), w.os = os ∧ (w.forCall tape i).Shaped C.prog ∧ i.vars = [] ∧ Input.okWide C.prog (w.forCall tape i) .any w.heap.size f i ∧
      ((s.pre enc C.prog fn [] false (w.forCall tape i).memory i.args ∧ X (w.forCall tape i).memory) ∧ sizedMet enc C.prog fn (OpenSpec.ofChange s) false (w.forCall tape i).memory i.args) ∧ Assume.holds {} C.prog (lone (Frame.enter C.prog f i.args .normal) [] (w.forCall tape i))) :
    ReturnsInHanded {} C os f .any (fun w args => (s.pre enc C.prog fn [] false w args ∧ X w) ∧ sizedMet enc C.prog fn (OpenSpec.ofChange s) false w args) (s.post enc C.prog fn false true false false) := by
  refine returnsInHanded_of_calls own started noInit witness ?_
  intro w tape i _ hsh _ hok hpre hholds
  obtain ⟨_, _, _, fn', hfn', _, _, _, _, hval⟩ := hok
  have e : fn' = fn := Option.some.inj (hfn'.symm.trans hfn)
  subst e
  obtain ⟨⟨⟨ds, gs, before, hw, hc⟩, _⟩, hz⟩ := hpre
  have hW := DataW.Whole.of_heap (w' := w.forCall tape i) (by rfl) hw
  have hsz := hz.weights hw
  have hW' := hW
  obtain ⟨p, q, hA, hV, rfl, hfz, hnd⟩ := hW
  have hty : (OpenSpec.ofChange s).bare.plain.varTypes C.prog = [] := by simp [OpenSpec.ofChange, OpenSpec.bare, ChangeSpec.plain, hv, DataSpec.varTypes]
  have hV0 := hV
  rw [hv] at hV0
  obtain ⟨rfl, rfl⟩ := trodVars_none hV0
  rw [hty, List.append_nil, List.append_nil] at hsz
  have hlt := DataW.TrodAll.lt hA
  have hlen : ds.length = fn'.params.size := by have := trodAll_len _ _ _ _ hA; simpa using this
  have hfnc := hs H ds hlen
  refine (walk H enc (w.forCall tape i) w.heap.size i.args ds p hval hA hsz hsh).mono fun e W' ⟨he, bel⟩ => ?_
  subst he
  refine ChangeSpec.post_blind ⟨ds, [], p ++ [], [], p, [], hW', ?_, ?_, ?_, bel.frame _, fun h => by cases h⟩
  · rw [hres, List.append_nil, hfnc]
    exact trodAll_mk1 (shut_bool hb _)
  · rw [List.append_nil, hfnc]
    exact trodAll_stays laidOut bel _ _ _ _ hread hA hlt
  · rw [hv, List.append_nil, hfnc]
    rfl
end Go.Proofs.YtmpeidliacbelaaGreatDoor
