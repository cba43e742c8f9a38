/- Arguments opened, down to their cells: structs in structs, texts, flags, slices of structs. Over any program; no condition · The frame of a law: if the call returns true and leaves all memory that was there as it was, then the law's row holds; the walk is told the reach; no condition. A slice within a struct, opened · Arguments opened with what each of their slices weighs: structs in structs, arrays, slices in slices. Over any program; no condition · Layer 27: arguments opened: settings, sessions, variables; no condition · Layer 19: programs handed from one package to another one; for all programs; the lengths are small · Layer 19: are programs more than are looked at; for all programs; no condition but what memory holds · Layer 27: requests that are handed in, are they more than is looked at; a call that answers some thing with a row of ours. No condition · Layers 19, 27: arguments opened: requests, variables, programs; no condition · The frame of a law whose row lists tables: if the call returns true and leaves all memory that was there as it was, then the law's row holds; the walk is told the reach and the world's shape; no condition. -/
import Derived.Test.YtdplnedpbkpgpaaGreatDoorKit
import Derived.Deep.Fields
import Derived.Deep.Slices
import Derived.Test.YtdplnedpbkpgpaaGreatDoorFrame
import Derived.SizedLaws
import Derived.Deep.Strs
import Derived.Test.YtdplnedpbkpgpaaGreatDoorApX
import Derived.Test.YtdplnedpbkpgpaaGreatDoorSvA
import Derived.OpenShut
import Derived.Test.YtdplnedpbkpgpaaGreatDoorSvD
import Derived.Test.YtdplnedpbkpgpaaGreatDoorEngAC
import Derived.Test.YtdplnedpbkpgpaaGreatDoorEngK
import Derived.HandedShaped
import Derived.Shelf.Vars
import Derived.Lay
import Derived.LaidLaws
import Derived.SevenTiedAt
namespace Go.Proofs.YtdplnedpbkpgpaaGreatDoor
set_option linter.all false
open Go.ChangeShapes Go.WideShapes Go.ChangeAt Go.RowKit Go.Deep

section
variable {H : Type} {enc : TypeId × Value → H} {P : Program} {w : World} {base : Nat} {spare : Nat → Bool} {held : Bool}
theorem agg_int {k : IntKind} {n : Nat} {t : TypeId} {c : Value} {y : DataW H × List MemPlace} (ht : P.underlying t = some (.int k)) (h : DataW.trod enc P w base spare held n t [c] = some y) : ∃ a, c = .int k a ∧ (Lit.int k a).wf = true := by
  obtain ⟨a, e, _, wa⟩ := DataW.trod_int ht h
  exact ⟨a, by simpa using e, wa⟩
def FieldsAt (enc : TypeId × Value → H) (P : Program) (w : World) (base : Nat) (spare : Nat → Bool) (held : Bool) (n : Nat) (fs : Array Field) (l : List Value) : Prop :=
  ∀ (j : Nat) (f : Field), fs[j]? = some f → ∃ y, DataW.trod enc P w base spare held n f.type ((l.drop f.offset).take (P.cellsOf f.type)) = some y
theorem trod_fields {n : Nat} {t : TypeId} {fs : Array Field} {l : List Value} {y : DataW H × List MemPlace} (hs : P.underlying t = some (.struct fs)) (h : DataW.trod enc P w base spare held n t l = some y) : ∃ n', FieldsAt enc P w base spare held n' fs l := by
  obtain ⟨ys, n', _, _, _, hyl, hg⟩ := DataW.trod_struct hs h
  refine ⟨n', fun j f hj => ?_⟩
  have hjl : j < fs.size := (Array.getElem?_eq_some_iff.1 hj).1
  exact ⟨ys[j]'(by omega), (hg j f hj).trans (List.getElem?_eq_getElem (by omega))⟩
theorem FieldsAt.at_ {n : Nat} {fs : Array Field} {l l' : List Value} (h : FieldsAt enc P w base spare held n fs l) (j : Nat) (T : TypeId) (off k : Nat) (f : Field) (hj : fs[j]? = some f) (hT : f.type = T) (ho : f.offset = off) (hk : P.cellsOf T = k) (hl : (l.drop off).take k = l') :
    ∃ y, DataW.trod enc P w base spare held n T l' = some y := by
  obtain ⟨y, hy⟩ := h j f hj
  rw [hT, ho, hk, hl] at hy
  exact ⟨y, hy⟩
/-- A struct that is handed in: its cells, its fields. -/
theorem open_struct {r : Reach} {b0 : Nat} {t : TypeId} {fs : Array Field} {v : Value} {d : DataW H} {p : List MemPlace} {k : Nat} (hs : P.underlying t = some (.struct fs)) (hC : P.cellsOf t = k)
    (hv : Value.okWide P w r b0 t v) (h : DataW.Trod enc P w base spare held t v d p) : ∃ (l : List Value) (n : Nat), v = .agg l.toArray ∧ l.length = k ∧ FieldsAt enc P w base spare held n fs l := by
  obtain ⟨cs, rfl, hsz⟩ := okWide_struct hs hv
  obtain ⟨l⟩ := cs
  obtain ⟨fuel, hf⟩ := h
  obtain ⟨n, hn⟩ := trod_fields hs hf
  have hcs : (Value.agg ⟨l⟩).cells.toList = l := by simp [Value.cells]
  rw [hcs] at hn
  exact ⟨l, n, rfl, by simpa using hsz.trans hC, hn⟩
theorem aggP_ints {k : IntKind} {n : Nat} {t e : TypeId} {c : Value} {y : DataW H × List MemPlace} (ht : P.underlying t = some (.slice e)) (he : P.underlying e = some (.int k)) (hc : P.cellsOf e = 1) (h : DataW.trod enc P w base spare held n t [c] = some y) :
    ∃ A len cap zs, c = .slice A len cap ∧ len ≤ cap ∧ cap ≤ maxLen ∧ Ints k w A len zs := by
  rcases Go.ChangeShapes.open_ints ht he hc h with ⟨hcs, _⟩ | ⟨a, l, c', zs, hcs, _, hl, hm, hz, _, hcell, hwz⟩
  · simp at hcs
    subst hcs
    exact ⟨none, 0, 0, [], rfl, Nat.le_refl _, Nat.zero_le _, rfl, Nat.zero_le _, by simp, by simp⟩
  · simp at hcs
    subst hcs
    have hlz : l ≤ zs.length := by split at hz <;> omega
    refine ⟨some a, l, c', zs.take l, rfl, hl, hm, by simp; omega, by omega, fun n hn => hwz n (List.mem_of_mem_take hn), fun h0 => ?_⟩
    obtain ⟨b, off, rfl, hc'⟩ := ints_at hcell (by omega)
    refine ⟨b, off, rfl, World.block_lt_of_cell? w _ (hc' 0 (by omega)), fun i hi => ?_⟩
    rw [hc' i (by omega)]
    simp [List.getD_eq_getElem?_getD, List.getElem?_take, hi]
theorem agg_strP {n : Nat} {t : TypeId} {c : Value} {y : DataW H × List MemPlace} (ht : P.underlying t = some .string) (h : DataW.trod enc P w base spare held n t [c] = some y) : ∃ s : ByteArray, c = .string s ∧ s.size ≤ maxLen := by
  obtain ⟨s, h1, _, h3⟩ := DataW.trod_string ht h
  exact ⟨s, by simpa using h1, h3⟩
theorem agg_boolP {n : Nat} {t : TypeId} {c : Value} {y : DataW H × List MemPlace} (ht : P.underlying t = some .bool) (h : DataW.trod enc P w base spare held n t [c] = some y) : ∃ b : Bool, c = .bool b := by
  obtain ⟨b, h1, _⟩ := DataW.trod_bool ht h
  exact ⟨b, by simpa using h1⟩
/-- Bytes in a field. -/
theorem agg_bytes {n : Nat} {t e : TypeId} {c : Value} {y : DataW H × List MemPlace} (ht : P.underlying t = some (.slice e)) (he : P.underlying e = some (.int .u8)) (hc : P.cellsOf e = 1) (h : DataW.trod enc P w base spare held n t [c] = some y) :
    ∃ (A : Option Addr) (cap : Nat) (zs : List Int), c = .slice A zs.length cap ∧ zs.length ≤ cap ∧ cap ≤ maxLen ∧ RdG (.int .u8) w A zs ∧ ∀ x ∈ zs, 0 ≤ x ∧ x < 256 := by
  obtain ⟨A, len, cap, zs, rfl, hlc, hcm, hz1, hz2, hz3, hz4⟩ := aggP_ints ht he hc h
  subst hz1
  refine ⟨A, cap, zs, rfl, hlc, hcm, fun h0 => ?_, fun x hx => ?_⟩
  · obtain ⟨b', off', e, hlt, hcc⟩ := hz4 (by omega)
    refine ⟨b', off', e, hlt, fun j v hj => ?_⟩
    have hj' : j < zs.length := (List.getElem?_eq_some_iff.1 hj).1
    rw [hcc j (by omega), List.getD_eq_getElem?_getD, hj]
    rfl
  · have := hz3 x hx
    have := wf_u8 this
    omega

theorem list_of {α : Type} {p : Nat → α → Prop} : ∀ n, (∀ i, i < n → ∃ x, p i x) → ∃ l : List α, l.length = n ∧ ∀ i x, l[i]? = some x → p i x
  | 0, _ => ⟨[], rfl, fun i x h => by simp at h⟩
  | n + 1, h => by
    obtain ⟨l, hl, hp⟩ := list_of n fun i hi => h i (by omega)
    obtain ⟨x, hx⟩ := h n (by omega)
    refine ⟨l ++ [x], by simp [hl], fun i y hy => ?_⟩
    rcases Nat.lt_or_ge i l.length with h1 | h1
    · rw [List.getElem?_append_left h1] at hy; exact hp i y hy
    · rw [List.getElem?_append_right h1] at hy
      have h2 : i - l.length = 0 := by
        rcases Nat.eq_zero_or_pos (i - l.length) with h2 | h2
        · exact h2
        · rw [List.getElem?_eq_none (by simp; omega)] at hy; cases hy
      rw [h2] at hy
      simp at hy
      subst hy
      have e : i = n := by omega
      rw [e]; exact hx
/-- A slice whose elements are opened by hel. -/
theorem open_rdX {α : Type} {cf : α → List Value} {ok : α → Prop} {t e : TypeId} {size : Nat} {v : Value} {d : DataW H} {p : List MemPlace} {r : Reach} {b0 : Nat} (ht : P.underlying t = some (.slice e)) (hC : P.cellsOf e = size) (h0 : 0 < size) (hcl : ∀ x, (cf x).length = size)
    (hel : ∀ (n : Nat) (l : List Value) (y : DataW H × List MemPlace), l.length = size → DataW.trod enc P w base spare held n e l = some y → ∃ x : α, l = cf x ∧ ok x)
    (hv : Value.okWide P w r b0 t v) (h : DataW.Trod enc P w base spare held t v d p) : ∃ (A : Option Addr) (l : List α) (cap : Nat), v = .slice A l.length cap ∧ l.length ≤ cap ∧ cap ≤ maxLen ∧ RdX cf w A l ∧ ∀ x ∈ l, ok x := by
  obtain ⟨a0, len, cap, rfl⟩ := okWide_slice ht hv
  obtain ⟨fuel, hf⟩ := h
  rcases open_slice ht hf with ⟨hcs, _⟩ | ⟨a, l, c, m, n, D, Pl, hcs, _, hlc, hm, hmm, _, hi⟩
  · simp [Value.cells] at hcs
    obtain ⟨rfl, rfl, rfl⟩ := hcs
    exact ⟨none, [], 0, rfl, Nat.le_refl _, Nat.zero_le _, rdX_nil, fun x hx => by cases hx⟩
  · simp [Value.cells] at hcs
    obtain ⟨rfl, rfl, rfl⟩ := hcs
    have hlm : len ≤ m := by rw [hmm]; split <;> omega
    obtain ⟨xs, hxl, hx⟩ := list_of (p := fun i (x : α) => ok x ∧ ∀ j u, (cf x)[j]? = some u → w.cell? (a.add (i * size + j)) = some u) len (fun i hi1 => by
      obtain ⟨cs', hc, ht'⟩ := hi i (by omega)
      obtain ⟨_, hcl', hat⟩ := World.cells?_some hc
      rw [hC] at hcl' hat
      obtain ⟨x, rfl, hok⟩ := hel _ _ _ hcl' ht'
      refine ⟨x, hok, fun j u hu => ?_⟩
      have hj : j < size := by have := (List.getElem?_eq_some_iff.1 hu).1; omega
      rw [← Go.Deep.add_add]
      exact (hat j hj).trans hu)
    subst hxl
    refine ⟨some a, xs, cap, rfl, hlc, hm, fun hl0 => ?_, fun x hx1 => ?_⟩
    · have h00 : ∃ u, w.cell? (a.add 0) = some u := by
        have hx0 := hx 0 (xs[0]'hl0) (List.getElem?_eq_getElem hl0)
        have h1 : (cf (xs[0]'hl0))[0]? = some ((cf (xs[0]'hl0))[0]'(by rw [hcl]; exact h0)) := List.getElem?_eq_getElem _
        exact ⟨_, by simpa using hx0.2 0 _ h1⟩
      obtain ⟨u0, hu0⟩ := h00
      have hadd0 : a.add 0 = a := by unfold Addr.add; simp
      rw [hadd0] at hu0
      have hs : a.spot = none := by
        unfold World.cell? at hu0
        split at hu0
        · split at hu0
          · cases hu0
          · rename_i h1; simpa using h1
        · cases hu0
      obtain ⟨b, off, sp⟩ := a
      simp at hs
      subst hs
      refine ⟨b, off, rfl, World.block_lt_of_cell? w _ hu0, fun j u hu => ?_⟩
      have key : ∀ (l : List α) (j : Nat) (u : Value), (l.flatMap cf)[j]? = some u → ∃ i x k, l[i]? = some x ∧ (cf x)[k]? = some u ∧ j = i * size + k := by
        intro l
        induction l with
        | nil => intro j u h; simp at h
        | cons y ys ih =>
          intro j u h
          rw [List.flatMap_cons] at h
          rcases Nat.lt_or_ge j (cf y).length with h1 | h1
          · rw [List.getElem?_append_left h1] at h
            exact ⟨0, y, j, rfl, h, by simp⟩
          · rw [List.getElem?_append_right h1] at h
            obtain ⟨i, x, k, h2, h3, h4⟩ := ih _ _ h
            refine ⟨i + 1, x, k, by simpa using h2, h3, ?_⟩
            rw [hcl] at h1 h4
            rw [Nat.succ_mul]; omega
      obtain ⟨i, x, k, h2, h3, rfl⟩ := key xs j u hu
      have := (hx i x h2).2 k u h3
      rw [Addr.add_mid] at this
      exact this
    · obtain ⟨i, hi1⟩ := List.mem_iff_getElem?.1 hx1
      exact (hx i x hi1).1
end
end Go.Proofs.YtdplnedpbkpgpaaGreatDoor

namespace Go.Proofs.YtdplnedpbkpgpaaGreatDoor
set_option linter.all false
open Go.ChangeShapes Go.WideShapes Go.ChangeAt Go.RowKit Go.Deep

/-- What the walk of a law is handed: the arguments read as data, and how much each takes. -/
def LawWalkS (P : Program) (f : FuncId) (fn : Func) : Prop :=
  ∀ (H : Type) (enc : TypeId × Value → H) (W : World) (base : Nat) (args : Array Value) (ds : List (DataW H)) (ps : List MemPlace),
    (∀ (j : Nat) t v, fn.params[j]? = some t → args[j]? = some v → Value.okWide P W .any base t v) →
    DataW.TrodAll enc P W 0 (fun _ => true) true fn.params.toList args.toList ds ps →
    (DataW.weightsEach P fn.params.toList ds).all (· ≤ reachBytes) = true →
    Calls P f args W fun e W' => e = .returned (.bool true) ∧ Below W.heap.size W W'

theorem law_liftedS {C : Checked} {tb : TypeId} (own : ownKnob C.prog.godebug = none) (laidOut : laidOutB C.prog = true) (hb : C.prog.underlying tb = some .bool) (f : FuncId) (fn : Func) (s : ChangeSpec)
    (hfn : C.prog.funcs[f]? = some fn) (noInit : C.prog.inits.idxOf? f = none) (hres : fn.resultTypes = #[tb])
    (hread : readsAll C.prog fn.params.toList = true) (hv : s.vars = [])
    (hs : ∀ (H : Type) (ds : List (DataW H)), ds.length = fn.params.size → s.fn H ds = { results := [.lit (.bool true)], args := ds })
    (walk : LawWalkS C.prog f fn) (os : Os) (started : os.Started) (H : Type) (enc : TypeId × Value → H)
    (witness : ∃ (w : World) (tape : Tape) (i : Input), w.os = os ∧ (w.forCall tape i).Shaped C.prog ∧ i.vars = [] ∧ Input.okWide C.prog (w.forCall tape i) .any w.heap.size f i ∧
      s.pre6 enc C.prog fn [] false (w.forCall tape i).memory i.args ∧ Assume.holds {} C.prog (lone (Frame.enter C.prog f i.args .normal) [] (w.forCall tape i))) :
    ReturnsInHanded {} C os f .any (s.pre6 enc C.prog fn [] false) (s.post enc C.prog fn false true false false) := by
  refine returnsInHanded_of_change_sized own started noInit hfn witness ?_
  intro W base args ds gs before hval hW hcnd hsz _
  have hW' := hW
  obtain ⟨p, q, hA, hV, rfl, hfz, hnd⟩ := hW
  have hty : s.plain.varTypes C.prog = [] := by simp [ChangeSpec.plain, hv, DataSpec.varTypes]
  rw [hv] at hV
  obtain ⟨rfl, rfl⟩ := trodVars_none hV
  rw [hty, List.append_nil, List.append_nil] at hsz
  have hlt := DataW.TrodAll.lt hA
  have hlen : ds.length = fn.params.size := by have := trodAll_len _ _ _ _ hA; simpa using this
  have hfnc := hs H ds hlen
  refine (walk H enc W base args ds p hval hA hsz).mono fun e W' ⟨he, bel⟩ => ?_
  subst he
  refine ⟨_, rfl, ds, [], p ++ [], [], p, [], hW', ?_, ?_, ?_, bel.frame _, fun h => by cases h⟩
  · rw [hres, List.append_nil, hfnc]
    exact trodAll_mk1 (shut_bool hb _)
  · rw [List.append_nil, hfnc]
    exact trodAll_stays laidOut bel _ _ _ _ hread hA hlt
  · rw [hv, List.append_nil, hfnc]
    rfl

section
variable {H : Type} {enc : TypeId × Value → H} {P : Program} {w : World} {base : Nat} {spare : Nat → Bool} {held : Bool}
theorem agg_rdX {α : Type} {cf : α → List Value} {ok : α → Prop} {t e : TypeId} {size : Nat} {n0 : Nat} {v : Value} {y0 : DataW H × List MemPlace} (ht : P.underlying t = some (.slice e)) (hC : P.cellsOf e = size) (h0 : 0 < size) (hcl : ∀ x, (cf x).length = size)
    (hel : ∀ (n : Nat) (l : List Value) (y : DataW H × List MemPlace), l.length = size → DataW.trod enc P w base spare held n e l = some y → ∃ x : α, l = cf x ∧ ok x)
    (h : DataW.trod enc P w base spare held n0 t [v] = some y0) : ∃ (A : Option Addr) (l : List α) (cap : Nat), v = .slice A l.length cap ∧ l.length ≤ cap ∧ cap ≤ maxLen ∧ RdX cf w A l ∧ ∀ x ∈ l, ok x := by
  have hf := h
  rcases open_slice ht hf with ⟨hcs, _⟩ | ⟨a, len, cap, m, n, D, Pl, hcs, _, hlc, hm, hmm, _, hi⟩
  · simp at hcs
    subst hcs
    exact ⟨none, [], 0, rfl, Nat.le_refl _, Nat.zero_le _, rdX_nil, fun x hx => by cases hx⟩
  · simp at hcs
    subst hcs
    have hlm : len ≤ m := by rw [hmm]; split <;> omega
    obtain ⟨xs, hxl, hx⟩ := list_of (p := fun i (x : α) => ok x ∧ ∀ j u, (cf x)[j]? = some u → w.cell? (a.add (i * size + j)) = some u) len (fun i hi1 => by
      obtain ⟨cs', hc, ht'⟩ := hi i (by omega)
      obtain ⟨_, hcl', hat⟩ := World.cells?_some hc
      rw [hC] at hcl' hat
      obtain ⟨x, rfl, hok⟩ := hel _ _ _ hcl' ht'
      refine ⟨x, hok, fun j u hu => ?_⟩
      have hj : j < size := by have := (List.getElem?_eq_some_iff.1 hu).1; omega
      rw [← Go.Deep.add_add]
      exact (hat j hj).trans hu)
    subst hxl
    refine ⟨some a, xs, cap, rfl, hlc, hm, fun hl0 => ?_, fun x hx1 => ?_⟩
    · have h00 : ∃ u, w.cell? (a.add 0) = some u := by
        have hx0 := hx 0 (xs[0]'hl0) (List.getElem?_eq_getElem hl0)
        have h1 : (cf (xs[0]'hl0))[0]? = some ((cf (xs[0]'hl0))[0]'(by rw [hcl]; exact h0)) := List.getElem?_eq_getElem _
        exact ⟨_, by simpa using hx0.2 0 _ h1⟩
      obtain ⟨u0, hu0⟩ := h00
      have hadd0 : a.add 0 = a := by unfold Addr.add; simp
      rw [hadd0] at hu0
      have hs : a.spot = none := by
        unfold World.cell? at hu0
        split at hu0
        · split at hu0
          · cases hu0
          · rename_i h1; simpa using h1
        · cases hu0
      obtain ⟨b, off, sp⟩ := a
      simp at hs
      subst hs
      refine ⟨b, off, rfl, World.block_lt_of_cell? w _ hu0, fun j u hu => ?_⟩
      have key : ∀ (l : List α) (j : Nat) (u : Value), (l.flatMap cf)[j]? = some u → ∃ i x k, l[i]? = some x ∧ (cf x)[k]? = some u ∧ j = i * size + k := by
        intro l
        induction l with
        | nil => intro j u h; simp at h
        | cons y ys ih =>
          intro j u h
          rw [List.flatMap_cons] at h
          rcases Nat.lt_or_ge j (cf y).length with h1 | h1
          · rw [List.getElem?_append_left h1] at h
            exact ⟨0, y, j, rfl, h, by simp⟩
          · rw [List.getElem?_append_right h1] at h
            obtain ⟨i, x, k, h2, h3, h4⟩ := ih _ _ h
            refine ⟨i + 1, x, k, by simpa using h2, h3, ?_⟩
            rw [hcl] at h1 h4
            rw [Nat.succ_mul]; omega
      obtain ⟨i, x, k, h2, h3, rfl⟩ := key xs j u hu
      have := (hx i x h2).2 k u h3
      rw [Addr.add_mid] at this
      exact this
    · obtain ⟨i, hi1⟩ := List.mem_iff_getElem?.1 hx1
      exact (hx i x hi1).1
end
end Go.Proofs.YtdplnedpbkpgpaaGreatDoor

namespace Go.Proofs.YtdplnedpbkpgpaaGreatDoor
set_option linter.all false
open Go.ChangeShapes Go.WideShapes Go.ChangeAt Go.RowKit Go.Deep

section
variable {H : Type} {enc : TypeId × Value → H} {P : Program} {w : World} {base : Nat} {spare : Nat → Bool} {held : Bool} {R : Nat}
/-- Cells read as data, each slice of which is light. -/
def TrodW (enc : TypeId × Value → H) (P : Program) (w : World) (base : Nat) (spare : Nat → Bool) (held : Bool) (R n : Nat) (t : TypeId) (l : List Value) : Prop :=
  ∃ y, DataW.trod enc P w base spare held n t l = some y ∧ ∀ k ∈ y.1.weights P t, k ≤ R
theorem wAll_mem {e : TypeId} : ∀ {ds : List (DataW H)} {d : DataW H}, d ∈ ds → ∀ n ∈ d.weights P e, n ∈ DataW.weightsAll P e ds
  | [], _, h, _, _ => by cases h
  | x :: r, d, h, n, hn => by
    simp only [DataW.weightsAll, List.mem_append]
    rcases List.mem_cons.1 h with rfl | h
    · exact .inl hn
    · exact .inr (wAll_mem h n hn)
def FieldsW (enc : TypeId × Value → H) (P : Program) (w : World) (base : Nat) (spare : Nat → Bool) (held : Bool) (R n : Nat) (fs : Array Field) (l : List Value) : Prop :=
  ∀ (j : Nat) (f : Field), fs[j]? = some f → TrodW enc P w base spare held R n f.type ((l.drop f.offset).take (P.cellsOf f.type))
theorem TrodW.fields {n : Nat} {t : TypeId} {fs : Array Field} {l : List Value} (hs : P.underlying t = some (.struct fs)) (h : TrodW enc P w base spare held R n t l) : ∃ n', FieldsW enc P w base spare held R n' fs l := by
  obtain ⟨y, h, hW⟩ := h
  obtain ⟨ys, n', _, hx, _, hyl, hg⟩ := DataW.trod_struct hs h
  refine ⟨n', fun j f hj => ?_⟩
  have hjl : j < fs.size := (Array.getElem?_eq_some_iff.1 hj).1
  have hjy : j < ys.length := by omega
  refine ⟨ys[j], (hg j f hj).trans (List.getElem?_eq_getElem hjy), fun q hq => hW q ?_⟩
  subst hx
  simp only [DataW.weights, hs]
  exact DataW.weights_mem_each (j := j) (t := f.type) (d := (ys[j]).1) (by simp [hj]) (by simp [hjy]) q hq
theorem FieldsW.at_ {n : Nat} {fs : Array Field} {l l' : List Value} (h : FieldsW enc P w base spare held R n fs l) (j : Nat) (T : TypeId) (off k : Nat) (f : Field) (hj : fs[j]? = some f) (hT : f.type = T) (ho : f.offset = off) (hk : P.cellsOf T = k) (hl : (l.drop off).take k = l') : TrodW enc P w base spare held R n T l' := by
  have hy := h j f hj
  rw [hT, ho, hk, hl] at hy
  exact hy
theorem TrodW.int {k : IntKind} {n : Nat} {t : TypeId} {c : Value} (ht : P.underlying t = some (.int k)) (h : TrodW enc P w base spare held R n t [c]) : ∃ a, c = .int k a ∧ (Lit.int k a).wf = true := by
  obtain ⟨y, h, _⟩ := h
  exact agg_int ht h
theorem TrodW.bool {n : Nat} {t : TypeId} {c : Value} (ht : P.underlying t = some .bool) (h : TrodW enc P w base spare held R n t [c]) : ∃ b : Bool, c = .bool b := by
  obtain ⟨y, h, _⟩ := h
  exact agg_boolP ht h
theorem TrodW.str {n : Nat} {t : TypeId} {c : Value} (ht : P.underlying t = some .string) (h : TrodW enc P w base spare held R n t [c]) : ∃ s : ByteArray, c = .string s ∧ s.size ≤ maxLen ∧ s.size ≤ R := by
  obtain ⟨y, h, hW⟩ := h
  obtain ⟨s, h1, h2, h3⟩ := DataW.trod_string ht h
  refine ⟨s, by simpa using h1, h3, ?_⟩
  subst h2
  have := hW s.data.toList.length (by simp [DataW.weights])
  have e : s.data.toList.length = s.size := by rw [Array.length_toList]; rfl
  rw [e] at this
  exact this
theorem TrodW.arr {n m : Nat} {t e : TypeId} {l : List Value} (ht : P.underlying t = some (.array m e)) (h : TrodW enc P w base spare held R n t l) : ∃ n', ∀ i, i < m → TrodW enc P w base spare held R n' e ((l.drop (i * P.cellsOf e)).take (P.cellsOf e)) := by
  obtain ⟨y, h, hW⟩ := h
  obtain ⟨xs, n', _, hx, _, hxl, hg⟩ := DataW.trod_array ht h
  refine ⟨n', fun i hi => ?_⟩
  have hil : i < xs.length := by omega
  refine ⟨xs[i], (hg i hi).trans (List.getElem?_eq_getElem hil), fun q hq => hW q ?_⟩
  subst hx
  simp only [DataW.weights, ht]
  exact wAll_mem (List.mem_map.2 ⟨xs[i], List.getElem_mem hil, rfl⟩) q hq
theorem TrodW.slice {α : Type} {cf : α → List Value} {ok : α → Prop} {t e : TypeId} {size : Nat} {n0 : Nat} {v : Value} (ht : P.underlying t = some (.slice e)) (hC : P.cellsOf e = size) (h0 : 0 < size) (hcl : ∀ x, (cf x).length = size)
    (hel : ∀ (n : Nat) (l : List Value), l.length = size → TrodW enc P w base spare held R n e l → ∃ x : α, l = cf x ∧ ok x)
    (h : TrodW enc P w base spare held R n0 t [v]) : ∃ (A : Option Addr) (l : List α) (cap : Nat), v = .slice A l.length cap ∧ l.length ≤ cap ∧ cap ≤ maxLen ∧ RdX cf w A l ∧ (∀ x ∈ l, ok x) ∧ l.length * P.bytesOf e ≤ R := by
  obtain ⟨y0, h, hW⟩ := h
  rcases open_slice ht h with ⟨hcs, _⟩ | ⟨a, len, cap, m, n, D, Pl, hcs, _, hlc, hm, hmm, hx, hi⟩
  · simp at hcs
    subst hcs
    exact ⟨none, [], 0, rfl, Nat.le_refl _, Nat.zero_le _, rdX_nil, (fun x hx => by cases hx), by simp⟩
  · simp at hcs
    subst hcs
    have hlm : len ≤ m := by rw [hmm]; split <;> omega
    subst hx
    have hlw : len * P.bytesOf e ≤ R := by
      have h1 := hW (((List.range len).map D).length * P.bytesOf e + ((List.range (m - len)).map fun j => D (len + j)).length * P.bytesOf e) (by
        simp only [DataW.weights, ht]
        rw [← Nat.add_mul]
        exact List.mem_cons_self)
      simp only [List.length_map, List.length_range] at h1
      exact Nat.le_trans (Nat.le_add_right _ _) h1
    obtain ⟨xs, hxl, hx⟩ := list_of (p := fun i (x : α) => ok x ∧ ∀ j u, (cf x)[j]? = some u → w.cell? (a.add (i * size + j)) = some u) len (fun i hi1 => by
      obtain ⟨cs', hc, ht'⟩ := hi i (by omega)
      obtain ⟨_, hcl', hat⟩ := World.cells?_some hc
      rw [hC] at hcl' hat
      obtain ⟨x, rfl, hok⟩ := hel _ _ hcl' ⟨_, ht', fun k hk => hW k (by
        simp only [DataW.weights, ht, List.mem_cons, List.mem_append]
        exact .inr (.inl (wAll_mem (List.mem_map.2 ⟨i, List.mem_range.2 hi1, rfl⟩) k hk)))⟩
      refine ⟨x, hok, fun j u hu => ?_⟩
      have hj : j < size := by have := (List.getElem?_eq_some_iff.1 hu).1; omega
      rw [← Go.Deep.add_add]
      exact (hat j hj).trans hu)
    subst hxl
    refine ⟨some a, xs, cap, rfl, hlc, hm, fun hl0 => ?_, fun x hx1 => ?_, hlw⟩
    · have h00 : ∃ u, w.cell? (a.add 0) = some u := by
        have hx0 := hx 0 (xs[0]'hl0) (List.getElem?_eq_getElem hl0)
        have h1 : (cf (xs[0]'hl0))[0]? = some ((cf (xs[0]'hl0))[0]'(by rw [hcl]; exact h0)) := List.getElem?_eq_getElem _
        exact ⟨_, by simpa using hx0.2 0 _ h1⟩
      obtain ⟨u0, hu0⟩ := h00
      have hadd0 : a.add 0 = a := by unfold Addr.add; simp
      rw [hadd0] at hu0
      have hs : a.spot = none := by
        unfold World.cell? at hu0
        split at hu0
        · split at hu0
          · cases hu0
          · rename_i h1; simpa using h1
        · cases hu0
      obtain ⟨b, off, sp⟩ := a
      simp at hs
      subst hs
      refine ⟨b, off, rfl, World.block_lt_of_cell? w _ hu0, fun j u hu => ?_⟩
      have key : ∀ (l : List α) (j : Nat) (u : Value), (l.flatMap cf)[j]? = some u → ∃ i x k, l[i]? = some x ∧ (cf x)[k]? = some u ∧ j = i * size + k := by
        intro l
        induction l with
        | nil => intro j u h; simp at h
        | cons y ys ih =>
          intro j u h
          rw [List.flatMap_cons] at h
          rcases Nat.lt_or_ge j (cf y).length with h1 | h1
          · rw [List.getElem?_append_left h1] at h
            exact ⟨0, y, j, rfl, h, by simp⟩
          · rw [List.getElem?_append_right h1] at h
            obtain ⟨i, x, k, h2, h3, h4⟩ := ih _ _ h
            refine ⟨i + 1, x, k, by simpa using h2, h3, ?_⟩
            rw [hcl] at h1 h4
            rw [Nat.succ_mul]; omega
      obtain ⟨i, x, k, h2, h3, rfl⟩ := key xs j u hu
      have := (hx i x h2).2 k u h3
      rw [Addr.add_mid] at this
      exact this
    · obtain ⟨i, hi1⟩ := List.mem_iff_getElem?.1 hx1
      exact (hx i x hi1).1
/-- A struct that is handed in. -/
theorem open_structW {r : Reach} {b0 : Nat} {t : TypeId} {fs : Array Field} {v : Value} {d : DataW H} {p : List MemPlace} {k : Nat} (hs : P.underlying t = some (.struct fs)) (hC : P.cellsOf t = k) (hW : ∀ q ∈ d.weights P t, q ≤ R)
    (hv : Value.okWide P w r b0 t v) (h : DataW.Trod enc P w base spare held t v d p) : ∃ (l : List Value) (n : Nat), v = .agg l.toArray ∧ l.length = k ∧ TrodW enc P w base spare held R n t l := by
  obtain ⟨cs, rfl, hsz⟩ := okWide_struct hs hv
  obtain ⟨l⟩ := cs
  obtain ⟨fuel, hf⟩ := h
  have hcs : (Value.agg ⟨l⟩).cells.toList = l := by simp [Value.cells]
  rw [hcs] at hf
  exact ⟨l, fuel, rfl, by simpa using hsz.trans hC, ⟨_, hf, hW⟩⟩
end
end Go.Proofs.YtdplnedpbkpgpaaGreatDoor

namespace Go.Proofs.YtdplnedpbkpgpaaGreatDoor
set_option linter.all false
set_option maxRecDepth 100000
open Go.ChangeShapes Go.WideShapes Go.ChangeAt Go.RowKit Go.Deep

theorem arN24 {l : List Value} (h : l.length = 24) : ∃ c0 c1 c2 c3 c4 c5 c6 c7 c8 c9 c10 c11 c12 c13 c14 c15 c16 c17 c18 c19 c20 c21 c22 c23, l = [c0, c1, c2, c3, c4, c5, c6, c7, c8, c9, c10, c11, c12, c13, c14, c15, c16, c17, c18, c19, c20, c21, c22, c23] := by
  match l, h with
  | [c0, c1, c2, c3, c4, c5, c6, c7, c8, c9, c10, c11, c12, c13, c14, c15, c16, c17, c18, c19, c20, c21, c22, c23], _ => exact ⟨c0, c1, c2, c3, c4, c5, c6, c7, c8, c9, c10, c11, c12, c13, c14, c15, c16, c17, c18, c19, c20, c21, c22, c23, rfl⟩
theorem arN32 {l : List Value} (h : l.length = 32) : ∃ c0 c1 c2 c3 c4 c5 c6 c7 c8 c9 c10 c11 c12 c13 c14 c15 c16 c17 c18 c19 c20 c21 c22 c23 c24 c25 c26 c27 c28 c29 c30 c31, l = [c0, c1, c2, c3, c4, c5, c6, c7, c8, c9, c10, c11, c12, c13, c14, c15, c16, c17, c18, c19, c20, c21, c22, c23, c24, c25, c26, c27, c28, c29, c30, c31] := by
  match l, h with
  | [c0, c1, c2, c3, c4, c5, c6, c7, c8, c9, c10, c11, c12, c13, c14, c15, c16, c17, c18, c19, c20, c21, c22, c23, c24, c25, c26, c27, c28, c29, c30, c31], _ => exact ⟨c0, c1, c2, c3, c4, c5, c6, c7, c8, c9, c10, c11, c12, c13, c14, c15, c16, c17, c18, c19, c20, c21, c22, c23, c24, c25, c26, c27, c28, c29, c30, c31, rfl⟩
/-- The numbers of a setting are such as the program has. -/
structure TOk (t : TM) : Prop where
  ch : ∀ i, i < 19 → 0 ≤ t.ch i ∧ t.ch i < 256
  fl : 0 ≤ t.fl ∧ t.fl < 18446744073709551616
  mn : -9223372036854775808 ≤ t.mn ∧ t.mn ≤ 9223372036854775807
  tm : -9223372036854775808 ≤ t.tm ∧ t.tm ≤ 9223372036854775807
theorem wf_u64 {n : Int} (h : (Lit.int .u64 n).wf = true) : 0 ≤ n ∧ n < 18446744073709551616 := by
  simp [Lit.wf, IntKind.min, IntKind.max, IntKind.bits, IntKind.signed] at h; omega
theorem wf_u8' {n : Int} (h : (Lit.int .u8 n).wf = true) : 0 ≤ n ∧ n < 256 := by
  have := wf_u8 h
  omega
section
variable {H : Type} {enc : TypeId × Value → H} {w : World} {base : Nat} {spare : Nat → Bool} {held : Bool} {R : Nat}
theorem termios_cells {n : Nat} {l : List Value} (hl : l.length = 24) (h : TrodW enc Tryz.prog w base spare held R n 28 l) : ∃ t : TM, l = t.cells ∧ TOk t := by
  obtain ⟨n1, hf⟩ := h.fields Tryz.underlying28
  obtain ⟨c0, c1, c2, c3, c4, c5, c6, c7, c8, c9, c10, c11, c12, c13, c14, c15, c16, c17, c18, c19, c20, c21, c22, c23, rfl⟩ := arN24 hl
  have g0 := hf.at_ 0 25 0 19 _ rfl rfl rfl (by kernel_rfl) rfl
  have g1 := hf.at_ 1 26 19 1 _ rfl rfl rfl (by kernel_rfl) rfl
  have g2 := hf.at_ 2 22 20 1 _ rfl rfl rfl (by kernel_rfl) rfl
  have g3 := hf.at_ 3 22 21 1 _ rfl rfl rfl (by kernel_rfl) rfl
  have g4 := hf.at_ 4 3 22 1 _ rfl rfl rfl (by kernel_rfl) rfl
  have g5 := hf.at_ 5 3 23 1 _ rfl rfl rfl (by kernel_rfl) rfl
  obtain ⟨n2, ha⟩ := g0.arr Tryz.underlying25
  rw [(by kernel_rfl : Tryz.prog.cellsOf 5 = 1)] at ha
  obtain ⟨x0, rfl, u0⟩ := TrodW.int (c := c0) Tryz.underlying5 (ha 0 (by decide))
  obtain ⟨x1, rfl, u1⟩ := TrodW.int (c := c1) Tryz.underlying5 (ha 1 (by decide))
  obtain ⟨x2, rfl, u2⟩ := TrodW.int (c := c2) Tryz.underlying5 (ha 2 (by decide))
  obtain ⟨x3, rfl, u3⟩ := TrodW.int (c := c3) Tryz.underlying5 (ha 3 (by decide))
  obtain ⟨x4, rfl, u4⟩ := TrodW.int (c := c4) Tryz.underlying5 (ha 4 (by decide))
  obtain ⟨x5, rfl, u5⟩ := TrodW.int (c := c5) Tryz.underlying5 (ha 5 (by decide))
  obtain ⟨x6, rfl, u6⟩ := TrodW.int (c := c6) Tryz.underlying5 (ha 6 (by decide))
  obtain ⟨x7, rfl, u7⟩ := TrodW.int (c := c7) Tryz.underlying5 (ha 7 (by decide))
  obtain ⟨x8, rfl, u8⟩ := TrodW.int (c := c8) Tryz.underlying5 (ha 8 (by decide))
  obtain ⟨x9, rfl, u9⟩ := TrodW.int (c := c9) Tryz.underlying5 (ha 9 (by decide))
  obtain ⟨x10, rfl, u10⟩ := TrodW.int (c := c10) Tryz.underlying5 (ha 10 (by decide))
  obtain ⟨x11, rfl, u11⟩ := TrodW.int (c := c11) Tryz.underlying5 (ha 11 (by decide))
  obtain ⟨x12, rfl, u12⟩ := TrodW.int (c := c12) Tryz.underlying5 (ha 12 (by decide))
  obtain ⟨x13, rfl, u13⟩ := TrodW.int (c := c13) Tryz.underlying5 (ha 13 (by decide))
  obtain ⟨x14, rfl, u14⟩ := TrodW.int (c := c14) Tryz.underlying5 (ha 14 (by decide))
  obtain ⟨x15, rfl, u15⟩ := TrodW.int (c := c15) Tryz.underlying5 (ha 15 (by decide))
  obtain ⟨x16, rfl, u16⟩ := TrodW.int (c := c16) Tryz.underlying5 (ha 16 (by decide))
  obtain ⟨x17, rfl, u17⟩ := TrodW.int (c := c17) Tryz.underlying5 (ha 17 (by decide))
  obtain ⟨x18, rfl, u18⟩ := TrodW.int (c := c18) Tryz.underlying5 (ha 18 (by decide))
  obtain ⟨fl, rfl, v1⟩ := TrodW.int Tryz.underlying26 g1
  obtain ⟨inn, rfl, v2⟩ := TrodW.int Tryz.underlying22 g2
  obtain ⟨out, rfl, v3⟩ := TrodW.int Tryz.underlying22 g3
  obtain ⟨mn, rfl, v4⟩ := TrodW.int Tryz.underlying3 g4
  obtain ⟨tm, rfl, v5⟩ := TrodW.int Tryz.underlying3 g5
  refine ⟨⟨fun k => [x0, x1, x2, x3, x4, x5, x6, x7, x8, x9, x10, x11, x12, x13, x14, x15, x16, x17, x18].getD k 0, fl, inn, out, mn, tm⟩, rfl, ⟨fun i hi => ?_, wf_u64 v1, wf_i64 v4, wf_i64 v5⟩⟩
  match i, hi with
  | 0, _ => exact wf_u8' u0
  | 1, _ => exact wf_u8' u1
  | 2, _ => exact wf_u8' u2
  | 3, _ => exact wf_u8' u3
  | 4, _ => exact wf_u8' u4
  | 5, _ => exact wf_u8' u5
  | 6, _ => exact wf_u8' u6
  | 7, _ => exact wf_u8' u7
  | 8, _ => exact wf_u8' u8
  | 9, _ => exact wf_u8' u9
  | 10, _ => exact wf_u8' u10
  | 11, _ => exact wf_u8' u11
  | 12, _ => exact wf_u8' u12
  | 13, _ => exact wf_u8' u13
  | 14, _ => exact wf_u8' u14
  | 15, _ => exact wf_u8' u15
  | 16, _ => exact wf_u8' u16
  | 17, _ => exact wf_u8' u17
  | 18, _ => exact wf_u8' u18
  | k + 19, hi => exact absurd hi (by omega)
theorem var_cells {n : Nat} {l : List Value} (hl : l.length = 2) (h : TrodW enc Tryz.prog w base spare held R n 76 l) : ∃ x : VR, l = cVar x ∧ (x.n.size ≤ maxLen ∧ x.v.size ≤ maxLen ∧ x.n.size ≤ R ∧ x.v.size ≤ R) := by
  obtain ⟨n1, hf⟩ := h.fields Tryz.underlying76
  match l, hl with
  | [c0, c1], _ =>
  have g0 := hf.at_ 0 9 0 1 _ rfl rfl rfl (by kernel_rfl) rfl
  have g1 := hf.at_ 1 9 1 1 _ rfl rfl rfl (by kernel_rfl) rfl
  obtain ⟨a, rfl, a1, a2⟩ := TrodW.str Tryz.underlying9 g0
  obtain ⟨b, rfl, b1, b2⟩ := TrodW.str Tryz.underlying9 g1
  exact ⟨⟨a, b⟩, rfl, a1, b1, a2, b2⟩
/-- What a session that is handed in holds. -/
structure SesIn (w : World) (R : Nat) (s : SS) (A : Option Addr) (cap : Nat) : Prop where
  rd : RdX cVar w A s.env
  le : s.env.length ≤ cap
  max : cap ≤ maxLen
  few : s.env.length * 32 ≤ R
  term : s.term.size ≤ maxLen ∧ s.term.size ≤ R
  size : (0 ≤ s.c0 ∧ s.c0 < 4294967296) ∧ (0 ≤ s.c1 ∧ s.c1 < 4294967296) ∧ (0 ≤ s.c2 ∧ s.c2 < 4294967296) ∧ (0 ≤ s.c3 ∧ s.c3 < 4294967296)
  t : TOk s.t
  strs : ∀ x ∈ s.env, x.n.size ≤ maxLen ∧ x.v.size ≤ maxLen ∧ x.n.size ≤ R ∧ x.v.size ≤ R
theorem wf_u32' {n : Int} (h : (Lit.int .u32 n).wf = true) : 0 ≤ n ∧ n < 4294967296 := by
  simp [Lit.wf, IntKind.min, IntKind.max, IntKind.bits, IntKind.signed] at h; omega
theorem open_strW {r : Reach} {b0 : Nat} {v : Value} {d : DataW H} {p : List MemPlace} (hW : ∀ q ∈ d.weights Tryz.prog 9, q ≤ R) (hv : Value.okWide Tryz.prog w r b0 9 v) (h : DataW.Trod enc Tryz.prog w base spare held 9 v d p) : ∃ s : ByteArray, v = .string s ∧ s.size ≤ maxLen ∧ s.size ≤ R := by
  obtain ⟨s0, rfl⟩ := okWide_string Tryz.underlying9 hv
  obtain ⟨fuel, hf⟩ := h
  exact TrodW.str Tryz.underlying9 ⟨_, hf, hW⟩
theorem open_sess {r : Reach} {b0 : Nat} {v : Value} {d : DataW H} {p : List MemPlace} (hW : ∀ q ∈ d.weights Tryz.prog 31, q ≤ R) (hv : Value.okWide Tryz.prog w r b0 31 v) (h : DataW.Trod enc Tryz.prog w base spare held 31 v d p) : ∃ (s : SS) (A : Option Addr) (cap : Nat), v = s.val A cap ∧ SesIn w R s A cap := by
  obtain ⟨l, n, rfl, hl, hf⟩ := open_structW Tryz.underlying31 (by kernel_rfl : Tryz.prog.cellsOf 31 = 32) hW hv h
  obtain ⟨n1, hf⟩ := hf.fields Tryz.underlying31
  obtain ⟨c0, c1, c2, c3, c4, c5, c6, c7, c8, c9, c10, c11, c12, c13, c14, c15, c16, c17, c18, c19, c20, c21, c22, c23, c24, c25, c26, c27, c28, c29, c30, c31, rfl⟩ := arN32 hl
  have g0 := hf.at_ 0 4 0 1 _ rfl rfl rfl (by kernel_rfl) rfl
  have g1 := hf.at_ 1 9 1 1 _ rfl rfl rfl (by kernel_rfl) rfl
  have g2 := hf.at_ 2 24 2 4 _ rfl rfl rfl (by kernel_rfl) rfl
  have g3 := hf.at_ (l' := [c6, c7, c8, c9, c10, c11, c12, c13, c14, c15, c16, c17, c18, c19, c20, c21, c22, c23, c24, c25, c26, c27, c28, c29]) 3 28 6 24 _ rfl rfl rfl (by kernel_rfl) rfl
  have g4 := hf.at_ 4 29 30 1 _ rfl rfl rfl (by kernel_rfl) rfl
  have g5 := hf.at_ 5 4 31 1 _ rfl rfl rfl (by kernel_rfl) rfl
  obtain ⟨n2, hs⟩ := g2.fields Tryz.underlying24
  have s0 := hs.at_ 0 22 0 1 _ rfl rfl rfl (by kernel_rfl) rfl
  have s1 := hs.at_ 1 22 1 1 _ rfl rfl rfl (by kernel_rfl) rfl
  have s2 := hs.at_ 2 22 2 1 _ rfl rfl rfl (by kernel_rfl) rfl
  have s3 := hs.at_ 3 22 3 1 _ rfl rfl rfl (by kernel_rfl) rfl
  obtain ⟨pt, rfl⟩ := TrodW.bool Tryz.underlying4 g0
  obtain ⟨tm, rfl, a1, a2⟩ := TrodW.str Tryz.underlying9 g1
  obtain ⟨z0, rfl, u0⟩ := TrodW.int Tryz.underlying22 s0
  obtain ⟨z1, rfl, u1⟩ := TrodW.int Tryz.underlying22 s1
  obtain ⟨z2, rfl, u2⟩ := TrodW.int Tryz.underlying22 s2
  obtain ⟨z3, rfl, u3⟩ := TrodW.int Tryz.underlying22 s3
  obtain ⟨t, et, ht⟩ := termios_cells rfl g3
  obtain ⟨A, env, cap, rfl, e1, e2, e3, e4, e5⟩ := TrodW.slice (cf := cVar) (ok := fun x => x.n.size ≤ maxLen ∧ x.v.size ≤ maxLen ∧ x.n.size ≤ R ∧ x.v.size ≤ R) (size := 2) Tryz.underlying29 (by kernel_rfl) (by decide) cVar_len (fun n l hl h => var_cells hl h) g4
  obtain ⟨st, rfl⟩ := TrodW.bool Tryz.underlying4 g5
  refine ⟨⟨pt, tm, z0, z1, z2, z3, t, env, st⟩, A, cap, ?_, ⟨e3, e1, e2, by rw [by_rv27] at e5; exact e5, ⟨a1, a2⟩, ⟨wf_u32' u0, wf_u32' u1, wf_u32' u2, wf_u32' u3⟩, ht, e4⟩⟩
  have e : ∀ (l : List Value), l = t.cells → (Value.agg (.bool pt :: .string tm :: .int .u32 z0 :: .int .u32 z1 :: .int .u32 z2 :: .int .u32 z3 :: (l ++ [.slice A env.length cap, .bool st])).toArray) = SS.val ⟨pt, tm, z0, z1, z2, z3, t, env, st⟩ A cap := fun l h => by subst h; rfl
  exact e _ et
end
end Go.Proofs.YtdplnedpbkpgpaaGreatDoor

namespace Go.Proofs.YtdplnedpbkpgpaaGreatDoor
set_option linter.all false
set_option maxRecDepth 100000
open Go.RowKit
/-- An operation, a program as it lies in memory. -/
structure OP9 where
  k : Int
  a : Int
  b : Int
  t : ByteArray
def cOP (x : OP9) : List Value := [.int .i64 x.k, .int .i64 x.a, .int .i64 x.b, .string x.t]
def OP9.sc (x : OP9) : List SC := [.v (.int .i64 x.k), .v (.int .i64 x.a), .v (.int .i64 x.b), .v (.string x.t)]
structure PG where
  n : ByteArray
  A : Option Addr
  c : Nat
  ops : List OP9
def cPG (x : PG) : List Value := [.string x.n, .slice x.A x.ops.length x.c]
def PG.sc (x : PG) : List SC := [.v (.string x.n), .v (.slice x.A x.ops.length x.c)]
def PG.m (x : PG) : ByteArray × List OP9 := (x.n, x.ops)
def PG.pr (x : PG) : PR := ⟨x.n, x.A, x.c, x.ops.length⟩
theorem cPG_pr (x : PG) : cPr x.pr = cPG x := rfl
theorem flat_pr (l : List PG) : (l.map PG.pr).flatMap cPr = l.flatMap cPG := by
  induction l with
  | nil => rfl
  | cons x l ih => rw [List.map_cons, List.flatMap_cons, List.flatMap_cons, ih, cPG_pr]
theorem rdX_pr {w : World} {A : Option Addr} {l : List PG} (h : RdX cPG w A l) : RdX cPr w A (l.map PG.pr) := fun h0 => by
  obtain ⟨b, off, e, h1, h2⟩ := h (by rw [List.length_map] at h0; exact h0)
  exact ⟨b, off, e, h1, by rw [flat_pr]; exact h2⟩
theorem cOP_len (x : OP9) : (cOP x).length = 4 := rfl
theorem cPG_len (x : PG) : (cPG x).length = 2 := rfl
theorem cOP_one (x : OP9) : ∀ u ∈ cOP x, u.oneCell' = true := by
  intro u hu
  simp only [cOP, List.mem_cons, List.not_mem_nil, or_false] at hu
  rcases hu with rfl | rfl | rfl | rfl <;> rfl
theorem cPG_one (x : PG) : ∀ u ∈ cPG x, u.oneCell' = true := by
  intro u hu
  simp only [cPG, List.mem_cons, List.not_mem_nil, or_false] at hu
  rcases hu with rfl | rfl <;> rfl
def PgOk (w : World) (x : PG) : Prop := RdX cOP w x.A x.ops ∧ x.ops.length ≤ x.c ∧ x.c ≤ maxLen
theorem PgOk.only {w w' : World} {x : PG} (h : PgOk w x) (O : Only [] w w') : PgOk w' x := ⟨h.1.only O, h.2⟩
/-- Programs in memory. -/
structure Pgs (w : World) (A : Option Addr) (c : Nat) (l : List PG) : Prop where
  rd : RdX cPG w A l
  le : l.length ≤ c
  max : c ≤ maxLen
  all : ∀ x ∈ l, PgOk w x
theorem Pgs.only {w w' : World} {A : Option Addr} {c : Nat} {l : List PG} (h : Pgs w A c l) (O : Only [] w w') : Pgs w' A c l := ⟨h.rd.only O, h.le, h.max, fun x hx => (h.all x hx).only O⟩
structure PgFew (l : List PG) : Prop where
  len : l.length ≤ 3518437208875
  ops : ∀ x ∈ l, x.ops.length ≤ 3518437208875
abbrev PX := Option Addr × Nat × List PG
def PgsP (ps : List PG) (z : PX) (w : World) : Prop := Pgs w z.1 z.2.1 z.2.2 ∧ z.2.2.map PG.m = ps.map PG.m
theorem PgsP.len {ps : List PG} {z : PX} {w : World} (h : PgsP ps z w) : z.2.2.length = ps.length := by simpa using congrArg List.length h.2
/-- Programs in new memory. -/
abbrev PgPost (ps : List PG) (w : World) : Ending → World → Prop := NewX w (fun z : PX => .slice z.1 ps.length z.2.1) (PgsP ps)
theorem Nx.pgs {ps : List PG} {w w1 w' : World} {L1 β : List Nat} {hp : List HB} {D1 : World → Prop} {A : Option Addr} {c : Nat} {outs : List PG} (C : Nx w w1 L1 D1) (H : Mem w1 L1 β hp w') (q : ∀ w, D1 w → PgsP ps (A, c, outs) w) : PgPost ps w (.returned (.slice A ps.length c)) w' :=
  ⟨(A, c, outs), rfl, C.only H, fun L hL => (C.fin H L fun x hx => .inl (hL x hx)).imp fun w h => q w h⟩
theorem elemLp : ElemT Tryz.prog 35 94 2 (Tryz.prog.bytesOf 94) := elemT_of (z := .agg #[.string ⟨#[]⟩, .slice none 0 0]) (by kernel_rfl) (by kernel_rfl) (by decide) (by decide)
theorem elemLp_by : Tryz.prog.bytesOf 94 = 40 := by kernel_rfl
theorem elemRo : ElemT Tryz.prog 92 96 4 (Tryz.prog.bytesOf 96) := elemT_of (z := .agg #[.int .i64 0, .int .i64 0, .int .i64 0, .string ⟨#[]⟩]) (by kernel_rfl) (by kernel_rfl) (by decide) (by decide)
theorem elemRo_by : Tryz.prog.bytesOf 96 = 40 := by kernel_rfl
theorem elemPo : ElemT Tryz.prog 79 97 4 (Tryz.prog.bytesOf 97) := elemT_of (z := .agg #[.int .i64 0, .int .i64 0, .int .i64 0, .string ⟨#[]⟩]) (by kernel_rfl) (by kernel_rfl) (by decide) (by decide)
theorem elemPo_by : Tryz.prog.bytesOf 97 = 40 := by kernel_rfl
theorem elemRp : ElemT Tryz.prog 54 106 2 (Tryz.prog.bytesOf 106) := elemT_of (z := .agg #[.string ⟨#[]⟩, .slice none 0 0]) (by kernel_rfl) (by kernel_rfl) (by decide) (by decide)
theorem elemRp_by : Tryz.prog.bytesOf 106 = 40 := by kernel_rfl
theorem elemPr_by : Tryz.prog.bytesOf 81 = 40 := by kernel_rfl
set_option maxHeartbeats 4000000 in
theorem to19_any (ps : List PG) (A : Option Addr) (c : Nat) (w : World) (h : Pgs w A c ps) (hf : PgFew ps) : Calls Tryz.prog 12 #[.slice A ps.length c] w (PgPost ps w) := by
  have hlen : ps.length ≤ maxLen := Nat.le_trans h.le h.max
  have hps := hf.len
  have J : ∀ (d i : Nat), ps.length - i = d → i ≤ ps.length → ∀ (outs : List PG) (A4 : Option Addr) (c4 : Nat) (w1 : World) (L1 : List Nat), Nx w w1 L1 (fun w => ∀ z ∈ outs, PgOk w z) → outs.map PG.m = (ps.take i).map PG.m → outs.length = i → ∀ (u : Nat → Value), Hs Tryz.prog 12 (PgPost ps w) (Tryz.f12).ntmps w1 L1 [0] ⟨.no, loopAt Tryz.f12 0, pins [(3, .c (.v (.slice A4 i c4))), (9, .c (.v (.slice A ps.length c))), (10, .c (.v (.int .i64 ps.length))), (11, .c (.v (.int .i64 i)))] (.vals u), [.s A4 c4 i 81 2 (outs.flatMap cPG)]⟩ := by
    intro d
    induction d with
    | zero =>
      intro i hd hi outs A4 c4 w1 L1 N ho hol u
      obtain rfl : i = ps.length := by omega
      rw [List.take_length] at ho
      refine Hs.run0 300 (fun _ => by kernel_rfl) ?_
      refine Hs.condP ((ps.length : Int) < (ps.length : Int)) (by kernel_rfl) (fun h => by omega) (fun _ => ?_)
      refine Hs.runR0 13 [] 300 (fun _ => by kernel_rfl) ?_
      refine Hs.freezeN 0 (cf := cPG) (size := 2) (A := A4) (cap := c4) (nl := ps.length) (E := 81) N hol (by kernel_rfl) (by kernel_rfl) fun w3 L3 N3 => ?_
      refine Hs.run0 300 (fun _ => by kernel_rfl) ?_
      exact Hs.ret (v := .slice A4 ps.length c4) Tryz.func12 (by kernel_rfl) fun w' H => N3.pgs (outs := outs) H fun w h => ⟨⟨h.1.1, h.1.2.1, h.1.2.2, h.2⟩, ho⟩
    | succ d ih =>
      intro i hd hi outs A4 c4 w1 L1 N ho hol u
      have hil : i < ps.length := by omega
      obtain ⟨x, hx⟩ : ∃ x, ps[i]? = some x := ⟨_, List.getElem?_eq_getElem hil⟩
      have hxm : x ∈ ps := List.mem_of_getElem? hx
      have hxo := h.all x hxm
      have hxl := hf.ops x hxm
      obtain ⟨ab, aoff, hA, _, _⟩ := h.rd (by omega)
      have hih := fun outs A4 c4 w1 L1 N e1 e2 u => ih (i + 1) (by omega) (by omega) outs A4 c4 w1 L1 N e1 e2 u
      clear ih
      have hrd := h.rd
      rw [hA] at hih hrd ⊢
      have K : ∀ (e j : Nat), x.ops.length - j = e → j ≤ x.ops.length → ∀ (g0 g : Nat) (A5 : Option Addr) (c5 : Nat) (u : Nat → Value), Hs Tryz.prog 12 (PgPost ps w) (Tryz.f12).ntmps w1 L1 [0, g, 0] ⟨.no, loopAt Tryz.f12 1, pins [(3, .c (.v (.slice A4 i c4))), (6, .c (.p 1 0)), (9, .c (.v (.slice (some ⟨ab, aoff, none⟩) ps.length c))), (10, .c (.v (.int .i64 ps.length))), (11, .c (.v (.int .i64 i))), (19, .c (.v (.slice x.A x.ops.length x.c))), (20, .c (.v (.int .i64 x.ops.length))), (21, .c (.v (.int .i64 j)))] (.vals u), [.s A4 c4 i 81 2 (outs.flatMap cPG), .b true 81 [.v (.string x.n), .v (.slice A5 j c5)], .s A5 c5 j 97 4 ((x.ops.take j).flatMap cOP)]⟩ := by
        intro e
        induction e with
        | zero =>
          intro j he hj g0 g A5 c5 u
          obtain rfl : j = x.ops.length := by omega
          rw [List.take_length]
          refine Hs.run0 300 (fun _ => by kernel_rfl) ?_
          refine Hs.condP ((x.ops.length : Int) < (x.ops.length : Int)) (by kernel_rfl) (fun h => by omega) (fun _ => ?_)
          refine Hs.run1 300 (fun _ => by kernel_rfl) fun b3 => ?_
          refine Hs.app (cf := cPG) (c := 1) (ty := 47) 0 elemPr outs [(⟨x.n, A5, c5, x.ops⟩ : PG)] i 1 hol rfl cPG_one cPG_len (A := A4) (B := some ⟨b3, 0, none⟩) (cap := c4) (by kernel_rfl) (by kernel_rfl) (by kernel_rfl) (fun w' H => H.rdB (cf := cPG) (wr := true) (T := 81) (cs := PG.sc ⟨x.n, A5, c5, x.ops⟩) (gs := [(⟨x.n, A5, c5, x.ops⟩ : PG)]) 3 (by kernel_rfl) rfl) (by unfold maxLen; omega) (by rw [elemPr_by]; omega) fun A6 c6 h6 => ?_
          refine Hs.run0 300 (fun _ => by kernel_rfl) ?_
          refine Hs.freezeN 2 (cf := cOP) (size := 4) (A := A5) (cap := c5) (nl := x.ops.length) (E := 97) N rfl (by kernel_rfl) (by kernel_rfl) fun w3 L3 N3 => ?_
          refine Hs.slot 11 (.c (.v (.int .i64 (i + 1 : Nat)))) rfl ((by kernel_rfl : _ = Value.int .i64 (IntKind.i64.wrap ((i : Int) + 1))).trans (wrap_nextJ hlen)) ?_
          refine Hs.loop (by kernel_rfl) ?_
          exact Hs.goto (loopAt Tryz.f12 0) [0] [.s A6 c6 (i + 1) 81 2 ((outs ++ [(⟨x.n, A5, c5, x.ops⟩ : PG)]).flatMap cPG)] [(3, .c (.v (.slice A6 (i + 1) c6))), (9, .c (.v (.slice (some ⟨ab, aoff, none⟩) ps.length c))), (10, .c (.v (.int .i64 ps.length))), (11, .c (.v (.int .i64 (i + 1 : Nat))))] (by kernel_rfl) (by decide) (by kernel_rfl) (by kernel_rfl) (fun _ => (by kernel_rfl)) (fun u => hih (outs ++ [(⟨x.n, A5, c5, x.ops⟩ : PG)]) A6 c6 w3 L3 (N3.imp fun w h => fun y hy => by
            rcases List.mem_append.1 hy with h1 | h1
            · exact h.2 y h1
            · rw [List.mem_singleton.1 h1]; exact h.1) (by rw [List.map_append, ho, List.take_add_one, hx, List.map_append]; rfl) (by rw [List.length_append, hol]; rfl) u)
        | succ e ihk =>
          intro j he hj g0 g A5 c5 u
          have hjl : j < x.ops.length := by omega
          obtain ⟨y, hy⟩ : ∃ y, x.ops[j]? = some y := ⟨_, List.getElem?_eq_getElem hjl⟩
          have htj : (x.ops.take j).length = j := by rw [List.length_take]; omega
          obtain ⟨ob, ooff, hO, _, _⟩ := hxo.1 (by omega)
          have hihk := fun g0 g A5 c5 u => ihk (j + 1) (by omega) (by omega) g0 g A5 c5 u
          clear ihk
          have hor := hxo.1
          rw [hO] at hihk hor ⊢
          refine Hs.run0 300 (fun _ => by kernel_rfl) ?_
          refine Hs.condP ((j : Int) < (x.ops.length : Int)) (by kernel_rfl) (fun _ => ?_) (fun h => by omega)
          refine Hs.run0 300 (fun _ => by kernel_rfl) ?_
          refine Hs.idx (b := ob) (off := ooff) (len := x.ops.length) (c := x.c) (i := j) elemRo hjl (by kernel_rfl) ?_
          refine Hs.ldx (cf := cOP) (size := 4) (E := 96) (b := ob) (off := ooff) (i := j) (l := x.ops) (x := y) cOP_len (.g y.sc) (by kernel_rfl) (fun w' H => hor.only (N.only H)) hy (by kernel_rfl) (by kernel_rfl) rfl (by kernel_rfl) ?_
          refine Hs.run2 300 (fun _ => by kernel_rfl) fun b4 b5 => ?_
          refine Hs.app (cf := cOP) (c := 1) (ty := 79) 2 elemPo (x.ops.take j) [y] j 1 htj rfl cOP_one cOP_len (A := A5) (B := some ⟨b5, 0, none⟩) (cap := c5) (by kernel_rfl) (by kernel_rfl) (by kernel_rfl) (fun w' H => H.rdB (cf := cOP) (wr := true) (T := 97) (cs := y.sc) (gs := [y]) 4 (by kernel_rfl) rfl) (by unfold maxLen; omega) (by rw [elemPo_by]; omega) fun A6 c6 h6 => ?_
          refine Hs.run0 300 (fun _ => by kernel_rfl) ?_
          refine Hs.slot 21 (.c (.v (.int .i64 (j + 1 : Nat)))) rfl ((by kernel_rfl : _ = Value.int .i64 (IntKind.i64.wrap ((j : Int) + 1))).trans (wrap_nextJ (Nat.le_trans hxo.2.1 hxo.2.2))) ?_
          refine Hs.loop (by kernel_rfl) ?_
          have e1 : x.ops.take j ++ [y] = x.ops.take (j + 1) := by rw [List.take_add_one, hy]; rfl
          rw [e1]
          exact Hs.goto (loopAt Tryz.f12 1) [0, 1, 2] [.s A4 c4 i 81 2 (outs.flatMap cPG), .b true 81 [.v (.string x.n), .v (.slice A6 (j + 1) c6)], .s A6 c6 (j + 1) 97 4 ((x.ops.take (j + 1)).flatMap cOP)] [(3, .c (.v (.slice A4 i c4))), (6, .c (.p 1 0)), (9, .c (.v (.slice (some ⟨ab, aoff, none⟩) ps.length c))), (10, .c (.v (.int .i64 ps.length))), (11, .c (.v (.int .i64 i))), (19, .c (.v (.slice (some ⟨ob, ooff, none⟩) x.ops.length x.c))), (20, .c (.v (.int .i64 x.ops.length))), (21, .c (.v (.int .i64 (j + 1 : Nat))))] (by kernel_rfl) (by decide) (by kernel_rfl) (by kernel_rfl) (fun _ => (by kernel_rfl)) (fun u => hihk g0 g A6 c6 u)
      refine Hs.run0 300 (fun _ => by kernel_rfl) ?_
      refine Hs.condP ((i : Int) < (ps.length : Int)) (by kernel_rfl) (fun _ => ?_) (fun h => by omega)
      refine Hs.run0 300 (fun _ => by kernel_rfl) ?_
      refine Hs.idx (b := ab) (off := aoff) (len := ps.length) (c := c) (i := i) elemLp hil (by kernel_rfl) ?_
      refine Hs.ldx (cf := cPG) (size := 2) (E := 94) (b := ab) (off := aoff) (i := i) (l := ps) (x := x) cPG_len (.g x.sc) (by kernel_rfl) (fun w' H => hrd.only (N.only H)) hx (by kernel_rfl) (by kernel_rfl) rfl (by kernel_rfl) ?_
      refine Hs.run2 300 (fun _ => by kernel_rfl) fun b1 b2 => ?_
      refine Hs.nilS 97 4 (by kernel_rfl) ?_ (by kernel_rfl)
      refine Hs.loop (by kernel_rfl) ?_
      exact Hs.goto (loopAt Tryz.f12 1) [0, 2, 3] [.s A4 c4 i 81 2 (outs.flatMap cPG), .b true 81 [.v (.string x.n), .v (.slice none 0 0)], .s none 0 0 97 4 ((x.ops.take 0).flatMap cOP)] [(3, .c (.v (.slice A4 i c4))), (6, .c (.p 1 0)), (9, .c (.v (.slice (some ⟨ab, aoff, none⟩) ps.length c))), (10, .c (.v (.int .i64 ps.length))), (11, .c (.v (.int .i64 i))), (19, .c (.v (.slice x.A x.ops.length x.c))), (20, .c (.v (.int .i64 x.ops.length))), (21, .c (.v (.int .i64 (0 : Nat))))] (by kernel_rfl) (by decide) (by kernel_rfl) (by kernel_rfl) (fun _ => (by kernel_rfl)) (fun u => K x.ops.length 0 (by omega) (by omega) 0 b2 none 0 u)
  refine Hs.enter Tryz.func12 [] [] [] [.c (.v (.slice A ps.length c))] (Mem.start0 w) (by kernel_rfl) (by kernel_rfl) ?_
  refine Hs.run0 300 (fun _ => by kernel_rfl) ?_
  refine Hs.nilS 81 2 (by kernel_rfl) ?_ (by kernel_rfl)
  refine Hs.loop (by kernel_rfl) ?_
  exact Hs.goto (loopAt Tryz.f12 0) [0] [.s none 0 0 81 2 (([] : List PG).flatMap cPG)] [(3, .c (.v (.slice none 0 0))), (9, .c (.v (.slice A ps.length c))), (10, .c (.v (.int .i64 ps.length))), (11, .c (.v (.int .i64 (0 : Nat))))] (by kernel_rfl) (by decide) (by kernel_rfl) (by kernel_rfl) (fun _ => (by kernel_rfl)) (fun u => J ps.length 0 (by omega) (by omega) [] none 0 w [] ((Nx.start w).imp fun w h => fun y hy => by cases hy) rfl rfl u)
set_option maxHeartbeats 4000000 in
theorem ref19_any (ps : List PG) (A : Option Addr) (c : Nat) (w : World) (h : Pgs w A c ps) (hf : PgFew ps) : Calls Tryz.prog 15 #[.slice A ps.length c] w (PgPost ps w) := by
  have hlen : ps.length ≤ maxLen := Nat.le_trans h.le h.max
  have hps := hf.len
  have J : ∀ (d i : Nat), ps.length - i = d → i ≤ ps.length → ∀ (outs : List PG) (A4 : Option Addr) (c4 : Nat) (w1 : World) (L1 : List Nat), Nx w w1 L1 (fun w => ∀ z ∈ outs, PgOk w z) → outs.map PG.m = (ps.take i).map PG.m → outs.length = i → ∀ (u : Nat → Value), Hs Tryz.prog 15 (PgPost ps w) (Tryz.f15).ntmps w1 L1 [0] ⟨.no, loopAt Tryz.f15 0, pins [(3, .c (.v (.slice A4 i c4))), (6, .c (.v (.slice A ps.length c))), (7, .c (.v (.int .i64 ps.length))), (8, .c (.v (.int .i64 i)))] (.vals u), [.s A4 c4 i 106 2 (outs.flatMap cPG)]⟩ := by
    intro d
    induction d with
    | zero =>
      intro i hd hi outs A4 c4 w1 L1 N ho hol u
      obtain rfl : i = ps.length := by omega
      rw [List.take_length] at ho
      refine Hs.run0 300 (fun _ => by kernel_rfl) ?_
      refine Hs.condP ((ps.length : Int) < (ps.length : Int)) (by kernel_rfl) (fun h => by omega) (fun _ => ?_)
      refine Hs.runR0 7 [] 300 (fun _ => by kernel_rfl) ?_
      refine Hs.freezeN 0 (cf := cPG) (size := 2) (A := A4) (cap := c4) (nl := ps.length) (E := 106) N hol (by kernel_rfl) (by kernel_rfl) fun w3 L3 N3 => ?_
      refine Hs.run0 300 (fun _ => by kernel_rfl) ?_
      exact Hs.ret (v := .slice A4 ps.length c4) Tryz.func15 (by kernel_rfl) fun w' H => N3.pgs (outs := outs) H fun w h => ⟨⟨h.1.1, h.1.2.1, h.1.2.2, h.2⟩, ho⟩
    | succ d ih =>
      intro i hd hi outs A4 c4 w1 L1 N ho hol u
      have hil : i < ps.length := by omega
      obtain ⟨x, hx⟩ : ∃ x, ps[i]? = some x := ⟨_, List.getElem?_eq_getElem hil⟩
      have hxm : x ∈ ps := List.mem_of_getElem? hx
      have hxo := h.all x hxm
      have hxl := hf.ops x hxm
      obtain ⟨ab, aoff, hA, _, _⟩ := h.rd (by omega)
      have hih := fun outs A4 c4 w1 L1 N e1 e2 u => ih (i + 1) (by omega) (by omega) outs A4 c4 w1 L1 N e1 e2 u
      clear ih
      have hrd := h.rd
      rw [hA] at hih hrd ⊢
      refine Hs.run0 300 (fun _ => by kernel_rfl) ?_
      refine Hs.condP ((i : Int) < (ps.length : Int)) (by kernel_rfl) (fun _ => ?_) (fun h => by omega)
      refine Hs.run0 300 (fun _ => by kernel_rfl) ?_
      refine Hs.idx (b := ab) (off := aoff) (len := ps.length) (c := c) (i := i) elemLp hil (by kernel_rfl) ?_
      refine Hs.ldx (cf := cPG) (size := 2) (E := 94) (b := ab) (off := aoff) (i := i) (l := ps) (x := x) cPG_len (.g x.sc) (by kernel_rfl) (fun w' H => hrd.only (N.only H)) hx (by kernel_rfl) (by kernel_rfl) rfl (by kernel_rfl) ?_
      refine Hs.run1 300 (fun _ => by kernel_rfl) fun b1 => ?_
      refine Hs.any [1] (by kernel_rfl) ?_
      refine Hs.run1 300 (fun _ => by kernel_rfl) fun b2 => ?_
      refine Hs.litX (cf := cOP) (ty := 92) (c := x.c) 2 elemRo x.ops x.ops.length rfl cOP_one cOP_len (by kernel_rfl) (by kernel_rfl) (by kernel_rfl) (fun w' H => hxo.1.only (N.only H)) (Nat.le_trans hxo.2.1 hxo.2.2) (by rw [elemRo_by]; omega) fun A5 c5 h5 h5' => ?_
      refine Hs.run1 300 (fun _ => by kernel_rfl) fun b3 => ?_
      refine Hs.app (cf := cPG) (c := 1) (ty := 54) 0 elemRp outs [(⟨x.n, A5, c5, x.ops⟩ : PG)] i 1 hol rfl cPG_one cPG_len (A := A4) (B := some ⟨b3, 0, none⟩) (cap := c4) (by kernel_rfl) (by kernel_rfl) (by kernel_rfl) (fun w' H => H.rdB (cf := cPG) (wr := true) (T := 106) (cs := PG.sc ⟨x.n, A5, c5, x.ops⟩) (gs := [(⟨x.n, A5, c5, x.ops⟩ : PG)]) 3 (by kernel_rfl) rfl) (by unfold maxLen; omega) (by rw [elemRp_by]; omega) fun A6 c6 h6 => ?_
      refine Hs.run0 300 (fun _ => by kernel_rfl) ?_
      refine Hs.freezeN 2 (cf := cOP) (size := 4) (A := A5) (cap := c5) (nl := x.ops.length) (E := 96) N rfl (by kernel_rfl) (by kernel_rfl) fun w3 L3 N3 => ?_
      refine Hs.slot 8 (.c (.v (.int .i64 (i + 1 : Nat)))) rfl ((by kernel_rfl : _ = Value.int .i64 (IntKind.i64.wrap ((i : Int) + 1))).trans (wrap_nextJ hlen)) ?_
      refine Hs.loop (by kernel_rfl) ?_
      exact Hs.goto (loopAt Tryz.f15 0) [0] [.s A6 c6 (i + 1) 106 2 ((outs ++ [(⟨x.n, A5, c5, x.ops⟩ : PG)]).flatMap cPG)] [(3, .c (.v (.slice A6 (i + 1) c6))), (6, .c (.v (.slice (some ⟨ab, aoff, none⟩) ps.length c))), (7, .c (.v (.int .i64 ps.length))), (8, .c (.v (.int .i64 (i + 1 : Nat))))] (by kernel_rfl) (by decide) (by kernel_rfl) (by kernel_rfl) (fun _ => (by kernel_rfl)) (fun u => hih (outs ++ [(⟨x.n, A5, c5, x.ops⟩ : PG)]) A6 c6 w3 L3 (N3.imp fun w h => fun y hy => by
        rcases List.mem_append.1 hy with h1 | h1
        · exact h.2 y h1
        · rw [List.mem_singleton.1 h1]; exact h.1) (by rw [List.map_append, ho, List.take_add_one, hx, List.map_append]; rfl) (by rw [List.length_append, hol]; rfl) u)
  refine Hs.enter Tryz.func15 [] [] [] [.c (.v (.slice A ps.length c))] (Mem.start0 w) (by kernel_rfl) (by kernel_rfl) ?_
  refine Hs.run0 300 (fun _ => by kernel_rfl) ?_
  refine Hs.nilS 106 2 (by kernel_rfl) ?_ (by kernel_rfl)
  refine Hs.loop (by kernel_rfl) ?_
  exact Hs.goto (loopAt Tryz.f15 0) [0] [.s none 0 0 106 2 (([] : List PG).flatMap cPG)] [(3, .c (.v (.slice none 0 0))), (6, .c (.v (.slice A ps.length c))), (7, .c (.v (.int .i64 ps.length))), (8, .c (.v (.int .i64 (0 : Nat))))] (by kernel_rfl) (by decide) (by kernel_rfl) (by kernel_rfl) (fun _ => (by kernel_rfl)) (fun u => J ps.length 0 (by omega) (by omega) [] none 0 w [] ((Nx.start w).imp fun w h => fun y hy => by cases hy) rfl rfl u)
end Go.Proofs.YtdplnedpbkpgpaaGreatDoor

namespace Go.Proofs.YtdplnedpbkpgpaaGreatDoor
set_option linter.all false
set_option maxRecDepth 100000
open Go.RowKit
section
variable {P : Program} {f : FuncId} {R : Ending → World → Prop} {n : Nat} {w0 : World} {L : List Nat} {β : List Nat} {m : SM}
def isI64 : Value → Bool
  | .int .i64 _ => true
  | _ => false
def isBoo : Value → Bool
  | .bool _ => true
  | _ => false
def isBoo? : Option Value → Bool
  | some (.bool _) => true
  | _ => false
theorem isI64_ex {v : Value} (h : isI64 v = true) : ∃ N, v = .int .i64 N := by
  unfold isI64 at h
  split at h
  · exact ⟨_, rfl⟩
  · cases h
theorem isBoo_ex {v : Value} (h : isBoo v = true) : ∃ b, v = .bool b := by
  unfold isBoo at h
  split at h
  · exact ⟨_, rfl⟩
  · cases h
/-- A slot holds some number. -/
theorem Hs.anyI (d : Nat) (h : isI64 ((m.sl.at d).den β) = true) (k : ∀ N : Int, Hs P f R n w0 L β ⟨m.r, m.todo, .put d (.c (.v (.int .i64 N))) m.sl, m.hp⟩) : Hs P f R n w0 L β m := by
  obtain ⟨N, hN⟩ := isI64_ex h
  exact Hs.slot d (.c (.v (.int .i64 N))) rfl hN (k N)
/-- A slot holds some truth value. -/
theorem Hs.anyB (d : Nat) (h : isBoo ((m.sl.at d).den β) = true) (ht : Hs P f R n w0 L β ⟨m.r, m.todo, .put d (.c (.v (.bool true))) m.sl, m.hp⟩) (hf : Hs P f R n w0 L β ⟨m.r, m.todo, .put d (.c (.v (.bool false))) m.sl, m.hp⟩) : Hs P f R n w0 L β m := by
  obtain ⟨b, hb⟩ := isBoo_ex h
  exact Hs.bool d b hb (fun _ => ht) (fun _ => hf)
/-- A condition that may go either way. -/
theorem Hs.condX (h : isBoo? (condOf n β m) = true) (ht : Hs P f R n w0 L β (thenM m)) (hf : Hs P f R n w0 L β (elseM m)) : Hs P f R n w0 L β m := by
  unfold isBoo? at h
  split at h
  · rename_i b hb; exact Hs.cond b hb (fun _ => ht) (fun _ => hf)
  · cases h
end
/-- What is not more than is looked at. -/
structure PgSmall (ps : List PG) : Prop where
  len : ps.length ≤ 61
  ops : ∀ x ∈ ps, x.ops.length ≤ 101
abbrev GrPost (ps : List PG) (w : World) : Ending → World → Prop := fun e w' => ∃ b : Bool, e = .returned (.bool b) ∧ Only [] w w' ∧ (b = false → PgSmall ps)
set_option maxHeartbeats 4000000 in
theorem great19_any (ps : List PG) (A : Option Addr) (c : Nat) (w : World) (h : Pgs w A c ps) : Calls Tryz.prog 26 #[.slice A ps.length c] w (GrPost ps w) := by
  have hlen : ps.length ≤ maxLen := Nat.le_trans h.le h.max
  have J : ∀ (d i : Nat), ps.length - i = d → i ≤ ps.length → i ≤ 61 → (∀ x ∈ ps.take i, x.ops.length ≤ 101) → ∀ (N : Int) (u : Nat → Value), Hs Tryz.prog 26 (GrPost ps w) (Tryz.f26).ntmps w [] [] ⟨.no, loopAt Tryz.f26 0, pins [(3, .c (.v (.int .i64 N))), (8, .c (.v (.slice A ps.length c))), (9, .c (.v (.int .i64 ps.length))), (10, .c (.v (.int .i64 i)))] (.vals u), []⟩ := by
    intro d
    induction d with
    | zero =>
      intro i hd hi hi2 hq N u
      obtain rfl : i = ps.length := by omega
      rw [List.take_length] at hq
      refine Hs.run0 300 (fun _ => by kernel_rfl) ?_
      refine Hs.condP ((ps.length : Int) < (ps.length : Int)) (by kernel_rfl) (fun h => by omega) (fun _ => ?_)
      refine Hs.run0 300 (fun _ => by kernel_rfl) ?_
      exact Hs.ret (v := .bool false) Tryz.func26 (by kernel_rfl) fun w' H => ⟨false, rfl, H.only, fun _ => ⟨hi2, hq⟩⟩
    | succ d ih =>
      intro i hd hi hi2 hq N u
      have hil : i < ps.length := by omega
      obtain ⟨x, hx⟩ : ∃ x, ps[i]? = some x := ⟨_, List.getElem?_eq_getElem hil⟩
      have hxo := h.all x (List.mem_of_getElem? hx)
      obtain ⟨ab, aoff, hA, _, _⟩ := h.rd (by omega)
      have hih := fun h1 h2 N u => ih (i + 1) (by omega) (by omega) h1 h2 N u
      clear ih
      have hrd := h.rd
      rw [hA] at hih hrd ⊢
      have K : ∀ (e j : Nat), x.ops.length - j = e → j ≤ x.ops.length → j ≤ 101 → ∀ (g : Nat) (N : Int) (u : Nat → Value), Hs Tryz.prog 26 (GrPost ps w) (Tryz.f26).ntmps w [] [g] ⟨.no, loopAt Tryz.f26 1, pins [(3, .c (.v (.int .i64 N))), (4, .c (.v (.int .i64 i))), (5, .c (.p 0 0)), (8, .c (.v (.slice (some ⟨ab, aoff, none⟩) ps.length c))), (9, .c (.v (.int .i64 ps.length))), (10, .c (.v (.int .i64 i))), (28, .c (.v (.slice x.A x.ops.length x.c))), (29, .c (.v (.int .i64 x.ops.length))), (30, .c (.v (.int .i64 j)))] (.vals u), [.b true 106 x.sc]⟩ := by
        intro e
        induction e with
        | zero =>
          intro j he hj hj2 g N u
          obtain rfl : j = x.ops.length := by omega
          refine Hs.run0 300 (fun _ => by kernel_rfl) ?_
          refine Hs.condP ((x.ops.length : Int) < (x.ops.length : Int)) (by kernel_rfl) (fun h => by omega) (fun _ => ?_)
          refine Hs.run0 300 (fun _ => by kernel_rfl) ?_
          refine Hs.bool 51 (decide ((i : Int) > 60)) (by kernel_rfl) (fun _ => ?_) (fun h1 => ?_)
          · refine Hs.rung0 [2] 300 (fun _ => by kernel_rfl) ?_
            refine Hs.condT (by kernel_rfl) ?_
            refine Hs.run0 300 (fun _ => by kernel_rfl) ?_
            exact Hs.ret (v := .bool true) Tryz.func26 (by kernel_rfl) fun w' H => ⟨true, rfl, H.only, fun h => by cases h⟩
          replace h1 : i ≤ 60 := by simp at h1; omega
          refine Hs.rung0 [2] 300 (fun _ => by kernel_rfl) ?_
          refine Hs.condX (by kernel_rfl) ?_ ?_
          · refine Hs.run0 300 (fun _ => by kernel_rfl) ?_
            exact Hs.ret (v := .bool true) Tryz.func26 (by kernel_rfl) fun w' H => ⟨true, rfl, H.only, fun h => by cases h⟩
          refine Hs.run0 300 (fun _ => by kernel_rfl) ?_
          refine Hs.slot 10 (.c (.v (.int .i64 (i + 1 : Nat)))) rfl ((by kernel_rfl : _ = Value.int .i64 (IntKind.i64.wrap ((i : Int) + 1))).trans (wrap_nextJ hlen)) ?_
          refine Hs.loop (by kernel_rfl) ?_
          exact Hs.goto (loopAt Tryz.f26 0) [] [] [(3, .c (.v (.int .i64 N))), (8, .c (.v (.slice (some ⟨ab, aoff, none⟩) ps.length c))), (9, .c (.v (.int .i64 ps.length))), (10, .c (.v (.int .i64 (i + 1 : Nat))))] (by kernel_rfl) (by decide) (by kernel_rfl) (by kernel_rfl) (fun _ => (by kernel_rfl)) (fun u => hih (by omega) (fun y hy => by
            rw [List.take_add_one, hx] at hy
            rcases List.mem_append.1 hy with h2 | h2
            · exact hq y h2
            · rw [Option.mem_toList] at h2
              injection h2 with h2
              rw [← h2]; exact hj2) N u)
        | succ e ihk =>
          intro j he hj hj2 g N u
          have hjl : j < x.ops.length := by omega
          obtain ⟨y, hy⟩ : ∃ y, x.ops[j]? = some y := ⟨_, List.getElem?_eq_getElem hjl⟩
          obtain ⟨ob, ooff, hO, _, _⟩ := hxo.1 (by omega)
          have hihk := fun h1 g N u => ihk (j + 1) (by omega) (by omega) h1 g N u
          clear ihk
          have hor := hxo.1
          have hsc : x.sc = [.v (.string x.n), .v (.slice x.A x.ops.length x.c)] := rfl
          rw [hsc] at hihk ⊢
          rw [hO] at hihk hor ⊢
          refine Hs.run0 300 (fun _ => by kernel_rfl) ?_
          refine Hs.condP ((j : Int) < (x.ops.length : Int)) (by kernel_rfl) (fun _ => ?_) (fun h => by omega)
          refine Hs.run0 300 (fun _ => by kernel_rfl) ?_
          refine Hs.idx (b := ob) (off := ooff) (len := x.ops.length) (c := x.c) (i := j) elemRo hjl (by kernel_rfl) ?_
          refine Hs.ldx (cf := cOP) (size := 4) (E := 96) (b := ob) (off := ooff) (i := j) (l := x.ops) (x := y) cOP_len (.g y.sc) (by kernel_rfl) (fun w' H => hor.only H.only) hy (by kernel_rfl) (by kernel_rfl) rfl (by kernel_rfl) ?_
          refine Hs.run1 300 (fun _ => by kernel_rfl) fun b1 => ?_
          refine Hs.anyI 3 (by kernel_rfl) fun N2 => ?_
          refine Hs.bool 44 (decide ((j : Int) > 100)) (by kernel_rfl) (fun _ => ?_) (fun h1 => ?_)
          · refine Hs.rung0 [2] 300 (fun _ => by kernel_rfl) ?_
            refine Hs.condT (by kernel_rfl) ?_
            refine Hs.run0 300 (fun _ => by kernel_rfl) ?_
            exact Hs.ret (v := .bool true) Tryz.func26 (by kernel_rfl) fun w' H => ⟨true, rfl, H.only, fun h => by cases h⟩
          replace h1 : j ≤ 100 := by simp at h1; omega
          refine Hs.rung0 [2] 300 (fun _ => by kernel_rfl) ?_
          refine Hs.condX (by kernel_rfl) ?_ ?_
          · refine Hs.run0 300 (fun _ => by kernel_rfl) ?_
            exact Hs.ret (v := .bool true) Tryz.func26 (by kernel_rfl) fun w' H => ⟨true, rfl, H.only, fun h => by cases h⟩
          refine Hs.run0 300 (fun _ => by kernel_rfl) ?_
          refine Hs.slot 30 (.c (.v (.int .i64 (j + 1 : Nat)))) rfl ((by kernel_rfl : _ = Value.int .i64 (IntKind.i64.wrap ((j : Int) + 1))).trans (wrap_nextJ (Nat.le_trans hxo.2.1 hxo.2.2))) ?_
          refine Hs.loop (by kernel_rfl) ?_
          exact Hs.goto (loopAt Tryz.f26 1) [0] [.b true 106 [.v (.string x.n), .v (.slice (some ⟨ob, ooff, none⟩) x.ops.length x.c)]] [(3, .c (.v (.int .i64 N2))), (4, .c (.v (.int .i64 i))), (5, .c (.p 0 0)), (8, .c (.v (.slice (some ⟨ab, aoff, none⟩) ps.length c))), (9, .c (.v (.int .i64 ps.length))), (10, .c (.v (.int .i64 i))), (28, .c (.v (.slice (some ⟨ob, ooff, none⟩) x.ops.length x.c))), (29, .c (.v (.int .i64 x.ops.length))), (30, .c (.v (.int .i64 (j + 1 : Nat))))] (by kernel_rfl) (by decide) (by kernel_rfl) (by kernel_rfl) (fun _ => (by kernel_rfl)) (fun u => hihk (by omega) g N2 u)
      refine Hs.run0 300 (fun _ => by kernel_rfl) ?_
      refine Hs.condP ((i : Int) < (ps.length : Int)) (by kernel_rfl) (fun _ => ?_) (fun h => by omega)
      refine Hs.run0 300 (fun _ => by kernel_rfl) ?_
      refine Hs.idx (b := ab) (off := aoff) (len := ps.length) (c := c) (i := i) elemRp hil (by kernel_rfl) ?_
      refine Hs.ldx (cf := cPG) (size := 2) (E := 106) (b := ab) (off := aoff) (i := i) (l := ps) (x := x) cPG_len (.g x.sc) (by kernel_rfl) (fun w' H => hrd.only H.only) hx (by kernel_rfl) (by kernel_rfl) rfl (by kernel_rfl) ?_
      refine Hs.run1 300 (fun _ => by kernel_rfl) fun b1 => ?_
      refine Hs.anyI 3 (by kernel_rfl) fun N2 => ?_
      refine Hs.loop (by kernel_rfl) ?_
      exact Hs.goto (loopAt Tryz.f26 1) [0] [.b true 106 x.sc] [(3, .c (.v (.int .i64 N2))), (4, .c (.v (.int .i64 i))), (5, .c (.p 0 0)), (8, .c (.v (.slice (some ⟨ab, aoff, none⟩) ps.length c))), (9, .c (.v (.int .i64 ps.length))), (10, .c (.v (.int .i64 i))), (28, .c (.v (.slice x.A x.ops.length x.c))), (29, .c (.v (.int .i64 x.ops.length))), (30, .c (.v (.int .i64 (0 : Nat))))] (by kernel_rfl) (by decide) (by kernel_rfl) (by kernel_rfl) (fun _ => (by kernel_rfl)) (fun u => K x.ops.length 0 (by omega) (by omega) (by omega) b1 N2 u)
  refine Hs.enter Tryz.func26 [] [] [] [.c (.v (.slice A ps.length c))] (Mem.start0 w) (by kernel_rfl) (by kernel_rfl) ?_
  refine Hs.run0 300 (fun _ => by kernel_rfl) ?_
  refine Hs.loop (by kernel_rfl) ?_
  exact Hs.goto (loopAt Tryz.f26 0) [] [] [(3, .c (.v (.int .i64 0))), (8, .c (.v (.slice A ps.length c))), (9, .c (.v (.int .i64 ps.length))), (10, .c (.v (.int .i64 (0 : Nat))))] (by kernel_rfl) (by decide) (by kernel_rfl) (by kernel_rfl) (fun _ => (by kernel_rfl)) (fun u => J ps.length 0 (by omega) (by omega) (by omega) (by simp) 0 u)
end Go.Proofs.YtdplnedpbkpgpaaGreatDoor

namespace Go.Proofs.YtdplnedpbkpgpaaGreatDoor
set_option linter.all false
set_option maxRecDepth 100000
open Go.RowKit
section
variable {P : Program} {f : FuncId} {R : Ending → World → Prop} {n : Nat} {w0 : World} {L : List Nat} {β : List Nat} {m : SM} {α : Type} {cf : α → List Value} {E size : Nat}
/-- A call that answers some thing with a row of ours. -/
theorem Hs.callSX {X : Type} (v : X → Option Addr → Nat → Value) (l : X → List α) (nl : X → Nat) (Q : X → Prop) {F : FuncId} {args : Array Value} (hl : ∀ x, Q x → (l x).length = nl x) (hC : ∀ w, Mem w0 L β m.hp w → Calls P F args w fun e w' => ∃ x A cap, e = .returned (v x A cap) ∧ Only [] w w' ∧ OwnX cf E size w' w.heap.size (.slice A (nl x) cap) (l x) ∧ Q x)
    (hc : callOf P n β m = some (F, args)) (hrd : (rdOf m).all (fun k => Nat.blt k m.hp.length) = true)
    (h : ∀ x, Q x → ∀ A cap, nl x ≤ cap → cap ≤ maxLen → Hs P f R n w0 L (β ++ [0]) (m.put (dstOf m) (.c (.v (v x A cap))) (m.hp ++ [.s A cap (nl x) E size ((l x).flatMap cf)]))) : Hs P f R n w0 L β m := by
  refine ⟨fun w H W => ?_⟩
  refine (Hs.call hc (fun w H => ?_)).go w H W
  refine Calls.mono (hC w H) ?_
  rintro e w' ⟨x, A, cap, rfl, O, hO, hQ⟩
  have hw := SM.wf_hp W
  have hlx := hl x hQ
  obtain ⟨A1, cap1, e1, hc1, hc2, _, hA⟩ := hO.form
  injection e1 with e1 e2 e3
  subst e1; subst e3
  rw [hlx] at hc1
  refine ⟨[0], .c (.v (v x A cap)), m.hp ++ [.s A cap (nl x) E size ((l x).flatMap cf)], rfl, H.push (h := .s A cap (nl x) E size ((l x).flatMap cf)) (by rw [H.len]; exact hw) O (fun y hy => ?_) (by
    have h5 := OwnX.mono hO (Nat.zero_le _)
    unfold OwnX at h5
    rw [hlx] at h5
    exact h5), ?_, fun k hk h hh => ?_, h x hQ A cap hc1 hc2⟩
  · simp only [HB.blk, Option.map_eq_some_iff] at hy
    obtain ⟨a, hx, rfl⟩ := hy
    exact (hA a hx).1
  · simp only [SV.wf, SC.wf, Bool.true_and, Bool.and_eq_true, Nat.ble_eq, List.length_append, List.length_cons, List.length_nil, List.all_append, List.all_cons, List.all_nil, Bool.and_true]
    refine ⟨by omega, List.all_eq_true.2 fun y hy => ?_, rfl⟩
    have h1 := List.all_eq_true.1 hw y hy
    cases y with
    | no => rfl
    | s => rfl
    | q => rfl
    | r _ _ _ => rfl
    | b _ _ cs => exact List.all_eq_true.2 fun z hz => SC.wf_mono (by omega) (List.all_eq_true.1 h1 z hz)
  · rw [List.getElem?_append_left (List.getElem?_eq_some_iff.1 hh).1]; exact hh
end
/-- A request that is handed in. -/
structure AQ where
  n : ByteArray
  A : Option Addr
  c : Nat
  b : List Int
def cAQ (x : AQ) : List Value := [.string x.n, .slice x.A x.b.length x.c]
def AQ.sc (x : AQ) : List SC := [.v (.string x.n), .v (.slice x.A x.b.length x.c)]
theorem cAQ_len (x : AQ) : (cAQ x).length = 2 := rfl
theorem elemAQ : ElemT Tryz.prog 38 34 2 (Tryz.prog.bytesOf 34) := elemT_of (z := .agg #[.string ⟨#[]⟩, .slice none 0 0]) (by kernel_rfl) (by kernel_rfl) (by decide) (by decide)
structure AqOk (w : World) (x : AQ) : Prop where
  rd : RdX cu8 w x.A x.b
  rng : ∀ y ∈ x.b, 0 ≤ y ∧ y < 256
  le : x.b.length ≤ x.c
  max : x.c ≤ maxLen
  few : x.b.length ≤ 140737488355000
theorem AqOk.only {w w' : World} {x : AQ} (h : AqOk w x) (O : Only [] w w') : AqOk w' x := ⟨h.rd.only O, h.rng, h.le, h.max, h.few⟩
structure Aqs (w : World) (A : Option Addr) (c : Nat) (l : List AQ) : Prop where
  rd : RdX cAQ w A l
  le : l.length ≤ c
  max : c ≤ maxLen
  all : ∀ x ∈ l, AqOk w x
structure Gr27 (s : SS) (l : List AQ) (ps : List PG) : Prop where
  env : s.env.length ≤ 100
  len : l.length ≤ 60
  small : PgSmall ps
abbrev GrP27 (s : SS) (l : List AQ) (ps : List PG) (w : World) : Ending → World → Prop := fun e w' => ∃ b : Bool, e = .returned (.bool b) ∧ Only [] w w' ∧ (b = false → Gr27 s l ps)
theorem PgSmall.of {ps qs : List PG} (h : PgSmall qs) (e : qs.map PG.m = ps.map PG.m) : PgSmall ps := by
  have hl : qs.length = ps.length := by simpa using congrArg List.length e
  refine ⟨by rw [← hl]; exact h.len, fun x hx => ?_⟩
  have h1 : PG.m x ∈ qs.map PG.m := by rw [e]; exact List.mem_map.2 ⟨x, hx, rfl⟩
  obtain ⟨y, hy, e2⟩ := List.mem_map.1 h1
  have := h.ops y hy
  unfold PG.m at e2
  injection e2 with e3 e4
  rw [← e4]; exact this
set_option maxHeartbeats 4000000 in
theorem great27_any (s : SS) (A0 : Option Addr) (c0 : Nat) (l : List AQ) (A : Option Addr) (c : Nat) (ps : List PG) (B : Option Addr) (cb : Nat) (w : World) (hl : Aqs w A c l) (hp : Pgs w B cb ps) (hf : PgFew ps) : Calls Tryz.prog 9 #[s.val A0 c0, .slice A l.length c, .slice B ps.length cb] w (GrP27 s l ps w) := by
  have hlen : l.length ≤ maxLen := Nat.le_trans hl.le hl.max
  have J : ∀ (d i : Nat), l.length - i = d → i ≤ l.length → ∀ (b0 : Nat) (N : Int) (u : Nat → Value), Hs Tryz.prog 9 (GrP27 s l ps w) (Tryz.f9).ntmps w [] [b0] ⟨.no, loopAt Tryz.f9 0, pins [(1, .c (.v (.slice A l.length c))), (2, .c (.v (.slice B ps.length cb))), (3, .c (.p 0 0)), (7, .c (.v (.int .i64 N))), (10, .c (.v (.slice A l.length c))), (11, .c (.v (.int .i64 l.length))), (12, .c (.v (.int .i64 i)))] (.vals u), [.b true 31 (s.sc A0 c0)]⟩ := by
    intro d
    induction d with
    | zero =>
      intro i hd hi b0 N u
      obtain rfl : i = l.length := by omega
      refine Hs.run0 300 (fun _ => by kernel_rfl) ?_
      refine Hs.condP ((l.length : Int) < (l.length : Int)) (by kernel_rfl) (fun h => by omega) (fun _ => ?_)
      refine Hs.run0 300 (fun _ => by kernel_rfl) ?_
      refine Hs.bool 32 (decide ((s.env.length : Int) > 100)) (by kernel_rfl) (fun _ => ?_) (fun h1 => ?_)
      · refine Hs.rung0 [4, 9, 13] 300 (fun _ => by kernel_rfl) ?_
        exact Hs.ret (v := .bool true) Tryz.func9 (by kernel_rfl) fun w' H => ⟨true, rfl, H.only, fun h => by cases h⟩
      refine Hs.rung0 [4] 300 (fun _ => by kernel_rfl) ?_
      refine Hs.bool 37 (decide ((l.length : Int) > 60)) (by kernel_rfl) (fun _ => ?_) (fun h2 => ?_)
      · refine Hs.rung0 [4, 9, 13] 300 (fun _ => by kernel_rfl) ?_
        exact Hs.ret (v := .bool true) Tryz.func9 (by kernel_rfl) fun w' H => ⟨true, rfl, H.only, fun h => by cases h⟩
      refine Hs.rung0 [4, 9] 300 (fun _ => by kernel_rfl) ?_
      refine Hs.anyB 41 (by kernel_rfl) ?_ ?_
      · refine Hs.rung0 [4, 9, 13] 300 (fun _ => by kernel_rfl) ?_
        exact Hs.ret (v := .bool true) Tryz.func9 (by kernel_rfl) fun w' H => ⟨true, rfl, H.only, fun h => by cases h⟩
      refine Hs.rung0 [4, 9, 13] 300 (fun _ => by kernel_rfl) ?_
      refine Hs.callM (Nx.start w) (fun w' H => ref19_any ps B cb w' (hp.only H.only) hf) (by kernel_rfl) (by kernel_rfl) fun z w1 L1 N1 => ?_
      refine Hs.rung0 [4, 9, 13] 300 (fun _ => by kernel_rfl) ?_
      refine Hs.fact27 (fun w' H => (N1.now H).1.len) fun hz => ?_
      refine Hs.callX (v := fun b : Bool => .bool b) (Q := fun b => b = false → PgSmall z.2.2) (fun w' H => by
        have := great19_any z.2.2 z.1 z.2.1 w' (N1.now H).1.1
        rw [hz] at this
        exact this) (by kernel_rfl) fun b hb => ?_
      refine Hs.fact27 (fun w' H => (N1.now H).1.2) fun hz2 => ?_
      refine Hs.rung0 [4, 9, 13] 300 (fun _ => by kernel_rfl) ?_
      exact Hs.ret (v := .bool b) Tryz.func9 (by kernel_rfl) fun w' H => ⟨b, rfl, N1.only H, fun h => ⟨by simp at h1; omega, by simp at h2; omega, (hb h).of hz2⟩⟩
    | succ d ih =>
      intro i hd hi b0 N u
      have hil : i < l.length := by omega
      obtain ⟨x, hx⟩ : ∃ x, l[i]? = some x := ⟨_, List.getElem?_eq_getElem hil⟩
      obtain ⟨ab, aoff, hA, _, _⟩ := hl.rd (by omega)
      have hih := fun b0 N u => ih (i + 1) (by omega) (by omega) b0 N u
      clear ih
      have hrd := hl.rd
      rw [hA] at hih hrd ⊢
      refine Hs.run0 300 (fun _ => by kernel_rfl) ?_
      refine Hs.condP ((i : Int) < (l.length : Int)) (by kernel_rfl) (fun _ => ?_) (fun h => by omega)
      refine Hs.run0 300 (fun _ => by kernel_rfl) ?_
      refine Hs.idx (b := ab) (off := aoff) (len := l.length) (c := c) (i := i) elemAQ hil (by kernel_rfl) ?_
      refine Hs.ldx (cf := cAQ) (size := 2) (E := 34) (b := ab) (off := aoff) (i := i) (l := l) (x := x) cAQ_len (.g x.sc) (by kernel_rfl) (fun w' H => hrd.only H.only) hx (by kernel_rfl) (by kernel_rfl) rfl (by kernel_rfl) ?_
      refine Hs.run1 300 (fun _ => by kernel_rfl) fun b1 => ?_
      refine Hs.anyI 7 (by kernel_rfl) fun N2 => ?_
      refine Hs.slot 12 (.c (.v (.int .i64 (i + 1 : Nat)))) rfl ((by kernel_rfl : _ = Value.int .i64 (IntKind.i64.wrap ((i : Int) + 1))).trans (wrap_nextJ hlen)) ?_
      refine Hs.loop (by kernel_rfl) ?_
      exact Hs.goto (loopAt Tryz.f9 0) [0] [.b true 31 (s.sc A0 c0)] [(1, .c (.v (.slice (some ⟨ab, aoff, none⟩) l.length c))), (2, .c (.v (.slice B ps.length cb))), (3, .c (.p 0 0)), (7, .c (.v (.int .i64 N2))), (10, .c (.v (.slice (some ⟨ab, aoff, none⟩) l.length c))), (11, .c (.v (.int .i64 l.length))), (12, .c (.v (.int .i64 (i + 1 : Nat))))] (by kernel_rfl) (by decide) (by kernel_rfl) (by kernel_rfl) (fun _ => (by kernel_rfl)) (fun u => hih b0 N2 u)
  refine Hs.enter Tryz.func9 [] [] [] [.g (s.sc A0 c0), .c (.v (.slice A l.length c)), .c (.v (.slice B ps.length cb))] (Mem.start0 w) (by kernel_rfl) (by kernel_rfl) ?_
  refine Hs.run1 300 (fun _ => by kernel_rfl) fun b0 => ?_
  refine Hs.loop (by kernel_rfl) ?_
  exact Hs.goto (loopAt Tryz.f9 0) [0] [.b true 31 (s.sc A0 c0)] [(1, .c (.v (.slice A l.length c))), (2, .c (.v (.slice B ps.length cb))), (3, .c (.p 0 0)), (7, .c (.v (.int .i64 0))), (10, .c (.v (.slice A l.length c))), (11, .c (.v (.int .i64 l.length))), (12, .c (.v (.int .i64 (0 : Nat))))] (by kernel_rfl) (by decide) (by kernel_rfl) (by kernel_rfl) (fun _ => (by kernel_rfl)) (fun u => J l.length 0 (by omega) (by omega) b0 0 u)
end Go.Proofs.YtdplnedpbkpgpaaGreatDoor

namespace Go.Proofs.YtdplnedpbkpgpaaGreatDoor
set_option linter.all false
set_option maxRecDepth 100000
open Go.ChangeShapes Go.WideShapes Go.ChangeAt Go.RowKit Go.Deep
section
variable {H : Type} {enc : TypeId × Value → H} {w : World} {base : Nat} {spare : Nat → Bool} {held : Bool} {R : Nat}
theorem trod_bytes {n : Nat} {v : Value} (h : TrodW enc Tryz.prog w base spare held R n 32 [v]) : ∃ (A : Option Addr) (l : List Int) (cap : Nat), v = .slice A l.length cap ∧ RdX cu8 w A l ∧ l.length ≤ cap ∧ cap ≤ maxLen ∧ (∀ x ∈ l, 0 ≤ x ∧ x < 256) ∧ l.length ≤ R := by
  obtain ⟨A, l, cap, e, h1, h2, h3, h4, h5⟩ := h.slice (cf := cu8) (ok := fun x => 0 ≤ x ∧ x < 256) (size := 1) Tryz.underlying32 (by kernel_rfl) (by decide) cu8_len (fun n l hl h => by
    match l, hl with
    | [c], _ =>
      obtain ⟨a, rfl, u⟩ := TrodW.int Tryz.underlying5 h
      exact ⟨a, rfl, wf_u8' u⟩)
  rw [(by kernel_rfl : Tryz.prog.bytesOf 5 = 1), Nat.mul_one] at h5
  exact ⟨A, l, cap, e, h3, h1, h2, h4, h5⟩
theorem asked_cells (hR : R ≤ 140737488355000) {n : Nat} {l : List Value} (hl : l.length = 2) (h : TrodW enc Tryz.prog w base spare held R n 34 l) : ∃ x : AQ, l = cAQ x ∧ (AqOk w x ∧ x.n.size ≤ maxLen ∧ x.n.size ≤ R ∧ x.b.length ≤ R) := by
  obtain ⟨n1, hf⟩ := h.fields Tryz.underlying34
  match l, hl with
  | [c0, c1], _ =>
  have g0 := hf.at_ 0 9 0 1 _ rfl rfl rfl (by kernel_rfl) rfl
  have g1 := hf.at_ 1 32 1 1 _ rfl rfl rfl (by kernel_rfl) rfl
  obtain ⟨a, rfl, a1, a2⟩ := TrodW.str Tryz.underlying9 g0
  obtain ⟨A, b, cap, rfl, k1, k2, k3, k4, k5⟩ := trod_bytes g1
  exact ⟨⟨a, A, cap, b⟩, rfl, ⟨k1, k4, k2, k3, Nat.le_trans k5 hR⟩, a1, a2, k5⟩
theorem open_asked (hR : R ≤ 140737488355000) {r : Reach} {b0 : Nat} {v : Value} {d : DataW H} {p : List MemPlace} (hW : ∀ q ∈ d.weights Tryz.prog 34, q ≤ R) (hv : Value.okWide Tryz.prog w r b0 34 v) (h : DataW.Trod enc Tryz.prog w base spare held 34 v d p) : ∃ x : AQ, v = .agg (cAQ x).toArray ∧ (AqOk w x ∧ x.n.size ≤ maxLen ∧ x.n.size ≤ R ∧ x.b.length ≤ R) := by
  obtain ⟨l, n, rfl, hl, hf⟩ := open_structW Tryz.underlying34 (by kernel_rfl : Tryz.prog.cellsOf 34 = 2) hW hv h
  obtain ⟨x, rfl, hx⟩ := asked_cells hR hl hf
  exact ⟨x, rfl, hx⟩
theorem open_askeds (hR : R ≤ 140737488355000) {r : Reach} {b0 : Nat} {v : Value} {d : DataW H} {p : List MemPlace} (hW : ∀ q ∈ d.weights Tryz.prog 38, q ≤ R) (hv : Value.okWide Tryz.prog w r b0 38 v) (h : DataW.Trod enc Tryz.prog w base spare held 38 v d p) : ∃ (l : List AQ) (A : Option Addr) (cap : Nat), v = .slice A l.length cap ∧ Aqs w A cap l := by
  obtain ⟨a0, len, c0, rfl⟩ := okWide_slice Tryz.underlying38 hv
  obtain ⟨fuel, hf⟩ := h
  obtain ⟨A, l, cap, e, h1, h2, h3, h4, _⟩ := TrodW.slice (R := R) (cf := cAQ) (ok := fun x => AqOk w x ∧ x.n.size ≤ maxLen ∧ x.n.size ≤ R ∧ x.b.length ≤ R) (size := 2) Tryz.underlying38 (by kernel_rfl) (by decide) cAQ_len (fun n l hl h => asked_cells hR hl h) ⟨_, hf, hW⟩
  exact ⟨l, A, cap, e, h3, h1, h2, fun x hx => (h4 x hx).1⟩
theorem open_vars {r : Reach} {b0 : Nat} {v : Value} {d : DataW H} {p : List MemPlace} (hW : ∀ q ∈ d.weights Tryz.prog 29, q ≤ R) (hv : Value.okWide Tryz.prog w r b0 29 v) (h : DataW.Trod enc Tryz.prog w base spare held 29 v d p) : ∃ (l : List VR) (A : Option Addr) (cap : Nat), v = .slice A l.length cap ∧ RdX cVar w A l ∧ l.length ≤ cap ∧ cap ≤ maxLen := by
  obtain ⟨a0, len, c0, rfl⟩ := okWide_slice Tryz.underlying29 hv
  obtain ⟨fuel, hf⟩ := h
  obtain ⟨A, l, cap, e, h1, h2, h3, h4, _⟩ := TrodW.slice (R := R) (cf := cVar) (ok := fun x => x.n.size ≤ maxLen ∧ x.v.size ≤ maxLen ∧ x.n.size ≤ R ∧ x.v.size ≤ R) (size := 2) Tryz.underlying29 (by kernel_rfl) (by decide) cVar_len (fun n l hl h => var_cells hl h) ⟨_, hf, hW⟩
  exact ⟨l, A, cap, e, h3, h1, h2⟩
def I64' (x : Int) : Prop := -9223372036854775808 ≤ x ∧ x ≤ 9223372036854775807
theorem wf_i64' {n : Int} (h : (Lit.int .i64 n).wf = true) : I64' n := by
  simp [Lit.wf, IntKind.min, IntKind.max, IntKind.bits, IntKind.signed] at h
  unfold I64'; omega
/-- An operation that is handed in. -/
structure OpIn (R : Nat) (x : OP9) : Prop where
  k : I64' x.k
  a : I64' x.a
  b : I64' x.b
  t : x.t.size ≤ maxLen ∧ x.t.size ≤ R
theorem op19_cells {n : Nat} {l : List Value} (hl : l.length = 4) (h : TrodW enc Tryz.prog w base spare held R n 96 l) : ∃ x : OP9, l = cOP x ∧ OpIn R x := by
  obtain ⟨n1, hf⟩ := h.fields Tryz.underlying96
  match l, hl with
  | [c0, c1, c2, c3], _ =>
  have g0 := hf.at_ 0 3 0 1 _ rfl rfl rfl (by kernel_rfl) rfl
  have g1 := hf.at_ 1 3 1 1 _ rfl rfl rfl (by kernel_rfl) rfl
  have g2 := hf.at_ 2 3 2 1 _ rfl rfl rfl (by kernel_rfl) rfl
  have g3 := hf.at_ 3 9 3 1 _ rfl rfl rfl (by kernel_rfl) rfl
  obtain ⟨k, rfl, u0⟩ := TrodW.int Tryz.underlying3 g0
  obtain ⟨a, rfl, u1⟩ := TrodW.int Tryz.underlying3 g1
  obtain ⟨b, rfl, u2⟩ := TrodW.int Tryz.underlying3 g2
  obtain ⟨t, rfl, t1, t2⟩ := TrodW.str Tryz.underlying9 g3
  exact ⟨⟨k, a, b, t⟩, rfl, wf_i64' u0, wf_i64' u1, wf_i64' u2, t1, t2⟩
theorem prog19_cells {n : Nat} {l : List Value} (hl : l.length = 2) (h : TrodW enc Tryz.prog w base spare held R n 94 l) : ∃ x : PG, l = cPG x ∧ (PgOk w x ∧ (x.n.size ≤ maxLen ∧ x.n.size ≤ R) ∧ (∀ o ∈ x.ops, OpIn R o) ∧ x.ops.length * 40 ≤ R) := by
  obtain ⟨n1, hf⟩ := h.fields Tryz.underlying94
  match l, hl with
  | [c0, c1], _ =>
  have g0 := hf.at_ 0 9 0 1 _ rfl rfl rfl (by kernel_rfl) rfl
  have g1 := hf.at_ 1 92 1 1 _ rfl rfl rfl (by kernel_rfl) rfl
  obtain ⟨a, rfl, a1, a2⟩ := TrodW.str Tryz.underlying9 g0
  obtain ⟨A, ops, cap, rfl, k1, k2, k3, k4, k5⟩ := g1.slice (cf := cOP) (ok := OpIn R) (size := 4) Tryz.underlying92 (by kernel_rfl) (by decide) cOP_len (fun n l hl h => op19_cells hl h)
  rw [elemRo_by] at k5
  exact ⟨⟨a, A, cap, ops⟩, rfl, ⟨k3, k1, k2⟩, ⟨a1, a2⟩, k4, k5⟩
/-- Programs that are handed in. -/
structure PgIn (w : World) (R : Nat) (A : Option Addr) (c : Nat) (l : List PG) : Prop where
  pgs : Pgs w A c l
  few : PgFew l
  names : ∀ x ∈ l, x.n.size ≤ maxLen ∧ x.n.size ≤ R
  ops : ∀ x ∈ l, ∀ o ∈ x.ops, OpIn R o
theorem open_progs (hR : R ≤ 140737488355000) {r : Reach} {b0 : Nat} {v : Value} {d : DataW H} {p : List MemPlace} (hW : ∀ q ∈ d.weights Tryz.prog 35, q ≤ R) (hv : Value.okWide Tryz.prog w r b0 35 v) (h : DataW.Trod enc Tryz.prog w base spare held 35 v d p) : ∃ (l : List PG) (A : Option Addr) (cap : Nat), v = .slice A l.length cap ∧ PgIn w R A cap l := by
  obtain ⟨a0, len, c0, rfl⟩ := okWide_slice Tryz.underlying35 hv
  obtain ⟨fuel, hf⟩ := h
  obtain ⟨A, l, cap, e, h1, h2, h3, h4, h5⟩ := TrodW.slice (R := R) (cf := cPG) (ok := fun x => PgOk w x ∧ (x.n.size ≤ maxLen ∧ x.n.size ≤ R) ∧ (∀ o ∈ x.ops, OpIn R o) ∧ x.ops.length * 40 ≤ R) (size := 2) Tryz.underlying35 (by kernel_rfl) (by decide) cPG_len (fun n l hl h => prog19_cells hl h) ⟨_, hf, hW⟩
  rw [elemLp_by] at h5
  exact ⟨l, A, cap, e, ⟨h3, h1, h2, fun x hx => (h4 x hx).1⟩, ⟨by omega, fun x hx => by have := (h4 x hx).2.2.2; omega⟩, fun x hx => (h4 x hx).2.1, fun x hx => (h4 x hx).2.2.1⟩
end
end Go.Proofs.YtdplnedpbkpgpaaGreatDoor

namespace Go.Proofs.YtdplnedpbkpgpaaGreatDoor
set_option linter.all false
open Go.ChangeShapes Go.WideShapes Go.ChangeAt Go.RowKit Go.Deep

/-- What the walk of a law is handed: the arguments read as data, how much each takes, the world's shape. -/
def LawWalkC (P : Program) (f : FuncId) (fn : Func) : Prop :=
  ∀ (H : Type) (enc : TypeId × Value → H) (W : World) (base : Nat) (args : Array Value) (ds : List (DataW H)) (ps : List MemPlace),
    (∀ (j : Nat) t v, fn.params[j]? = some t → args[j]? = some v → Value.okWide P W .any base t v) →
    DataW.TrodAll enc P W 0 (fun _ => true) true fn.params.toList args.toList ds ps →
    (DataW.weightsEach P fn.params.toList ds).all (· ≤ reachBytes) = true →
    W.ShapedOpen P →
    Calls P f args W fun e W' => e = .returned (.bool true) ∧ Below W.heap.size W W'

theorem law_liftedC {C : Checked} {tb : TypeId} (own : ownKnob C.prog.godebug = none) (laidOut : laidOutB C.prog = true) (hb : C.prog.underlying tb = some .bool) (f : FuncId) (fn : Func) (s : ChangeSpec)
    (hfn : C.prog.funcs[f]? = some fn) (noInit : C.prog.inits.idxOf? f = none) (hres : fn.resultTypes = #[tb])
    (hread : readsAll C.prog fn.params.toList = true) (hv : s.vars = [])
    (hs : ∀ (H : Type) (ds : List (DataW H)), ds.length = fn.params.size → s.fn H ds = { results := [.lit (.bool true)], args := ds })
    (X : World → Prop)
    (walk : LawWalkC C.prog f fn) (os : Os) (started : os.Started) (H : Type) (enc : TypeId × Value → H)
    (witness : ∃ (w : World) (tape : Tape) (i : Input), w.os = os ∧ (w.forCall tape i).Shaped C.prog ∧ i.vars = [] ∧ Input.okWide C.prog (w.forCall tape i) .any w.heap.size f i ∧
      ((s.pre enc C.prog fn [] false (w.forCall tape i).memory i.args ∧ X (w.forCall tape i).memory) ∧ sizedMet enc C.prog fn (OpenSpec.ofChange s) false (w.forCall tape i).memory i.args) ∧ Assume.holds {} C.prog (lone (Frame.enter C.prog f i.args .normal) [] (w.forCall tape i))) :
    ReturnsInHanded {} C os f .any (fun w args => (s.pre enc C.prog fn [] false w args ∧ X w) ∧ sizedMet enc C.prog fn (OpenSpec.ofChange s) false w args) (s.post enc C.prog fn false true false false) := by
  refine returnsInHanded_of_calls own started noInit witness ?_
  intro w tape i _ hsh _ hok hpre hholds
  obtain ⟨_, _, _, fn', hfn', _, _, _, _, hval⟩ := hok
  have e : fn' = fn := Option.some.inj (hfn'.symm.trans hfn)
  subst e
  obtain ⟨⟨⟨ds, gs, before, hw, hc⟩, _⟩, hz⟩ := hpre
  have hW := DataW.Whole.of_heap (w' := w.forCall tape i) (by rfl) hw
  have hsz := hz.weights hw
  have hW' := hW
  obtain ⟨p, q, hA, hV, rfl, hfz, hnd⟩ := hW
  have hty : (OpenSpec.ofChange s).bare.plain.varTypes C.prog = [] := by simp [OpenSpec.ofChange, OpenSpec.bare, ChangeSpec.plain, hv, DataSpec.varTypes]
  have hV0 := hV
  rw [hv] at hV0
  obtain ⟨rfl, rfl⟩ := trodVars_none hV0
  rw [hty, List.append_nil, List.append_nil] at hsz
  have hlt := DataW.TrodAll.lt hA
  have hlen : ds.length = fn'.params.size := by have := trodAll_len _ _ _ _ hA; simpa using this
  have hfnc := hs H ds hlen
  refine (walk H enc (w.forCall tape i) w.heap.size i.args ds p hval hA hsz hsh).mono fun e W' ⟨he, bel⟩ => ?_
  subst he
  refine ChangeSpec.post_blind ⟨ds, [], p ++ [], [], p, [], hW', ?_, ?_, ?_, bel.frame _, fun h => by cases h⟩
  · rw [hres, List.append_nil, hfnc]
    exact trodAll_mk1 (shut_bool hb _)
  · rw [List.append_nil, hfnc]
    exact trodAll_stays laidOut bel _ _ _ _ hread hA hlt
  · rw [hv, List.append_nil, hfnc]
    rfl
end Go.Proofs.YtdplnedpbkpgpaaGreatDoor
