/- Arguments opened, down to their cells: structs in structs, texts, flags, slices of structs. Over any program; no condition. -/
import Derived.Test.YtmmcamkmglpgiaaGreatDoorKit
import Derived.Deep.Fields
import Derived.Deep.Slices
import Derived.Test.YtmmcamkmglpgiaaGreatDoorFrame
import Derived.SizedLaws
import Derived.Deep.Strs
import Derived.Test.YtmmcamkmglpgiaaGreatDoorApX
import Derived.Test.YtmmcamkmglpgiaaGreatDoorU
namespace Go.Proofs.YtmmcamkmglpgiaaGreatDoor
set_option linter.all false
open Go.ChangeShapes Go.WideShapes Go.ChangeAt Go.RowKit Go.Deep

section
variable {H : Type} {enc : TypeId × Value → H} {P : Program} {w : World} {base : Nat} {spare : Nat → Bool} {held : Bool}
theorem agg_int {k : IntKind} {n : Nat} {t : TypeId} {c : Value} {y : DataW H × List MemPlace} (ht : P.underlying t = some (.int k)) (h : DataW.trod enc P w base spare held n t [c] = some y) : ∃ a, c = .int k a ∧ (Lit.int k a).wf = true := by
  obtain ⟨a, e, _, wa⟩ := DataW.trod_int ht h
  exact ⟨a, by simpa using e, wa⟩
def FieldsAt (enc : TypeId × Value → H) (P : Program) (w : World) (base : Nat) (spare : Nat → Bool) (held : Bool) (n : Nat) (fs : Array Field) (l : List Value) : Prop :=
  ∀ (j : Nat) (f : Field), fs[j]? = some f → ∃ y, DataW.trod enc P w base spare held n f.type ((l.drop f.offset).take (P.cellsOf f.type)) = some y
theorem trod_fields {n : Nat} {t : TypeId} {fs : Array Field} {l : List Value} {y : DataW H × List MemPlace} (hs : P.underlying t = some (.struct fs)) (h : DataW.trod enc P w base spare held n t l = some y) : ∃ n', FieldsAt enc P w base spare held n' fs l := by
  obtain ⟨ys, n', _, _, _, hyl, hg⟩ := DataW.trod_struct hs h
  refine ⟨n', fun j f hj => ?_⟩
  have hjl : j < fs.size := (Array.getElem?_eq_some_iff.1 hj).1
  exact ⟨ys[j]'(by omega), (hg j f hj).trans (List.getElem?_eq_getElem (by omega))⟩
theorem FieldsAt.at_ {n : Nat} {fs : Array Field} {l l' : List Value} (h : FieldsAt enc P w base spare held n fs l) (j : Nat) (T : TypeId) (off k : Nat) (f : Field) (hj : fs[j]? = some f) (hT : f.type = T) (ho : f.offset = off) (hk : P.cellsOf T = k) (hl : (l.drop off).take k = l') :
    ∃ y, DataW.trod enc P w base spare held n T l' = some y := by
  obtain ⟨y, hy⟩ := h j f hj
  rw [hT, ho, hk, hl] at hy
  exact ⟨y, hy⟩
/-- A struct that is handed in: its cells, its fields. -/
theorem open_struct {r : Reach} {b0 : Nat} {t : TypeId} {fs : Array Field} {v : Value} {d : DataW H} {p : List MemPlace} {k : Nat} (hs : P.underlying t = some (.struct fs)) (hC : P.cellsOf t = k)
    (hv : Value.okWide P w r b0 t v) (h : DataW.Trod enc P w base spare held t v d p) : ∃ (l : List Value) (n : Nat), v = .agg l.toArray ∧ l.length = k ∧ FieldsAt enc P w base spare held n fs l := by
  obtain ⟨cs, rfl, hsz⟩ := okWide_struct hs hv
  obtain ⟨l⟩ := cs
  obtain ⟨fuel, hf⟩ := h
  obtain ⟨n, hn⟩ := trod_fields hs hf
  have hcs : (Value.agg ⟨l⟩).cells.toList = l := by simp [Value.cells]
  rw [hcs] at hn
  exact ⟨l, n, rfl, by simpa using hsz.trans hC, hn⟩
theorem aggP_ints {k : IntKind} {n : Nat} {t e : TypeId} {c : Value} {y : DataW H × List MemPlace} (ht : P.underlying t = some (.slice e)) (he : P.underlying e = some (.int k)) (hc : P.cellsOf e = 1) (h : DataW.trod enc P w base spare held n t [c] = some y) :
    ∃ A len cap zs, c = .slice A len cap ∧ len ≤ cap ∧ cap ≤ maxLen ∧ Ints k w A len zs := by
  rcases Go.ChangeShapes.open_ints ht he hc h with ⟨hcs, _⟩ | ⟨a, l, c', zs, hcs, _, hl, hm, hz, _, hcell, hwz⟩
  · simp at hcs
    subst hcs
    exact ⟨none, 0, 0, [], rfl, Nat.le_refl _, Nat.zero_le _, rfl, Nat.zero_le _, by simp, by simp⟩
  · simp at hcs
    subst hcs
    have hlz : l ≤ zs.length := by split at hz <;> omega
    refine ⟨some a, l, c', zs.take l, rfl, hl, hm, by simp; omega, by omega, fun n hn => hwz n (List.mem_of_mem_take hn), fun h0 => ?_⟩
    obtain ⟨b, off, rfl, hc'⟩ := ints_at hcell (by omega)
    refine ⟨b, off, rfl, World.block_lt_of_cell? w _ (hc' 0 (by omega)), fun i hi => ?_⟩
    rw [hc' i (by omega)]
    simp [List.getD_eq_getElem?_getD, List.getElem?_take, hi]
theorem agg_strP {n : Nat} {t : TypeId} {c : Value} {y : DataW H × List MemPlace} (ht : P.underlying t = some .string) (h : DataW.trod enc P w base spare held n t [c] = some y) : ∃ s : ByteArray, c = .string s ∧ s.size ≤ maxLen := by
  obtain ⟨s, h1, _, h3⟩ := DataW.trod_string ht h
  exact ⟨s, by simpa using h1, h3⟩
theorem agg_boolP {n : Nat} {t : TypeId} {c : Value} {y : DataW H × List MemPlace} (ht : P.underlying t = some .bool) (h : DataW.trod enc P w base spare held n t [c] = some y) : ∃ b : Bool, c = .bool b := by
  obtain ⟨b, h1, _⟩ := DataW.trod_bool ht h
  exact ⟨b, by simpa using h1⟩
/-- Bytes in a field. -/
theorem agg_bytes {n : Nat} {t e : TypeId} {c : Value} {y : DataW H × List MemPlace} (ht : P.underlying t = some (.slice e)) (he : P.underlying e = some (.int .u8)) (hc : P.cellsOf e = 1) (h : DataW.trod enc P w base spare held n t [c] = some y) :
    ∃ (A : Option Addr) (cap : Nat) (zs : List Int), c = .slice A zs.length cap ∧ zs.length ≤ cap ∧ cap ≤ maxLen ∧ RdG (.int .u8) w A zs ∧ ∀ x ∈ zs, 0 ≤ x ∧ x < 256 := by
  obtain ⟨A, len, cap, zs, rfl, hlc, hcm, hz1, hz2, hz3, hz4⟩ := aggP_ints ht he hc h
  subst hz1
  refine ⟨A, cap, zs, rfl, hlc, hcm, fun h0 => ?_, fun x hx => ?_⟩
  · obtain ⟨b', off', e, hlt, hcc⟩ := hz4 (by omega)
    refine ⟨b', off', e, hlt, fun j v hj => ?_⟩
    have hj' : j < zs.length := (List.getElem?_eq_some_iff.1 hj).1
    rw [hcc j (by omega), List.getD_eq_getElem?_getD, hj]
    rfl
  · have := hz3 x hx
    have := wf_u8 this
    omega

theorem list_of {α : Type} {p : Nat → α → Prop} : ∀ n, (∀ i, i < n → ∃ x, p i x) → ∃ l : List α, l.length = n ∧ ∀ i x, l[i]? = some x → p i x
  | 0, _ => ⟨[], rfl, fun i x h => by simp at h⟩
  | n + 1, h => by
    obtain ⟨l, hl, hp⟩ := list_of n fun i hi => h i (by omega)
    obtain ⟨x, hx⟩ := h n (by omega)
    refine ⟨l ++ [x], by simp [hl], fun i y hy => ?_⟩
    rcases Nat.lt_or_ge i l.length with h1 | h1
    · rw [List.getElem?_append_left h1] at hy; exact hp i y hy
    · rw [List.getElem?_append_right h1] at hy
      have h2 : i - l.length = 0 := by
        rcases Nat.eq_zero_or_pos (i - l.length) with h2 | h2
        · exact h2
        · rw [List.getElem?_eq_none (by simp; omega)] at hy; cases hy
      rw [h2] at hy
      simp at hy
      subst hy
      have e : i = n := by omega
      rw [e]; exact hx
/-- A slice whose elements are opened by hel. -/
theorem open_rdX {α : Type} {cf : α → List Value} {ok : α → Prop} {t e : TypeId} {size : Nat} {v : Value} {d : DataW H} {p : List MemPlace} {r : Reach} {b0 : Nat} (ht : P.underlying t = some (.slice e)) (hC : P.cellsOf e = size) (h0 : 0 < size) (hcl : ∀ x, (cf x).length = size)
    (hel : ∀ (n : Nat) (l : List Value) (y : DataW H × List MemPlace), l.length = size → DataW.trod enc P w base spare held n e l = some y → ∃ x : α, l = cf x ∧ ok x)
    (hv : Value.okWide P w r b0 t v) (h : DataW.Trod enc P w base spare held t v d p) : ∃ (A : Option Addr) (l : List α) (cap : Nat), v = .slice A l.length cap ∧ l.length ≤ cap ∧ cap ≤ maxLen ∧ RdX cf w A l ∧ ∀ x ∈ l, ok x := by
  obtain ⟨a0, len, cap, rfl⟩ := okWide_slice ht hv
  obtain ⟨fuel, hf⟩ := h
  rcases open_slice ht hf with ⟨hcs, _⟩ | ⟨a, l, c, m, n, D, Pl, hcs, _, hlc, hm, hmm, _, hi⟩
  · simp [Value.cells] at hcs
    obtain ⟨rfl, rfl, rfl⟩ := hcs
    exact ⟨none, [], 0, rfl, Nat.le_refl _, Nat.zero_le _, rdX_nil, fun x hx => by cases hx⟩
  · simp [Value.cells] at hcs
    obtain ⟨rfl, rfl, rfl⟩ := hcs
    have hlm : len ≤ m := by rw [hmm]; split <;> omega
    obtain ⟨xs, hxl, hx⟩ := list_of (p := fun i (x : α) => ok x ∧ ∀ j u, (cf x)[j]? = some u → w.cell? (a.add (i * size + j)) = some u) len (fun i hi1 => by
      obtain ⟨cs', hc, ht'⟩ := hi i (by omega)
      obtain ⟨_, hcl', hat⟩ := World.cells?_some hc
      rw [hC] at hcl' hat
      obtain ⟨x, rfl, hok⟩ := hel _ _ _ hcl' ht'
      refine ⟨x, hok, fun j u hu => ?_⟩
      have hj : j < size := by have := (List.getElem?_eq_some_iff.1 hu).1; omega
      rw [← Go.Deep.add_add]
      exact (hat j hj).trans hu)
    subst hxl
    refine ⟨some a, xs, cap, rfl, hlc, hm, fun hl0 => ?_, fun x hx1 => ?_⟩
    · have h00 : ∃ u, w.cell? (a.add 0) = some u := by
        have hx0 := hx 0 (xs[0]'hl0) (List.getElem?_eq_getElem hl0)
        have h1 : (cf (xs[0]'hl0))[0]? = some ((cf (xs[0]'hl0))[0]'(by rw [hcl]; exact h0)) := List.getElem?_eq_getElem _
        exact ⟨_, by simpa using hx0.2 0 _ h1⟩
      obtain ⟨u0, hu0⟩ := h00
      have hadd0 : a.add 0 = a := by unfold Addr.add; simp
      rw [hadd0] at hu0
      have hs : a.spot = none := by
        unfold World.cell? at hu0
        split at hu0
        · split at hu0
          · cases hu0
          · rename_i h1; simpa using h1
        · cases hu0
      obtain ⟨b, off, sp⟩ := a
      simp at hs
      subst hs
      refine ⟨b, off, rfl, World.block_lt_of_cell? w _ hu0, fun j u hu => ?_⟩
      have key : ∀ (l : List α) (j : Nat) (u : Value), (l.flatMap cf)[j]? = some u → ∃ i x k, l[i]? = some x ∧ (cf x)[k]? = some u ∧ j = i * size + k := by
        intro l
        induction l with
        | nil => intro j u h; simp at h
        | cons y ys ih =>
          intro j u h
          rw [List.flatMap_cons] at h
          rcases Nat.lt_or_ge j (cf y).length with h1 | h1
          · rw [List.getElem?_append_left h1] at h
            exact ⟨0, y, j, rfl, h, by simp⟩
          · rw [List.getElem?_append_right h1] at h
            obtain ⟨i, x, k, h2, h3, h4⟩ := ih _ _ h
            refine ⟨i + 1, x, k, by simpa using h2, h3, ?_⟩
            rw [hcl] at h1 h4
            rw [Nat.succ_mul]; omega
      obtain ⟨i, x, k, h2, h3, rfl⟩ := key xs j u hu
      have := (hx i x h2).2 k u h3
      rw [Addr.add_mid] at this
      exact this
    · obtain ⟨i, hi1⟩ := List.mem_iff_getElem?.1 hx1
      exact (hx i x hi1).1
end
end Go.Proofs.YtmmcamkmglpgiaaGreatDoor
