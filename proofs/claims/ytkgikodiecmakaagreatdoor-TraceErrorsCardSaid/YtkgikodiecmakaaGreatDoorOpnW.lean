/- Arguments opened with what each of their slices weighs: structs in structs, arrays, slices in slices. Over any program; no condition. -/
import Derived.Test.YtkgikodiecmakaaGreatDoorFrameE
import Derived.OpenShut
namespace Go.Proofs.YtkgikodiecmakaaGreatDoor
set_option linter.all false
open Go.ChangeShapes Go.WideShapes Go.ChangeAt Go.RowKit Go.Deep

section
variable {H : Type} {enc : TypeId × Value → H} {P : Program} {w : World} {base : Nat} {spare : Nat → Bool} {held : Bool} {R : Nat}
/-- Cells read as data, each slice of which is light. -/
def TrodW (enc : TypeId × Value → H) (P : Program) (w : World) (base : Nat) (spare : Nat → Bool) (held : Bool) (R n : Nat) (t : TypeId) (l : List Value) : Prop :=
  ∃ y, DataW.trod enc P w base spare held n t l = some y ∧ ∀ k ∈ y.1.weights P t, k ≤ R
theorem wAll_mem {e : TypeId} : ∀ {ds : List (DataW H)} {d : DataW H}, d ∈ ds → ∀ n ∈ d.weights P e, n ∈ DataW.weightsAll P e ds
  | [], _, h, _, _ => by cases h
  | x :: r, d, h, n, hn => by
    simp only [DataW.weightsAll, List.mem_append]
    rcases List.mem_cons.1 h with rfl | h
    · exact .inl hn
    · exact .inr (wAll_mem h n hn)
def FieldsW (enc : TypeId × Value → H) (P : Program) (w : World) (base : Nat) (spare : Nat → Bool) (held : Bool) (R n : Nat) (fs : Array Field) (l : List Value) : Prop :=
  ∀ (j : Nat) (f : Field), fs[j]? = some f → TrodW enc P w base spare held R n f.type ((l.drop f.offset).take (P.cellsOf f.type))
theorem TrodW.fields {n : Nat} {t : TypeId} {fs : Array Field} {l : List Value} (hs : P.underlying t = some (.struct fs)) (h : TrodW enc P w base spare held R n t l) : ∃ n', FieldsW enc P w base spare held R n' fs l := by
  obtain ⟨y, h, hW⟩ := h
  obtain ⟨ys, n', _, hx, _, hyl, hg⟩ := DataW.trod_struct hs h
  refine ⟨n', fun j f hj => ?_⟩
  have hjl : j < fs.size := (Array.getElem?_eq_some_iff.1 hj).1
  have hjy : j < ys.length := by omega
  refine ⟨ys[j], (hg j f hj).trans (List.getElem?_eq_getElem hjy), fun q hq => hW q ?_⟩
  subst hx
  simp only [DataW.weights, hs]
  exact DataW.weights_mem_each (j := j) (t := f.type) (d := (ys[j]).1) (by simp [hj]) (by simp [hjy]) q hq
theorem FieldsW.at_ {n : Nat} {fs : Array Field} {l l' : List Value} (h : FieldsW enc P w base spare held R n fs l) (j : Nat) (T : TypeId) (off k : Nat) (f : Field) (hj : fs[j]? = some f) (hT : f.type = T) (ho : f.offset = off) (hk : P.cellsOf T = k) (hl : (l.drop off).take k = l') : TrodW enc P w base spare held R n T l' := by
  have hy := h j f hj
  rw [hT, ho, hk, hl] at hy
  exact hy
theorem TrodW.int {k : IntKind} {n : Nat} {t : TypeId} {c : Value} (ht : P.underlying t = some (.int k)) (h : TrodW enc P w base spare held R n t [c]) : ∃ a, c = .int k a ∧ (Lit.int k a).wf = true := by
  obtain ⟨y, h, _⟩ := h
  exact agg_int ht h
theorem TrodW.bool {n : Nat} {t : TypeId} {c : Value} (ht : P.underlying t = some .bool) (h : TrodW enc P w base spare held R n t [c]) : ∃ b : Bool, c = .bool b := by
  obtain ⟨y, h, _⟩ := h
  exact agg_boolP ht h
theorem TrodW.str {n : Nat} {t : TypeId} {c : Value} (ht : P.underlying t = some .string) (h : TrodW enc P w base spare held R n t [c]) : ∃ s : ByteArray, c = .string s ∧ s.size ≤ maxLen ∧ s.size ≤ R := by
  obtain ⟨y, h, hW⟩ := h
  obtain ⟨s, h1, h2, h3⟩ := DataW.trod_string ht h
  refine ⟨s, by simpa using h1, h3, ?_⟩
  subst h2
  have := hW s.data.toList.length (by simp [DataW.weights])
  have e : s.data.toList.length = s.size := by rw [Array.length_toList]; rfl
  rw [e] at this
  exact this
theorem TrodW.arr {n m : Nat} {t e : TypeId} {l : List Value} (ht : P.underlying t = some (.array m e)) (h : TrodW enc P w base spare held R n t l) : ∃ n', ∀ i, i < m → TrodW enc P w base spare held R n' e ((l.drop (i * P.cellsOf e)).take (P.cellsOf e)) := by
  obtain ⟨y, h, hW⟩ := h
  obtain ⟨xs, n', _, hx, _, hxl, hg⟩ := DataW.trod_array ht h
  refine ⟨n', fun i hi => ?_⟩
  have hil : i < xs.length := by omega
  refine ⟨xs[i], (hg i hi).trans (List.getElem?_eq_getElem hil), fun q hq => hW q ?_⟩
  subst hx
  simp only [DataW.weights, ht]
  exact wAll_mem (List.mem_map.2 ⟨xs[i], List.getElem_mem hil, rfl⟩) q hq
theorem TrodW.slice {α : Type} {cf : α → List Value} {ok : α → Prop} {t e : TypeId} {size : Nat} {n0 : Nat} {v : Value} (ht : P.underlying t = some (.slice e)) (hC : P.cellsOf e = size) (h0 : 0 < size) (hcl : ∀ x, (cf x).length = size)
    (hel : ∀ (n : Nat) (l : List Value), l.length = size → TrodW enc P w base spare held R n e l → ∃ x : α, l = cf x ∧ ok x)
    (h : TrodW enc P w base spare held R n0 t [v]) : ∃ (A : Option Addr) (l : List α) (cap : Nat), v = .slice A l.length cap ∧ l.length ≤ cap ∧ cap ≤ maxLen ∧ RdX cf w A l ∧ (∀ x ∈ l, ok x) ∧ l.length * P.bytesOf e ≤ R := by
  obtain ⟨y0, h, hW⟩ := h
  rcases open_slice ht h with ⟨hcs, _⟩ | ⟨a, len, cap, m, n, D, Pl, hcs, _, hlc, hm, hmm, hx, hi⟩
  · simp at hcs
    subst hcs
    exact ⟨none, [], 0, rfl, Nat.le_refl _, Nat.zero_le _, rdX_nil, (fun x hx => by cases hx), by simp⟩
  · simp at hcs
    subst hcs
    have hlm : len ≤ m := by rw [hmm]; split <;> omega
    subst hx
    have hlw : len * P.bytesOf e ≤ R := by
      have h1 := hW (((List.range len).map D).length * P.bytesOf e + ((List.range (m - len)).map fun j => D (len + j)).length * P.bytesOf e) (by
        simp only [DataW.weights, ht]
        rw [← Nat.add_mul]
        exact List.mem_cons_self)
      simp only [List.length_map, List.length_range] at h1
      exact Nat.le_trans (Nat.le_add_right _ _) h1
    obtain ⟨xs, hxl, hx⟩ := list_of (p := fun i (x : α) => ok x ∧ ∀ j u, (cf x)[j]? = some u → w.cell? (a.add (i * size + j)) = some u) len (fun i hi1 => by
      obtain ⟨cs', hc, ht'⟩ := hi i (by omega)
      obtain ⟨_, hcl', hat⟩ := World.cells?_some hc
      rw [hC] at hcl' hat
      obtain ⟨x, rfl, hok⟩ := hel _ _ hcl' ⟨_, ht', fun k hk => hW k (by
        simp only [DataW.weights, ht, List.mem_cons, List.mem_append]
        exact .inr (.inl (wAll_mem (List.mem_map.2 ⟨i, List.mem_range.2 hi1, rfl⟩) k hk)))⟩
      refine ⟨x, hok, fun j u hu => ?_⟩
      have hj : j < size := by have := (List.getElem?_eq_some_iff.1 hu).1; omega
      rw [← Go.Deep.add_add]
      exact (hat j hj).trans hu)
    subst hxl
    refine ⟨some a, xs, cap, rfl, hlc, hm, fun hl0 => ?_, fun x hx1 => ?_, hlw⟩
    · have h00 : ∃ u, w.cell? (a.add 0) = some u := by
        have hx0 := hx 0 (xs[0]'hl0) (List.getElem?_eq_getElem hl0)
        have h1 : (cf (xs[0]'hl0))[0]? = some ((cf (xs[0]'hl0))[0]'(by rw [hcl]; exact h0)) := List.getElem?_eq_getElem _
        exact ⟨_, by simpa using hx0.2 0 _ h1⟩
      obtain ⟨u0, hu0⟩ := h00
      have hadd0 : a.add 0 = a := by unfold Addr.add; simp
      rw [hadd0] at hu0
      have hs : a.spot = none := by
        unfold World.cell? at hu0
        split at hu0
        · split at hu0
          · cases hu0
          · rename_i h1; simpa using h1
        · cases hu0
      obtain ⟨b, off, sp⟩ := a
      simp at hs
      subst hs
      refine ⟨b, off, rfl, World.block_lt_of_cell? w _ hu0, fun j u hu => ?_⟩
      have key : ∀ (l : List α) (j : Nat) (u : Value), (l.flatMap cf)[j]? = some u → ∃ i x k, l[i]? = some x ∧ (cf x)[k]? = some u ∧ j = i * size + k := by
        intro l
        induction l with
        | nil => intro j u h; simp at h
        | cons y ys ih =>
          intro j u h
          rw [List.flatMap_cons] at h
          rcases Nat.lt_or_ge j (cf y).length with h1 | h1
          · rw [List.getElem?_append_left h1] at h
            exact ⟨0, y, j, rfl, h, by simp⟩
          · rw [List.getElem?_append_right h1] at h
            obtain ⟨i, x, k, h2, h3, h4⟩ := ih _ _ h
            refine ⟨i + 1, x, k, by simpa using h2, h3, ?_⟩
            rw [hcl] at h1 h4
            rw [Nat.succ_mul]; omega
      obtain ⟨i, x, k, h2, h3, rfl⟩ := key xs j u hu
      have := (hx i x h2).2 k u h3
      rw [Addr.add_mid] at this
      exact this
    · obtain ⟨i, hi1⟩ := List.mem_iff_getElem?.1 hx1
      exact (hx i x hi1).1
/-- A struct that is handed in. -/
theorem open_structW {r : Reach} {b0 : Nat} {t : TypeId} {fs : Array Field} {v : Value} {d : DataW H} {p : List MemPlace} {k : Nat} (hs : P.underlying t = some (.struct fs)) (hC : P.cellsOf t = k) (hW : ∀ q ∈ d.weights P t, q ≤ R)
    (hv : Value.okWide P w r b0 t v) (h : DataW.Trod enc P w base spare held t v d p) : ∃ (l : List Value) (n : Nat), v = .agg l.toArray ∧ l.length = k ∧ TrodW enc P w base spare held R n t l := by
  obtain ⟨cs, rfl, hsz⟩ := okWide_struct hs hv
  obtain ⟨l⟩ := cs
  obtain ⟨fuel, hf⟩ := h
  have hcs : (Value.agg ⟨l⟩).cells.toList = l := by simp [Value.cells]
  rw [hcs] at hf
  exact ⟨l, fuel, rfl, by simpa using hsz.trans hC, ⟨_, hf, hW⟩⟩
end
end Go.Proofs.YtkgikodiecmakaaGreatDoor
