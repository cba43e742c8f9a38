/- The frame of a law: if the call returns true and leaves all memory that was there as it was, then the law's row holds; the walk is told the reach; no condition. A slice within a struct, opened. -/
import Derived.Test.YtkgikodiecmakaaGreatDoorOpn
namespace Go.Proofs.YtkgikodiecmakaaGreatDoor
set_option linter.all false
open Go.ChangeShapes Go.WideShapes Go.ChangeAt Go.RowKit Go.Deep

/-- What the walk of a law is handed: the arguments read as data, and how much each takes. -/
def LawWalkS (P : Program) (f : FuncId) (fn : Func) : Prop :=
  ∀ (H : Type) (enc : TypeId × Value → H) (W : World) (base : Nat) (args : Array Value) (ds : List (DataW H)) (ps : List MemPlace),
    (∀ (j : Nat) t v, fn.params[j]? = some t → args[j]? = some v → Value.okWide P W .any base t v) →
    DataW.TrodAll enc P W 0 (fun _ => true) true fn.params.toList args.toList ds ps →
    (DataW.weightsEach P fn.params.toList ds).all (· ≤ reachBytes) = true →
    Calls P f args W fun e W' => e = .returned (.bool true) ∧ Below W.heap.size W W'

theorem law_liftedS {C : Checked} {tb : TypeId} (own : ownKnob C.prog.godebug = none) (laidOut : laidOutB C.prog = true) (hb : C.prog.underlying tb = some .bool) (f : FuncId) (fn : Func) (s : ChangeSpec)
    (hfn : C.prog.funcs[f]? = some fn) (noInit : C.prog.inits.idxOf? f = none) (hres : fn.resultTypes = #[tb])
    (hread : readsAll C.prog fn.params.toList = true) (hv : s.vars = [])
    (hs : ∀ (H : Type) (ds : List (DataW H)), ds.length = fn.params.size → s.fn H ds = { results := [.lit (.bool true)], args := ds })
    (walk : LawWalkS C.prog f fn) (os : Os) (started : os.Started) (H : Type) (enc : TypeId × Value → H)
    (witness : ∃ (w : World) (tape : Tape) (i : Input), w.os = os ∧ (w.forCall tape i).Shaped C.prog ∧ i.vars = [] ∧ Input.okWide C.prog (w.forCall tape i) .any w.heap.size f i ∧
      s.pre6 enc C.prog fn [] false (w.forCall tape i).memory i.args ∧ Assume.holds {} C.prog (lone (Frame.enter C.prog f i.args .normal) [] (w.forCall tape i))) :
    ReturnsInHanded {} C os f .any (s.pre6 enc C.prog fn [] false) (s.post enc C.prog fn false true false false) := by
  refine returnsInHanded_of_change_sized own started noInit hfn witness ?_
  intro W base args ds gs before hval hW hcnd hsz _
  have hW' := hW
  obtain ⟨p, q, hA, hV, rfl, hfz, hnd⟩ := hW
  have hty : s.plain.varTypes C.prog = [] := by simp [ChangeSpec.plain, hv, DataSpec.varTypes]
  rw [hv] at hV
  obtain ⟨rfl, rfl⟩ := trodVars_none hV
  rw [hty, List.append_nil, List.append_nil] at hsz
  have hlt := DataW.TrodAll.lt hA
  have hlen : ds.length = fn.params.size := by have := trodAll_len _ _ _ _ hA; simpa using this
  have hfnc := hs H ds hlen
  refine (walk H enc W base args ds p hval hA hsz).mono fun e W' ⟨he, bel⟩ => ?_
  subst he
  refine ⟨_, rfl, ds, [], p ++ [], [], p, [], hW', ?_, ?_, ?_, bel.frame _, fun h => by cases h⟩
  · rw [hres, List.append_nil, hfnc]
    exact trodAll_mk1 (shut_bool hb _)
  · rw [List.append_nil, hfnc]
    exact trodAll_stays laidOut bel _ _ _ _ hread hA hlt
  · rw [hv, List.append_nil, hfnc]
    rfl

section
variable {H : Type} {enc : TypeId × Value → H} {P : Program} {w : World} {base : Nat} {spare : Nat → Bool} {held : Bool}
theorem agg_rdX {α : Type} {cf : α → List Value} {ok : α → Prop} {t e : TypeId} {size : Nat} {n0 : Nat} {v : Value} {y0 : DataW H × List MemPlace} (ht : P.underlying t = some (.slice e)) (hC : P.cellsOf e = size) (h0 : 0 < size) (hcl : ∀ x, (cf x).length = size)
    (hel : ∀ (n : Nat) (l : List Value) (y : DataW H × List MemPlace), l.length = size → DataW.trod enc P w base spare held n e l = some y → ∃ x : α, l = cf x ∧ ok x)
    (h : DataW.trod enc P w base spare held n0 t [v] = some y0) : ∃ (A : Option Addr) (l : List α) (cap : Nat), v = .slice A l.length cap ∧ l.length ≤ cap ∧ cap ≤ maxLen ∧ RdX cf w A l ∧ ∀ x ∈ l, ok x := by
  have hf := h
  rcases open_slice ht hf with ⟨hcs, _⟩ | ⟨a, len, cap, m, n, D, Pl, hcs, _, hlc, hm, hmm, _, hi⟩
  · simp at hcs
    subst hcs
    exact ⟨none, [], 0, rfl, Nat.le_refl _, Nat.zero_le _, rdX_nil, fun x hx => by cases hx⟩
  · simp at hcs
    subst hcs
    have hlm : len ≤ m := by rw [hmm]; split <;> omega
    obtain ⟨xs, hxl, hx⟩ := list_of (p := fun i (x : α) => ok x ∧ ∀ j u, (cf x)[j]? = some u → w.cell? (a.add (i * size + j)) = some u) len (fun i hi1 => by
      obtain ⟨cs', hc, ht'⟩ := hi i (by omega)
      obtain ⟨_, hcl', hat⟩ := World.cells?_some hc
      rw [hC] at hcl' hat
      obtain ⟨x, rfl, hok⟩ := hel _ _ _ hcl' ht'
      refine ⟨x, hok, fun j u hu => ?_⟩
      have hj : j < size := by have := (List.getElem?_eq_some_iff.1 hu).1; omega
      rw [← Go.Deep.add_add]
      exact (hat j hj).trans hu)
    subst hxl
    refine ⟨some a, xs, cap, rfl, hlc, hm, fun hl0 => ?_, fun x hx1 => ?_⟩
    · have h00 : ∃ u, w.cell? (a.add 0) = some u := by
        have hx0 := hx 0 (xs[0]'hl0) (List.getElem?_eq_getElem hl0)
        have h1 : (cf (xs[0]'hl0))[0]? = some ((cf (xs[0]'hl0))[0]'(by rw [hcl]; exact h0)) := List.getElem?_eq_getElem _
        exact ⟨_, by simpa using hx0.2 0 _ h1⟩
      obtain ⟨u0, hu0⟩ := h00
      have hadd0 : a.add 0 = a := by unfold Addr.add; simp
      rw [hadd0] at hu0
      have hs : a.spot = none := by
        unfold World.cell? at hu0
        split at hu0
        · split at hu0
          · cases hu0
          · rename_i h1; simpa using h1
        · cases hu0
      obtain ⟨b, off, sp⟩ := a
      simp at hs
      subst hs
      refine ⟨b, off, rfl, World.block_lt_of_cell? w _ hu0, fun j u hu => ?_⟩
      have key : ∀ (l : List α) (j : Nat) (u : Value), (l.flatMap cf)[j]? = some u → ∃ i x k, l[i]? = some x ∧ (cf x)[k]? = some u ∧ j = i * size + k := by
        intro l
        induction l with
        | nil => intro j u h; simp at h
        | cons y ys ih =>
          intro j u h
          rw [List.flatMap_cons] at h
          rcases Nat.lt_or_ge j (cf y).length with h1 | h1
          · rw [List.getElem?_append_left h1] at h
            exact ⟨0, y, j, rfl, h, by simp⟩
          · rw [List.getElem?_append_right h1] at h
            obtain ⟨i, x, k, h2, h3, h4⟩ := ih _ _ h
            refine ⟨i + 1, x, k, by simpa using h2, h3, ?_⟩
            rw [hcl] at h1 h4
            rw [Nat.succ_mul]; omega
      obtain ⟨i, x, k, h2, h3, rfl⟩ := key xs j u hu
      have := (hx i x h2).2 k u h3
      rw [Addr.add_mid] at this
      exact this
    · obtain ⟨i, hi1⟩ := List.mem_iff_getElem?.1 hx1
      exact (hx i x hi1).1
end
end Go.Proofs.YtkgikodiecmakaaGreatDoor
