/- The frame of a law: if the call returns true and leaves all memory that was there as it was, then the law's row holds; the walk is told the reach; no condition. A slice within a struct, opened · Arguments opened with what each of their slices weighs: structs in structs, arrays, slices in slices. Over any program; no condition · Layer 19: programs handed from one package to another one; for all programs; the lengths are small · Layer 19: programs handed in, opened; no condition · Layer 19: the program's programs as the document's; for all programs; the lengths are small · The machine: a way on that is shared by several ways; states that differ in the order of their slots alone. No condition · A string's bytes appended to bytes of our own, by the machine. Over any program; no condition · Layer 19: strings.Builder: what is written to it; no condition but its length · The machine: it goes into calls and comes back by itself, decides what is known, goes round loops; over any program; no condition · The machine: calls that turn two blocks of ours; a function that is given several blocks; over any program; no condition · Layer 19: a text cut at its blanks; the table of kinds; which kind a word is; no condition but lengths · Layer 19: the table of kinds; which kind a word is; no condition. -/
import Derived.Test.YtmmcamkmglpgiaaGreatDoorOpn
import Derived.OpenShut
import Derived.Test.YtmmcamkmglpgiaaGreatDoorEngAC
import Derived.Test.YtmmcamkmglpgiaaGreatDoorEngK
import Derived.Test.YtmmcamkmglpgiaaGreatDoorEngF
import Derived.Lib.AppendStr
import Derived.Test.YtmmcamkmglpgiaaGreatDoorPrC
import Derived.Lib.Builder
import Derived.Test.YtmmcamkmglpgiaaGreatDoorKit
import Derived.Test.YtmmcamkmglpgiaaGreatDoorEngR
import Derived.Test.YtmmcamkmglpgiaaGreatDoorPrD
import Derived.Test.YtmmcamkmglpgiaaGreatDoorEngI
import Derived.Lib.SplitLaws
namespace Go.Proofs.YtmmcamkmglpgiaaGreatDoor
set_option linter.all false
open Go.ChangeShapes Go.WideShapes Go.ChangeAt Go.RowKit Go.Deep

/-- What the walk of a law is handed: the arguments read as data, and how much each takes. -/
def LawWalkS (P : Program) (f : FuncId) (fn : Func) : Prop :=
  ∀ (H : Type) (enc : TypeId × Value → H) (W : World) (base : Nat) (args : Array Value) (ds : List (DataW H)) (ps : List MemPlace),
    (∀ (j : Nat) t v, fn.params[j]? = some t → args[j]? = some v → Value.okWide P W .any base t v) →
    DataW.TrodAll enc P W 0 (fun _ => true) true fn.params.toList args.toList ds ps →
    (DataW.weightsEach P fn.params.toList ds).all (· ≤ reachBytes) = true →
    Calls P f args W fun e W' => e = .returned (.bool true) ∧ Below W.heap.size W W'

theorem law_liftedS {C : Checked} {tb : TypeId} (own : ownKnob C.prog.godebug = none) (laidOut : laidOutB C.prog = true) (hb : C.prog.underlying tb = some .bool) (f : FuncId) (fn : Func) (s : ChangeSpec)
    (hfn : C.prog.funcs[f]? = some fn) (noInit : C.prog.inits.idxOf? f = none) (hres : fn.resultTypes = #[tb])
    (hread : readsAll C.prog fn.params.toList = true) (hv : s.vars = [])
    (hs : ∀ (H : Type) (ds : List (DataW H)), ds.length = fn.params.size → s.fn H ds = { results := [.lit (.bool true)], args := ds })
    (walk : LawWalkS C.prog f fn) (os : Os) (started : os.Started) (H : Type) (enc : TypeId × Value → H)
    (witness : ∃ (w : World) (tape : Tape) (i : Input), w.os = os ∧ (w.forCall tape i).Shaped C.prog ∧ i.vars = [] ∧ Input.okWide C.prog (w.forCall tape i) .any w.heap.size f i ∧
      s.pre6 enc C.prog fn [] false (w.forCall tape i).memory i.args ∧ Assume.holds {} C.prog (lone (Frame.enter C.prog f i.args .normal) [] (w.forCall tape i))) :
    ReturnsInHanded {} C os f .any (s.pre6 enc C.prog fn [] false) (s.post enc C.prog fn false true false false) := by
  refine returnsInHanded_of_change_sized own started noInit hfn witness ?_
  intro W base args ds gs before hval hW hcnd hsz _
  have hW' := hW
  obtain ⟨p, q, hA, hV, rfl, hfz, hnd⟩ := hW
  have hty : s.plain.varTypes C.prog = [] := by simp [ChangeSpec.plain, hv, DataSpec.varTypes]
  rw [hv] at hV
  obtain ⟨rfl, rfl⟩ := trodVars_none hV
  rw [hty, List.append_nil, List.append_nil] at hsz
  have hlt := DataW.TrodAll.lt hA
  have hlen : ds.length = fn.params.size := by have := trodAll_len _ _ _ _ hA; simpa using this
  have hfnc := hs H ds hlen
  refine (walk H enc W base args ds p hval hA hsz).mono fun e W' ⟨he, bel⟩ => ?_
  subst he
  refine ⟨_, rfl, ds, [], p ++ [], [], p, [], hW', ?_, ?_, ?_, bel.frame _, fun h => by cases h⟩
  · rw [hres, List.append_nil, hfnc]
    exact trodAll_mk1 (shut_bool hb _)
  · rw [List.append_nil, hfnc]
    exact trodAll_stays laidOut bel _ _ _ _ hread hA hlt
  · rw [hv, List.append_nil, hfnc]
    rfl

section
variable {H : Type} {enc : TypeId × Value → H} {P : Program} {w : World} {base : Nat} {spare : Nat → Bool} {held : Bool}
theorem agg_rdX {α : Type} {cf : α → List Value} {ok : α → Prop} {t e : TypeId} {size : Nat} {n0 : Nat} {v : Value} {y0 : DataW H × List MemPlace} (ht : P.underlying t = some (.slice e)) (hC : P.cellsOf e = size) (h0 : 0 < size) (hcl : ∀ x, (cf x).length = size)
    (hel : ∀ (n : Nat) (l : List Value) (y : DataW H × List MemPlace), l.length = size → DataW.trod enc P w base spare held n e l = some y → ∃ x : α, l = cf x ∧ ok x)
    (h : DataW.trod enc P w base spare held n0 t [v] = some y0) : ∃ (A : Option Addr) (l : List α) (cap : Nat), v = .slice A l.length cap ∧ l.length ≤ cap ∧ cap ≤ maxLen ∧ RdX cf w A l ∧ ∀ x ∈ l, ok x := by
  have hf := h
  rcases open_slice ht hf with ⟨hcs, _⟩ | ⟨a, len, cap, m, n, D, Pl, hcs, _, hlc, hm, hmm, _, hi⟩
  · simp at hcs
    subst hcs
    exact ⟨none, [], 0, rfl, Nat.le_refl _, Nat.zero_le _, rdX_nil, fun x hx => by cases hx⟩
  · simp at hcs
    subst hcs
    have hlm : len ≤ m := by rw [hmm]; split <;> omega
    obtain ⟨xs, hxl, hx⟩ := list_of (p := fun i (x : α) => ok x ∧ ∀ j u, (cf x)[j]? = some u → w.cell? (a.add (i * size + j)) = some u) len (fun i hi1 => by
      obtain ⟨cs', hc, ht'⟩ := hi i (by omega)
      obtain ⟨_, hcl', hat⟩ := World.cells?_some hc
      rw [hC] at hcl' hat
      obtain ⟨x, rfl, hok⟩ := hel _ _ _ hcl' ht'
      refine ⟨x, hok, fun j u hu => ?_⟩
      have hj : j < size := by have := (List.getElem?_eq_some_iff.1 hu).1; omega
      rw [← Go.Deep.add_add]
      exact (hat j hj).trans hu)
    subst hxl
    refine ⟨some a, xs, cap, rfl, hlc, hm, fun hl0 => ?_, fun x hx1 => ?_⟩
    · have h00 : ∃ u, w.cell? (a.add 0) = some u := by
        have hx0 := hx 0 (xs[0]'hl0) (List.getElem?_eq_getElem hl0)
        have h1 : (cf (xs[0]'hl0))[0]? = some ((cf (xs[0]'hl0))[0]'(by rw [hcl]; exact h0)) := List.getElem?_eq_getElem _
        exact ⟨_, by simpa using hx0.2 0 _ h1⟩
      obtain ⟨u0, hu0⟩ := h00
      have hadd0 : a.add 0 = a := by unfold Addr.add; simp
      rw [hadd0] at hu0
      have hs : a.spot = none := by
        unfold World.cell? at hu0
        split at hu0
        · split at hu0
          · cases hu0
          · rename_i h1; simpa using h1
        · cases hu0
      obtain ⟨b, off, sp⟩ := a
      simp at hs
      subst hs
      refine ⟨b, off, rfl, World.block_lt_of_cell? w _ hu0, fun j u hu => ?_⟩
      have key : ∀ (l : List α) (j : Nat) (u : Value), (l.flatMap cf)[j]? = some u → ∃ i x k, l[i]? = some x ∧ (cf x)[k]? = some u ∧ j = i * size + k := by
        intro l
        induction l with
        | nil => intro j u h; simp at h
        | cons y ys ih =>
          intro j u h
          rw [List.flatMap_cons] at h
          rcases Nat.lt_or_ge j (cf y).length with h1 | h1
          · rw [List.getElem?_append_left h1] at h
            exact ⟨0, y, j, rfl, h, by simp⟩
          · rw [List.getElem?_append_right h1] at h
            obtain ⟨i, x, k, h2, h3, h4⟩ := ih _ _ h
            refine ⟨i + 1, x, k, by simpa using h2, h3, ?_⟩
            rw [hcl] at h1 h4
            rw [Nat.succ_mul]; omega
      obtain ⟨i, x, k, h2, h3, rfl⟩ := key xs j u hu
      have := (hx i x h2).2 k u h3
      rw [Addr.add_mid] at this
      exact this
    · obtain ⟨i, hi1⟩ := List.mem_iff_getElem?.1 hx1
      exact (hx i x hi1).1
end
end Go.Proofs.YtmmcamkmglpgiaaGreatDoor

namespace Go.Proofs.YtmmcamkmglpgiaaGreatDoor
set_option linter.all false
open Go.ChangeShapes Go.WideShapes Go.ChangeAt Go.RowKit Go.Deep

section
variable {H : Type} {enc : TypeId × Value → H} {P : Program} {w : World} {base : Nat} {spare : Nat → Bool} {held : Bool} {R : Nat}
/-- Cells read as data, each slice of which is light. -/
def TrodW (enc : TypeId × Value → H) (P : Program) (w : World) (base : Nat) (spare : Nat → Bool) (held : Bool) (R n : Nat) (t : TypeId) (l : List Value) : Prop :=
  ∃ y, DataW.trod enc P w base spare held n t l = some y ∧ ∀ k ∈ y.1.weights P t, k ≤ R
theorem wAll_mem {e : TypeId} : ∀ {ds : List (DataW H)} {d : DataW H}, d ∈ ds → ∀ n ∈ d.weights P e, n ∈ DataW.weightsAll P e ds
  | [], _, h, _, _ => by cases h
  | x :: r, d, h, n, hn => by
    simp only [DataW.weightsAll, List.mem_append]
    rcases List.mem_cons.1 h with rfl | h
    · exact .inl hn
    · exact .inr (wAll_mem h n hn)
def FieldsW (enc : TypeId × Value → H) (P : Program) (w : World) (base : Nat) (spare : Nat → Bool) (held : Bool) (R n : Nat) (fs : Array Field) (l : List Value) : Prop :=
  ∀ (j : Nat) (f : Field), fs[j]? = some f → TrodW enc P w base spare held R n f.type ((l.drop f.offset).take (P.cellsOf f.type))
theorem TrodW.fields {n : Nat} {t : TypeId} {fs : Array Field} {l : List Value} (hs : P.underlying t = some (.struct fs)) (h : TrodW enc P w base spare held R n t l) : ∃ n', FieldsW enc P w base spare held R n' fs l := by
  obtain ⟨y, h, hW⟩ := h
  obtain ⟨ys, n', _, hx, _, hyl, hg⟩ := DataW.trod_struct hs h
  refine ⟨n', fun j f hj => ?_⟩
  have hjl : j < fs.size := (Array.getElem?_eq_some_iff.1 hj).1
  have hjy : j < ys.length := by omega
  refine ⟨ys[j], (hg j f hj).trans (List.getElem?_eq_getElem hjy), fun q hq => hW q ?_⟩
  subst hx
  simp only [DataW.weights, hs]
  exact DataW.weights_mem_each (j := j) (t := f.type) (d := (ys[j]).1) (by simp [hj]) (by simp [hjy]) q hq
theorem FieldsW.at_ {n : Nat} {fs : Array Field} {l l' : List Value} (h : FieldsW enc P w base spare held R n fs l) (j : Nat) (T : TypeId) (off k : Nat) (f : Field) (hj : fs[j]? = some f) (hT : f.type = T) (ho : f.offset = off) (hk : P.cellsOf T = k) (hl : (l.drop off).take k = l') : TrodW enc P w base spare held R n T l' := by
  have hy := h j f hj
  rw [hT, ho, hk, hl] at hy
  exact hy
theorem TrodW.int {k : IntKind} {n : Nat} {t : TypeId} {c : Value} (ht : P.underlying t = some (.int k)) (h : TrodW enc P w base spare held R n t [c]) : ∃ a, c = .int k a ∧ (Lit.int k a).wf = true := by
  obtain ⟨y, h, _⟩ := h
  exact agg_int ht h
theorem TrodW.bool {n : Nat} {t : TypeId} {c : Value} (ht : P.underlying t = some .bool) (h : TrodW enc P w base spare held R n t [c]) : ∃ b : Bool, c = .bool b := by
  obtain ⟨y, h, _⟩ := h
  exact agg_boolP ht h
theorem TrodW.str {n : Nat} {t : TypeId} {c : Value} (ht : P.underlying t = some .string) (h : TrodW enc P w base spare held R n t [c]) : ∃ s : ByteArray, c = .string s ∧ s.size ≤ maxLen ∧ s.size ≤ R := by
  obtain ⟨y, h, hW⟩ := h
  obtain ⟨s, h1, h2, h3⟩ := DataW.trod_string ht h
  refine ⟨s, by simpa using h1, h3, ?_⟩
  subst h2
  have := hW s.data.toList.length (by simp [DataW.weights])
  have e : s.data.toList.length = s.size := by rw [Array.length_toList]; rfl
  rw [e] at this
  exact this
theorem TrodW.arr {n m : Nat} {t e : TypeId} {l : List Value} (ht : P.underlying t = some (.array m e)) (h : TrodW enc P w base spare held R n t l) : ∃ n', ∀ i, i < m → TrodW enc P w base spare held R n' e ((l.drop (i * P.cellsOf e)).take (P.cellsOf e)) := by
  obtain ⟨y, h, hW⟩ := h
  obtain ⟨xs, n', _, hx, _, hxl, hg⟩ := DataW.trod_array ht h
  refine ⟨n', fun i hi => ?_⟩
  have hil : i < xs.length := by omega
  refine ⟨xs[i], (hg i hi).trans (List.getElem?_eq_getElem hil), fun q hq => hW q ?_⟩
  subst hx
  simp only [DataW.weights, ht]
  exact wAll_mem (List.mem_map.2 ⟨xs[i], List.getElem_mem hil, rfl⟩) q hq
theorem TrodW.slice {α : Type} {cf : α → List Value} {ok : α → Prop} {t e : TypeId} {size : Nat} {n0 : Nat} {v : Value} (ht : P.underlying t = some (.slice e)) (hC : P.cellsOf e = size) (h0 : 0 < size) (hcl : ∀ x, (cf x).length = size)
    (hel : ∀ (n : Nat) (l : List Value), l.length = size → TrodW enc P w base spare held R n e l → ∃ x : α, l = cf x ∧ ok x)
    (h : TrodW enc P w base spare held R n0 t [v]) : ∃ (A : Option Addr) (l : List α) (cap : Nat), v = .slice A l.length cap ∧ l.length ≤ cap ∧ cap ≤ maxLen ∧ RdX cf w A l ∧ (∀ x ∈ l, ok x) ∧ l.length * P.bytesOf e ≤ R := by
  obtain ⟨y0, h, hW⟩ := h
  rcases open_slice ht h with ⟨hcs, _⟩ | ⟨a, len, cap, m, n, D, Pl, hcs, _, hlc, hm, hmm, hx, hi⟩
  · simp at hcs
    subst hcs
    exact ⟨none, [], 0, rfl, Nat.le_refl _, Nat.zero_le _, rdX_nil, (fun x hx => by cases hx), by simp⟩
  · simp at hcs
    subst hcs
    have hlm : len ≤ m := by rw [hmm]; split <;> omega
    subst hx
    have hlw : len * P.bytesOf e ≤ R := by
      have h1 := hW (((List.range len).map D).length * P.bytesOf e + ((List.range (m - len)).map fun j => D (len + j)).length * P.bytesOf e) (by
        simp only [DataW.weights, ht]
        rw [← Nat.add_mul]
        exact List.mem_cons_self)
      simp only [List.length_map, List.length_range] at h1
      exact Nat.le_trans (Nat.le_add_right _ _) h1
    obtain ⟨xs, hxl, hx⟩ := list_of (p := fun i (x : α) => ok x ∧ ∀ j u, (cf x)[j]? = some u → w.cell? (a.add (i * size + j)) = some u) len (fun i hi1 => by
      obtain ⟨cs', hc, ht'⟩ := hi i (by omega)
      obtain ⟨_, hcl', hat⟩ := World.cells?_some hc
      rw [hC] at hcl' hat
      obtain ⟨x, rfl, hok⟩ := hel _ _ hcl' ⟨_, ht', fun k hk => hW k (by
        simp only [DataW.weights, ht, List.mem_cons, List.mem_append]
        exact .inr (.inl (wAll_mem (List.mem_map.2 ⟨i, List.mem_range.2 hi1, rfl⟩) k hk)))⟩
      refine ⟨x, hok, fun j u hu => ?_⟩
      have hj : j < size := by have := (List.getElem?_eq_some_iff.1 hu).1; omega
      rw [← Go.Deep.add_add]
      exact (hat j hj).trans hu)
    subst hxl
    refine ⟨some a, xs, cap, rfl, hlc, hm, fun hl0 => ?_, fun x hx1 => ?_, hlw⟩
    · have h00 : ∃ u, w.cell? (a.add 0) = some u := by
        have hx0 := hx 0 (xs[0]'hl0) (List.getElem?_eq_getElem hl0)
        have h1 : (cf (xs[0]'hl0))[0]? = some ((cf (xs[0]'hl0))[0]'(by rw [hcl]; exact h0)) := List.getElem?_eq_getElem _
        exact ⟨_, by simpa using hx0.2 0 _ h1⟩
      obtain ⟨u0, hu0⟩ := h00
      have hadd0 : a.add 0 = a := by unfold Addr.add; simp
      rw [hadd0] at hu0
      have hs : a.spot = none := by
        unfold World.cell? at hu0
        split at hu0
        · split at hu0
          · cases hu0
          · rename_i h1; simpa using h1
        · cases hu0
      obtain ⟨b, off, sp⟩ := a
      simp at hs
      subst hs
      refine ⟨b, off, rfl, World.block_lt_of_cell? w _ hu0, fun j u hu => ?_⟩
      have key : ∀ (l : List α) (j : Nat) (u : Value), (l.flatMap cf)[j]? = some u → ∃ i x k, l[i]? = some x ∧ (cf x)[k]? = some u ∧ j = i * size + k := by
        intro l
        induction l with
        | nil => intro j u h; simp at h
        | cons y ys ih =>
          intro j u h
          rw [List.flatMap_cons] at h
          rcases Nat.lt_or_ge j (cf y).length with h1 | h1
          · rw [List.getElem?_append_left h1] at h
            exact ⟨0, y, j, rfl, h, by simp⟩
          · rw [List.getElem?_append_right h1] at h
            obtain ⟨i, x, k, h2, h3, h4⟩ := ih _ _ h
            refine ⟨i + 1, x, k, by simpa using h2, h3, ?_⟩
            rw [hcl] at h1 h4
            rw [Nat.succ_mul]; omega
      obtain ⟨i, x, k, h2, h3, rfl⟩ := key xs j u hu
      have := (hx i x h2).2 k u h3
      rw [Addr.add_mid] at this
      exact this
    · obtain ⟨i, hi1⟩ := List.mem_iff_getElem?.1 hx1
      exact (hx i x hi1).1
/-- A struct that is handed in. -/
theorem open_structW {r : Reach} {b0 : Nat} {t : TypeId} {fs : Array Field} {v : Value} {d : DataW H} {p : List MemPlace} {k : Nat} (hs : P.underlying t = some (.struct fs)) (hC : P.cellsOf t = k) (hW : ∀ q ∈ d.weights P t, q ≤ R)
    (hv : Value.okWide P w r b0 t v) (h : DataW.Trod enc P w base spare held t v d p) : ∃ (l : List Value) (n : Nat), v = .agg l.toArray ∧ l.length = k ∧ TrodW enc P w base spare held R n t l := by
  obtain ⟨cs, rfl, hsz⟩ := okWide_struct hs hv
  obtain ⟨l⟩ := cs
  obtain ⟨fuel, hf⟩ := h
  have hcs : (Value.agg ⟨l⟩).cells.toList = l := by simp [Value.cells]
  rw [hcs] at hf
  exact ⟨l, fuel, rfl, by simpa using hsz.trans hC, ⟨_, hf, hW⟩⟩
end
end Go.Proofs.YtmmcamkmglpgiaaGreatDoor

namespace Go.Proofs.YtmmcamkmglpgiaaGreatDoor
set_option linter.all false
set_option maxRecDepth 100000
open Go.RowKit
/-- An operation, a program as it lies in memory. -/
structure OP9 where
  k : Int
  a : Int
  b : Int
  t : ByteArray
def cOP (x : OP9) : List Value := [.int .i64 x.k, .int .i64 x.a, .int .i64 x.b, .string x.t]
def OP9.sc (x : OP9) : List SC := [.v (.int .i64 x.k), .v (.int .i64 x.a), .v (.int .i64 x.b), .v (.string x.t)]
structure PG where
  n : ByteArray
  A : Option Addr
  c : Nat
  ops : List OP9
def cPG (x : PG) : List Value := [.string x.n, .slice x.A x.ops.length x.c]
def PG.sc (x : PG) : List SC := [.v (.string x.n), .v (.slice x.A x.ops.length x.c)]
def PG.m (x : PG) : ByteArray × List OP9 := (x.n, x.ops)
theorem cOP_len (x : OP9) : (cOP x).length = 4 := rfl
theorem cPG_len (x : PG) : (cPG x).length = 2 := rfl
theorem cOP_one (x : OP9) : ∀ u ∈ cOP x, u.oneCell' = true := by
  intro u hu
  simp only [cOP, List.mem_cons, List.not_mem_nil, or_false] at hu
  rcases hu with rfl | rfl | rfl | rfl <;> rfl
theorem cPG_one (x : PG) : ∀ u ∈ cPG x, u.oneCell' = true := by
  intro u hu
  simp only [cPG, List.mem_cons, List.not_mem_nil, or_false] at hu
  rcases hu with rfl | rfl <;> rfl
def PgOk (w : World) (x : PG) : Prop := RdX cOP w x.A x.ops ∧ x.ops.length ≤ x.c ∧ x.c ≤ maxLen
theorem PgOk.only {w w' : World} {x : PG} (h : PgOk w x) (O : Only [] w w') : PgOk w' x := ⟨h.1.only O, h.2⟩
/-- Programs in memory. -/
structure Pgs (w : World) (A : Option Addr) (c : Nat) (l : List PG) : Prop where
  rd : RdX cPG w A l
  le : l.length ≤ c
  max : c ≤ maxLen
  all : ∀ x ∈ l, PgOk w x
theorem Pgs.only {w w' : World} {A : Option Addr} {c : Nat} {l : List PG} (h : Pgs w A c l) (O : Only [] w w') : Pgs w' A c l := ⟨h.rd.only O, h.le, h.max, fun x hx => (h.all x hx).only O⟩
structure PgFew (l : List PG) : Prop where
  len : l.length ≤ 3518437208875
  ops : ∀ x ∈ l, x.ops.length ≤ 3518437208875
abbrev PX := Option Addr × Nat × List PG
def PgsP (ps : List PG) (z : PX) (w : World) : Prop := Pgs w z.1 z.2.1 z.2.2 ∧ z.2.2.map PG.m = ps.map PG.m
theorem PgsP.len {ps : List PG} {z : PX} {w : World} (h : PgsP ps z w) : z.2.2.length = ps.length := by simpa using congrArg List.length h.2
/-- Programs in new memory. -/
abbrev PgPost (ps : List PG) (w : World) : Ending → World → Prop := NewX w (fun z : PX => .slice z.1 ps.length z.2.1) (PgsP ps)
theorem Nx.pgs {ps : List PG} {w w1 w' : World} {L1 β : List Nat} {hp : List HB} {D1 : World → Prop} {A : Option Addr} {c : Nat} {outs : List PG} (C : Nx w w1 L1 D1) (H : Mem w1 L1 β hp w') (q : ∀ w, D1 w → PgsP ps (A, c, outs) w) : PgPost ps w (.returned (.slice A ps.length c)) w' :=
  ⟨(A, c, outs), rfl, C.only H, fun L hL => (C.fin H L fun x hx => .inl (hL x hx)).imp fun w h => q w h⟩
theorem elemLp : ElemT Tryz.prog 22 53 2 (Tryz.prog.bytesOf 53) := elemT_of (z := .agg #[.string ⟨#[]⟩, .slice none 0 0]) (by kernel_rfl) (by kernel_rfl) (by decide) (by decide)
theorem elemLp_by : Tryz.prog.bytesOf 53 = 40 := by kernel_rfl
theorem elemRo : ElemT Tryz.prog 49 52 4 (Tryz.prog.bytesOf 52) := elemT_of (z := .agg #[.int .i64 0, .int .i64 0, .int .i64 0, .string ⟨#[]⟩]) (by kernel_rfl) (by kernel_rfl) (by decide) (by decide)
theorem elemRo_by : Tryz.prog.bytesOf 52 = 40 := by kernel_rfl
theorem elemPo : ElemT Tryz.prog 31 36 4 (Tryz.prog.bytesOf 36) := elemT_of (z := .agg #[.int .i64 0, .int .i64 0, .int .i64 0, .string ⟨#[]⟩]) (by kernel_rfl) (by kernel_rfl) (by decide) (by decide)
theorem elemPo_by : Tryz.prog.bytesOf 36 = 40 := by kernel_rfl
theorem elemRp : ElemT Tryz.prog 25 51 2 (Tryz.prog.bytesOf 51) := elemT_of (z := .agg #[.string ⟨#[]⟩, .slice none 0 0]) (by kernel_rfl) (by kernel_rfl) (by decide) (by decide)
theorem elemRp_by : Tryz.prog.bytesOf 51 = 40 := by kernel_rfl
theorem elemPr : ElemT Tryz.prog 29 33 2 (Tryz.prog.bytesOf 33) := elemT_of (z := .agg #[.string ⟨#[]⟩, .slice none 0 0]) (by kernel_rfl) (by kernel_rfl) (by decide) (by decide)
theorem elemPr_by : Tryz.prog.bytesOf 33 = 40 := by kernel_rfl
set_option maxHeartbeats 4000000 in
theorem to19_any (ps : List PG) (A : Option Addr) (c : Nat) (w : World) (h : Pgs w A c ps) (hf : PgFew ps) : Calls Tryz.prog 10 #[.slice A ps.length c] w (PgPost ps w) := by
  have hlen : ps.length ≤ maxLen := Nat.le_trans h.le h.max
  have hps := hf.len
  have J : ∀ (d i : Nat), ps.length - i = d → i ≤ ps.length → ∀ (outs : List PG) (A4 : Option Addr) (c4 : Nat) (w1 : World) (L1 : List Nat), Nx w w1 L1 (fun w => ∀ z ∈ outs, PgOk w z) → outs.map PG.m = (ps.take i).map PG.m → outs.length = i → ∀ (u : Nat → Value), Hs Tryz.prog 10 (PgPost ps w) (Tryz.f10).ntmps w1 L1 [0] ⟨.no, loopAt Tryz.f10 0, pins [(3, .c (.v (.slice A4 i c4))), (9, .c (.v (.slice A ps.length c))), (10, .c (.v (.int .i64 ps.length))), (11, .c (.v (.int .i64 i)))] (.vals u), [.s A4 c4 i 33 2 (outs.flatMap cPG)]⟩ := by
    intro d
    induction d with
    | zero =>
      intro i hd hi outs A4 c4 w1 L1 N ho hol u
      obtain rfl : i = ps.length := by omega
      rw [List.take_length] at ho
      refine Hs.run0 300 (fun _ => by kernel_rfl) ?_
      refine Hs.condP ((ps.length : Int) < (ps.length : Int)) (by kernel_rfl) (fun h => by omega) (fun _ => ?_)
      refine Hs.runR0 13 [] 300 (fun _ => by kernel_rfl) ?_
      refine Hs.freezeN 0 (cf := cPG) (size := 2) (A := A4) (cap := c4) (nl := ps.length) (E := 33) N hol (by kernel_rfl) (by kernel_rfl) fun w3 L3 N3 => ?_
      refine Hs.run0 300 (fun _ => by kernel_rfl) ?_
      exact Hs.ret (v := .slice A4 ps.length c4) Tryz.func10 (by kernel_rfl) fun w' H => N3.pgs (outs := outs) H fun w h => ⟨⟨h.1.1, h.1.2.1, h.1.2.2, h.2⟩, ho⟩
    | succ d ih =>
      intro i hd hi outs A4 c4 w1 L1 N ho hol u
      have hil : i < ps.length := by omega
      obtain ⟨x, hx⟩ : ∃ x, ps[i]? = some x := ⟨_, List.getElem?_eq_getElem hil⟩
      have hxm : x ∈ ps := List.mem_of_getElem? hx
      have hxo := h.all x hxm
      have hxl := hf.ops x hxm
      obtain ⟨ab, aoff, hA, _, _⟩ := h.rd (by omega)
      have hih := fun outs A4 c4 w1 L1 N e1 e2 u => ih (i + 1) (by omega) (by omega) outs A4 c4 w1 L1 N e1 e2 u
      clear ih
      have hrd := h.rd
      rw [hA] at hih hrd ⊢
      have K : ∀ (e j : Nat), x.ops.length - j = e → j ≤ x.ops.length → ∀ (g0 g : Nat) (A5 : Option Addr) (c5 : Nat) (u : Nat → Value), Hs Tryz.prog 10 (PgPost ps w) (Tryz.f10).ntmps w1 L1 [0, g, 0] ⟨.no, loopAt Tryz.f10 1, pins [(3, .c (.v (.slice A4 i c4))), (6, .c (.p 1 0)), (9, .c (.v (.slice (some ⟨ab, aoff, none⟩) ps.length c))), (10, .c (.v (.int .i64 ps.length))), (11, .c (.v (.int .i64 i))), (19, .c (.v (.slice x.A x.ops.length x.c))), (20, .c (.v (.int .i64 x.ops.length))), (21, .c (.v (.int .i64 j)))] (.vals u), [.s A4 c4 i 33 2 (outs.flatMap cPG), .b true 33 [.v (.string x.n), .v (.slice A5 j c5)], .s A5 c5 j 36 4 ((x.ops.take j).flatMap cOP)]⟩ := by
        intro e
        induction e with
        | zero =>
          intro j he hj g0 g A5 c5 u
          obtain rfl : j = x.ops.length := by omega
          rw [List.take_length]
          refine Hs.run0 300 (fun _ => by kernel_rfl) ?_
          refine Hs.condP ((x.ops.length : Int) < (x.ops.length : Int)) (by kernel_rfl) (fun h => by omega) (fun _ => ?_)
          refine Hs.run1 300 (fun _ => by kernel_rfl) fun b3 => ?_
          refine Hs.app (cf := cPG) (c := 1) (ty := 29) 0 elemPr outs [(⟨x.n, A5, c5, x.ops⟩ : PG)] i 1 hol rfl cPG_one cPG_len (A := A4) (B := some ⟨b3, 0, none⟩) (cap := c4) (by kernel_rfl) (by kernel_rfl) (by kernel_rfl) (fun w' H => H.rdB (cf := cPG) (wr := true) (T := 33) (cs := PG.sc ⟨x.n, A5, c5, x.ops⟩) (gs := [(⟨x.n, A5, c5, x.ops⟩ : PG)]) 3 (by kernel_rfl) rfl) (by unfold maxLen; omega) (by rw [elemPr_by]; omega) fun A6 c6 h6 => ?_
          refine Hs.run0 300 (fun _ => by kernel_rfl) ?_
          refine Hs.freezeN 2 (cf := cOP) (size := 4) (A := A5) (cap := c5) (nl := x.ops.length) (E := 36) N rfl (by kernel_rfl) (by kernel_rfl) fun w3 L3 N3 => ?_
          refine Hs.slot 11 (.c (.v (.int .i64 (i + 1 : Nat)))) rfl ((by kernel_rfl : _ = Value.int .i64 (IntKind.i64.wrap ((i : Int) + 1))).trans (wrap_nextJ hlen)) ?_
          refine Hs.loop (by kernel_rfl) ?_
          exact Hs.goto (loopAt Tryz.f10 0) [0] [.s A6 c6 (i + 1) 33 2 ((outs ++ [(⟨x.n, A5, c5, x.ops⟩ : PG)]).flatMap cPG)] [(3, .c (.v (.slice A6 (i + 1) c6))), (9, .c (.v (.slice (some ⟨ab, aoff, none⟩) ps.length c))), (10, .c (.v (.int .i64 ps.length))), (11, .c (.v (.int .i64 (i + 1 : Nat))))] (by kernel_rfl) (by decide) (by kernel_rfl) (by kernel_rfl) (fun _ => (by kernel_rfl)) (fun u => hih (outs ++ [(⟨x.n, A5, c5, x.ops⟩ : PG)]) A6 c6 w3 L3 (N3.imp fun w h => fun y hy => by
            rcases List.mem_append.1 hy with h1 | h1
            · exact h.2 y h1
            · rw [List.mem_singleton.1 h1]; exact h.1) (by rw [List.map_append, ho, List.take_add_one, hx, List.map_append]; rfl) (by rw [List.length_append, hol]; rfl) u)
        | succ e ihk =>
          intro j he hj g0 g A5 c5 u
          have hjl : j < x.ops.length := by omega
          obtain ⟨y, hy⟩ : ∃ y, x.ops[j]? = some y := ⟨_, List.getElem?_eq_getElem hjl⟩
          have htj : (x.ops.take j).length = j := by rw [List.length_take]; omega
          obtain ⟨ob, ooff, hO, _, _⟩ := hxo.1 (by omega)
          have hihk := fun g0 g A5 c5 u => ihk (j + 1) (by omega) (by omega) g0 g A5 c5 u
          clear ihk
          have hor := hxo.1
          rw [hO] at hihk hor ⊢
          refine Hs.run0 300 (fun _ => by kernel_rfl) ?_
          refine Hs.condP ((j : Int) < (x.ops.length : Int)) (by kernel_rfl) (fun _ => ?_) (fun h => by omega)
          refine Hs.run0 300 (fun _ => by kernel_rfl) ?_
          refine Hs.idx (b := ob) (off := ooff) (len := x.ops.length) (c := x.c) (i := j) elemRo hjl (by kernel_rfl) ?_
          refine Hs.ldx (cf := cOP) (size := 4) (E := 52) (b := ob) (off := ooff) (i := j) (l := x.ops) (x := y) cOP_len (.g y.sc) (by kernel_rfl) (fun w' H => hor.only (N.only H)) hy (by kernel_rfl) (by kernel_rfl) rfl (by kernel_rfl) ?_
          refine Hs.run2 300 (fun _ => by kernel_rfl) fun b4 b5 => ?_
          refine Hs.app (cf := cOP) (c := 1) (ty := 31) 2 elemPo (x.ops.take j) [y] j 1 htj rfl cOP_one cOP_len (A := A5) (B := some ⟨b5, 0, none⟩) (cap := c5) (by kernel_rfl) (by kernel_rfl) (by kernel_rfl) (fun w' H => H.rdB (cf := cOP) (wr := true) (T := 36) (cs := y.sc) (gs := [y]) 4 (by kernel_rfl) rfl) (by unfold maxLen; omega) (by rw [elemPo_by]; omega) fun A6 c6 h6 => ?_
          refine Hs.run0 300 (fun _ => by kernel_rfl) ?_
          refine Hs.slot 21 (.c (.v (.int .i64 (j + 1 : Nat)))) rfl ((by kernel_rfl : _ = Value.int .i64 (IntKind.i64.wrap ((j : Int) + 1))).trans (wrap_nextJ (Nat.le_trans hxo.2.1 hxo.2.2))) ?_
          refine Hs.loop (by kernel_rfl) ?_
          have e1 : x.ops.take j ++ [y] = x.ops.take (j + 1) := by rw [List.take_add_one, hy]; rfl
          rw [e1]
          exact Hs.goto (loopAt Tryz.f10 1) [0, 1, 2] [.s A4 c4 i 33 2 (outs.flatMap cPG), .b true 33 [.v (.string x.n), .v (.slice A6 (j + 1) c6)], .s A6 c6 (j + 1) 36 4 ((x.ops.take (j + 1)).flatMap cOP)] [(3, .c (.v (.slice A4 i c4))), (6, .c (.p 1 0)), (9, .c (.v (.slice (some ⟨ab, aoff, none⟩) ps.length c))), (10, .c (.v (.int .i64 ps.length))), (11, .c (.v (.int .i64 i))), (19, .c (.v (.slice (some ⟨ob, ooff, none⟩) x.ops.length x.c))), (20, .c (.v (.int .i64 x.ops.length))), (21, .c (.v (.int .i64 (j + 1 : Nat))))] (by kernel_rfl) (by decide) (by kernel_rfl) (by kernel_rfl) (fun _ => (by kernel_rfl)) (fun u => hihk g0 g A6 c6 u)
      refine Hs.run0 300 (fun _ => by kernel_rfl) ?_
      refine Hs.condP ((i : Int) < (ps.length : Int)) (by kernel_rfl) (fun _ => ?_) (fun h => by omega)
      refine Hs.run0 300 (fun _ => by kernel_rfl) ?_
      refine Hs.idx (b := ab) (off := aoff) (len := ps.length) (c := c) (i := i) elemLp hil (by kernel_rfl) ?_
      refine Hs.ldx (cf := cPG) (size := 2) (E := 53) (b := ab) (off := aoff) (i := i) (l := ps) (x := x) cPG_len (.g x.sc) (by kernel_rfl) (fun w' H => hrd.only (N.only H)) hx (by kernel_rfl) (by kernel_rfl) rfl (by kernel_rfl) ?_
      refine Hs.run2 300 (fun _ => by kernel_rfl) fun b1 b2 => ?_
      refine Hs.nilS 36 4 (by kernel_rfl) ?_ (by kernel_rfl)
      refine Hs.loop (by kernel_rfl) ?_
      exact Hs.goto (loopAt Tryz.f10 1) [0, 2, 3] [.s A4 c4 i 33 2 (outs.flatMap cPG), .b true 33 [.v (.string x.n), .v (.slice none 0 0)], .s none 0 0 36 4 ((x.ops.take 0).flatMap cOP)] [(3, .c (.v (.slice A4 i c4))), (6, .c (.p 1 0)), (9, .c (.v (.slice (some ⟨ab, aoff, none⟩) ps.length c))), (10, .c (.v (.int .i64 ps.length))), (11, .c (.v (.int .i64 i))), (19, .c (.v (.slice x.A x.ops.length x.c))), (20, .c (.v (.int .i64 x.ops.length))), (21, .c (.v (.int .i64 (0 : Nat))))] (by kernel_rfl) (by decide) (by kernel_rfl) (by kernel_rfl) (fun _ => (by kernel_rfl)) (fun u => K x.ops.length 0 (by omega) (by omega) 0 b2 none 0 u)
  refine Hs.enter Tryz.func10 [] [] [] [.c (.v (.slice A ps.length c))] (Mem.start0 w) (by kernel_rfl) (by kernel_rfl) ?_
  refine Hs.run0 300 (fun _ => by kernel_rfl) ?_
  refine Hs.nilS 33 2 (by kernel_rfl) ?_ (by kernel_rfl)
  refine Hs.loop (by kernel_rfl) ?_
  exact Hs.goto (loopAt Tryz.f10 0) [0] [.s none 0 0 33 2 (([] : List PG).flatMap cPG)] [(3, .c (.v (.slice none 0 0))), (9, .c (.v (.slice A ps.length c))), (10, .c (.v (.int .i64 ps.length))), (11, .c (.v (.int .i64 (0 : Nat))))] (by kernel_rfl) (by decide) (by kernel_rfl) (by kernel_rfl) (fun _ => (by kernel_rfl)) (fun u => J ps.length 0 (by omega) (by omega) [] none 0 w [] ((Nx.start w).imp fun w h => fun y hy => by cases hy) rfl rfl u)
set_option maxHeartbeats 4000000 in
theorem ref19_any (ps : List PG) (A : Option Addr) (c : Nat) (w : World) (h : Pgs w A c ps) (hf : PgFew ps) : Calls Tryz.prog 8 #[.slice A ps.length c] w (PgPost ps w) := by
  have hlen : ps.length ≤ maxLen := Nat.le_trans h.le h.max
  have hps := hf.len
  have J : ∀ (d i : Nat), ps.length - i = d → i ≤ ps.length → ∀ (outs : List PG) (A4 : Option Addr) (c4 : Nat) (w1 : World) (L1 : List Nat), Nx w w1 L1 (fun w => ∀ z ∈ outs, PgOk w z) → outs.map PG.m = (ps.take i).map PG.m → outs.length = i → ∀ (u : Nat → Value), Hs Tryz.prog 8 (PgPost ps w) (Tryz.f8).ntmps w1 L1 [0] ⟨.no, loopAt Tryz.f8 0, pins [(3, .c (.v (.slice A4 i c4))), (6, .c (.v (.slice A ps.length c))), (7, .c (.v (.int .i64 ps.length))), (8, .c (.v (.int .i64 i)))] (.vals u), [.s A4 c4 i 51 2 (outs.flatMap cPG)]⟩ := by
    intro d
    induction d with
    | zero =>
      intro i hd hi outs A4 c4 w1 L1 N ho hol u
      obtain rfl : i = ps.length := by omega
      rw [List.take_length] at ho
      refine Hs.run0 300 (fun _ => by kernel_rfl) ?_
      refine Hs.condP ((ps.length : Int) < (ps.length : Int)) (by kernel_rfl) (fun h => by omega) (fun _ => ?_)
      refine Hs.runR0 7 [] 300 (fun _ => by kernel_rfl) ?_
      refine Hs.freezeN 0 (cf := cPG) (size := 2) (A := A4) (cap := c4) (nl := ps.length) (E := 51) N hol (by kernel_rfl) (by kernel_rfl) fun w3 L3 N3 => ?_
      refine Hs.run0 300 (fun _ => by kernel_rfl) ?_
      exact Hs.ret (v := .slice A4 ps.length c4) Tryz.func8 (by kernel_rfl) fun w' H => N3.pgs (outs := outs) H fun w h => ⟨⟨h.1.1, h.1.2.1, h.1.2.2, h.2⟩, ho⟩
    | succ d ih =>
      intro i hd hi outs A4 c4 w1 L1 N ho hol u
      have hil : i < ps.length := by omega
      obtain ⟨x, hx⟩ : ∃ x, ps[i]? = some x := ⟨_, List.getElem?_eq_getElem hil⟩
      have hxm : x ∈ ps := List.mem_of_getElem? hx
      have hxo := h.all x hxm
      have hxl := hf.ops x hxm
      obtain ⟨ab, aoff, hA, _, _⟩ := h.rd (by omega)
      have hih := fun outs A4 c4 w1 L1 N e1 e2 u => ih (i + 1) (by omega) (by omega) outs A4 c4 w1 L1 N e1 e2 u
      clear ih
      have hrd := h.rd
      rw [hA] at hih hrd ⊢
      refine Hs.run0 300 (fun _ => by kernel_rfl) ?_
      refine Hs.condP ((i : Int) < (ps.length : Int)) (by kernel_rfl) (fun _ => ?_) (fun h => by omega)
      refine Hs.run0 300 (fun _ => by kernel_rfl) ?_
      refine Hs.idx (b := ab) (off := aoff) (len := ps.length) (c := c) (i := i) elemLp hil (by kernel_rfl) ?_
      refine Hs.ldx (cf := cPG) (size := 2) (E := 53) (b := ab) (off := aoff) (i := i) (l := ps) (x := x) cPG_len (.g x.sc) (by kernel_rfl) (fun w' H => hrd.only (N.only H)) hx (by kernel_rfl) (by kernel_rfl) rfl (by kernel_rfl) ?_
      refine Hs.run1 300 (fun _ => by kernel_rfl) fun b1 => ?_
      refine Hs.any [1] (by kernel_rfl) ?_
      refine Hs.run1 300 (fun _ => by kernel_rfl) fun b2 => ?_
      refine Hs.litX (cf := cOP) (ty := 49) (c := x.c) 2 elemRo x.ops x.ops.length rfl cOP_one cOP_len (by kernel_rfl) (by kernel_rfl) (by kernel_rfl) (fun w' H => hxo.1.only (N.only H)) (Nat.le_trans hxo.2.1 hxo.2.2) (by rw [elemRo_by]; omega) fun A5 c5 h5 h5' => ?_
      refine Hs.run1 300 (fun _ => by kernel_rfl) fun b3 => ?_
      refine Hs.app (cf := cPG) (c := 1) (ty := 25) 0 elemRp outs [(⟨x.n, A5, c5, x.ops⟩ : PG)] i 1 hol rfl cPG_one cPG_len (A := A4) (B := some ⟨b3, 0, none⟩) (cap := c4) (by kernel_rfl) (by kernel_rfl) (by kernel_rfl) (fun w' H => H.rdB (cf := cPG) (wr := true) (T := 51) (cs := PG.sc ⟨x.n, A5, c5, x.ops⟩) (gs := [(⟨x.n, A5, c5, x.ops⟩ : PG)]) 3 (by kernel_rfl) rfl) (by unfold maxLen; omega) (by rw [elemRp_by]; omega) fun A6 c6 h6 => ?_
      refine Hs.run0 300 (fun _ => by kernel_rfl) ?_
      refine Hs.freezeN 2 (cf := cOP) (size := 4) (A := A5) (cap := c5) (nl := x.ops.length) (E := 52) N rfl (by kernel_rfl) (by kernel_rfl) fun w3 L3 N3 => ?_
      refine Hs.slot 8 (.c (.v (.int .i64 (i + 1 : Nat)))) rfl ((by kernel_rfl : _ = Value.int .i64 (IntKind.i64.wrap ((i : Int) + 1))).trans (wrap_nextJ hlen)) ?_
      refine Hs.loop (by kernel_rfl) ?_
      exact Hs.goto (loopAt Tryz.f8 0) [0] [.s A6 c6 (i + 1) 51 2 ((outs ++ [(⟨x.n, A5, c5, x.ops⟩ : PG)]).flatMap cPG)] [(3, .c (.v (.slice A6 (i + 1) c6))), (6, .c (.v (.slice (some ⟨ab, aoff, none⟩) ps.length c))), (7, .c (.v (.int .i64 ps.length))), (8, .c (.v (.int .i64 (i + 1 : Nat))))] (by kernel_rfl) (by decide) (by kernel_rfl) (by kernel_rfl) (fun _ => (by kernel_rfl)) (fun u => hih (outs ++ [(⟨x.n, A5, c5, x.ops⟩ : PG)]) A6 c6 w3 L3 (N3.imp fun w h => fun y hy => by
        rcases List.mem_append.1 hy with h1 | h1
        · exact h.2 y h1
        · rw [List.mem_singleton.1 h1]; exact h.1) (by rw [List.map_append, ho, List.take_add_one, hx, List.map_append]; rfl) (by rw [List.length_append, hol]; rfl) u)
  refine Hs.enter Tryz.func8 [] [] [] [.c (.v (.slice A ps.length c))] (Mem.start0 w) (by kernel_rfl) (by kernel_rfl) ?_
  refine Hs.run0 300 (fun _ => by kernel_rfl) ?_
  refine Hs.nilS 51 2 (by kernel_rfl) ?_ (by kernel_rfl)
  refine Hs.loop (by kernel_rfl) ?_
  exact Hs.goto (loopAt Tryz.f8 0) [0] [.s none 0 0 51 2 (([] : List PG).flatMap cPG)] [(3, .c (.v (.slice none 0 0))), (6, .c (.v (.slice A ps.length c))), (7, .c (.v (.int .i64 ps.length))), (8, .c (.v (.int .i64 (0 : Nat))))] (by kernel_rfl) (by decide) (by kernel_rfl) (by kernel_rfl) (fun _ => (by kernel_rfl)) (fun u => J ps.length 0 (by omega) (by omega) [] none 0 w [] ((Nx.start w).imp fun w h => fun y hy => by cases hy) rfl rfl u)
end Go.Proofs.YtmmcamkmglpgiaaGreatDoor

namespace Go.Proofs.YtmmcamkmglpgiaaGreatDoor
set_option linter.all false
set_option maxRecDepth 100000
open Go.ChangeShapes Go.WideShapes Go.ChangeAt Go.RowKit Go.Deep
section
variable {H : Type} {enc : TypeId × Value → H} {w : World} {base : Nat} {spare : Nat → Bool} {held : Bool} {R : Nat}
def I64' (x : Int) : Prop := -9223372036854775808 ≤ x ∧ x ≤ 9223372036854775807
theorem wf_i64' {n : Int} (h : (Lit.int .i64 n).wf = true) : I64' n := by
  simp [Lit.wf, IntKind.min, IntKind.max, IntKind.bits, IntKind.signed] at h
  unfold I64'; omega
/-- An operation that is handed in. -/
structure OpIn (R : Nat) (x : OP9) : Prop where
  k : I64' x.k
  a : I64' x.a
  b : I64' x.b
  t : x.t.size ≤ maxLen ∧ x.t.size ≤ R
theorem op19_cells {n : Nat} {l : List Value} (hl : l.length = 4) (h : TrodW enc Tryz.prog w base spare held R n 52 l) : ∃ x : OP9, l = cOP x ∧ OpIn R x := by
  obtain ⟨n1, hf⟩ := h.fields Tryz.underlying52
  match l, hl with
  | [c0, c1, c2, c3], _ =>
  have g0 := hf.at_ 0 3 0 1 _ rfl rfl rfl (by kernel_rfl) rfl
  have g1 := hf.at_ 1 3 1 1 _ rfl rfl rfl (by kernel_rfl) rfl
  have g2 := hf.at_ 2 3 2 1 _ rfl rfl rfl (by kernel_rfl) rfl
  have g3 := hf.at_ 3 9 3 1 _ rfl rfl rfl (by kernel_rfl) rfl
  obtain ⟨k, rfl, u0⟩ := TrodW.int Tryz.underlying3 g0
  obtain ⟨a, rfl, u1⟩ := TrodW.int Tryz.underlying3 g1
  obtain ⟨b, rfl, u2⟩ := TrodW.int Tryz.underlying3 g2
  obtain ⟨t, rfl, t1, t2⟩ := TrodW.str Tryz.underlying9 g3
  exact ⟨⟨k, a, b, t⟩, rfl, wf_i64' u0, wf_i64' u1, wf_i64' u2, t1, t2⟩
theorem prog19_cells {n : Nat} {l : List Value} (hl : l.length = 2) (h : TrodW enc Tryz.prog w base spare held R n 53 l) : ∃ x : PG, l = cPG x ∧ (PgOk w x ∧ (x.n.size ≤ maxLen ∧ x.n.size ≤ R) ∧ (∀ o ∈ x.ops, OpIn R o) ∧ x.ops.length * 40 ≤ R) := by
  obtain ⟨n1, hf⟩ := h.fields Tryz.underlying53
  match l, hl with
  | [c0, c1], _ =>
  have g0 := hf.at_ 0 9 0 1 _ rfl rfl rfl (by kernel_rfl) rfl
  have g1 := hf.at_ 1 49 1 1 _ rfl rfl rfl (by kernel_rfl) rfl
  obtain ⟨a, rfl, a1, a2⟩ := TrodW.str Tryz.underlying9 g0
  obtain ⟨A, ops, cap, rfl, k1, k2, k3, k4, k5⟩ := g1.slice (cf := cOP) (ok := OpIn R) (size := 4) Tryz.underlying49 (by kernel_rfl) (by decide) cOP_len (fun n l hl h => op19_cells hl h)
  rw [elemRo_by] at k5
  exact ⟨⟨a, A, cap, ops⟩, rfl, ⟨k3, k1, k2⟩, ⟨a1, a2⟩, k4, k5⟩
/-- Programs that are handed in. -/
structure PgIn (w : World) (R : Nat) (A : Option Addr) (c : Nat) (l : List PG) : Prop where
  pgs : Pgs w A c l
  few : PgFew l
  names : ∀ x ∈ l, x.n.size ≤ maxLen ∧ x.n.size ≤ R
  ops : ∀ x ∈ l, ∀ o ∈ x.ops, OpIn R o
theorem open_progs (hR : R ≤ 140737488355000) {r : Reach} {b0 : Nat} {v : Value} {d : DataW H} {p : List MemPlace} (hW : ∀ q ∈ d.weights Tryz.prog 22, q ≤ R) (hv : Value.okWide Tryz.prog w r b0 22 v) (h : DataW.Trod enc Tryz.prog w base spare held 22 v d p) : ∃ (l : List PG) (A : Option Addr) (cap : Nat), v = .slice A l.length cap ∧ PgIn w R A cap l := by
  obtain ⟨a0, len, c0, rfl⟩ := okWide_slice Tryz.underlying22 hv
  obtain ⟨fuel, hf⟩ := h
  obtain ⟨A, l, cap, e, h1, h2, h3, h4, h5⟩ := TrodW.slice (R := R) (cf := cPG) (ok := fun x => PgOk w x ∧ (x.n.size ≤ maxLen ∧ x.n.size ≤ R) ∧ (∀ o ∈ x.ops, OpIn R o) ∧ x.ops.length * 40 ≤ R) (size := 2) Tryz.underlying22 (by kernel_rfl) (by decide) cPG_len (fun n l hl h => prog19_cells hl h) ⟨_, hf, hW⟩
  rw [elemLp_by] at h5
  exact ⟨l, A, cap, e, ⟨h3, h1, h2, fun x hx => (h4 x hx).1⟩, ⟨by omega, fun x hx => by have := (h4 x hx).2.2.2; omega⟩, fun x hx => (h4 x hx).2.1, fun x hx => (h4 x hx).2.2.1⟩
end
end Go.Proofs.YtmmcamkmglpgiaaGreatDoor

namespace Go.Proofs.YtmmcamkmglpgiaaGreatDoor
set_option linter.all false
set_option maxRecDepth 100000
open Go.RowKit
set_option maxHeartbeats 4000000 in
theorem from19_any (ps : List PG) (A : Option Addr) (c : Nat) (w : World) (h : Pgs w A c ps) (hf : PgFew ps) : Calls Tryz.prog 16 #[.slice A ps.length c] w (PgPost ps w) := by
  have hlen : ps.length ≤ maxLen := Nat.le_trans h.le h.max
  have hps := hf.len
  have J : ∀ (d i : Nat), ps.length - i = d → i ≤ ps.length → ∀ (outs : List PG) (A4 : Option Addr) (c4 : Nat) (w1 : World) (L1 : List Nat), Nx w w1 L1 (fun w => ∀ z ∈ outs, PgOk w z) → outs.map PG.m = (ps.take i).map PG.m → outs.length = i → ∀ (u : Nat → Value), Hs Tryz.prog 16 (PgPost ps w) (Tryz.f16).ntmps w1 L1 [0] ⟨.no, loopAt Tryz.f16 0, pins [(3, .c (.v (.slice A4 i c4))), (9, .c (.v (.slice A ps.length c))), (10, .c (.v (.int .i64 ps.length))), (11, .c (.v (.int .i64 i)))] (.vals u), [.s A4 c4 i 51 2 (outs.flatMap cPG)]⟩ := by
    intro d
    induction d with
    | zero =>
      intro i hd hi outs A4 c4 w1 L1 N ho hol u
      obtain rfl : i = ps.length := by omega
      rw [List.take_length] at ho
      refine Hs.run0 300 (fun _ => by kernel_rfl) ?_
      refine Hs.condP ((ps.length : Int) < (ps.length : Int)) (by kernel_rfl) (fun h => by omega) (fun _ => ?_)
      refine Hs.runR0 13 [] 300 (fun _ => by kernel_rfl) ?_
      refine Hs.freezeN 0 (cf := cPG) (size := 2) (A := A4) (cap := c4) (nl := ps.length) (E := 51) N hol (by kernel_rfl) (by kernel_rfl) fun w3 L3 N3 => ?_
      refine Hs.run0 300 (fun _ => by kernel_rfl) ?_
      exact Hs.ret (v := .slice A4 ps.length c4) Tryz.func16 (by kernel_rfl) fun w' H => N3.pgs (outs := outs) H fun w h => ⟨⟨h.1.1, h.1.2.1, h.1.2.2, h.2⟩, ho⟩
    | succ d ih =>
      intro i hd hi outs A4 c4 w1 L1 N ho hol u
      have hil : i < ps.length := by omega
      obtain ⟨x, hx⟩ : ∃ x, ps[i]? = some x := ⟨_, List.getElem?_eq_getElem hil⟩
      have hxm : x ∈ ps := List.mem_of_getElem? hx
      have hxo := h.all x hxm
      have hxl := hf.ops x hxm
      obtain ⟨ab, aoff, hA, _, _⟩ := h.rd (by omega)
      have hih := fun outs A4 c4 w1 L1 N e1 e2 u => ih (i + 1) (by omega) (by omega) outs A4 c4 w1 L1 N e1 e2 u
      clear ih
      have hrd := h.rd
      rw [hA] at hih hrd ⊢
      have K : ∀ (e j : Nat), x.ops.length - j = e → j ≤ x.ops.length → ∀ (g0 g : Nat) (A5 : Option Addr) (c5 : Nat) (u : Nat → Value), Hs Tryz.prog 16 (PgPost ps w) (Tryz.f16).ntmps w1 L1 [0, g, 0] ⟨.no, loopAt Tryz.f16 1, pins [(3, .c (.v (.slice A4 i c4))), (6, .c (.p 1 0)), (9, .c (.v (.slice (some ⟨ab, aoff, none⟩) ps.length c))), (10, .c (.v (.int .i64 ps.length))), (11, .c (.v (.int .i64 i))), (19, .c (.v (.slice x.A x.ops.length x.c))), (20, .c (.v (.int .i64 x.ops.length))), (21, .c (.v (.int .i64 j)))] (.vals u), [.s A4 c4 i 51 2 (outs.flatMap cPG), .b true 51 [.v (.string x.n), .v (.slice A5 j c5)], .s A5 c5 j 52 4 ((x.ops.take j).flatMap cOP)]⟩ := by
        intro e
        induction e with
        | zero =>
          intro j he hj g0 g A5 c5 u
          obtain rfl : j = x.ops.length := by omega
          rw [List.take_length]
          refine Hs.run0 300 (fun _ => by kernel_rfl) ?_
          refine Hs.condP ((x.ops.length : Int) < (x.ops.length : Int)) (by kernel_rfl) (fun h => by omega) (fun _ => ?_)
          refine Hs.run1 300 (fun _ => by kernel_rfl) fun b3 => ?_
          refine Hs.app (cf := cPG) (c := 1) (ty := 25) 0 elemRp outs [(⟨x.n, A5, c5, x.ops⟩ : PG)] i 1 hol rfl cPG_one cPG_len (A := A4) (B := some ⟨b3, 0, none⟩) (cap := c4) (by kernel_rfl) (by kernel_rfl) (by kernel_rfl) (fun w' H => H.rdB (cf := cPG) (wr := true) (T := 51) (cs := PG.sc ⟨x.n, A5, c5, x.ops⟩) (gs := [(⟨x.n, A5, c5, x.ops⟩ : PG)]) 3 (by kernel_rfl) rfl) (by unfold maxLen; omega) (by rw [elemRp_by]; omega) fun A6 c6 h6 => ?_
          refine Hs.run0 300 (fun _ => by kernel_rfl) ?_
          refine Hs.freezeN 2 (cf := cOP) (size := 4) (A := A5) (cap := c5) (nl := x.ops.length) (E := 52) N rfl (by kernel_rfl) (by kernel_rfl) fun w3 L3 N3 => ?_
          refine Hs.slot 11 (.c (.v (.int .i64 (i + 1 : Nat)))) rfl ((by kernel_rfl : _ = Value.int .i64 (IntKind.i64.wrap ((i : Int) + 1))).trans (wrap_nextJ hlen)) ?_
          refine Hs.loop (by kernel_rfl) ?_
          exact Hs.goto (loopAt Tryz.f16 0) [0] [.s A6 c6 (i + 1) 51 2 ((outs ++ [(⟨x.n, A5, c5, x.ops⟩ : PG)]).flatMap cPG)] [(3, .c (.v (.slice A6 (i + 1) c6))), (9, .c (.v (.slice (some ⟨ab, aoff, none⟩) ps.length c))), (10, .c (.v (.int .i64 ps.length))), (11, .c (.v (.int .i64 (i + 1 : Nat))))] (by kernel_rfl) (by decide) (by kernel_rfl) (by kernel_rfl) (fun _ => (by kernel_rfl)) (fun u => hih (outs ++ [(⟨x.n, A5, c5, x.ops⟩ : PG)]) A6 c6 w3 L3 (N3.imp fun w h => fun y hy => by
            rcases List.mem_append.1 hy with h1 | h1
            · exact h.2 y h1
            · rw [List.mem_singleton.1 h1]; exact h.1) (by rw [List.map_append, ho, List.take_add_one, hx, List.map_append]; rfl) (by rw [List.length_append, hol]; rfl) u)
        | succ e ihk =>
          intro j he hj g0 g A5 c5 u
          have hjl : j < x.ops.length := by omega
          obtain ⟨y, hy⟩ : ∃ y, x.ops[j]? = some y := ⟨_, List.getElem?_eq_getElem hjl⟩
          have htj : (x.ops.take j).length = j := by rw [List.length_take]; omega
          obtain ⟨ob, ooff, hO, _, _⟩ := hxo.1 (by omega)
          have hihk := fun g0 g A5 c5 u => ihk (j + 1) (by omega) (by omega) g0 g A5 c5 u
          clear ihk
          have hor := hxo.1
          rw [hO] at hihk hor ⊢
          refine Hs.run0 300 (fun _ => by kernel_rfl) ?_
          refine Hs.condP ((j : Int) < (x.ops.length : Int)) (by kernel_rfl) (fun _ => ?_) (fun h => by omega)
          refine Hs.run0 300 (fun _ => by kernel_rfl) ?_
          refine Hs.idx (b := ob) (off := ooff) (len := x.ops.length) (c := x.c) (i := j) elemPo hjl (by kernel_rfl) ?_
          refine Hs.ldx (cf := cOP) (size := 4) (E := 36) (b := ob) (off := ooff) (i := j) (l := x.ops) (x := y) cOP_len (.g y.sc) (by kernel_rfl) (fun w' H => hor.only (N.only H)) hy (by kernel_rfl) (by kernel_rfl) rfl (by kernel_rfl) ?_
          refine Hs.run2 300 (fun _ => by kernel_rfl) fun b4 b5 => ?_
          refine Hs.app (cf := cOP) (c := 1) (ty := 49) 2 elemRo (x.ops.take j) [y] j 1 htj rfl cOP_one cOP_len (A := A5) (B := some ⟨b5, 0, none⟩) (cap := c5) (by kernel_rfl) (by kernel_rfl) (by kernel_rfl) (fun w' H => H.rdB (cf := cOP) (wr := true) (T := 52) (cs := y.sc) (gs := [y]) 4 (by kernel_rfl) rfl) (by unfold maxLen; omega) (by rw [elemRo_by]; omega) fun A6 c6 h6 => ?_
          refine Hs.run0 300 (fun _ => by kernel_rfl) ?_
          refine Hs.slot 21 (.c (.v (.int .i64 (j + 1 : Nat)))) rfl ((by kernel_rfl : _ = Value.int .i64 (IntKind.i64.wrap ((j : Int) + 1))).trans (wrap_nextJ (Nat.le_trans hxo.2.1 hxo.2.2))) ?_
          refine Hs.loop (by kernel_rfl) ?_
          have e1 : x.ops.take j ++ [y] = x.ops.take (j + 1) := by rw [List.take_add_one, hy]; rfl
          rw [e1]
          exact Hs.goto (loopAt Tryz.f16 1) [0, 1, 2] [.s A4 c4 i 51 2 (outs.flatMap cPG), .b true 51 [.v (.string x.n), .v (.slice A6 (j + 1) c6)], .s A6 c6 (j + 1) 52 4 ((x.ops.take (j + 1)).flatMap cOP)] [(3, .c (.v (.slice A4 i c4))), (6, .c (.p 1 0)), (9, .c (.v (.slice (some ⟨ab, aoff, none⟩) ps.length c))), (10, .c (.v (.int .i64 ps.length))), (11, .c (.v (.int .i64 i))), (19, .c (.v (.slice (some ⟨ob, ooff, none⟩) x.ops.length x.c))), (20, .c (.v (.int .i64 x.ops.length))), (21, .c (.v (.int .i64 (j + 1 : Nat))))] (by kernel_rfl) (by decide) (by kernel_rfl) (by kernel_rfl) (fun _ => (by kernel_rfl)) (fun u => hihk g0 g A6 c6 u)
      refine Hs.run0 300 (fun _ => by kernel_rfl) ?_
      refine Hs.condP ((i : Int) < (ps.length : Int)) (by kernel_rfl) (fun _ => ?_) (fun h => by omega)
      refine Hs.run0 300 (fun _ => by kernel_rfl) ?_
      refine Hs.idx (b := ab) (off := aoff) (len := ps.length) (c := c) (i := i) elemPr hil (by kernel_rfl) ?_
      refine Hs.ldx (cf := cPG) (size := 2) (E := 33) (b := ab) (off := aoff) (i := i) (l := ps) (x := x) cPG_len (.g x.sc) (by kernel_rfl) (fun w' H => hrd.only (N.only H)) hx (by kernel_rfl) (by kernel_rfl) rfl (by kernel_rfl) ?_
      refine Hs.run2 300 (fun _ => by kernel_rfl) fun b1 b2 => ?_
      refine Hs.nilS 52 4 (by kernel_rfl) ?_ (by kernel_rfl)
      refine Hs.loop (by kernel_rfl) ?_
      exact Hs.goto (loopAt Tryz.f16 1) [0, 2, 3] [.s A4 c4 i 51 2 (outs.flatMap cPG), .b true 51 [.v (.string x.n), .v (.slice none 0 0)], .s none 0 0 52 4 ((x.ops.take 0).flatMap cOP)] [(3, .c (.v (.slice A4 i c4))), (6, .c (.p 1 0)), (9, .c (.v (.slice (some ⟨ab, aoff, none⟩) ps.length c))), (10, .c (.v (.int .i64 ps.length))), (11, .c (.v (.int .i64 i))), (19, .c (.v (.slice x.A x.ops.length x.c))), (20, .c (.v (.int .i64 x.ops.length))), (21, .c (.v (.int .i64 (0 : Nat))))] (by kernel_rfl) (by decide) (by kernel_rfl) (by kernel_rfl) (fun _ => (by kernel_rfl)) (fun u => K x.ops.length 0 (by omega) (by omega) 0 b2 none 0 u)
  refine Hs.enter Tryz.func16 [] [] [] [.c (.v (.slice A ps.length c))] (Mem.start0 w) (by kernel_rfl) (by kernel_rfl) ?_
  refine Hs.run0 300 (fun _ => by kernel_rfl) ?_
  refine Hs.nilS 51 2 (by kernel_rfl) ?_ (by kernel_rfl)
  refine Hs.loop (by kernel_rfl) ?_
  exact Hs.goto (loopAt Tryz.f16 0) [0] [.s none 0 0 51 2 (([] : List PG).flatMap cPG)] [(3, .c (.v (.slice none 0 0))), (9, .c (.v (.slice A ps.length c))), (10, .c (.v (.int .i64 ps.length))), (11, .c (.v (.int .i64 (0 : Nat))))] (by kernel_rfl) (by decide) (by kernel_rfl) (by kernel_rfl) (fun _ => (by kernel_rfl)) (fun u => J ps.length 0 (by omega) (by omega) [] none 0 w [] ((Nx.start w).imp fun w h => fun y hy => by cases hy) rfl rfl u)
end Go.Proofs.YtmmcamkmglpgiaaGreatDoor

namespace Go.Proofs.YtmmcamkmglpgiaaGreatDoor
set_option linter.all false
set_option maxRecDepth 100000
open Go.RowKit

section
variable {P : Program} {f : FR} {R : Ending → World → Prop} {n : Nat} {β : List Nat} {m : SM} {w0 : World} {L : List Nat}
/-- The way on from a state that several ways come to. -/
theorem Hs.share0 {S : SM} {β' : List Nat} (h1 : Hs P f R n w0 L β' S → Hs P f R n w0 L β m) (h2 : Hs P f R n w0 L β' S) : Hs P f R n w0 L β m := h1 h2
theorem Hs.share1 {S : Nat → SM} {β' : List Nat} (h1 : (∀ b, Hs P f R n w0 L (β' ++ [b]) (S b)) → Hs P f R n w0 L β m) (h2 : ∀ b, Hs P f R n w0 L (β' ++ [b]) (S b)) : Hs P f R n w0 L β m := h1 h2
def keyM (n : Nat) (m : SM) : RM × List Item × List HB × List SV × List Deferred := ⟨m.r, m.todo, m.hp, (List.range n).map m.sl.at, m.sl.ds⟩
/-- A state that another state is, but for the order in which its slots were written. -/
theorem Hs.eqM {m' : SM} (k : Hs P f R n w0 L β m') (h : keyM n m = keyM n m') (hw : m'.sl.wf m'.hp.length = true) : Hs P f R n w0 L β m := by
  obtain ⟨r, td, sl, hp⟩ := m
  obtain ⟨r', td', sl', hp'⟩ := m'
  simp only [keyM, Prod.mk.injEq] at h
  obtain ⟨rfl, rfl, rfl, hs, hd⟩ := h
  have e : fr n β sl = fr n β sl' := by
    unfold fr
    rw [hd]
    congr 2
    refine List.map_congr_left fun i hi => ?_
    have h1 := List.mem_range.1 hi
    have h2 := congrArg (fun l => l[i]?) hs
    simp only [List.getElem?_map, List.getElem?_range h1, Option.map_some, Option.some.injEq] at h2
    rw [h2]
  refine ⟨fun w H W => ?_⟩
  have W' : SM.wf ⟨r, td, sl', hp⟩ = true := by
    unfold SM.wf at W ⊢
    simp only [Bool.and_eq_true] at W ⊢
    exact ⟨hw, W.2⟩
  have g := k.go w H W'
  unfold Gs at g ⊢
  dsimp only at g ⊢
  rw [e]
  exact g
end
end Go.Proofs.YtmmcamkmglpgiaaGreatDoor

namespace Go.Proofs.YtmmcamkmglpgiaaGreatDoor
open Go.RowKit
set_option linter.all false
set_option maxRecDepth 100000
theorem u8v_cells (s : ByteArray) : (u8v s.data.toList).flatMap cu8 = Lib.strCells s := by
  unfold u8v Lib.strCells
  induction s.data.toList with
  | nil => rfl
  | cons c l ih => simp only [List.map_cons, List.flatMap_cons, ih]; rfl
section
variable {P : Program} {w : World} {base : Nat} {v : Value} {tS tu E : TypeId}
theorem run_appS (ht : P.underlying tS = some (.slice E)) (hu : P.underlying tu = some .string) (hI : (P.info? E).map (fun i => (i.zero, i.size, i.bytes)) = some (some (.int .u8 0), 1, 1)) (ty : TypeId) {l : List Int} (hown : OwnX cu8 E 1 w base v l) (s : ByteArray) (hlen : l.length + s.size ≤ 140737488355328) (hbase : base ≤ w.heap.size) :
    ∃ v' w', (Builtin.append_ #[tS, tu] ty #[v, .string s]).run P w = .ok v' w' ∧ OwnX cu8 E 1 w' base v' (l ++ u8v s.data.toList) ∧ Only v.ownBlock.toList w w' ∧ Where2 v v' w.heap.size := by
  obtain ⟨i, hi, hz, h1, h2⟩ := info_parts hI
  have hs : (u8v s.data.toList).length = s.size := by rw [u8v_len, Array.length_toList]; rfl
  obtain ⟨v', w', e, g1, g2, _⟩ := Lib.run_append_own_string (P := P) w base tS tu ty E i ht hu hi hz h1 h2 v l.length (l.flatMap cu8) hown s (by unfold maxLen; omega) hlen hbase
  refine ⟨v', w', e, ?_, only_of_grown g2, ?_⟩
  · unfold OwnX
    rw [List.flatMap_append, u8v_cells, List.length_append, hs]
    exact g1
  · rcases hown.2 with ⟨rfl, hn⟩ | ⟨g, cap, cur, rfl, hbg, hg, hnc, hcm, hcs, htake⟩
    · obtain ⟨v2, w2, e2, g3, _, _⟩ := Lib.run_append_own_string (P := P) w w.heap.size tS tu ty E i ht hu hi hz h1 h2 (.slice none 0 0) l.length (l.flatMap cu8) ⟨hown.1, .inl ⟨rfl, hn⟩⟩ s (by unfold maxLen; omega) hlen (Nat.le_refl _)
      rw [e] at e2
      injection e2 with e3 e4
      subst e3
      by_cases h0 : s.size = 0
      · left
        have hf := Lib.run_firstCells_string (P := P) w 1 s
        rw [h0] at hf
        have : (Builtin.append_ #[tS, tu] ty #[.slice none 0 0, .string s]).run P w = .ok (.slice none 0 0) w := by
          simp [Builtin.append_, run_underlying ht, run_underlying hu, sizeOf, typeInfo, hi, h1, Builtin.lenOf, h0, hf]
        rw [this] at e
        injection e with e _
        rw [← e]
      · right
        have hr := run_append_nil_string (P := P) w tS tu ty E i (.int .u8 0) ht hu hi hz s (by omega) (by omega) (by rw [h2]; omega)
        rw [hr] at e
        injection e with e _
        rw [← e]
        rfl
    · by_cases hroom : l.length + s.size ≤ cap
      · left
        have hcs' : cur.size = cap := by simpa using hcs
        have hr := Lib.run_append_room_string (P := P) w tS tu ty E i ht hu hi h1 g l.length cap cur hg s hroom (by omega)
        rw [hr] at e
        injection e with e _
        rw [← e]
        rfl
      · right
        have holds : ∀ j u, (l.flatMap cu8)[j]? = some u → w.cell? ((⟨g, 0, none⟩ : Addr).add j) = some u := World.ownsRow.cells hown (g := g) rfl
        have hr := Lib.run_append_grow_string (P := P) w tS tu ty E i (.int .u8 0) ht hu hi hz ⟨g, 0, none⟩ l.length cap (l.flatMap cu8) (by rw [h1]; exact hown.1) holds s (by omega) (by omega) (by rw [h2]; exact growslice_fits (by omega) (by omega))
        rw [hr] at e
        injection e with e _
        rw [← e]
        rfl
end
section
variable {P : Program} {f : FR} {R : Ending → World → Prop} {n : Nat} {w0 : World} {L : List Nat} {β : List Nat} {m : SM} {α : Type} {cf : α → List Value} {size : Nat} {E : TypeId}
/-- What grows a slice of our own, in general. -/
theorem Hs.appG (k : Nat) (l gs : List α) (nl ng : Nat) (hl : l.length = nl) (hg : gs.length = ng) {A : Option Addr} {cap : Nat} {S : Sem Value}
    (hs : semOf n β m = some (valS S)) (hk : m.hp[k]? = some (.s A cap nl E size (l.flatMap cf))) (hrd : (rdOf m).contains k = false)
    (hS : ∀ w, OwnX cf E size w 0 (.slice A nl cap) l → ∃ v' w', S.run P w = .ok v' w' ∧ OwnX cf E size w' 0 v' (l ++ gs) ∧ Only (Value.slice A nl cap).ownBlock.toList w w' ∧ Where2 (.slice A nl cap) v' w.heap.size)
    (h : ∀ A' cap', cap' ≤ maxLen → Hs P f R n w0 L β (m.put (dstOf m) (.c (.v (.slice A' (nl + ng) cap'))) (m.hp.set k (.s A' cap' (nl + ng) E size ((l ++ gs).flatMap cf))))) : Hs P f R n w0 L β m := by
  obtain ⟨o, ho, hgk, he, hd⟩ := semOf_spec hs
  refine ⟨fun w H W => ?_⟩
  have hown : OwnX cf E size w 0 (.slice A nl cap) l := by
    unfold OwnX
    rw [hl]
    exact H.lies k _ hk
  subst hl; subst hg
  obtain ⟨v', w', h1, h2, h3, h4⟩ := hS w hown
  obtain ⟨A', cap', rfl, _, hmax, _, hblk⟩ := h2.form
  rw [hd] at h
  have h := h A' cap' hmax
  have hlen2 : (l ++ gs).length = l.length + gs.length := by simp
  rw [hlen2] at h1 h4
  have hkl := (List.getElem?_eq_some_iff.1 hk).1
  have H' : Mem w0 L β (m.hp.set k (.s A' cap' (l.length + gs.length) E size ((l ++ gs).flatMap cf))) w' := by
    refine H.swap k hk h3 (fun x hx => ?_) rfl ?_ (fun x hx => ?_)
    · cases A with
      | none => simp [Value.ownBlock] at hx
      | some a => simp only [Value.ownBlock, Option.toList_some, List.mem_singleton] at hx; subst hx; rfl
    · have h5 := h2
      unfold OwnX at h5
      rw [hlen2] at h5
      exact h5
    · have hb : Value.ownBlock (.slice A' (l.length + gs.length) cap') = some x := by
        cases A' with
        | none => cases hx
        | some a => simp only [HB.blk, Option.map_some] at hx; exact hx
      rcases h4 with h4 | h4
      · left
        rw [h4] at hb
        cases A with
        | none => cases hb
        | some a => exact hb
      · right
        rw [h4] at hb
        injection hb with hb
        omega
  refine Gs.op ho hgk ?_
  unfold Oper.wp
  rw [fr_eval, he]
  simp only [valS, Sem.run_bind, h1, Result.andThen_ok, Sem.run_pure, Oper.upon_value]
  refine ⟨β, _, _, fr_put n β m.sl o.dst (.c (.v (.slice A' (l.length + gs.length) cap'))), fun w2 hI => ?_, h.go w' H' ?_⟩
  · intro i hi hb hh
    refine hI i hi hb ?_
    rw [List.getElem?_set, if_neg (fun e => by
      subst e
      simp at hrd
      exact hrd hi)]
    exact hh
  · simp only [SM.wf, SM.put, Bool.and_eq_true, List.length_set]
    refine ⟨putS_wf (SM.wf_sl W) rfl, List.all_eq_true.2 fun x hx => ?_⟩
    rcases List.mem_or_eq_of_mem_set hx with hx | rfl
    · exact List.all_eq_true.1 (SM.wf_hp W) x hx
    · rfl
/-- append(x, s...), s a string. -/
theorem Hs.appS (k : Nat) {tS tu : TypeId} (ht : P.underlying tS = some (.slice E)) (hu : P.underlying tu = some .string) (hI : (P.info? E).map (fun i => (i.zero, i.size, i.bytes)) = some (some (.int .u8 0), 1, 1)) (l : List Int) (s : List UInt8) (nl : Nat) (hl : l.length = nl) {A : Option Addr} {cap ty : Nat}
    (hs : semOf n β m = some (valS (Builtin.append_ #[tS, tu] ty #[.slice A nl cap, .string (strL s)]))) (hk : m.hp[k]? = some (.s A cap nl E 1 (l.flatMap cu8))) (hrd : (rdOf m).contains k = false) (hby : nl + s.length ≤ 140737488355328)
    (h : ∀ A' cap', cap' ≤ maxLen → Hs P f R n w0 L β (m.put (dstOf m) (.c (.v (.slice A' (nl + s.length) cap'))) (m.hp.set k (.s A' cap' (nl + s.length) E 1 ((l ++ u8v s).flatMap cu8))))) : Hs P f R n w0 L β m :=
  Hs.appG (cf := cu8) k l (u8v s) nl s.length hl (u8v_len s) hs hk hrd (fun w hown => by
    have hz2 : (strL s).size = s.length := rfl
    subst hl
    obtain ⟨v', w', e, g1, g2, g3⟩ := run_appS (P := P) ht hu hI ty hown (strL s) (by rw [hz2]; exact hby) (Nat.zero_le _)
    exact ⟨v', w', e, g1, g2, g3⟩) h
end
end Go.Proofs.YtmmcamkmglpgiaaGreatDoor

namespace Go.Proofs.YtmmcamkmglpgiaaGreatDoor
open Go.RowKit
set_option linter.all false
set_option maxRecDepth 100000
/-- What a builder's first cell holds: nothing, or its own place. -/
def bdV (g : Nat) : Bool → Value
  | true => .pointer (some ⟨g, 0, none⟩)
  | false => .pointer none
def bdC (k : Nat) : Bool → SC
  | true => .p k 0
  | false => .v (.pointer none)
theorem bdC_den (β : List Nat) (k g : Nat) (hk : nm β k = g) (u : Bool) : (bdC k u).den β = bdV g u := by
  subst hk
  cases u <;> rfl
/-- A builder, and what it holds. -/
structure BuAt (w : World) (g : Nat) (u : Bool) (A : Option Addr) (n cap : Nat) (out : List Int) : Prop where
  blk : Blk w g 65 [bdV g u, .slice A n cap]
  own : OwnX cu8 5 1 w 0 (.slice A n cap) out
  len : out.length = n
  ne : ∀ x, Value.ownBlock (.slice A n cap) = some x → x ≠ g
def BuPost (w : World) (g : Nat) (A : Option Addr) (n cap : Nat) (out : List Int) (n' : Nat) (v : Value) : Ending → World → Prop := fun e w' =>
  ∃ A' cap', e = .returned v ∧ Only (g :: (Value.ownBlock (.slice A n cap)).toList) w w' ∧ Blk w' g 65 [bdV g true, .slice A' n' cap'] ∧ OwnX cu8 5 1 w' 0 (.slice A' n' cap') out ∧ WhereG (.slice A n cap) (.slice A' n' cap') w.heap.size
theorem BuAt.mem {w : World} {g : Nat} {u : Bool} {A : Option Addr} {n cap : Nat} {out : List Int} (h : BuAt w g u A n cap out) : Mem w (g :: (Value.ownBlock (.slice A n cap)).toList) [g, 0] [.b true 65 [bdC 0 u, .v (.slice A n cap)], .s A cap n 5 1 (out.flatMap cu8)] w := by
  have hA : ∀ x, HB.blk 0 (.s A cap n 5 1 (out.flatMap cu8)) = some x → Value.ownBlock (.slice A n cap) = some x := fun x hx => by
    cases A with
    | none => cases hx
    | some a => simpa [Value.ownBlock, HB.blk] using hx
  refine Mem.start _ _ _ _ rfl (fun k b hk => ?_) (fun k b x hk _ hx => ?_) (fun i j hi hj x ei ej li lj => ?_)
  · match k, hk with
    | 0, hk =>
      injection hk with hk; subst hk
      show Blk w g 65 [(bdC 0 u).den [g, 0], .slice A n cap]
      rw [bdC_den [g, 0] 0 g rfl u]
      exact h.blk
    | 1, hk =>
      injection hk with hk; subst hk
      have h5 := h.own
      unfold OwnX at h5
      rw [h.len] at h5
      exact h5
  · match k, hk with
    | 0, hk => injection hk with hk; subst hk; injection hx with hx; subst hx; simp [nm]
    | 1, hk => injection hk with hk; subst hk; exact List.mem_cons_of_mem _ (Option.mem_toList.2 (hA x hx))
  · match i, j, ei, ej with
    | 0, 0, _, _ => rfl
    | 1, 1, _, _ => rfl
    | 0, 1, ei, ej =>
      injection ei with ei; subst ei; injection ej with ej; subst ej
      injection li with li
      exact absurd li.symm (h.ne x (hA x lj))
    | 1, 0, ei, ej =>
      injection ei with ei; subst ei; injection ej with ej; subst ej
      injection lj with lj
      exact absurd lj.symm (h.ne x (hA x li))
theorem BuAt.memV {w : World} {g : Nat} {u : Bool} {A : Option Addr} {n cap : Nat} {out : List Int} (h : BuAt w g u A n cap out) : Mem w (g :: (Value.ownBlock (.slice A n cap)).toList) [g, 0] [.b true 65 [.v (bdV g u), .v (.slice A n cap)], .s A cap n 5 1 (out.flatMap cu8)] w := by
  have hA : ∀ x, HB.blk 0 (.s A cap n 5 1 (out.flatMap cu8)) = some x → Value.ownBlock (.slice A n cap) = some x := fun x hx => by
    cases A with
    | none => cases hx
    | some a => simpa [Value.ownBlock, HB.blk] using hx
  refine Mem.start _ _ _ _ rfl (fun k b hk => ?_) (fun k b x hk _ hx => ?_) (fun i j hi hj x ei ej li lj => ?_)
  · match k, hk with
    | 0, hk =>
      injection hk with hk; subst hk
      exact h.blk
    | 1, hk =>
      injection hk with hk; subst hk
      have h5 := h.own
      unfold OwnX at h5
      rw [h.len] at h5
      exact h5
  · match k, hk with
    | 0, hk => injection hk with hk; subst hk; injection hx with hx; subst hx; simp [nm]
    | 1, hk => injection hk with hk; subst hk; exact List.mem_cons_of_mem _ (Option.mem_toList.2 (hA x hx))
  · match i, j, ei, ej with
    | 0, 0, _, _ => rfl
    | 1, 1, _, _ => rfl
    | 0, 1, ei, ej =>
      injection ei with ei; subst ei; injection ej with ej; subst ej
      injection li with li
      exact absurd li.symm (h.ne x (hA x lj))
    | 1, 0, ei, ej =>
      injection ei with ei; subst ei; injection ej with ej; subst ej
      injection lj with lj
      exact absurd lj.symm (h.ne x (hA x li))
theorem BuPost.of {w w' : World} {g : Nat} {A A' : Option Addr} {n cap n' cap' : Nat} {out : List Int} {v : Value} {β : List Nat} {hp : List HB} (H : Mem w (g :: (Value.ownBlock (.slice A n cap)).toList) β hp w') (hβ : β[0]? = some g) (h0 : hp[0]? = some (.b true 65 [.p 0 0, .v (.slice A' n' cap')])) (h1 : hp[1]? = some (.s A' cap' n' 5 1 (out.flatMap cu8))) (hl : out.length = n') : BuPost w g A n cap out n' v (.returned v) w' := by
  have hg := nm_get hβ
  refine ⟨A', cap', rfl, H.only, ?_, H.ownX 1 hl h1, fun x hx => ?_⟩
  · have := H.at 0 h0
    rw [hg] at this
    have e : dens β [.p 0 0, .v (.slice A' n' cap')] = [bdV g true, .slice A' n' cap'] := by rw [← hg]; rfl
    rw [e] at this
    exact this
  · have hx' : HB.blk (nm β 1) (.s A' cap' n' 5 1 (out.flatMap cu8)) = some x := by
      cases A' with
      | none => cases hx
      | some a => simpa [Value.ownBlock, HB.blk] using hx
    rcases H.own 1 _ x h1 rfl hx' with h | h
    · rcases List.mem_cons.1 h with h | h
      · exact absurd (H.inj 0 1 _ _ x h0 h1 (by rw [hg, h]; rfl) hx') (by decide)
      · exact .inl (Option.mem_toList.1 h)
    · exact .inr h
theorem bcheck_used (g : Nat) (w : World) (h0 : w.cell? ⟨g, 0, none⟩ = some (.pointer (some ⟨g, 0, none⟩))) : Calls Tryz.prog 42 #[.pointer (some ⟨g, 0, none⟩)] w fun e w' => e = .returned (.tuple #[]) ∧ w' = w := by
  obtain ⟨j, hj, _⟩ := Option.map_eq_some_iff.1 (show (Tryz.prog.info? 65).map (fun i => i.size) = some 2 by kernel_rfl)
  go_enter Tryz.func42, Tryz.ntmps42
  go_wp2
  rw [Lib.run_neq_ptr_same w _ Tryz.underlying62 hj]
  go_wp2
  go_end0
  exact ⟨rfl, rfl⟩
theorem bcheck_fresh (g : Nat) (w : World) (h0 : w.cell? ⟨g, 0, none⟩ = some (.pointer none)) (hsh : w.shape? g = some (65, 2)) (hfz : w.frozen? ⟨g, 0, none⟩ = false) : Calls Tryz.prog 42 #[.pointer (some ⟨g, 0, none⟩)] w fun e w' => e = .returned (.tuple #[]) ∧ w' = w.setCell ⟨g, 0, none⟩ (.pointer (some ⟨g, 0, none⟩)) := by
  obtain ⟨j, hj, hjs⟩ := Option.map_eq_some_iff.1 (show (Tryz.prog.info? 65).map (fun i => i.size) = some 2 by kernel_rfl)
  have hlies : liesAt Tryz.prog Tryz.prog.depth 65 (2 / Tryz.prog.cellsOf 65) 0 65 1 = true := by kernel_rfl
  go_enter Tryz.func42, Tryz.ntmps42
  go_wp2
  rw [Lib.run_to_unsafe w ⟨g, 0, none⟩ Tryz.underlying62 Tryz.underlying120 hj (by rw [hjs]; decide) hsh (Nat.zero_lt_succ 1)]
  simp only [Result.andThen]
  rw [Oper.upon_value]
  go_wp2
  rw [run_callFunc_extern Tryz.func64 (by kernel_rfl) (by kernel_rfl) (by kernel_rfl) (e := Extern.AbiNoEscape.same) (by kernel_rfl)]
  rw [Lib.run_noEscape]
  simp only [Result.andThen]
  rw [Oper.upon_value]
  go_wp2
  rw [Lib.run_from_unsafe w ⟨g, 0, none⟩ Tryz.underlying120 Tryz.underlying62 hj hsh hlies]
  simp only [Result.andThen]
  rw [Oper.upon_value]
  go_wp2
  go_end0
  exact ⟨rfl, rfl⟩
theorem bcheck_any (g : Nat) (u : Bool) (v : Value) (w : World) (h : Blk w g 65 [bdV g u, v]) : Calls Tryz.prog 42 #[.pointer (some ⟨g, 0, none⟩)] w fun e w' => e = .returned (.tuple #[]) ∧ Only [g] w w' ∧ Blk w' g 65 [bdV g true, v] := by
  cases u with
  | false =>
    refine (bcheck_fresh g w (h.cell 0) (by simp [World.shape?, show w.heap[g]? = _ from h]) (h.frozen 0)).mono ?_
    rintro e w' ⟨rfl, rfl⟩
    exact ⟨rfl, (Only.refl _ _).setCell (.inl (by simp)) _, h.set_ 0 _⟩
  | true =>
    refine (bcheck_used g w (h.cell 0)).mono ?_
    rintro e w' ⟨rfl, rfl⟩
    exact ⟨rfl, Only.refl _ _, h⟩
theorem ws_any (g : Nat) (u : Bool) (A : Option Addr) (n cap : Nat) (out : List Int) (s : List UInt8) (w : World) (h : BuAt w g u A n cap out) (hn : n + s.length ≤ 140737488355328) : Calls Tryz.prog 22 #[.pointer (some ⟨g, 0, none⟩), .string (strL s)] w (BuPost w g A n cap (out ++ u8v s) (n + s.length) (.tuple #[.int .i64 s.length, .nilIface])) := by
  have hlen := h.len
  have hC : ∀ β hp w', Mem w (g :: (Value.ownBlock (.slice A n cap)).toList) β hp w' → β[0]? = some g → hp[0]? = some (.b true 65 [bdC 0 u, .v (.slice A n cap)]) → Calls Tryz.prog 42 #[.pointer (some ⟨g, 0, none⟩)] w' fun e w2 => e = .returned (.tuple #[]) ∧ Only [g] w' w2 ∧ Blk w2 g 65 [bdV g true, .slice A n cap] := fun β hp w' H hβ h0 => by
    have hg := nm_get hβ
    have := H.at 0 h0
    rw [hg] at this
    refine bcheck_any g u _ w' ?_
    rw [← bdC_den β 0 g hg u]
    exact this
  have hM := h.mem
  cases u
  all_goals
    refine Hs.enter Tryz.func22 (g :: (Value.ownBlock (.slice A n cap)).toList) [g, 0] [.b true 65 [_, .v (.slice A n cap)], .s A cap n 5 1 (out.flatMap cu8)] [.c (.p 0 0), .c (.v (.string (strL s)))] hM (by kernel_rfl) (by kernel_rfl) ?_
    refine Hs.run0 300 (fun _ => by kernel_rfl) ?_
    refine Hs.callP 0 65 [.p 0 0, .v (.slice A n cap)] (v := .tuple #[]) (fun w' H => hC _ _ w' H rfl rfl) (by kernel_rfl) (by kernel_rfl) ?_
    refine Hs.run0 300 (fun _ => by kernel_rfl) ?_
    refine Hs.appS 1 (E := 5) (tS := 63) (tu := 9) (ty := 63) (A := A) (cap := cap) (by kernel_rfl) (by kernel_rfl) (by kernel_rfl) out s n hlen (by kernel_rfl) (by kernel_rfl) (by kernel_rfl) hn fun A1 c1 _ => ?_
    refine Hs.run0 300 (fun _ => by kernel_rfl) ?_
    exact Hs.ret (v := .tuple #[.int .i64 s.length, .nilIface]) Tryz.func22 (by kernel_rfl) fun w' H => BuPost.of (A' := A1) (cap' := c1) H rfl (by kernel_rfl) (by kernel_rfl) (by simp [hlen, u8v_len])
theorem wb_any (g : Nat) (u : Bool) (A : Option Addr) (n cap : Nat) (out : List Int) (c : Int) (w : World) (h : BuAt w g u A n cap out) (hn : n + 1 ≤ 140737488355328) : Calls Tryz.prog 23 #[.pointer (some ⟨g, 0, none⟩), .int .u8 c] w (BuPost w g A n cap (out ++ [c]) (n + 1) .nilIface) := by
  have hlen := h.len
  have hC : ∀ β hp w', Mem w (g :: (Value.ownBlock (.slice A n cap)).toList) β hp w' → β[0]? = some g → hp[0]? = some (.b true 65 [bdC 0 u, .v (.slice A n cap)]) → Calls Tryz.prog 42 #[.pointer (some ⟨g, 0, none⟩)] w' fun e w2 => e = .returned (.tuple #[]) ∧ Only [g] w' w2 ∧ Blk w2 g 65 [bdV g true, .slice A n cap] := fun β hp w' H hβ h0 => by
    have hg := nm_get hβ
    have := H.at 0 h0
    rw [hg] at this
    refine bcheck_any g u _ w' ?_
    rw [← bdC_den β 0 g hg u]
    exact this
  have hM := h.mem
  cases u
  all_goals
    refine Hs.enter Tryz.func23 (g :: (Value.ownBlock (.slice A n cap)).toList) [g, 0] [.b true 65 [_, .v (.slice A n cap)], .s A cap n 5 1 (out.flatMap cu8)] [.c (.p 0 0), .c (.v (.int .u8 c))] hM (by kernel_rfl) (by kernel_rfl) ?_
    refine Hs.run0 300 (fun _ => by kernel_rfl) ?_
    refine Hs.callP 0 65 [.p 0 0, .v (.slice A n cap)] (v := .tuple #[]) (fun w' H => hC _ _ w' H rfl rfl) (by kernel_rfl) (by kernel_rfl) ?_
    refine Hs.run1 300 (fun _ => by kernel_rfl) fun b2 => ?_
    refine Hs.app (cf := cu8) (c := 1) (ty := 63) 1 elemU8 out [c] n 1 hlen rfl cu8_one cu8_len (A := A) (B := some ⟨b2, 0, none⟩) (cap := cap) (by kernel_rfl) (by kernel_rfl) (by kernel_rfl) (fun w' H => H.rdB (cf := cu8) (wr := true) (T := 5) (cs := [.v (.int .u8 c)]) (gs := [c]) 2 (by kernel_rfl) rfl) (by unfold maxLen; omega) (by rw [u8_by]; omega) fun A1 c1 _ => ?_
    refine Hs.run0 300 (fun _ => by kernel_rfl) ?_
    exact Hs.ret (v := .nilIface) Tryz.func23 (by kernel_rfl) fun w' H => BuPost.of (A' := A1) (cap' := c1) H rfl (by kernel_rfl) (by kernel_rfl) (by simp [hlen])
section
variable {P : Program} {f : FR} {R : Ending → World → Prop} {n : Nat} {w0 : World} {L : List Nat} {β : List Nat} {m : SM}
/-- A call behind which nothing more is asked of the memory. -/
theorem Hs.callLast {F : FuncId} {args : Array Value} (v : Value) (hC : ∀ w, Mem w0 L β m.hp w → Calls P F args w fun e w' => e = .returned v ∧ Only L w0 w') (hc : callOf P n β m = some (F, args)) (hrd : rdOf m = [])
    (h : Hs P f R n w0 L β (m.put (dstOf m) (.c (.v v)) (m.hp.map fun _ => HB.no))) : Hs P f R n w0 L β m := by
  refine ⟨fun w H W => ?_⟩
  refine (Hs.call hc (fun w H => ?_)).go w H W
  refine Calls.mono (hC w H) ?_
  rintro e w' ⟨rfl, O⟩
  have hno : ∀ (k : Nat) (b : HB), (m.hp.map fun _ => HB.no)[k]? = some b → b = .no := fun k b hk => by
    rw [List.getElem?_map] at hk
    cases hm : m.hp[k]? with
    | none => rw [hm] at hk; cases hk
    | some x => rw [hm] at hk; injection hk with hk; exact hk.symm
  refine ⟨[], .c (.v v), m.hp.map fun _ => HB.no, rfl, ?_, ?_, ?_, by rw [List.append_nil]; exact h⟩
  · rw [List.append_nil]
    refine ⟨O, by rw [H.len, List.length_map], (fun k b hk => by obtain rfl := hno k b hk; trivial), (fun k b x hk hw hx => by obtain rfl := hno k b hk; cases hw), (fun i j hi hj x ei _ li _ => by obtain rfl := hno i hi ei; cases li)⟩
  · simp only [SV.wf, SC.wf, Bool.true_and, Bool.and_eq_true, Nat.ble_eq, List.length_map]
    refine ⟨Nat.le_refl _, List.all_eq_true.2 fun x hx => ?_⟩
    obtain ⟨k, hk⟩ := List.getElem?_of_mem hx
    rw [hno k x hk]
    rfl
  · intro i hi
    rw [hrd] at hi
    cases hi
end
theorem str_any19 {w w' : World} {β : List Nat} {hp : List HB} (k j : Nat) {u : Bool} {A : Option Addr} {n cap : Nat} {l : List UInt8} (H : Mem w [] β hp w') (hne : k ≠ j) (hk : hp[k]? = some (.b true 65 [.v (bdV (nm β k) u), .v (.slice A n cap)])) (hj : hp[j]? = some (.s A cap n 5 1 ((u8v l).flatMap cu8))) (hl : l.length = n) : Calls Tryz.prog 25 #[.pointer (some ⟨nm β k, 0, none⟩)] w' fun e w2 => e = .returned (.string (strL l)) ∧ Only [] w w2 := by
  have hO := H.only
  have hcells : (u8v l).flatMap cu8 = Lib.byteCells l := by
    unfold u8v Lib.byteCells
    clear hj hl
    induction l with
    | nil => rfl
    | cons c l ih => simp only [List.map_cons, List.flatMap_cons, ih]; rfl
  have hB : Lib.IsBuilder 65 5 w.heap.size (nm β k) (Lib.byteCells l) w' := by
    have hb := H.at k hk
    have hbo : w.heap.size ≤ nm β k := by
      rcases H.own k _ (nm β k) hk rfl rfl with h | h
      · cases h
      · exact h
    have hr : w'.ownsRow 0 5 1 (.slice A n cap) n ((u8v l).flatMap cu8) := H.lies j _ hj
    rw [hcells] at hr
    have hr2 : w'.ownsRow w.heap.size 5 1 (.slice A n cap) n (Lib.byteCells l) := by
      obtain ⟨h1, h2 | ⟨g, c, cur, e, h3, hg, h4⟩⟩ := hr
      · exact ⟨h1, .inl h2⟩
      · refine ⟨h1, .inr ⟨g, c, cur, e, ?_, hg, h4⟩⟩
        injection e with e1
        subst e1
        rcases H.own j _ g hj rfl rfl with h | h
        · cases h
        · exact h
    have hn : (Lib.byteCells l).length = n := by unfold Lib.byteCells; rw [List.length_map, hl]
    have hd : dens β [.v (bdV (nm β k) u), .v (.slice A n cap)] = [bdV (nm β k) u, .slice A n cap] := by
      rfl
    rw [hd] at hb
    have hat : Lib.BuilderAt 65 5 w.heap.size (nm β k) (bdV (nm β k) u) (Lib.byteCells l) w' := by
      refine ⟨hbo, _, hb, by rw [hn]; exact hr2, fun e => ?_⟩
      refine hne (H.inj k j _ _ (nm β k) hk hj rfl ?_)
      cases A with
      | none => cases e
      | some a => exact e
    cases u with
    | true => exact .inr hat
    | false => exact .inl hat
  refine (Tryz.Builder_String_any_k w.heap.size (nm β k) l w' (Lib.IsBuilderF.of hB) hO.size).mono ?_
  rintro e w2 ⟨rfl, _, hb, _⟩
  refine ⟨rfl, ⟨hb.os.trans hO.os, hb.tape.trans hO.tape, hb.output.trans hO.output, Nat.le_trans hO.size hb.size, fun i hi hn => (hb.block i hi).trans (hO.block i hi hn)⟩⟩
end Go.Proofs.YtmmcamkmglpgiaaGreatDoor

namespace Go.Proofs.YtmmcamkmglpgiaaGreatDoor
set_option linter.all false
set_option maxRecDepth 100000

/-! Guards without a list. -/
def litG (n : Nat) (ops : Array Oper) (sl : Slots) (j : Nat) (b : Bool) : Option Bool := match ops[j]? with
  | some oj => match oj.dst with
    | some d => match Nat.blt d n with
      | true => match litB (sl.at d) with
        | some x => some (x == b)
        | none => match notB (sl.at d) with
          | true => some false
          | false => none
      | false => none
    | none => none
  | none => none
def geO (o : Oper) : List Nat := match o.guard with
  | none => []
  | some (j, _) => [j]
def gTakeA (n : Nat) (ops : Array Oper) (sl : Slots) (o : Oper) : Option Bool := match o.guard with
  | none => some true
  | some (j, b) => litG n ops sl j b
theorem gTakeA_eq {n : Nat} {ops : Array Oper} {sl : Slots} {o : Oper} : gTakeA n ops sl o = gTake n (geO o) ops sl o := by
  unfold gTakeA gTake geO
  split
  · rename_i h; simp [h]
  · rename_i j b h
    simp only [h, List.contains_cons, BEq.rfl, Bool.true_or]
    rfl
section
variable (P : Program) (n : Nat) (β : List Nat)
def takeVA (ops : Array Oper) (sl : Slots) (hp : List HB) (rd : List Nat) (o : Oper) : Option SV := match gTakeA n ops sl o with
  | some true => takeV0 P n β sl hp rd o
  | some false => some (.c (.v undef))
  | none => none
def findTakeA (ops : Array Oper) (lm : Nat) (sl : Slots) (hp : List HB) (rd : List Nat) : List Nat → Option (Nat × Oper × SV)
  | [] => none
  | i :: r => match ops[i]? with
    | some o => match takeVA P n β ops sl hp rd o with
      | some v => match freeL ops lm i o ops.toList 0 with
        | true => some (i, o, v)
        | false => findTakeA ops lm sl hp rd r
      | none => findTakeA ops lm sl hp rd r
    | none => findTakeA ops lm sl hp rd r
def exGA (m : SM) (o : Oper) : Option SM := match o.guard with
  | none => exOp P n β m o
  | some _ => byGuard n β m
def oneStepA (m : SM) : Option SM := match m.r with
  | .no => ctl m
  | .lst _ [] => some ⟨.no, m.todo, m.sl, m.hp⟩
  | .lst ops (i :: _) => match ops[i]? with
    | some o => exGA P n β m o
    | none => none
  | .sel ops _ _ _ i => match ops[i]? with
    | some o => exGA P n β m o
    | none => none
  | .lstN ops i _ => match ops[i]? with
    | some o => exOp P n β m o
    | none => none
  | .selN ops _ _ _ i => match ops[i]? with
    | some o => exOp P n β m o
    | none => none
  | .any ops fuel lm rd => match rdyL lm ops.toList 0 with
    | [] => some ⟨.no, m.todo, m.sl, m.hp⟩
    | i0 :: rs => match fuel with
      | 0 => none
      | fuel + 1 => match findTakeA P n β ops lm m.sl m.hp (rdE ops lm rd) ((i0 :: rs).filter (reachB ops lm rd)) with
        | some (i, o, v) => some ⟨.any ops fuel (setBit lm i) rd, m.todo, putS o.dst v m.sl, m.hp⟩
        | none => match rs with
          | [] => some ⟨.sel ops fuel lm rd i0, m.todo, m.sl, m.hp⟩
          | _ => none
end
section
variable {P : Program} {f : FR} {R : Ending → World → Prop} {n : Nat} {β ν : List Nat} {m m' : SM} {w w0 : World} {L : List Nat}
theorem takeVA_eq {ops : Array Oper} {sl : Slots} {hp : List HB} {rd : List Nat} {o : Oper} : takeVA P n β ops sl hp rd o = takeV P n β (geO o) ops sl hp rd o := by
  unfold takeVA takeV
  rw [gTakeA_eq]
  generalize gTake n (geO o) ops sl o = g
  cases g with
  | none => rfl
  | some b => cases b <;> rfl
theorem findTakeA_spec {ops : Array Oper} {lm : Nat} {rd : List Nat} {i : Nat} {o : Oper} {v : SV} : ∀ {rs : List Nat}, findTakeA P n β ops lm m.sl m.hp rd rs = some (i, o, v) → i ∈ rs ∧ ops[i]? = some o ∧ takeV P n β (geO o) ops m.sl m.hp rd o = some v ∧ freeL ops lm i o ops.toList 0 = true
  | [], h => by cases h
  | j :: r, h => by
    simp only [findTakeA] at h
    split at h
    · rename_i o' ho
      split at h
      · rename_i v' hv
        split at h
        · rename_i hf
          injection h with h
          injection h with h1 h2
          injection h2 with h2 h3
          subst h1; subst h2; subst h3
          exact ⟨by simp, ho, by rw [← takeVA_eq]; exact hv, hf⟩
        · obtain ⟨h1, h2⟩ := findTakeA_spec h
          exact ⟨List.mem_cons_of_mem _ h1, h2⟩
      · obtain ⟨h1, h2⟩ := findTakeA_spec h
        exact ⟨List.mem_cons_of_mem _ h1, h2⟩
    · obtain ⟨h1, h2⟩ := findTakeA_spec h
      exact ⟨List.mem_cons_of_mem _ h1, h2⟩
theorem exGA_eq {o : Oper} : exGA P n β m o = exG P n β (geO o) m o := by
  unfold exGA exG geO
  split
  · rename_i h; simp [h]
  · rename_i g h
    obtain ⟨j, b⟩ := g
    simp only [h, List.contains_cons, BEq.rfl, Bool.true_or]
theorem oneStepA_sound (H : Mem w0 L β m.hp w) (W : m.wf = true) (h : oneStepA P n β m = some m') (hk : ∀ ν w', Mem w0 L (β ++ ν) m'.hp w' → m'.wf = true → Gs P f R n (β ++ ν) m' w') : Gs P f R n β m w := by
  have k0 : ∀ w', Mem w0 L β m'.hp w' → m'.wf = true → Gs P f R n β m' w' := fun w' h1 h2 => by
    have := hk [] w'
    simp only [List.append_nil] at this
    exact this h1 h2
  unfold oneStepA at h
  split at h
  · rename_i hr
    obtain ⟨h1, h2, h3⟩ := ctl_sound (f := f) (R := R) (n := n) (β := β) (w := w) W hr h
    exact h3 (k0 w (by rw [h1]; exact H) h2)
  · rename_i ops hr
    injection h with h; subst h
    have g := k0 w H W
    obtain ⟨r, todo, sl, hp⟩ := m
    cases hr
    show wpOps P ops (QQ P f R todo) [] (fr n β sl) w
    unfold wpOps
    exact ⟨rfl, g⟩
  · rename_i ops i is hr
    split at h
    · rename_i o ho
      rw [exGA_eq] at h
      exact exG_sound H W (by simp [curOp, hr, ho]) h hk
    · cases h
  · rename_i ops fuel lm rd i hr
    split at h
    · rename_i o ho
      rw [exGA_eq] at h
      exact exG_sound H W (by simp [curOp, hr, ho]) h hk
    · cases h
  · rename_i ops i is hr
    split at h
    · rename_i o ho
      exact exOp_sound H W (by simp [curOp, hr, ho]) h hk
    · cases h
  · rename_i ops fuel lm rd i hr
    split at h
    · rename_i o ho
      exact exOp_sound H W (by simp [curOp, hr, ho]) h hk
    · cases h
  · rename_i ops fuel lm rd hr
    have hI : IR β m.hp (rdsOf rd) w := fun k _ h hh => H.lies k h hh
    split at h
    · rename_i hrdy
      injection h with h; subst h
      have g := k0 w H W
      obtain ⟨r, todo, sl, hp⟩ := m
      cases hr
      intro hcl hlm hns
      have hno : ∀ i, i ∉ Region.ready .any ops (listedOf ops.size lm) := fun i hi => by
        rw [rdy_spec hlm, hrdy] at hi; cases hi
      have he : Region.ready .any ops (listedOf ops.size lm) = [] := List.eq_nil_iff_forall_not_mem.2 hno
      cases fuel with
      | zero => exact ⟨fun _ => hI, he, rfl, g⟩
      | succ f => exact ⟨fun _ => hI, fun _ => ⟨rfl, g⟩, fun i hi => absurd hi (hno i)⟩
    · rename_i i0 rs hrdy
      split at h
      · cases h
      · rename_i fuel
        split at h
        · rename_i i o v hft
          injection h with h; subst h
          obtain ⟨hi, ho, hv, hfree⟩ := findTakeA_spec hft
          obtain ⟨hi, hrb⟩ := List.mem_filter.1 hi
          have g := k0 w H (by
            simp only [SM.wf, Bool.and_eq_true]
            exact ⟨putS_wf (SM.wf_sl W) (takeV_wf W hv), SM.wf_hp W⟩)
          obtain ⟨r, todo, sl, hp⟩ := m
          cases hr
          intro hcl hlm hns
          have hyld := fun w' hI' => takeV_yields (m := ⟨.any ops (fuel + 1) lm rd, todo, sl, hp⟩) hv (w' := w') hI'
          have hil : i < ops.size := (Array.getElem?_eq_some_iff.1 ho).1
          have hready : i ∈ Region.ready .any ops (listedOf ops.size lm) := by rw [rdy_spec hlm, hrdy]; exact hi
          have hcl' : Closed .any ops (listedOf ops.size (setBit lm i)) := by rw [← listed_set hil]; exact hcl.set hready
          have g2 := g hcl' (hlm.set hil) hns
          have hap : ∀ j oj, ops[j]? = some oj → j ≠ i → (listedOf ops.size lm).getD j true = false → (∀ e ∈ oj.after, Region.binds .any e = true → e.on ≠ i) → o.apart ops oj = true := fun j oj hj hne hun hno => by
            refine freeL_spec ops.toList 0 hfree j oj (by simpa using hj) ?_ (by simpa using hne) hno
            rw [Nat.zero_add]; exact (listed_false.1 hun).2
          have g3 : wpAnyE P .any ops (QQ P f R todo) (IR β hp (rdsOf rd)) (esOf rd) fuel ((listedOf ops.size lm).setIfInBounds i true) ((fr n β sl).put o.dst (v.den β)) w := by
            rw [listed_set hil, fr_put]; exact g2
          unfold rdE at hyld
          cases hb : hitB ops lm rd with
          | true =>
            rw [hb] at hyld
            refine wpAnyE_hit _ _ _ _ (not_noE hb) ?_
            exact takeE (v := v.den β) ho (Region.noSelect_spec hns) (fun c a w hp => by cases hp.1) 0 (fun e he => by cases he) fuel _ _ w hcl (fun e he => by cases he) trivial hap hready (fun w' _ => hyld w' (fun k hk => by cases hk)) (wpAnyE_true _ _ _ _ g3)
          | false =>
            rw [hb] at hyld
            unfold reachB at hrb
            rw [hb, Bool.false_or] at hrb
            exact takeE (v := v.den β) ho (Region.noSelect_spec hns) (fun c a w hp => by cases hp.1) ops.size (fun e he => List.all_eq_true.1 hrb e he) fuel _ _ w hcl (noE_of hb) hI hap hready (fun w' hI' => hyld w' hI') g3
        · split at h
          · injection h with h; subst h
            have g := k0 w H W
            obtain ⟨r, todo, sl, hp⟩ := m
            cases hr
            intro hcl hlm hns
            have hready : i0 ∈ Region.ready .any ops (listedOf ops.size lm) := by rw [rdy_spec hlm, hrdy]; simp
            have hil : i0 < ops.size := by
              obtain ⟨_, o, ho, _⟩ := mem_ready.1 hready
              exact (Array.getElem?_eq_some_iff.1 ho).1
            refine ⟨fun _ => hI, fun he => (by rw [he] at hready; cases hready), fun j hj => ?_⟩
            rw [rdy_spec hlm, hrdy] at hj
            obtain rfl : j = i0 := by simpa using hj
            rw [listed_set hil]
            exact g (by rw [hrdy]; simp) hcl hlm hns
          · cases h
end
section
variable {P : Program} {f : FR} {R : Ending → World → Prop} {n : Nat} {β ν : List Nat} {m m' : SM} {w w0 : World} {L : List Nat}
theorem takeVA_app (hl : β.length = m.hp.length) (W : m.wf = true) (ops : Array Oper) (rd : List Nat) (o : Oper) : takeVA P n (β ++ ν) ops m.sl m.hp rd o = takeVA P n β ops m.sl m.hp rd o := by
  rw [takeVA_eq, takeVA_eq, takeV_app hl W]
theorem findTakeA_app (hl : β.length = m.hp.length) (W : m.wf = true) (ops : Array Oper) (lm : Nat) (rd : List Nat) : ∀ rs, findTakeA P n (β ++ ν) ops lm m.sl m.hp rd rs = findTakeA P n β ops lm m.sl m.hp rd rs
  | [] => rfl
  | i :: r => by
    simp only [findTakeA, takeVA_app hl W, findTakeA_app hl W ops lm rd r]
theorem oneStepA_app (hl : β.length = m.hp.length) (W : m.wf = true) : oneStepA P n (β ++ ν) m = oneStepA P n β m := by
  have hy : yieldV n (β ++ ν) m = yieldV n β m := by
    have hd : ∀ d, (m.sl.at d).den (β ++ ν) = (m.sl.at d).den β := fun d => SV.den_app ν (by rw [hl]; exact Slots.wf_at (SM.wf_sl W) d)
    simp only [yieldV, hd]
  have hg : byGuard n (β ++ ν) m = byGuard n β m := by simp only [byGuard, hy]
  simp only [oneStepA, exGA, hg, exOp_app hl W, findTakeA_app hl W]
/-- The blocks that were there are there, still. -/
theorem exOp_len {o : Oper} (h : exOp P n β m o = some m') : m.hp.length ≤ m'.hp.length := by
  unfold exOp at h
  split at h
  · cases h
  · split at h
    · injection h with h; subst h; exact Nat.le_refl _
    · split at h
      · split at h
        · split at h
          · injection h with h; subst h; exact Nat.le_refl _
          · cases h
        · cases h
      · split at h
        · rw [forceN_eq] at h
          injection h with h; subst h
          show m.hp.length ≤ (m.hp ++ _).length
          rw [List.length_append]; omega
        · split at h
          · injection h with h; subst h
            show m.hp.length ≤ (m.hp.set _ _).length
            rw [List.length_set]; exact Nat.le_refl _
          · cases h
        · cases h
end

/-! Slots that have been written anew are forgotten. -/
def prune (seen : Nat) : Slots → Slots
  | .vals f => .vals f
  | .dfr ds l => .dfr ds (prune seen l)
  | .put d v l => match Nat.testBit seen d with
    | true => prune seen l
    | false => .put d v (prune (seen ||| 2 ^ d) l)
theorem prune_at : ∀ (sl : Slots) (seen i : Nat), seen.testBit i = false → (prune seen sl).at i = sl.at i
  | .vals f, _, _, _ => rfl
  | .dfr _ l, seen, i, h => prune_at l seen i h
  | .put d v l, seen, i, h => by
    unfold prune
    rw [Slots.at_put]
    split
    · rename_i hd
      rw [if_neg (fun e => by subst e; rw [h] at hd; cases hd)]
      exact prune_at l seen i h
    · rename_i hd
      rw [Slots.at_put]
      split
      · rfl
      · rename_i hne
        refine prune_at l _ i ?_
        rw [Nat.testBit_or, h, Nat.testBit_two_pow]
        simp [Ne.symm hne]
theorem prune_ds : ∀ (sl : Slots) (seen : Nat), (prune seen sl).ds = sl.ds
  | .vals _, _ => rfl
  | .dfr _ _, _ => rfl
  | .put d v l, seen => by
    unfold prune
    split
    · exact prune_ds l seen
    · exact prune_ds l _
theorem prune_wf {m : Nat} : ∀ {sl : Slots} {seen : Nat}, sl.wf m = true → (prune seen sl).wf m = true
  | .vals _, _, _ => rfl
  | .dfr _ l, seen, h => prune_wf (sl := l) h
  | .put d v l, seen, h => by
    simp only [Slots.wf, Bool.and_eq_true] at h
    unfold prune
    split
    · exact prune_wf h.2
    · simp only [Slots.wf, Bool.and_eq_true]
      exact ⟨h.1, prune_wf h.2⟩
theorem fr_prune (n : Nat) (β : List Nat) (sl : Slots) : fr n β (prune 0 sl) = fr n β sl := by
  unfold fr
  rw [prune_ds]
  congr 2
  exact List.map_congr_left fun i _ => by rw [prune_at sl 0 i (Nat.zero_testBit i)]

/-! With the calls. -/
/-- A function that waits for a call that it made. -/
structure FRm where
  f : FuncId
  fn : Func
  m : SM
  lock : List Nat
/-- A state, with the functions that wait. -/
structure KS where
  st : List FRm
  f : FuncId
  fn : Func
  m : SM
  lock : List Nat
def KR (P : Program) (R0 : Ending → World → Prop) (w0 : World) (L β : List Nat) : List FRm → Ending → World → Prop
  | [] => R0
  | fr :: st => InR P fr.f (KR P R0 w0 L β st) fr.fn.ntmps w0 L (β.take fr.m.hp.length) fr.m
/-- What is said of the functions that wait: their names are old, what they hold is held. -/
def OkSt (P : Program) : List HB → List Nat → List FRm → Prop
  | _, _, [] => True
  | hp, lock, fr :: st => P.funcs[fr.f]? = some fr.fn ∧ fr.m.hp.length ≤ hp.length ∧ (∀ k ∈ rdOf fr.m ++ fr.lock, k ∈ lock ∧ ∀ h, fr.m.hp[k]? = some h → hp[k]? = some h) ∧ OkSt P fr.m.hp fr.lock st
theorem OkSt.mono {P : Program} {hp hp' : List HB} {lock : List Nat} (h : hp.length ≤ hp'.length) (hk : ∀ k ∈ lock, ∀ h, hp[k]? = some h → hp'[k]? = some h) : ∀ {st : List FRm}, OkSt P hp lock st → OkSt P hp' lock st
  | [], _ => trivial
  | _ :: _, ⟨h1, h2, h3, h4⟩ => ⟨h1, Nat.le_trans h2 h, fun k hm => ⟨(h3 k hm).1, fun b hb => hk k (h3 k hm).1 b ((h3 k hm).2 b hb)⟩, h4⟩
theorem KR_app {P : Program} {R0 : Ending → World → Prop} {w0 : World} {L β ν : List Nat} : ∀ {st : List FRm} {hp : List HB} {lock : List Nat}, OkSt P hp lock st → hp.length ≤ β.length → KR P R0 w0 L (β ++ ν) st = KR P R0 w0 L β st
  | [], _, _, _, _ => rfl
  | fr :: st, hp, _, ⟨_, h2, _, h4⟩, hl => by
    unfold KR
    rw [KR_app h4 (by omega), List.take_append_of_le_length (by omega)]
def HsK (P : Program) (R0 : Ending → World → Prop) (w0 : World) (L β : List Nat) (s : KS) : Prop := Hs P s.f (KR P R0 w0 L β s.st) s.fn.ntmps w0 L β s.m
/-- Is a slot a block's that the region makes? -/
def madeIn (t : Nat) : List Oper → Bool
  | [] => false
  | o :: l => match o.op with
    | .alloc _ => match o.dst with
      | some d => match Nat.beq d t with
        | true => true
        | false => madeIn t l
      | none => madeIn t l
    | _ => madeIn t l
/-- The stores of a region, but for those into blocks that it makes. -/
def marksK (all : List Oper) : List Oper → Nat → List Nat
  | [], _ => []
  | o :: l, i => match o.op with
    | .store _ (.tmp t) _ => match madeIn t all with
      | true => marksK all l (i + 1)
      | false => (1000 + i) :: marksK all l (i + 1)
    | _ => marksK all l (i + 1)
def rdK' (ops : Array Oper) (n : Nat) : List Nat := List.range (min n 999) ++ marksK ops.toList ops.toList 0
def condK (n : Nat) (m : SM) : Option SM := match m.r with
  | .no => match m.todo with
    | .code (.cond c x y) :: k => match litB (evS n m.sl c) with
      | some true => some ⟨.no, .code x :: k, m.sl, m.hp⟩
      | some false => some ⟨.no, .code y :: k, m.sl, m.hp⟩
      | none => none
    | .code (.loop c) :: k => some ⟨.no, .code c :: .inLoop c :: k, m.sl, m.hp⟩
    | .inLoop c :: k => some ⟨.no, .code c :: .inLoop c :: k, prune 0 m.sl, m.hp⟩
    | .code (.region _ ops true) :: k => match Region.noSelect ops with
      | true => some ⟨.any ops ops.size 0 (rdK' ops m.hp.length), k, m.sl, m.hp⟩
      | false => none
    | _ => none
  | _ => none
/-- A call of a function by its name: its number, what it is handed. -/
def goK (P : Program) (inl : List FuncId) (m : SM) (n : Nat) : Option (FuncId × Func × List SV) := match curOp m with
  | some o => match gOk m o with
    | true => match o.op with
      | .call c => match c.callee with
        | .value (.func F) => match inl.contains F with
          | true => match P.funcs[F]? with
            | some fn => some (F, fn, c.args.toList.map (evS n m.sl))
            | none => none
          | false => none
        | _ => none
      | _ => none
    | false => none
  | none => none
def okIn (P : Program) (inl : List FuncId) : Bool := inl.all fun F => match P.funcs[F]? with
  | some fn => fn.body.isSome && !(fn.name == "runtime.NumGoroutine")
  | none => false
/-- Two texts that are the same. -/
def eqL : List UInt8 → List UInt8 → Bool
  | [], [] => true
  | a :: l, b :: r => match Nat.beq a.toNat b.toNat with
    | true => eqL l r
    | false => false
  | _, _ => false
theorem eqL_eq : ∀ (l r : List UInt8), eqL l r = (l == r)
  | [], [] => rfl
  | [], _ :: _ => rfl
  | _ :: _, [] => rfl
  | a :: l, b :: r => by
    unfold eqL
    rw [List.cons_beq_cons]
    by_cases h : a = b
    · subst h
      rw [show Nat.beq a.toNat a.toNat = true from Nat.beq_refl _]
      simp only [BEq.rfl, Bool.true_and]
      exact eqL_eq l r
    · have h1 : Nat.beq a.toNat b.toNat = false := beq_false.2 fun e => h (UInt8.toNat_inj.1 e)
      have h2 : (a == b) = false := by simpa using h
      rw [h1, h2]
      rfl
/-- An element of a row. -/
def rowAt (P : Program) (T : TypeId) (cs : List SC) (i : SV) : Option SV := match P.underlying T with
  | some (.array len e) => match i with
    | .c (.v (.int _ (.ofNat j))) => match Nat.blt j len with
      | true => match szB P e with
        | some n => partS P e cs (j * n)
        | none => none
      | false => none
    | _ => none
  | _ => none
/-- Texts compared, rows indexed, a slice of a whole array. -/
def xV (P : Program) (n : Nat) (m : SM) (o : Oper) : Option SV := match o.op with
  | .binOp .eql _ x y _ => match evS n m.sl x with
    | .c (.v (.string a)) => match evS n m.sl y with
      | .c (.v (.string b)) => some (.c (.v (.bool (eqL a.data.toList b.data.toList))))
      | _ => none
    | _ => none
  | .binOp .neq _ x y _ => match evS n m.sl x with
    | .c (.v (.string a)) => match evS n m.sl y with
      | .c (.v (.string b)) => some (.c (.v (.bool (!eqL a.data.toList b.data.toList))))
      | _ => none
    | _ => none
  | .index T x i => match evS n m.sl x with
    | .g cs => rowAt P T cs (evS n m.sl i)
    | _ => none
  | .slice T x none none none => match evS n m.sl x with
    | .c (.p k off) => match P.underlying T with
      | some (.array len e) => match szB P e with
        | some _ => some (.c (.s k off len len))
        | none => none
      | _ => none
    | _ => none
  | _ => none
def strK (P : Program) (n : Nat) (m : SM) : Option SM := match curOp m with
  | some o => match gOk m o with
    | true => match xV P n m o with
      | some v => some (m.put o.dst v m.hp)
      | none => none
    | false => none
  | none => none
/-- Is what is stored not held by a function that waits? -/
def freeK (m : SM) (n : Nat) (lock : List Nat) : Bool := match lock with
  | [] => true
  | _ => match curOp m with
    | some o => match o.op with
      | .store _ x _ => match evS n m.sl x with
        | .c (.p k _) => !(lock.contains k)
        | _ => true
      | _ => true
    | none => true
def stepK (P : Program) (β : List Nat) (inl : List FuncId) (s : KS) : Option KS := match s.m.r with
  | .no => match condK s.fn.ntmps s.m with
    | some m' => some ⟨s.st, s.f, s.fn, m', s.lock⟩
    | none => match ctl s.m with
      | some m' => some ⟨s.st, s.f, s.fn, m', s.lock⟩
      | none => match s.st with
        | [] => none
        | fr :: st => match retS P s.fn s.fn.ntmps s.m with
          | some v => match v.wf s.m.hp.length with
            | true => some ⟨st, fr.f, fr.fn, fr.m.put (dstOf fr.m) v s.m.hp, fr.lock⟩
            | false => none
          | none => none
  | _ => match strK P s.fn.ntmps s.m with
   | some m' => some ⟨s.st, s.f, s.fn, m', s.lock⟩
   | none => match goK P inl s.m s.fn.ntmps with
    | some (F, fn, xs) => match Nat.ble xs.length fn.ntmps with
      | true => some ⟨⟨s.f, s.fn, s.m, s.lock⟩ :: s.st, F, fn, startM fn xs s.m.hp, rdOf s.m ++ s.lock⟩
      | false => none
    | none => match freeK s.m s.fn.ntmps s.lock with
      | true => match oneStepA P s.fn.ntmps β s.m with
        | some m' => some ⟨s.st, s.f, s.fn, m', s.lock⟩
        | none => none
      | false => none
def runK (P : Program) (β : List Nat) (inl : List FuncId) (k : Nat) : KS → KS :=
  Nat.rec (fun s => s) (fun _ ih s => match stepK P β inl s with | some s' => ih s' | none => s) k
section
variable {P : Program} {f : FuncId} {R R0 : Ending → World → Prop} {n : Nat} {β ν : List Nat} {m m' : SM} {w w0 : World} {L : List Nat} {inl : List FuncId} {s s' : KS}
theorem oneStepA_len (h : oneStepA P n β m = some m') : m.hp.length ≤ m'.hp.length := by
  have hg : ∀ {o : Oper}, exGA P n β m o = some m' → m.hp.length ≤ m'.hp.length := fun {o} h => by
    unfold exGA at h
    split at h
    · exact exOp_len h
    · unfold byGuard at h
      split at h
      · injection h with h; subst h; rw [wantM_hp]; exact Nat.le_refl _
      · injection h with h; subst h; rw [wantM_hp]; exact Nat.le_refl _
      · injection h with h; subst h; exact Nat.le_refl _
      · injection h with h; subst h; exact Nat.le_refl _
      · injection h with h; subst h; exact Nat.le_refl _
      · cases h
  unfold oneStepA at h
  split at h
  · rename_i hr
    unfold ctl at h
    split at h
    · injection h with h; subst h; exact Nat.le_refl _
    · injection h with h; subst h; exact Nat.le_refl _
    · injection h with h; subst h; exact Nat.le_refl _
    · injection h with h; subst h; exact Nat.le_refl _
    · injection h with h; subst h; exact Nat.le_refl _
    · injection h with h; subst h; exact Nat.le_refl _
    · injection h with h; subst h; exact Nat.le_refl _
    · split at h
      · injection h with h; subst h; exact Nat.le_refl _
      · cases h
    · injection h with h; subst h; exact Nat.le_refl _
    · cases h
  · injection h with h; subst h; exact Nat.le_refl _
  · split at h
    · exact hg h
    · cases h
  · split at h
    · exact hg h
    · cases h
  · split at h
    · exact exOp_len h
    · cases h
  · split at h
    · exact exOp_len h
    · cases h
  · split at h
    · injection h with h; subst h; exact Nat.le_refl _
    · split at h
      · cases h
      · split at h
        · injection h with h; subst h; exact Nat.le_refl _
        · split at h
          · injection h with h; subst h; exact Nat.le_refl _
          · cases h
theorem rowAt_run {T : TypeId} {cs : List SC} {i v : SV} (h : rowAt P T cs i = some v) (w : World) : (Instr.index T (.agg (dens β cs).toArray) (i.den β)).run P w = .ok (v.den β) w := by
  unfold rowAt at h
  split at h
  · rename_i len e hu
    split at h
    · rename_i kd j
      split at h
      · rename_i hlt
        split at h
        · rename_i n hn
          have hlt := Nat.le_of_ble_eq_true hlt
          have h1 : (0 : Int) ≤ Int.ofNat j ∧ Int.ofNat j < (len : Int) := ⟨by exact Int.natCast_nonneg j, by show (j : Int) < (len : Int); exact_mod_cast hlt⟩
          have hp := run_part_S (β := β) (w := w) h
          simp only [Instr.index, SV.den, SC.den, asIntOf, Sem.run_bind, Sem.run_pure, Result.andThen_ok, run_underlying hu w]
          rw [if_pos h1]
          simp only [Sem.run_bind, run_sizeB hn w, Result.andThen_ok]
          exact hp
        · cases h
      · cases h
    · cases h
  · cases h
theorem rowAt_wf {T : TypeId} {cs : List SC} {i v : SV} {k : Nat} (h : rowAt P T cs i = some v) (hw : cs.all (SC.wf k) = true) : v.wf k = true := by
  unfold rowAt at h
  split at h
  · split at h
    · split at h
      · split at h
        · exact partS_wf h hw
        · cases h
      · cases h
    · cases h
  · cases h
theorem xV_run {o : Oper} {v : SV} (W : m.wf = true) (h : xV P n m o = some v) (w : World) : (execOp (fun x => (evS n m.sl x).den β) o).run P w = .ok (.value (v.den β)) w ∧ v.wf m.hp.length = true := by
  unfold xV at h
  split at h
  · rename_i T x y ci ho
    split at h
    · rename_i a ha
      split at h
      · rename_i b hb
        injection h with h; subst h
        refine ⟨?_, rfl⟩
        have e : eqL a.data.toList b.data.toList = (a.toList == b.toList) := by rw [eqL_eq, ByteArray.toList_eq, ByteArray.toList_eq]
        rw [e]
        unfold execOp
        rw [ho]
        dsimp only
        rw [show (evS n m.sl x).den β = .string a by rw [ha]; rfl, show (evS n m.sl y).den β = .string b by rw [hb]; rfl]
        rfl
      · cases h
    · cases h
  · rename_i T x y ci ho
    split at h
    · rename_i a ha
      split at h
      · rename_i b hb
        injection h with h; subst h
        refine ⟨?_, rfl⟩
        have e : eqL a.data.toList b.data.toList = (a.toList == b.toList) := by rw [eqL_eq, ByteArray.toList_eq, ByteArray.toList_eq]
        rw [e]
        unfold execOp
        rw [ho]
        dsimp only
        rw [show (evS n m.sl x).den β = .string a by rw [ha]; rfl, show (evS n m.sl y).den β = .string b by rw [hb]; rfl]
        rfl
      · cases h
    · cases h
  · rename_i T x i ho
    split at h
    · rename_i cs hx
      refine ⟨?_, rowAt_wf h ?_⟩
      · unfold execOp
        rw [ho]
        dsimp only
        rw [show (evS n m.sl x).den β = .agg (dens β cs).toArray by rw [hx]; rfl]
        simp only [Sem.run_bind, rowAt_run h w, Result.andThen_ok, Sem.run_pure]
      · have := evS_wf W x (n := n)
        rw [hx] at this
        exact this
    · cases h
  · rename_i T x ho
    split at h
    · rename_i k off hx
      split at h
      · rename_i len e hu
        split at h
        · rename_i sz hsz
          injection h with h; subst h
          refine ⟨?_, ?_⟩
          · unfold execOp
            rw [ho]
            dsimp only
            rw [show (evS n m.sl x).den β = .pointer (some ⟨nm β k, off, none⟩) by rw [hx]; rfl]
            simp only [Option.map_none, Instr.sliceAt, Instr.sliceBounds, Instr.sureAddr, Sem.run_bind, run_underlying hu w, Result.andThen_ok, Sem.run_pure, run_sizeB hsz w, Nat.zero_mul, Nat.sub_zero]
            split <;> simp [Addr.add_mid, SV.den, SC.den]
          · have := evS_wf W x (n := n)
            rw [hx] at this
            exact this
        · cases h
      · cases h
    · cases h
  · cases h
theorem strK_sound {f : FR} (h : strK P n m = some m') (H : Mem w0 L β m.hp w) (W : m.wf = true) : m'.hp = m.hp ∧ m'.wf = true ∧ (Gs P f R n β m' w → Gs P f R n β m w) := by
  unfold strK at h
  split at h
  · rename_i o ho
    split at h
    · rename_i hg
      split at h
      · rename_i v hv
        injection h with h; subst h
        obtain ⟨hrun, hwf⟩ := xV_run (β := β) (P := P) W hv w
        refine ⟨rfl, ?_, fun g => Gs.val ho hg hrun g⟩
        simp only [SM.wf, SM.put, Bool.and_eq_true]
        exact ⟨putS_wf (SM.wf_sl W) hwf, SM.wf_hp W⟩
      · cases h
    · cases h
  · cases h
theorem exOp_keep {o : Oper} {lock : List Nat} (ho : curOp m = some o) (hfree : freeK m n lock = true) (h : exOp P n β m o = some m') : ∀ k ∈ lock, ∀ b, m.hp[k]? = some b → m'.hp[k]? = some b := fun k hk b hb => by
  unfold exOp at h
  split at h
  · cases h
  · split at h
    · injection h with h; subst h; exact hb
    · split at h
      · split at h
        · split at h
          · injection h with h; subst h; exact hb
          · cases h
        · cases h
      · split at h
        · rw [forceN_eq] at h
          injection h with h; subst h
          show (m.hp ++ _)[k]? = some b
          rw [List.getElem?_append_left (List.getElem?_eq_some_iff.1 hb).1]
          exact hb
        · rename_i k0 off T cs ds he
          split at h
          · injection h with h; subst h
            obtain ⟨t, x, y, h1, h2, h3, h4, h5, h6, h7⟩ := seff_store_spec he
            have hne : k0 ≠ k := fun e => by
              subst e
              unfold freeK at hfree
              split at hfree
              · cases hk
              · rw [ho] at hfree
                dsimp only at hfree
                rw [h1] at hfree
                dsimp only at hfree
                rw [h2] at hfree
                simp only [Bool.not_eq_true'] at hfree
                have := List.contains_iff_mem.2 hk
                rw [this] at hfree
                cases hfree
            show (m.hp.set k0 _)[k]? = some b
            rw [List.getElem?_set_ne hne]
            exact hb
          · cases h
        · cases h
theorem oneStepA_keep {lock : List Nat} (hfree : freeK m n lock = true) (h : oneStepA P n β m = some m') : ∀ k ∈ lock, ∀ b, m.hp[k]? = some b → m'.hp[k]? = some b := fun k hk b hb => by
  have hg : ∀ {o : Oper}, curOp m = some o → exGA P n β m o = some m' → m'.hp[k]? = some b := fun {o} ho h => by
    unfold exGA at h
    split at h
    · exact exOp_keep ho hfree h k hk b hb
    · unfold byGuard at h
      split at h
      · injection h with h; subst h; rw [wantM_hp]; exact hb
      · injection h with h; subst h; rw [wantM_hp]; exact hb
      · injection h with h; subst h; exact hb
      · injection h with h; subst h; exact hb
      · injection h with h; subst h; exact hb
      · cases h
  unfold oneStepA at h
  split at h
  · rename_i hr
    unfold ctl at h
    split at h
    · injection h with h; subst h; exact hb
    · injection h with h; subst h; exact hb
    · injection h with h; subst h; exact hb
    · injection h with h; subst h; exact hb
    · injection h with h; subst h; exact hb
    · injection h with h; subst h; exact hb
    · injection h with h; subst h; exact hb
    · split at h
      · injection h with h; subst h; exact hb
      · cases h
    · injection h with h; subst h; exact hb
    · cases h
  · injection h with h; subst h; exact hb
  · rename_i hr
    split at h
    · rename_i o ho
      exact hg (by simp [curOp, hr, ho]) h
    · cases h
  · rename_i hr
    split at h
    · rename_i o ho
      exact hg (by simp [curOp, hr, ho]) h
    · cases h
  · rename_i hr
    split at h
    · rename_i o ho
      exact exOp_keep (by simp [curOp, hr, ho]) hfree h k hk b hb
    · cases h
  · rename_i hr
    split at h
    · rename_i o ho
      exact exOp_keep (by simp [curOp, hr, ho]) hfree h k hk b hb
    · cases h
  · split at h
    · injection h with h; subst h; exact hb
    · split at h
      · cases h
      · split at h
        · injection h with h; subst h; exact hb
        · split at h
          · injection h with h; subst h; exact hb
          · cases h
/-- Back into the caller; what it holds is held. -/
theorem Hs.retJ {F : FuncId} {fn : Func} {n0 : Nat} {β0 : List Nat} {m0 : SM} (hf : P.funcs[F]? = some fn) (hr : ((retS P fn n m).isSome && ((resOf P fn n m).wf m.hp.length && Nat.ble m0.hp.length m.hp.length)) = true) (hβ : β = β0 ++ β.drop β0.length)
    (hrd : ∀ k ∈ rdOf m0, ∀ h, m0.hp[k]? = some h → m.hp[k]? = some h) (h : Hs P f R n0 w0 L β (m0.put (dstOf m0) (resOf P fn n m) m.hp)) : Hs P F (InR P f R n0 w0 L β0 m0) n w0 L β m := by
  simp only [Bool.and_eq_true] at hr
  obtain ⟨h1, h2, h3⟩ := hr
  obtain ⟨v, hv⟩ := Option.isSome_iff_exists.1 h1
  have e : resOf P fn n m = v := by unfold resOf; rw [hv]; rfl
  rw [e] at h h2
  refine ⟨fun w H W => ?_⟩
  refine (Hs.ret hf (retS_of hv) (fun w' H' => ?_)).go w H W
  refine ⟨β.drop β0.length, v, m.hp, by rw [← hβ], by rw [← hβ]; exact H', ?_, hrd, by rw [← hβ]; exact h⟩
  rw [h2, h3, SM.wf_hp W]; rfl
theorem slotsOf_wf {k : Nat} : ∀ {xs : List SV} {i : Nat}, (∀ x ∈ xs, x.wf k = true) → (slotsOf xs i).wf k = true
  | [], _, _ => rfl
  | x :: l, i, h => by
    simp only [slotsOf, Slots.wf, Bool.and_eq_true]
    exact ⟨h x List.mem_cons_self, slotsOf_wf fun y hy => h y (List.mem_cons_of_mem _ hy)⟩
theorem goK_spec {F : FuncId} {fn : Func} {xs : List SV} (hin : okIn P inl = true) (h : goK P inl m n = some (F, fn, xs)) : callOf P n β m = some (F, (xs.map (SV.den β)).toArray) ∧ P.funcs[F]? = some fn ∧ fn.body.isSome = true ∧ (m.wf = true → ∀ x ∈ xs, x.wf m.hp.length = true) := by
  unfold goK at h
  split at h
  · rename_i o ho
    split at h
    · rename_i hg
      split at h
      · rename_i c hc
        split at h
        · rename_i F' hcal
          split at h
          · rename_i hcon
            split at h
            · rename_i fn' hF
              injection h with h
              injection h with h1 h2
              injection h2 with h2 h3
              subst h1; subst h2; subst h3
              have hok := List.all_eq_true.1 hin F' (by simpa using hcon)
              rw [hF] at hok
              simp only [Bool.and_eq_true, Bool.not_eq_true'] at hok
              refine ⟨?_, hF, hok.1, fun W x hx => ?_⟩
              · unfold callOf
                rw [ho]
                dsimp only
                rw [hg]
                dsimp only
                have hb : fn'.body.isNone = false := by
                  cases hbb : fn'.body with
                  | none => rw [hbb] at hok; cases hok.1
                  | some _ => rfl
                have e : pureOut P (execOp (fun x => (evS n m.sl x).den β) o) = some (.enter F' ((c.args.toList.map (evS n m.sl)).map (SV.den β)).toArray) := by
                  unfold execOp
                  rw [hc]
                  dsimp only
                  unfold resolve
                  rw [hcal]
                  dsimp only
                  have ev : (evS n m.sl (.func F')).den β = .func (.func F') #[] #[] := rfl
                  rw [ev]
                  show pureOut P (invoke (.fn (.func F') #[]) (#[] ++ c.args.map fun x => (evS n m.sl x).den β)) = _
                  unfold invoke
                  dsimp only
                  have hprog : ∀ (k : Program → Sem Next), pureOut P (program >>= k) = pureOut P (k P) := fun k => rfl
                  unfold callFunc
                  rw [hprog]
                  rw [hF]
                  dsimp only
                  rw [hok.2, hb]
                  simp only [Bool.false_eq_true, if_false]
                  show some (Next.enter F' _) = _
                  congr 2
                  apply Array.ext'
                  simp [Function.comp_def]
                rw [e]
              · obtain ⟨y, _, rfl⟩ := List.mem_map.1 hx
                exact evS_wf W y
            · cases h
          · cases h
        · cases h
      · cases h
    · cases h
  · cases h
theorem condK_hp (h : condK n m = some m') : m'.hp = m.hp := by
  unfold condK at h
  split at h
  · split at h
    · split at h
      · injection h with h; subst h; rfl
      · injection h with h; subst h; rfl
      · cases h
    · injection h with h; subst h; rfl
    · injection h with h; subst h; rfl
    · split at h
      · injection h with h; subst h; rfl
      · cases h
    · cases h
  · cases h
theorem condK_sound (hfol : P.follows .mixedOrders = true) (h : condK n m = some m') (k : Hs P f R n w0 L β m') : Hs P f R n w0 L β m := by
  obtain ⟨r, todo, sl, hp⟩ := m
  unfold condK at h
  dsimp only at h
  split at h
  · split at h
    · rename_i c x y t
      split at h
      · rename_i hl
        injection h with h; subst h
        exact Hs.cond true (by show some ((evS n sl c).den β) = _; rw [litB_spec hl]) (fun _ => k) (fun h => by cases h)
      · rename_i hl
        injection h with h; subst h
        exact Hs.cond false (by show some ((evS n sl c).den β) = _; rw [litB_spec hl]) (fun h => by cases h) (fun _ => k)
      · cases h
    · injection h with h; subst h
      exact Hs.loop rfl k
    · rename_i c t
      injection h with h; subst h
      refine Hs.loop rfl ⟨fun w H W => ?_⟩
      have g := k.go w H (by
        simp only [SM.wf, Bool.and_eq_true] at W ⊢
        exact ⟨prune_wf W.1, W.2⟩)
      show Goes P f R _ (fr n β sl) w
      have g' : Goes P f R (.code c :: .inLoop c :: t) (fr n β (prune 0 sl)) w := g
      rw [fr_prune] at g'
      exact g'
    · rename_i id ops t
      split at h
      · rename_i hns
        injection h with h; subst h
        have e : anyOf (rdK' ops hp.length) ⟨.no, .code (.region id ops true) :: t, sl, hp⟩ = some ⟨.any ops ops.size 0 (rdK' ops hp.length), t, sl, hp⟩ := by
          unfold anyOf
          dsimp only
          rw [hns]
        refine Hs.any (rdK' ops hp.length) (by rw [hfol, e]; rfl) ?_
        unfold anyM
        rw [e]
        exact k
      · cases h
    · cases h
  · cases h
theorem stepK_app (hl : β.length = s.m.hp.length) (W : s.m.wf = true) : stepK P (β ++ ν) inl s = stepK P β inl s := by
  unfold stepK
  rw [oneStepA_app hl W]
theorem runK_sound (hfol : P.follows .mixedOrders = true) (hin : okIn P inl = true) : ∀ (k : Nat) (β : List Nat) (s : KS), P.funcs[s.f]? = some s.fn → OkSt P s.m.hp s.lock s.st → (∀ ν, HsK P R0 w0 L (β ++ ν) (runK P (β ++ ν) inl k s)) → HsK P R0 w0 L β s
  | 0, β, s, _, _, h => by
    have := h []
    rw [List.append_nil] at this
    exact this
  | k + 1, β, s, hf, O, h => by
    refine ⟨fun w H W => ?_⟩
    have hl := H.len
    cases hs : stepK P β inl s with
    | none =>
      have h0 := h []
      rw [List.append_nil] at h0
      have e : runK P β inl (k + 1) s = s := by
        show (match stepK P β inl s with | some s' => runK P β inl k s' | none => s) = s
        rw [hs]
      rw [e] at h0
      exact h0.go w H W
    | some s' =>
      have h' : ∀ ν, HsK P R0 w0 L (β ++ ν) (runK P (β ++ ν) inl k s') := fun ν => by
        have h0 := h ν
        have e : runK P (β ++ ν) inl (k + 1) s = runK P (β ++ ν) inl k s' := by
          show (match stepK P (β ++ ν) inl s with | some s' => runK P (β ++ ν) inl k s' | none => s) = _
          rw [stepK_app hl W, hs]
        rw [e] at h0
        exact h0
      have ih := runK_sound hfol hin k
      unfold stepK at hs
      split at hs
      · rename_i hr
        split at hs
        · rename_i m' hc
          injection hs with hs; subst hs
          refine (condK_sound hfol hc ?_).go w H W
          exact ih β ⟨s.st, s.f, s.fn, m', s.lock⟩ hf (by rw [condK_hp hc]; exact O) h'
        · split at hs
          · rename_i m' hc
            injection hs with hs; subst hs
            obtain ⟨h1, h2, h3⟩ := ctl_sound (f := s.f) (R := KR P R0 w0 L β s.st) (n := s.fn.ntmps) (β := β) (w := w) W hr hc
            exact h3 ((ih β ⟨s.st, s.f, s.fn, m', s.lock⟩ hf (by rw [h1]; exact O) h').go w (by rw [h1]; exact H) h2)
          · split at hs
            · cases hs
            · rename_i fr st hst
              split at hs
              · rename_i v hv
                split at hs
                · rename_i hwf
                  injection hs with hs; subst hs
                  rw [hst] at O ⊢
                  obtain ⟨g1, g2, g3, g4⟩ := O
                  have er : resOf P s.fn s.fn.ntmps s.m = v := by unfold resOf; rw [hv]; rfl
                  have key : Hs P fr.f (KR P R0 w0 L β st) fr.fn.ntmps w0 L β (fr.m.put (dstOf fr.m) (resOf P s.fn s.fn.ntmps s.m) s.m.hp) := by
                    rw [er]
                    exact ih β ⟨st, fr.f, fr.fn, fr.m.put (dstOf fr.m) v s.m.hp, fr.lock⟩ g1 (g4.mono g2 fun k hk => (g3 k (by simp [hk])).2) h'
                  have hq : fr.m.hp.length ≤ β.length := by omega
                  refine (Hs.retJ (n := s.fn.ntmps) (f := fr.f) (R := KR P R0 w0 L β st) (n0 := fr.fn.ntmps) (β0 := β.take fr.m.hp.length) (m0 := fr.m) hf ?_ ?_ ?_ key).go w H W
                  · rw [hv, er, hwf]
                    simp only [Option.isSome_some, Bool.true_and, Nat.ble_eq]
                    exact g2
                  · rw [List.length_take, Nat.min_eq_left hq, List.take_append_drop]
                  · exact fun k hk => (g3 k (by simp [hk])).2
                · cases hs
              · cases hs
      · split at hs
        · rename_i m' hc
          injection hs with hs; subst hs
          obtain ⟨h1, h2, h3⟩ := strK_sound (P := P) (f := s.f) (R := KR P R0 w0 L β s.st) hc H W
          exact h3 ((ih β ⟨s.st, s.f, s.fn, m', s.lock⟩ hf (by rw [h1]; exact O) h').go w (by rw [h1]; exact H) h2)
        split at hs
        · rename_i F fn xs hgo
          split at hs
          · rename_i hle
            injection hs with hs; subst hs
            obtain ⟨c1, c2, c3, c4⟩ := goK_spec (β := β) hin hgo
            refine (Hs.inl c2 xs c1 ?_ ?_).go w H W
            · simp only [hle, c3, Bool.true_and]
              simp only [startM, SM.wf, Bool.and_eq_true]
              exact ⟨slotsOf_wf (c4 W), SM.wf_hp W⟩
            · have := ih β ⟨⟨s.f, s.fn, s.m, s.lock⟩ :: s.st, F, fn, startM fn xs s.m.hp, rdOf s.m ++ s.lock⟩ c2 ⟨hf, Nat.le_refl _, fun k hk => ⟨hk, fun b hb => hb⟩, O⟩ h'
              unfold HsK KR at this
              dsimp only at this
              rw [List.take_of_length_le (by omega)] at this
              exact this
          · cases hs
        · split at hs
          · rename_i hfree
            split at hs
            · rename_i m' hstep
              injection hs with hs; subst hs
              have hlen := oneStepA_len hstep
              have hkeep := oneStepA_keep hfree hstep
              refine oneStepA_sound H W hstep fun ν w' H' W' => ?_
              have := (ih (β ++ ν) ⟨s.st, s.f, s.fn, m', s.lock⟩ hf (O.mono hlen hkeep) (fun ν' => by
                rw [List.append_assoc]
                exact h' (ν ++ ν'))).go w' H' W'
              rw [KR_app O (by omega)] at this
              exact this
            · cases hs
          · cases hs
/-- A run with its calls, back from all of them. -/
theorem Hs.runK (inl : List FuncId) (k j : Nat) {fn : Func} (hf : P.funcs[f]? = some fn) (hn : fn.ntmps = n) (hin : (P.follows .mixedOrders && okIn P inl) = true) (hj : ∀ ν, Nat.beq (Go.Proofs.YtmmcamkmglpgiaaGreatDoor.runK P (β ++ ν) inl k ⟨[], f, fn, m, []⟩).m.hp.length (β.length + j) = true) (he : ∀ ν, Go.Proofs.YtmmcamkmglpgiaaGreatDoor.runK P (β ++ ν) inl k ⟨[], f, fn, m, []⟩ = ⟨[], f, fn, (Go.Proofs.YtmmcamkmglpgiaaGreatDoor.runK P (β ++ ν) inl k ⟨[], f, fn, m, []⟩).m, []⟩) (h : ∀ ν : List Nat, ν.length = j → Hs P f R n w0 L (β ++ ν) (Go.Proofs.YtmmcamkmglpgiaaGreatDoor.runK P (β ++ ν) inl k ⟨[], f, fn, m, []⟩).m) : Hs P f R n w0 L β m := by
  simp only [Bool.and_eq_true] at hin
  subst hn
  refine runK_sound (R0 := R) (w0 := w0) (L := L) hin.1 hin.2 k β ⟨[], f, fn, m, []⟩ hf trivial fun ν => ?_
  have hl := Nat.eq_of_beq_eq_true (hj ν)
  rw [he ν]
  refine ⟨fun w H W => ?_⟩
  have e : ν.length = j := by
    have := H.len
    dsimp only at this
    rw [hl, List.length_append] at this
    omega
  exact (h ν e).go w H W
end
end Go.Proofs.YtmmcamkmglpgiaaGreatDoor

namespace Go.Proofs.YtmmcamkmglpgiaaGreatDoor
set_option linter.all false
set_option maxRecDepth 100000
open Go.RowKit

/-- Whatever stays with all of L, of which all of G are, stays with them anew. -/
def TurnsL (w w' : World) (G : List Nat) (Q Q' : World → Prop) : Prop := ∀ L : List Nat, (∀ x ∈ L, x < w.heap.size) → (∀ x ∈ G, x ∈ L) → Keeps w L Q → Keeps w' L Q'
section
variable {w w0 w1 w2 w' : World} {L L1 L' β G : List Nat} {hp : List HB} {g p : Nat} {Q Q' Q'' F D0 D1 D2 : World → Prop}
theorem TurnsL.of (h : Turns w w' g Q Q') (hg : g ∈ G) : TurnsL w w' G Q Q' := fun L hL hG hk => h L hL (hG g hg) hk
theorem TurnsL.same (O : Only G w w') : TurnsL w w' G Q Q := fun L _ hg h => h.go (O.mono hg)
theorem TurnsL.trans (O : Only G w w1) (h : TurnsL w w1 G Q Q') (h' : TurnsL w1 w2 G Q' Q'') : TurnsL w w2 G Q Q'' := fun L hL hg hk => h' L (fun x hx => Nat.lt_of_lt_of_le (hL x hx) O.size) hg (h L hL hg hk)
theorem TurnsL.imp (h : TurnsL w w' G Q Q') (f : ∀ w, Q' w → Q'' w) : TurnsL w w' G Q Q'' := fun L hL hg hk => (h L hL hg hk).imp f
theorem TurnsL.andR (O : Only G w w') (h : TurnsL w w' G Q Q') : TurnsL w w' G (fun w => Q w ∧ F w) (fun w => Q' w ∧ F w) := fun L hL hg hk =>
  (h L hL hg (hk.imp fun _ h => h.1)).and ((hk.imp fun _ h => h.2).go (O.mono hg))
/-- A call that turns G, at a later world of it; what is known of the rest. -/
structure Gx (w : World) (G : List Nat) (D0 : World → Prop) (w1 : World) (L1 : List Nat) (D1 : World → Prop) : Prop where
  back : Back w G w1 L1
  mem : ∀ x ∈ L1, x ∈ G ∨ w.heap.size ≤ x
  has : ∀ x ∈ G, x ∈ L1
  size : w.heap.size ≤ w1.heap.size
  old : ∀ x ∈ G, x < w.heap.size
  k0 : Keeps w G D0
  keep : ∀ L : List Nat, (∀ x ∈ L, x < w.heap.size) → (∀ x ∈ G, x ∈ L) → Keeps w L D0 → Keeps w1 (L ++ L1) D1
theorem Gx.start (hk : Keeps w G D0) (hg : ∀ x ∈ G, x < w.heap.size) : Gx w G D0 w G D0 :=
  ⟨Back.refl, fun x hx => .inl hx, fun x hx => hx, Nat.le_refl _, hg, hk, fun L _ hg hk => hk.mono fun x hx => by
    rcases List.mem_append.1 hx with h | h
    · exact h
    · exact hg x h⟩
theorem Gx.keeps (C : Gx w G D0 w1 L1 D1) : Keeps w1 L1 D1 := (C.keep G C.old (fun _ h => h) C.k0).mono fun x hx => by simp [hx]
theorem Gx.now (C : Gx w G D0 w1 L1 D1) (H : Mem w1 L1 β hp w') : D1 w' := C.keeps.now H
theorem Gx.keepsAt (C : Gx w G D0 w1 L1 D1) (H : Mem w1 L1 β hp w') (hL : ∀ x ∈ L', x ∈ L1 ∨ w1.heap.size ≤ x) : Keeps w' L' D1 := C.keeps.goN H.only (fun x hx => .inl hx) hL
theorem Gx.imp (C : Gx w G D0 w1 L1 D1) (f : ∀ w, D1 w → D2 w) : Gx w G D0 w1 L1 D2 := ⟨C.back, C.mem, C.has, C.size, C.old, C.k0, fun L hL hg hk => (C.keep L hL hg hk).imp f⟩
theorem Gx.only (C : Gx w G D0 w1 L1 D1) (H : Mem w1 L1 β hp w') : Only G w w' := C.back w' H.only
theorem Gx.turns (C : Gx w G D0 w1 L1 D1) (H : Mem w1 L1 β hp w') : TurnsL w w' G D0 D1 := fun L hL hg hk =>
  (C.keep L hL hg hk).goN H.only (fun x hx => .inl (by simp [hx])) (fun x hx => .inl (by simp [hx]))
theorem Gx.move {G' : List Nat} (C : Gx w G D0 w1 L1 D1) (H : Mem w1 L1 β hp w2) (O : Only G' w2 w') (T : TurnsL w2 w' G' D1 D2) (hgm : ∀ x ∈ G', x ∈ wrN β hp) (hGm : ∀ x ∈ G, x ∈ wrN β hp) : Gx w G D0 w' (wrN β hp) D2 := by
  have hO := H.only
  have key := Nx.key H
  refine ⟨fun w3 O3 => C.back w3 ?_, fun x hx => ?_, hGm, Nat.le_trans C.size (Nat.le_trans hO.size O.size), C.old, C.k0, fun L hL hg hk => ?_⟩
  · exact (hO.trans O (fun x hx => key x (hgm x hx))).trans O3 key
  · rcases key x hx with h | h
    · exact C.mem x h
    · exact .inr (by have := C.size; omega)
  · have h1 := C.keep L hL hg hk
    have h2 : Keeps w2 (L ++ wrN β hp) D1 := h1.goN hO (fun x hx => .inl (by simp [hx])) (fun x hx => by
      rcases List.mem_append.1 hx with h | h
      · exact .inl (by simp [h])
      · rcases key x h with h | h
        · exact .inl (by simp [h])
        · exact .inr h)
    refine T _ (fun x hx => ?_) (fun x hx => by simp [hgm x hx]) h2
    rcases List.mem_append.1 hx with h | h
    · have := hL x h; have := C.size; have := hO.size; omega
    · exact H.wrN_lt x h
theorem Nx.moveG {G' : List Nat} (C : Nx w w1 L1 D1) (H : Mem w1 L1 β hp w2) (O : Only G' w2 w') (T : TurnsL w2 w' G' D1 D2) (hg : ∀ x ∈ G', x ∈ wrN β hp) : Nx w w' (wrN β hp) D2 := by
  have hO := H.only
  have key := Nx.key H
  refine ⟨fun w3 O3 => C.back w3 ?_, fun x hx => ?_, Nat.le_trans C.size (Nat.le_trans hO.size O.size), fun L hL => ?_⟩
  · exact (hO.trans O (fun x hx => key x (hg x hx))).trans O3 key
  · rcases key x hx with h | h
    · exact C.mem x h
    · have := C.size; omega
  · refine T _ (fun x hx => ?_) (fun x hx => by simp [hg x hx]) ?_
    · rcases List.mem_append.1 hx with h | h
      · have := hL x h; have := C.size; have := hO.size; omega
      · exact H.wrN_lt x h
    · exact (C.keep L hL).goN hO (fun x hx => .inl (by simp [hx])) (fun x hx => by
        rcases List.mem_append.1 hx with h | h
        · exact .inl (by simp [h])
        · rcases key x h with h | h
          · exact .inl (by simp [h])
          · exact .inr h)
/-- Two blocks turn. -/
theorem Mem.put2 {k1 k2 T1 T2 : Nat} {c1 c2 c1' c2' : List SC} (H : Mem w0 L β hp w) (h1 : hp[k1]? = some (.b true T1 c1)) (h2 : hp[k2]? = some (.b true T2 c2)) (hne : k1 ≠ k2) (O : Only [nm β k1, nm β k2] w w') (B1 : Blk w' (nm β k1) T1 (dens β c1')) (B2 : Blk w' (nm β k2) T2 (dens β c2')) : Mem w0 L β ((hp.set k1 (.b true T1 c1')).set k2 (.b true T2 c2')) w' := by
  refine H.turn O (fun x hx => ?_) (by simp) fun j h' hj => ?_
  · simp only [List.mem_cons, List.not_mem_nil, or_false] at hx
    rcases hx with rfl | rfl
    · exact H.own k1 _ _ h1 rfl rfl
    · exact H.own k2 _ _ h2 rfl rfl
  · by_cases e2 : k2 = j
    · subst e2
      have hl : k2 < hp.length := (List.getElem?_eq_some_iff.1 h2).1
      rw [List.getElem?_set_self (by simpa using hl)] at hj
      injection hj with hj
      subst hj
      exact .inr (.inr ⟨_, h2, rfl, rfl, B2⟩)
    · rw [List.getElem?_set_ne e2] at hj
      by_cases e1 : k1 = j
      · subst e1
        have hl : k1 < hp.length := (List.getElem?_eq_some_iff.1 h1).1
        rw [List.getElem?_set_self hl] at hj
        injection hj with hj
        subst hj
        exact .inr (.inr ⟨_, h1, rfl, rfl, B1⟩)
      · rw [List.getElem?_set_ne e1] at hj
        refine .inr (.inl ⟨hj, fun x hx hm => ?_⟩)
        simp only [List.mem_cons, List.not_mem_nil, or_false] at hm
        rcases hm with rfl | rfl
        · exact e1 (H.inj k1 j _ _ _ h1 hj rfl hx)
        · exact e2 (H.inj k2 j _ _ _ h2 hj rfl hx)
end
section
variable {P : Program} {f : FR} {R : Ending → World → Prop} {n : Nat} {w0 w00 : World} {L G : List Nat} {β : List Nat} {m : SM} {D0 D1 : World → Prop}
/-- A block's cells, written otherwise. -/
theorem Hs.reb (k : Nat) {T : TypeId} {cs : List SC} (cs' : List SC) (hk : m.hp[k]? = some (.b true T cs)) (hd : dens β cs = dens β cs') (hwf : cs'.all (SC.wf m.hp.length) = true) (hr : (match m.r with | .no => true | .lst .. => true | .lstN .. => true | _ => false) = true) (h : Hs P f R n w0 L β ⟨m.r, m.todo, m.sl, m.hp.set k (.b true T cs')⟩) : Hs P f R n w0 L β m := by
  refine ⟨fun w H W => ?_⟩
  have hl : k < m.hp.length := (List.getElem?_eq_some_iff.1 hk).1
  have H' : Mem w0 L β (m.hp.set k (.b true T cs')) w := H.turn (Only.refl [] w) (by simp) (by simp) fun j h' hj => by
    by_cases e : k = j
    · subst e
      rw [List.getElem?_set_self hl] at hj
      injection hj with hj
      subst hj
      refine .inr (.inr ⟨_, hk, rfl, rfl, ?_⟩)
      have := H.at k hk
      rw [hd] at this
      exact this
    · rw [List.getElem?_set_ne e] at hj
      exact .inr (.inl ⟨hj, by simp⟩)
  have g2 := h.go w H' (by
    simp only [SM.wf, Bool.and_eq_true] at W ⊢
    rw [List.length_set]
    refine ⟨W.1, List.all_eq_true.2 fun y hy => ?_⟩
    rcases List.mem_or_eq_of_mem_set hy with hy | rfl
    · exact List.all_eq_true.1 W.2 y hy
    · exact hwf)
  obtain ⟨r, todo, sl, hp⟩ := m
  cases r with
  | no => exact g2
  | lst => exact g2
  | lstN => exact g2
  | _ => cases hr
/-- A call that turns one block of ours. -/
theorem Hs.call1 {X : Type} (k : Nat) {g : Nat} {T : TypeId} {cs0 : List SC} (v : X → Value) (cs : X → List SC) {Fn : FuncId} {args : Array Value} (Q : X → World → World → Prop)
    (hβ : β[k]? = some g) (hk : m.hp[k]? = some (.b true T cs0))
    (hC : ∀ w, Mem w0 L β m.hp w → Blk w g T (dens β cs0) → Calls P Fn args w fun e w' => ∃ x, e = .returned (v x) ∧ Only [g] w w' ∧ Blk w' g T (dens β (cs x)) ∧ Q x w w')
    (hc : callOf P n β m = some (Fn, args)) (hrd : rdOf m = []) (hwf : ∀ x, (cs x).all (SC.wf m.hp.length) = true)
    (h : ∀ x w w', Mem w0 L β m.hp w → Only [g] w w' → Q x w w' → Hs P f R n w' (wrN β m.hp) β (m.put (dstOf m) (.c (.v (v x))) (m.hp.set k (.b true T (cs x))))) : Hs P f R n w0 L β m := by
  have hnm := nm_get hβ
  refine ⟨fun w H W => ?_⟩
  unfold callOf at hc
  split at hc
  · rename_i o ho
    split at hc
    · rename_i hg
      split at hc
      · rename_i F' args' hp
        injection hc with hc
        injection hc with h1 h2
        subst h1; subst h2
        have hd : dstOf m = o.dst := by unfold dstOf; rw [ho]
        rw [hd] at h
        refine Gs.op ho hg ?_
        unfold Oper.wp
        rw [fr_eval, pureOut_run P _ _ hp w]
        refine Calls.mono (hC w H (by have := H.at k hk; rw [hnm] at this; exact this)) ?_
        rintro e w' ⟨x, rfl, O, hB, hT⟩
        have H' := H.put hk (by rw [hnm]; exact O) (by rw [hnm]; exact hB : Blk w' (nm β k) T (dens β (cs x)))
        have hwr : wrN β (m.hp.set k (.b true T (cs x))) = wrN β m.hp := wrN_set (h := .b true T cs0) (h' := .b true T (cs x)) rfl (fun _ => rfl) hk
        have g2 := h x w w' H O hT
        rw [← hwr] at g2
        refine ⟨β, putS o.dst (.c (.v (v x))) m.sl, m.hp.set k (.b true T (cs x)), fr_put n β m.sl o.dst (.c (.v (v x))), fun w2 hI => ?_, g2.go w' H'.rebase ?_⟩
        · rw [hrd]; intro i hi; cases hi
        · simp only [SM.wf, SM.put, Bool.and_eq_true]
          refine ⟨?_, ?_⟩
          · rw [List.length_set]; exact putS_wf (SM.wf_sl W) rfl
          · rw [List.length_set]
            refine List.all_eq_true.2 fun y hy => ?_
            rcases List.mem_or_eq_of_mem_set hy with hy | rfl
            · exact List.all_eq_true.1 (SM.wf_hp W) y hy
            · exact hwf x
      · cases hc
    · cases hc
  · cases hc
/-- A call that turns two blocks of ours. -/
theorem Hs.call2 {X : Type} (k1 k2 : Nat) {p g : Nat} {T1 T2 : TypeId} {c1 c2 : List SC} (v : X → Value) (cs1 cs2 : X → List SC) {Fn : FuncId} {args : Array Value} (Q : X → World → World → Prop)
    (hb1 : β[k1]? = some p) (hb2 : β[k2]? = some g) (hk1 : m.hp[k1]? = some (.b true T1 c1)) (hk2 : m.hp[k2]? = some (.b true T2 c2)) (hne : k1 ≠ k2)
    (hC : ∀ w, Mem w0 L β m.hp w → Blk w p T1 (dens β c1) → Blk w g T2 (dens β c2) → Calls P Fn args w fun e w' => ∃ x, e = .returned (v x) ∧ Only [p, g] w w' ∧ Blk w' p T1 (dens β (cs1 x)) ∧ Blk w' g T2 (dens β (cs2 x)) ∧ Q x w w')
    (hc : callOf P n β m = some (Fn, args)) (hrd : rdOf m = []) (hwf : ∀ x, (cs1 x).all (SC.wf m.hp.length) = true ∧ (cs2 x).all (SC.wf m.hp.length) = true)
    (h : ∀ x w w', Mem w0 L β m.hp w → Only [p, g] w w' → Q x w w' → Hs P f R n w' (wrN β m.hp) β (m.put (dstOf m) (.c (.v (v x))) ((m.hp.set k1 (.b true T1 (cs1 x))).set k2 (.b true T2 (cs2 x))))) : Hs P f R n w0 L β m := by
  have hn1 := nm_get hb1
  have hn2 := nm_get hb2
  refine ⟨fun w H W => ?_⟩
  unfold callOf at hc
  split at hc
  · rename_i o ho
    split at hc
    · rename_i hg
      split at hc
      · rename_i F' args' hp
        injection hc with hc
        injection hc with h1 h2
        subst h1; subst h2
        have hd : dstOf m = o.dst := by unfold dstOf; rw [ho]
        rw [hd] at h
        refine Gs.op ho hg ?_
        unfold Oper.wp
        rw [fr_eval, pureOut_run P _ _ hp w]
        refine Calls.mono (hC w H (by have := H.at k1 hk1; rw [hn1] at this; exact this) (by have := H.at k2 hk2; rw [hn2] at this; exact this)) ?_
        rintro e w' ⟨x, rfl, O, hB1, hB2, hT⟩
        have H' := H.put2 hk1 hk2 hne (by rw [hn1, hn2]; exact O) (by rw [hn1]; exact hB1 : Blk w' (nm β k1) T1 (dens β (cs1 x))) (by rw [hn2]; exact hB2 : Blk w' (nm β k2) T2 (dens β (cs2 x)))
        have hwr : wrN β ((m.hp.set k1 (.b true T1 (cs1 x))).set k2 (.b true T2 (cs2 x))) = wrN β m.hp :=
          (wrN_set (h := .b true T2 c2) (h' := .b true T2 (cs2 x)) rfl (fun _ => rfl) (by rw [List.getElem?_set_ne hne]; exact hk2)).trans (wrN_set (h := .b true T1 c1) (h' := .b true T1 (cs1 x)) rfl (fun _ => rfl) hk1)
        have g2 := h x w w' H O hT
        rw [← hwr] at g2
        refine ⟨β, putS o.dst (.c (.v (v x))) m.sl, (m.hp.set k1 (.b true T1 (cs1 x))).set k2 (.b true T2 (cs2 x)), fr_put n β m.sl o.dst (.c (.v (v x))), fun w2 hI => ?_, g2.go w' H'.rebase ?_⟩
        · rw [hrd]; intro i hi; cases hi
        · simp only [SM.wf, SM.put, Bool.and_eq_true]
          rw [List.length_set, List.length_set]
          refine ⟨putS_wf (SM.wf_sl W) rfl, List.all_eq_true.2 fun y hy => ?_⟩
          rcases List.mem_or_eq_of_mem_set hy with hy | rfl
          · rcases List.mem_or_eq_of_mem_set hy with hy | rfl
            · exact List.all_eq_true.1 (SM.wf_hp W) y hy
            · exact (hwf x).1
          · exact (hwf x).2
      · cases hc
    · cases hc
  · cases hc
/-- A method that turns one block of ours, in a function that is given several. -/
theorem Hs.callG {X : Type} (k : Nat) {g : Nat} {T : TypeId} {cs0 : List SC} (v : X → Value) (cs : X → List SC) {A F : World → Prop} (A' : X → World → Prop) {Fn : FuncId} {args : Array Value}
    (C : Gx w00 G D0 w0 L (fun w => A w ∧ F w)) (hG : ∀ x ∈ G, x ∈ wrN β m.hp) (hβ : β[k]? = some g) (hk : m.hp[k]? = some (.b true T cs0))
    (hC : ∀ w, Mem w0 L β m.hp w → Blk w g T (dens β cs0) → Keeps w [g] A → Calls P Fn args w fun e w' => ∃ x, e = .returned (v x) ∧ Only [g] w w' ∧ Blk w' g T (dens β (cs x)) ∧ Turns w w' g A (A' x))
    (hc : callOf P n β m = some (Fn, args)) (hrd : rdOf m = []) (hwf : ∀ x, (cs x).all (SC.wf m.hp.length) = true)
    (h : ∀ x w1 L1, Gx w00 G D0 w1 L1 (fun w => A' x w ∧ F w) → Hs P f R n w1 L1 β (m.put (dstOf m) (.c (.v (v x))) (m.hp.set k (.b true T (cs x))))) : Hs P f R n w0 L β m := by
  have hgm : g ∈ wrN β m.hp := wrN_mem.2 ⟨k, _, g, hk, hβ, rfl, rfl⟩
  refine Hs.call1 k v cs (fun x w w' => Turns w w' g A (A' x)) hβ hk (fun w H hB => hC w H hB ((C.keepsAt H fun x hx => by
    rw [List.mem_singleton.1 hx]
    exact Nx.key H g hgm).imp fun _ h => h.1)) hc hrd hwf fun x w w' H O T => ?_
  exact h x w' _ (C.move H O (TurnsL.of (Turns.andR O T) (by simp)) (fun x hx => by rw [List.mem_singleton.1 hx]; exact hgm) hG)
/-- A call that makes some thing that stays, in a function that is given several blocks. -/
theorem Hs.callGM {X : Type} {v : X → Value} {Q : X → World → Prop} {Fn : FuncId} {args : Array Value} (C : Gx w00 G D0 w0 L D1) (hG : ∀ x ∈ G, x ∈ wrN β m.hp) (hC : ∀ w, Mem w0 L β m.hp w → Calls P Fn args w (NewX w v Q)) (hc : callOf P n β m = some (Fn, args)) (hrd : rdOf m = [])
    (h : ∀ x w1 L1, Gx w00 G D0 w1 L1 (fun w => Q x w ∧ D1 w) → Hs P f R n w1 L1 β (m.put (dstOf m) (.c (.v (v x))) m.hp)) : Hs P f R n w0 L β m :=
  Hs.callE v (fun x w w' => ∀ L : List Nat, (∀ y ∈ L, y < w.heap.size) → Keeps w' L (Q x)) hC hc hrd fun x w w1 H O q B hL => h x w1 _ (C.move (G' := []) H O (fun L hL _ hk => (q L hL).and (hk.go (O.mono (by simp)))) (by simp) hG)
/-- A call of what turns two blocks, in a function that is given several. -/
theorem Hs.callG2 {X : Type} (k1 k2 : Nat) {p g : Nat} {T1 T2 : TypeId} {c1 c2 : List SC} (v : X → Value) (cs1 cs2 : X → List SC) {A F : World → Prop} (A' : X → World → Prop) {Fn : FuncId} {args : Array Value}
    (C : Gx w00 G D0 w0 L (fun w => A w ∧ F w)) (hG : ∀ x ∈ G, x ∈ wrN β m.hp) (hb1 : β[k1]? = some p) (hb2 : β[k2]? = some g) (hk1 : m.hp[k1]? = some (.b true T1 c1)) (hk2 : m.hp[k2]? = some (.b true T2 c2)) (hne : k1 ≠ k2)
    (hC : ∀ w, Mem w0 L β m.hp w → Blk w p T1 (dens β c1) → Blk w g T2 (dens β c2) → Keeps w [p, g] A → Calls P Fn args w fun e w' => ∃ x, e = .returned (v x) ∧ Only [p, g] w w' ∧ Blk w' p T1 (dens β (cs1 x)) ∧ Blk w' g T2 (dens β (cs2 x)) ∧ TurnsL w w' [p, g] A (A' x))
    (hc : callOf P n β m = some (Fn, args)) (hrd : rdOf m = []) (hwf : ∀ x, (cs1 x).all (SC.wf m.hp.length) = true ∧ (cs2 x).all (SC.wf m.hp.length) = true)
    (h : ∀ x w1 L1, Gx w00 G D0 w1 L1 (fun w => A' x w ∧ F w) → Hs P f R n w1 L1 β (m.put (dstOf m) (.c (.v (v x))) ((m.hp.set k1 (.b true T1 (cs1 x))).set k2 (.b true T2 (cs2 x))))) : Hs P f R n w0 L β m := by
  have hm : ∀ x ∈ [p, g], x ∈ wrN β m.hp := fun x hx => by
    simp only [List.mem_cons, List.not_mem_nil, or_false] at hx
    rcases hx with rfl | rfl
    · exact wrN_mem.2 ⟨k1, _, _, hk1, hb1, rfl, rfl⟩
    · exact wrN_mem.2 ⟨k2, _, _, hk2, hb2, rfl, rfl⟩
  refine Hs.call2 k1 k2 v cs1 cs2 (fun x w w' => TurnsL w w' [p, g] A (A' x)) hb1 hb2 hk1 hk2 hne (fun w H B1 B2 => hC w H B1 B2 ((C.keepsAt H fun x hx => Nx.key H x (hm x hx)).imp fun _ h => h.1)) hc hrd hwf fun x w w' H O T => ?_
  exact h x w' _ (C.move H O (TurnsL.andR O T) hm hG)
/-- The same, where the blocks are our own. -/
theorem Hs.callN2 {X : Type} (k1 k2 : Nat) {p g : Nat} {T1 T2 : TypeId} {c1 c2 : List SC} (v : X → Value) (cs1 cs2 : X → List SC) {A F : World → Prop} (A' : X → World → Prop) {Fn : FuncId} {args : Array Value}
    (C : Nx w00 w0 L (fun w => A w ∧ F w)) (hb1 : β[k1]? = some p) (hb2 : β[k2]? = some g) (hk1 : m.hp[k1]? = some (.b true T1 c1)) (hk2 : m.hp[k2]? = some (.b true T2 c2)) (hne : k1 ≠ k2)
    (hC : ∀ w, Mem w0 L β m.hp w → Blk w p T1 (dens β c1) → Blk w g T2 (dens β c2) → Keeps w [p, g] A → Calls P Fn args w fun e w' => ∃ x, e = .returned (v x) ∧ Only [p, g] w w' ∧ Blk w' p T1 (dens β (cs1 x)) ∧ Blk w' g T2 (dens β (cs2 x)) ∧ TurnsL w w' [p, g] A (A' x))
    (hc : callOf P n β m = some (Fn, args)) (hrd : rdOf m = []) (hwf : ∀ x, (cs1 x).all (SC.wf m.hp.length) = true ∧ (cs2 x).all (SC.wf m.hp.length) = true)
    (h : ∀ x w1 L1, Nx w00 w1 L1 (fun w => A' x w ∧ F w) → Hs P f R n w1 L1 β (m.put (dstOf m) (.c (.v (v x))) ((m.hp.set k1 (.b true T1 (cs1 x))).set k2 (.b true T2 (cs2 x))))) : Hs P f R n w0 L β m := by
  have hm : ∀ x ∈ [p, g], x ∈ wrN β m.hp := fun x hx => by
    simp only [List.mem_cons, List.not_mem_nil, or_false] at hx
    rcases hx with rfl | rfl
    · exact wrN_mem.2 ⟨k1, _, _, hk1, hb1, rfl, rfl⟩
    · exact wrN_mem.2 ⟨k2, _, _, hk2, hb2, rfl, rfl⟩
  refine Hs.call2 k1 k2 v cs1 cs2 (fun x w w' => TurnsL w w' [p, g] A (A' x)) hb1 hb2 hk1 hk2 hne (fun w H B1 B2 => hC w H B1 B2 (((C.keeps.step H).mono fun x hx => hm x hx).imp fun _ h => h.1)) hc hrd hwf fun x w w' H O T => ?_
  exact h x w' _ (C.moveG H O (TurnsL.andR O T) hm)
end
/-- Two blocks that a function is given. -/
theorem Mem.two (w : World) (p g : Nat) {T1 T2 : Nat} {c1 c2 : List SC} (hne : p ≠ g) (h1 : Blk w p T1 (dens [p, g] c1)) (h2 : Blk w g T2 (dens [p, g] c2)) : Mem w [p, g] [p, g] [.b true T1 c1, .b true T2 c2] w :=
  Mem.start _ _ _ _ rfl (fun k h hk => by
    match k with
    | 0 => simp at hk; subst hk; exact h1
    | 1 => simp at hk; subst hk; exact h2
    | k + 2 => simp at hk) (fun k h x hk _ hx => by
    match k with
    | 0 => simp at hk; subst hk; simp only [HB.blk, Option.some.injEq] at hx; subst hx; simp [nm]
    | 1 => simp at hk; subst hk; simp only [HB.blk, Option.some.injEq] at hx; subst hx; simp [nm]
    | k + 2 => simp at hk) (fun i j hi hj x ei ej li lj => by
    match i, j with
    | 0, 0 => rfl
    | 1, 1 => rfl
    | 0, 1 =>
      simp at ei ej
      subst ei; subst ej
      simp [HB.blk, nm] at li lj
      exact absurd (li.trans lj.symm) hne
    | 1, 0 =>
      simp at ei ej
      subst ei; subst ej
      simp [HB.blk, nm] at li lj
      exact absurd (lj.trans li.symm) hne
    | i + 2, _ => simp at ei
    | _, j + 2 => simp at ej)
end Go.Proofs.YtmmcamkmglpgiaaGreatDoor

namespace Go.Proofs.YtmmcamkmglpgiaaGreatDoor
open Go.RowKit
set_option linter.all false
set_option maxRecDepth 100000
def piecesS (s : ByteArray) : List ByteArray := Lib.splitB ⟨#[32]⟩ 0 (Lib.countB s ⟨#[32]⟩) s
/-- A text cut at its blanks. -/
def cutS : List UInt8 → List (List UInt8)
  | [] => [[]]
  | c :: s => if c = 32 then [] :: cutS s else (c :: (cutS s).headD []) :: (cutS s).tail
theorem cutS_ne (s : List UInt8) : ∃ h t, cutS s = h :: t := by
  cases s with
  | nil => exact ⟨[], [], rfl⟩
  | cons c s =>
    unfold cutS
    split
    · exact ⟨_, _, rfl⟩
    · exact ⟨_, _, rfl⟩
theorem idx_consS (c : UInt8) (l : List UInt8) (h : c ≠ 32) : Lib.index (c :: l) [32] = if Lib.index l [32] == -1 then -1 else Lib.index l [32] + 1 := by
  have hp : ([32] : List UInt8).isPrefixOf (c :: l) = false := by simp [List.isPrefixOf, Ne.symm h]
  rw [Lib.index, hp]; simp
theorem splitK_cutS : ∀ s : List UInt8, Lib.splitK [32] 0 (Lib.count s [32]) s = cutS s
  | [] => by
    rw [Lib.count_miss (by simp [Lib.index])]
    rfl
  | c :: l => by
    have ih := splitK_cutS l
    by_cases h : c = 32
    · subst h
      rw [Lib.count_cons_eq, Nat.add_comm]
      have hix : Lib.index (32 :: l) [32] = 0 := by rw [Lib.index]; simp [List.isPrefixOf]
      unfold Lib.splitK cutS
      rw [hix]
      simp [ih]
    · rw [Lib.count_cons_ne c 32 l h]
      have hix := idx_consS c l h
      unfold cutS
      rw [if_neg h]
      by_cases hm : Lib.index l [32] = -1
      · rw [Lib.count_miss hm] at ih ⊢
        rw [← ih]
        rfl
      · have hge := Lib.index_ge l [32]
        obtain ⟨j, hj⟩ : ∃ j : Nat, Lib.index l [32] = j := ⟨(Lib.index l [32]).toNat, by omega⟩
        have hix' : Lib.index (c :: l) [32] = ((j + 1 : Nat) : Int) := by rw [hix, if_neg (fun e => hm (beq_iff_eq.1 e)), hj]; omega
        rw [Lib.count_hit (by simp) hj, Nat.add_comm 1] at ih ⊢
        rw [← ih]
        unfold Lib.splitK
        rw [hj, hix', if_neg (fun e => by have := beq_iff_eq.1 e; omega), if_neg (fun e => by have := beq_iff_eq.1 e; omega)]
        simp
theorem cutS_one {x : List UInt8} (h : ∀ c ∈ x, c ≠ 32) : cutS x = [x] := by
  induction x with
  | nil => rfl
  | cons c x ih =>
    unfold cutS
    rw [if_neg (h c (by simp)), ih (fun d hd => h d (by simp [hd]))]
    rfl
theorem cutS_app {x : List UInt8} (h : ∀ c ∈ x, c ≠ 32) (s : List UInt8) : cutS (x ++ 32 :: s) = x :: cutS s := by
  induction x with
  | nil =>
    rw [List.nil_append]
    conv => lhs; unfold cutS
    rw [if_pos rfl]
  | cons c x ih =>
    rw [List.cons_append]
    conv => lhs; unfold cutS
    rw [if_neg (h c (by simp)), ih (fun d hd => h d (by simp [hd]))]
    rfl
theorem cutS_len : ∀ (s : List UInt8), ∀ y ∈ cutS s, y.length ≤ s.length
  | [], y, h => by simp [cutS] at h; subst h; simp
  | c :: s, y, h => by
    unfold cutS at h
    obtain ⟨a, t, e⟩ := cutS_ne s
    have ih := cutS_len s
    rw [e] at ih h
    split at h
    · rcases List.mem_cons.1 h with rfl | h
      · simp
      · have := ih y h; simp; omega
    · rcases List.mem_cons.1 h with rfl | h
      · have := ih a (by simp); simpa using this
      · have := ih y (by simp at h ⊢; exact .inr h); simp; omega
theorem bytes_extS {x y : ByteArray} (h : x.data.toList = y.data.toList) : x = y := ByteArray.ext (Array.ext' h)
theorem piecesS_data (s : ByteArray) : (piecesS s).map (·.data.toList) = cutS s.data.toList := by
  unfold piecesS
  rw [Lib.splitB_data]
  exact splitK_cutS _
theorem piecesS_all (s : List UInt8) : piecesS (strL s) = (cutS s).map strL ∧ (cutS s).length = Lib.countB (strL s) ⟨#[32]⟩ + 1 := by
  have h1 := piecesS_data (strL s)
  have h2 : piecesS (strL s) = (cutS s).map strL := by
    have h3 := congrArg (List.map strL) h1
    rw [List.map_map] at h3
    have h4 : ∀ l : List ByteArray, l.map (strL ∘ fun x => x.data.toList) = l := fun l => by
      induction l with
      | nil => rfl
      | cons x l ih => rw [List.map_cons, ih]; rfl
    rw [h4] at h3
    exact h3
  refine ⟨h2, ?_⟩
  have h5 := (Lib.splitB_all ⟨#[32]⟩ (by decide) 0 _ (strL s) rfl)
  have h6 := congrArg List.length h2
  rw [List.length_map] at h6
  rw [← h6]
  exact h5
section
variable {P : Program} {f : FR} {R : Ending → World → Prop} {n : Nat} {w0 : World} {L : List Nat} {β : List Nat} {m : SM}
/-- A call that makes a block, known whole. -/
theorem Hs.callNB {F : FuncId} {args : Array Value} (T : TypeId) (vs : List Value) (res : SV) (hC : ∀ w, Mem w0 L β m.hp w → Calls P F args w fun e w' => ∃ b, e = .returned (res.den (β ++ [b])) ∧ Only [] w w' ∧ w.heap.size ≤ b ∧ Blk w' b T vs) (hc : callOf P n β m = some (F, args)) (hw : res.wf (m.hp.length + 1) = true) (hrd : (rdOf m).all (fun k => Nat.blt k m.hp.length) = true)
    (h : ∀ b, Hs P f R n w0 L (β ++ [b]) (m.put (dstOf m) res (m.hp ++ [.r true T vs]))) : Hs P f R n w0 L β m := by
  refine ⟨fun w H W => ?_⟩
  refine (Hs.call hc (fun w H => ?_)).go w H W
  refine Calls.mono (hC w H) ?_
  rintro e w' ⟨b, rfl, O, hb, hB⟩
  refine ⟨[b], res, m.hp ++ [.r true T vs], rfl, ?_, ?_, fun k hk x hx => ?_, h b⟩
  · refine H.push (h := .r true T vs) (by rw [H.len]; exact SM.wf_hp W) O (fun y hy => ?_) hB
    injection hy with hy; omega
  · simp only [List.length_append, List.length_cons, List.length_nil, Nat.zero_add, Bool.and_eq_true, Nat.ble_eq, List.all_append, List.all_cons, List.all_nil, Bool.and_true]
    refine ⟨hw, by omega, List.all_eq_true.2 fun y hy => ?_, rfl⟩
    have := List.all_eq_true.1 (SM.wf_hp W) y hy
    cases y with
    | b _ _ c => exact List.all_eq_true.2 fun z hz => SC.wf_mono (Nat.le_succ _) (List.all_eq_true.1 this z hz)
    | _ => rfl
  · have := List.all_eq_true.1 hrd k hk
    rw [List.getElem?_append_left (blt_spec.1 this)]
    exact hx
end
theorem split_any19 (s : List UInt8) (hs : s.length < 4294967281) (w : World) (hS : SLib w) : Calls Tryz.prog 57 #[.string (strL s), .string (strL [32])] w fun e w' => e = .returned (.slice (some ⟨w.heap.size, 0, none⟩) (cutS s).length (cutS s).length) ∧ w' = w.alloc (.cells ((cutS s).map fun x => Value.string (strL x)).toArray 9) := by
  obtain ⟨m, hm⟩ := hS.max
  obtain ⟨h1, h2⟩ := piecesS_all s
  refine (Tryz.strings_Split (strL s) (strL [32]) m w hs hm (by decide)).mono ?_
  rintro e w' ⟨rfl, rfl⟩
  have e1 : Lib.splitB (strL [32]) 0 (Lib.countB (strL s) (strL [32])) (strL s) = (cutS s).map strL := h1
  rw [e1, List.map_map]
  have e2 : Lib.countB (strL s) (strL [32]) + 1 = (cutS s).length := h2.symm
  rw [e2]
  exact ⟨rfl, rfl⟩
end Go.Proofs.YtmmcamkmglpgiaaGreatDoor

namespace Go.Proofs.YtmmcamkmglpgiaaGreatDoor
open Go.RowKit
set_option linter.all false
set_option maxRecDepth 100000
theorem wrap_nextK {i : Nat} (h : i < 9223372036854775807) : Value.int .i64 (IntKind.i64.wrap ((i : Int) + 1)) = (SV.c (.v (.int .i64 (i + 1 : Nat)))).den [] := by
  rw [IntWalk.i64_in _ (by omega)]; rfl
abbrev SoR := List UInt8 × Int × Value
def fn9 (f : FuncId) : Value := .func (.func f) #[] #[]
/-- The kinds: word, shape, what is asked. -/
def sortRows : List SoR := [([], 0, .nilFunc),
  ([101, 120, 105, 116], 1, fn9 65),
  ([111, 117, 116], 3, fn9 66),
  ([101, 114, 114], 3, fn9 66),
  ([105, 110], 1, fn9 67),
  ([102, 111, 114, 107], 1, fn9 68),
  ([101, 120, 101, 99], 1, fn9 68),
  ([119, 97, 105, 116], 1, fn9 69),
  ([107, 105, 108, 108], 2, fn9 70),
  ([103, 114, 111, 117, 112], 1, fn9 71),
  ([115, 101, 115, 115, 105, 111, 110], 0, fn9 72),
  ([102, 114, 111, 110, 116], 1, fn9 73),
  ([97, 99, 116], 2, fn9 74),
  ([109, 97, 115, 107], 2, fn9 75),
  ([115, 108, 101, 101, 112], 1, fn9 76),
  ([109, 111, 100, 101], 2, fn9 77),
  ([99, 111, 112, 121], 0, fn9 72)]
def cS (r : SoR) : List Value := [.string (strL r.1), .int .i64 r.2.1, r.2.2]
def SoR.sc (r : SoR) : List SC := [.v (.string (strL r.1)), .v (.int .i64 r.2.1), .v r.2.2]
theorem cS_len (r : SoR) : (cS r).length = 3 := rfl
def sortC : List Value := sortRows.flatMap cS
theorem sorts_any (w : World) : Calls Tryz.prog 43 #[] w fun e w' => e = .returned (.agg sortC.toArray) ∧ Only [] w w' := by
  refine Hs.enter Tryz.func43 [] [] [] [] (Mem.start0 w) (by kernel_rfl) (by kernel_rfl) ?_
  refine Hs.run1 300 (fun _ => by kernel_rfl) fun b0 => ?_
  exact Hs.ret (v := .agg sortC.toArray) Tryz.func43 (by kernel_rfl) fun w' H => ⟨rfl, H.only⟩
theorem op1_any (r : SoR) (x : List UInt8) (rest : List Value) (n c a : Nat) (hn : n = rest.length + 1) (hca : c ≠ a) (w : World) (hc : Blk w c 110 [.slice (some ⟨a, 0, none⟩) n n]) (ha : Blk w a 9 (.string (strL x) :: rest)) : Calls Tryz.prog 59 #[.agg (cS r).toArray, .pointer (some ⟨c, 0, none⟩)] w fun e w' => e = .returned (.bool (r.1 == x)) ∧ Only [] w w' := by
  subst hn
  have H0 : Mem w [] [c, a] [.b false 110 [.s 1 0 (rest.length + 1) (rest.length + 1)], .r false 9 (.string (strL x) :: rest)] w := Mem.startW [] rfl (by simp [bks, HB.blk, hca]) ⟨hc, ha, trivial⟩ (fun y hy => by simp [wrN, HB.wr] at hy)
  refine Hs.enter Tryz.func59 [] [c, a] _ [.g r.sc, .c (.p 0 0)] H0 (by kernel_rfl) (by kernel_rfl) ?_
  refine Hs.run1 300 (fun _ => by kernel_rfl) fun b2 => ?_
  refine Hs.any [0, 1, 2] (by kernel_rfl) ?_
  refine Hs.run0 300 (fun _ => by kernel_rfl) ?_
  refine Hs.slot 3 (.c (.v (.bool (r.1 == x)))) rfl ((by kernel_rfl : _ = Value.bool ((strL r.1).toList == (strL x).toList)).trans (by rw [str_cmp]; rfl)) ?_
  exact Hs.ret (v := .bool (r.1 == x)) Tryz.func59 (by kernel_rfl) fun w' H => ⟨rfl, H.only⟩
theorem elemSo : ElemT Tryz.prog 113 100 3 (Tryz.prog.bytesOf 100) := elemT_of (z := .agg #[.string ⟨#[]⟩, .int .i64 0, .nilFunc]) (by kernel_rfl) (by kernel_rfl) (by decide) (by decide)
/-- The first row of a word, from some on. -/
def ixF (x : List UInt8) : List SoR → Nat → Int
  | [], _ => -1
  | r :: l, i => match r.1 == x with
    | true => (i : Int)
    | false => ixF x l (i + 1)
def ixI (x : List UInt8) : Int := ixF x sortRows 0
set_option maxHeartbeats 1000000 in
theorem ixSort_any (x : List UInt8) (rest : List Value) (n c a b : Nat) (hn : n = rest.length + 1) (hca : c ≠ a) (w : World) (hc : Blk w c 110 [.slice (some ⟨a, 0, none⟩) n n]) (ha : Blk w a 9 (.string (strL x) :: rest)) (hb : Blk w b 101 sortC) : Calls Tryz.prog 58 #[.slice (some ⟨b, 0, none⟩) 17 17, .func (.func 59) #[] #[.pointer (some ⟨c, 0, none⟩)]] w fun e w' => e = .returned (.int .i64 (ixI x)) ∧ Only [] w w' := by
  have hrd : RdX cS w (some ⟨b, 0, none⟩) sortRows := fun _ => ⟨b, 0, rfl, hb.lt, fun j v hv => (hb.cell (0 + j)).trans (by rw [Nat.zero_add]; exact hv)⟩
  have J : ∀ (d i : Nat), 17 - i = d → i ≤ 17 → ixF x (sortRows.drop i) i = ixI x → ∀ (u : Nat → Value), Hs Tryz.prog 58 (fun e w' => e = .returned (.int .i64 (ixI x)) ∧ Only [] w w') (Tryz.f58).ntmps w [] [] ⟨.no, loopAt Tryz.f58 0, pins [(0, .c (.v (.slice (some ⟨b, 0, none⟩) 17 17))), (1, .c (.v (.func (.func 59) #[] #[.pointer (some ⟨c, 0, none⟩)]))), (4, .c (.v (.int .i64 0))), (7, .c (.v (.int .i64 17))), (8, .c (.v (.int .i64 i)))] (.vals u), []⟩ := by
    intro d
    induction d with
    | zero =>
      intro i hd hi hix u
      obtain rfl : i = 17 := by omega
      have e : ixI x = -1 := hix.symm
      refine Hs.run0 300 (fun _ => by kernel_rfl) ?_
      refine Hs.condF (by kernel_rfl) ?_
      refine Hs.run0 300 (fun _ => by kernel_rfl) ?_
      exact Hs.ret (v := .int .i64 (-1)) Tryz.func58 (by kernel_rfl) fun w' H => ⟨by rw [e], H.only⟩
    | succ d ih =>
      intro i hd hi hix u
      have hil : i < sortRows.length := by show i < 17; omega
      obtain ⟨r, hr⟩ : ∃ r, sortRows[i]? = some r := ⟨_, List.getElem?_eq_getElem hil⟩
      have hdr : sortRows.drop i = r :: sortRows.drop (i + 1) := by
        rw [List.drop_eq_getElem_cons hil]
        rw [List.getElem?_eq_getElem hil] at hr
        injection hr with hr
        rw [hr]
      rw [hdr] at hix
      unfold ixF at hix
      refine Hs.run0 300 (fun _ => by kernel_rfl) ?_
      refine Hs.condP ((i : Int) < (17 : Int)) (by kernel_rfl) (fun _ => ?_) (fun h => by omega)
      refine Hs.run0 300 (fun _ => by kernel_rfl) ?_
      refine Hs.idx (b := b) (off := 0) (len := 17) (c := 17) (i := i) elemSo (by omega) (by kernel_rfl) ?_
      refine Hs.ldx (cf := cS) (size := 3) (E := 100) (b := b) (off := 0) (i := i) (l := sortRows) (x := r) cS_len (.g r.sc) (by kernel_rfl) (fun w' H => hrd.only H.only) hr (by kernel_rfl) (by kernel_rfl) rfl (by kernel_rfl) ?_
      refine Hs.callV (v := .bool (r.1 == x)) (fun w' H => op1_any r x rest n c a hn hca w' (hc.only H.only (by simp)) (ha.only H.only (by simp))) (by kernel_rfl) ?_
      refine Hs.run0 300 (fun _ => by kernel_rfl) ?_
      refine Hs.cond (r.1 == x) (by kernel_rfl) (fun h => ?_) (fun h => ?_)
      · rw [h] at hix
        refine Hs.run0 300 (fun _ => by kernel_rfl) ?_
        exact Hs.ret (v := .int .i64 i) Tryz.func58 (by kernel_rfl) fun w' H => ⟨by rw [← hix], H.only⟩
      · rw [h] at hix
        refine Hs.run0 300 (fun _ => by kernel_rfl) ?_
        refine Hs.slot 8 (.c (.v (.int .i64 (i + 1 : Nat)))) rfl ((by kernel_rfl : _ = Value.int .i64 (IntKind.i64.wrap ((i : Int) + 1))).trans (wrap_nextK (by omega))) ?_
        refine Hs.loop (by kernel_rfl) ?_
        exact Hs.goto (loopAt Tryz.f58 0) [] [] [(0, .c (.v (.slice (some ⟨b, 0, none⟩) 17 17))), (1, .c (.v (.func (.func 59) #[] #[.pointer (some ⟨c, 0, none⟩)]))), (4, .c (.v (.int .i64 0))), (7, .c (.v (.int .i64 17))), (8, .c (.v (.int .i64 (i + 1 : Nat))))] (by kernel_rfl) (by decide) (by kernel_rfl) (by kernel_rfl) (fun _ => (by kernel_rfl)) (fun u => ih (i + 1) (by omega) (by omega) hix u)
  refine Hs.enter Tryz.func58 [] [] [] [.c (.v (.slice (some ⟨b, 0, none⟩) 17 17)), .c (.v (.func (.func 59) #[] #[.pointer (some ⟨c, 0, none⟩)]))] (Mem.start0 w) (by kernel_rfl) (by kernel_rfl) ?_
  refine Hs.run0 300 (fun _ => by kernel_rfl) ?_
  refine Hs.loop (by kernel_rfl) ?_
  exact Hs.goto (loopAt Tryz.f58 0) [] [] [(0, .c (.v (.slice (some ⟨b, 0, none⟩) 17 17))), (1, .c (.v (.func (.func 59) #[] #[.pointer (some ⟨c, 0, none⟩)]))), (4, .c (.v (.int .i64 0))), (7, .c (.v (.int .i64 17))), (8, .c (.v (.int .i64 (0 : Nat))))] (by kernel_rfl) (by decide) (by kernel_rfl) (by kernel_rfl) (fun _ => (by kernel_rfl)) (fun u => J 17 0 rfl (by omega) rfl u)
end Go.Proofs.YtmmcamkmglpgiaaGreatDoor
