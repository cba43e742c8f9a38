/- The frame of a law: if the call returns true and leaves all memory that was there as it was, then the law's row holds, whatever its arguments; no condition. -/
import Derived.Test.YtmmcamkmglpgiaaGreatDoorRows
import Derived.WalkKit
import Derived.ProofKit
import Derived.OpenShut
import Derived.ChangeOld
import Derived.Below
namespace Go.Proofs.YtmmcamkmglpgiaaGreatDoor
set_option linter.all false
open Go.ChangeShapes Go.WideShapes Go.ChangeAt Go.RowKit

noncomputable def readsAll (P : Program) (ts : List TypeId) : Bool := ts.all fun t => P.readableRec t && decide (t < P.types.size)

section
variable {H : Type} {enc : TypeId × Value → H} {P : Program}
theorem trodAll_len {w : World} {base : Nat} {spare : Nat → Bool} {held : Bool} : ∀ (ts : List TypeId) (vs : List Value) (ds : List (DataW H)) (ps : List MemPlace), DataW.TrodAll enc P w base spare held ts vs ds ps → ds.length = ts.length := by
  intro ts
  induction ts with
  | nil =>
    intro vs ds ps h
    obtain ⟨rfl, rfl, rfl⟩ := trodAll_nil h
    rfl
  | cons t ts ih =>
    intro vs ds ps h
    obtain ⟨v, vs', d, ds', a, b, rfl, rfl, rfl, h1, h2⟩ := trodAll_cons h
    simp [ih _ _ _ h2]
theorem trodAll_stays (laidOut : laidOutB P = true) {W W' : World} (hb : Below W.heap.size W W') : ∀ (ts : List TypeId) (vs : List Value) (ds : List (DataW H)) (ps : List MemPlace), readsAll P ts = true →
    DataW.TrodAll enc P W 0 (fun _ => true) true ts vs ds ps → (∀ x ∈ ps, x.block < W.heap.size) → DataW.TrodAll enc P W' 0 (fun b => decide (b < W.heap.size)) true ts vs ds ps := by
  intro ts
  induction ts with
  | nil =>
    intro vs ds ps _ h _
    obtain ⟨rfl, rfl, rfl⟩ := trodAll_nil h
    exact trodAll_mk0
  | cons t ts ih =>
    intro vs ds ps hr h hlt
    obtain ⟨v, vs', d, ds', a, b, rfl, rfl, rfl, h1, h2⟩ := trodAll_cons h
    simp only [readsAll, List.all_cons, Bool.and_eq_true, decide_eq_true_eq] at hr
    exact trodAll_cons_mk (Below.trod laidOut hr.1.1 hr.1.2 h1 hb (fun x hx => hlt x (List.mem_append_left _ hx))) (ih _ _ _ (by simpa only [readsAll, List.all_eq_true, Bool.and_eq_true, decide_eq_true_eq] using hr.2) h2 (fun x hx => hlt x (List.mem_append_right _ hx)))
end

/-- What the walk of a law is handed: the arguments read as data. -/
def LawWalk (P : Program) (f : FuncId) (fn : Func) : Prop :=
  ∀ (H : Type) (enc : TypeId × Value → H) (W : World) (base : Nat) (args : Array Value) (ds : List (DataW H)) (ps : List MemPlace),
    (∀ (j : Nat) t v, fn.params[j]? = some t → args[j]? = some v → Value.okWide P W .any base t v) →
    DataW.TrodAll enc P W 0 (fun _ => true) true fn.params.toList args.toList ds ps →
    Calls P f args W fun e W' => e = .returned (.bool true) ∧ Below W.heap.size W W'

theorem law_lifted {C : Checked} {tb : TypeId} (own : ownKnob C.prog.godebug = none) (laidOut : laidOutB C.prog = true) (hb : C.prog.underlying tb = some .bool) (f : FuncId) (fn : Func) (s : ChangeSpec)
    (hfn : C.prog.funcs[f]? = some fn) (noInit : C.prog.inits.idxOf? f = none) (hres : fn.resultTypes = #[tb])
    (hread : readsAll C.prog fn.params.toList = true) (hv : s.vars = [])
    (hs : ∀ (H : Type) (ds : List (DataW H)), ds.length = fn.params.size → s.fn H ds = { results := [.lit (.bool true)], args := ds })
    (walk : LawWalk C.prog f fn) (os : Os) (started : os.Started) (H : Type) (enc : TypeId × Value → H)
    (witness : ∃ (w : World) (tape : Tape) (i : Input), w.os = os ∧ (w.forCall tape i).Shaped C.prog ∧ i.vars = [] ∧ Input.okWide C.prog (w.forCall tape i) .any w.heap.size f i ∧
      s.pre6 enc C.prog fn [] false (w.forCall tape i).memory i.args ∧ Assume.holds {} C.prog (lone (Frame.enter C.prog f i.args .normal) [] (w.forCall tape i))) :
    ReturnsInHanded {} C os f .any (s.pre6 enc C.prog fn [] false) (s.post enc C.prog fn false true false false) := by
  refine returnsInHanded_of_change own started noInit hfn witness ?_
  intro W base args ds gs before hval hW hcnd _
  have hW' := hW
  obtain ⟨p, q, hA, hV, rfl, hfz, hnd⟩ := hW
  rw [hv] at hV
  obtain ⟨rfl, rfl⟩ := trodVars_none hV
  have hlt := DataW.TrodAll.lt hA
  have hlen : ds.length = fn.params.size := by have := trodAll_len _ _ _ _ hA; simpa using this
  have hfnc := hs H ds hlen
  refine (walk H enc W base args ds p hval hA).mono fun e W' ⟨he, bel⟩ => ?_
  subst he
  refine ⟨_, rfl, ds, [], p ++ [], [], p, [], hW', ?_, ?_, ?_, bel.frame _, fun h => by cases h⟩
  · rw [hres, List.append_nil, hfnc]
    exact trodAll_mk1 (shut_bool hb _)
  · rw [List.append_nil, hfnc]
    exact trodAll_stays laidOut bel _ _ _ _ hread hA hlt
  · rw [hv, List.append_nil, hfnc]
    rfl

theorem own : ownKnob Tryz.prog.godebug = none := by kernel_rfl
theorem laidOut : laidOutB Tryz.prog = true := by kernel_rfl
end Go.Proofs.YtmmcamkmglpgiaaGreatDoor
