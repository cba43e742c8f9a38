/- The machine: calls in a region that draws, that make what stays; over any program; no condition. -/
import Derived.Test.YtmmcamkmglpgiaaGreatDoorEngAA
namespace Go.Proofs.YtmmcamkmglpgiaaGreatDoor
set_option linter.all false

section
variable {P : Program} {f : FR} {R : Ending → World → Prop} {n : Nat} {w0 : World} {L : List Nat} {β : List Nat} {m : SM}
/-- As Hs.callE, whatever is still to be read. -/
theorem Hs.callE0 {X : Type} (v : X → Value) (Q : X → World → World → Prop) {F : FuncId} {args : Array Value} (hC : ∀ w, Mem w0 L β m.hp w → Calls P F args w fun e w' => ∃ x, e = .returned (v x) ∧ Only [] w w' ∧ Q x w w') (hc : callOf P n β m = some (F, args))
    (h : ∀ x w w1, Mem w0 L β m.hp w → Only [] w w1 → Q x w w1 → Back w0 L w1 (wrN β m.hp) → (∀ y ∈ wrN β m.hp, y < w.heap.size) → Hs P f R n w1 (wrN β m.hp) β (m.put (dstOf m) (.c (.v (v x))) m.hp)) : Hs P f R n w0 L β m := by
  refine ⟨fun w H W => ?_⟩
  unfold callOf at hc
  split at hc
  · rename_i o ho
    split at hc
    · rename_i hg
      split at hc
      · rename_i F' args' hp
        injection hc with hc
        injection hc with h1 h2
        subst h1; subst h2
        have hd : dstOf m = o.dst := by unfold dstOf; rw [ho]
        rw [hd] at h
        refine Gs.op ho hg ?_
        unfold Oper.wp
        rw [fr_eval, pureOut_run P _ _ hp w]
        refine Calls.mono (hC w H) ?_
        rintro e w' ⟨x, rfl, O, hQ⟩
        have H' := H.step O
        refine ⟨β, putS o.dst (.c (.v (v x))) m.sl, m.hp, fr_put n β m.sl o.dst (.c (.v (v x))), fun w2 hI => hI, (h x w w' H O hQ H'.back H.wrN_lt).go w' H'.rebase ?_⟩
        simp only [SM.wf, SM.put, Bool.and_eq_true]
        exact ⟨putS_wf (SM.wf_sl W) rfl, SM.wf_hp W⟩
      · cases hc
    · cases hc
  · cases hc
/-- As Hs.callN, whatever is still to be read. -/
theorem Hs.callN0 {X : Type} {g : Nat} (v : X → Value) {w00 : World} {D0 F : World → Prop} (A' : X → World → Prop) {Fn : FuncId} {args : Array Value} (k : Nat) {T : TypeId} {cs0 : List SC}
    (C : Cx w00 g D0 w0 L F) (hβ : β[k]? = some g) (hk : m.hp[k]? = some (.b true T cs0))
    (hC : ∀ w, Mem w0 L β m.hp w → Calls P Fn args w fun e w' => ∃ x, e = .returned (v x) ∧ Only [] w w' ∧ ∀ L, (∀ y ∈ L, y < w.heap.size) → Keeps w' L (A' x))
    (hc : callOf P n β m = some (Fn, args))
    (h : ∀ x w1 L1, Cx w00 g D0 w1 L1 (fun w => A' x w ∧ F w) → Hs P f R n w1 L1 β (m.put (dstOf m) (.c (.v (v x))) m.hp)) : Hs P f R n w0 L β m := by
  refine Hs.callE0 v (fun x w w' => ∀ L, (∀ y ∈ L, y < w.heap.size) → Keeps w' L (A' x)) hC hc fun x w w1 H O q B hL => ?_
  have hgm : g ∈ wrN β m.hp := wrN_mem.2 ⟨k, _, g, hk, hβ, rfl, rfl⟩
  have O1 : Only [g] w w1 := O.mono (by simp)
  exact h x w1 _ (C.move H O1 (fun L hL hg hk => (q L hL).and (hk.go (O1.mono (by simpa using hg)))) hgm)
end
end Go.Proofs.YtmmcamkmglpgiaaGreatDoor
