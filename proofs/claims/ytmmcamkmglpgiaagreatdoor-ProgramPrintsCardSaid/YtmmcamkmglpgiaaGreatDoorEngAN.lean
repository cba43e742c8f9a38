/- The machine: a way on that is shared by several ways; states that differ in the order of their slots alone. No condition. -/
import Derived.Test.YtmmcamkmglpgiaaGreatDoorEngF
namespace Go.Proofs.YtmmcamkmglpgiaaGreatDoor
set_option linter.all false
set_option maxRecDepth 100000
open Go.RowKit

section
variable {P : Program} {f : FR} {R : Ending → World → Prop} {n : Nat} {β : List Nat} {m : SM} {w0 : World} {L : List Nat}
/-- The way on from a state that several ways come to. -/
theorem Hs.share0 {S : SM} {β' : List Nat} (h1 : Hs P f R n w0 L β' S → Hs P f R n w0 L β m) (h2 : Hs P f R n w0 L β' S) : Hs P f R n w0 L β m := h1 h2
theorem Hs.share1 {S : Nat → SM} {β' : List Nat} (h1 : (∀ b, Hs P f R n w0 L (β' ++ [b]) (S b)) → Hs P f R n w0 L β m) (h2 : ∀ b, Hs P f R n w0 L (β' ++ [b]) (S b)) : Hs P f R n w0 L β m := h1 h2
def keyM (n : Nat) (m : SM) : RM × List Item × List HB × List SV × List Deferred := ⟨m.r, m.todo, m.hp, (List.range n).map m.sl.at, m.sl.ds⟩
/-- A state that another state is, but for the order in which its slots were written. -/
theorem Hs.eqM {m' : SM} (k : Hs P f R n w0 L β m') (h : keyM n m = keyM n m') (hw : m'.sl.wf m'.hp.length = true) : Hs P f R n w0 L β m := by
  obtain ⟨r, td, sl, hp⟩ := m
  obtain ⟨r', td', sl', hp'⟩ := m'
  simp only [keyM, Prod.mk.injEq] at h
  obtain ⟨rfl, rfl, rfl, hs, hd⟩ := h
  have e : fr n β sl = fr n β sl' := by
    unfold fr
    rw [hd]
    congr 2
    refine List.map_congr_left fun i hi => ?_
    have h1 := List.mem_range.1 hi
    have h2 := congrArg (fun l => l[i]?) hs
    simp only [List.getElem?_map, List.getElem?_range h1, Option.map_some, Option.some.injEq] at h2
    rw [h2]
  refine ⟨fun w H W => ?_⟩
  have W' : SM.wf ⟨r, td, sl', hp⟩ = true := by
    unfold SM.wf at W ⊢
    simp only [Bool.and_eq_true] at W ⊢
    exact ⟨hw, W.2⟩
  have g := k.go w H W'
  unfold Gs at g ⊢
  dsimp only at g ⊢
  rw [e]
  exact g
end
end Go.Proofs.YtmmcamkmglpgiaaGreatDoor
