/- The document's answer for layer 1: Copy; no condition but the sizes that can be. -/
import Derived.Test.YtdplnedpbkpgpaaGreatDoorAppI
namespace Go.Proofs.YtdplnedpbkpgpaaGreatDoor
set_option linter.all false
open Go.RowKit

/-- The field's memory is not the row's. -/
def FD.off (f : FD) (v : Value) : Prop := (∀ a, f.tA = some a → 0 < f.text.length → v.ownBlock ≠ some a.block) ∧ (∀ a, f.lA = some a → 0 < f.list.length → v.ownBlock ≠ some a.block)
theorem mine_snoc {wo w13 w14 : World} {base k' : Nat} {A' : Option Addr} {v : Value} {gs : List FD} {g : FD} (X : Only [] wo w13) (P : Only v.ownBlock.toList w13 w14) (G : Where2 v (.slice A' (gs.length + 1) k') w13.heap.size)
    (hv : ∀ x, v.ownBlock = some x → base ≤ x ∧ x < wo.heap.size) (hm : ∀ f ∈ gs, FD.mine wo f base ∧ f.off v) (mg : FD.mine w13 g wo.heap.size) (hb : base ≤ wo.heap.size) :
    ∀ f ∈ gs ++ [g], FD.mine w14 f base ∧ f.off (.slice A' (gs.length + 1) k') := by
  have z := X.size
  have hnw : ∀ x, some x = (Value.slice A' (gs.length + 1) k').ownBlock → some x = v.ownBlock ∨ w13.heap.size ≤ x := by
    intro x hx
    rcases G with e | e
    · left; rw [e] at hx; exact hx
    · right; rw [e] at hx; injection hx with hx; omega
  intro f hf
  rw [List.mem_append] at hf
  rcases hf with hf | hf
  · obtain ⟨m1, fr⟩ := hm f hf
    have t1 := m1.ok.tlt
    have t2 := m1.ok.llt
    refine ⟨(m1.only X).off P (fun a ha h0 hx => fr.1 a ha h0 (by simpa using hx)) (fun a ha h0 hx => fr.2 a ha h0 (by simpa using hx)), fun a ha h0 hx => ?_, fun a ha h0 hx => ?_⟩
    · rcases hnw _ hx.symm with h | h
      · exact fr.1 a ha h0 h.symm
      · have := t1 a ha h0; omega
    · rcases hnw _ hx.symm with h | h
      · exact fr.2 a ha h0 h.symm
      · have := t2 a ha h0; omega
  · simp at hf
    subst hf
    have t1 := mg.ok.tlt
    have t2 := mg.ok.llt
    refine ⟨(mg.off P (fun a ha h0 hx => ?_) (fun a ha h0 hx => ?_)).mono hb, fun a ha h0 hx => ?_, fun a ha h0 hx => ?_⟩
    · have h1 := mg.new.1 a ha
      have h2 := hv _ (by simpa using hx)
      omega
    · have h1 := mg.new.2 a ha
      have h2 := hv _ (by simpa using hx)
      omega
    · have h1 := mg.new.1 a ha
      rcases hnw _ hx.symm with h | h
      · have h2 := hv _ h.symm; omega
      · have := t1 a ha h0; omega
    · have h1 := mg.new.2 a ha
      rcases hnw _ hx.symm with h | h
      · have h2 := hv _ h.symm; omega
      · have := t2 a ha h0; omega

/-- A field whose text and names are new. -/
theorem mine_new {w8 w11 w13 : World} {q B k8 k11 : Nat} {A8 A11 : Option Addr} {kd nn : Int} {tx : List Int} {ls : List ByteArray} (V8 : OwnB w8 (q + 1) (.slice A8 tx.length k8) tx) (V11 : OwnS w11 w8.heap.size (.slice A11 ls.length k11) ls)
    (Y8 : Only [q] w8 w13) (Y11 : Only [q] w11 w13) (hq : q < w8.heap.size) (hB : B ≤ q) (hs : ∀ s ∈ ls, s.size ≤ maxLen) : FD.mine w13 ⟨kd, nn, A8, k8, tx, A11, k11, ls⟩ B := by
  obtain ⟨A, k, e, R8, q8, m8, a8⟩ := V8.rd
  injection e with e1 _ e3
  subst e1; subst e3
  obtain ⟨A', k', e', R11, q11, m11, a11⟩ := V11.rd
  injection e' with e1 _ e3
  subst e1; subst e3
  have S8 := OwnB.soft V8
  refine ⟨⟨RdG.onlyL (mk := .int .u8) R8 Y8 (fun a ha _ => by have := a8 a ha; simp; omega), RdG.onlyL (mk := .string) R11 Y11 (fun a ha _ => by have := a11 a ha; simp; omega), q8, m8, q11, m11, hs⟩, ⟨fun a ha => by have := a8 a ha; omega, fun a ha => by have := a11 a ha; omega⟩, fun a ha i hi => ?_⟩
  have hlt := RdG.lt (mk := .int .u8) R8 (show 0 < tx.length by have : i < tx.length := hi; omega) a ha
  refine (World.frozen?_of_block (w := w8) ?_).trans (S8 a ha i hi)
  rw [block_add]
  exact Y8.block _ hlt (by have := a8 a ha; simp; omega)

/-- Sizes that can be. -/
def Fits (f : FD) : Prop := f.text.length ≤ 140737488355328 ∧ f.list.length ≤ 8796093022208

end Go.Proofs.YtdplnedpbkpgpaaGreatDoor
