/- Bytes in rows of cells: read, kept; over any program; no condition. -/
import Derived.Test.YtmmcamkmglpgiaaGreatDoorEngS
namespace Go.Proofs.YtmmcamkmglpgiaaGreatDoor
set_option linter.all false
set_option maxRecDepth 100000
open Go.RowKit

def cu8 (x : Int) : List Value := [.int .u8 x]
theorem cu8_len (x : Int) : (cu8 x).length = 1 := rfl
theorem cu8_one (x : Int) : ∀ u ∈ cu8 x, u.oneCell' = true := by
  intro u hu
  simp only [cu8, List.mem_singleton] at hu
  subst hu; rfl
theorem elemU8 : ElemT Tryz.prog 63 5 1 (Tryz.prog.bytesOf 5) := elemT_of (z := .int .u8 0) (by kernel_rfl) (by kernel_rfl) (by decide) (by decide)
theorem by_u8 : Tryz.prog.bytesOf 5 = 1 := by kernel_rfl
theorem u8_cell {w : World} {b off i : Nat} {l : List Int} {x : Int} (hr : RdX cu8 w (some ⟨b, off, none⟩) l) (hx : l[i]? = some x) : w.cell? ⟨b, off + i * 1, none⟩ = some (.int .u8 x) := by
  have := rdX_cell cu8_len hr hx (j := 0) (v := .int .u8 x) rfl
  exact this
/-- Bytes that are read; there is room for them. -/
def RdU (w : World) (A : Option Addr) (c : Nat) (l : List Int) : Prop := RdX cu8 w A l ∧ l.length ≤ c ∧ c ≤ maxLen
theorem ownX_keeps {w w' : World} {A : Option Addr} {cap : Nat} {l : List Int} {E : Nat} (h : OwnX cu8 E 1 w' w.heap.size (.slice A l.length cap) l) : ∀ L : List Nat, (∀ y ∈ L, y < w.heap.size) → Keeps w' L (fun w => RdU w A cap l) := fun L hL => by
  obtain ⟨A1, cap1, e1, hc1, hc2, hr, hA⟩ := h.form
  injection e1 with e1 e2 e3
  subst e1; subst e3
  refine (rdX_keeps hr fun a ha hx => ?_).and fun _ _ => ⟨hc1, hc2⟩
  have h1 := (hA a ha).1
  have h2 := hL _ hx
  omega
theorem rd_rdX {w : World} {A : Option Addr} {l : List Int} (h : Rd w A l) : RdX cu8 w A l := fun h0 => by
  obtain ⟨b, off, e, hb, hc⟩ := h h0
  refine ⟨b, off, e, hb, fun j u hj => ?_⟩
  have hl : l.flatMap cu8 = l.map (.int .u8) := by
    clear h h0 hc hj
    induction l with
    | nil => rfl
    | cons x l ih => simp only [List.flatMap_cons, ih]; rfl
  rw [hl, List.getElem?_map] at hj
  cases hx : l[j]? with
  | none => rw [hx] at hj; cases hj
  | some x => rw [hx] at hj; injection hj with hj; subst hj; exact hc j x hx
theorem rdU_nil (w : World) : RdU w none 0 [] := ⟨fun h => absurd h (by decide), Nat.le_refl _, by unfold maxLen; omega⟩
theorem RdU.only {w w' : World} {A : Option Addr} {c : Nat} {l : List Int} (h : RdU w A c l) (O : Only [] w w') : RdU w' A c l := ⟨h.1.only O, h.2⟩
end Go.Proofs.YtmmcamkmglpgiaaGreatDoor
