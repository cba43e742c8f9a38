/- The machine: what is only read, from world to world; over any program; no condition. -/
import Derived.Test.YtmmcamkmglpgiaaGreatDoorEngN
namespace Go.Proofs.YtmmcamkmglpgiaaGreatDoor
set_option linter.all false
set_option maxRecDepth 100000

section
variable {P : Program} {f : FR} {R : Ending → World → Prop} {n : Nat} {w0 : World} {L : List Nat} {β : List Nat} {m : SM}
variable {α : Type} {cf : α → List Value} {tS E size bytes : Nat} {w w1 : World} {A : Option Addr} {l : List α}
/-- A slice that is read, and that none of L touches. -/
structure RdO (cf : α → List Value) (w : World) (L : List Nat) (A : Option Addr) (l : List α) : Prop where
  rd : RdX cf w A l
  out : ∀ a, A = some a → 0 < l.length → a.block ∉ L
theorem Mem.outL {hp : List HB} {a : Nat} (H : Mem w0 L β hp w) (h1 : a ∉ L) (h2 : a < w0.heap.size) : a ∉ wrN β hp := fun hx => by
  obtain ⟨k, h, b, e1, e2, e3, e4⟩ := wrN_mem.1 hx
  rcases H.own k h a e1 e3 (by rw [nm_get e2]; exact e4) with h | h
  · exact h1 h
  · omega
theorem RdO.now (h : RdO cf w0 L A l) {hp : List HB} (H : Mem w0 L β hp w) : RdX cf w A l := h.rd.far H.only fun a ha h0 => h.out a ha h0
theorem RdO.step (h : RdO cf w0 L A l) {hp : List HB} (H : Mem w0 L β hp w) : RdO cf w (wrN β hp) A l :=
  ⟨h.now H, fun a ha h0 => H.outL (h.out a ha h0) (by
    obtain ⟨b, off, e, hlt, _⟩ := h.rd h0
    rw [ha] at e; injection e with e; subst e; exact hlt)⟩
theorem RdO.only (h : RdO cf w L A l) (O : Only [] w w1) : RdO cf w1 L A l := ⟨h.rd.only O, h.out⟩
theorem RdO.new {L : List Nat} (h : RdX cf w1 A l) (hA : ∀ a, A = some a → w.heap.size ≤ a.block) (hL : ∀ y ∈ L, y < w.heap.size) : RdO cf w1 L A l :=
  ⟨h, fun a ha _ hm => by have := hL _ hm; have := hA a ha; omega⟩
theorem RdO.nil (h : RdX cf w A l) : RdO cf w [] A l := ⟨h, fun _ _ _ => by simp⟩
/-- One cell of an element that is only read. -/
theorem Hs.ldO {E' b off i j : Nat} {x : α} (hcl : ∀ x, (cf x).length = size) (h : RdO cf w0 L (some ⟨b, off, none⟩) l) (hx : l[i]? = some x) (v : Value) (hj : (cf x)[j]? = some v) (hs : semOf n β m = some (valS (Instr.loadAt E' (.pointer (some ⟨b, off + i * size + j, none⟩))))) (ha : aggB P E' = some false) (k : Hs P f R n w0 L β (m.put (dstOf m) (.c (.v v)) m.hp)) : Hs P f R n w0 L β m :=
  Hs.ldc v hs (fun w H => rdX_cell hcl (h.now H) hx hj) ha k
theorem RdO.stepL {L' : List Nat} {hp : List HB} (hL : L' = wrN β hp) (h : RdO cf w0 L A l) (H : Mem w0 L β hp w) : RdO cf w L' A l := by rw [hL]; exact h.step H
/-- A call whose answer is only read, as Hs.callE; what may be written is named. -/
theorem Hs.callF {X : Type} (v : X → Value) (Q : X → World → World → Prop) {F : FuncId} {args : Array Value} (hC : ∀ w, Mem w0 L β m.hp w → Calls P F args w fun e w' => ∃ x, e = .returned (v x) ∧ Only [] w w' ∧ Q x w w') (hc : callOf P n β m = some (F, args)) (hrd : rdOf m = [])
    (h : ∀ x w w1 L', L' = wrN β m.hp → Mem w0 L β m.hp w → Only [] w w1 → Q x w w1 → Back w0 L w1 L' → (∀ y ∈ L', y < w.heap.size) → Hs P f R n w1 L' β (m.put (dstOf m) (.c (.v (v x))) m.hp)) : Hs P f R n w0 L β m :=
  Hs.callE v Q hC hc hrd fun x w w1 H O q B hL => h x w w1 _ rfl H O q B hL
end
end Go.Proofs.YtmmcamkmglpgiaaGreatDoor
