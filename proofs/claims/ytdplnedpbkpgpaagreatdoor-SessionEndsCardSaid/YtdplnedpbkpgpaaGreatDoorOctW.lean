/- Layer 1's own examples: they hold; no condition. -/
import Derived.Test.YtdplnedpbkpgpaaGreatDoorOctQ
import Derived.Test.YtdplnedpbkpgpaaGreatDoorOctS
import Derived.Lib.SmallJoins
import Derived.Laws.IdiomStrings
namespace Go.Proofs.YtdplnedpbkpgpaaGreatDoor
set_option linter.all false
open Go.RowKit

theorem fcells_at : ∀ (fs : List FD) (i : Nat) (f : FD) (j : Nat), fs[i]? = some f → j < 4 → (fcells fs)[i * 4 + j]? = f.cells[j]?
  | [], i, f, j, h, _ => by simp at h
  | g :: fs, 0, f, j, h, hj => by
    simp at h
    subst h
    unfold fcells
    rw [List.flatMap_cons, Nat.zero_mul, Nat.zero_add, List.getElem?_append_left (by simpa [FD.cells] using hj)]
  | g :: fs, i + 1, f, j, h, hj => by
    simp at h
    have := fcells_at fs i f j h hj
    unfold fcells at this ⊢
    rw [List.flatMap_cons, List.getElem?_append_right (by simp [FD.cells]; omega), ← this]
    congr 1
    simp [FD.cells]
    omega
/-- Fields in a row of a block. -/
theorem rdF_of {w : World} {b off : Nat} {fs : List FD} (hb : b < w.heap.size) (hc : ∀ j u, (fcells fs)[j]? = some u → w.cell? ⟨b, off + j, none⟩ = some u) (ok : ∀ f ∈ fs, f.ok w ∧ 0 ≤ f.n ∧ f.n ≤ 4294967295) : RdF w (some ⟨b, off, none⟩) fs := by
  refine ⟨fun _ => ⟨b, off, rfl, hb, fun i f hi => ?_⟩, ok⟩
  have h := fun j hj => fcells_at fs i f j hi hj
  have h0 := h 0 (by decide); have h1 := h 1 (by decide); have h2 := h 2 (by decide); have h3 := h 3 (by decide)
  refine ⟨hc _ _ h0, ?_, ?_, ?_⟩
  · rw [Nat.add_assoc]; exact hc _ _ h1
  · rw [Nat.add_assoc]; exact hc _ _ h2
  · rw [Nat.add_assoc]; exact hc _ _ h3
theorem rdF_new (w : World) (fs : List FD) (cs : Array Value) (h : cs = (fcells fs).toArray) (ok : ∀ f ∈ fs, f.ok w ∧ 0 ≤ f.n ∧ f.n ≤ 4294967295) : RdF (w.alloc (.cells cs 123)) (some ⟨w.heap.size, 0, none⟩) fs :=
  rdF_of (by simp) (fun j u hj => by rw [h, Nat.zero_add, World.cell?_alloc_mark]; simpa using hj) (fun f hf => ⟨(ok f hf).1.only ((Only.refl _ _).alloc _), (ok f hf).2⟩)
theorem OwnF.rdF {w : World} {base : Nat} {A : Option Addr} {n cap : Nat} {fs : List FD} (h : OwnF w base (.slice A n cap) fs) (ok : ∀ f ∈ fs, f.ok w ∧ 0 ≤ f.n ∧ f.n ≤ 4294967295) : RdF w A fs := by
  obtain ⟨A', cap', e, _, _, hc⟩ := h.form
  injection e with e1 e2 e3
  subst e1
  by_cases h0 : 0 < fs.length
  · obtain ⟨b, rfl, _, hb, hcell⟩ := hc h0
    exact rdF_of hb (fun j u hj => by rw [Nat.zero_add]; exact hcell j u hj) ok
  · exact ⟨fun h => absurd h h0, ok⟩
theorem rd_mark (w : World) (cs : Array Value) (fr : Nat × Nat) (l : List Int) (h : cs = (u8s l).toArray) : Rd (w.alloc (.cells cs 5 fr)) (some ⟨w.heap.size, 0, none⟩) l := fun _ => ⟨w.heap.size, 0, rfl, by simp, fun i v hi => by
  rw [h, World.cell?_alloc_mark]
  simp [u8s, hi]⟩
theorem rdI_new (w : World) (cs : Array Value) (l : List Int) (h : cs = (ints l).toArray) : RdI (w.alloc (.cells cs 3)) (some ⟨w.heap.size, 0, none⟩) l := fun _ => ⟨w.heap.size, 0, rfl, by simp, fun i v hi => by
  rw [h, World.cell?_alloc_mark]
  simp [ints, hi]⟩
theorem rdS_new (w : World) (cs : Array Value) (l : List ByteArray) (t : TypeId) (h : cs = (l.map Value.string).toArray) : RdS (w.alloc (.cells cs t)) (some ⟨w.heap.size, 0, none⟩) l := fun _ => ⟨w.heap.size, 0, rfl, by simp, fun i v hi => by
  rw [h, World.cell?_alloc_mark]
  simp [hi]⟩

theorem exA : writeP [⟨2, 1, [], []⟩, ⟨3, 258, [], []⟩, ⟨4, 0, [97, 98], []⟩] = (0, [1, 0, 0, 1, 2, 0, 0, 0, 2, 97, 98]) := by decide +kernel
theorem exB : writeP [⟨5, 0, [], [⟨#[97]⟩, ⟨#[98]⟩]⟩] = (0, [0, 0, 0, 3, 97, 44, 98]) := by decide +kernel
theorem exC : readP [2] [7] = (0, [⟨2, 1, [], []⟩]) := by rfl
theorem exD : readP [4] [0, 0, 0, 5, 97] = (3, []) := by rfl
end Go.Proofs.YtdplnedpbkpgpaaGreatDoor
