/- Layer 1's own examples: they hold; no condition. -/
import Derived.Test.YtdmjabfjkkjhbaaDoorOctQ
import Derived.Test.YtdmjabfjkkjhbaaDoorOctS
import Derived.Lib.SmallJoins
import Derived.Laws.IdiomStrings
namespace Go.Proofs.YtdmjabfjkkjhbaaDoor
set_option linter.all false
open Go.RowKit

theorem fcells_at : ∀ (fs : List FD) (i : Nat) (f : FD) (j : Nat), fs[i]? = some f → j < 4 → (fcells fs)[i * 4 + j]? = f.cells[j]?
  | [], i, f, j, h, _ => by simp at h
  | g :: fs, 0, f, j, h, hj => by
    simp at h
    subst h
    unfold fcells
    rw [List.flatMap_cons, Nat.zero_mul, Nat.zero_add, List.getElem?_append_left (by simpa [FD.cells] using hj)]
  | g :: fs, i + 1, f, j, h, hj => by
    simp at h
    have := fcells_at fs i f j h hj
    unfold fcells at this ⊢
    rw [List.flatMap_cons, List.getElem?_append_right (by simp [FD.cells]; omega), ← this]
    congr 1
    simp [FD.cells]
    omega
/-- Fields in a row of a block. -/
theorem rdF_of {w : World} {b off : Nat} {fs : List FD} (hb : b < w.heap.size) (hc : ∀ j u, (fcells fs)[j]? = some u → w.cell? ⟨b, off + j, none⟩ = some u) (ok : ∀ f ∈ fs, f.ok w ∧ 0 ≤ f.n ∧ f.n ≤ 4294967295) : RdF w (some ⟨b, off, none⟩) fs := by
  refine ⟨fun _ => ⟨b, off, rfl, hb, fun i f hi => ?_⟩, ok⟩
  have h := fun j hj => fcells_at fs i f j hi hj
  have h0 := h 0 (by decide); have h1 := h 1 (by decide); have h2 := h 2 (by decide); have h3 := h 3 (by decide)
  refine ⟨hc _ _ h0, ?_, ?_, ?_⟩
  · rw [Nat.add_assoc]; exact hc _ _ h1
  · rw [Nat.add_assoc]; exact hc _ _ h2
  · rw [Nat.add_assoc]; exact hc _ _ h3
theorem rdF_new (w : World) (fs : List FD) (cs : Array Value) (h : cs = (fcells fs).toArray) (ok : ∀ f ∈ fs, f.ok w ∧ 0 ≤ f.n ∧ f.n ≤ 4294967295) : RdF (w.alloc (.cells cs 35)) (some ⟨w.heap.size, 0, none⟩) fs :=
  rdF_of (by simp) (fun j u hj => by rw [h, Nat.zero_add, World.cell?_alloc_mark]; simpa using hj) (fun f hf => ⟨(ok f hf).1.only ((Only.refl _ _).alloc _), (ok f hf).2⟩)
theorem OwnF.rdF {w : World} {base : Nat} {A : Option Addr} {n cap : Nat} {fs : List FD} (h : OwnF w base (.slice A n cap) fs) (ok : ∀ f ∈ fs, f.ok w ∧ 0 ≤ f.n ∧ f.n ≤ 4294967295) : RdF w A fs := by
  obtain ⟨A', cap', e, _, _, hc⟩ := h.form
  injection e with e1 e2 e3
  subst e1
  by_cases h0 : 0 < fs.length
  · obtain ⟨b, rfl, _, hb, hcell⟩ := hc h0
    exact rdF_of hb (fun j u hj => by rw [Nat.zero_add]; exact hcell j u hj) ok
  · exact ⟨fun h => absurd h h0, ok⟩
theorem rd_mark (w : World) (cs : Array Value) (fr : Nat × Nat) (l : List Int) (h : cs = (u8s l).toArray) : Rd (w.alloc (.cells cs 5 fr)) (some ⟨w.heap.size, 0, none⟩) l := fun _ => ⟨w.heap.size, 0, rfl, by simp, fun i v hi => by
  rw [h, World.cell?_alloc_mark]
  simp [u8s, hi]⟩
theorem rdI_new (w : World) (cs : Array Value) (l : List Int) (h : cs = (ints l).toArray) : RdI (w.alloc (.cells cs 3)) (some ⟨w.heap.size, 0, none⟩) l := fun _ => ⟨w.heap.size, 0, rfl, by simp, fun i v hi => by
  rw [h, World.cell?_alloc_mark]
  simp [ints, hi]⟩
theorem rdS_new (w : World) (cs : Array Value) (l : List ByteArray) (t : TypeId) (h : cs = (l.map Value.string).toArray) : RdS (w.alloc (.cells cs t)) (some ⟨w.heap.size, 0, none⟩) l := fun _ => ⟨w.heap.size, 0, rfl, by simp, fun i v hi => by
  rw [h, World.cell?_alloc_mark]
  simp [hi]⟩

theorem exA : writeP [⟨2, 1, [], []⟩, ⟨3, 258, [], []⟩, ⟨4, 0, [97, 98], []⟩] = (0, [1, 0, 0, 1, 2, 0, 0, 0, 2, 97, 98]) := by decide +kernel
theorem exB : writeP [⟨5, 0, [], [⟨#[97]⟩, ⟨#[98]⟩]⟩] = (0, [0, 0, 0, 3, 97, 44, 98]) := by decide +kernel
theorem exC : readP [2] [7] = (0, [⟨2, 1, [], []⟩]) := by rfl
theorem exD : readP [4] [0, 0, 0, 5, 97] = (3, []) := by rfl
set_option maxRecDepth 100000 in
set_option maxHeartbeats 3200000 in
theorem alive01 (w : World) (m : Int) (hm : w.cell? ⟨0, 0, none⟩ = some (.int .i64 m)) : Calls Tryd.prog 11 #[] w fun e w' => e = .returned (.bool true) ∧ Only [] w w' := by
  have kc := fun (w : World) (C : Array Value) (n c : Nat) => Lib.run_convert_bytes_const (P := Tryd.prog) w 23 5 C n c Tryd.underlying23 Tryd.underlying5
  have h0 : 0 < w.heap.size := Nat.pos_of_ne_zero (fun e => by
    have := block_lt_of_cell hm
    simp only at this
    omega)
  go_enter Tryd.func11, Tryd.ntmps11
  go_wp2_with fail
  have W1 := write_any ((w.alloc (.cells #[.int .u8 97, .int .u8 98] 5 (2, 3))).alloc (.cells #[.int .i64 2, .int .u32 1, .slice none 0 0, .slice none 0 0, .int .i64 3, .int .u32 258, .slice none 0 0, .slice none 0 0, .int .i64 4, .int .u32 0, .slice (some ⟨w.heap.size, 0, none⟩) 2 2, .slice none 0 0] 35)) (some ⟨w.heap.size + 1, 0, none⟩)
    [⟨2, 1, none, 0, [], none, 0, []⟩, ⟨3, 258, none, 0, [], none, 0, []⟩, ⟨4, 0, some ⟨w.heap.size, 0, none⟩, 2, [97, 98], none, 0, []⟩] 3
    (by
      have := rdF_new (w.alloc (.cells #[.int .u8 97, .int .u8 98] 5 (2, 3))) [⟨2, 1, none, 0, [], none, 0, []⟩, ⟨3, 258, none, 0, [], none, 0, []⟩, ⟨4, 0, some ⟨w.heap.size, 0, none⟩, 2, [97, 98], none, 0, []⟩] #[.int .i64 2, .int .u32 1, .slice none 0 0, .slice none 0 0, .int .i64 3, .int .u32 258, .slice none 0 0, .slice none 0 0, .int .i64 4, .int .u32 0, .slice (some ⟨w.heap.size, 0, none⟩) 2 2, .slice none 0 0] rfl
        (fun f hf => by
          simp only [List.mem_cons, List.mem_nil_iff, or_false] at hf
          rcases hf with rfl | rfl | rfl
          · exact ⟨FD.ok.plain _ _ _, by decide, by decide⟩
          · exact ⟨FD.ok.plain _ _ _, by decide, by decide⟩
          · exact ⟨⟨rd_mark w _ _ [97, 98] rfl, RdG.nil, by simp, by simp [maxLen], by simp, by simp [maxLen], by simp⟩, by simp, by simp⟩)
      simpa using this) (by simp)
  rw [show List.map FD.pf _ = [⟨2, 1, [], []⟩, ⟨3, 258, [], []⟩, ⟨4, 0, [97, 98], []⟩] from rfl, exA] at W1
  go_call W1 as e w1 ⟨O1, v1, rfl, V1⟩
  have P1 : Only [] w w1 := (((Only.refl [] w).alloc _).alloc _).trans O1 (by simp)
  obtain ⟨A1, k1, rfl, R1, q1, m1, a1⟩ := V1.rd
  clear W1 V1
  go_wp2_with fail
  have W2 := write_any ((w1.alloc (.cells #[.string ⟨#[97]⟩, .string ⟨#[98]⟩] 9)).alloc (.cells #[.int .i64 5, .int .u32 0, .slice none 0 0, .slice (some ⟨w1.heap.size, 0, none⟩) 2 2] 35)) (some ⟨w1.heap.size + 1, 0, none⟩)
    [⟨5, 0, none, 0, [], some ⟨w1.heap.size, 0, none⟩, 2, [⟨#[97]⟩, ⟨#[98]⟩]⟩] 1
    (by
      have := rdF_new (w1.alloc (.cells #[.string ⟨#[97]⟩, .string ⟨#[98]⟩] 9)) [⟨5, 0, none, 0, [], some ⟨w1.heap.size, 0, none⟩, 2, [⟨#[97]⟩, ⟨#[98]⟩]⟩] #[.int .i64 5, .int .u32 0, .slice none 0 0, .slice (some ⟨w1.heap.size, 0, none⟩) 2 2] rfl
        (fun f hf => by
          simp only [List.mem_cons, List.mem_nil_iff, or_false] at hf
          subst hf
          exact ⟨⟨RdG.nil, rdS_new w1 _ [⟨#[97]⟩, ⟨#[98]⟩] _ rfl, by simp, by simp [maxLen], by simp, by simp [maxLen], fun s hs => by simp only [List.mem_cons, List.mem_nil_iff, or_false] at hs; rcases hs with rfl | rfl <;> exact (show 1 ≤ 9223372036854775807 by decide)⟩, by simp, by simp⟩)
      simpa using this) (by simp)
  rw [show List.map FD.pf _ = [⟨5, 0, [], [⟨#[97]⟩, ⟨#[98]⟩]⟩] from rfl, exB] at W2
  go_call W2 as e w2 ⟨O2, v2, rfl, V2⟩
  have P2 : Only [] w1 w2 := (((Only.refl [] w1).alloc _).alloc _).trans O2 (by simp)
  obtain ⟨A2, k2, rfl, R2, q2, m2, a2⟩ := V2.rd
  clear W2 V2
  go_wp2_with fail
  have m2' : ((w2.alloc (.cells #[.int .i64 2] 3)).alloc (.cells #[.int .u8 7] 5)).cell? ⟨0, 0, none⟩ = some (.int .i64 m) := cellL (((P1.trans P2 (by simp)).alloc _).alloc _) h0 (by simp) hm
  have R7 : Rd ((w2.alloc (.cells #[.int .i64 2] 3)).alloc (.cells #[.int .u8 7] 5)) (some ⟨w2.heap.size + 1, 0, none⟩) [7] := by
    have := rd_mark (w2.alloc (.cells #[.int .i64 2] 3)) #[.int .u8 7] (0, 0) [7] rfl
    simpa using this
  have W3 := read_any ((w2.alloc (.cells #[.int .i64 2] 3)).alloc (.cells #[.int .u8 7] 5)) (some ⟨w2.heap.size, 0, none⟩) (some ⟨w2.heap.size + 1, 0, none⟩) [2] [7] 1 1 m m2'
    (RdG.only (rdI_new w2 _ [2] rfl) ((Only.refl _ _).alloc _)) R7 (by simp) (by simp) (by simp) (by simp) (by simp [maxLen]) (fun a ha => by simp at ha; subst ha; simp)
  rw [exC] at W3
  go_call W3 as e w3 ⟨O3, A3, k3, f3, rfl, e3, V3, M3⟩
  have P3 : Only [] w2 w3 := (((Only.refl [] w2).alloc _).alloc _).trans O3 (by simp)
  obtain ⟨f, rfl⟩ : ∃ f, f3 = [f] := List.length_eq_one_iff.1 (by have := congrArg List.length e3; simpa using this)
  have hn1 : f.n = 1 := by simp [FD.pf] at e3; exact e3.2.1
  have F3 := V3.form
  have P3' : Only [] w w3 := (P1.trans P2 (by simp)).trans P3 (by simp)
  clear W3 m2' R7
  replace e3 := hide e3
  replace hn1 := hide hn1
  replace F3 := hide F3
  go_wp2_with fail
  have m4 : ((w3.alloc (.cells #[.int .i64 4] 3)).alloc (.cells #[.int .u8 0, .int .u8 0, .int .u8 0, .int .u8 5, .int .u8 97] 5)).cell? ⟨0, 0, none⟩ = some (.int .i64 m) := cellL ((P3'.alloc _).alloc _) h0 (by simp) hm
  have R8 : Rd ((w3.alloc (.cells #[.int .i64 4] 3)).alloc (.cells #[.int .u8 0, .int .u8 0, .int .u8 0, .int .u8 5, .int .u8 97] 5)) (some ⟨w3.heap.size + 1, 0, none⟩) [0, 0, 0, 5, 97] := by
    have := rd_mark (w3.alloc (.cells #[.int .i64 4] 3)) #[.int .u8 0, .int .u8 0, .int .u8 0, .int .u8 5, .int .u8 97] (0, 0) [0, 0, 0, 5, 97] rfl
    simpa using this
  have W4 := read_any _ (some ⟨w3.heap.size, 0, none⟩) (some ⟨w3.heap.size + 1, 0, none⟩) [4] [0, 0, 0, 5, 97] 1 5 m m4
    (RdG.only (rdI_new w3 _ [4] rfl) ((Only.refl _ _).alloc _)) R8 (by simp) (by simp) (by simp) (by simp) (by simp [maxLen]) (fun a ha => by simp at ha; subst ha; simp)
  rw [exD] at W4
  go_call W4 as e w4 ⟨O4, A4, k4, f4, rfl, e4, V4, M4⟩
  have P4 : Only [] w3 w4 := (((Only.refl [] w3).alloc _).alloc _).trans O4 (by simp)
  clear W4 m4 R8 V4 M4 e4
  have Q4 : Only [] w3 w4 := P4
  have C5 : Only [] w4 (w4.alloc (.cells #[.int .u8 1, .int .u8 0, .int .u8 0, .int .u8 1, .int .u8 2, .int .u8 0, .int .u8 0, .int .u8 0, .int .u8 2, .int .u8 97, .int .u8 98] 5)) := (Only.refl _ _).alloc _
  have B1 := bytes_any (w4.alloc (.cells #[.int .u8 1, .int .u8 0, .int .u8 0, .int .u8 1, .int .u8 2, .int .u8 0, .int .u8 0, .int .u8 0, .int .u8 2, .int .u8 97, .int .u8 98] 5)) A1 (some ⟨w4.heap.size, 0, none⟩) [1, 0, 0, 1, 2, 0, 0, 0, 2, 97, 98] [1, 0, 0, 1, 2, 0, 0, 0, 2, 97, 98] k1 11
    (((R1.only P2).only P3).only (P4.trans C5 (by simp))) (rd_mark w4 _ _ [1, 0, 0, 1, 2, 0, 0, 0, 2, 97, 98] rfl) (by simp [maxLen]) (by simp [maxLen])
  rw [show eqB [1, 0, 0, 1, 2, 0, 0, 0, 2, 97, 98] [1, 0, 0, 1, 2, 0, 0, 0, 2, 97, 98] = true by rfl] at B1
  go_wp2_with fail
  go_call B1 as e w5 ⟨rfl, O5⟩
  have P5 : Only [] w4 w5 := C5.trans O5 (by simp)
  clear B1
  have C6 : Only [] w5 (w5.alloc (.cells #[.int .u8 0, .int .u8 0, .int .u8 0, .int .u8 3, .int .u8 97, .int .u8 44, .int .u8 98] 5)) := (Only.refl _ _).alloc _
  have B2 := bytes_any (w5.alloc (.cells #[.int .u8 0, .int .u8 0, .int .u8 0, .int .u8 3, .int .u8 97, .int .u8 44, .int .u8 98] 5)) A2 (some ⟨w5.heap.size, 0, none⟩) [0, 0, 0, 3, 97, 44, 98] [0, 0, 0, 3, 97, 44, 98] k2 7
    (((R2.only P3).only P4).only (P5.trans C6 (by simp))) (rd_mark w5 _ _ [0, 0, 0, 3, 97, 44, 98] rfl) (by simp [maxLen]) (by simp [maxLen])
  rw [show eqB [0, 0, 0, 3, 97, 44, 98] [0, 0, 0, 3, 97, 44, 98] = true by rfl] at B2
  go_wp2_with fail
  go_call B2 as e w6 ⟨rfl, O6⟩
  have P6 : Only [] w5 w6 := C6.trans O6 (by simp)
  clear B2
  obtain ⟨A', c', eA, _, _, hF⟩ := F3.out
  injection eA with eA _ _
  subst eA
  obtain ⟨b, rfl, _, hb, hcell⟩ := hF (by simp)
  have c1 : w3.cell? ⟨b, 1, none⟩ = some (.int .u32 f.n) := hcell 1 _ rfl
  have c6 : w6.cell? ⟨b, 1, none⟩ = some (.int .u32 f.n) := cellL ((P4.trans P5 (by simp)).trans P6 (by simp)) hb (by simp) c1
  rw [hn1.out] at c6
  have hb6 : b < w6.heap.size := by have := P4.size; have := P5.size; have := P6.size; omega
  clear c1 hcell
  go_wp2_with fail
  go_ret
  exact ⟨rfl, ((P3'.trans P4 (by simp)).trans P5 (by simp)).trans P6 (by simp)⟩
end Go.Proofs.YtdmjabfjkkjhbaaDoor
