/- Arguments opened: structs whose fields are structs, strings, flags; no condition · Arguments opened: a request; no condition. -/
import Derived.Test.YtmpeidliacbelaaGreatDoorOpenF
import Derived.Test.YtmpeidliacbelaaGreatDoorReqP
namespace Go.Proofs.YtmpeidliacbelaaGreatDoor
set_option linter.all false
open Go.ChangeShapes Go.WideShapes Go.ChangeAt Go.RowKit Go.Deep

section
variable {H : Type} {enc : TypeId × Value → H} {P : Program} {w : World} {base : Nat} {spare : Nat → Bool} {held : Bool}
def FieldsAt (enc : TypeId × Value → H) (P : Program) (w : World) (base : Nat) (spare : Nat → Bool) (held : Bool) (n : Nat) (fs : Array Field) (l : List Value) : Prop :=
  ∀ (j : Nat) (f : Field), fs[j]? = some f → ∃ y, DataW.trod enc P w base spare held n f.type ((l.drop f.offset).take (P.cellsOf f.type)) = some y
theorem trod_fields {n : Nat} {t : TypeId} {fs : Array Field} {l : List Value} {y : DataW H × List MemPlace} (hs : P.underlying t = some (.struct fs)) (h : DataW.trod enc P w base spare held n t l = some y) : ∃ n', FieldsAt enc P w base spare held n' fs l := by
  obtain ⟨ys, n', _, _, _, hyl, hg⟩ := DataW.trod_struct hs h
  refine ⟨n', fun j f hj => ?_⟩
  have hjl : j < fs.size := (Array.getElem?_eq_some_iff.1 hj).1
  exact ⟨ys[j]'(by omega), (hg j f hj).trans (List.getElem?_eq_getElem (by omega))⟩
theorem FieldsAt.at_ {n : Nat} {fs : Array Field} {l l' : List Value} (h : FieldsAt enc P w base spare held n fs l) (j : Nat) (T : TypeId) (off k : Nat) (f : Field) (hj : fs[j]? = some f) (hT : f.type = T) (ho : f.offset = off) (hk : P.cellsOf T = k) (hl : (l.drop off).take k = l') :
    ∃ y, DataW.trod enc P w base spare held n T l' = some y := by
  obtain ⟨y, hy⟩ := h j f hj
  rw [hT, ho, hk, hl] at hy
  exact ⟨y, hy⟩
/-- A struct that is handed in: its cells, its fields. -/
theorem open_struct {r : Reach} {b0 : Nat} {t : TypeId} {fs : Array Field} {v : Value} {d : DataW H} {p : List MemPlace} {k : Nat} (hs : P.underlying t = some (.struct fs)) (hC : P.cellsOf t = k)
    (hv : Value.okWide P w r b0 t v) (h : DataW.Trod enc P w base spare held t v d p) : ∃ (l : List Value) (n : Nat), v = .agg l.toArray ∧ l.length = k ∧ FieldsAt enc P w base spare held n fs l := by
  obtain ⟨cs, rfl, hsz⟩ := okWide_struct hs hv
  obtain ⟨l⟩ := cs
  obtain ⟨fuel, hf⟩ := h
  obtain ⟨n, hn⟩ := trod_fields hs hf
  have hcs : (Value.agg ⟨l⟩).cells.toList = l := by simp [Value.cells]
  rw [hcs] at hn
  exact ⟨l, n, rfl, by simpa using hsz.trans hC, hn⟩
theorem aggP_ints {k : IntKind} {n : Nat} {t e : TypeId} {c : Value} {y : DataW H × List MemPlace} (ht : P.underlying t = some (.slice e)) (he : P.underlying e = some (.int k)) (hc : P.cellsOf e = 1) (h : DataW.trod enc P w base spare held n t [c] = some y) :
    ∃ A len cap zs, c = .slice A len cap ∧ len ≤ cap ∧ cap ≤ maxLen ∧ Ints k w A len zs := by
  rcases Go.ChangeShapes.open_ints ht he hc h with ⟨hcs, _⟩ | ⟨a, l, c', zs, hcs, _, hl, hm, hz, _, hcell, hwz⟩
  · simp at hcs
    subst hcs
    exact ⟨none, 0, 0, [], rfl, Nat.le_refl _, Nat.zero_le _, rfl, Nat.zero_le _, by simp, by simp⟩
  · simp at hcs
    subst hcs
    have hlz : l ≤ zs.length := by split at hz <;> omega
    refine ⟨some a, l, c', zs.take l, rfl, hl, hm, by simp; omega, by omega, fun n hn => hwz n (List.mem_of_mem_take hn), fun h0 => ?_⟩
    obtain ⟨b, off, rfl, hc'⟩ := ints_at hcell (by omega)
    refine ⟨b, off, rfl, World.block_lt_of_cell? w _ (hc' 0 (by omega)), fun i hi => ?_⟩
    rw [hc' i (by omega)]
    simp [List.getD_eq_getElem?_getD, List.getElem?_take, hi]
theorem agg_strP {n : Nat} {t : TypeId} {c : Value} {y : DataW H × List MemPlace} (ht : P.underlying t = some .string) (h : DataW.trod enc P w base spare held n t [c] = some y) : ∃ s : ByteArray, c = .string s ∧ s.size ≤ maxLen := by
  obtain ⟨s, h1, _, h3⟩ := DataW.trod_string ht h
  exact ⟨s, by simpa using h1, h3⟩
theorem agg_boolP {n : Nat} {t : TypeId} {c : Value} {y : DataW H × List MemPlace} (ht : P.underlying t = some .bool) (h : DataW.trod enc P w base spare held n t [c] = some y) : ∃ b : Bool, c = .bool b := by
  obtain ⟨b, h1, _⟩ := DataW.trod_bool ht h
  exact ⟨b, by simpa using h1⟩
/-- Bytes in a field. -/
theorem agg_bytes {n : Nat} {t e : TypeId} {c : Value} {y : DataW H × List MemPlace} (ht : P.underlying t = some (.slice e)) (he : P.underlying e = some (.int .u8)) (hc : P.cellsOf e = 1) (h : DataW.trod enc P w base spare held n t [c] = some y) :
    ∃ (A : Option Addr) (cap : Nat) (zs : List Int), c = .slice A zs.length cap ∧ zs.length ≤ cap ∧ cap ≤ maxLen ∧ RdG (.int .u8) w A zs ∧ ∀ x ∈ zs, 0 ≤ x ∧ x < 256 := by
  obtain ⟨A, len, cap, zs, rfl, hlc, hcm, hz1, hz2, hz3, hz4⟩ := aggP_ints ht he hc h
  subst hz1
  refine ⟨A, cap, zs, rfl, hlc, hcm, fun h0 => ?_, fun x hx => ?_⟩
  · obtain ⟨b', off', e, hlt, hcc⟩ := hz4 (by omega)
    refine ⟨b', off', e, hlt, fun j v hj => ?_⟩
    have hj' : j < zs.length := (List.getElem?_eq_some_iff.1 hj).1
    rw [hcc j (by omega), List.getD_eq_getElem?_getD, hj]
    rfl
  · have := hz3 x hx
    have := wf_u8 this
    omega
end
end Go.Proofs.YtmpeidliacbelaaGreatDoor

namespace Go.Proofs.YtmpeidliacbelaaGreatDoor
set_option linter.all false
open Go.ChangeShapes Go.WideShapes Go.ChangeAt Go.RowKit Go.Deep

theorem arr11 {l : List Value} (h : l.length = 11) : ∃ c0 c1 c2 c3 c4 c5 c6 c7 c8 c9 c10, l = [c0, c1, c2, c3, c4, c5, c6, c7, c8, c9, c10] := by
  match l, h with
  | [c0, c1, c2, c3, c4, c5, c6, c7, c8, c9, c10], _ => exact ⟨c0, c1, c2, c3, c4, c5, c6, c7, c8, c9, c10, rfl⟩
set_option maxRecDepth 100000 in
/-- A request, opened. -/
theorem openR {H : Type} {enc : TypeId × Value → H} {w : World} {base : Nat} {spare : Nat → Bool} {held : Bool} {v : Value} {d : DataW H} {p : List MemPlace} {r : Reach} {b0 : Nat} (hv : Value.okWide Tryz.prog w r b0 28 v) (h : DataW.Trod enc Tryz.prog w base spare held 28 v d p) :
    ∃ m : RQ, v = m.val ∧ m.ok w := by
  obtain ⟨l, n, rfl, hl, hf⟩ := open_struct (k := 11) Tryz.underlying28 (by kernel_rfl) hv h
  obtain ⟨c0, c1, c2, c3, c4, c5, c6, c7, c8, c9, c10, rfl⟩ := arr11 hl
  obtain ⟨_, g0⟩ := hf.at_ 0 3 0 1 _ rfl rfl rfl (by kernel_rfl) rfl
  obtain ⟨_, g1⟩ := hf.at_ 1 9 1 1 _ rfl rfl rfl (by kernel_rfl) rfl
  obtain ⟨_, g2⟩ := hf.at_ 2 9 2 1 _ rfl rfl rfl (by kernel_rfl) rfl
  obtain ⟨_, g3⟩ := hf.at_ 3 9 3 1 _ rfl rfl rfl (by kernel_rfl) rfl
  obtain ⟨_, gs⟩ := hf.at_ 4 26 4 4 _ rfl rfl rfl (by kernel_rfl) rfl
  obtain ⟨n2, hs⟩ := trod_fields Tryz.underlying26 gs
  obtain ⟨_, g4⟩ := hs.at_ 0 24 0 1 _ rfl rfl rfl (by kernel_rfl) rfl
  obtain ⟨_, g5⟩ := hs.at_ 1 24 1 1 _ rfl rfl rfl (by kernel_rfl) rfl
  obtain ⟨_, g6⟩ := hs.at_ 2 24 2 1 _ rfl rfl rfl (by kernel_rfl) rfl
  obtain ⟨_, g7⟩ := hs.at_ 3 24 3 1 _ rfl rfl rfl (by kernel_rfl) rfl
  obtain ⟨_, g8⟩ := hf.at_ 5 22 8 1 _ rfl rfl rfl (by kernel_rfl) rfl
  obtain ⟨_, g9⟩ := hf.at_ 6 4 9 1 _ rfl rfl rfl (by kernel_rfl) rfl
  obtain ⟨_, g10⟩ := hf.at_ 7 24 10 1 _ rfl rfl rfl (by kernel_rfl) rfl
  obtain ⟨kind, rfl, _⟩ := agg_int Tryz.underlying3 g0
  obtain ⟨text, rfl, s1⟩ := agg_strP Tryz.underlying9 g1
  obtain ⟨value, rfl, s2⟩ := agg_strP Tryz.underlying9 g2
  obtain ⟨lang, rfl, s3⟩ := agg_strP Tryz.underlying9 g3
  obtain ⟨cols, rfl, u4⟩ := agg_int Tryz.underlying24 g4
  obtain ⟨rows, rfl, u5⟩ := agg_int Tryz.underlying24 g5
  obtain ⟨width, rfl, u6⟩ := agg_int Tryz.underlying24 g6
  obtain ⟨height, rfl, u7⟩ := agg_int Tryz.underlying24 g7
  obtain ⟨A, cap, zs, rfl, hlc, hcm, hR, hb⟩ := agg_bytes Tryz.underlying22 Tryz.underlying5 (by kernel_rfl) g8
  obtain ⟨on, rfl⟩ := agg_boolP Tryz.underlying4 g9
  obtain ⟨code, rfl, u10⟩ := agg_int Tryz.underlying24 g10
  exact ⟨⟨kind, text, value, lang, cols, rows, width, height, A, cap, zs, on, code⟩, rfl, ⟨hR, hlc, hcm, hb, ⟨wf_u32 u4, wf_u32 u5, wf_u32 u6, wf_u32 u7, wf_u32 u10⟩, s1, s2, s3⟩⟩
end Go.Proofs.YtmpeidliacbelaaGreatDoor
