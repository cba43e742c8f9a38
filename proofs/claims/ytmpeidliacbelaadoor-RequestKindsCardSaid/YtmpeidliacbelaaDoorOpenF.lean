/- Arguments opened: a slice of fields, of any bytes and texts; no condition. -/
import Derived.Test.YtmpeidliacbelaaDoorOctW
import Derived.Test.YtmpeidliacbelaaDoorOpenS
import Derived.Deep.Strs
namespace Go.Proofs.YtmpeidliacbelaaDoor
set_option linter.all false
open Go.ChangeShapes Go.WideShapes Go.ChangeAt Go.RowKit Go.Deep

/-- A slice that is handed in lies in a block that is there. -/
theorem slice_lt {P : Program} {w : World} {r : Reach} {b0 : Nat} {t e : TypeId} {A : Option Addr} {len cap : Nat} (ht : P.underlying t = some (.slice e)) (hv : Value.okWide P w r b0 t (.slice A len cap)) : ∀ a, A = some a → a.block < w.heap.size := by
  intro a ha
  subst ha
  simp only [Value.okWide, ht, Cell.okWide, Cell.ok, World.has] at hv
  obtain ⟨_, _, _, _, row, cells, hs, _⟩ := hv
  unfold World.shape? at hs
  by_cases h : a.block < w.heap.size
  · exact h
  · rw [Array.getElem?_eq_none (by omega)] at hs
    cases hs
theorem cellsF : Tryd.prog.cellsOf 60 = 4 := by kernel_rfl
section
variable {H : Type} {enc : TypeId × Value → H} {w : World} {base : Nat} {spare : Nat → Bool} {held : Bool}
theorem agg_strs {n : Nat} {c : Value} {y : DataW H × List MemPlace} (h : DataW.trod enc Tryd.prog w base spare held n 58 [c] = some y) (hlt : Light Tryd.prog 58 y.1) :
    ∃ (A : Option Addr) (len cap : Nat) (l : List ByteArray), c = .slice A len cap ∧ l.length = len ∧ len ≤ cap ∧ cap ≤ maxLen ∧ RdS w A l ∧ (∀ s ∈ l, s.size ≤ maxLen) ∧ len ≤ 8796093022208 := by
  rcases open_strs Tryd.underlying58 Tryd.underlying9 (by kernel_rfl) h with ⟨hcs, _⟩ | ⟨a, len, cap, m, Sx, hcs, _, hl, hm, hmm, hyy, hx⟩
  · simp at hcs
    subst hcs
    exact ⟨none, 0, 0, [], rfl, rfl, Nat.le_refl _, Nat.zero_le _, RdG.nil, by simp, Nat.zero_le _⟩
  · simp at hcs
    subst hcs
    have hfew : len ≤ 8796093022208 := by
      rw [hyy] at hlt
      have := hlt.len Tryd.underlying58
      rw [show Tryd.prog.bytesOf 9 = 16 by kernel_rfl] at this
      simp at this
      have := reachBytes_lt
      omega
    have hlm : len ≤ m := by rw [hmm]; split <;> omega
    refine ⟨some a, len, cap, (List.range len).map Sx, rfl, by simp, hl, hm, fun h0 => ?_, fun s hs => ?_, hfew⟩
    · rw [List.length_map, List.length_range] at h0
      have c0 := (hx 0 (by omega)).1
      have hs : a.spot = none := by
        obtain ⟨b, o, s⟩ := a
        cases s with
        | none => rfl
        | some s =>
          unfold Addr.add World.cell? at c0
          simp at c0
          split at c0 <;> simp at c0
      obtain ⟨b, o, s⟩ := a
      simp only at hs
      subst hs
      have hadd : ∀ i, (⟨b, o, none⟩ : Addr).add i = ⟨b, o + i, none⟩ := fun i => Addr.add_lit _ _ _
      refine ⟨b, o, rfl, ?_, fun i v hi => ?_⟩
      · rw [hadd] at c0
        exact World.block_lt_of_cell? w ⟨b, o + 0, none⟩ c0
      · rw [List.getElem?_map] at hi
        by_cases hil : i < len
        · rw [List.getElem?_range hil] at hi
          simp at hi
          subst hi
          rw [← hadd]
          exact (hx i (by omega)).1
        · rw [List.getElem?_eq_none (by simp; omega)] at hi
          cases hi
    · obtain ⟨i, hi, rfl⟩ := List.mem_map.1 hs
      exact (hx i (by have := List.mem_range.1 hi; omega)).2

/-- A slice of numbers, opened. -/
theorem open_sl {P : Program} {k : IntKind} {t e : TypeId} {v : Value} {d : DataW H} {p : List MemPlace} {r : Reach} {b0 : Nat} (ht : P.underlying t = some (.slice e)) (he : P.underlying e = some (.int k)) (hc : P.cellsOf e = 1) (hv : Value.okWide P w r b0 t v) (h : DataW.Trod enc P w base spare held t v d p) :
    ∃ (A : Option Addr) (zs : List Int) (cap : Nat), v = .slice A zs.length cap ∧ zs.length ≤ cap ∧ cap ≤ maxLen ∧ RdG (.int k) w A zs ∧ (∀ z ∈ zs, (Lit.int k z).wf = true) ∧ ∀ a, A = some a → a.block < w.heap.size := by
  obtain ⟨A, len, cap, rfl⟩ := okWide_slice ht hv
  have hlt := slice_lt ht hv
  obtain ⟨fuel, hf⟩ := h
  obtain ⟨A', len', cap', zs, e1, h1, h2, hz1, hz2, hz3, hz4⟩ := agg_ints ht he hc (n := fuel) (c := .slice A len cap) hf
  injection e1 with e1 e2 e3
  subst e1; subst e2; subst e3
  subst hz1
  refine ⟨A, zs, cap, rfl, h1, h2, fun h0 => ?_, hz3, hlt⟩
  obtain ⟨b, off, e, hb, hcell⟩ := hz4 h0
  refine ⟨b, off, e, hb, fun i v hi => ?_⟩
  have hi' : i < zs.length := (List.getElem?_eq_some_iff.1 hi).1
  rw [hcell i hi', List.getD_eq_getElem?_getD, hi]
  rfl

set_option maxRecDepth 100000 in
/-- A slice of fields, opened. -/
theorem openF {v : Value} {d : DataW H} {p : List MemPlace} {r : Reach} {b0 : Nat} (hv : Value.okWide Tryd.prog w r b0 50 v) (h : DataW.Trod enc Tryd.prog w base spare held 50 v d p) (hl : Light Tryd.prog 50 d) :
    ∃ (A : Option Addr) (fs : List FD) (c : Nat), v = .slice A fs.length c ∧ fs.length ≤ c ∧ c ≤ maxLen ∧ RdF w A fs ∧ (∀ f ∈ fs, ∀ x ∈ f.text, 0 ≤ x ∧ x < 256) ∧ ∀ f ∈ fs, f.text.length ≤ 140737488355328 ∧ f.list.length ≤ 8796093022208 := by
  obtain ⟨A, len, cap, rfl, hlc, hcm, _, hc⟩ := openS_structs Tryd.underlying50 Tryd.underlying60 (by kernel_rfl) cellsF (Nat.succ_pos 3) hv h hl
  by_cases h0 : 0 < len
  · obtain ⟨b, off, rfl, hb, hi⟩ := hc h0
    have each : ∀ i, i < len → ∃ f : FD, (w.cell? ⟨b, off + i * 4, none⟩ = some (.int .i64 f.kind) ∧ w.cell? ⟨b, off + i * 4 + 1, none⟩ = some (.int .u32 f.n) ∧ w.cell? ⟨b, off + i * 4 + 2, none⟩ = some (.slice f.tA f.text.length f.tc) ∧ w.cell? ⟨b, off + i * 4 + 3, none⟩ = some (.slice f.lA f.list.length f.lc)) ∧
        (f.ok w ∧ 0 ≤ f.n ∧ f.n ≤ 4294967295) ∧ (∀ x ∈ f.text, 0 ≤ x ∧ x < 256) ∧ f.text.length ≤ 140737488355328 ∧ f.list.length ≤ 8796093022208 := fun i hil => by
      obtain ⟨n, hf⟩ := hi i hil
      obtain ⟨c0, y0, e0, g0, _⟩ := hf 0 _ rfl
      obtain ⟨c1, y1, e1, g1, _⟩ := hf 1 _ rfl
      obtain ⟨c2, y2, e2, g2, l2⟩ := hf 2 _ rfl
      obtain ⟨c3, y3, e3, g3, l3⟩ := hf 3 _ rfl
      obtain ⟨kd, rfl, _⟩ := agg_int Tryd.underlying3 g0
      obtain ⟨nn, rfl, wn⟩ := agg_int Tryd.underlying24 g1
      obtain ⟨tA, tl, tc, zs, rfl, htl, htc, hz, htw⟩ := aggS_ints Tryd.underlying22 Tryd.underlying5 (by kernel_rfl) g2 l2
      rw [show Tryd.prog.bytesOf 5 = 1 by kernel_rfl] at htw
      obtain ⟨lA, ll, lc, ls, rfl, hll, hlc2, hlm2, hS, hss, hfew⟩ := agg_strs g3 l3
      obtain ⟨hz1, hz2, hz3, hz4⟩ := id hz
      have wn2 := wf_u32 wn
      refine ⟨⟨kd, nn, tA, tc, zs, lA, lc, ls⟩, ⟨e0, ?_, ?_, ?_⟩, ⟨⟨?_, hS, by dsimp only; omega, htc, by dsimp only; omega, hlm2, hss⟩, wn2⟩, fun x hx => ?_, by have := reachBytes_lt; dsimp only; omega, by dsimp only; omega⟩
      · rw [Nat.add_assoc]; exact e1
      · rw [Nat.add_assoc, hz1]; exact e2
      · rw [Nat.add_assoc, hll]; exact e3
      · intro h0
        dsimp only at h0 ⊢
        obtain ⟨b', off', e, hlt, hcc⟩ := hz4 (by omega)
        refine ⟨b', off', e, hlt, fun j v hj => ?_⟩
        have hj' : j < zs.length := (List.getElem?_eq_some_iff.1 hj).1
        rw [hcc j (by omega), List.getD_eq_getElem?_getD, hj]
        rfl
      · have := hz3 x hx
        have := wf_u8 this
        omega
    haveI : Inhabited FD := ⟨⟨0, 0, none, 0, [], none, 0, []⟩⟩
    obtain ⟨F, hF⟩ := choose_lt each
    have hget : ∀ (i : Nat) (f : FD), ((List.range len).map F)[i]? = some f → i < len ∧ f = F i := fun i f hf => by
      rw [List.getElem?_map] at hf
      by_cases hil : i < len
      · rw [List.getElem?_range hil] at hf
        simp at hf
        exact ⟨hil, hf.symm⟩
      · rw [List.getElem?_eq_none (by simp; omega)] at hf
        cases hf
    refine ⟨some ⟨b, off, none⟩, (List.range len).map F, cap, by simp, by simpa using hlc, hcm, ⟨fun _ => ⟨b, off, rfl, hb, fun i f hf => ?_⟩, fun f hf => ?_⟩, fun f hf => ?_, fun f hf => ?_⟩
    · obtain ⟨hil, rfl⟩ := hget i f hf
      exact (hF i hil).1
    · obtain ⟨i, hi', rfl⟩ := List.mem_map.1 hf
      exact (hF i (List.mem_range.1 hi')).2.1
    · obtain ⟨i, hi', rfl⟩ := List.mem_map.1 hf
      exact (hF i (List.mem_range.1 hi')).2.2.1
    · obtain ⟨i, hi', rfl⟩ := List.mem_map.1 hf
      exact (hF i (List.mem_range.1 hi')).2.2.2
  · obtain rfl : len = 0 := by omega
    exact ⟨A, [], cap, rfl, hlc, hcm, ⟨fun h => absurd h (Nat.lt_irrefl _), fun f hf => by simp at hf⟩, fun f hf => by simp at hf, fun f hf => by simp at hf⟩
end
end Go.Proofs.YtmpeidliacbelaaDoor
