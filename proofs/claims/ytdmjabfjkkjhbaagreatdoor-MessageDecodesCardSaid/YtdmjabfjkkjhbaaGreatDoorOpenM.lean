/- Arguments opened: a message; no condition. -/
import Derived.Test.YtdmjabfjkkjhbaaGreatDoorOpenF
import Derived.Test.YtdmjabfjkkjhbaaGreatDoorMsgE
namespace Go.Proofs.YtdmjabfjkkjhbaaGreatDoor
set_option linter.all false
open Go.ChangeShapes Go.WideShapes Go.ChangeAt Go.RowKit Go.Deep

theorem cellsM : Tryz.prog.cellsOf 25 = 10 := by kernel_rfl
theorem arr10 {cs : Array Value} (h : cs.size = 10) : ∃ c0 c1 c2 c3 c4 c5 c6 c7 c8 c9, cs = #[c0, c1, c2, c3, c4, c5, c6, c7, c8, c9] := by
  obtain ⟨l⟩ := cs
  match l, h with
  | [c0, c1, c2, c3, c4, c5, c6, c7, c8, c9], _ => exact ⟨c0, c1, c2, c3, c4, c5, c6, c7, c8, c9, rfl⟩
section
variable {H : Type} {enc : TypeId × Value → H} {w : World} {base : Nat} {spare : Nat → Bool} {held : Bool}
theorem aggP_ints {k : IntKind} {n : Nat} {P : Program} {t e : TypeId} {c : Value} {y : DataW H × List MemPlace} (ht : P.underlying t = some (.slice e)) (he : P.underlying e = some (.int k)) (hc : P.cellsOf e = 1) (h : DataW.trod enc P w base spare held n t [c] = some y) :
    ∃ A len cap zs, c = .slice A len cap ∧ len ≤ cap ∧ cap ≤ maxLen ∧ Ints k w A len zs := by
  rcases Go.ChangeShapes.open_ints ht he hc h with ⟨hcs, _⟩ | ⟨a, l, c', zs, hcs, _, hl, hm, hz, _, hcell, hwz⟩
  · simp at hcs
    subst hcs
    exact ⟨none, 0, 0, [], rfl, Nat.le_refl _, Nat.zero_le _, rfl, Nat.zero_le _, by simp, by simp⟩
  · simp at hcs
    subst hcs
    have hlz : l ≤ zs.length := by split at hz <;> omega
    refine ⟨some a, l, c', zs.take l, rfl, hl, hm, by simp; omega, by omega, fun n hn => hwz n (List.mem_of_mem_take hn), fun h0 => ?_⟩
    obtain ⟨b, off, rfl, hc'⟩ := ints_at hcell (by omega)
    refine ⟨b, off, rfl, World.block_lt_of_cell? w _ (hc' 0 (by omega)), fun i hi => ?_⟩
    rw [hc' i (by omega)]
    simp [List.getD_eq_getElem?_getD, List.getElem?_take, hi]
theorem agg_strP {n : Nat} {P : Program} {t : TypeId} {c : Value} {y : DataW H × List MemPlace} (ht : P.underlying t = some .string) (h : DataW.trod enc P w base spare held n t [c] = some y) : ∃ s : ByteArray, c = .string s ∧ s.size ≤ maxLen := by
  obtain ⟨s, h1, _, h3⟩ := DataW.trod_string ht h
  exact ⟨s, by simpa using h1, h3⟩
theorem agg_boolP {n : Nat} {P : Program} {t : TypeId} {c : Value} {y : DataW H × List MemPlace} (ht : P.underlying t = some .bool) (h : DataW.trod enc P w base spare held n t [c] = some y) : ∃ b : Bool, c = .bool b := by
  obtain ⟨b, h1, _⟩ := DataW.trod_bool ht h
  exact ⟨b, by simpa using h1⟩
set_option maxRecDepth 100000 in
/-- A message, opened. -/
theorem openM {v : Value} {d : DataW H} {p : List MemPlace} {r : Reach} {b0 : Nat} (hv : Value.okWide Tryz.prog w r b0 25 v) (h : DataW.Trod enc Tryz.prog w base spare held 25 v d p) :
    ∃ m : MD, v = m.val ∧ m.ok w := by
  obtain ⟨cs, n, rfl, hcs, hf⟩ := agg_fields Tryz.underlying25 (by kernel_rfl) cellsM hv h
  obtain ⟨c0, c1, c2, c3, c4, c5, c6, c7, c8, c9, rfl⟩ := arr10 hcs
  obtain ⟨_, _, e0, g0⟩ := hf 0 _ rfl
  simp at e0; subst e0
  obtain ⟨_, _, e1, g1⟩ := hf 1 _ rfl
  simp at e1; subst e1
  obtain ⟨_, _, e2, g2⟩ := hf 2 _ rfl
  simp at e2; subst e2
  obtain ⟨_, _, e3, g3⟩ := hf 3 _ rfl
  simp at e3; subst e3
  obtain ⟨_, _, e4, g4⟩ := hf 4 _ rfl
  simp at e4; subst e4
  obtain ⟨_, _, e5, g5⟩ := hf 5 _ rfl
  simp at e5; subst e5
  obtain ⟨_, _, e6, g6⟩ := hf 6 _ rfl
  simp at e6; subst e6
  obtain ⟨_, _, e7, g7⟩ := hf 7 _ rfl
  simp at e7; subst e7
  obtain ⟨_, _, e8, g8⟩ := hf 8 _ rfl
  simp at e8; subst e8
  obtain ⟨_, _, e9, g9⟩ := hf 9 _ rfl
  simp at e9; subst e9
  obtain ⟨kind, rfl, _⟩ := agg_int Tryz.underlying3 g0
  obtain ⟨chan, rfl, u1⟩ := agg_int Tryz.underlying22 g1
  obtain ⟨sender, rfl, u2⟩ := agg_int Tryz.underlying22 g2
  obtain ⟨window, rfl, u3⟩ := agg_int Tryz.underlying22 g3
  obtain ⟨packet, rfl, u4⟩ := agg_int Tryz.underlying22 g4
  obtain ⟨code, rfl, u5⟩ := agg_int Tryz.underlying22 g5
  obtain ⟨name, rfl, s6⟩ := agg_strP Tryz.underlying9 g6
  obtain ⟨lang, rfl, s7⟩ := agg_strP Tryz.underlying9 g7
  obtain ⟨want, rfl⟩ := agg_boolP Tryz.underlying4 g8
  obtain ⟨A, len, cap, zs, rfl, hlc, hcm, hz1, hz2, hz3, hz4⟩ := aggP_ints Tryz.underlying23 Tryz.underlying5 (by kernel_rfl) g9
  subst hz1
  refine ⟨⟨kind, chan, sender, window, packet, code, name, lang, want, A, cap, zs⟩, rfl, ⟨fun h0 => ?_, hlc, hcm, fun x hx => ?_, ⟨wf_u32 u1, wf_u32 u2, wf_u32 u3, wf_u32 u4, wf_u32 u5⟩, s6, s7⟩⟩
  · dsimp only at h0 ⊢
    obtain ⟨b', off', e, hlt, hcc⟩ := hz4 (by omega)
    refine ⟨b', off', e, hlt, fun j v hj => ?_⟩
    have hj' : j < zs.length := (List.getElem?_eq_some_iff.1 hj).1
    rw [hcc j (by omega), List.getD_eq_getElem?_getD, hj]
    rfl
  · have := hz3 x hx
    have := wf_u8 this
    omega
end
end Go.Proofs.YtdmjabfjkkjhbaaGreatDoor
