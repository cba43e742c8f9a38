/- Layer 29: what holds of a watch through any messages; plain; no condition · Layer 29: a watch in a call's machine; the document's example holds; no condition but that global 0 holds a number · Layer 29: what is an error changes nothing; the law's walk; for all lines; global 0 holds a number · Layer 29: arguments opened: lines; no condition · The frame of a law whose row lists tables: if the call returns true and leaves all memory that was there as it was, then the law's row holds; the walk is told the reach and the world's shape; no condition. -/
import Derived.Test.YtkgikodiecmakaaGreatDoorTqD
import Derived.Test.YtkgikodiecmakaaGreatDoorEngM
import Derived.Test.YtkgikodiecmakaaGreatDoorOpnW
import Derived.Test.YtkgikodiecmakaaGreatDoorOpn
import Derived.HandedShaped
import Derived.Shelf.Vars
import Derived.Lay
import Derived.LaidLaws
import Derived.SevenTiedAt
namespace Go.Proofs.YtkgikodiecmakaaGreatDoor
set_option linter.all false
set_option maxRecDepth 100000
open Go.RowKit Go.MapKept

def EnOk (c : Nat) (k : Int) (x : EN) : Prop := U32 k ∧ x.chan = k ∧ U32 x.packet ∧ 0 ≤ x.sent ∧ x.sent ≤ x.granted ∧ x.granted ≤ (c : Int) * 4294967295 ∧ 0 ≤ x.wants ∧ x.wants ≤ c
/-- What holds behind so many messages. -/
structure Inv29 (c : Nat) (S : WS) : Prop where
  op : ∀ p ∈ S.opens, (∀ y ∈ p.2, U32 y.1 ∧ U32 y.2) ∧ p.2.length ≤ c
  en : ∀ p ∈ S.ends, EnOk c p.1 p.2
  ke : KeysA S.ends
  le : S.ends.length ≤ c
theorem inv29_new : Inv29 0 newW := ⟨by simp [newW], by simp [newW], by simp [newW, KeysA], by simp [newW]⟩
theorem EnOk.up {c : Nat} {k : Int} {x : EN} (h : EnOk c k x) : EnOk (c + 1) k x := by
  unfold EnOk at *
  push_cast
  obtain ⟨h1, h2, h3, h4, h5, h6, h7, h8⟩ := h
  exact ⟨h1, h2, h3, h4, h5, by omega, h7, by omega⟩
theorem Inv29.up {c : Nat} {S : WS} (h : Inv29 c S) : Inv29 (c + 1) S := ⟨fun p hp => ⟨(h.op p hp).1, by have := (h.op p hp).2; omega⟩, fun p hp => (h.en p hp).up, h.ke, by have := h.le; omega⟩
theorem setA_len {α : Type} {k : Int} {v : α} : ∀ {l : List (Int × α)}, (setA k v l).length ≤ l.length + 1 ∧ ((lookA k l).isSome = true → (setA k v l).length = l.length)
  | [] => by simp [setA, lookA]
  | p :: l => by
    have ih := setA_len (k := k) (v := v) (l := l)
    unfold setA lookA
    split
    · simp
    · simp only [List.length_cons]
      exact ⟨by omega, fun h => by rw [ih.2 h]⟩
/-- An end is another one. -/
theorem Inv29.setE {c : Nat} {S : WS} (h : Inv29 c S) {k : Int} {x x' : EN} (hk : lookA k S.ends = some x) (hx : EnOk (c + 1) k x') : Inv29 (c + 1) { S with ends := setA k x' S.ends } :=
  ⟨fun p hp => ⟨(h.op p hp).1, by have := (h.op p hp).2; omega⟩, fun p hp => by
    rcases h.ke.other hp with rfl | ⟨h1, _⟩
    · exact hx
    · exact (h.en p h1).up, h.ke.set, by have := (setA_len (k := k) (v := x') (l := S.ends)).2 (by rw [hk]; rfl); have := h.le; show (setA k x' S.ends).length ≤ c + 1; omega⟩
theorem byS_look {S : WS} {n k : Int} {x : EN} (h : byS S n = some (k, x)) : lookA k S.ends = some x := by
  unfold byS at h
  split at h
  · cases h
  · rename_i k' _
    cases e : lookA k' S.ends with
    | none => rw [e] at h; cases h
    | some y =>
      rw [e] at h
      injection h with h
      injection h with h1 h2
      subst h1; subst h2
      exact e
theorem b01_le (b : Bool) : 0 ≤ b01 b ∧ b01 b ≤ 1 := by cases b <;> decide
theorem inv29_says {c : Nat} {S : WS} (h : Inv29 c S) (hc : c ≤ 1000) {m : MD} (hw : U32 m.window) (hp : U32 m.packet) : Inv29 (c + 1) (saysS S m) := by
  unfold saysS
  split
  · refine ⟨fun p hp2 => ?_, fun p hp2 => (h.en p hp2).up, h.ke, by have := h.le; show S.ends.length ≤ c + 1; omega⟩
    rcases mem_setA hp2 with rfl | h1
    · cases e : lookA m.sender S.opens with
      | none => exact ⟨fun y hy => by simp at hy; subst hy; exact ⟨hw, hp⟩, by simp⟩
      | some l =>
        have h2 := h.op _ (lookA_mem e)
        refine ⟨fun y hy => ?_, ?_⟩
        · simp only [Option.getD_some, List.mem_append, List.mem_singleton] at hy
          rcases hy with hy | rfl
          · exact h2.1 y hy
          · exact ⟨hw, hp⟩
        · have := h2.2
          simp only [Option.getD_some, List.length_append, List.length_cons, List.length_nil]
          dsimp only at this
          omega
    · exact ⟨(h.op p h1).1, by have := (h.op p h1).2; omega⟩
  split
  · exact ⟨h.up.op, h.up.en, h.ke, h.up.le⟩
  split
  · split
    · exact h.up
    · rename_i k x e
      have hl := byS_look e
      refine h.setE hl ?_
      obtain ⟨h1, h2, h3, h4, h5, h6, h7, h8⟩ := h.en _ (lookA_mem hl)
      dsimp only at *
      unfold U32 at hw
      have hwr : IntKind.u64.wrap (x.granted + m.window) = x.granted + m.window := by rw [IntKind.wrap_u64]; omega
      unfold EnOk
      dsimp only
      rw [hwr]
      push_cast
      exact ⟨h1, h2, h3, h4, by omega, by omega, h7, by omega⟩
  split
  · split
    · exact h.up
    · rename_i k x e
      have hl := byS_look e
      refine h.setE hl ?_
      obtain ⟨h1, h2, h3, h4, h5, h6, h7, h8⟩ := h.en _ (lookA_mem hl)
      dsimp only at *
      have hb := b01_le m.want
      have hwr : IntKind.i64.wrap (x.wants + b01 m.want) = x.wants + b01 m.want := IntWalk.i64_in _ (by omega)
      unfold EnOk
      dsimp only
      rw [hwr]
      push_cast
      exact ⟨h1, h2, h3, h4, h5, by omega, by omega, by omega⟩
  · exact h.up
theorem endS_ok {c : Nat} {k : Int} {x : EN} (h : EnOk c k x) (hc : c ≤ 1000) (m : MD) (hl : m.data.length ≤ 140737488355000) (ok : Bool) : EnOk (c + 1) k (endS x m ok).1 := by
  have hu := h.up
  unfold endS
  split
  · split
    · exact hu
    split
    · exact hu
    · rename_i h1
      obtain ⟨g1, g2, g3, g4, g5, g6, g7, g8⟩ := h
      have e1 : IntKind.u64.wrap (x.granted - x.sent) = x.granted - x.sent := by rw [IntKind.wrap_u64]; omega
      rw [e1] at h1
      have e2 : IntKind.u64.wrap (x.sent + m.data.length) = x.sent + m.data.length := by rw [IntKind.wrap_u64]; omega
      unfold EnOk
      dsimp only
      rw [e2]
      push_cast
      exact ⟨g1, g2, g3, by omega, by omega, by omega, g7, by omega⟩
  split
  · exact hu
  split
  · split
    · exact hu
    · exact hu
  split
  · exact hu
  split
  · split
    · exact hu
    split
    · exact hu
    · exact hu
  split
  · exact hu
  · rename_i h1
    obtain ⟨g1, g2, g3, g4, g5, g6, g7, g8⟩ := h
    have e1 : IntKind.i64.wrap (x.wants - 1) = x.wants - 1 := IntWalk.i64_in _ (by omega)
    unfold EnOk
    dsimp only
    rw [e1]
    push_cast
    exact ⟨g1, g2, g3, g4, g5, by omega, by omega, by omega⟩
theorem inv29_hears {c : Nat} {S : WS} (h : Inv29 c S) (hc : c ≤ 1000) {m : MD} (hm : U32 m.chan) (hl : m.data.length ≤ 140737488355000) (ok : Bool) : Inv29 (c + 1) (hearsS S m ok).1 := by
  have hop : ∀ {o l}, firstS S m.chan = some (o, l) → (U32 o.1 ∧ U32 o.2) ∧ ∀ p ∈ setA m.chan l S.opens, (∀ y ∈ p.2, U32 y.1 ∧ U32 y.2) ∧ p.2.length ≤ c + 1 := fun {o l} e => by
    unfold firstS at e
    split at e
    · rename_i o' l' e2
      injection e with e
      injection e with h1 h2
      subst h1; subst h2
      have h2 := h.op _ (lookA_mem e2)
      refine ⟨h2.1 _ (by simp), fun p hp => ?_⟩
      rcases mem_setA hp with rfl | h3
      · exact ⟨fun y hy => h2.1 y (by simp [hy]), by have := h2.2; simp only [List.length_cons] at this; dsimp only; omega⟩
      · exact ⟨(h.op p h3).1, by have := (h.op p h3).2; omega⟩
    · cases e
  unfold hearsS
  split
  · exact h.up
  split
  · exact ⟨h.up.op, h.up.en, h.ke, h.up.le⟩
  split
  · split
    · exact h.up
    · exact ⟨h.up.op, h.up.en, h.ke, h.up.le⟩
  split
  · cases e : firstS S m.chan with
    | none => exact h.up
    | some z =>
      obtain ⟨o, l⟩ := z
      show Inv29 (c + 1) (if openE S m.chan = true then (S, 9) else ({ S with opens := setA m.chan l S.opens, ends := setA m.chan (newE m.chan o) S.ends, nums := setA m.sender m.chan S.nums }, 0)).1
      by_cases hq : openE S m.chan = true
      · rw [if_pos hq]; exact h.up
      · rw [if_neg hq]
        obtain ⟨h1, h2⟩ := hop e
        refine ⟨h2, fun p hp => ?_, h.ke.set, ?_⟩
        · rcases h.ke.other hp with rfl | ⟨h3, _⟩
          · obtain ⟨u1, u2⟩ := h1
            unfold EnOk newE
            refine ⟨hm, rfl, u2, by dsimp only; omega, ?_, ?_, by dsimp only; omega, ?_⟩
            · unfold U32 at u1; dsimp only; omega
            · unfold U32 at u1; dsimp only; push_cast; omega
            · dsimp only; omega
          · exact (h.en p h3).up
        · have := (setA_len (k := m.chan) (v := newE m.chan o) (l := S.ends)).1
          have := h.le
          show (setA m.chan (newE m.chan o) S.ends).length ≤ c + 1
          omega
  split
  · split
    · exact h.up
    · rename_i o l e
      exact ⟨(hop e).2, h.up.en, h.ke, h.up.le⟩
  split
  · exact h.up
  split
  · exact h.up
  · rename_i x e
    split
    · exact h.up
    · exact h.setE e (endS_ok (h.en _ (lookA_mem e)) hc m hl ok)
/-- What is an error changes nothing. -/
theorem endS_err {x : EN} {m : MD} {ok : Bool} (h : (endS x m ok).2 ≠ 0) : (endS x m ok).1 = x := by
  unfold endS at h ⊢
  by_cases h1 : m.kind = 94 ∨ m.kind = 95
  · rw [if_pos h1] at h ⊢
    by_cases h2 : x.eof = true
    · rw [if_pos h2]
    rw [if_neg h2] at h ⊢
    by_cases h3 : (m.data.length : Int) > x.packet ∨ (m.data.length : Int) > IntKind.u64.wrap (x.granted - x.sent)
    · rw [if_pos h3]
    · rw [if_neg h3] at h; exact absurd rfl h
  rw [if_neg h1] at h ⊢
  by_cases h4 : m.kind = 93
  · rw [if_pos h4]
  rw [if_neg h4] at h ⊢
  by_cases h5 : m.kind = 96
  · rw [if_pos h5] at h ⊢
    by_cases h2 : x.eof = true
    · rw [if_pos h2]
    · rw [if_neg h2] at h; exact absurd rfl h
  rw [if_neg h5] at h ⊢
  by_cases h6 : m.kind = 97
  · rw [if_pos h6] at h; exact absurd rfl h
  rw [if_neg h6] at h ⊢
  by_cases h7 : m.kind = 98
  · rw [if_pos h7] at h ⊢
    by_cases h2 : ¬ ok = true
    · rw [if_pos h2]
    rw [if_neg h2] at h ⊢
    by_cases h3 : x.told = true
    · rw [if_pos h3]
    · rw [if_neg h3] at h; exact absurd rfl h
  rw [if_neg h7] at h ⊢
  by_cases h8 : x.wants = 0
  · rw [if_pos h8]
  · rw [if_neg h8] at h; exact absurd rfl h
theorem setA_id {α : Type} {k : Int} {v : α} : ∀ {l : List (Int × α)}, lookA k l = some v → setA k v l = l
  | [], h => by cases h
  | p :: l, h => by
    unfold lookA at h
    unfold setA
    split at h
    · rename_i e
      injection h with h
      subst h; subst e
      rw [if_pos rfl]
    · rename_i e
      rw [if_neg e, setA_id h]
theorem hears_err {S : WS} {m : MD} {ok : Bool} (h : (hearsS S m ok).2 ≠ 0) : (hearsS S m ok).1.ends = S.ends ∧ (hearsS S m ok).1.dead = S.dead := by
  by_cases h1 : S.dead = true
  · unfold hearsS; rw [if_pos h1]; exact ⟨rfl, rfl⟩
  by_cases h2 : m.kind = 1
  · unfold hearsS at h; rw [if_neg h1, if_pos h2] at h; exact absurd rfl h
  by_cases h3 : m.kind = 81 ∨ m.kind = 82
  · unfold hearsS at h ⊢
    rw [if_neg h1, if_neg h2, if_pos h3] at h ⊢
    by_cases h4 : S.glob = 0
    · rw [if_pos h4]; exact ⟨rfl, rfl⟩
    · rw [if_neg h4] at h; exact absurd rfl h
  by_cases h4 : m.kind = 91
  · unfold hearsS at h ⊢
    rw [if_neg h1, if_neg h2, if_neg h3, if_pos h4] at h ⊢
    cases e : firstS S m.chan with
    | none => exact ⟨rfl, rfl⟩
    | some z =>
      obtain ⟨o, l⟩ := z
      rw [e] at h
      replace h : (if openE S m.chan = true then (S, (9 : Int)) else ({ S with opens := setA m.chan l S.opens, ends := setA m.chan (newE m.chan o) S.ends, nums := setA m.sender m.chan S.nums }, 0)).2 ≠ 0 := h
      show (if openE S m.chan = true then (S, (9 : Int)) else ({ S with opens := setA m.chan l S.opens, ends := setA m.chan (newE m.chan o) S.ends, nums := setA m.sender m.chan S.nums }, 0)).1.ends = S.ends ∧ (if openE S m.chan = true then (S, (9 : Int)) else ({ S with opens := setA m.chan l S.opens, ends := setA m.chan (newE m.chan o) S.ends, nums := setA m.sender m.chan S.nums }, 0)).1.dead = S.dead
      by_cases h5 : openE S m.chan = true
      · rw [if_pos h5]; exact ⟨rfl, rfl⟩
      · rw [if_neg h5] at h
        exact absurd rfl h
  by_cases h5 : m.kind = 92
  · unfold hearsS at h ⊢
    rw [if_neg h1, if_neg h2, if_neg h3, if_neg h4, if_pos h5] at h ⊢
    cases e : firstS S m.chan with
    | none => exact ⟨rfl, rfl⟩
    | some z =>
      obtain ⟨o, l⟩ := z
      rw [e] at h
      exact absurd rfl h
  · unfold hearsS at h ⊢
    rw [if_neg h1, if_neg h2, if_neg h3, if_neg h4, if_neg h5] at h ⊢
    split
    · exact ⟨rfl, rfl⟩
    · rename_i h6
      rw [if_neg h6] at h
      cases e : lookA m.chan S.ends with
      | none => exact ⟨rfl, rfl⟩
      | some x =>
        rw [e] at h
        dsimp only at h ⊢
        split
        · exact ⟨rfl, rfl⟩
        · rename_i h7
          rw [if_neg h7] at h
          refine ⟨?_, rfl⟩
          show setA m.chan (endS x m ok).1 S.ends = S.ends
          rw [endS_err h, setA_id e]
theorem hears_dead9 {S : WS} (m : MD) (ok : Bool) (h : S.dead = true) : hearsS S m ok = (S, 9) := by unfold hearsS; rw [if_pos h]
/-- The ends, one by one. -/
structure EndsOk (E : List EN) : Prop where
  each : ∀ x ∈ E, x.sent ≤ x.granted ∧ 0 ≤ x.wants
  inc : ∀ i x y, E[i]? = some x → E[i + 1]? = some y → x.chan < y.chan
theorem endsL_ok {c : Nat} {S : WS} (h : Inv29 c S) : EndsOk (endsL S) := by
  have hK : ∀ i k, (endsK S)[i]? = some k → ∃ x, (endsL S)[i]? = some x ∧ EnOk c k x := fun i k hk => by
    obtain ⟨x, hx⟩ := endsK_look (List.mem_of_getElem? hk)
    refine ⟨x, ?_, h.en _ (lookA_mem hx)⟩
    unfold endsL
    rw [List.getElem?_map, hk]
    simp [hx]
  have hKl : (endsK S).length = (endsL S).length := by simp [endsL]
  refine ⟨fun x hx => ?_, fun i x y hx hy => ?_⟩
  · obtain ⟨i, hi⟩ := List.mem_iff_getElem?.1 hx
    have hlt := (List.getElem?_eq_some_iff.1 hi).1
    obtain ⟨k, hk⟩ : ∃ k, (endsK S)[i]? = some k := ⟨_, List.getElem?_eq_getElem (by omega)⟩
    obtain ⟨x', h1, h2⟩ := hK i k hk
    rw [hi] at h1
    injection h1 with h1
    subst h1
    exact ⟨h2.2.2.2.2.1, h2.2.2.2.2.2.2.1⟩
  · have hlt := (List.getElem?_eq_some_iff.1 hy).1
    have h1 : i < (endsK S).length := by omega
    have h2 : i + 1 < (endsK S).length := by omega
    obtain ⟨x', e1, g1⟩ := hK i _ (List.getElem?_eq_getElem h1)
    obtain ⟨y', e2, g2⟩ := hK (i + 1) _ (List.getElem?_eq_getElem h2)
    rw [hx] at e1; rw [hy] at e2
    injection e1 with e1; injection e2 with e2
    subst e1; subst e2
    rw [g1.2.1, g2.2.1]
    have hs : (endsK S).Pairwise fun a b => Go.leI a b = true := List.pairwise_mergeSort (fun a b c h1 h2 => by simp only [Go.leI, decide_eq_true_eq] at *; omega) (fun a b => by simp only [Go.leI, Bool.or_eq_true, decide_eq_true_eq]; omega) _
    have hn : (endsK S).Nodup := ((List.mergeSort_perm _ _).nodup_iff).2 h.ke
    have hle := List.pairwise_iff_getElem.1 hs i (i + 1) h1 h2 (by omega)
    simp only [Go.leI, decide_eq_true_eq] at hle
    have hne : (endsK S)[i] ≠ (endsK S)[i + 1] := List.pairwise_iff_getElem.1 hn i (i + 1) h1 h2 (by omega)
    omega
theorem endsL_same {S S' : WS} (h : S'.ends = S.ends) : endsL S' = endsL S := by unfold endsL endsK; rw [h]
end Go.Proofs.YtkgikodiecmakaaGreatDoor

namespace Go.Proofs.YtkgikodiecmakaaGreatDoor
set_option linter.all false
set_option maxRecDepth 100000
open Go.RowKit Go.MapKept

/-- A watch that is so. -/
def WQ (p : Nat) (M : WM) (S : WS) (w : World) : Prop := WAt w p M ∧ M.abs = S
theorem WQ.st {p : Nat} {M : WM} {S : WS} : StX (M.fp p) (WQ p M S) := fun w w' hs he h => ⟨WAt.st w w' hs he h.1, h.2⟩
theorem few_abs {M : WM} {S : WS} (e : M.abs = S) (h : ∀ x ∈ S.opens, x.2.length ≤ 1000000) : FewW M := fun x hx => by
  subst e
  exact h (x.1, x.2.l) (List.mem_map.2 ⟨x, hx, rfl⟩)
theorem win_abs {M : WM} {S : WS} (e : M.abs = S) (h : ∀ x ∈ S.opens, ∀ y ∈ x.2, U32 y.1) : ∀ x ∈ M.opens, ∀ y ∈ x.2.l, U32 y.1 := fun x hx => by
  subst e
  exact h (x.1, x.2.l) (List.mem_map.2 ⟨x, hx, rfl⟩)
theorem pck_abs {M : WM} {S : WS} (e : M.abs = S) (h : ∀ x ∈ S.ends, U32 x.2.packet) : ∀ x ∈ M.ends, U32 x.2.2.packet := fun x hx => by
  subst e
  exact h (x.1, x.2.2) (List.mem_map.2 ⟨x, hx, rfl⟩)
theorem key_abs {M : WM} {S : WS} (e : M.abs = S) (h : ∀ x ∈ S.ends, U32 x.1) : ∀ x ∈ M.ends, U32 x.1 := fun x hx => by
  subst e
  exact h (x.1, x.2.2) (List.mem_map.2 ⟨x, hx, rfl⟩)
theorem len_abs {M : WM} {S : WS} (e : M.abs = S) : M.ends.length = S.ends.length := by subst e; simp [WM.abs, mapA]
section
variable {f : FuncId} {R : Ending → World → Prop} {n : Nat} {w0 w00 : World} {G L : List Nat} {β : List Nat} {m : SM} {p : Nat} {M : WM} {S : WS}
/-- What a client says. -/
theorem Hs.callSays (C : Fx w00 G w0 L (M.fp p) (WQ p M S)) (x : MD) (hf : ∀ x ∈ S.opens, x.2.length ≤ 1000000) (hw : U32 x.window) (hc : callOf Tryz.prog n β m = some (8, #[ptrV p, x.val])) (hrd : rdOf m = []) (hro : roOk m.hp = true) {S' : WS} (he : saysS S x = S')
    (h : ∀ M' w1 L1, Fx w00 G w1 L1 (M'.fp p) (WQ p M' S') → (∀ y ∈ M'.fp p, y ∈ M.fp p ∨ w0.heap.size ≤ y) → MovedX w00 G w0 L (M.fp p) w1 L1 → Hs Tryz.prog f R n w1 L1 β (m.put (dstOf m) (.c (.v (.tuple #[]))) m.hp)) : Hs Tryz.prog f R n w0 L β m := by
  subst he
  exact Hs.callFx (X := WM) (fun _ => .tuple #[]) (fun M' => M'.fp p) (fun M' => WQ p M' (saysS S x)) C (fun w H hq => (says_any M p x w hq.1 (few_abs hq.2 hf) hw).mono fun e w' ⟨M', h1, h2, h3, h4, h5⟩ => ⟨M', h1, h2, ⟨h3, by rw [h4, hq.2]⟩, WQ.st, h5⟩) hc hrd hro h
/-- What a server says. -/
theorem Hs.callHears (i0 : Int) (C : Fx w00 G w0 L (M.fp p) (WQ p M S)) (x : MD) (hw : ∀ x ∈ S.opens, ∀ y ∈ x.2, U32 y.1) (hp : ∀ x ∈ S.ends, U32 x.2.packet) (hm : ∀ w, Mem w0 L β m.hp w → Keeps w (M.fp p) (MsgIn i0 x)) (hc : callOf Tryz.prog n β m = some (10, #[ptrV p, x.val])) (hrd : rdOf m = []) (hro : roOk m.hp = true) {S' : WS} {e' : Int} (he : hearsS S x (okEx x) = (S', e'))
    (h : ∀ M' w1 L1, Fx w00 G w1 L1 (M'.fp p) (WQ p M' S') → (∀ y ∈ M'.fp p, y ∈ M.fp p ∨ w0.heap.size ≤ y) → MovedX w00 G w0 L (M.fp p) w1 L1 → Hs Tryz.prog f R n w1 L1 β (m.put (dstOf m) (.c (.v (.int .i64 e'))) m.hp)) : Hs Tryz.prog f R n w0 L β m := by
  have e1 : S' = (hearsS S x (okEx x)).1 := by rw [he]
  have e2 : e' = (hearsS S x (okEx x)).2 := by rw [he]
  subst e1; subst e2
  exact Hs.callFx (X := WM) (fun _ => .int .i64 (hearsS S x (okEx x)).2) (fun M' => M'.fp p) (fun M' => WQ p M' (hearsS S x (okEx x)).1) C (fun w H hq => (hears_any M p x i0 w hq.1 (win_abs hq.2 hw) (pck_abs hq.2 hp) (hm w H)).mono fun e w' ⟨M', h1, h2, h3, h4, h5⟩ => ⟨M', by rw [h1, hq.2], h2, ⟨h3, by rw [h4, hq.2]⟩, WQ.st, h5⟩) hc hrd hro h
/-- A new one. -/
theorem Hs.callNew29 (C : Fx w00 G w0 L [] (fun _ => True)) (hc : callOf Tryz.prog n β m = some (7, #[])) (hrd : rdOf m = []) (hro : roOk m.hp = true)
    (h : ∀ p M' w1 L1, Fx w00 G w1 L1 (M'.fp p) (WQ p M' newW) → (∀ y ∈ M'.fp p, w0.heap.size ≤ y) → MovedX w00 G w0 L [] w1 L1 → Hs Tryz.prog f R n w1 L1 β (m.put (dstOf m) (.c (.v (ptrV p))) m.hp)) : Hs Tryz.prog f R n w0 L β m :=
  Hs.callFx (X := Nat × WM) (fun z => ptrV z.1) (fun z => z.2.fp z.1) (fun z => WQ z.1 z.2 newW) C (fun w H _ => (new29_any w).mono fun e w' ⟨p, M', h1, h2, h3, h4, h5⟩ => ⟨(p, M'), h1, h2, ⟨h3, h4⟩, WQ.st, fun y hy => ⟨(h5 y hy).1, .inr (h5 y hy).2⟩⟩) hc hrd hro fun z w1 L1 C1 hn hM => h z.1 z.2 w1 L1 C1 (fun y hy => (hn y hy).resolve_left (by simp)) hM
theorem Hs.callEnds (C : Fx w00 G w0 L (M.fp p) (WQ p M S)) (hU : ∀ x ∈ S.ends, U32 x.1) (hn : S.ends.length ≤ 1000000) (N : Nat) (hN : S.ends.length = N) (hc : callOf Tryz.prog n β m = some (12, #[ptrV p])) (hrd : (rdOf m).all (fun k => Nat.blt k m.hp.length) = true)
    (h : ∀ A cap, N ≤ cap → cap ≤ maxLen → Hs Tryz.prog f R n w0 L (β ++ [0]) (m.put (dstOf m) (.c (.v (.slice A N cap))) (m.hp ++ [.s A cap N 49 8 ((endsL S).flatMap EN.cells)]))) : Hs Tryz.prog f R n w0 L β m := by
  subst hN
  exact Hs.callS (cf := EN.cells) (E := 49) (size := 8) (fun A cap => .slice A S.ends.length cap) (endsL S) S.ends.length (endsL_len S) (fun w H => by
    have hq := C.at H
    have := ends29_anyW M p w hq.1 (key_abs hq.2 hU) (by rw [len_abs hq.2]; exact hn)
    rw [len_abs hq.2, hq.2] at this
    exact this) hc hrd h
theorem Hs.callDead (C : Fx w00 G w0 L (M.fp p) (WQ p M S)) (hc : callOf Tryz.prog n β m = some (15, #[ptrV p])) (h : Hs Tryz.prog f R n w0 L β (m.put (dstOf m) (.c (.v (.bool S.dead))) m.hp)) : Hs Tryz.prog f R n w0 L β m :=
  Hs.callV (fun w H => by
    have hq := C.at H
    have := dead29_any M p w hq.1.blk
    rw [show M.dead = S.dead by rw [← hq.2]; rfl] at this
    exact this) hc h
/-- A message of the call's own, or without data. -/
theorem keep_msg {w : World} {hp : List HB} {Q : World → Prop} {fp : List Nat} (i0 : Int) (C : Fx w00 [] w0 L fp Q) (H : Mem w0 L β hp w) (h00 : w00.cell? ⟨0, 0, none⟩ = some (.int .i64 i0)) (x : MD) (hb : ∀ v ∈ x.data, 0 ≤ v ∧ v < 256) (hl : x.data.length ≤ 1000) (hlc : x.data.length ≤ x.dc) (hcm : x.dc ≤ 1000) (hn : U32 x.chan ∧ U32 x.sender ∧ U32 x.window ∧ U32 x.packet ∧ U32 x.code) (hs : x.name.size ≤ 1000 ∧ x.lang.size ≤ 1000)
    (hd : x.data = [] ∨ ∃ (k : Nat) (b : Nat) (st : ∀ w w' : World, (∀ a, (some ⟨b, 0, none⟩ : Option Addr) = some a → w'.heap[a.block]? = w.heap[a.block]?) → w.heap.size ≤ w'.heap.size → Rd w (some ⟨b, 0, none⟩) x.data → Rd w' (some ⟨b, 0, none⟩) x.data), hp[k]? = some (.q true (some ⟨b, 0, none⟩) (fun w => Rd w (some ⟨b, 0, none⟩) x.data) st) ∧ x.dA = some ⟨b, 0, none⟩) : Keeps w fp (MsgIn i0 x) := fun w2 O => by
  have hm1 : x.dc ≤ maxLen := by unfold maxLen; omega
  have h0 : w2.cell? ⟨0, 0, none⟩ = some (.int .i64 i0) := by
    have hlt := block_lt_of_cell h00
    have O2 : Only [] w00 w2 := (C.fin H).trans O fun y hy => (C.own y hy).2.2
    rw [← h00]
    exact World.cell?_of_block (w := w00) (w' := w2) (O2.block 0 hlt (by simp))
  have hnm1 : x.name.size ≤ maxLen := by unfold maxLen; omega
  have hnm2 : x.lang.size ≤ maxLen := by unfold maxLen; omega
  rcases hd with hd | ⟨k, b, st, hk, hA⟩
  · exact ⟨⟨fun h0 => by rw [hd] at h0; exact absurd h0 (Nat.lt_irrefl _), hlc, hm1, hb, hn, hnm1, hnm2⟩, h0, by omega, fun a _ h0 => by rw [hd] at h0; exact absurd h0 (Nat.lt_irrefl _)⟩
  · have hq := H.lies k _ hk
    have hbl : b < w.heap.size := hq.2 ⟨b, 0, none⟩ rfl
    have hnb : b ∉ fp := fun hm => by
      rcases H.own k _ b hk rfl rfl with h1 | h1
      · exact (C.own b hm).2.1 h1
      · have := (C.own b hm).1; omega
    have hr2 : Rd w2 (some ⟨b, 0, none⟩) x.data := st w w2 (fun a ha => by injection ha with ha; subst ha; exact O.block b hbl hnb) O.size hq.1
    exact ⟨⟨by rw [hA]; exact hr2, hlc, hm1, hb, hn, hnm1, hnm2⟩, h0, by omega, fun a ha _ => by rw [hA] at ha; injection ha with ha; subst ha; exact Nat.lt_of_lt_of_le hbl O.size⟩
end
def mO (k c s w p : Int) : MD := ⟨k, c, s, w, p, 0, ⟨#[]⟩, ⟨#[]⟩, false, none, 0, []⟩
def mD (b : Nat) (l : List Int) : MD := ⟨94, 7, 0, 0, 0, 0, ⟨#[]⟩, ⟨#[]⟩, false, some ⟨b, 0, none⟩, l.length, l⟩
def u1 : WS := ⟨[(7, [(3, 9)])], 0, [], [], false⟩
def eA (sent : Int) (cl : Bool) : EN := ⟨7, 3, sent, 9, false, cl, false, 0⟩
def u2 (sent : Int) (cl : Bool) : WS := ⟨[(7, [])], 0, [(7, eA sent cl)], [(0, 7)], false⟩
theorem un : U32 7 ∧ U32 0 ∧ U32 0 ∧ U32 0 ∧ U32 0 := ⟨⟨by decide, by decide⟩, ⟨by decide, by decide⟩, ⟨by decide, by decide⟩, ⟨by decide, by decide⟩, ⟨by decide, by decide⟩⟩
theorem un8 : U32 8 ∧ U32 0 ∧ U32 0 ∧ U32 0 ∧ U32 0 := ⟨⟨by decide, by decide⟩, ⟨by decide, by decide⟩, ⟨by decide, by decide⟩, ⟨by decide, by decide⟩, ⟨by decide, by decide⟩⟩
theorem hu1 : (∀ x ∈ u1.opens, ∀ y ∈ x.2, U32 y.1) ∧ ∀ x ∈ u1.ends, U32 x.2.packet := ⟨by simp [u1, U32], by simp [u1]⟩
theorem hu2 (s : Int) (c : Bool) : (∀ x ∈ (u2 s c).opens, ∀ y ∈ x.2, U32 y.1) ∧ ∀ x ∈ (u2 s c).ends, U32 x.2.packet := ⟨by simp [u2], by simp [u2, eA, U32]⟩
theorem ev {S S' : WS} {x : MD} {e : Int} (h : ∀ ok, hearsS S x ok = (S', e)) : hearsS S x (okEx x) = (S', e) := h _
set_option maxHeartbeats 4000000 in
theorem alive29_any (i0 : Int) (w : World) (h00 : w.cell? ⟨0, 0, none⟩ = some (.int .i64 i0)) : Calls Tryz.prog 5 #[] w fun e w' => e = .returned (.bool true) ∧ Only [] w w' := by
  refine Hs.enter Tryz.func5 [] [] [] [] (Mem.start0 w) (by kernel_rfl) (by kernel_rfl) ?_
  have C0 : Fx w [] w [] [] (fun _ => True) := Fx.start0
  refine Hs.run0 300 (fun _ => by kernel_rfl) ?_
  refine Hs.callNew29 C0 (by kernel_rfl) (by kernel_rfl) (by kernel_rfl) fun p M w1 L1 C1 _ _ => ?_
  refine Hs.run0 300 (fun _ => by kernel_rfl) ?_
  refine Hs.condF (by kernel_rfl) ?_
  refine Hs.run0 300 (fun _ => by kernel_rfl) ?_
  refine Hs.callSays C1 (mO 90 0 7 3 9) (S' := u1) (by simp [newW]) ⟨by decide, by decide⟩ (by kernel_rfl) (by kernel_rfl) (by kernel_rfl) (by kernel_rfl) fun M2 w2 L2 C2 _ _ => ?_
  refine Hs.run0 300 (fun _ => by kernel_rfl) ?_
  refine Hs.callHears i0 C2 (mO 91 7 0 0 0) (S' := u2 0 false) (e' := 0) hu1.1 hu1.2 (fun w' H => keep_msg i0 C2 H h00 (mO 91 7 0 0 0) (by simp [mO]) (by simp [mO]) (by simp [mO]) (by simp [mO]) un ⟨by decide, by decide⟩ (.inl rfl)) (by kernel_rfl) (by kernel_rfl) (by kernel_rfl) (ev (fun ok => by kernel_rfl)) fun M3 w3 L3 C3 _ _ => ?_
  refine Hs.run1 300 (fun _ => by kernel_rfl) fun b1 => ?_
  refine Hs.mark 0 34 5 [97, 98, 99, 100] 4 (by kernel_rfl) (by kernel_rfl) (by kernel_rfl) (by kernel_rfl) (by kernel_rfl) ?_
  refine Hs.run0 300 (fun _ => by kernel_rfl) ?_
  refine Hs.callHears i0 C3 (mD b1 [97, 98, 99, 100]) (S' := u2 0 false) (e' := 5) (hu2 0 false).1 (hu2 0 false).2 (fun w' H => keep_msg i0 C3 H h00 (mD b1 [97, 98, 99, 100]) (by simp [mD]) (by simp [mD]) (by simp [mD]) (by simp [mD]) un ⟨by simp [mD, ByteArray.size], by simp [mD, ByteArray.size]⟩ (.inr ⟨0, b1, rd_st, (by kernel_rfl), rfl⟩)) (by kernel_rfl) (by kernel_rfl) (by kernel_rfl) (ev (fun ok => by kernel_rfl)) fun M4 w4 L4 C4 _ _ => ?_
  refine Hs.run1 300 (fun _ => by kernel_rfl) fun b2 => ?_
  refine Hs.mark 1 34 5 [97, 98, 99] 3 (by kernel_rfl) (by kernel_rfl) (by kernel_rfl) (by kernel_rfl) (by kernel_rfl) ?_
  refine Hs.run0 300 (fun _ => by kernel_rfl) ?_
  refine Hs.callHears i0 C4 (mD b2 [97, 98, 99]) (S' := u2 3 false) (e' := 0) (hu2 0 false).1 (hu2 0 false).2 (fun w' H => keep_msg i0 C4 H h00 (mD b2 [97, 98, 99]) (by simp [mD]) (by simp [mD]) (by simp [mD]) (by simp [mD]) un ⟨by simp [mD, ByteArray.size], by simp [mD, ByteArray.size]⟩ (.inr ⟨1, b2, rd_st, (by kernel_rfl), rfl⟩)) (by kernel_rfl) (by kernel_rfl) (by kernel_rfl) (ev (fun ok => by kernel_rfl)) fun M5 w5 L5 C5 _ _ => ?_
  refine Hs.run0 300 (fun _ => by kernel_rfl) ?_
  refine Hs.callHears i0 C5 (mO 97 7 0 0 0) (S' := u2 3 true) (e' := 0) (hu2 3 false).1 (hu2 3 false).2 (fun w' H => keep_msg i0 C5 H h00 (mO 97 7 0 0 0) (by simp [mO]) (by simp [mO]) (by simp [mO]) (by simp [mO]) un ⟨by decide, by decide⟩ (.inl rfl)) (by kernel_rfl) (by kernel_rfl) (by kernel_rfl) (ev (fun ok => by kernel_rfl)) fun M6 w6 L6 C6 _ _ => ?_
  refine Hs.run0 300 (fun _ => by kernel_rfl) ?_
  refine Hs.callHears i0 C6 (mO 94 7 0 0 0) (S' := u2 3 true) (e' := 9) (hu2 3 true).1 (hu2 3 true).2 (fun w' H => keep_msg i0 C6 H h00 (mO 94 7 0 0 0) (by simp [mO]) (by simp [mO]) (by simp [mO]) (by simp [mO]) un ⟨by decide, by decide⟩ (.inl rfl)) (by kernel_rfl) (by kernel_rfl) (by kernel_rfl) (ev (fun ok => by kernel_rfl)) fun M7 w7 L7 C7 _ _ => ?_
  refine Hs.run0 300 (fun _ => by kernel_rfl) ?_
  refine Hs.callHears i0 C7 (mO 94 8 0 0 0) (S' := u2 3 true) (e' := 8) (hu2 3 true).1 (hu2 3 true).2 (fun w' H => keep_msg i0 C7 H h00 (mO 94 8 0 0 0) (by simp [mO]) (by simp [mO]) (by simp [mO]) (by simp [mO]) un8 ⟨by decide, by decide⟩ (.inl rfl)) (by kernel_rfl) (by kernel_rfl) (by kernel_rfl) (ev (fun ok => by kernel_rfl)) fun M8 w8 L8 C8 _ _ => ?_
  refine Hs.rung0 [2, 6, 10, 14, 18, 22, 28] 300 (fun _ => by kernel_rfl) ?_
  refine Hs.callV (fun w' H => hears_nil (mO 0 0 0 0 0) w') (by kernel_rfl) ?_
  refine Hs.rung0 [2, 6, 10, 14, 18, 22, 28] 300 (fun _ => by kernel_rfl) ?_
  refine Hs.callEnds C8 (by simp [u2, U32]) (by simp [u2]) 1 rfl (by kernel_rfl) (by kernel_rfl) fun A cap _ _ => ?_
  refine Hs.rung0 [2, 6, 10, 14, 18, 22, 28] 300 (fun _ => by kernel_rfl) ?_
  exact Hs.ret (v := .bool true) Tryz.func5 (by kernel_rfl) fun w' H => ⟨rfl, C8.fin H⟩
end Go.Proofs.YtkgikodiecmakaaGreatDoor

namespace Go.Proofs.YtkgikodiecmakaaGreatDoor
set_option linter.all false
set_option maxRecDepth 100000
open Go.RowKit Go.MapKept

theorem msg_step {i0 : Int} {m : MD} {w w' : World} (h : MsgIn i0 m w) (O : Only [] w w') : MsgIn i0 m w' :=
  ⟨h.1.only O, by rw [← h.2.1]; exact World.cell?_of_block (w := w) (w' := w') (O.block 0 (block_lt_of_cell h.2.1) (by simp)), h.2.2.1, fun a ha h0 => Nat.lt_of_lt_of_le (h.2.2.2 a ha h0) O.size⟩
theorem keep_line {i0 : Int} {m : MD} {w00 w0 w : World} {L β fp : List Nat} {hp : List HB} {Q : World → Prop} (h : MsgIn i0 m w00) (C : Fx w00 [] w0 L fp Q) (H : Mem w0 L β hp w) : Keeps w fp (MsgIn i0 m) := fun w2 O =>
  msg_step h ((C.fin H).trans O fun y hy => (C.own y hy).2.2)
theorem Inv29.wins {c : Nat} {S : WS} (h : Inv29 c S) : ∀ x ∈ S.opens, ∀ y ∈ x.2, U32 y.1 := fun x hx y hy => ((h.op x hx).1 y hy).1
theorem Inv29.pcks {c : Nat} {S : WS} (h : Inv29 c S) : ∀ x ∈ S.ends, U32 x.2.packet := fun x hx => (h.en x hx).2.2.1
theorem Inv29.keys {c : Nat} {S : WS} (h : Inv29 c S) : ∀ x ∈ S.ends, U32 x.1 := fun x hx => (h.en x hx).1
set_option maxHeartbeats 16000000 in
theorem errors_walk (l : List LN) (N : Nat) (hN : l.length = N) (A : Option Addr) (c : Nat) (i0 : Int) (w : World) (hr : RdX LN.row w A l) (hl : ∀ x ∈ l, MsgIn i0 x.m w) (hNm : N ≤ maxLen) (h00 : w.cell? ⟨0, 0, none⟩ = some (.int .i64 i0)) : Calls Tryz.prog 4 #[.slice A N c] w fun e w' => e = .returned (.bool true) ∧ Only [] w w' := by
  refine Hs.enter Tryz.func4 [] [] [] [.c (.v (.slice A N c))] (Mem.start0 w) (by kernel_rfl) (by kernel_rfl) ?_
  refine Hs.run0 300 (fun _ => by kernel_rfl) ?_
  refine Hs.callV (fun w' H => alive29_any i0 w' (by rw [← h00]; exact World.cell?_of_block (w := w) (w' := w') (H.only.block 0 (block_lt_of_cell h00) (by simp)))) (by kernel_rfl) ?_
  refine Hs.run0 300 (fun _ => by kernel_rfl) ?_
  refine Hs.condF (by kernel_rfl) ?_
  refine Hs.run0 300 (fun _ => by kernel_rfl) ?_
  refine Hs.callX (X := Bool) (fun b => .bool b) (fun b => b = false → Few29 l) (fun w' H => by
    have := great29_any l A c w' (hr.only H.only) (by omega)
    rw [hN] at this
    exact this) (by kernel_rfl) fun g hg => ?_
  refine Hs.run0 300 (fun _ => by kernel_rfl) ?_
  refine Hs.cond g (by kernel_rfl) (fun h1 => ?_) (fun h1 => ?_)
  · refine Hs.run0 300 (fun _ => by kernel_rfl) ?_
    exact Hs.ret (v := .bool true) Tryz.func4 (by kernel_rfl) fun w' H => ⟨rfl, H.only⟩
  have few := hg h1
  have hN1 : N ≤ 100 := by rw [← hN]; exact few.len
  have C0 : Fx w [] w [] [] (fun _ => True) := Fx.start0
  refine Hs.run0 300 (fun _ => by kernel_rfl) ?_
  refine Hs.callNew29 C0 (by kernel_rfl) (by kernel_rfl) (by kernel_rfl) fun p M0 w0 L0 C1 _ _ => ?_
  refine Hs.run0 300 (fun _ => by kernel_rfl) ?_
  have J : ∀ (d i : Nat), N - i = d → i ≤ N → ∀ (M : WM) (S : WS) (w1 : World) (L1 : List Nat), Fx w [] w1 L1 (M.fp p) (WQ p M S) → Inv29 i S → ∀ u : Nat → Value, Hs Tryz.prog 4 (fun e w' => e = .returned (.bool true) ∧ Only [] w w') (Tryz.f4).ntmps w1 L1 [] ⟨.no, loopAt Tryz.f4 0, pins [(3, .c (.v (ptrV p))), (16, .c (.v (.slice A N c))), (17, .c (.v (.int .i64 N))), (18, .c (.v (.int .i64 (i : Nat))))] (.vals u), []⟩ := by
    intro d
    induction d with
    | zero =>
      intro i hd hi M S w1 L1 C I u
      obtain rfl : i = N := by omega
      refine Hs.run0 300 (fun _ => by kernel_rfl) ?_
      refine Hs.condP ((i : Int) < (i : Int)) (by kernel_rfl) (fun h => by omega) (fun h => ?_)
      refine Hs.run0 300 (fun _ => by kernel_rfl) ?_
      exact Hs.ret (v := .bool true) Tryz.func4 (by kernel_rfl) fun w' H => ⟨rfl, C.fin H⟩
    | succ d ih =>
      intro i hd hi M S w1 L1 C I u
      have hil : i < N := by omega
      obtain ⟨o, hx⟩ : ∃ o, l[i]? = some o := ⟨_, List.getElem?_eq_getElem (by omega)⟩
      have ho := hl o (List.mem_of_getElem? hx)
      obtain ⟨b, off, hA, _, _⟩ := hr (by omega)
      have ih' := fun M S w1 L1 C I u => ih (i + 1) (by omega) (by omega) M S w1 L1 C I u
      clear ih
      subst hA
      have J2 : ∀ (M' : WM) (S' : WS) (w2 : World) (L2 : List Nat), Fx w [] w2 L2 (M'.fp p) (WQ p M' S') → Inv29 (i + 1) S' → ∀ (A2 : Option Addr) (c2 N2 : Nat), S'.ends.length = N2 → ∀ (d2 j : Nat), N2 - j = d2 → j ≤ N2 → ∀ u : Nat → Value, Hs Tryz.prog 4 (fun e w' => e = .returned (.bool true) ∧ Only [] w w') (Tryz.f4).ntmps w2 L2 [0] ⟨.no, loopAt Tryz.f4 1, pins [(3, .c (.v (ptrV p))), (16, .c (.v (.slice (some ⟨b, off, none⟩) N c))), (17, .c (.v (.int .i64 N))), (18, .c (.v (.int .i64 (i : Nat)))), (61, .c (.v (.slice A2 N2 c2))), (62, .c (.v (.int .i64 N2))), (63, .c (.v (.int .i64 (j : Nat))))] (.vals u), [.s A2 c2 N2 49 8 ((endsL S').flatMap EN.cells)]⟩ := by
        intro M' S' w2 L2 C2 I2 A2 c2 N2 hN2 d2
        have hEl : (endsL S').length = N2 := by rw [endsL_len, hN2]
        have hE := endsL_ok I2
        have hN3 : N2 ≤ 1000 := by have := I2.le; omega
        obtain ⟨E, hEq⟩ : ∃ E, endsL S' = E := ⟨_, rfl⟩
        rw [hEq] at hEl hE ⊢
        induction d2 with
        | zero =>
          intro j hd2 hj u
          obtain rfl : j = N2 := by omega
          refine Hs.run0 300 (fun _ => by kernel_rfl) ?_
          refine Hs.condP ((j : Int) < (j : Int)) (by kernel_rfl) (fun h => by omega) (fun h => ?_)
          refine Hs.run0 300 (fun _ => by kernel_rfl) ?_
          refine Hs.slot 18 (.c (.v (.int .i64 (i + 1 : Nat)))) rfl ((by kernel_rfl : _ = Value.int .i64 (IntKind.i64.wrap ((i : Int) + 1))).trans (wrap_next29 hNm)) ?_
          refine Hs.loop (by kernel_rfl) ?_
          exact Hs.goto (loopAt Tryz.f4 0) [] [] [(3, .c (.v (ptrV p))), (16, .c (.v (.slice (some ⟨b, off, none⟩) N c))), (17, .c (.v (.int .i64 N))), (18, .c (.v (.int .i64 (i + 1 : Nat))))] (by kernel_rfl) (by decide) (by kernel_rfl) (by kernel_rfl) (fun _ => (by kernel_rfl)) (fun u => ih' M' S' w2 L2 C2 I2 u)
        | succ d2 ih2 =>
          intro j hd2 hj u
          have hjl : j < N2 := by omega
          obtain ⟨x, hxE⟩ : ∃ x, E[j]? = some x := ⟨_, List.getElem?_eq_getElem (by omega)⟩
          have hxo := hE.each x (List.mem_of_getElem? hxE)
          have ih3 := fun u => ih2 (j + 1) (by omega) (by omega) u
          clear ih2
          refine Hs.someS (A := A2) (cap := c2) (nl := N2) (E := 49) (size := 8) (vs := E.flatMap EN.cells) 0 (by kernel_rfl) (by omega) fun g2 hA2 => ?_
          subst hA2
          obtain ⟨xc, xg, xs, xp, xe, xd, xt, xw⟩ := x
          dsimp only at hxo
          refine Hs.run0 300 (fun _ => by kernel_rfl) ?_
          refine Hs.condP ((j : Int) < (N2 : Int)) (by kernel_rfl) (fun h => ?_) (fun h => by omega)
          refine Hs.run0 300 (fun _ => by kernel_rfl) ?_
          refine Hs.idx (b := g2) (off := 0) (len := N2) (c := c2) (i := j) elemTE hjl (by kernel_rfl) ?_
          refine Hs.run0 300 (fun _ => by kernel_rfl) ?_
          refine Hs.ldx (cf := EN.cells) (size := 8) (E := 49) (b := g2) (off := 0) (i := j) (l := E) (x := ⟨xc, xg, xs, xp, xe, xd, xt, xw⟩) EN_len (.g (EN.sc ⟨xc, xg, xs, xp, xe, xd, xt, xw⟩)) (by kernel_rfl) (fun w' H => H.rdX (cf := EN.cells) 0 hEl (A := some ⟨g2, 0, none⟩) (cap := c2) (E := 49) (size := 8) (by kernel_rfl)) hxE (by kernel_rfl) (by kernel_rfl) rfl (by kernel_rfl) ?_
          refine Hs.run1 300 (fun _ => by kernel_rfl) fun b3 => ?_
          refine Hs.any [0, 1] (by kernel_rfl) ?_
          refine Hs.run0 300 (fun _ => by kernel_rfl) ?_
          refine Hs.bool 73 (decide (xs > xg)) (by kernel_rfl) (fun h => absurd (of_decide_eq_true h) (by omega)) (fun _ => ?_)
          refine Hs.rung0 [5] 300 (fun _ => by kernel_rfl) ?_
          refine Hs.bool 78 (decide (xw < 0)) (by kernel_rfl) (fun h => absurd (of_decide_eq_true h) (by omega)) (fun _ => ?_)
          refine Hs.rung0 [5, 10] 300 (fun _ => by kernel_rfl) ?_
          refine Hs.bool 81 (decide ((j : Int) > 0)) (by kernel_rfl) (fun hj0 => ?_) (fun hj0 => ?_)
          · have hj0 : (j : Int) > 0 := of_decide_eq_true hj0
            refine Hs.rung0 [5, 10, 13] 300 (fun _ => by kernel_rfl) ?_
            obtain ⟨y, hyE⟩ : ∃ y, E[j - 1]? = some y := ⟨_, List.getElem?_eq_getElem (by omega)⟩
            have hlt : y.chan < xc := hE.inc (j - 1) y ⟨xc, xg, xs, xp, xe, xd, xt, xw⟩ hyE (by rw [show j - 1 + 1 = j by omega]; exact hxE)
            refine Hs.callEnds C2 I2.keys (by omega) N2 hN2 (by kernel_rfl) (by kernel_rfl) fun A3 c3 _ _ => ?_
            refine Hs.slot 85 (.c (.v (.int .i64 (j - 1 : Nat)))) rfl ((by kernel_rfl : _ = Value.int .i64 (IntKind.i64.wrap ((j : Int) - 1))).trans (congrArg (Value.int .i64) (by rw [IntWalk.i64_in _ (by omega)]; omega))) ?_
            refine Hs.someS (A := A3) (cap := c3) (nl := N2) (E := 49) (size := 8) (vs := (endsL S').flatMap EN.cells) 2 (by kernel_rfl) (by omega) fun g3 hA3 => ?_
            subst hA3
            refine Hs.rung0 [5, 10, 13] 300 (fun _ => by kernel_rfl) ?_
            refine Hs.idx (b := g3) (off := 0) (len := N2) (c := c3) (i := j - 1) elemTE (by omega) (by kernel_rfl) ?_
            refine Hs.rung0 [5, 10, 13] 300 (fun _ => by kernel_rfl) ?_
            refine Hs.ldc (E' := 33) (b := g3) (off := 0 + (j - 1) * 8 + 0) (.int .u32 y.chan) (by kernel_rfl) (fun w' H => by
              have := rdX_cell EN_len (H.rdX (cf := EN.cells) (l := endsL S') 2 (by rw [hEq, hEl]) (A := some ⟨g3, 0, none⟩) (cap := c3) (E := 49) (size := 8) (by kernel_rfl)) (i := j - 1) (x := y) (by rw [hEq]; exact hyE) (j := 0) (v := .int .u32 y.chan) rfl
              exact this) (by kernel_rfl) ?_
            refine Hs.rung0 [5, 10, 13] 300 (fun _ => by kernel_rfl) ?_
            refine Hs.condP (y.chan ≥ xc) (by kernel_rfl) (fun h => by omega) (fun _ => ?_)
            refine Hs.run0 300 (fun _ => by kernel_rfl) ?_
            refine Hs.slot 63 (.c (.v (.int .i64 (j + 1 : Nat)))) rfl ((by kernel_rfl : _ = Value.int .i64 (IntKind.i64.wrap ((j : Int) + 1))).trans (wrap_next29 (n := N2) (by unfold maxLen; omega))) ?_
            refine Hs.loop (by kernel_rfl) ?_
            exact Hs.goto (loopAt Tryz.f4 1) [0] [.s (some ⟨g2, 0, none⟩) c2 N2 49 8 (E.flatMap EN.cells)] [(3, .c (.v (ptrV p))), (16, .c (.v (.slice (some ⟨b, off, none⟩) N c))), (17, .c (.v (.int .i64 N))), (18, .c (.v (.int .i64 (i : Nat)))), (61, .c (.v (.slice (some ⟨g2, 0, none⟩) N2 c2))), (62, .c (.v (.int .i64 N2))), (63, .c (.v (.int .i64 (j + 1 : Nat))))] (by kernel_rfl) (by decide) (by kernel_rfl) (by kernel_rfl) (fun _ => (by kernel_rfl)) (fun u => ih3 u)
          · refine Hs.rung0 [5, 10, 13] 300 (fun _ => by kernel_rfl) ?_
            refine Hs.condF (by kernel_rfl) ?_
            refine Hs.run0 300 (fun _ => by kernel_rfl) ?_
            refine Hs.slot 63 (.c (.v (.int .i64 (j + 1 : Nat)))) rfl ((by kernel_rfl : _ = Value.int .i64 (IntKind.i64.wrap ((j : Int) + 1))).trans (wrap_next29 (n := N2) (by unfold maxLen; omega))) ?_
            refine Hs.loop (by kernel_rfl) ?_
            exact Hs.goto (loopAt Tryz.f4 1) [0] [.s (some ⟨g2, 0, none⟩) c2 N2 49 8 (E.flatMap EN.cells)] [(3, .c (.v (ptrV p))), (16, .c (.v (.slice (some ⟨b, off, none⟩) N c))), (17, .c (.v (.int .i64 N))), (18, .c (.v (.int .i64 (i : Nat)))), (61, .c (.v (.slice (some ⟨g2, 0, none⟩) N2 c2))), (62, .c (.v (.int .i64 N2))), (63, .c (.v (.int .i64 (j + 1 : Nat))))] (by kernel_rfl) (by decide) (by kernel_rfl) (by kernel_rfl) (fun _ => (by kernel_rfl)) (fun u => ih3 u)
      refine Hs.run0 300 (fun _ => by kernel_rfl) ?_
      refine Hs.condP ((i : Int) < (N : Int)) (by kernel_rfl) (fun h => ?_) (fun h => by omega)
      refine Hs.run0 300 (fun _ => by kernel_rfl) ?_
      refine Hs.idx (b := b) (off := off) (c := c) elemLn hil (by kernel_rfl) ?_
      refine Hs.ldx (E := 38) (b := b) (off := off) (i := i) LN_len (.g o.sc) (by kernel_rfl) (fun w' H => hr.only (C.fin H)) hx (by kernel_rfl) (by kernel_rfl) (by kernel_rfl) (by kernel_rfl) ?_
      refine Hs.run1 300 (fun _ => by kernel_rfl) fun b1 => ?_
      refine Hs.callEnds C I.keys (by have := I.le; omega) S.ends.length rfl (by kernel_rfl) (by kernel_rfl) fun eA ec _ _ => ?_
      refine Hs.run0 300 (fun _ => by kernel_rfl) ?_
      refine Hs.callDead C (by kernel_rfl) ?_
      refine Hs.run0 300 (fun _ => by kernel_rfl) ?_
      refine Hs.cond o.mine (by kernel_rfl) (fun hm => ?_) (fun hm => ?_)
      · refine Hs.run0 300 (fun _ => by kernel_rfl) ?_
        refine Hs.callSays C o.m (S' := saysS S o.m) (fun x hx => by have := (I.op x hx).2; omega) ho.1.nums.2.2.1 (by kernel_rfl) (by kernel_rfl) (by kernel_rfl) rfl fun M2 w2 L2 C2 _ _ => ?_
        have I2 : Inv29 (i + 1) (saysS S o.m) := inv29_says I (by omega) ho.1.nums.2.2.1 ho.1.nums.2.2.2.1
        obtain ⟨S2, hS2⟩ : ∃ S2, saysS S o.m = S2 := ⟨_, rfl⟩
        rw [hS2] at C2 I2
        refine Hs.run0 300 (fun _ => by kernel_rfl) ?_
        refine Hs.callEnds C2 I2.keys (by have := I2.le; omega) S2.ends.length rfl (by kernel_rfl) (by kernel_rfl) fun A2 c2 _ _ => ?_
        refine Hs.run0 300 (fun _ => by kernel_rfl) ?_
        refine Hs.loop (by kernel_rfl) ?_
        exact Hs.goto (loopAt Tryz.f4 1) [2] [.s A2 c2 S2.ends.length 49 8 ((endsL S2).flatMap EN.cells)] [(3, .c (.v (ptrV p))), (16, .c (.v (.slice (some ⟨b, off, none⟩) N c))), (17, .c (.v (.int .i64 N))), (18, .c (.v (.int .i64 (i : Nat)))), (61, .c (.v (.slice A2 S2.ends.length c2))), (62, .c (.v (.int .i64 S2.ends.length))), (63, .c (.v (.int .i64 (0 : Nat))))] (by kernel_rfl) (by decide) (by kernel_rfl) (by kernel_rfl) (fun _ => (by kernel_rfl)) (fun u => J2 M2 S2 w2 L2 C2 I2 A2 c2 _ rfl _ 0 rfl (by omega) u)
      · obtain ⟨S2, e, hS2⟩ : ∃ S2 e, hearsS S o.m (okEx o.m) = (S2, e) := ⟨_, _, rfl⟩
        have I2 : Inv29 (i + 1) S2 := by
          have := inv29_hears I (by omega) ho.1.nums.1 ho.2.2.1 (okEx o.m)
          rw [hS2] at this
          exact this
        have herr : e ≠ 0 → S2.ends = S.ends ∧ S2.dead = S.dead := fun h => by
          have := hears_err (S := S) (m := o.m) (ok := okEx o.m) (by rw [hS2]; exact h)
          rw [hS2] at this
          exact this
        have hdead : S.dead = true → e = 9 := fun h => by
          have := hears_dead9 o.m (okEx o.m) h
          rw [hS2] at this
          injection this
        refine Hs.run0 300 (fun _ => by kernel_rfl) ?_
        refine Hs.callHears i0 C o.m (S' := S2) (e' := e) I.wins I.pcks (fun w' H => keep_line ho C H) (by kernel_rfl) (by kernel_rfl) (by kernel_rfl) hS2 fun M2 w2 L2 C2 _ _ => ?_
        refine Hs.run0 300 (fun _ => by kernel_rfl) ?_
        refine Hs.bool 38 (e != 0) (by kernel_rfl) (fun he => ?_) (fun he => ?_)
        · have he : e ≠ 0 := by simpa using he
          obtain ⟨hE1, hE2⟩ := herr he
          have hEE : endsL S2 = endsL S := endsL_same hE1
          have hSl : S.ends.length ≤ 1000000 := by have := I.le; omega
          refine Hs.rung0 [2] 300 (fun _ => by kernel_rfl) ?_
          refine Hs.callS (cf := EN.cells) (E := 61) (size := 8) (fun A cap => .slice A S.ends.length cap) (endsL S) S.ends.length (endsL_len S) (fun w' H => ends29_any (endsL S) S.ends.length (endsL_len S) eA ec w' (H.rdX (cf := EN.cells) (l := endsL S) 1 (endsL_len S) (A := eA) (cap := ec) (E := 49) (size := 8) (by kernel_rfl)) hSl) (by kernel_rfl) (by kernel_rfl) fun rA rc _ _ => ?_
          refine Hs.rung0 [2] 300 (fun _ => by kernel_rfl) ?_
          refine Hs.callEnds C2 I2.keys (by rw [hE1]; exact hSl) S.ends.length (by rw [hE1]) (by kernel_rfl) (by kernel_rfl) fun eA2 ec2 _ _ => ?_
          refine Hs.rung0 [2] 300 (fun _ => by kernel_rfl) ?_
          refine Hs.callS (cf := EN.cells) (E := 61) (size := 8) (fun A cap => .slice A S.ends.length cap) (endsL S2) S.ends.length (by rw [hEE, endsL_len]) (fun w' H => ends29_any (endsL S2) S.ends.length (by rw [hEE, endsL_len]) eA2 ec2 w' (H.rdX (cf := EN.cells) (l := endsL S2) 3 (by rw [hEE, endsL_len]) (A := eA2) (cap := ec2) (E := 49) (size := 8) (by kernel_rfl)) hSl) (by kernel_rfl) (by kernel_rfl) fun rA2 rc2 _ _ => ?_
          refine Hs.rung0 [2] 300 (fun _ => by kernel_rfl) ?_
          refine Hs.callV (fun w' H => same29_any (endsL S) S.ends.length (endsL_len S) rA rA2 rc rc2 w' (H.rdX (cf := EN.cells) (l := endsL S) 2 (endsL_len S) (A := rA) (cap := rc) (E := 61) (size := 8) (by kernel_rfl)) (by
            have := H.rdX (cf := EN.cells) (l := endsL S2) 4 (by rw [hEE, endsL_len]) (A := rA2) (cap := rc2) (E := 61) (size := 8) (by kernel_rfl)
            rw [hEE] at this
            exact this) (by unfold maxLen; omega)) (by kernel_rfl) ?_
          refine Hs.rung0 [2, 10] 300 (fun _ => by kernel_rfl) ?_
          refine Hs.callDead C2 (by kernel_rfl) ?_
          refine Hs.rung0 [2, 10] 300 (fun _ => by kernel_rfl) ?_
          refine Hs.bool 53 (S.dead != S2.dead) (by kernel_rfl) (fun h => by rw [hE2] at h; simp at h) (fun _ => ?_)
          refine Hs.rung0 [2, 10, 17] 300 (fun _ => by kernel_rfl) ?_
          refine Hs.bool 55 S.dead (by kernel_rfl) (fun hdd => ?_) (fun _ => ?_)
          · have he9 := hdead hdd
            subst he9
            refine Hs.rung0 [2, 10, 17, 19] 300 (fun _ => by kernel_rfl) ?_
            refine Hs.condF (by kernel_rfl) ?_
            refine Hs.run0 300 (fun _ => by kernel_rfl) ?_
            refine Hs.callEnds C2 I2.keys (by have := I2.le; omega) S2.ends.length rfl (by kernel_rfl) (by kernel_rfl) fun A2 c2 _ _ => ?_
            refine Hs.run0 300 (fun _ => by kernel_rfl) ?_
            refine Hs.loop (by kernel_rfl) ?_
            exact Hs.goto (loopAt Tryz.f4 1) [5] [.s A2 c2 S2.ends.length 49 8 ((endsL S2).flatMap EN.cells)] [(3, .c (.v (ptrV p))), (16, .c (.v (.slice (some ⟨b, off, none⟩) N c))), (17, .c (.v (.int .i64 N))), (18, .c (.v (.int .i64 (i : Nat)))), (61, .c (.v (.slice A2 S2.ends.length c2))), (62, .c (.v (.int .i64 S2.ends.length))), (63, .c (.v (.int .i64 (0 : Nat))))] (by kernel_rfl) (by decide) (by kernel_rfl) (by kernel_rfl) (fun _ => (by kernel_rfl)) (fun u => J2 M2 S2 w2 L2 C2 I2 A2 c2 _ rfl _ 0 rfl (by omega) u)
          · refine Hs.rung0 [2, 10, 17, 19] 300 (fun _ => by kernel_rfl) ?_
            refine Hs.condF (by kernel_rfl) ?_
            refine Hs.run0 300 (fun _ => by kernel_rfl) ?_
            refine Hs.callEnds C2 I2.keys (by have := I2.le; omega) S2.ends.length rfl (by kernel_rfl) (by kernel_rfl) fun A2 c2 _ _ => ?_
            refine Hs.run0 300 (fun _ => by kernel_rfl) ?_
            refine Hs.loop (by kernel_rfl) ?_
            exact Hs.goto (loopAt Tryz.f4 1) [5] [.s A2 c2 S2.ends.length 49 8 ((endsL S2).flatMap EN.cells)] [(3, .c (.v (ptrV p))), (16, .c (.v (.slice (some ⟨b, off, none⟩) N c))), (17, .c (.v (.int .i64 N))), (18, .c (.v (.int .i64 (i : Nat)))), (61, .c (.v (.slice A2 S2.ends.length c2))), (62, .c (.v (.int .i64 S2.ends.length))), (63, .c (.v (.int .i64 (0 : Nat))))] (by kernel_rfl) (by decide) (by kernel_rfl) (by kernel_rfl) (fun _ => (by kernel_rfl)) (fun u => J2 M2 S2 w2 L2 C2 I2 A2 c2 _ rfl _ 0 rfl (by omega) u)
        · have he : e = 0 := by simpa using he
          have hnd : S.dead = false := by
            cases h : S.dead with
            | false => rfl
            | true => have := hdead h; omega
          refine Hs.rung0 [2, 10, 17] 300 (fun _ => by kernel_rfl) ?_
          refine Hs.bool 55 S.dead (by kernel_rfl) (fun h => by rw [hnd] at h; cases h) (fun _ => ?_)
          refine Hs.rung0 [2, 10, 17, 19] 300 (fun _ => by kernel_rfl) ?_
          refine Hs.condF (by kernel_rfl) ?_
          refine Hs.run0 300 (fun _ => by kernel_rfl) ?_
          refine Hs.callEnds C2 I2.keys (by have := I2.le; omega) S2.ends.length rfl (by kernel_rfl) (by kernel_rfl) fun A2 c2 _ _ => ?_
          refine Hs.run0 300 (fun _ => by kernel_rfl) ?_
          refine Hs.loop (by kernel_rfl) ?_
          exact Hs.goto (loopAt Tryz.f4 1) [2] [.s A2 c2 S2.ends.length 49 8 ((endsL S2).flatMap EN.cells)] [(3, .c (.v (ptrV p))), (16, .c (.v (.slice (some ⟨b, off, none⟩) N c))), (17, .c (.v (.int .i64 N))), (18, .c (.v (.int .i64 (i : Nat)))), (61, .c (.v (.slice A2 S2.ends.length c2))), (62, .c (.v (.int .i64 S2.ends.length))), (63, .c (.v (.int .i64 (0 : Nat))))] (by kernel_rfl) (by decide) (by kernel_rfl) (by kernel_rfl) (fun _ => (by kernel_rfl)) (fun u => J2 M2 S2 w2 L2 C2 I2 A2 c2 _ rfl _ 0 rfl (by omega) u)
  refine Hs.loop (by kernel_rfl) ?_
  exact Hs.goto (loopAt Tryz.f4 0) [] [] [(3, .c (.v (ptrV p))), (16, .c (.v (.slice A N c))), (17, .c (.v (.int .i64 N))), (18, .c (.v (.int .i64 (0 : Nat))))] (by kernel_rfl) (by decide) (by kernel_rfl) (by kernel_rfl) (fun _ => (by kernel_rfl)) (fun u => J _ 0 rfl (by omega) M0 newW w0 L0 C1 inv29_new u)
end Go.Proofs.YtkgikodiecmakaaGreatDoor

namespace Go.Proofs.YtkgikodiecmakaaGreatDoor
set_option linter.all false
set_option maxRecDepth 100000
open Go.ChangeShapes Go.WideShapes Go.ChangeAt Go.RowKit Go.Deep

theorem wf_u8' {n : Int} (h : (Lit.int .u8 n).wf = true) : 0 ≤ n ∧ n < 256 := by
  have := wf_u8 h
  omega
def u8c (x : Int) : List Value := [.int .u8 x]
theorem u8c_len (x : Int) : (u8c x).length = 1 := rfl
theorem u8c_rdG {w : World} {A : Option Addr} {l : List Int} (h : RdX u8c w A l) : RdG (.int .u8) w A l := fun h0 => by
  obtain ⟨b, off, e, hb, hc⟩ := h h0
  refine ⟨b, off, e, hb, fun i x hx => hc i _ ?_⟩
  have hl : l.flatMap u8c = l.map (.int .u8) := by
    clear h h0 hc hx
    induction l with
    | nil => rfl
    | cons x l ih => rw [List.flatMap_cons, ih]; rfl
  rw [hl, List.getElem?_map, hx]; rfl
section
variable {H : Type} {enc : TypeId × Value → H} {w : World} {base : Nat} {spare : Nat → Bool} {held : Bool} {R : Nat}
theorem trod_octs {n : Nat} {v : Value} (h : TrodW enc Tryz.prog w base spare held R n 34 [v]) : ∃ (A : Option Addr) (l : List Int) (cap : Nat), v = .slice A l.length cap ∧ RdX u8c w A l ∧ l.length ≤ cap ∧ cap ≤ maxLen ∧ (∀ x ∈ l, 0 ≤ x ∧ x < 256) ∧ l.length ≤ R := by
  obtain ⟨A, l, cap, e, h1, h2, h3, h4, h5⟩ := h.slice (cf := u8c) (ok := fun x => 0 ≤ x ∧ x < 256) (size := 1) Tryz.underlying34 (by kernel_rfl) (by decide) u8c_len (fun n l hl h => by
    match l, hl with
    | [c], _ =>
      obtain ⟨a, rfl, u⟩ := TrodW.int Tryz.underlying5 h
      exact ⟨a, rfl, wf_u8' u⟩)
  rw [(by kernel_rfl : Tryz.prog.bytesOf 5 = 1), Nat.mul_one] at h5
  exact ⟨A, l, cap, e, h3, h1, h2, h4, h5⟩
theorem arN11 {l : List Value} (h : l.length = 11) : ∃ c0 c1 c2 c3 c4 c5 c6 c7 c8 c9 c10, l = [c0, c1, c2, c3, c4, c5, c6, c7, c8, c9, c10] := by
  match l, h with
  | [c0, c1, c2, c3, c4, c5, c6, c7, c8, c9, c10], _ => exact ⟨c0, c1, c2, c3, c4, c5, c6, c7, c8, c9, c10, rfl⟩
/-- A message that is handed in. -/
def MsgOpn (w : World) (m : MD) : Prop := m.ok w ∧ m.data.length ≤ 140737488355000 ∧ ∀ a, m.dA = some a → 0 < m.data.length → a.block < w.heap.size
theorem MsgOpn.inn {w : World} {m : MD} {i0 : Int} (h : MsgOpn w m) (h0 : w.cell? ⟨0, 0, none⟩ = some (.int .i64 i0)) : MsgIn i0 m w := ⟨h.1, h0, h.2.1, h.2.2⟩
theorem msg_opn (hR : R ≤ 140737488355000) {n : Nat} {c0 c1 c2 c3 c4 c5 c6 c7 c8 c9 : Value} (h : TrodW enc Tryz.prog w base spare held R n 36 [c0, c1, c2, c3, c4, c5, c6, c7, c8, c9]) : ∃ m : MD, [c0, c1, c2, c3, c4, c5, c6, c7, c8, c9] = m.cells ∧ MsgOpn w m := by
  obtain ⟨n1, hf⟩ := h.fields Tryz.underlying36
  have g0 := hf.at_ 0 3 0 1 _ rfl rfl rfl (by kernel_rfl) rfl
  have g1 := hf.at_ 1 33 1 1 _ rfl rfl rfl (by kernel_rfl) rfl
  have g2 := hf.at_ 2 33 2 1 _ rfl rfl rfl (by kernel_rfl) rfl
  have g3 := hf.at_ 3 33 3 1 _ rfl rfl rfl (by kernel_rfl) rfl
  have g4 := hf.at_ 4 33 4 1 _ rfl rfl rfl (by kernel_rfl) rfl
  have g5 := hf.at_ 5 33 5 1 _ rfl rfl rfl (by kernel_rfl) rfl
  have g6 := hf.at_ 6 9 6 1 _ rfl rfl rfl (by kernel_rfl) rfl
  have g7 := hf.at_ 7 9 7 1 _ rfl rfl rfl (by kernel_rfl) rfl
  have g8 := hf.at_ 8 4 8 1 _ rfl rfl rfl (by kernel_rfl) rfl
  have g9 := hf.at_ 9 34 9 1 _ rfl rfl rfl (by kernel_rfl) rfl
  obtain ⟨x0, rfl, _⟩ := TrodW.int Tryz.underlying3 g0
  obtain ⟨x1, rfl, u1⟩ := TrodW.int Tryz.underlying33 g1
  obtain ⟨x2, rfl, u2⟩ := TrodW.int Tryz.underlying33 g2
  obtain ⟨x3, rfl, u3⟩ := TrodW.int Tryz.underlying33 g3
  obtain ⟨x4, rfl, u4⟩ := TrodW.int Tryz.underlying33 g4
  obtain ⟨x5, rfl, u5⟩ := TrodW.int Tryz.underlying33 g5
  obtain ⟨x6, rfl, u6, _⟩ := TrodW.str Tryz.underlying9 g6
  obtain ⟨x7, rfl, u7, _⟩ := TrodW.str Tryz.underlying9 g7
  obtain ⟨x8, rfl⟩ := TrodW.bool Tryz.underlying4 g8
  obtain ⟨A, b, cap, rfl, k1, k2, k3, k4, k5⟩ := trod_octs g9
  refine ⟨⟨x0, x1, x2, x3, x4, x5, x6, x7, x8, A, cap, b⟩, rfl, ⟨u8c_rdG k1, k2, k3, k4, ⟨wf_u32 u1, wf_u32 u2, wf_u32 u3, wf_u32 u4, wf_u32 u5⟩, u6, u7⟩, Nat.le_trans k5 hR, fun a ha h0 => ?_⟩
  obtain ⟨b1, off, e, hb, _⟩ := k1 h0
  dsimp only at ha
  rw [ha] at e
  injection e with e
  subst e
  exact hb
theorem line_cells (hR : R ≤ 140737488355000) {n : Nat} {l : List Value} (hl : l.length = 11) (h : TrodW enc Tryz.prog w base spare held R n 38 l) : ∃ x : LN, l = x.row ∧ MsgOpn w x.m := by
  obtain ⟨n1, hf⟩ := h.fields Tryz.underlying38
  obtain ⟨c0, c1, c2, c3, c4, c5, c6, c7, c8, c9, c10, rfl⟩ := arN11 hl
  have g0 := hf.at_ 0 4 0 1 _ rfl rfl rfl (by kernel_rfl) rfl
  have g1 := hf.at_ 1 36 1 10 _ rfl rfl rfl (by kernel_rfl) rfl
  obtain ⟨b, rfl⟩ := TrodW.bool Tryz.underlying4 g0
  obtain ⟨m, em, hm⟩ := msg_opn hR g1
  refine ⟨⟨b, m⟩, ?_, hm⟩
  show _ :: _ = _ :: m.cells
  rw [← em]
theorem open_lines (hR : R ≤ 140737488355000) {r : Reach} {b0 : Nat} {v : Value} {d : DataW H} {p : List MemPlace} (hW : ∀ q ∈ d.weights Tryz.prog 22, q ≤ R) (hv : Value.okWide Tryz.prog w r b0 22 v) (h : DataW.Trod enc Tryz.prog w base spare held 22 v d p) : ∃ (l : List LN) (A : Option Addr) (cap : Nat), v = .slice A l.length cap ∧ RdX LN.row w A l ∧ l.length ≤ cap ∧ cap ≤ maxLen ∧ ∀ x ∈ l, MsgOpn w x.m := by
  obtain ⟨a0, len, c0, rfl⟩ := okWide_slice Tryz.underlying22 hv
  obtain ⟨fuel, hf⟩ := h
  obtain ⟨A, l, cap, e, h1, h2, h3, h4, _⟩ := TrodW.slice (R := R) (cf := LN.row) (ok := fun x => MsgOpn w x.m) (size := 11) Tryz.underlying22 (by kernel_rfl) (by decide) LN_len (fun n l hl h => line_cells hR hl h) ⟨_, hf, hW⟩
  exact ⟨l, A, cap, e, h3, h1, h2, h4⟩
end
end Go.Proofs.YtkgikodiecmakaaGreatDoor

namespace Go.Proofs.YtkgikodiecmakaaGreatDoor
set_option linter.all false
open Go.ChangeShapes Go.WideShapes Go.ChangeAt Go.RowKit Go.Deep

/-- What the walk of a law is handed: the arguments read as data, how much each takes, the world's shape. -/
def LawWalkC (P : Program) (f : FuncId) (fn : Func) : Prop :=
  ∀ (H : Type) (enc : TypeId × Value → H) (W : World) (base : Nat) (args : Array Value) (ds : List (DataW H)) (ps : List MemPlace),
    (∀ (j : Nat) t v, fn.params[j]? = some t → args[j]? = some v → Value.okWide P W .any base t v) →
    DataW.TrodAll enc P W 0 (fun _ => true) true fn.params.toList args.toList ds ps →
    (DataW.weightsEach P fn.params.toList ds).all (· ≤ reachBytes) = true →
    W.ShapedOpen P →
    Calls P f args W fun e W' => e = .returned (.bool true) ∧ Below W.heap.size W W'

theorem law_liftedC {C : Checked} {tb : TypeId} (own : ownKnob C.prog.godebug = none) (laidOut : laidOutB C.prog = true) (hb : C.prog.underlying tb = some .bool) (f : FuncId) (fn : Func) (s : ChangeSpec)
    (hfn : C.prog.funcs[f]? = some fn) (noInit : C.prog.inits.idxOf? f = none) (hres : fn.resultTypes = #[tb])
    (hread : readsAll C.prog fn.params.toList = true) (hv : s.vars = [])
    (hs : ∀ (H : Type) (ds : List (DataW H)), ds.length = fn.params.size → s.fn H ds = { results := [.lit (.bool true)], args := ds })
    (X : World → Prop)
    (walk : LawWalkC C.prog f fn) (os : Os) (started : os.Started) (H : Type) (enc : TypeId × Value → H)
    (witness : ∃ (w : World) (tape : Tape) (i : Input), w.os = os ∧ (w.forCall tape i).Shaped C.prog ∧ i.vars = [] ∧ Input.okWide C.prog (w.forCall tape i) .any w.heap.size f i ∧
      ((s.pre enc C.prog fn [] false (w.forCall tape i).memory i.args ∧ X (w.forCall tape i).memory) ∧ sizedMet enc C.prog fn (OpenSpec.ofChange s) false (w.forCall tape i).memory i.args) ∧ Assume.holds {} C.prog (lone (Frame.enter C.prog f i.args .normal) [] (w.forCall tape i))) :
    ReturnsInHanded {} C os f .any (fun w args => (s.pre enc C.prog fn [] false w args ∧ X w) ∧ sizedMet enc C.prog fn (OpenSpec.ofChange s) false w args) (s.post enc C.prog fn false true false false) := by
  refine returnsInHanded_of_calls own started noInit witness ?_
  intro w tape i _ hsh _ hok hpre hholds
  obtain ⟨_, _, _, fn', hfn', _, _, _, _, hval⟩ := hok
  have e : fn' = fn := Option.some.inj (hfn'.symm.trans hfn)
  subst e
  obtain ⟨⟨⟨ds, gs, before, hw, hc⟩, _⟩, hz⟩ := hpre
  have hW := DataW.Whole.of_heap (w' := w.forCall tape i) (by rfl) hw
  have hsz := hz.weights hw
  have hW' := hW
  obtain ⟨p, q, hA, hV, rfl, hfz, hnd⟩ := hW
  have hty : (OpenSpec.ofChange s).bare.plain.varTypes C.prog = [] := by simp [OpenSpec.ofChange, OpenSpec.bare, ChangeSpec.plain, hv, DataSpec.varTypes]
  have hV0 := hV
  rw [hv] at hV0
  obtain ⟨rfl, rfl⟩ := trodVars_none hV0
  rw [hty, List.append_nil, List.append_nil] at hsz
  have hlt := DataW.TrodAll.lt hA
  have hlen : ds.length = fn'.params.size := by have := trodAll_len _ _ _ _ hA; simpa using this
  have hfnc := hs H ds hlen
  refine (walk H enc (w.forCall tape i) w.heap.size i.args ds p hval hA hsz hsh).mono fun e W' ⟨he, bel⟩ => ?_
  subst he
  refine ChangeSpec.post_blind ⟨ds, [], p ++ [], [], p, [], hW', ?_, ?_, ?_, bel.frame _, fun h => by cases h⟩
  · rw [hres, List.append_nil, hfnc]
    exact trodAll_mk1 (shut_bool hb _)
  · rw [List.append_nil, hfnc]
    exact trodAll_stays laidOut bel _ _ _ _ hread hA hlt
  · rw [hv, List.append_nil, hfnc]
    rfl
end Go.Proofs.YtkgikodiecmakaaGreatDoor
