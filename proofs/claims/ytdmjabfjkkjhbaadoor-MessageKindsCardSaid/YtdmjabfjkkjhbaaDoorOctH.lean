/- Layer 1: the reader: what is taken off; for all bytes, no condition. -/
import Derived.Test.YtdmjabfjkkjhbaaDoorOctG
namespace Go.Proofs.YtdmjabfjkkjhbaaDoor
set_option linter.all false
open Go.RowKit

/-- A reader in block g that has still l to read; its fault so far. -/
structure RdrV (w : World) (g : Nat) (A : Option Addr) (cap : Nat) (l : List Int) (e : Int) : Prop where
  blk : Blk w g 67 [.slice A l.length cap, .int .i64 e]
  rd : Rd w A l
  le : l.length ≤ cap
  max : cap ≤ maxLen
  far : ∀ a, A = some a → a.block < g
theorem RdrV.only {w w' : World} {g : Nat} {A : Option Addr} {cap : Nat} {l : List Int} {e : Int} (h : RdrV w g A cap l e) (hb : Only [] w w') : RdrV w' g A cap l e :=
  { h with blk := h.blk.only hb (by simp), rd := h.rd.only hb }
theorem Rd.onlyG {w w' : World} {g : Nat} {A : Option Addr} {l : List Int} (h : Rd w A l) (hb : Only [g] w w') (hf : ∀ a, A = some a → a.block ≠ g) : Rd w' A l :=
  RdG.onlyL (mk := .int .u8) h hb (fun a ha _ => by simpa using hf a ha)
theorem rd_drop {w : World} {A : Option Addr} {l : List Int} (h : Rd w A l) (k : Nat) : Rd w (Option.map (fun x => x.add k) A) (l.drop k) := RdG.drop (mk := .int .u8) h k
theorem Rd.take {w : World} {A : Option Addr} {l : List Int} (h : Rd w A l) (k : Nat) : Rd w A (l.take k) := RdG.take (mk := .int .u8) h k

set_option maxRecDepth 100000 in
set_option maxHeartbeats 3200000 in
theorem take_short (w : World) (g : Nat) (A : Option Addr) (cap : Nat) (l : List Int) (n : Nat) (h : RdrV w g A cap l 0) (hn : l.length < n) (hn2 : n ≤ 4294967296) :
    Calls Tryd.prog 73 #[.pointer (some ⟨g, 0, none⟩), .int .i64 n] w fun e w' => e = .returned (.slice none 0 0) ∧ RdrV w' g A cap l 3 ∧ Only [g] w w' := by
  have c0 := h.blk.cell 0
  have c1 := h.blk.cell 1
  have f1 := h.blk.frozen 1
  have hl := h.le
  have hm := h.max
  have fin : ∀ w', w' = w.setCell ⟨g, 1, none⟩ (.int .i64 3) → RdrV w' g A cap l 3 ∧ Only [g] w w' := by
    rintro w' rfl
    have P : Only [g] w (w.setCell ⟨g, 1, none⟩ (.int .i64 3)) := (Only.refl [g] w).setCell (p := ⟨g, 1, none⟩) (.inl (by simp)) _
    exact ⟨⟨h.blk.set_ 1 _, h.rd.onlyG P (fun a ha => Nat.ne_of_lt (h.far a ha)), h.le, h.max, h.far⟩, P⟩
  replace fin := hide fin
  obtain ⟨k, hk⟩ : ∃ k, l.length = k := ⟨_, rfl⟩
  rw [hk] at c0 hn hl
  clear h hk
  go_enter Tryd.func73, Tryd.ntmps73
  go_wp2
  go_ret
  obtain ⟨r1, r2⟩ := fin.out _ rfl
  exact ⟨rfl, r1, r2⟩

set_option maxRecDepth 100000 in
set_option maxHeartbeats 3200000 in
theorem take_ok (w : World) (g : Nat) (A : Option Addr) (cap : Nat) (l : List Int) (n : Nat) (h : RdrV w g A cap l 0) (hn : n ≤ l.length) :
    Calls Tryd.prog 73 #[.pointer (some ⟨g, 0, none⟩), .int .i64 n] w fun e w' => e = .returned (.slice A n cap) ∧ Only [g] w w' ∧ Rd w' A (l.take n) ∧ ∃ A' cap', RdrV w' g A' cap' (l.drop n) 0 := by
  have c0 := h.blk.cell 0
  have c1 := h.blk.cell 1
  have f0 := h.blk.frozen 0
  have hl := h.le
  have hm := h.max
  have fin : ∀ w' A', (A' = A ∧ cap = n ∨ A' = Option.map (fun x => x.add n) A) → w' = w.setCell ⟨g, 0, none⟩ (.slice A' (l.length - n) (cap - n)) → Only [g] w w' ∧ Rd w' A (l.take n) ∧ ∃ A' cap', RdrV w' g A' cap' (l.drop n) 0 := by
    rintro w' A' hA' rfl
    have P : Only [g] w (w.setCell ⟨g, 0, none⟩ (.slice A' (l.length - n) (cap - n))) := (Only.refl [g] w).setCell (p := ⟨g, 0, none⟩) (.inl (by simp)) _
    have hfar : ∀ a, A' = some a → a.block < g := by
      intro a ha
      rcases hA' with ⟨rfl, _⟩ | rfl
      · exact h.far a ha
      · cases A with
        | none => cases ha
        | some b => simp at ha; subst ha; rw [show (b.add n).block = b.block by unfold Addr.add; split <;> rfl]; exact h.far b rfl
    refine ⟨P, (h.rd.onlyG P (fun a ha => Nat.ne_of_lt (h.far a ha))).take n, A', cap - n, ⟨?_, ?_, by simp; omega, by omega, hfar⟩⟩
    · have := h.blk.set_ 0 (.slice A' (l.length - n) (cap - n))
      simpa using this
    · rcases hA' with ⟨rfl, hq⟩ | rfl
      · have : l.drop n = [] := List.eq_nil_of_length_eq_zero (by simp; omega)
        rw [this]; exact fun h0 => absurd h0 (by simp)
      · exact (rd_drop h.rd n).onlyG P (fun a ha => Nat.ne_of_lt (hfar a ha))
  replace fin := hide fin
  obtain ⟨k, hk⟩ : ∃ k, l.length = k := ⟨_, rfl⟩
  rw [hk] at c0 hl fin hn
  have hn' : ¬ k < n := by omega
  clear h hk
  by_cases hq : cap = n
  · go_enter Tryd.func73, Tryd.ntmps73
    go_wp2
    go_ret
    exact ⟨by rw [hq]; rfl, fin.out _ A (.inl ⟨rfl, hq⟩) (by rw [hq, Nat.sub_self])⟩
  · go_enter Tryd.func73, Tryd.ntmps73
    go_wp2
    go_ret
    exact ⟨rfl, fin.out _ _ (.inr rfl) rfl⟩
end Go.Proofs.YtdmjabfjkkjhbaaDoor
