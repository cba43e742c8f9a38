/- Layer 1: the writer, continued: a text behind its length; for every field, no condition. -/
import Derived.Test.YtdmjabfjkkjhbaaDoorOctD
namespace Go.Proofs.YtdmjabfjkkjhbaaDoor
set_option linter.all false
open Go.RowKit

def numF (n : Int) : FD := ⟨0, n, none, 0, [], none, 0, []⟩
theorem Blk.moved {w w' : World} {g q : Nat} {v v' : Value} {t : TypeId} {cs : List Value} (h : Blk w q t cs) (m : Moved w w' g v v') (h1 : q ≠ g) (h2 : v.ownBlock ≠ some q) : Blk w' q t cs :=
  h.only m.1 (by simp [h1]; exact h2)
theorem RdG.moved {α : Type} {mk : α → Value} {w w' : World} {g base : Nat} {v v' : Value} {A : Option Addr} {l : List α} (h : RdG mk w A l) (m : Moved w w' g v v') (h1 : ∀ a, A = some a → 0 < l.length → a.block ≠ g ∧ v.ownBlock ≠ some a.block) : RdG mk w' A l :=
  h.onlyL m.1 (fun a ha h0 hm => by
    have := h1 a ha h0
    simp at hm
    rcases hm with hm | hm
    · exact this.1 hm
    · exact this.2 hm)
/-- The field lies apart from what a writer writes. -/
def FD.far (f : FD) (g : Nat) (v : Value) : Prop := (∀ a, f.tA = some a → 0 < f.text.length → a.block ≠ g ∧ v.ownBlock ≠ some a.block) ∧ (∀ a, f.lA = some a → 0 < f.list.length → a.block ≠ g ∧ v.ownBlock ≠ some a.block)
theorem FD.ok.moved {w w' : World} {g : Nat} {v v' : Value} {f : FD} (h : f.ok w) (m : Moved w w' g v v') (hf : f.far g v) : f.ok w' :=
  { h with text := h.text.moved (base := 0) m hf.1, list := h.list.moved (base := 0) m hf.2 }

set_option maxRecDepth 100000 in
set_option maxHeartbeats 3200000 in
theorem wText_any (f : FD) (g base : Nat) (v : Value) (l : List Int) (w : World) (h : WrV w g base v l) (hf : f.ok w) (hfar : f.far g v) (hl : l.length + f.text.length ≤ 140737488354000) (h32 : f.text.length ≤ 4294967295) :
    Calls Tryd.prog 48 #[.pointer (some ⟨g, 0, none⟩), f.val] w (WPost w g base v (l ++ (four f.text.length ++ f.text))) := by
  obtain ⟨w1, hw1⟩ : ∃ w1, w1 = w.alloc (.cells #[.int .i64 f.kind, .int .u32 f.n, .slice f.tA f.text.length f.tc, .slice f.lA f.list.length f.lc] 35) := ⟨_, rfl⟩
  have P1 : Only [] w w1 := by rw [hw1]; exact (Only.refl _ _).alloc _
  have R := h.only P1 (by simp) (by simp)
  have K : Blk w1 w.heap.size 35 [.int .i64 f.kind, .int .u32 f.n, .slice f.tA f.text.length f.tc, .slice f.lA f.list.length f.lc] := by rw [hw1]; exact Blk.new w _ _
  have hf1 := hf.only P1
  have hgl := h.blk.lt
  have hN := wNumber_any (numF f.text.length) g base v l w1 R ⟨by simp [numF], by simp only [numF]; omega⟩ (by omega)
  have hR : ∀ v2 w2, WrV w2 g base v2 (l ++ four f.text.length) → Moved w1 w2 g v v2 → Blk w2 w.heap.size 35 [.int .i64 f.kind, .int .u32 f.n, .slice f.tA f.text.length f.tc, .slice f.lA f.list.length f.lc] ∧
      Calls Tryd.prog 54 #[.pointer (some ⟨g, 0, none⟩), f.val] w2 (fun e w' => e = .returned (.tuple #[]) ∧ ∃ v', WrV w' g base v' (l ++ (four f.text.length ++ f.text)) ∧ Moved w w' g v v') := by
    intro v2 w2 R2 M2
    refine ⟨K.moved M2 (by omega) (fun hv => by have := h.own.block _ hv; omega), ?_⟩
    have := wRest_any f g base v2 (l ++ four f.text.length) w2 R2 (hf1.moved M2 hfar) (by simp [four]; omega)
    refine this.mono fun e w' ⟨he, v', R3, M3⟩ => ⟨he, v', by rw [← List.append_assoc]; exact R3, (M2.trans M3).from P1⟩
  replace hR := hide hR
  unfold FD.val numF at hN
  dsimp only at hN
  unfold FD.val
  simp only [List.length_nil] at hN
  have c2 : w1.cell? ⟨w.heap.size, 2, none⟩ = some (.slice f.tA f.text.length f.tc) := K.cell 2
  have hlen : (f.text.length : Int) ≤ 4294967295 := by omega
  have hp : w.heap.size < w1.heap.size := K.lt
  clear hf hf1 hfar K
  go_enter Tryd.func48, Tryd.ntmps48
  go_wp2_with fail
  rw [← hw1]
  replace hw1 := hide hw1
  go_wp2_with fail
  go_call hN as e w2 ⟨rfl, v2, R2, M2⟩
  clear hN c2
  obtain ⟨K2, hR2⟩ := hR.out v2 w2 R2 M2
  have c0 := K2.cell 0
  have c1 := K2.cell 1
  have c2 := K2.cell 2
  have c3 := K2.cell 3
  unfold FD.val at hR2
  replace hR2 := hide hR2
  go_wp2_with fail
  go_call hR2.out as e w3 ⟨rfl, v3, R3, M3⟩
  go_wp2_with fail
  go_end0
  exact ⟨rfl, v3, R3, M3⟩
end Go.Proofs.YtdmjabfjkkjhbaaDoor
