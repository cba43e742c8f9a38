/- The document's answer for layer 1: take of a number, a text, names; no condition but the bytes' number. -/
import Derived.Test.YtdmjabfjkkjhbaaDoorRefO
namespace Go.Proofs.YtdmjabfjkkjhbaaDoor
set_option linter.all false
open Go.RowKit

/-- A slice's part from the fourth byte on. -/
theorem part_four {w : World} {A : Option Addr} {l : List Int} (c L : Nat) (h : Rd w A l) (hT : 4 + L ≤ l.length) (hc : l.length ≤ c) :
    ∃ A9 c9, ((c = 4 ∧ A9 = A ∧ c9 = 0) ∨ (¬ c = 4 ∧ A9 = (A.map fun x => x.add 4) ∧ c9 = c - 4)) ∧ Rd w A9 ((l.drop 4).take L) := by
  by_cases hck : c = 4
  · refine ⟨A, 0, .inl ⟨hck, rfl, rfl⟩, ?_⟩
    obtain rfl : L = 0 := by omega
    rw [List.take_zero]
    exact RdG.nil (mk := .int .u8)
  · exact ⟨_, _, .inr ⟨hck, rfl, rfl⟩, RdG.take (mk := .int .u8) (RdG.drop (mk := .int .u8) h 4) L⟩
theorem map_four (A : Option Addr) : (A.map fun x => x.add 4) = A.map fun x => { block := x.block, off := x.off + 4 } := by
  congr 1
theorem rText_is (l : List Int) (h4 : 4 ≤ l.length) (h1 : be4 l ≤ 32768) (h2 : 4 + (be4 l).toNat ≤ l.length) : rText l = ⟨0, 0, (l.drop 4).take (be4 l).toNat, [], l.drop (4 + (be4 l).toNat)⟩ := by
  unfold rText
  rw [if_neg (by omega)]
  unfold rTextN
  rw [if_neg (by omega), if_neg (by rw [List.length_drop]; omega), List.drop_drop]
theorem rText_six (l : List Int) (h4 : 4 ≤ l.length) (h1 : 32768 < be4 l) : (rText l).e = 6 := by
  unfold rText
  rw [if_neg (by omega)]
  unfold rTextN
  rw [if_pos (by omega)]
theorem rText_three (l : List Int) (h4 : 4 ≤ l.length) (h1 : be4 l ≤ 32768) (h2 : l.length < 4 + (be4 l).toNat) : (rText l).e = 3 := by
  unfold rText
  rw [if_neg (by omega)]
  unfold rTextN
  rw [if_neg (by omega), if_pos (by rw [List.length_drop]; omega)]
theorem rNames_bad (l : List Int) (E : Int) (h : (rText l).e = E) (hE : E ≠ 0) : (rNames l).e = E := by
  unfold rNames rNamesT
  rw [if_pos (by rw [h]; exact hE), h]

set_option maxRecDepth 100000 in
set_option maxHeartbeats 3200000 in
theorem take_number (A : Option Addr) (l : List Int) (c : Nat) (w : World) (h : Rd w A l) (hl : ∀ x ∈ l, 0 ≤ x ∧ x < 256) (h4 : 4 ≤ l.length) :
    Calls Tryd.prog 32 #[.int .i64 3, .slice A l.length c] w (TakePost w 3 l (rKind 3 l)) := by
  obtain ⟨w1, hw1⟩ : ∃ w1, w1 = (w.alloc (.cells #[.int .i64 0, .int .u32 0, .slice none 0 0, .slice none 0 0] 35)).alloc (.cells #[.int .i64 3, .int .u32 0, .slice none 0 0, .slice none 0 0] 35) := ⟨_, rfl⟩
  have X1 : Only [] w w1 := by rw [hw1]; exact ((Only.refl _ _).alloc _).alloc _
  have hs1 : w1.heap.size = w.heap.size + 2 := by rw [hw1]; simp
  have KA : Blk w1 w.heap.size 35 [.int .i64 0, .int .u32 0, .slice none 0 0, .slice none 0 0] := by
    rw [hw1]
    exact (Blk.new w 35 [.int .i64 0, .int .u32 0, .slice none 0 0, .slice none 0 0]).alloc _
  have KB : Blk w1 (w.heap.size + 1) 35 [.int .i64 3, .int .u32 0, .slice none 0 0, .slice none 0 0] := by
    have := Blk.new (w.alloc (.cells #[.int .i64 0, .int .u32 0, .slice none 0 0, .slice none 0 0] 35)) 35 [.int .i64 3, .int .u32 0, .slice none 0 0, .slice none 0 0]
    rw [show (w.alloc (.cells #[.int .i64 0, .int .u32 0, .slice none 0 0, .slice none 0 0] 35)).heap.size = w.heap.size + 1 by simp] at this
    rw [hw1]
    exact this
  have NB := refNumber_any A l c w1 (h.only X1) h4 hl
  have hbe := be4_ok l hl
  obtain ⟨ln, hln⟩ : ∃ ln, l.length = ln := ⟨_, rfl⟩
  have i1 : ¬ (ln : Int) < 4 := by omega
  rw [show rKind 3 l = ⟨0, be4 l, [], [], l.drop 4⟩ by show rNumber l = _; unfold rNumber; rw [if_neg (by omega)]]
  obtain ⟨N, hN⟩ : ∃ N, be4 l = N := ⟨_, rfl⟩
  rw [hN] at NB hbe ⊢
  rw [hln] at NB ⊢
  go_enter Tryd.func32, Tryd.ntmps32
  go_wp2_with fail
  rw [← hw1]
  replace hw1 := hide hw1
  go_call NB as e w2 ⟨rfl, P2⟩
  have K0 := KA.only P2 (by simp)
  have K1 := KB.only P2 (by simp)
  have z2 := P2.size
  have g0 : w2.cell? ⟨w.heap.size, 0, none⟩ = some (.int .i64 0) := K0.cell 0
  have f0 := K0.frozen 0
  have g1 : w2.cell? ⟨w.heap.size, 1, none⟩ = some (.int .u32 0) := K0.cell 1
  have f1 := K0.frozen 1
  have g2 : w2.cell? ⟨w.heap.size, 2, none⟩ = some (.slice none 0 0) := K0.cell 2
  have f2 := K0.frozen 2
  have g3 : w2.cell? ⟨w.heap.size, 3, none⟩ = some (.slice none 0 0) := K0.cell 3
  have f3 := K0.frozen 3
  have d0 : w2.cell? ⟨w.heap.size + 1, 0, none⟩ = some (.int .i64 3) := K1.cell 0
  have e0 := K1.frozen 0
  have d1 : w2.cell? ⟨w.heap.size + 1, 1, none⟩ = some (.int .u32 0) := K1.cell 1
  have e1 := K1.frozen 1
  have d2 : w2.cell? ⟨w.heap.size + 1, 2, none⟩ = some (.slice none 0 0) := K1.cell 2
  have e2 := K1.frozen 2
  have d3 : w2.cell? ⟨w.heap.size + 1, 3, none⟩ = some (.slice none 0 0) := K1.cell 3
  have e3 := K1.frozen 3
  go_wp2_with fail
  (try simp only [Exit.inBlock, Exit.then])
  have Y1 : Only [w.heap.size + 1] w2 (w2.setCell ⟨w.heap.size + 1, 1, none⟩ (.int .u32 N)) := (Only.refl _ _).setCell (p := ⟨w.heap.size + 1, 1, none⟩) (.inl (by simp)) _
  have B4 := W4.blk (K0.only Y1 (by simp)) (.int .i64 3) (.int .u32 N) (.slice none 0 0) (.slice none 0 0)
  have Y4 := W4.only (w2.setCell ⟨w.heap.size + 1, 1, none⟩ (.int .u32 N)) w.heap.size (.int .i64 3) (.int .u32 N) (.slice none 0 0) (.slice none 0 0)
  refine ret_take (g := w.heap.size) (v0 := .int .i64 3) (v1 := .int .u32 N) (v2 := .slice none 0 0) (v3 := .slice none 0 0) rfl (by rfl) (by rfl) B4 ?_
  exact ⟨((X1.trans P2 (by simp)).trans Y1 (fun x hx => .inr (by simp at hx; omega))).trans Y4 (fun x hx => .inr (by simp at hx; omega)), ⟨3, N, none, 0, [], none, 0, []⟩, 4, rfl, fun _ => ⟨rfl, by omega, rfl, FD.mine.plain _ _ _ _⟩⟩
end Go.Proofs.YtdmjabfjkkjhbaaDoor
