/- Layer 1: the reader: what is left; for all bytes, no condition. -/
import Derived.Test.YtdmjabfjkkjhbaaDoorOctK
namespace Go.Proofs.YtdmjabfjkkjhbaaDoor
set_option linter.all false
open Go.RowKit

def rRest (l : List Int) : R := ⟨over l.length 33792 6, 0, l, [], []⟩

set_option maxRecDepth 100000 in
set_option maxHeartbeats 3200000 in
theorem rest_any (w : World) (g : Nat) (A : Option Addr) (cap : Nat) (l : List Int) (h : RdrV w g A cap l 0) (hlen : l.length ≤ 140737488355000) :
    Calls Tryd.prog 55 #[.pointer (some ⟨g, 0, none⟩)] w (RPost w g (rRest l)) := by
  obtain ⟨w1, hw1⟩ : ∃ w1, w1 = w.alloc (.cells #[.int .i64 0, .int .u32 0, .slice none 0 0, .slice none 0 0] 35) := ⟨_, rfl⟩
  have P1 : Only [] w w1 := by rw [hw1]; exact (Only.refl _ _).alloc _
  have K : Blk w1 w.heap.size 35 [.int .i64 0, .int .u32 0, .slice none 0 0, .slice none 0 0] := by rw [hw1]; exact Blk.new w _ _
  have h1 := h.only P1
  have hgl := h.blk.lt
  have hq1 := K.lt
  have C := clone_any w1 A l cap h1.rd hlen
  have z1 := P1.size
  obtain ⟨E, hE⟩ : ∃ E, over l.length 33792 6 = E := ⟨_, rfl⟩
  unfold rRest
  rw [hE]
  replace hE := hide hE
  have g0 : w.cell? ⟨g, 0, none⟩ = some (.slice A l.length cap) := h.blk.cell 0
  go_enter Tryd.func55, Tryd.ntmps55
  go_wp2_with fail
  rw [← hw1]
  replace hw1 := hide hw1
  go_call C as e w2 ⟨P2, A2, cc, rfl, B2⟩
  have K2 := K.only P2 (by simp)
  have R2 := h1.only P2
  have O2 : Only [] w w2 := P1.trans P2 (by simp)
  obtain ⟨w3, hw3⟩ : ∃ w3, w3 = w2.alloc (.cells #[.int .i64 0, .int .u32 0, .slice A2 l.length cc, .slice none 0 0] 35) := ⟨_, rfl⟩
  have P3 : Only [] w2 w3 := by rw [hw3]; exact (Only.refl _ _).alloc _
  have K3 := K2.only P3 (by simp)
  have F3 : Blk w3 w2.heap.size 35 [.int .i64 0, .int .u32 0, .slice A2 l.length cc, .slice none 0 0] := by rw [hw3]; exact Blk.new w2 _ _
  have R3 := R2.only P3
  have B3 : Bs w3 w1.heap.size A2 l cc := B2.only P3
  have z2 := P2.size
  have z3 := F3.lt
  have Y := restFault_any (f := ⟨0, 0, A2, cc, l, none, 0, []⟩) (w := w3) ⟨B3.rd, RdG.nil, B3.le, B3.max, by simp, by simp, by simp⟩
  unfold FD.val at Y
  dsimp only [List.length_nil] at Y
  rw [hE.out] at Y
  clear hE C g0
  go_wp2_with fail
  try rw [← hw3]
  replace hw3 := hide hw3
  have d0 : w3.cell? ⟨w2.heap.size, 0, none⟩ = some (.int .i64 0) := F3.cell 0
  have d1 : w3.cell? ⟨w2.heap.size, 1, none⟩ = some (.int .u32 0) := F3.cell 1
  have d2 : w3.cell? ⟨w2.heap.size, 2, none⟩ = some (.slice A2 l.length cc) := F3.cell 2
  have d3 : w3.cell? ⟨w2.heap.size, 3, none⟩ = some (.slice none 0 0) := F3.cell 3
  go_wp2_with fail
  go_call Y as e w4 ⟨rfl, P4⟩
  have R4 := R3.only P4
  have K4 := K3.only P4 (by simp)
  have F4 := F3.only P4 (by simp)
  have B4 : Bs w4 w1.heap.size A2 l cc := B3.only P4
  clear d0 d1 d2 d3
  have d0 : w4.cell? ⟨w2.heap.size, 0, none⟩ = some (.int .i64 0) := F4.cell 0
  have d1 : w4.cell? ⟨w2.heap.size, 1, none⟩ = some (.int .u32 0) := F4.cell 1
  have d2 : w4.cell? ⟨w2.heap.size, 2, none⟩ = some (.slice A2 l.length cc) := F4.cell 2
  have d3 : w4.cell? ⟨w2.heap.size, 3, none⟩ = some (.slice none 0 0) := F4.cell 3
  have g0 : w4.cell? ⟨g, 0, none⟩ = some (.slice A l.length cap) := R4.blk.cell 0
  have g1 : w4.cell? ⟨g, 1, none⟩ = some (.int .i64 0) := R4.blk.cell 1
  have h0 := R4.blk.frozen 0
  have h2 := R4.blk.frozen 1
  have hn1 : ¬ g = w2.heap.size := by omega
  have hn2 : ¬ w2.heap.size = g := by omega
  have hn3 : ¬ g = w.heap.size := by omega
  have hn4 : ¬ w.heap.size = g := by omega
  have f0 := K4.frozen 0
  have f1 := K4.frozen 1
  have f2 := K4.frozen 2
  have f3 := K4.frozen 3
  have c0 : w4.cell? ⟨w.heap.size, 0, none⟩ = some (.int .i64 0) := K4.cell 0
  have c1 : w4.cell? ⟨w.heap.size, 1, none⟩ = some (.int .u32 0) := K4.cell 1
  have c2 : w4.cell? ⟨w.heap.size, 2, none⟩ = some (.slice none 0 0) := K4.cell 2
  have c3 : w4.cell? ⟨w.heap.size, 3, none⟩ = some (.slice none 0 0) := K4.cell 3
  go_wp2_with fail
  (try simp only [Exit.inBlock, Exit.then])
  obtain ⟨w5, hw5⟩ : ∃ w5, w5 = (w4.setCell ⟨g, 1, none⟩ (.int .i64 E)).setCell ⟨g, 0, none⟩ (.slice none 0 0) := ⟨_, rfl⟩
  have P5 : Only [g] w4 w5 := by rw [hw5]; exact ((Only.refl [g] w4).setCell (p := ⟨g, 1, none⟩) (.inl (by simp)) _).setCell (p := ⟨g, 0, none⟩) (.inl (by simp)) _
  have R5 : RdrV w5 g none 0 [] E := ⟨by rw [hw5]; exact (R4.blk.set_ 1 _).set_ 0 _, fun h => absurd h (by simp), by simp, by simp, fun a ha => by cases ha⟩
  have K5 := K4.only P5 (by simp; omega)
  have Q5 := W4.only w5 w.heap.size (.int .i64 0) (.int .u32 0) (.slice A2 l.length cc) (.slice none 0 0)
  have O5 : Only [g] w w5 := (((O2.trans P3 (by simp)).trans P4 (by simp)).mono (by simp)).trans P5 (by simp)
  rw [← hw5]
  exact ret_field (v0 := .int .i64 0) (v1 := .int .u32 0) (v2 := .slice A2 l.length cc) (v3 := .slice none 0 0) rfl (by rfl) (by rfl) (W4.blk K5 _ _ _ _) (rpost_text (text := l) (O5.trans Q5 (by simp)) (R5.far4 Q5 hgl) ((B4.onlyG P5 (by omega)).onlyG Q5 (by omega)) (by omega))
end Go.Proofs.YtdmjabfjkkjhbaaDoor
