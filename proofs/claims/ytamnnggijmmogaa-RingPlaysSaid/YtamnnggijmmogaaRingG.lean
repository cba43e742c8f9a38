/- The walk of layer 5's own examples: they hold; no condition. -/
import Derived.Test.YtamnnggijmmogaaRingF
import Derived.Lib.SmallJoins
import Derived.Laws.IdiomStrings
namespace Go.Proofs.Ytamnnggijmmogaa
set_option linter.all false
open Go.RowKit

theorem conv_back (w : World) (b n : Nat) (l : List Int) (t : List UInt8) (hb : Blk w b 5 (u8s l)) (ht : l = t.map (fun x => (x.toNat : Int))) (hn : n = t.length) :
    (convert 65 9 (.slice (some ⟨b, 0, none⟩) n n)).run Try.prog w = .ok (.string ⟨t.toArray⟩) w := by
  subst hn
  refine run_convert_bytes_back w 65 9 5 ⟨b, 0, none⟩ t.length t Try.underlying65 Try.underlying5 Try.underlying9 (fun j hj => ?_)
  have : (Addr.add ⟨b, 0, none⟩ j : Addr) = ⟨b, j, none⟩ := by simp [Addr.add]; intro h; exact h.symm
  rw [this, hb.cell, getElem?_u8s, ht]
  rw [List.getElem?_map, List.getElem?_eq_getElem hj]
  rfl

theorem src_lit (w : World) (no : List Nat) (l : List Int) (fr : Nat × Nat) (h : w.heap.size ∉ no) : Src (w.alloc (.cells (u8s l).toArray 5 fr)) no (some ⟨w.heap.size, 0, none⟩) l := by
  intro h0
  refine ⟨w.heap.size, 0, rfl, by simp, h, fun i v hi => ?_⟩
  rw [World.cell?_alloc_mark]
  simp [u8s, hi]

set_option maxRecDepth 100000 in
set_option maxHeartbeats 3200000 in
theorem alive05 (w : World) : Calls Try.prog 32 #[] w fun e w' => e = .returned (.bool true) ∧ Below w.heap.size w w' := by
  have kc := fun (w : World) (C : Array Value) (n c : Nat) => Lib.run_convert_bytes_const (P := Try.prog) w 65 5 C n c Try.underlying65 Try.underlying5
  go_enter Try.func32, Try.ntmps32
  go_wp2_with fail
  go_call (new_ok 3 _ (by omega) (by omega)) as e w1 ⟨rfl, R1, O1⟩
  have z1 := O1.size
  have g1 := R1.ltg
  go_wp2_with fail
  have W2 : Calls Try.prog 34 #[.pointer (some ⟨w.heap.size + 1, 0, none⟩), .slice (some ⟨w1.heap.size, 0, none⟩) 4 4] (w1.alloc (.cells (u8s [97, 98, 99, 100]).toArray 5 (4, 5))) fun e w' =>
      e = .returned (.int .i64 3) ∧ RingC w' (w.heap.size + 1) w.heap.size 3 [97, 98, 99] ∧ Only [w.heap.size + 1, w.heap.size] (w1.alloc (.cells (u8s [97, 98, 99, 100]).toArray 5 (4, 5))) w' :=
    (write_c (some ⟨w1.heap.size, 0, none⟩) [97, 98, 99, 100] 4 (R1.only ((Only.refl [] _).alloc _) (by simp) (by simp)) (src_lit w1 [w.heap.size + 1, w.heap.size] [97, 98, 99, 100] (4, 5) (by simp; omega)) (by simp) (by simp [maxLen])).mono fun e w' ⟨h1, h2, h3⟩ => ⟨h1, h2, h3⟩
  go_call W2 as e w2 ⟨rfl, R2, P2⟩
  have O2 : Only [] w w2 := (O1.alloc _).trans P2 (by simp)
  have z2 := O2.size
  have g2 := R2.ltg
  clear W2 P2
  go_wp2_with fail
  have W3 : Calls Try.prog 35 #[.pointer (some ⟨w.heap.size + 1, 0, none⟩), .int .i64 2] w2 (ReadPost w2 (w.heap.size + 1) w.heap.size 3 [97, 98, 99] 2) := read_c 2 R2
  go_call W3 as e w3 ⟨v, rfl, V3, R3, P3⟩
  have O3 : Only [] w w3 := O2.trans P3 (by simp)
  have z3 := O3.size
  have g3 := R3.ltg
  have R3 : RingC w3 (w.heap.size + 1) w.heap.size 3 [99] := R3
  obtain ⟨b3, rfl, _, K3⟩ : ∃ b, v = .slice (some ⟨b, 0, none⟩) 2 2 ∧ w2.heap.size ≤ b ∧ Blk w3 b 5 (u8s [97, 98]) := by
    rcases V3 with ⟨h, _⟩ | h
    · simp at h
    · exact h
  have C3 := conv_back w3 b3 2 [97, 98] [97, 98] K3 rfl rfl
  clear W3 P3 V3
  go_wp2_with fail
  have W4 : Calls Try.prog 34 #[.pointer (some ⟨w.heap.size + 1, 0, none⟩), .slice (some ⟨w3.heap.size, 0, none⟩) 2 2] (w3.alloc (.cells (u8s [101, 102]).toArray 5 (2, 3))) fun e w' =>
      e = .returned (.int .i64 2) ∧ RingC w' (w.heap.size + 1) w.heap.size 3 [99, 101, 102] ∧ Only [w.heap.size + 1, w.heap.size] (w3.alloc (.cells (u8s [101, 102]).toArray 5 (2, 3))) w' :=
    (write_c (some ⟨w3.heap.size, 0, none⟩) [101, 102] 2 (R3.only ((Only.refl [] _).alloc _) (by simp) (by simp)) (src_lit w3 [w.heap.size + 1, w.heap.size] [101, 102] (2, 3) (by simp; omega)) (by simp) (by simp [maxLen])).mono fun e w' ⟨h1, h2, h3⟩ => ⟨h1, h2, h3⟩
  go_call W4 as e w4 ⟨rfl, R4, P4⟩
  have O4 : Only [] w w4 := (O3.alloc _).trans P4 (by simp)
  have z4 := O4.size
  have g4 := R4.ltg
  clear W4 P4
  go_wp2_with fail
  have W5 : Calls Try.prog 44 #[.pointer (some ⟨w.heap.size + 1, 0, none⟩), .int .i64 9] w4 (PeekPost w4 [99, 101, 102]) := peek_c 9 R4
  go_call W5 as e w5 ⟨v, rfl, V5, P5⟩
  have O5 : Only [] w w5 := O4.trans P5 (by simp)
  have z5 := O5.size
  have R5 := R4.only P5 (by simp) (by simp)
  obtain ⟨b5, rfl, _, K5⟩ : ∃ b, v = .slice (some ⟨b, 0, none⟩) 3 3 ∧ w4.heap.size ≤ b ∧ Blk w5 b 5 (u8s [99, 101, 102]) := by
    rcases V5 with ⟨h, _⟩ | h
    · simp at h
    · exact h
  have C5 := conv_back w5 b5 3 [99, 101, 102] [99, 101, 102] K5 rfl rfl
  clear W5 P5 V5
  go_wp2_with fail
  have W6 : Calls Try.prog 43 #[.pointer (some ⟨w.heap.size + 1, 0, none⟩)] w5 fun e w' => e = .returned (.int .i64 0) ∧ w5 = w' := room_c R5
  go_call W6 as e w' ⟨rfl, rfl⟩
  clear W6
  go_wp2_with fail
  have W7 : Calls Try.prog 37 #[.pointer (some ⟨w.heap.size + 1, 0, none⟩)] w5 fun e w' => e = .returned (.int .i64 3) ∧ w5 = w' := len_c R5
  go_call W7 as e w' ⟨rfl, rfl⟩
  clear W7
  go_wp2_with fail
  go_call (write_nil _ _ 1 1 (by simp [maxLen])) as e w' ⟨rfl, rfl⟩
  go_wp2_with fail
  go_call (len_nil _) as e w' ⟨rfl, rfl⟩
  go_wp2_with fail
  go_ret
  exact ⟨rfl, (O5.alloc _).below (Nat.le_refl _) (by simp)⟩
end Go.Proofs.Ytamnnggijmmogaa
