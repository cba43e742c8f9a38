/- Layer 1: the reader: a text; for all bytes, no condition · Layer 1: the reader: what is left; for all bytes, no condition · Layer 1: the reader: names; for all bytes, no condition. -/
import Derived.Test.YtkgikodiecmakaaGreatDoorOctJ
import Derived.Laws.BytesArg
import Derived.Lib.SplitLaws
import Derived.Lib.ReplaceLaws
namespace Go.Proofs.YtkgikodiecmakaaGreatDoor
set_option linter.all false
open Go.RowKit

def rTextN (l : List Int) (n : Nat) : R := if 32768 < n then ⟨6, 0, [], [], l⟩ else if l.length < n then ⟨3, 0, [], [], l⟩ else ⟨0, 0, l.take n, [], l.drop n⟩
def rText (l : List Int) : R := if l.length < 4 then rShort l else rTextN (l.drop 4) (be4 l).toNat
theorem be4_ok (l : List Int) (hl : ∀ x ∈ l, 0 ≤ x ∧ x < 256) : 0 ≤ be4 l ∧ be4 l < 4294967296 := by
  have h : ∀ k, 0 ≤ l.getD k 0 ∧ l.getD k 0 < 256 := by
    intro k
    by_cases hk : k < l.length
    · have := hl _ (List.getElem_mem hk)
      simpa [List.getD, List.getElem?_eq_getElem hk] using this
    · simp [List.getD, List.getElem?_eq_none (Nat.le_of_not_lt hk)]
  have h0 := h 0; have h1 := h 1; have h2 := h 2; have h3 := h 3
  unfold be4
  omega

theorem RdrV.fault {w : World} {g : Nat} {A : Option Addr} {cap : Nat} {l : List Int} {e : Int} (h : RdrV w g A cap l e) (e' : Int) : RdrV (w.setCell ⟨g, 1, none⟩ (.int .i64 e')) g A cap l e' ∧ Only [g] w (w.setCell ⟨g, 1, none⟩ (.int .i64 e')) := by
  have P : Only [g] w (w.setCell ⟨g, 1, none⟩ (.int .i64 e')) := (Only.refl [g] w).setCell (p := ⟨g, 1, none⟩) (.inl (by simp)) _
  exact ⟨⟨h.blk.set_ 1 _, h.rd.onlyP P (fun a ha h0 => Nat.ne_of_lt (h.far a ha h0)), h.le, h.max, h.far⟩, P⟩
theorem rpost_text {w w' : World} {g B : Nat} {e : Int} {text rest : List Int} {A A' : Option Addr} {cap c : Nat} (h : Only [g] w w') (hr : RdrV w' g A cap rest e) (hb : Bs w' B A' text c) (hB : w.heap.size ≤ B) : RPost w g ⟨e, 0, text, [], rest⟩ (.returned (.agg #[.int .i64 0, .int .u32 0, .slice A' text.length c, .slice none 0 0])) w' :=
  ⟨h, A', c, none, 0, rfl, ⟨⟨hb.rd, RdG.nil, hb.le, hb.max, by simp, by simp, by simp⟩, ⟨fun a ha => Nat.le_trans hB (hb.new a ha), fun a ha => by simp at ha⟩, hb.soft⟩, A, cap, hr⟩
theorem Bs.onlyG {w w' : World} {B q : Nat} {A : Option Addr} {l : List Int} {c : Nat} (h : Bs w B A l c) (hb : Only [q] w w') (hq : q < B) : Bs w' B A l c :=
  { h with
    rd := h.rd.onlyG hb (fun a ha => by have := h.new a ha; omega)
    soft := fun a ha i hi => by
      obtain ⟨b, off, e, hlt, _⟩ := h.rd (by omega)
      have hn := h.new a ha
      rw [ha] at e
      injection e with e
      refine (World.frozen?_of_block (w := w) ?_).trans (h.soft a ha i hi)
      rw [block_add]
      exact hb.block _ (by rw [e]; exact hlt) (by simp; omega) }
theorem Bs.only {w w' : World} {B : Nat} {A : Option Addr} {l : List Int} {c : Nat} (h : Bs w B A l c) (hb : Only [] w w') : Bs w' B A l c :=
  { h with
    rd := h.rd.only hb
    soft := fun a ha i hi => by
      obtain ⟨b, off, e, hlt, _⟩ := h.rd (by omega)
      rw [ha] at e
      injection e with e
      refine (World.frozen?_of_block (w := w) ?_).trans (h.soft a ha i hi)
      rw [block_add]
      exact hb.block _ (by rw [e]; exact hlt) (by simp) }
theorem field_n (w : World) (k n : Int) (a b : Value) : (Instr.field 86 (.agg #[.int .i64 k, .int .u32 n, a, b]) 1).run Tryz.prog w = .ok (.int .u32 n) w := by kernel_rfl

set_option maxRecDepth 100000 in
set_option maxHeartbeats 3200000 in
theorem text_any (w : World) (g : Nat) (A : Option Addr) (cap : Nat) (l : List Int) (h : RdrV w g A cap l 0) (hl : ∀ x ∈ l, 0 ≤ x ∧ x < 256) :
    Calls Tryz.prog 118 #[.pointer (some ⟨g, 0, none⟩)] w (RPost w g (rText l)) := by
  obtain ⟨w1, hw1⟩ : ∃ w1, w1 = w.alloc (.cells #[.int .i64 0, .int .u32 0, .slice none 0 0, .slice none 0 0] 86) := ⟨_, rfl⟩
  have P1 : Only [] w w1 := by rw [hw1]; exact (Only.refl _ _).alloc _
  have K : Blk w1 w.heap.size 86 [.int .i64 0, .int .u32 0, .slice none 0 0, .slice none 0 0] := by rw [hw1]; exact Blk.new w _ _
  have h1 := h.only P1
  have hgl := h.blk.lt
  have hq1 := K.lt
  have T := number_any w1 g A cap l h1 hl
  by_cases hs : l.length < 4
  · rw [show rNumber l = rShort l from if_pos hs] at T
    rw [show rText l = rShort l from if_pos hs]
    clear hs h h1
    unfold rShort at T ⊢
    unfold RPost FD.val at T
    dsimp only [List.length_nil] at T
    go_enter Tryz.func118, Tryz.ntmps118
    go_wp2_with fail
    rw [← hw1]
    replace hw1 := hide hw1
    go_wp2_with fail
    go_call T as e w2 ⟨P2, tA, tc, lA, lc, rfl, my2, A2, cap2, R2⟩
    clear my2

    have K2 := K.only P2 (by simp; omega)
    have hfd := field_n
    have O2 : Only [g] w w2 := (P1.mono (by simp)).trans P2 (by simp)
    have g1 : w2.cell? ⟨g, 1, none⟩ = some (.int .i64 3) := R2.blk.cell 1
    have f0 := K2.frozen 0
    have f1 := K2.frozen 1
    have f2 := K2.frozen 2
    have f3 := K2.frozen 3
    have c0 : w2.cell? ⟨w.heap.size, 0, none⟩ = some (.int .i64 0) := K2.cell 0
    have c1 : w2.cell? ⟨w.heap.size, 1, none⟩ = some (.int .u32 0) := K2.cell 1
    have c2 : w2.cell? ⟨w.heap.size, 2, none⟩ = some (.slice none 0 0) := K2.cell 2
    have c3 : w2.cell? ⟨w.heap.size, 3, none⟩ = some (.slice none 0 0) := K2.cell 3
    go_wp2_with fail
    (try simp only [Exit.inBlock, Exit.then])
    refine ret_field (v0 := .int .i64 0) (v1 := .int .u32 0) (v2 := .slice none 0 0) (v3 := .slice none 0 0) rfl (by rfl) (by rfl) (W4.blk K2 _ _ _ _) (rpost_plain (O2.trans (W4.only w2 _ _ _ _ _) (by simp)) (R2.far4 (W4.only _ _ _ _ _ _) hgl))
  · obtain ⟨k, hk⟩ := Int.eq_ofNat_of_zero_le (be4_ok l hl).1
    have hk2 : k < 4294967296 := by have := (be4_ok l hl).2; omega
    rw [show rNumber l = ⟨0, be4 l, [], [], l.drop 4⟩ from if_neg hs] at T
    rw [show rText l = rTextN (l.drop 4) k from by unfold rText; rw [if_neg hs, hk]; rfl]
    rw [hk] at T
    clear hs h h1
    obtain ⟨m, hm⟩ : ∃ m, l.drop 4 = m := ⟨_, rfl⟩
    rw [hm] at T ⊢
    clear hm
    unfold RPost FD.val at T
    dsimp only [List.length_nil] at T
    by_cases hbig : 32768 < k
    · rw [show rTextN m k = ⟨6, 0, [], [], m⟩ from if_pos hbig]
      have hb2 : (32768 : Int) < (k : Int) := by omega
      go_enter Tryz.func118, Tryz.ntmps118
      go_wp2_with fail
      rw [← hw1]
      replace hw1 := hide hw1
      go_wp2_with fail
      go_call T as e w2 ⟨P2, tA, tc, lA, lc, rfl, my2, A2, cap2, R2⟩
      clear my2

      have K2 := K.only P2 (by simp; omega)
      have hfd := field_n
      have O2 : Only [g] w w2 := (P1.mono (by simp)).trans P2 (by simp)
      have g1 : w2.cell? ⟨g, 1, none⟩ = some (.int .i64 0) := R2.blk.cell 1
      have gf := R2.blk.frozen 1
      have f0 := K2.frozen 0
      have f1 := K2.frozen 1
      have f2 := K2.frozen 2
      have f3 := K2.frozen 3
      have c0 : w2.cell? ⟨w.heap.size, 0, none⟩ = some (.int .i64 0) := K2.cell 0
      have c1 : w2.cell? ⟨w.heap.size, 1, none⟩ = some (.int .u32 0) := K2.cell 1
      have c2 : w2.cell? ⟨w.heap.size, 2, none⟩ = some (.slice none 0 0) := K2.cell 2
      have c3 : w2.cell? ⟨w.heap.size, 3, none⟩ = some (.slice none 0 0) := K2.cell 3
      go_wp2_with fail
      (try simp only [Exit.inBlock, Exit.then])
      obtain ⟨R3, P3⟩ := R2.fault 6
      exact ret_field (v0 := .int .i64 0) (v1 := .int .u32 0) (v2 := .slice none 0 0) (v3 := .slice none 0 0) rfl (by rfl) (by rfl) (W4.blk (K2.far (p := ⟨g, 1, none⟩) (by simp only; omega) _) _ _ _ _) (rpost_plain ((O2.trans P3 (by simp)).trans (W4.only _ _ _ _ _ _) (by simp)) (R3.far4 (W4.only _ _ _ _ _ _) hgl))
    · have hcv : IntKind.i64.wrap (k : Int) = k := by apply IntWalk.i64_in <;> omega
      have hb2 : ¬ (32768 : Int) < (k : Int) := by omega
      by_cases hsh : m.length < k
      · rw [show rTextN m k = ⟨3, 0, [], [], m⟩ from by unfold rTextN; rw [if_neg hbig, if_pos hsh]]
        go_enter Tryz.func118, Tryz.ntmps118
        go_wp2_with fail
        rw [← hw1]
        replace hw1 := hide hw1
        go_wp2_with fail
        go_call T as e w2 ⟨P2, tA, tc, lA, lc, rfl, my2, A2, cap2, R2⟩
        clear my2

        have K2 := K.only P2 (by simp; omega)
        have hfd := field_n
        have O2 : Only [g] w w2 := (P1.mono (by simp)).trans P2 (by simp)
        have g1 : w2.cell? ⟨g, 1, none⟩ = some (.int .i64 0) := R2.blk.cell 1
        go_wp2_with fail
        go_call (take_short w2 g A2 cap2 m k R2 hsh (by omega)) as e w3 ⟨rfl, R3, P3⟩
        go_wp2_with fail
        go_call (clone_any w3 none [] 0 (fun h => absurd h (by simp)) (by simp)) as e w4 ⟨P4, A4, c4, rfl, B4⟩
        have K4 := (K2.only P3 (by simp; omega)).only P4 (by simp)
        have f0 := K4.frozen 0
        have f1 := K4.frozen 1
        have f2 := K4.frozen 2
        have f3 := K4.frozen 3
        have c0 : w4.cell? ⟨w.heap.size, 0, none⟩ = some (.int .i64 0) := K4.cell 0
        have c1 : w4.cell? ⟨w.heap.size, 1, none⟩ = some (.int .u32 0) := K4.cell 1
        have c2 : w4.cell? ⟨w.heap.size, 2, none⟩ = some (.slice none 0 0) := K4.cell 2
        have c3 : w4.cell? ⟨w.heap.size, 3, none⟩ = some (.slice none 0 0) := K4.cell 3
        go_wp2_with fail
        (try simp only [Exit.inBlock, Exit.then])
        have z3 := P2.size
        have z4 := P3.size
        have Q4 := W4.only w4 w.heap.size (.int .i64 0) (.int .u32 0) (.slice A4 0 c4) (.slice none 0 0)
        have O4 := ((O2.trans P3 (by simp)).trans P4 (by simp)).trans Q4 (by simp)
        exact ret_field (v0 := .int .i64 0) (v1 := .int .u32 0) (v2 := .slice A4 0 c4) (v3 := .slice none 0 0) rfl (by rfl) (by rfl) (W4.blk K4 _ _ _ _) (rpost_text (text := []) O4 ((R3.only P4).far4 Q4 hgl) (B4.onlyG Q4 (by omega)) (by omega))
      · rw [show rTextN m k = ⟨0, 0, m.take k, [], m.drop k⟩ from by unfold rTextN; rw [if_neg hbig, if_neg hsh]]
        have hkl : (m.take k).length = k := by simp; omega
        go_enter Tryz.func118, Tryz.ntmps118
        go_wp2_with fail
        rw [← hw1]
        replace hw1 := hide hw1
        go_wp2_with fail
        go_call T as e w2 ⟨P2, tA, tc, lA, lc, rfl, my2, A2, cap2, R2⟩
        clear my2

        have K2 := K.only P2 (by simp; omega)
        have hfd := field_n
        have O2 : Only [g] w w2 := (P1.mono (by simp)).trans P2 (by simp)
        have g1 : w2.cell? ⟨g, 1, none⟩ = some (.int .i64 0) := R2.blk.cell 1
        go_wp2_with fail
        go_call (take_ok w2 g A2 cap2 m k R2 (by omega)) as e w3 ⟨rfl, P3, D3, A3, cap3, R3⟩
        have C4 := clone_any w3 A2 (m.take k) cap2 D3 (by omega)
        rw [hkl] at C4
        go_wp2_with fail
        go_call C4 as e w4 ⟨P4, A4, c4, rfl, B4⟩
        have K4 := (K2.only P3 (by simp; omega)).only P4 (by simp)
        have f0 := K4.frozen 0
        have f1 := K4.frozen 1
        have f2 := K4.frozen 2
        have f3 := K4.frozen 3
        have c0 : w4.cell? ⟨w.heap.size, 0, none⟩ = some (.int .i64 0) := K4.cell 0
        have c1 : w4.cell? ⟨w.heap.size, 1, none⟩ = some (.int .u32 0) := K4.cell 1
        have c2 : w4.cell? ⟨w.heap.size, 2, none⟩ = some (.slice none 0 0) := K4.cell 2
        have c3 : w4.cell? ⟨w.heap.size, 3, none⟩ = some (.slice none 0 0) := K4.cell 3
        go_wp2_with fail
        (try simp only [Exit.inBlock, Exit.then])
        have z3 := P2.size
        have z4 := P3.size
        have Q4 := W4.only w4 w.heap.size (.int .i64 0) (.int .u32 0) (.slice A4 k c4) (.slice none 0 0)
        have O4 := ((O2.trans P3 (by simp)).trans P4 (by simp)).trans Q4 (by simp)
        have RR := rpost_text (text := m.take k) O4 ((R3.only P4).far4 Q4 hgl) (B4.onlyG Q4 (by omega)) (by omega)
        rw [hkl] at RR
        exact ret_field (v0 := .int .i64 0) (v1 := .int .u32 0) (v2 := .slice A4 k c4) (v3 := .slice none 0 0) rfl (by rfl) (by rfl) (W4.blk K4 _ _ _ _) RR
end Go.Proofs.YtkgikodiecmakaaGreatDoor

namespace Go.Proofs.YtkgikodiecmakaaGreatDoor
set_option linter.all false
open Go.RowKit

def rRest (l : List Int) : R := ⟨over l.length 33792 6, 0, l, [], []⟩

set_option maxRecDepth 100000 in
set_option maxHeartbeats 3200000 in
theorem rest_any (w : World) (g : Nat) (A : Option Addr) (cap : Nat) (l : List Int) (h : RdrV w g A cap l 0) (hlen : l.length ≤ 140737488355000) :
    Calls Tryz.prog 124 #[.pointer (some ⟨g, 0, none⟩)] w (RPost w g (rRest l)) := by
  obtain ⟨w1, hw1⟩ : ∃ w1, w1 = w.alloc (.cells #[.int .i64 0, .int .u32 0, .slice none 0 0, .slice none 0 0] 86) := ⟨_, rfl⟩
  have P1 : Only [] w w1 := by rw [hw1]; exact (Only.refl _ _).alloc _
  have K : Blk w1 w.heap.size 86 [.int .i64 0, .int .u32 0, .slice none 0 0, .slice none 0 0] := by rw [hw1]; exact Blk.new w _ _
  have h1 := h.only P1
  have hgl := h.blk.lt
  have hq1 := K.lt
  have C := clone_any w1 A l cap h1.rd hlen
  have z1 := P1.size
  obtain ⟨E, hE⟩ : ∃ E, over l.length 33792 6 = E := ⟨_, rfl⟩
  unfold rRest
  rw [hE]
  replace hE := hide hE
  have g0 : w.cell? ⟨g, 0, none⟩ = some (.slice A l.length cap) := h.blk.cell 0
  go_enter Tryz.func124, Tryz.ntmps124
  go_wp2_with fail
  rw [← hw1]
  replace hw1 := hide hw1
  go_call C as e w2 ⟨P2, A2, cc, rfl, B2⟩
  have K2 := K.only P2 (by simp)
  have R2 := h1.only P2
  have O2 : Only [] w w2 := P1.trans P2 (by simp)
  obtain ⟨w3, hw3⟩ : ∃ w3, w3 = w2.alloc (.cells #[.int .i64 0, .int .u32 0, .slice A2 l.length cc, .slice none 0 0] 86) := ⟨_, rfl⟩
  have P3 : Only [] w2 w3 := by rw [hw3]; exact (Only.refl _ _).alloc _
  have K3 := K2.only P3 (by simp)
  have F3 : Blk w3 w2.heap.size 86 [.int .i64 0, .int .u32 0, .slice A2 l.length cc, .slice none 0 0] := by rw [hw3]; exact Blk.new w2 _ _
  have R3 := R2.only P3
  have B3 : Bs w3 w1.heap.size A2 l cc := B2.only P3
  have z2 := P2.size
  have z3 := F3.lt
  have Y := restFault_any (f := ⟨0, 0, A2, cc, l, none, 0, []⟩) (w := w3) ⟨B3.rd, RdG.nil, B3.le, B3.max, by simp, by simp, by simp⟩
  unfold FD.val at Y
  dsimp only [List.length_nil] at Y
  rw [hE.out] at Y
  clear hE C g0
  go_wp2_with fail
  try rw [← hw3]
  replace hw3 := hide hw3
  have d0 : w3.cell? ⟨w2.heap.size, 0, none⟩ = some (.int .i64 0) := F3.cell 0
  have d1 : w3.cell? ⟨w2.heap.size, 1, none⟩ = some (.int .u32 0) := F3.cell 1
  have d2 : w3.cell? ⟨w2.heap.size, 2, none⟩ = some (.slice A2 l.length cc) := F3.cell 2
  have d3 : w3.cell? ⟨w2.heap.size, 3, none⟩ = some (.slice none 0 0) := F3.cell 3
  go_wp2_with fail
  go_call Y as e w4 ⟨rfl, P4⟩
  have R4 := R3.only P4
  have K4 := K3.only P4 (by simp)
  have F4 := F3.only P4 (by simp)
  have B4 : Bs w4 w1.heap.size A2 l cc := B3.only P4
  clear d0 d1 d2 d3
  have d0 : w4.cell? ⟨w2.heap.size, 0, none⟩ = some (.int .i64 0) := F4.cell 0
  have d1 : w4.cell? ⟨w2.heap.size, 1, none⟩ = some (.int .u32 0) := F4.cell 1
  have d2 : w4.cell? ⟨w2.heap.size, 2, none⟩ = some (.slice A2 l.length cc) := F4.cell 2
  have d3 : w4.cell? ⟨w2.heap.size, 3, none⟩ = some (.slice none 0 0) := F4.cell 3
  have g0 : w4.cell? ⟨g, 0, none⟩ = some (.slice A l.length cap) := R4.blk.cell 0
  have g1 : w4.cell? ⟨g, 1, none⟩ = some (.int .i64 0) := R4.blk.cell 1
  have h0 := R4.blk.frozen 0
  have h2 := R4.blk.frozen 1
  have hn1 : ¬ g = w2.heap.size := by omega
  have hn2 : ¬ w2.heap.size = g := by omega
  have hn3 : ¬ g = w.heap.size := by omega
  have hn4 : ¬ w.heap.size = g := by omega
  have f0 := K4.frozen 0
  have f1 := K4.frozen 1
  have f2 := K4.frozen 2
  have f3 := K4.frozen 3
  have c0 : w4.cell? ⟨w.heap.size, 0, none⟩ = some (.int .i64 0) := K4.cell 0
  have c1 : w4.cell? ⟨w.heap.size, 1, none⟩ = some (.int .u32 0) := K4.cell 1
  have c2 : w4.cell? ⟨w.heap.size, 2, none⟩ = some (.slice none 0 0) := K4.cell 2
  have c3 : w4.cell? ⟨w.heap.size, 3, none⟩ = some (.slice none 0 0) := K4.cell 3
  go_wp2_with fail
  (try simp only [Exit.inBlock, Exit.then])
  obtain ⟨w5, hw5⟩ : ∃ w5, w5 = (w4.setCell ⟨g, 1, none⟩ (.int .i64 E)).setCell ⟨g, 0, none⟩ (.slice none 0 0) := ⟨_, rfl⟩
  have P5 : Only [g] w4 w5 := by rw [hw5]; exact ((Only.refl [g] w4).setCell (p := ⟨g, 1, none⟩) (.inl (by simp)) _).setCell (p := ⟨g, 0, none⟩) (.inl (by simp)) _
  have R5 : RdrV w5 g none 0 [] E := ⟨by rw [hw5]; exact (R4.blk.set_ 1 _).set_ 0 _, fun h => absurd h (by simp), by simp, by simp, fun a ha => by cases ha⟩
  have K5 := K4.only P5 (by simp; omega)
  have Q5 := W4.only w5 w.heap.size (.int .i64 0) (.int .u32 0) (.slice A2 l.length cc) (.slice none 0 0)
  have O5 : Only [g] w w5 := (((O2.trans P3 (by simp)).trans P4 (by simp)).mono (by simp)).trans P5 (by simp)
  rw [← hw5]
  exact ret_field (v0 := .int .i64 0) (v1 := .int .u32 0) (v2 := .slice A2 l.length cc) (v3 := .slice none 0 0) rfl (by rfl) (by rfl) (W4.blk K5 _ _ _ _) (rpost_text (text := l) (O5.trans Q5 (by simp)) (R5.far4 Q5 hgl) ((B4.onlyG P5 (by omega)).onlyG Q5 (by omega)) (by omega))
end Go.Proofs.YtkgikodiecmakaaGreatDoor

namespace Go.Proofs.YtkgikodiecmakaaGreatDoor
set_option linter.all false
open Go.RowKit

def pieces (s : ByteArray) : List ByteArray := Lib.splitB ⟨#[44]⟩ 0 (Lib.countB s ⟨#[44]⟩) s
def rNamesT (r : R) : R := if r.e ≠ 0 then ⟨r.e, 0, [], [], r.rest⟩ else if r.text = [] then ⟨0, 0, [], [], r.rest⟩ else ⟨namesBad (pieces (strOfNums r.text)), 0, [], pieces (strOfNums r.text), r.rest⟩
def rNames (l : List Int) : R := rNamesT (rText l)
theorem rText_text (l : List Int) : (rText l).text.length ≤ 32768 ∧ (rText l).list = [] ∧ (rText l).n = 0 := by
  unfold rText rTextN rShort
  split
  · simp
  · split
    · simp
    · split
      · simp
      · refine ⟨?_, rfl, rfl⟩
        simp; omega
theorem splitB_size (sep : ByteArray) : ∀ (k : Nat) (s : ByteArray), ∀ p ∈ Lib.splitB sep 0 k s, p.size ≤ s.size
  | 0, s => by intro p hp; simp [Lib.splitB] at hp; subst hp; exact Nat.le_refl _
  | k + 1, s => by
    intro p hp
    unfold Lib.splitB at hp
    split at hp
    · simp at hp; subst hp; exact Nat.le_refl _
    · simp only [List.mem_cons] at hp
      rcases hp with rfl | hp
      · simp; omega
      · have := splitB_size sep k _ p hp
        simp at this
        omega
theorem pieces_ok (s : ByteArray) : (pieces s).length = Lib.countB s ⟨#[44]⟩ + 1 ∧ (pieces s).length ≤ s.size + 1 ∧ ∀ p ∈ pieces s, p.size ≤ s.size := by
  have h1 := Lib.splitB_all ⟨#[44]⟩ (by decide) 0 _ s rfl
  have h2 := Lib.countB_mul_le ⟨#[44]⟩ (by decide) _ s (Nat.le_refl _)
  have h3 : (⟨#[44]⟩ : ByteArray).size = 1 := rfl
  rw [h3, Nat.mul_one] at h2
  refine ⟨h1, by unfold pieces; omega, splitB_size _ _ _⟩
theorem split_any (s : ByteArray) (m : Int) (w : World) (hs : s.size ≤ 32768) (hm : w.cell? ⟨0, 0, none⟩ = some (.int .i64 m)) :
    Calls Tryz.prog 135 #[.string s, .string ⟨#[44]⟩] w fun e w' => e = .returned (.slice (some ⟨w.heap.size, 0, none⟩) (pieces s).length (pieces s).length) ∧ Only [] w w' ∧ RdS w' (some ⟨w.heap.size, 0, none⟩) (pieces s) := by
  refine (Tryz.strings_Split s ⟨#[44]⟩ m w (by omega) hm (by decide)).mono fun e w' ⟨he, hw⟩ => ⟨?_, ?_, ?_⟩
  · rw [he, (pieces_ok s).1]
  · rw [hw]; exact (Only.refl _ _).alloc _
  · intro _
    refine ⟨w.heap.size, 0, rfl, by rw [hw]; simp, fun i x hx => ?_⟩
    rw [hw]
    have := (Blk.new w 9 ((pieces s).map Value.string)).cell (0 + i)
    rw [Nat.zero_add] at this ⊢
    refine Eq.trans this ?_
    simp [hx]

set_option maxRecDepth 100000 in
set_option maxHeartbeats 3200000 in
theorem names_any (w : World) (g : Nat) (A : Option Addr) (cap : Nat) (l : List Int) (m : Int) (hm : w.cell? ⟨0, 0, none⟩ = some (.int .i64 m)) (h : RdrV w g A cap l 0) (hl : ∀ x ∈ l, 0 ≤ x ∧ x < 256) :
    Calls Tryz.prog 121 #[.pointer (some ⟨g, 0, none⟩)] w (RPost w g (rNames l)) := by
  obtain ⟨w1, hw1⟩ : ∃ w1, w1 = w.alloc (.cells #[.int .i64 0, .int .u32 0, .slice none 0 0, .slice none 0 0] 86) := ⟨_, rfl⟩
  have P1 : Only [] w w1 := by rw [hw1]; exact (Only.refl _ _).alloc _
  have K : Blk w1 w.heap.size 86 [.int .i64 0, .int .u32 0, .slice none 0 0, .slice none 0 0] := by rw [hw1]; exact Blk.new w _ _
  have h1 := h.only P1
  have hgl := h.blk.lt
  have hq1 := K.lt
  have T := text_any w1 g A cap l h1 hl
  obtain ⟨htx, hli, hn⟩ := rText_text l
  unfold rNames
  obtain ⟨r, hr⟩ : ∃ r, rText l = r := ⟨_, rfl⟩
  rw [hr] at T htx hli hn ⊢
  clear hr
  obtain ⟨E, n, tx, ls, rest⟩ := r
  dsimp only at htx hli hn
  subst hli
  subst hn
  by_cases hE : E = 0
  · by_cases htx0 : tx = []
    · subst hE; subst htx0
      rw [show rNamesT ⟨0, 0, [], [], rest⟩ = ⟨0, 0, [], [], rest⟩ from rfl]
      have hE2 : ((0 : Int) != 0) = false := rfl
      obtain ⟨E, hEE⟩ : ∃ E : Int, E = 0 := ⟨_, rfl⟩
      unfold RPost FD.val at T
      dsimp only [List.length_nil] at T
      subst hEE
      go_enter Tryz.func121, Tryz.ntmps121
      go_wp2_with fail
      rw [← hw1]
      replace hw1 := hide hw1
      go_wp2_with fail
      go_call T as e w2 ⟨P2, tA, tc, lA, lc, rfl, my2, A2, cap2, R2⟩
      have K2 := K.only P2 (by simp; omega)
      have O2 : Only [g] w w2 := (P1.mono (by simp)).trans P2 (by simp)
      obtain ⟨w3, hw3⟩ : ∃ w3, w3 = w2.alloc (.cells #[.int .i64 0, .int .u32 0, .slice tA 0 tc, .slice lA 0 lc] 86) := ⟨_, rfl⟩
      have P3 : Only [] w2 w3 := by rw [hw3]; exact (Only.refl _ _).alloc _
      have K3 := K2.only P3 (by simp)
      have F3 : Blk w3 w2.heap.size 86 [.int .i64 0, .int .u32 0, .slice tA 0 tc, .slice lA 0 lc] := by rw [hw3]; exact Blk.new w2 _ _
      have R3 := R2.only P3
      have z1 := P1.size
      have z2 := P2.size
      have z3 := F3.lt
      have O3 : Only [g] w w3 := O2.trans P3 (by simp)
      have g1 : w2.cell? ⟨g, 1, none⟩ = some (.int .i64 0) := R2.blk.cell 1
      have hg2 : g < w2.heap.size := by omega
      have hq2 : w.heap.size < w2.heap.size := by omega
      have hn1 : ¬ g = w2.heap.size := by omega
      have hn2 : ¬ w2.heap.size = g := by omega
      have hn3 : ¬ g = w.heap.size := by omega
      have hn4 : ¬ w.heap.size = g := by omega
      have hn5 : ¬ w2.heap.size = w.heap.size := by omega
      have hn6 : ¬ w.heap.size = w2.heap.size := by omega
      have f0 := K2.frozen 0
      have f1 := K2.frozen 1
      have f2 := K2.frozen 2
      have f3 := K2.frozen 3
      have c0 : w2.cell? ⟨w.heap.size, 0, none⟩ = some (.int .i64 0) := K2.cell 0
      have c1 : w2.cell? ⟨w.heap.size, 1, none⟩ = some (.int .u32 0) := K2.cell 1
      have c2 : w2.cell? ⟨w.heap.size, 2, none⟩ = some (.slice none 0 0) := K2.cell 2
      have c3 : w2.cell? ⟨w.heap.size, 3, none⟩ = some (.slice none 0 0) := K2.cell 3
      go_wp2_with fail
      (try simp only [Exit.inBlock, Exit.then])
      have Q4 := W4.only w2 w.heap.size (.int .i64 0) (.int .u32 0) (.slice none 0 0) (.slice none 0 0)
      exact ret_field (v0 := .int .i64 0) (v1 := .int .u32 0) (v2 := .slice none 0 0) (v3 := .slice none 0 0) rfl (by rfl) (by rfl) ((W4.blk K2 _ _ _ _).alloc _) (rpost_plain ((O2.trans Q4 (by simp)).alloc _) ((R2.far4 Q4 hgl).only ((Only.refl _ _).alloc _)))
    · subst hE
      rw [show rNamesT ⟨0, 0, tx, [], rest⟩ = ⟨namesBad (pieces (strOfNums tx)), 0, [], pieces (strOfNums tx), rest⟩ from by unfold rNamesT; rw [if_neg (by simp), if_neg htx0]]
      have hE2 : ((0 : Int) != 0) = false := rfl
      obtain ⟨k, hkk⟩ : ∃ k, tx.length = k := ⟨_, rfl⟩
      have hk0 : ¬ k = 0 := by rw [← hkk]; simpa using htx0
      have hk1 : ((k : Int) == 0) = false := beq_eq_false_iff_ne.2 (by omega)
      obtain ⟨s, hs⟩ : ∃ s, strOfNums tx = s := ⟨_, rfl⟩
      have hsz : s.size ≤ 32768 := by rw [← hs, strOfNums_size]; exact htx
      obtain ⟨q1, q2, q3⟩ := pieces_ok s
      unfold RPost FD.val at T
      dsimp only [List.length_nil] at T
      rw [hkk] at T
      obtain ⟨ps, hps⟩ : ∃ ps, pieces s = ps := ⟨_, rfl⟩
      obtain ⟨N, hN⟩ : ∃ N, ps.length = N := ⟨_, rfl⟩
      obtain ⟨E, hEn⟩ : ∃ E, namesBad ps = E := ⟨_, rfl⟩
      rw [hs, hps, hEn]
      rw [hps] at q1 q2 q3
      have hg0 : g ≠ 0 := by
        rintro rfl
        have := h.blk.cell 0
        rw [hm] at this
        simp at this
      replace hs := hide hs
      replace hps := hide hps
      replace hN := hide hN
      replace hEn := hide hEn
      replace hkk := hide hkk
      go_enter Tryz.func121, Tryz.ntmps121
      go_wp2_with fail
      rw [← hw1]
      replace hw1 := hide hw1
      go_wp2_with fail
      go_call T as e w2 ⟨P2, tA, tc, lA, lc, rfl, my2, A2, cap2, R2⟩
      have K2 := K.only P2 (by simp; omega)
      have O2 : Only [g] w w2 := (P1.mono (by simp)).trans P2 (by simp)
      obtain ⟨w3, hw3⟩ : ∃ w3, w3 = w2.alloc (.cells #[.int .i64 0, .int .u32 0, .slice tA k tc, .slice lA 0 lc] 86) := ⟨_, rfl⟩
      have P3 : Only [] w2 w3 := by rw [hw3]; exact (Only.refl _ _).alloc _
      have K3 := K2.only P3 (by simp)
      have F3 : Blk w3 w2.heap.size 86 [.int .i64 0, .int .u32 0, .slice tA k tc, .slice lA 0 lc] := by rw [hw3]; exact Blk.new w2 _ _
      have R3 := R2.only P3
      have z1 := P1.size
      have z2 := P2.size
      have z3 := F3.lt
      have O3 : Only [g] w w3 := O2.trans P3 (by simp)
      have g1 : w2.cell? ⟨g, 1, none⟩ = some (.int .i64 0) := R2.blk.cell 1
      have hg2 : g < w2.heap.size := by omega
      have hq2 : w.heap.size < w2.heap.size := by omega
      have hn1 : ¬ g = w2.heap.size := by omega
      have hn2 : ¬ w2.heap.size = g := by omega
      have hn3 : ¬ g = w.heap.size := by omega
      have hn4 : ¬ w.heap.size = g := by omega
      have hn5 : ¬ w2.heap.size = w.heap.size := by omega
      have hn6 : ¬ w.heap.size = w2.heap.size := by omega
      have f0 := K2.frozen 0
      have f1 := K2.frozen 1
      have f2 := K2.frozen 2
      have f3 := K2.frozen 3
      have c0 : w2.cell? ⟨w.heap.size, 0, none⟩ = some (.int .i64 0) := K2.cell 0
      have c1 : w2.cell? ⟨w.heap.size, 1, none⟩ = some (.int .u32 0) := K2.cell 1
      have c2 : w2.cell? ⟨w.heap.size, 2, none⟩ = some (.slice none 0 0) := K2.cell 2
      have c3 : w2.cell? ⟨w.heap.size, 3, none⟩ = some (.slice none 0 0) := K2.cell 3
      have tk : 0 < tx.length := by rw [hkk.out]; omega
      obtain ⟨b, off, rfl, hb, hcb⟩ := (my2.ok.only P3).text tk
      have hm1 : w3.cell? ⟨0, 0, none⟩ = some (.int .i64 m) := cellL O3 (by omega) (by simpa using Ne.symm hg0) hm
      have kc : (convert 34 9 (.slice (some ⟨b, off, none⟩) k tc)).run Tryz.prog w3 = .ok (.string s) w3 := by
        rw [← hs.out]
        exact run_convert_bytes_arg (P := Tryz.prog) w3 34 5 (by kernel_rfl) (by kernel_rfl) b off k tc tx hkk.out (fun i hi => by
          have hx : tx[i]? = some (tx[i]'(by rw [hkk.out]; omega)) := List.getElem?_eq_getElem _
          have := hcb i _ hx
          rw [this]
          simp [List.getD, hx]) 9 (by kernel_rfl)
      rw [hw3] at kc
      go_wp2_with fail
      rw [← hw3]
      rw [← hw3] at kc
      replace hw3 := hide hw3
      have SP := split_any s m w3 hsz hm1
      rw [hps.out, hN.out] at SP
      go_call SP as e w4 ⟨rfl, P4, S4⟩
      have F4 := F3.only P4 (by simp)
      have K4 := K3.only P4 (by simp)
      have R4 := R3.only P4
      clear c0 c1 c2 c3 f0 f1 f2 f3 g1
      have d0 : w4.cell? ⟨w2.heap.size, 0, none⟩ = some (.int .i64 0) := F4.cell 0
      have d1 : w4.cell? ⟨w2.heap.size, 1, none⟩ = some (.int .u32 0) := F4.cell 1
      have d2 : w4.cell? ⟨w2.heap.size, 2, none⟩ = some (.slice (some ⟨b, off, none⟩) k tc) := F4.cell 2
      have d3 : w4.cell? ⟨w2.heap.size, 3, none⟩ = some (.slice lA 0 lc) := F4.cell 3
      have e0 := F4.frozen 0
      have e1 := F4.frozen 1
      have e2 := F4.frozen 2
      have e3 := F4.frozen 3
      obtain ⟨w5, hw5⟩ : ∃ w5, w5 = W4 w4 w2.heap.size (.int .i64 0) (.int .u32 0) (.slice none 0 0) (.slice (some ⟨w3.heap.size, 0, none⟩) N N) := ⟨_, rfl⟩
      have P5 : Only [w2.heap.size] w4 w5 := by rw [hw5]; exact W4.only _ _ _ _ _ _
      have F5 : Blk w5 w2.heap.size 86 [.int .i64 0, .int .u32 0, .slice none 0 0, .slice (some ⟨w3.heap.size, 0, none⟩) N N] := by rw [hw5]; exact W4.blk F4 _ _ _ _
      have K5 := K4.only P5 (by simp; omega)
      have R5 := R4.far4 P5 hg2
      have S5 : RdS w5 (some ⟨w3.heap.size, 0, none⟩) ps := S4.onlyL P5 (fun a ha _ => by injection ha with ha; subst ha; simp; omega)
      have ok5 : FD.ok w5 ⟨0, 0, none, 0, [], some ⟨w3.heap.size, 0, none⟩, N, ps⟩ := ⟨RdG.nil, S5, by simp, by simp, by rw [hN.out]; exact Nat.le_refl _, by have := hN.out; simp only; unfold maxLen; omega, fun p hp => by have := q3 p hp; unfold maxLen; omega⟩
      have new5 : FD.new ⟨0, 0, none, 0, [], some ⟨w3.heap.size, 0, none⟩, N, ps⟩ w3.heap.size := ⟨fun a ha => by simp at ha, fun a ha => by injection ha with ha; subst ha; exact Nat.le_refl _⟩
      have my5 : FD.mine w5 ⟨0, 0, none, 0, [], some ⟨w3.heap.size, 0, none⟩, N, ps⟩ w3.heap.size := ⟨ok5, new5, fun a ha => by simp at ha⟩
      have Y := namesFault_any ⟨0, 0, none, 0, [], some ⟨w3.heap.size, 0, none⟩, N, ps⟩ w5 ok5
      unfold FD.val at Y
      dsimp only [List.length_nil] at Y
      rw [hEn.out, hN.out] at Y
      have z4 := P4.size
      have z5 := P5.size
      unfold W4 at hw5
      go_wp2_with fail
      rw [← hw5]
      replace hw5 := hide hw5
      go_call Y as e w6 ⟨rfl, P6⟩
      have F6 := F5.only P6 (by simp)
      have K6 := K5.only P6 (by simp)
      have R6 := R5.only P6
      have O6 : Only [g] w w6 := ((O3.trans P4 (by simp)).trans P5 (by simp; omega)).trans P6 (by simp)
      clear d0 d1 d2 d3 e0 e1 e2 e3
      have g1 : w6.cell? ⟨g, 1, none⟩ = some (.int .i64 0) := R6.blk.cell 1
      have gf1 := R6.blk.frozen 1
      have d0 : w6.cell? ⟨w2.heap.size, 0, none⟩ = some (.int .i64 0) := F6.cell 0
      have d1 : w6.cell? ⟨w2.heap.size, 1, none⟩ = some (.int .u32 0) := F6.cell 1
      have d2 : w6.cell? ⟨w2.heap.size, 2, none⟩ = some (.slice none 0 0) := F6.cell 2
      have d3 : w6.cell? ⟨w2.heap.size, 3, none⟩ = some (.slice (some ⟨w3.heap.size, 0, none⟩) N N) := F6.cell 3
      have f0 := K6.frozen 0
      have f1 := K6.frozen 1
      have f2 := K6.frozen 2
      have f3 := K6.frozen 3
      have c0 : w6.cell? ⟨w.heap.size, 0, none⟩ = some (.int .i64 0) := K6.cell 0
      have c1 : w6.cell? ⟨w.heap.size, 1, none⟩ = some (.int .u32 0) := K6.cell 1
      have c2 : w6.cell? ⟨w.heap.size, 2, none⟩ = some (.slice none 0 0) := K6.cell 2
      have c3 : w6.cell? ⟨w.heap.size, 3, none⟩ = some (.slice none 0 0) := K6.cell 3
      go_wp2_with fail
      (try simp only [Exit.inBlock, Exit.then])
      obtain ⟨R7, P7⟩ := R6.fault E
      have K7 := K6.far (p := ⟨g, 1, none⟩) (by simp only; omega) (.int .i64 E)
      have Q8 := W4.only (w6.setCell ⟨g, 1, none⟩ (.int .i64 E)) w.heap.size (.int .i64 0) (.int .u32 0) (.slice none 0 0) (.slice (some ⟨w3.heap.size, 0, none⟩) N N)
      have RR : RPost w g ⟨E, 0, [], ps, rest⟩ (.returned (.agg #[.int .i64 0, .int .u32 0, .slice none 0 0, .slice (some ⟨w3.heap.size, 0, none⟩) N N])) (W4 (w6.setCell ⟨g, 1, none⟩ (.int .i64 E)) w.heap.size (.int .i64 0) (.int .u32 0) (.slice none 0 0) (.slice (some ⟨w3.heap.size, 0, none⟩) N N)) :=
        ⟨(O6.trans P7 (by simp)).trans Q8 (by simp), none, 0, some ⟨w3.heap.size, 0, none⟩, N, by unfold FD.val; rw [hN.out]; rfl, (((my5.only P6).onlyL P7 (by omega)).onlyL Q8 (by omega)).mono (by omega), A2, cap2, R7.far4 Q8 hgl⟩
      exact ret_field (v0 := .int .i64 0) (v1 := .int .u32 0) (v2 := .slice none 0 0) (v3 := .slice (some ⟨w3.heap.size, 0, none⟩) N N) rfl (by rfl) (by rfl) (W4.blk K7 _ _ _ _) RR
  · rw [show rNamesT ⟨E, 0, tx, [], rest⟩ = ⟨E, 0, [], [], rest⟩ from if_pos hE]
    have hE2 : (E != 0) = true := by simpa using hE
    obtain ⟨k, hkk⟩ : ∃ k, tx.length = k := ⟨_, rfl⟩
    unfold RPost FD.val at T
    dsimp only [List.length_nil] at T
    rw [hkk] at T
    clear hkk
    go_enter Tryz.func121, Tryz.ntmps121
    go_wp2_with fail
    rw [← hw1]
    replace hw1 := hide hw1
    go_wp2_with fail
    go_call T as e w2 ⟨P2, tA, tc, lA, lc, rfl, my2, A2, cap2, R2⟩
    have K2 := K.only P2 (by simp; omega)
    have O2 : Only [g] w w2 := (P1.mono (by simp)).trans P2 (by simp)
    obtain ⟨w3, hw3⟩ : ∃ w3, w3 = w2.alloc (.cells #[.int .i64 0, .int .u32 0, .slice tA k tc, .slice lA 0 lc] 86) := ⟨_, rfl⟩
    have P3 : Only [] w2 w3 := by rw [hw3]; exact (Only.refl _ _).alloc _
    have K3 := K2.only P3 (by simp)
    have F3 : Blk w3 w2.heap.size 86 [.int .i64 0, .int .u32 0, .slice tA k tc, .slice lA 0 lc] := by rw [hw3]; exact Blk.new w2 _ _
    have R3 := R2.only P3
    have z1 := P1.size
    have z2 := P2.size
    have z3 := F3.lt
    have O3 : Only [g] w w3 := O2.trans P3 (by simp)
    have g1 : w2.cell? ⟨g, 1, none⟩ = some (.int .i64 E) := R2.blk.cell 1
    have hg2 : g < w2.heap.size := by omega
    have hq2 : w.heap.size < w2.heap.size := by omega
    have hn1 : ¬ g = w2.heap.size := by omega
    have hn2 : ¬ w2.heap.size = g := by omega
    have hn3 : ¬ g = w.heap.size := by omega
    have hn4 : ¬ w.heap.size = g := by omega
    have hn5 : ¬ w2.heap.size = w.heap.size := by omega
    have hn6 : ¬ w.heap.size = w2.heap.size := by omega
    have f0 := K2.frozen 0
    have f1 := K2.frozen 1
    have f2 := K2.frozen 2
    have f3 := K2.frozen 3
    have c0 : w2.cell? ⟨w.heap.size, 0, none⟩ = some (.int .i64 0) := K2.cell 0
    have c1 : w2.cell? ⟨w.heap.size, 1, none⟩ = some (.int .u32 0) := K2.cell 1
    have c2 : w2.cell? ⟨w.heap.size, 2, none⟩ = some (.slice none 0 0) := K2.cell 2
    have c3 : w2.cell? ⟨w.heap.size, 3, none⟩ = some (.slice none 0 0) := K2.cell 3
    go_wp2_with fail
    (try simp only [Exit.inBlock, Exit.then])
    have Q4 := W4.only w2 w.heap.size (.int .i64 0) (.int .u32 0) (.slice none 0 0) (.slice none 0 0)
    exact ret_field (v0 := .int .i64 0) (v1 := .int .u32 0) (v2 := .slice none 0 0) (v3 := .slice none 0 0) rfl (by rfl) (by rfl) ((W4.blk K2 _ _ _ _).alloc _) (rpost_plain ((O2.trans Q4 (by simp)).alloc _) ((R2.far4 Q4 hgl).only ((Only.refl _ _).alloc _)))
end Go.Proofs.YtkgikodiecmakaaGreatDoor
