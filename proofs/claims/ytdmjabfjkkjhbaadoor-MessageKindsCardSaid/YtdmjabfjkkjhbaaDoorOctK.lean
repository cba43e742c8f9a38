/- Layer 1: the reader: a text; for all bytes, no condition. -/
import Derived.Test.YtdmjabfjkkjhbaaDoorOctJ
namespace Go.Proofs.YtdmjabfjkkjhbaaDoor
set_option linter.all false
open Go.RowKit

def rTextN (l : List Int) (n : Nat) : R := if 32768 < n then ⟨6, 0, [], [], l⟩ else if l.length < n then ⟨3, 0, [], [], l⟩ else ⟨0, 0, l.take n, [], l.drop n⟩
def rText (l : List Int) : R := if l.length < 4 then rShort l else rTextN (l.drop 4) (be4 l).toNat
theorem be4_ok (l : List Int) (hl : ∀ x ∈ l, 0 ≤ x ∧ x < 256) : 0 ≤ be4 l ∧ be4 l < 4294967296 := by
  have h : ∀ k, 0 ≤ l.getD k 0 ∧ l.getD k 0 < 256 := by
    intro k
    by_cases hk : k < l.length
    · have := hl _ (List.getElem_mem hk)
      simpa [List.getD, List.getElem?_eq_getElem hk] using this
    · simp [List.getD, List.getElem?_eq_none (Nat.le_of_not_lt hk)]
  have h0 := h 0; have h1 := h 1; have h2 := h 2; have h3 := h 3
  unfold be4
  omega

theorem RdrV.fault {w : World} {g : Nat} {A : Option Addr} {cap : Nat} {l : List Int} {e : Int} (h : RdrV w g A cap l e) (e' : Int) : RdrV (w.setCell ⟨g, 1, none⟩ (.int .i64 e')) g A cap l e' ∧ Only [g] w (w.setCell ⟨g, 1, none⟩ (.int .i64 e')) := by
  have P : Only [g] w (w.setCell ⟨g, 1, none⟩ (.int .i64 e')) := (Only.refl [g] w).setCell (p := ⟨g, 1, none⟩) (.inl (by simp)) _
  exact ⟨⟨h.blk.set_ 1 _, h.rd.onlyG P (fun a ha => Nat.ne_of_lt (h.far a ha)), h.le, h.max, h.far⟩, P⟩
theorem rpost_text {w w' : World} {g B : Nat} {e : Int} {text rest : List Int} {A A' : Option Addr} {cap c : Nat} (h : Only [g] w w') (hr : RdrV w' g A cap rest e) (hb : Bs w' B A' text c) (hB : w.heap.size ≤ B) : RPost w g ⟨e, 0, text, [], rest⟩ (.returned (.agg #[.int .i64 0, .int .u32 0, .slice A' text.length c, .slice none 0 0])) w' :=
  ⟨h, A', c, none, 0, rfl, ⟨⟨hb.rd, RdG.nil, hb.le, hb.max, by simp, by simp, by simp⟩, ⟨fun a ha => Nat.le_trans hB (hb.new a ha), fun a ha => by simp at ha⟩, hb.soft⟩, A, cap, hr⟩
theorem Bs.onlyG {w w' : World} {B q : Nat} {A : Option Addr} {l : List Int} {c : Nat} (h : Bs w B A l c) (hb : Only [q] w w') (hq : q < B) : Bs w' B A l c :=
  { h with
    rd := h.rd.onlyG hb (fun a ha => by have := h.new a ha; omega)
    soft := fun a ha i hi => by
      obtain ⟨b, off, e, hlt, _⟩ := h.rd (by omega)
      have hn := h.new a ha
      rw [ha] at e
      injection e with e
      refine (World.frozen?_of_block (w := w) ?_).trans (h.soft a ha i hi)
      rw [block_add]
      exact hb.block _ (by rw [e]; exact hlt) (by simp; omega) }
theorem Bs.only {w w' : World} {B : Nat} {A : Option Addr} {l : List Int} {c : Nat} (h : Bs w B A l c) (hb : Only [] w w') : Bs w' B A l c :=
  { h with
    rd := h.rd.only hb
    soft := fun a ha i hi => by
      obtain ⟨b, off, e, hlt, _⟩ := h.rd (by omega)
      rw [ha] at e
      injection e with e
      refine (World.frozen?_of_block (w := w) ?_).trans (h.soft a ha i hi)
      rw [block_add]
      exact hb.block _ (by rw [e]; exact hlt) (by simp) }
theorem field_n (w : World) (k n : Int) (a b : Value) : (Instr.field 35 (.agg #[.int .i64 k, .int .u32 n, a, b]) 1).run Tryd.prog w = .ok (.int .u32 n) w := by kernel_rfl

set_option maxRecDepth 100000 in
set_option maxHeartbeats 3200000 in
theorem text_any (w : World) (g : Nat) (A : Option Addr) (cap : Nat) (l : List Int) (h : RdrV w g A cap l 0) (hl : ∀ x ∈ l, 0 ≤ x ∧ x < 256) :
    Calls Tryd.prog 49 #[.pointer (some ⟨g, 0, none⟩)] w (RPost w g (rText l)) := by
  obtain ⟨w1, hw1⟩ : ∃ w1, w1 = w.alloc (.cells #[.int .i64 0, .int .u32 0, .slice none 0 0, .slice none 0 0] 35) := ⟨_, rfl⟩
  have P1 : Only [] w w1 := by rw [hw1]; exact (Only.refl _ _).alloc _
  have K : Blk w1 w.heap.size 35 [.int .i64 0, .int .u32 0, .slice none 0 0, .slice none 0 0] := by rw [hw1]; exact Blk.new w _ _
  have h1 := h.only P1
  have hgl := h.blk.lt
  have hq1 := K.lt
  have T := number_any w1 g A cap l h1 hl
  by_cases hs : l.length < 4
  · rw [show rNumber l = rShort l from if_pos hs] at T
    rw [show rText l = rShort l from if_pos hs]
    clear hs h h1
    unfold rShort at T ⊢
    unfold RPost FD.val at T
    dsimp only [List.length_nil] at T
    go_enter Tryd.func49, Tryd.ntmps49
    go_wp2_with fail
    rw [← hw1]
    replace hw1 := hide hw1
    go_wp2_with fail
    go_call T as e w2 ⟨P2, tA, tc, lA, lc, rfl, my2, A2, cap2, R2⟩
    clear my2

    have K2 := K.only P2 (by simp; omega)
    have hfd := field_n
    have O2 : Only [g] w w2 := (P1.mono (by simp)).trans P2 (by simp)
    have g1 : w2.cell? ⟨g, 1, none⟩ = some (.int .i64 3) := R2.blk.cell 1
    have f0 := K2.frozen 0
    have f1 := K2.frozen 1
    have f2 := K2.frozen 2
    have f3 := K2.frozen 3
    have c0 : w2.cell? ⟨w.heap.size, 0, none⟩ = some (.int .i64 0) := K2.cell 0
    have c1 : w2.cell? ⟨w.heap.size, 1, none⟩ = some (.int .u32 0) := K2.cell 1
    have c2 : w2.cell? ⟨w.heap.size, 2, none⟩ = some (.slice none 0 0) := K2.cell 2
    have c3 : w2.cell? ⟨w.heap.size, 3, none⟩ = some (.slice none 0 0) := K2.cell 3
    go_wp2_with fail
    (try simp only [Exit.inBlock, Exit.then])
    refine ret_field (v0 := .int .i64 0) (v1 := .int .u32 0) (v2 := .slice none 0 0) (v3 := .slice none 0 0) rfl (by rfl) (by rfl) (W4.blk K2 _ _ _ _) (rpost_plain (O2.trans (W4.only w2 _ _ _ _ _) (by simp)) (R2.far4 (W4.only _ _ _ _ _ _) hgl))
  · obtain ⟨k, hk⟩ := Int.eq_ofNat_of_zero_le (be4_ok l hl).1
    have hk2 : k < 4294967296 := by have := (be4_ok l hl).2; omega
    rw [show rNumber l = ⟨0, be4 l, [], [], l.drop 4⟩ from if_neg hs] at T
    rw [show rText l = rTextN (l.drop 4) k from by unfold rText; rw [if_neg hs, hk]; rfl]
    rw [hk] at T
    clear hs h h1
    obtain ⟨m, hm⟩ : ∃ m, l.drop 4 = m := ⟨_, rfl⟩
    rw [hm] at T ⊢
    clear hm
    unfold RPost FD.val at T
    dsimp only [List.length_nil] at T
    by_cases hbig : 32768 < k
    · rw [show rTextN m k = ⟨6, 0, [], [], m⟩ from if_pos hbig]
      have hb2 : (32768 : Int) < (k : Int) := by omega
      go_enter Tryd.func49, Tryd.ntmps49
      go_wp2_with fail
      rw [← hw1]
      replace hw1 := hide hw1
      go_wp2_with fail
      go_call T as e w2 ⟨P2, tA, tc, lA, lc, rfl, my2, A2, cap2, R2⟩
      clear my2

      have K2 := K.only P2 (by simp; omega)
      have hfd := field_n
      have O2 : Only [g] w w2 := (P1.mono (by simp)).trans P2 (by simp)
      have g1 : w2.cell? ⟨g, 1, none⟩ = some (.int .i64 0) := R2.blk.cell 1
      have gf := R2.blk.frozen 1
      have f0 := K2.frozen 0
      have f1 := K2.frozen 1
      have f2 := K2.frozen 2
      have f3 := K2.frozen 3
      have c0 : w2.cell? ⟨w.heap.size, 0, none⟩ = some (.int .i64 0) := K2.cell 0
      have c1 : w2.cell? ⟨w.heap.size, 1, none⟩ = some (.int .u32 0) := K2.cell 1
      have c2 : w2.cell? ⟨w.heap.size, 2, none⟩ = some (.slice none 0 0) := K2.cell 2
      have c3 : w2.cell? ⟨w.heap.size, 3, none⟩ = some (.slice none 0 0) := K2.cell 3
      go_wp2_with fail
      (try simp only [Exit.inBlock, Exit.then])
      obtain ⟨R3, P3⟩ := R2.fault 6
      exact ret_field (v0 := .int .i64 0) (v1 := .int .u32 0) (v2 := .slice none 0 0) (v3 := .slice none 0 0) rfl (by rfl) (by rfl) (W4.blk (K2.far (p := ⟨g, 1, none⟩) (by simp only; omega) _) _ _ _ _) (rpost_plain ((O2.trans P3 (by simp)).trans (W4.only _ _ _ _ _ _) (by simp)) (R3.far4 (W4.only _ _ _ _ _ _) hgl))
    · have hcv : IntKind.i64.wrap (k : Int) = k := by apply IntWalk.i64_in <;> omega
      have hb2 : ¬ (32768 : Int) < (k : Int) := by omega
      by_cases hsh : m.length < k
      · rw [show rTextN m k = ⟨3, 0, [], [], m⟩ from by unfold rTextN; rw [if_neg hbig, if_pos hsh]]
        go_enter Tryd.func49, Tryd.ntmps49
        go_wp2_with fail
        rw [← hw1]
        replace hw1 := hide hw1
        go_wp2_with fail
        go_call T as e w2 ⟨P2, tA, tc, lA, lc, rfl, my2, A2, cap2, R2⟩
        clear my2

        have K2 := K.only P2 (by simp; omega)
        have hfd := field_n
        have O2 : Only [g] w w2 := (P1.mono (by simp)).trans P2 (by simp)
        have g1 : w2.cell? ⟨g, 1, none⟩ = some (.int .i64 0) := R2.blk.cell 1
        go_wp2_with fail
        go_call (take_short w2 g A2 cap2 m k R2 hsh (by omega)) as e w3 ⟨rfl, R3, P3⟩
        go_wp2_with fail
        go_call (clone_any w3 none [] 0 (fun h => absurd h (by simp)) (by simp)) as e w4 ⟨P4, A4, c4, rfl, B4⟩
        have K4 := (K2.only P3 (by simp; omega)).only P4 (by simp)
        have f0 := K4.frozen 0
        have f1 := K4.frozen 1
        have f2 := K4.frozen 2
        have f3 := K4.frozen 3
        have c0 : w4.cell? ⟨w.heap.size, 0, none⟩ = some (.int .i64 0) := K4.cell 0
        have c1 : w4.cell? ⟨w.heap.size, 1, none⟩ = some (.int .u32 0) := K4.cell 1
        have c2 : w4.cell? ⟨w.heap.size, 2, none⟩ = some (.slice none 0 0) := K4.cell 2
        have c3 : w4.cell? ⟨w.heap.size, 3, none⟩ = some (.slice none 0 0) := K4.cell 3
        go_wp2_with fail
        (try simp only [Exit.inBlock, Exit.then])
        have z3 := P2.size
        have z4 := P3.size
        have Q4 := W4.only w4 w.heap.size (.int .i64 0) (.int .u32 0) (.slice A4 0 c4) (.slice none 0 0)
        have O4 := ((O2.trans P3 (by simp)).trans P4 (by simp)).trans Q4 (by simp)
        exact ret_field (v0 := .int .i64 0) (v1 := .int .u32 0) (v2 := .slice A4 0 c4) (v3 := .slice none 0 0) rfl (by rfl) (by rfl) (W4.blk K4 _ _ _ _) (rpost_text (text := []) O4 ((R3.only P4).far4 Q4 hgl) (B4.onlyG Q4 (by omega)) (by omega))
      · rw [show rTextN m k = ⟨0, 0, m.take k, [], m.drop k⟩ from by unfold rTextN; rw [if_neg hbig, if_neg hsh]]
        have hkl : (m.take k).length = k := by simp; omega
        go_enter Tryd.func49, Tryd.ntmps49
        go_wp2_with fail
        rw [← hw1]
        replace hw1 := hide hw1
        go_wp2_with fail
        go_call T as e w2 ⟨P2, tA, tc, lA, lc, rfl, my2, A2, cap2, R2⟩
        clear my2

        have K2 := K.only P2 (by simp; omega)
        have hfd := field_n
        have O2 : Only [g] w w2 := (P1.mono (by simp)).trans P2 (by simp)
        have g1 : w2.cell? ⟨g, 1, none⟩ = some (.int .i64 0) := R2.blk.cell 1
        go_wp2_with fail
        go_call (take_ok w2 g A2 cap2 m k R2 (by omega)) as e w3 ⟨rfl, P3, D3, A3, cap3, R3⟩
        have C4 := clone_any w3 A2 (m.take k) cap2 D3 (by omega)
        rw [hkl] at C4
        go_wp2_with fail
        go_call C4 as e w4 ⟨P4, A4, c4, rfl, B4⟩
        have K4 := (K2.only P3 (by simp; omega)).only P4 (by simp)
        have f0 := K4.frozen 0
        have f1 := K4.frozen 1
        have f2 := K4.frozen 2
        have f3 := K4.frozen 3
        have c0 : w4.cell? ⟨w.heap.size, 0, none⟩ = some (.int .i64 0) := K4.cell 0
        have c1 : w4.cell? ⟨w.heap.size, 1, none⟩ = some (.int .u32 0) := K4.cell 1
        have c2 : w4.cell? ⟨w.heap.size, 2, none⟩ = some (.slice none 0 0) := K4.cell 2
        have c3 : w4.cell? ⟨w.heap.size, 3, none⟩ = some (.slice none 0 0) := K4.cell 3
        go_wp2_with fail
        (try simp only [Exit.inBlock, Exit.then])
        have z3 := P2.size
        have z4 := P3.size
        have Q4 := W4.only w4 w.heap.size (.int .i64 0) (.int .u32 0) (.slice A4 k c4) (.slice none 0 0)
        have O4 := ((O2.trans P3 (by simp)).trans P4 (by simp)).trans Q4 (by simp)
        have RR := rpost_text (text := m.take k) O4 ((R3.only P4).far4 Q4 hgl) (B4.onlyG Q4 (by omega)) (by omega)
        rw [hkl] at RR
        exact ret_field (v0 := .int .i64 0) (v1 := .int .u32 0) (v2 := .slice A4 k c4) (v3 := .slice none 0 0) rfl (by rfl) (by rfl) (W4.blk K4 _ _ _ _) RR
end Go.Proofs.YtdmjabfjkkjhbaaDoor
