/- The document's answer for layer 1: take of names; take; no condition but the bytes' number. -/
import Derived.Test.YtdmjabfjkkjhbaaDoorRefQ
namespace Go.Proofs.YtdmjabfjkkjhbaaDoor
set_option linter.all false
open Go.RowKit

set_option maxRecDepth 100000 in
set_option maxHeartbeats 6400000 in
theorem refTake_names (A : Option Addr) (l : List Int) (c : Nat) (w : World) (h : Rd w A l) (hl : ∀ x ∈ l, 0 ≤ x ∧ x < 256) (h4 : 4 ≤ l.length) (hlc : l.length ≤ c) (hlm : c ≤ maxLen) :
    Calls Tryd.prog 32 #[.int .i64 5, .slice A l.length c] w (TakePost w 5 l (rKind 5 l)) := by
  unfold maxLen at hlm
  obtain ⟨w1, hw1⟩ : ∃ w1, w1 = (w.alloc (.cells #[.int .i64 0, .int .u32 0, .slice none 0 0, .slice none 0 0] 35)).alloc (.cells #[.int .i64 5, .int .u32 0, .slice none 0 0, .slice none 0 0] 35) := ⟨_, rfl⟩
  have X1 : Only [] w w1 := by rw [hw1]; exact ((Only.refl _ _).alloc _).alloc _
  have hs1 : w1.heap.size = w.heap.size + 2 := by rw [hw1]; simp
  have KA : Blk w1 w.heap.size 35 [.int .i64 0, .int .u32 0, .slice none 0 0, .slice none 0 0] := by
    rw [hw1]
    exact (Blk.new w 35 [.int .i64 0, .int .u32 0, .slice none 0 0, .slice none 0 0]).alloc _
  have KB : Blk w1 (w.heap.size + 1) 35 [.int .i64 5, .int .u32 0, .slice none 0 0, .slice none 0 0] := by
    have := Blk.new (w.alloc (.cells #[.int .i64 0, .int .u32 0, .slice none 0 0, .slice none 0 0] 35)) 35 [.int .i64 5, .int .u32 0, .slice none 0 0, .slice none 0 0]
    rw [show (w.alloc (.cells #[.int .i64 0, .int .u32 0, .slice none 0 0, .slice none 0 0] 35)).heap.size = w.heap.size + 1 by simp] at this
    rw [hw1]
    exact this
  have NB := refNumber_any A l c w1 (h.only X1) h4 hl
  have hbe := be4_ok l hl
  obtain ⟨ln, hln⟩ : ∃ ln, l.length = ln := ⟨_, rfl⟩
  have i1 : ¬ (ln : Int) < 4 := by omega
  rw [show rKind 5 l = rNames l from rfl]
  have t6 := rText_six l h4
  have t3 := rText_three l h4
  have t0 := rText_is l h4
  obtain ⟨N, hN⟩ := Int.eq_ofNat_of_zero_le hbe.1
  rw [hN, Int.toNat_natCast] at t3 t0
  rw [hN] at NB hbe t6
  have hbe2 := hbe.2
  rw [hln] at NB t3 t0 hlc
  obtain ⟨r, hr⟩ : ∃ r, rNames l = r := ⟨_, rfl⟩
  rw [hr, hln]
  replace hN := hide hN
  by_cases h6 : (32768 : Int) < (N : Int)
  · have hre : r.e = 6 := by rw [← hr]; exact rNames_bad l 6 (t6 h6) (by decide)
    replace hre := hide hre
    replace hr := hide hr
    replace hln := hide hln
    clear t6 t3 t0
    go_enter Tryd.func32, Tryd.ntmps32
    go_wp2_with fail
    rw [← hw1]
    replace hw1 := hide hw1
    go_call NB as e w2 ⟨rfl, P2⟩
    have K0 := KA.only P2 (by simp)
    have K1 := KB.only P2 (by simp)
    have g0 : w2.cell? ⟨w.heap.size, 0, none⟩ = some (.int .i64 0) := K0.cell 0
    have f0 := K0.frozen 0
    have g1 : w2.cell? ⟨w.heap.size, 1, none⟩ = some (.int .u32 0) := K0.cell 1
    have f1 := K0.frozen 1
    have g2 : w2.cell? ⟨w.heap.size, 2, none⟩ = some (.slice none 0 0) := K0.cell 2
    have f2 := K0.frozen 2
    have g3 : w2.cell? ⟨w.heap.size, 3, none⟩ = some (.slice none 0 0) := K0.cell 3
    have f3 := K0.frozen 3
    have d0 : w2.cell? ⟨w.heap.size + 1, 0, none⟩ = some (.int .i64 5) := K1.cell 0
    have e0 := K1.frozen 0
    have d1 : w2.cell? ⟨w.heap.size + 1, 1, none⟩ = some (.int .u32 0) := K1.cell 1
    have e1 := K1.frozen 1
    have d2 : w2.cell? ⟨w.heap.size + 1, 2, none⟩ = some (.slice none 0 0) := K1.cell 2
    have e2 := K1.frozen 2
    have d3 : w2.cell? ⟨w.heap.size + 1, 3, none⟩ = some (.slice none 0 0) := K1.cell 3
    have e3 := K1.frozen 3
    go_wp2_with fail
    (try simp only [Exit.inBlock, Exit.then])
    refine ret_take (g := w.heap.size) (v0 := .int .i64 5) (v1 := .int .u32 0) (v2 := .slice none 0 0) (v3 := .slice none 0 0) rfl (by rfl) (by rfl) (W4.blk K0 _ _ _ _) ?_
    exact ⟨(X1.trans P2 (by simp)).trans (W4.only _ _ _ _ _ _) (fun x hx => .inr (by simp at hx; omega)), ⟨5, 0, none, 0, [], none, 0, []⟩, 0, by rw [hre.out]; rfl, fun h => by rw [hre.out] at h; cases h⟩
  have h6' : (N : Int) ≤ 32768 := by omega
  by_cases h3 : ln < 4 + N
  · have hre : r.e = 3 := by rw [← hr]; exact rNames_bad l 3 (t3 h6' h3) (by decide)
    have i2 : (ln : Int) - 4 < (N : Int) := by omega
    replace hre := hide hre
    replace hr := hide hr
    replace hln := hide hln
    replace h3 := hide h3
    replace h6' := hide h6'
    clear t6 t3 t0 hbe hbe2
    go_enter Tryd.func32, Tryd.ntmps32
    go_wp2_with fail
    rw [← hw1]
    replace hw1 := hide hw1
    go_call NB as e w2 ⟨rfl, P2⟩
    have K0 := KA.only P2 (by simp)
    have K1 := KB.only P2 (by simp)
    have g0 : w2.cell? ⟨w.heap.size, 0, none⟩ = some (.int .i64 0) := K0.cell 0
    have f0 := K0.frozen 0
    have g1 : w2.cell? ⟨w.heap.size, 1, none⟩ = some (.int .u32 0) := K0.cell 1
    have f1 := K0.frozen 1
    have g2 : w2.cell? ⟨w.heap.size, 2, none⟩ = some (.slice none 0 0) := K0.cell 2
    have f2 := K0.frozen 2
    have g3 : w2.cell? ⟨w.heap.size, 3, none⟩ = some (.slice none 0 0) := K0.cell 3
    have f3 := K0.frozen 3
    have d0 : w2.cell? ⟨w.heap.size + 1, 0, none⟩ = some (.int .i64 5) := K1.cell 0
    have e0 := K1.frozen 0
    have d1 : w2.cell? ⟨w.heap.size + 1, 1, none⟩ = some (.int .u32 0) := K1.cell 1
    have e1 := K1.frozen 1
    have d2 : w2.cell? ⟨w.heap.size + 1, 2, none⟩ = some (.slice none 0 0) := K1.cell 2
    have e2 := K1.frozen 2
    have d3 : w2.cell? ⟨w.heap.size + 1, 3, none⟩ = some (.slice none 0 0) := K1.cell 3
    have e3 := K1.frozen 3
    go_wp2_with fail
    (try simp only [Exit.inBlock, Exit.then])
    refine ret_take (g := w.heap.size) (v0 := .int .i64 5) (v1 := .int .u32 0) (v2 := .slice none 0 0) (v3 := .slice none 0 0) rfl (by rfl) (by rfl) (W4.blk K0 _ _ _ _) ?_
    exact ⟨(X1.trans P2 (by simp)).trans (W4.only _ _ _ _ _ _) (fun x hx => .inr (by simp at hx; omega)), ⟨5, 0, none, 0, [], none, 0, []⟩, 0, by rw [hre.out]; rfl, fun h => by rw [hre.out] at h; cases h⟩
  have i2 : ¬ (ln : Int) - 4 < (N : Int) := by omega
  have hT := t0 h6' (by omega)
  obtain ⟨tx, htx⟩ : ∃ tx, (l.drop 4).take N = tx := ⟨_, rfl⟩
  have htn : tx.length = N := by rw [← htx, List.length_take, List.length_drop, hln]; omega
  rw [htx] at hT
  have hwr : IntKind.u32.wrap (4 + (N : Int)) = 4 + (N : Int) := by rw [IntKind.wrap_u32]; omega
  have hmod : (4 + (N : Int)) % 4294967296 = 4 + (N : Int) := by omega
  have j0 : (4 : Int) ≤ 4 + (N : Int) := by omega
  have j1 : 4 + (N : Int) ≤ (c : Int) := by omega
  have RDX := fun (w' : World) (P : Only [] w w') => part_four (w := w') (A := A) (l := l) c N (h.only P) (by rw [hln]; omega) (by rw [hln]; exact hlc)
  replace RDX := hide RDX
  have hlB : ∀ x ∈ tx, 0 ≤ x ∧ x < 256 := fun x hx => hl x (by rw [← htx] at hx; exact List.mem_of_mem_drop (List.mem_of_mem_take hx))
  replace hlB := hide hlB
  replace htx := hide htx
  replace htn := hide htn
  replace hT := hide hT
  replace hr := hide hr
  have hln2 : 4 + N ≤ ln := by omega
  replace hln2 := hide hln2
  have hN5 : N ≤ 32768 := by omega
  replace hN5 := hide hN5
  replace hln := hide hln
  clear t6 t3 t0 h3 h6' hbe hbe2
  go_enter Tryd.func32, Tryd.ntmps32
  go_wp2_with fail
  rw [← hw1]
  replace hw1 := hide hw1
  go_call NB as e w2 ⟨rfl, P2⟩
  have K0 := KA.only P2 (by simp)
  have K1 := KB.only P2 (by simp)
  have z2 := P2.size
  have X2 := X1.trans P2 (by simp)
  obtain ⟨A9, c9, hc9, R9⟩ := RDX.out w2 X2
  rw [htx.out] at R9
  have SP := refSplit_any A9 tx c9 w2 R9 hlB.out (by have := htn.out; have := hN5.out; omega)
  rw [htn.out] at SP
  obtain ⟨sr, hsr⟩ : ∃ sr, splitR tx = sr := ⟨_, rfl⟩
  rw [hsr] at SP
  obtain ⟨SE, SL⟩ := sr
  have hee : r.e = SE ∧ (SE = 0 → r = ⟨0, 0, [], SL, l.drop (4 + N)⟩) := by
    have h1 := hr.out
    unfold rNames at h1
    rw [hT.out] at h1
    unfold rNamesT at h1
    rw [if_neg (by simp)] at h1
    dsimp only at h1
    unfold splitR at hsr
    by_cases hx : tx = []
    · rw [if_pos hx] at h1 hsr
      injection hsr with e1 e2
      subst e1; subst e2
      rw [← h1]
      exact ⟨rfl, fun _ => rfl⟩
    · rw [if_neg hx] at h1 hsr
      by_cases hb : namesBad (pieces (strOfNums tx)) = 0
      · rw [if_pos hb] at hsr
        injection hsr with e1 e2
        subst e1; subst e2
        rw [← h1]
        exact ⟨hb, fun _ => by rw [hb]⟩
      · rw [if_neg hb] at hsr
        injection hsr with e1 e2
        subst e1
        rw [← h1]
        exact ⟨rfl, fun h0 => absurd h0 hb⟩
  have hss : ∀ s ∈ SL, s.size ≤ maxLen := by
    intro s hs
    have h1 : s ∈ pieces (strOfNums tx) := by
      unfold splitR at hsr
      by_cases hx : tx = []
      · rw [if_pos hx] at hsr
        injection hsr with e1 e2
        rw [← e2] at hs
        simp at hs
      · rw [if_neg hx] at hsr
        by_cases hb : namesBad (pieces (strOfNums tx)) = 0
        · rw [if_pos hb] at hsr
          injection hsr with e1 e2
          rw [e2]; exact hs
        · rw [if_neg hb] at hsr
          injection hsr with e1 e2
          rw [← e2] at hs
          simp at hs
    have h2 : s.data.toList ∈ cutL (strOfNums tx).data.toList := by rw [← pieces_data]; exact List.mem_map_of_mem h1
    have h3 := cutL_len _ _ h2
    have h4 := bsOf_len tx
    unfold bsOf at h4
    have h5 : s.size = s.data.toList.length := by simp
    have := htn.out
    have := hN5.out
    unfold maxLen
    omega
  replace hee := hide hee
  replace hss := hide hss
  replace hsr := hide hsr
  rcases hc9 with ⟨hc9, rfl, rfl⟩ | ⟨hc9, rfl, rfl⟩
  all_goals (
    (try rw [map_four] at SP)
    go_wp2_with fail
    go_call SP as e w8 ⟨P8, v8, rfl, V8⟩
    obtain ⟨A8, k8, rfl, R8, q8, m8, a8⟩ := V8.rd
    have KK0 := K0.only P8 (by simp)
    have KK1 := K1.only P8 (by simp)
    have z8 := P8.size
    dsimp only at V8 ⊢
    have g0 : w8.cell? ⟨w.heap.size, 0, none⟩ = some (.int .i64 0) := KK0.cell 0
    have f0 := KK0.frozen 0
    have g1 : w8.cell? ⟨w.heap.size, 1, none⟩ = some (.int .u32 0) := KK0.cell 1
    have f1 := KK0.frozen 1
    have g2 : w8.cell? ⟨w.heap.size, 2, none⟩ = some (.slice none 0 0) := KK0.cell 2
    have f2 := KK0.frozen 2
    have g3 : w8.cell? ⟨w.heap.size, 3, none⟩ = some (.slice none 0 0) := KK0.cell 3
    have f3 := KK0.frozen 3
    have d0 : w8.cell? ⟨w.heap.size + 1, 0, none⟩ = some (.int .i64 5) := KK1.cell 0
    have e0 := KK1.frozen 0
    have d1 : w8.cell? ⟨w.heap.size + 1, 1, none⟩ = some (.int .u32 0) := KK1.cell 1
    have e1 := KK1.frozen 1
    have d2 : w8.cell? ⟨w.heap.size + 1, 2, none⟩ = some (.slice none 0 0) := KK1.cell 2
    have e2 := KK1.frozen 2
    have d3 : w8.cell? ⟨w.heap.size + 1, 3, none⟩ = some (.slice none 0 0) := KK1.cell 3
    have e3 := KK1.frozen 3
    go_wp2_with fail
    (try simp only [Exit.inBlock, Exit.then])
    have Y1 : Only [w.heap.size + 1] w8 (w8.setCell ⟨w.heap.size + 1, 3, none⟩ (.slice A8 SL.length k8)) := (Only.refl _ _).setCell (p := ⟨w.heap.size + 1, 3, none⟩) (.inl (by simp)) _
    have Y4 := W4.only (w8.setCell ⟨w.heap.size + 1, 3, none⟩ (.slice A8 SL.length k8)) w.heap.size (.int .i64 5) (.int .u32 0) (.slice none 0 0) (.slice A8 SL.length k8)
    have B4 := W4.blk (KK0.only Y1 (by simp)) (.int .i64 5) (.int .u32 0) (.slice none 0 0) (.slice A8 SL.length k8)
    have Y : Only [w.heap.size, w.heap.size + 1] w8 (W4 (w8.setCell ⟨w.heap.size + 1, 3, none⟩ (.slice A8 SL.length k8)) w.heap.size (.int .i64 5) (.int .u32 0) (.slice none 0 0) (.slice A8 SL.length k8)) := (Y1.mono (by simp)).trans Y4 (fun x hx => .inl (by simp at hx; simp [hx]))
    refine ret_take (g := w.heap.size) (v0 := .int .i64 5) (v1 := .int .u32 0) (v2 := .slice none 0 0) (v3 := .slice A8 SL.length k8) rfl (by rfl) (by rfl) B4 ?_
    refine ⟨(X2.trans P8 (by simp)).trans Y (fun x hx => .inr (by simp at hx; omega)), ⟨5, 0, none, 0, [], A8, k8, SL⟩, 4 + N, ?_, fun h0 => ?_⟩
    · show Ending.returned (.tuple #[.agg #[.int .i64 5, .int .u32 0, .slice none 0 0, .slice A8 SL.length k8], .int .i64 (4 + (N : Int)), .int .i64 SE]) = Ending.returned (.tuple #[.agg #[.int .i64 5, .int .u32 0, .slice none 0 0, .slice A8 SL.length k8], .int .i64 ((4 + N : Nat) : Int), .int .i64 r.e])
      rw [hee.out.1, Int.natCast_add]
      rfl
    · have hrr := hee.out.2 (by rw [← hee.out.1]; exact h0)
      rw [hrr]
      exact ⟨rfl, by have := hln.out; have := hln2.out; omega, rfl, mine_list V8 Y (fun x hx => by simp at hx; omega) (by omega) hss.out⟩)

/-- take, of any kind that may be. -/
theorem take_any (k : Int) (h1 : 1 ≤ k) (h6 : k ≤ 6) (A : Option Addr) (l : List Int) (c : Nat) (w : World) (h : Rd w A l) (hl : ∀ x ∈ l, 0 ≤ x ∧ x < 256) (hlen : l.length ≤ 140737488355000) (hlc : l.length ≤ c) (hlm : c ≤ maxLen) :
    Calls Tryd.prog 32 #[.int .i64 k, .slice A l.length c] w (TakePost w k l (rKind k.toNat l)) := by
  by_cases h12 : k = 1 ∨ k = 2
  · exact take_octet k h12 A l c w h hl hlen
  by_cases h66 : k = 6
  · subst h66
    exact take_rest A l c w h hlen
  by_cases h4 : l.length < 4
  · exact refTake_short k (by omega) A l c w h4
  have hk : k = 3 ∨ k = 4 ∨ k = 5 := by omega
  rcases hk with rfl | rfl | rfl
  · exact take_number A l c w h hl (by omega)
  · exact refTake_text A l c w h hl (by omega) hlc hlm
  · exact refTake_names A l c w h hl (by omega) hlc hlm
end Go.Proofs.YtdmjabfjkkjhbaaDoor
