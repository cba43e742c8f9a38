/- The law MessageKinds: by the kind; no condition. -/
import Derived.Test.YtdmjabfjkkjhbaaDoorMsgM
import Derived.Test.YtdmjabfjkkjhbaaDoorOpenM
import Derived.Test.YtdmjabfjkkjhbaaDoorFrameC
namespace Go.Proofs.YtdmjabfjkkjhbaaDoor
set_option linter.all false
open Go.ChangeShapes Go.WideShapes Go.ChangeAt Go.RowKit Go.Deep

set_option maxRecDepth 100000 in
set_option maxHeartbeats 6400000 in
theorem kinds_other (m : MD) (cut : Int) (i0 : Int) (w : World) (k : Int) (q0 : 80 ≤ k) (q1 : ¬ k ≤ 82) (q2 : 90 ≤ k) (q3 : k ≤ 100) (q4 : k ≠ 90) (q5 : k ≠ 91) (q6 : k ≠ 98) (hm : w.cell? ⟨0, 0, none⟩ = some (.int .i64 i0)) (ok : m.ok w) (hcut : 0 ≤ cut ∧ cut < 65536) :
    Calls Tryd.prog 10 #[m.val, .int .u8 k, .int .u16 cut] w fun e w' => e = .returned (.bool true) ∧ Below w.heap.size w w' := by
  obtain ⟨w1, hw1⟩ : ∃ w1, w1 = w.alloc (.cells #[.int .i64 m.kind, .int .u32 m.chan, .int .u32 m.sender, .int .u32 m.window, .int .u32 m.packet, .int .u32 m.code, .string m.name, .string m.lang, .bool m.want, .slice m.dA m.data.length m.dc] 47) := ⟨_, rfl⟩
  have P1 : Only [] w w1 := by rw [hw1]; exact (Only.refl _ _).alloc _
  have K1 : Blk w1 w.heap.size 47 m.cells := by rw [hw1]; exact Blk.new w _ _
  have h0 : 0 < w.heap.size := Nat.pos_of_ne_zero (fun e => by
    have := block_lt_of_cell hm
    simp only at this
    omega)
  have AL := alive03 w1 i0 (cellL P1 h0 (by simp) hm)
  have e1 : (k == 1) = false := by simp; omega
  have e80 : (k == 80) = false := by simp; omega
  have e81 : (k == 81) = false := by simp; omega
  have e90 : (k == 90) = false := by simp; omega
  have e91 : (k == 91) = false := by simp; omega
  have e98 : (k == 98) = false := by simp; omega
  have hrow : ∃ js, rowL k = some js := by
    have : k = 92 ∨ k = 93 ∨ k = 94 ∨ k = 95 ∨ k = 96 ∨ k = 97 ∨ k = 99 ∨ k = 100 := by omega
    rcases this with rfl | rfl | rfl | rfl | rfl | rfl | rfl | rfl <;> exact ⟨_, rfl⟩
  obtain ⟨js, hrow⟩ := hrow
  have hw8 : IntKind.i64.wrap k = k := IntWalk.i64_in _ (by omega)
  unfold MD.val
  go_enter Tryd.func10, Tryd.ntmps10
  go_wp2_with fail
  rw [← hw1]
  replace hw1 := hide hw1
  go_call AL as e w2 ⟨rfl, P2⟩
  clear AL
  have O2 : Only [] w w2 := P1.trans P2 (by simp)
  have K2 := K1.only P2 (by simp)
  have GR := mgreat_any m w2
  unfold MD.val at GR
  have a0 : w2.cell? ⟨w.heap.size, 0, none⟩ = some (.int .i64 m.kind) := K2.cell 0
  have a1 : w2.cell? ⟨w.heap.size, 1, none⟩ = some (.int .u32 m.chan) := K2.cell 1
  have a2 : w2.cell? ⟨w.heap.size, 2, none⟩ = some (.int .u32 m.sender) := K2.cell 2
  have a3 : w2.cell? ⟨w.heap.size, 3, none⟩ = some (.int .u32 m.window) := K2.cell 3
  have a4 : w2.cell? ⟨w.heap.size, 4, none⟩ = some (.int .u32 m.packet) := K2.cell 4
  have a5 : w2.cell? ⟨w.heap.size, 5, none⟩ = some (.int .u32 m.code) := K2.cell 5
  have a6 : w2.cell? ⟨w.heap.size, 6, none⟩ = some (.string m.name) := K2.cell 6
  have a7 : w2.cell? ⟨w.heap.size, 7, none⟩ = some (.string m.lang) := K2.cell 7
  have a8 : w2.cell? ⟨w.heap.size, 8, none⟩ = some (.bool m.want) := K2.cell 8
  have a9 : w2.cell? ⟨w.heap.size, 9, none⟩ = some (.slice m.dA m.data.length m.dc) := K2.cell 9
  go_wp2_with fail
  go_call GR as e w3 ⟨P3, b, rfl, hb⟩
  clear GR
  clear a0 a1 a2 a3 a4 a5 a6 a7 a8 a9
  have O3 : Only [] w w3 := O2.trans P3 (by simp)
  have K3 := K2.only P3 (by simp)
  cases b with
  | true =>
    clear hb
    go_wp2_with fail
    go_ret
    exact ⟨rfl, O3.below (Nat.le_refl _) (by simp)⟩
  | false =>
    obtain ⟨g1, g2, g3⟩ := hb rfl
    obtain ⟨wa, hwa⟩ : ∃ wa, wa = w3.alloc (.cells #[.int .u8 k] 5) := ⟨_, rfl⟩
    have Pa : Only [] w3 wa := by rw [hwa]; exact (Only.refl _ _).alloc _
    have D1 := decode_is (some ⟨w3.heap.size, 0, none⟩) [k] 1 i0 wa (cellL (O3.trans Pa (by simp)) h0 (by simp) hm) (by rw [hwa]; exact rd_mark w3 _ (0, 0) [k] rfl) (by simp; (try omega)) (by simp) (by simp) (by simp [maxLen]) (fun a ha => by simp at ha; subst ha; rw [hwa]; simp)
    go_wp2_with fail
    rw [← hwa]
    replace hwa := hide hwa
    go_call D1 as e w4 ⟨P4, x, E, rfl, okx, _, hD⟩
    clear D1
    have P34 : Only [] w3 w4 := Pa.trans P4 (by simp)
    have h8 := dec_8 hD
    have hE8 : (E == 8) = false := by simp; exact fun e => by have := h8.1 e; rw [hrow] at this; cases this
    clear hD okx
    replace h8 := hide h8
    have K4 := K3.only P34 (by simp)
    have a0 : w4.cell? ⟨w.heap.size, 0, none⟩ = some (.int .i64 m.kind) := K4.cell 0
    have a1 : w4.cell? ⟨w.heap.size, 1, none⟩ = some (.int .u32 m.chan) := K4.cell 1
    have a2 : w4.cell? ⟨w.heap.size, 2, none⟩ = some (.int .u32 m.sender) := K4.cell 2
    have a3 : w4.cell? ⟨w.heap.size, 3, none⟩ = some (.int .u32 m.window) := K4.cell 3
    have a4 : w4.cell? ⟨w.heap.size, 4, none⟩ = some (.int .u32 m.packet) := K4.cell 4
    have a5 : w4.cell? ⟨w.heap.size, 5, none⟩ = some (.int .u32 m.code) := K4.cell 5
    have a6 : w4.cell? ⟨w.heap.size, 6, none⟩ = some (.string m.name) := K4.cell 6
    have a7 : w4.cell? ⟨w.heap.size, 7, none⟩ = some (.string m.lang) := K4.cell 7
    have a8 : w4.cell? ⟨w.heap.size, 8, none⟩ = some (.bool m.want) := K4.cell 8
    have a9 : w4.cell? ⟨w.heap.size, 9, none⟩ = some (.slice m.dA m.data.length m.dc) := K4.cell 9
    have f0 := K4.frozen 0
    have hlt := K4.lt
    have hne : ¬ w.heap.size = w4.heap.size := by omega
    have hne2 : ¬ w4.heap.size = w.heap.size := by omega
    unfold MD.val
    go_wp2_with fail
    obtain ⟨w5, hw5⟩ : ∃ w5, w5 = (w4.setCell ⟨w.heap.size, 0, none⟩ (.int .i64 k)).alloc (.cells #[.int .i64 x.kind, .int .u32 x.chan, .int .u32 x.sender, .int .u32 x.window, .int .u32 x.packet, .int .u32 x.code, .string x.name, .string x.lang, .bool x.want, .slice x.dA x.data.length x.dc] 47) := ⟨_, rfl⟩
    rw [← hw5]
    have O5 : Only [] w w5 := by rw [hw5]; exact (((O3.trans P34 (by simp)).setCell (p := ⟨w.heap.size, 0, none⟩) (.inr (Nat.le_refl _)) _).alloc _)
    obtain ⟨m2, hm2⟩ : ∃ m2 : MD, m2 = { m with kind := k } := ⟨_, rfl⟩
    have K5 : Blk w5 w.heap.size 47 m2.cells := by rw [hw5, hm2]; exact (K4.set_ 0 (.int .i64 k)).alloc _
    have ok5 : m2.ok w5 := by rw [hm2]; exact { ok.only O5 with }
    have hk2 : m2.kind = k := by rw [hm2]
    have ag : (.agg #[.int .i64 k, .int .u32 m.chan, .int .u32 m.sender, .int .u32 m.window, .int .u32 m.packet, .int .u32 m.code, .string m.name, .string m.lang, .bool m.want, .slice m.dA m.data.length m.dc] : Value) = m2.val := by rw [hm2]; rfl
    have EN := encode_any m2 w5 ok5 (by rw [hm2]; dsimp only; omega) (by rw [hm2]; dsimp only; omega)
    have e8 := enc_8 m2
    rw [hk2] at e8
    obtain ⟨F, hF⟩ : ∃ F, (encP m2).1 = F := ⟨_, rfl⟩
    obtain ⟨l, hl⟩ : ∃ l, (encP m2).2 = l := ⟨_, rfl⟩
    have hp : encP m2 = (F, l) := by rw [← hF, ← hl]
    rw [hp] at EN
    rw [hF] at e8
    have hF8 : (F == 8) = false := by simp; exact fun e => by have := e8.1 e; rw [hrow] at this; cases this
    replace hm2 := hide hm2
    replace hw5 := hide hw5
    replace e8 := hide e8
    replace hF := hide hF
    replace hl := hide hl
    replace hp := hide hp
    clear a0 a1 a2 a3 a4 a5 a6 a7 a8 a9
    clear hlt hne hne2 f0
    rw [ag]
    go_call EN as e w6 ⟨P6, v, rfl, V⟩
    clear EN ag
    have O6 : Only [] w w6 := O5.trans P6 (by simp)
    have K6 := K5.only P6 (by simp)
    have hvb := V.block
    obtain ⟨A1, k1, rfl, R1, q1, m1, a1⟩ := V.rd
    clear V
    dsimp only at R1 q1 hvb ⊢
    by_cases hz : F = 0
    · subst hz
      have hz := hF.out
      obtain ⟨hlen, t, ht⟩ := enc_len hz
      have hin := enc_inb ok5
      rw [hl.out] at hlen ht hin
      obtain ⟨ln, hn⟩ : ∃ ln, l.length = ln := ⟨_, rfl⟩
      have hn1 : 1 ≤ ln := by rw [← hn, ht]; simp
      rw [hn] at hlen q1 ⊢
      have hnz : ln ≠ 0 := by omega
      have hnz2 : ((ln : Int) == 0) = false := by simp; omega
      have hr0 : 0 ≤ cut % (ln : Int) := Int.emod_nonneg _ (by omega)
      have hr1 : cut % (ln : Int) < ln := Int.emod_lt_of_pos _ (by omega)
      obtain ⟨kk, hkk⟩ : ∃ kk : Nat, 1 + cut % (ln : Int) = kk := ⟨(1 + cut % (ln : Int)).toNat, by omega⟩
      have hk1 : 1 ≤ kk := by omega
      have hkl : kk ≤ ln := by omega
      have hwr : wrap64 (1 + cut % (ln : Int)) = kk := by rw [hkk]; exact IntWalk.wrap64_in _ (by omega)
      have hmin : min (kk : Int) (ln : Int) = kk := by omega
      have htk : (l.take kk).length = kk := by rw [List.length_take]; omega
      have DC := decode_is A1 (l.take kk) k1 i0 w6 (cellL O6 h0 (by simp) hm) (Rd.take R1 kk) (hin.take kk) (by omega) (by omega) m1 (fun a ha => (hvb a.block (by rw [ha]; rfl)).2)
      rw [htk] at DC
      replace hn := hide hn
      replace ht := hide ht
      replace hin := hide hin
      have hkc : kk ≤ k1 := by omega
      replace hkk := hide hkk
      replace htk := hide htk

      clear hr0 hr1
      go_wp2_with fail
      (try rw [hwr, hmin, Int.toNat_natCast])
      go_call DC as e w7 ⟨P7, x2, D, rfl, _, _, hD2⟩
      clear DC
      have O7 : Only [] w w7 := O6.trans P7 (by simp)
      have OZ : Only [] w (w7.alloc (.cells #[.int .i64 x2.kind, .int .u32 x2.chan, .int .u32 x2.sender, .int .u32 x2.window, .int .u32 x2.packet, .int .u32 x2.code, .string x2.name, .string x2.lang, .bool x2.want, .slice x2.dA x2.data.length x2.dc] 47)) := O7.alloc _
      by_cases hkn : kk = ln
      · subst hkn
        have hD0 : D = 0 := by
          rw [List.take_of_length_le (by have := hn.out; omega), ← hl.out] at hD2
          exact (mback_law ok5.nums hz hD2).1
        subst hD0
        clear hD2
        unfold MD.val
        go_wp2_with fail
        go_ret
        exact ⟨rfl, OZ.below (Nat.le_refl _) (by simp)⟩
      · have hlt : (kk : Int) < (ln : Int) := by omega
        have hge : ¬ (ln : Int) ≤ (kk : Int) := by omega
        have hgn : ¬ ln ≤ kk := by omega
        have hln : kk < ln := by omega
        have hD3 : D = 3 := by
          rw [← hl.out] at hD2
          refine cut_law ok5.nums hz hk1 (by rw [hl.out, hn.out]; exact hln) (by rw [hk2]; omega) hD2
        subst hD3
        clear hD2
        unfold MD.val
        go_wp2_with fail
        go_ret
        exact ⟨rfl, OZ.below (Nat.le_refl _) (by simp)⟩
    · go_wp2_with fail
      go_ret
      exact ⟨rfl, O6.below (Nat.le_refl _) (by simp)⟩

set_option maxRecDepth 100000 in
set_option maxHeartbeats 6400000 in
theorem kinds_low (m : MD) (cut : Int) (i0 : Int) (w : World) (k : Int) (q0 : 0 ≤ k) (q1 : k < 80) (q2 : k ≠ 1) (q3 : ¬ 80 ≤ k) (q4 : ¬ 90 ≤ k) (hm : w.cell? ⟨0, 0, none⟩ = some (.int .i64 i0)) (ok : m.ok w) (hcut : 0 ≤ cut ∧ cut < 65536) :
    Calls Tryd.prog 10 #[m.val, .int .u8 k, .int .u16 cut] w fun e w' => e = .returned (.bool true) ∧ Below w.heap.size w w' := by
  obtain ⟨w1, hw1⟩ : ∃ w1, w1 = w.alloc (.cells #[.int .i64 m.kind, .int .u32 m.chan, .int .u32 m.sender, .int .u32 m.window, .int .u32 m.packet, .int .u32 m.code, .string m.name, .string m.lang, .bool m.want, .slice m.dA m.data.length m.dc] 47) := ⟨_, rfl⟩
  have P1 : Only [] w w1 := by rw [hw1]; exact (Only.refl _ _).alloc _
  have K1 : Blk w1 w.heap.size 47 m.cells := by rw [hw1]; exact Blk.new w _ _
  have h0 : 0 < w.heap.size := Nat.pos_of_ne_zero (fun e => by
    have := block_lt_of_cell hm
    simp only at this
    omega)
  have AL := alive03 w1 i0 (cellL P1 h0 (by simp) hm)
  have e1 : (k == 1) = false := by simp; omega
  have hrow : rowL k = none := by
    unfold rowL
    rw [if_neg (by omega)]
    rw [if_neg (by omega)]
    rw [if_neg (by omega)]
    rw [if_neg (by omega)]
    rw [if_neg (by omega)]
    rw [if_neg (by omega)]
    rw [if_neg (by omega)]
    rw [if_neg (by omega)]
    rw [if_neg (by omega)]
    rw [if_neg (by omega)]
    rw [if_neg (by omega)]
    rw [if_neg (by omega)]
    rw [if_neg (by omega)]
    rw [if_neg (by omega)]
    rw [if_neg (by omega)]
  have hw8 : IntKind.i64.wrap k = k := IntWalk.i64_in _ (by omega)
  unfold MD.val
  go_enter Tryd.func10, Tryd.ntmps10
  go_wp2_with fail
  rw [← hw1]
  replace hw1 := hide hw1
  go_call AL as e w2 ⟨rfl, P2⟩
  clear AL
  have O2 : Only [] w w2 := P1.trans P2 (by simp)
  have K2 := K1.only P2 (by simp)
  have GR := mgreat_any m w2
  unfold MD.val at GR
  have a0 : w2.cell? ⟨w.heap.size, 0, none⟩ = some (.int .i64 m.kind) := K2.cell 0
  have a1 : w2.cell? ⟨w.heap.size, 1, none⟩ = some (.int .u32 m.chan) := K2.cell 1
  have a2 : w2.cell? ⟨w.heap.size, 2, none⟩ = some (.int .u32 m.sender) := K2.cell 2
  have a3 : w2.cell? ⟨w.heap.size, 3, none⟩ = some (.int .u32 m.window) := K2.cell 3
  have a4 : w2.cell? ⟨w.heap.size, 4, none⟩ = some (.int .u32 m.packet) := K2.cell 4
  have a5 : w2.cell? ⟨w.heap.size, 5, none⟩ = some (.int .u32 m.code) := K2.cell 5
  have a6 : w2.cell? ⟨w.heap.size, 6, none⟩ = some (.string m.name) := K2.cell 6
  have a7 : w2.cell? ⟨w.heap.size, 7, none⟩ = some (.string m.lang) := K2.cell 7
  have a8 : w2.cell? ⟨w.heap.size, 8, none⟩ = some (.bool m.want) := K2.cell 8
  have a9 : w2.cell? ⟨w.heap.size, 9, none⟩ = some (.slice m.dA m.data.length m.dc) := K2.cell 9
  go_wp2_with fail
  go_call GR as e w3 ⟨P3, b, rfl, hb⟩
  clear GR
  clear a0 a1 a2 a3 a4 a5 a6 a7 a8 a9
  have O3 : Only [] w w3 := O2.trans P3 (by simp)
  have K3 := K2.only P3 (by simp)
  cases b with
  | true =>
    clear hb
    go_wp2_with fail
    go_ret
    exact ⟨rfl, O3.below (Nat.le_refl _) (by simp)⟩
  | false =>
    obtain ⟨g1, g2, g3⟩ := hb rfl
    obtain ⟨wa, hwa⟩ : ∃ wa, wa = w3.alloc (.cells #[.int .u8 k] 5) := ⟨_, rfl⟩
    have Pa : Only [] w3 wa := by rw [hwa]; exact (Only.refl _ _).alloc _
    have D1 := decode_is (some ⟨w3.heap.size, 0, none⟩) [k] 1 i0 wa (cellL (O3.trans Pa (by simp)) h0 (by simp) hm) (by rw [hwa]; exact rd_mark w3 _ (0, 0) [k] rfl) (by simp; (try omega)) (by simp) (by simp) (by simp [maxLen]) (fun a ha => by simp at ha; subst ha; rw [hwa]; simp)
    go_wp2_with fail
    rw [← hwa]
    replace hwa := hide hwa
    go_call D1 as e w4 ⟨P4, x, E, rfl, okx, _, hD⟩
    clear D1
    have P34 : Only [] w3 w4 := Pa.trans P4 (by simp)
    have h8 := dec_8 hD
    have hE8 : (E == 8) = true := by simp; exact h8.2 hrow
    clear hD okx
    replace h8 := hide h8
    have K4 := K3.only P34 (by simp)
    have a0 : w4.cell? ⟨w.heap.size, 0, none⟩ = some (.int .i64 m.kind) := K4.cell 0
    have a1 : w4.cell? ⟨w.heap.size, 1, none⟩ = some (.int .u32 m.chan) := K4.cell 1
    have a2 : w4.cell? ⟨w.heap.size, 2, none⟩ = some (.int .u32 m.sender) := K4.cell 2
    have a3 : w4.cell? ⟨w.heap.size, 3, none⟩ = some (.int .u32 m.window) := K4.cell 3
    have a4 : w4.cell? ⟨w.heap.size, 4, none⟩ = some (.int .u32 m.packet) := K4.cell 4
    have a5 : w4.cell? ⟨w.heap.size, 5, none⟩ = some (.int .u32 m.code) := K4.cell 5
    have a6 : w4.cell? ⟨w.heap.size, 6, none⟩ = some (.string m.name) := K4.cell 6
    have a7 : w4.cell? ⟨w.heap.size, 7, none⟩ = some (.string m.lang) := K4.cell 7
    have a8 : w4.cell? ⟨w.heap.size, 8, none⟩ = some (.bool m.want) := K4.cell 8
    have a9 : w4.cell? ⟨w.heap.size, 9, none⟩ = some (.slice m.dA m.data.length m.dc) := K4.cell 9
    have f0 := K4.frozen 0
    have hlt := K4.lt
    have hne : ¬ w.heap.size = w4.heap.size := by omega
    have hne2 : ¬ w4.heap.size = w.heap.size := by omega
    unfold MD.val
    go_wp2_with fail
    obtain ⟨w5, hw5⟩ : ∃ w5, w5 = (w4.setCell ⟨w.heap.size, 0, none⟩ (.int .i64 k)).alloc (.cells #[.int .i64 x.kind, .int .u32 x.chan, .int .u32 x.sender, .int .u32 x.window, .int .u32 x.packet, .int .u32 x.code, .string x.name, .string x.lang, .bool x.want, .slice x.dA x.data.length x.dc] 47) := ⟨_, rfl⟩
    rw [← hw5]
    have O5 : Only [] w w5 := by rw [hw5]; exact (((O3.trans P34 (by simp)).setCell (p := ⟨w.heap.size, 0, none⟩) (.inr (Nat.le_refl _)) _).alloc _)
    obtain ⟨m2, hm2⟩ : ∃ m2 : MD, m2 = { m with kind := k } := ⟨_, rfl⟩
    have K5 : Blk w5 w.heap.size 47 m2.cells := by rw [hw5, hm2]; exact (K4.set_ 0 (.int .i64 k)).alloc _
    have ok5 : m2.ok w5 := by rw [hm2]; exact { ok.only O5 with }
    have hk2 : m2.kind = k := by rw [hm2]
    have ag : (.agg #[.int .i64 k, .int .u32 m.chan, .int .u32 m.sender, .int .u32 m.window, .int .u32 m.packet, .int .u32 m.code, .string m.name, .string m.lang, .bool m.want, .slice m.dA m.data.length m.dc] : Value) = m2.val := by rw [hm2]; rfl
    have EN := encode_any m2 w5 ok5 (by rw [hm2]; dsimp only; omega) (by rw [hm2]; dsimp only; omega)
    have e8 := enc_8 m2
    rw [hk2] at e8
    obtain ⟨F, hF⟩ : ∃ F, (encP m2).1 = F := ⟨_, rfl⟩
    obtain ⟨l, hl⟩ : ∃ l, (encP m2).2 = l := ⟨_, rfl⟩
    have hp : encP m2 = (F, l) := by rw [← hF, ← hl]
    rw [hp] at EN
    rw [hF] at e8
    have hF8 : (F == 8) = true := by simp; exact e8.2 hrow
    replace hm2 := hide hm2
    replace hw5 := hide hw5
    replace e8 := hide e8
    replace hF := hide hF
    replace hl := hide hl
    replace hp := hide hp
    clear a0 a1 a2 a3 a4 a5 a6 a7 a8 a9
    clear hlt hne hne2 f0
    rw [ag]
    go_call EN as e w6 ⟨P6, v, rfl, V⟩
    clear EN ag
    have O6 : Only [] w w6 := O5.trans P6 (by simp)
    have K6 := K5.only P6 (by simp)
    have hvb := V.block
    obtain ⟨A1, k1, rfl, R1, q1, m1, a1⟩ := V.rd
    clear V
    dsimp only at R1 q1 hvb ⊢
    have hz : ¬ F = 0 := by
      have : F = 8 := by simpa using hF8
      omega
    go_wp2_with fail
    go_ret
    exact ⟨rfl, O6.below (Nat.le_refl _) (by simp)⟩

set_option maxRecDepth 100000 in
set_option maxHeartbeats 6400000 in
theorem kinds_mid (m : MD) (cut : Int) (i0 : Int) (w : World) (k : Int) (q0 : 82 < k) (q1 : k < 90) (q2 : 80 ≤ k) (q3 : ¬ k ≤ 82) (q4 : ¬ 90 ≤ k) (hm : w.cell? ⟨0, 0, none⟩ = some (.int .i64 i0)) (ok : m.ok w) (hcut : 0 ≤ cut ∧ cut < 65536) :
    Calls Tryd.prog 10 #[m.val, .int .u8 k, .int .u16 cut] w fun e w' => e = .returned (.bool true) ∧ Below w.heap.size w w' := by
  obtain ⟨w1, hw1⟩ : ∃ w1, w1 = w.alloc (.cells #[.int .i64 m.kind, .int .u32 m.chan, .int .u32 m.sender, .int .u32 m.window, .int .u32 m.packet, .int .u32 m.code, .string m.name, .string m.lang, .bool m.want, .slice m.dA m.data.length m.dc] 47) := ⟨_, rfl⟩
  have P1 : Only [] w w1 := by rw [hw1]; exact (Only.refl _ _).alloc _
  have K1 : Blk w1 w.heap.size 47 m.cells := by rw [hw1]; exact Blk.new w _ _
  have h0 : 0 < w.heap.size := Nat.pos_of_ne_zero (fun e => by
    have := block_lt_of_cell hm
    simp only at this
    omega)
  have AL := alive03 w1 i0 (cellL P1 h0 (by simp) hm)
  have e1 : (k == 1) = false := by simp; omega
  have hrow : rowL k = none := by
    unfold rowL
    rw [if_neg (by omega)]
    rw [if_neg (by omega)]
    rw [if_neg (by omega)]
    rw [if_neg (by omega)]
    rw [if_neg (by omega)]
    rw [if_neg (by omega)]
    rw [if_neg (by omega)]
    rw [if_neg (by omega)]
    rw [if_neg (by omega)]
    rw [if_neg (by omega)]
    rw [if_neg (by omega)]
    rw [if_neg (by omega)]
    rw [if_neg (by omega)]
    rw [if_neg (by omega)]
    rw [if_neg (by omega)]
  have hw8 : IntKind.i64.wrap k = k := IntWalk.i64_in _ (by omega)
  unfold MD.val
  go_enter Tryd.func10, Tryd.ntmps10
  go_wp2_with fail
  rw [← hw1]
  replace hw1 := hide hw1
  go_call AL as e w2 ⟨rfl, P2⟩
  clear AL
  have O2 : Only [] w w2 := P1.trans P2 (by simp)
  have K2 := K1.only P2 (by simp)
  have GR := mgreat_any m w2
  unfold MD.val at GR
  have a0 : w2.cell? ⟨w.heap.size, 0, none⟩ = some (.int .i64 m.kind) := K2.cell 0
  have a1 : w2.cell? ⟨w.heap.size, 1, none⟩ = some (.int .u32 m.chan) := K2.cell 1
  have a2 : w2.cell? ⟨w.heap.size, 2, none⟩ = some (.int .u32 m.sender) := K2.cell 2
  have a3 : w2.cell? ⟨w.heap.size, 3, none⟩ = some (.int .u32 m.window) := K2.cell 3
  have a4 : w2.cell? ⟨w.heap.size, 4, none⟩ = some (.int .u32 m.packet) := K2.cell 4
  have a5 : w2.cell? ⟨w.heap.size, 5, none⟩ = some (.int .u32 m.code) := K2.cell 5
  have a6 : w2.cell? ⟨w.heap.size, 6, none⟩ = some (.string m.name) := K2.cell 6
  have a7 : w2.cell? ⟨w.heap.size, 7, none⟩ = some (.string m.lang) := K2.cell 7
  have a8 : w2.cell? ⟨w.heap.size, 8, none⟩ = some (.bool m.want) := K2.cell 8
  have a9 : w2.cell? ⟨w.heap.size, 9, none⟩ = some (.slice m.dA m.data.length m.dc) := K2.cell 9
  go_wp2_with fail
  go_call GR as e w3 ⟨P3, b, rfl, hb⟩
  clear GR
  clear a0 a1 a2 a3 a4 a5 a6 a7 a8 a9
  have O3 : Only [] w w3 := O2.trans P3 (by simp)
  have K3 := K2.only P3 (by simp)
  cases b with
  | true =>
    clear hb
    go_wp2_with fail
    go_ret
    exact ⟨rfl, O3.below (Nat.le_refl _) (by simp)⟩
  | false =>
    obtain ⟨g1, g2, g3⟩ := hb rfl
    obtain ⟨wa, hwa⟩ : ∃ wa, wa = w3.alloc (.cells #[.int .u8 k] 5) := ⟨_, rfl⟩
    have Pa : Only [] w3 wa := by rw [hwa]; exact (Only.refl _ _).alloc _
    have D1 := decode_is (some ⟨w3.heap.size, 0, none⟩) [k] 1 i0 wa (cellL (O3.trans Pa (by simp)) h0 (by simp) hm) (by rw [hwa]; exact rd_mark w3 _ (0, 0) [k] rfl) (by simp; (try omega)) (by simp) (by simp) (by simp [maxLen]) (fun a ha => by simp at ha; subst ha; rw [hwa]; simp)
    go_wp2_with fail
    rw [← hwa]
    replace hwa := hide hwa
    go_call D1 as e w4 ⟨P4, x, E, rfl, okx, _, hD⟩
    clear D1
    have P34 : Only [] w3 w4 := Pa.trans P4 (by simp)
    have h8 := dec_8 hD
    have hE8 : (E == 8) = true := by simp; exact h8.2 hrow
    clear hD okx
    replace h8 := hide h8
    have K4 := K3.only P34 (by simp)
    have a0 : w4.cell? ⟨w.heap.size, 0, none⟩ = some (.int .i64 m.kind) := K4.cell 0
    have a1 : w4.cell? ⟨w.heap.size, 1, none⟩ = some (.int .u32 m.chan) := K4.cell 1
    have a2 : w4.cell? ⟨w.heap.size, 2, none⟩ = some (.int .u32 m.sender) := K4.cell 2
    have a3 : w4.cell? ⟨w.heap.size, 3, none⟩ = some (.int .u32 m.window) := K4.cell 3
    have a4 : w4.cell? ⟨w.heap.size, 4, none⟩ = some (.int .u32 m.packet) := K4.cell 4
    have a5 : w4.cell? ⟨w.heap.size, 5, none⟩ = some (.int .u32 m.code) := K4.cell 5
    have a6 : w4.cell? ⟨w.heap.size, 6, none⟩ = some (.string m.name) := K4.cell 6
    have a7 : w4.cell? ⟨w.heap.size, 7, none⟩ = some (.string m.lang) := K4.cell 7
    have a8 : w4.cell? ⟨w.heap.size, 8, none⟩ = some (.bool m.want) := K4.cell 8
    have a9 : w4.cell? ⟨w.heap.size, 9, none⟩ = some (.slice m.dA m.data.length m.dc) := K4.cell 9
    have f0 := K4.frozen 0
    have hlt := K4.lt
    have hne : ¬ w.heap.size = w4.heap.size := by omega
    have hne2 : ¬ w4.heap.size = w.heap.size := by omega
    unfold MD.val
    go_wp2_with fail
    obtain ⟨w5, hw5⟩ : ∃ w5, w5 = (w4.setCell ⟨w.heap.size, 0, none⟩ (.int .i64 k)).alloc (.cells #[.int .i64 x.kind, .int .u32 x.chan, .int .u32 x.sender, .int .u32 x.window, .int .u32 x.packet, .int .u32 x.code, .string x.name, .string x.lang, .bool x.want, .slice x.dA x.data.length x.dc] 47) := ⟨_, rfl⟩
    rw [← hw5]
    have O5 : Only [] w w5 := by rw [hw5]; exact (((O3.trans P34 (by simp)).setCell (p := ⟨w.heap.size, 0, none⟩) (.inr (Nat.le_refl _)) _).alloc _)
    obtain ⟨m2, hm2⟩ : ∃ m2 : MD, m2 = { m with kind := k } := ⟨_, rfl⟩
    have K5 : Blk w5 w.heap.size 47 m2.cells := by rw [hw5, hm2]; exact (K4.set_ 0 (.int .i64 k)).alloc _
    have ok5 : m2.ok w5 := by rw [hm2]; exact { ok.only O5 with }
    have hk2 : m2.kind = k := by rw [hm2]
    have ag : (.agg #[.int .i64 k, .int .u32 m.chan, .int .u32 m.sender, .int .u32 m.window, .int .u32 m.packet, .int .u32 m.code, .string m.name, .string m.lang, .bool m.want, .slice m.dA m.data.length m.dc] : Value) = m2.val := by rw [hm2]; rfl
    have EN := encode_any m2 w5 ok5 (by rw [hm2]; dsimp only; omega) (by rw [hm2]; dsimp only; omega)
    have e8 := enc_8 m2
    rw [hk2] at e8
    obtain ⟨F, hF⟩ : ∃ F, (encP m2).1 = F := ⟨_, rfl⟩
    obtain ⟨l, hl⟩ : ∃ l, (encP m2).2 = l := ⟨_, rfl⟩
    have hp : encP m2 = (F, l) := by rw [← hF, ← hl]
    rw [hp] at EN
    rw [hF] at e8
    have hF8 : (F == 8) = true := by simp; exact e8.2 hrow
    replace hm2 := hide hm2
    replace hw5 := hide hw5
    replace e8 := hide e8
    replace hF := hide hF
    replace hl := hide hl
    replace hp := hide hp
    clear a0 a1 a2 a3 a4 a5 a6 a7 a8 a9
    clear hlt hne hne2 f0
    rw [ag]
    go_call EN as e w6 ⟨P6, v, rfl, V⟩
    clear EN ag
    have O6 : Only [] w w6 := O5.trans P6 (by simp)
    have K6 := K5.only P6 (by simp)
    have hvb := V.block
    obtain ⟨A1, k1, rfl, R1, q1, m1, a1⟩ := V.rd
    clear V
    dsimp only at R1 q1 hvb ⊢
    have hz : ¬ F = 0 := by
      have : F = 8 := by simpa using hF8
      omega
    go_wp2_with fail
    go_ret
    exact ⟨rfl, O6.below (Nat.le_refl _) (by simp)⟩

set_option maxRecDepth 100000 in
set_option maxHeartbeats 6400000 in
theorem kinds_high (m : MD) (cut : Int) (i0 : Int) (w : World) (k : Int) (q0 : 100 < k) (q1 : k < 256) (q2 : 80 ≤ k) (q3 : ¬ k ≤ 82) (q4 : 90 ≤ k) (q5 : ¬ k ≤ 100) (hm : w.cell? ⟨0, 0, none⟩ = some (.int .i64 i0)) (ok : m.ok w) (hcut : 0 ≤ cut ∧ cut < 65536) :
    Calls Tryd.prog 10 #[m.val, .int .u8 k, .int .u16 cut] w fun e w' => e = .returned (.bool true) ∧ Below w.heap.size w w' := by
  obtain ⟨w1, hw1⟩ : ∃ w1, w1 = w.alloc (.cells #[.int .i64 m.kind, .int .u32 m.chan, .int .u32 m.sender, .int .u32 m.window, .int .u32 m.packet, .int .u32 m.code, .string m.name, .string m.lang, .bool m.want, .slice m.dA m.data.length m.dc] 47) := ⟨_, rfl⟩
  have P1 : Only [] w w1 := by rw [hw1]; exact (Only.refl _ _).alloc _
  have K1 : Blk w1 w.heap.size 47 m.cells := by rw [hw1]; exact Blk.new w _ _
  have h0 : 0 < w.heap.size := Nat.pos_of_ne_zero (fun e => by
    have := block_lt_of_cell hm
    simp only at this
    omega)
  have AL := alive03 w1 i0 (cellL P1 h0 (by simp) hm)
  have e1 : (k == 1) = false := by simp; omega
  have hrow : rowL k = none := by
    unfold rowL
    rw [if_neg (by omega)]
    rw [if_neg (by omega)]
    rw [if_neg (by omega)]
    rw [if_neg (by omega)]
    rw [if_neg (by omega)]
    rw [if_neg (by omega)]
    rw [if_neg (by omega)]
    rw [if_neg (by omega)]
    rw [if_neg (by omega)]
    rw [if_neg (by omega)]
    rw [if_neg (by omega)]
    rw [if_neg (by omega)]
    rw [if_neg (by omega)]
    rw [if_neg (by omega)]
    rw [if_neg (by omega)]
  have hw8 : IntKind.i64.wrap k = k := IntWalk.i64_in _ (by omega)
  unfold MD.val
  go_enter Tryd.func10, Tryd.ntmps10
  go_wp2_with fail
  rw [← hw1]
  replace hw1 := hide hw1
  go_call AL as e w2 ⟨rfl, P2⟩
  clear AL
  have O2 : Only [] w w2 := P1.trans P2 (by simp)
  have K2 := K1.only P2 (by simp)
  have GR := mgreat_any m w2
  unfold MD.val at GR
  have a0 : w2.cell? ⟨w.heap.size, 0, none⟩ = some (.int .i64 m.kind) := K2.cell 0
  have a1 : w2.cell? ⟨w.heap.size, 1, none⟩ = some (.int .u32 m.chan) := K2.cell 1
  have a2 : w2.cell? ⟨w.heap.size, 2, none⟩ = some (.int .u32 m.sender) := K2.cell 2
  have a3 : w2.cell? ⟨w.heap.size, 3, none⟩ = some (.int .u32 m.window) := K2.cell 3
  have a4 : w2.cell? ⟨w.heap.size, 4, none⟩ = some (.int .u32 m.packet) := K2.cell 4
  have a5 : w2.cell? ⟨w.heap.size, 5, none⟩ = some (.int .u32 m.code) := K2.cell 5
  have a6 : w2.cell? ⟨w.heap.size, 6, none⟩ = some (.string m.name) := K2.cell 6
  have a7 : w2.cell? ⟨w.heap.size, 7, none⟩ = some (.string m.lang) := K2.cell 7
  have a8 : w2.cell? ⟨w.heap.size, 8, none⟩ = some (.bool m.want) := K2.cell 8
  have a9 : w2.cell? ⟨w.heap.size, 9, none⟩ = some (.slice m.dA m.data.length m.dc) := K2.cell 9
  go_wp2_with fail
  go_call GR as e w3 ⟨P3, b, rfl, hb⟩
  clear GR
  clear a0 a1 a2 a3 a4 a5 a6 a7 a8 a9
  have O3 : Only [] w w3 := O2.trans P3 (by simp)
  have K3 := K2.only P3 (by simp)
  cases b with
  | true =>
    clear hb
    go_wp2_with fail
    go_ret
    exact ⟨rfl, O3.below (Nat.le_refl _) (by simp)⟩
  | false =>
    obtain ⟨g1, g2, g3⟩ := hb rfl
    obtain ⟨wa, hwa⟩ : ∃ wa, wa = w3.alloc (.cells #[.int .u8 k] 5) := ⟨_, rfl⟩
    have Pa : Only [] w3 wa := by rw [hwa]; exact (Only.refl _ _).alloc _
    have D1 := decode_is (some ⟨w3.heap.size, 0, none⟩) [k] 1 i0 wa (cellL (O3.trans Pa (by simp)) h0 (by simp) hm) (by rw [hwa]; exact rd_mark w3 _ (0, 0) [k] rfl) (by simp; (try omega)) (by simp) (by simp) (by simp [maxLen]) (fun a ha => by simp at ha; subst ha; rw [hwa]; simp)
    go_wp2_with fail
    rw [← hwa]
    replace hwa := hide hwa
    go_call D1 as e w4 ⟨P4, x, E, rfl, okx, _, hD⟩
    clear D1
    have P34 : Only [] w3 w4 := Pa.trans P4 (by simp)
    have h8 := dec_8 hD
    have hE8 : (E == 8) = true := by simp; exact h8.2 hrow
    clear hD okx
    replace h8 := hide h8
    have K4 := K3.only P34 (by simp)
    have a0 : w4.cell? ⟨w.heap.size, 0, none⟩ = some (.int .i64 m.kind) := K4.cell 0
    have a1 : w4.cell? ⟨w.heap.size, 1, none⟩ = some (.int .u32 m.chan) := K4.cell 1
    have a2 : w4.cell? ⟨w.heap.size, 2, none⟩ = some (.int .u32 m.sender) := K4.cell 2
    have a3 : w4.cell? ⟨w.heap.size, 3, none⟩ = some (.int .u32 m.window) := K4.cell 3
    have a4 : w4.cell? ⟨w.heap.size, 4, none⟩ = some (.int .u32 m.packet) := K4.cell 4
    have a5 : w4.cell? ⟨w.heap.size, 5, none⟩ = some (.int .u32 m.code) := K4.cell 5
    have a6 : w4.cell? ⟨w.heap.size, 6, none⟩ = some (.string m.name) := K4.cell 6
    have a7 : w4.cell? ⟨w.heap.size, 7, none⟩ = some (.string m.lang) := K4.cell 7
    have a8 : w4.cell? ⟨w.heap.size, 8, none⟩ = some (.bool m.want) := K4.cell 8
    have a9 : w4.cell? ⟨w.heap.size, 9, none⟩ = some (.slice m.dA m.data.length m.dc) := K4.cell 9
    have f0 := K4.frozen 0
    have hlt := K4.lt
    have hne : ¬ w.heap.size = w4.heap.size := by omega
    have hne2 : ¬ w4.heap.size = w.heap.size := by omega
    unfold MD.val
    go_wp2_with fail
    obtain ⟨w5, hw5⟩ : ∃ w5, w5 = (w4.setCell ⟨w.heap.size, 0, none⟩ (.int .i64 k)).alloc (.cells #[.int .i64 x.kind, .int .u32 x.chan, .int .u32 x.sender, .int .u32 x.window, .int .u32 x.packet, .int .u32 x.code, .string x.name, .string x.lang, .bool x.want, .slice x.dA x.data.length x.dc] 47) := ⟨_, rfl⟩
    rw [← hw5]
    have O5 : Only [] w w5 := by rw [hw5]; exact (((O3.trans P34 (by simp)).setCell (p := ⟨w.heap.size, 0, none⟩) (.inr (Nat.le_refl _)) _).alloc _)
    obtain ⟨m2, hm2⟩ : ∃ m2 : MD, m2 = { m with kind := k } := ⟨_, rfl⟩
    have K5 : Blk w5 w.heap.size 47 m2.cells := by rw [hw5, hm2]; exact (K4.set_ 0 (.int .i64 k)).alloc _
    have ok5 : m2.ok w5 := by rw [hm2]; exact { ok.only O5 with }
    have hk2 : m2.kind = k := by rw [hm2]
    have ag : (.agg #[.int .i64 k, .int .u32 m.chan, .int .u32 m.sender, .int .u32 m.window, .int .u32 m.packet, .int .u32 m.code, .string m.name, .string m.lang, .bool m.want, .slice m.dA m.data.length m.dc] : Value) = m2.val := by rw [hm2]; rfl
    have EN := encode_any m2 w5 ok5 (by rw [hm2]; dsimp only; omega) (by rw [hm2]; dsimp only; omega)
    have e8 := enc_8 m2
    rw [hk2] at e8
    obtain ⟨F, hF⟩ : ∃ F, (encP m2).1 = F := ⟨_, rfl⟩
    obtain ⟨l, hl⟩ : ∃ l, (encP m2).2 = l := ⟨_, rfl⟩
    have hp : encP m2 = (F, l) := by rw [← hF, ← hl]
    rw [hp] at EN
    rw [hF] at e8
    have hF8 : (F == 8) = true := by simp; exact e8.2 hrow
    replace hm2 := hide hm2
    replace hw5 := hide hw5
    replace e8 := hide e8
    replace hF := hide hF
    replace hl := hide hl
    replace hp := hide hp
    clear a0 a1 a2 a3 a4 a5 a6 a7 a8 a9
    clear hlt hne hne2 f0
    rw [ag]
    go_call EN as e w6 ⟨P6, v, rfl, V⟩
    clear EN ag
    have O6 : Only [] w w6 := O5.trans P6 (by simp)
    have K6 := K5.only P6 (by simp)
    have hvb := V.block
    obtain ⟨A1, k1, rfl, R1, q1, m1, a1⟩ := V.rd
    clear V
    dsimp only at R1 q1 hvb ⊢
    have hz : ¬ F = 0 := by
      have : F = 8 := by simpa using hF8
      omega
    go_wp2_with fail
    go_ret
    exact ⟨rfl, O6.below (Nat.le_refl _) (by simp)⟩
end Go.Proofs.YtdmjabfjkkjhbaaDoor
