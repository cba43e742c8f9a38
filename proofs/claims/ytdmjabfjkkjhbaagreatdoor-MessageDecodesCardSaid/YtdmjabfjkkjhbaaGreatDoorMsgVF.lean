/- The document's answer for layer 3: Decode; no condition but the number of bytes. -/
import Derived.Test.YtdmjabfjkkjhbaaGreatDoorMsgV
namespace Go.Proofs.YtdmjabfjkkjhbaaGreatDoor
set_option linter.all false
open Go.RowKit

set_option maxRecDepth 100000 in
set_option maxHeartbeats 6400000 in
theorem rdec_k82 (A : Option Addr) (t : List Int) (c : Nat) (w : World) (h : Rd w A (82 :: t)) (hl : InB (82 :: t)) (hln : (82 :: t : List Int).length ≤ 140737488355000) (hlc : (82 :: t : List Int).length ≤ c) (hlm : c ≤ maxLen) :
    Calls Tryz.prog 13 #[.slice A (82 :: t : List Int).length c] w (RDecPost w (82 :: t)) := by
  obtain ⟨b, off, y, rfl, hb, hy, cx⟩ := RdG.at (mk := .int .u8) h 0 (by simp)
  simp at hy
  subst hy
  rw [Nat.add_zero] at cx
  obtain ⟨l, hll⟩ : ∃ l : List Int, (82 :: t) = l := ⟨_, rfl⟩
  have hk1 : l.head? = some 82 := by rw [← hll]; rfl
  rw [hll] at h hl hln hlc ⊢
  obtain ⟨ln, hn⟩ : ∃ ln, l.length = ln := ⟨_, rfl⟩
  have hn1 : 1 ≤ ln := by rw [← hn, ← hll]; simp
  have hn0 : ((ln : Int) == 0) = false := by simp; omega
  have hn00 : ln ≠ 0 := by omega
  obtain ⟨w1, hw1⟩ : ∃ w1, w1 = w.alloc (.cells #[.int .i64 0, .int .u32 0, .int .u32 0, .int .u32 0, .int .u32 0, .int .u32 0, .string ⟨#[]⟩, .string ⟨#[]⟩, .bool false, .slice none 0 0] 25) := ⟨_, rfl⟩
  have hz1 : w1.heap.size = w.heap.size + 1 := by rw [hw1]; simp
  obtain ⟨w2, hw2⟩ : ∃ w2, w2 = w1.alloc (.cells #[.int .i64 82, .int .u32 0, .int .u32 0, .int .u32 0, .int .u32 0, .int .u32 0, .string ⟨#[]⟩, .string ⟨#[]⟩, .bool false, .slice none 0 0] 25) := ⟨_, rfl⟩
  have O1 : Only [] w w1 := by rw [hw1]; exact (Only.refl _ _).alloc _
  have P12 : Only [] w1 w2 := by rw [hw2]; exact (Only.refl _ _).alloc _
  have O2 : Only [] w w2 := O1.trans P12 (by simp)
  have Z2 : Blk w2 w.heap.size 25 zeroM.cells := by rw [hw2, hw1]; exact (Blk.new w _ _).alloc _
  have M2 : Blk w2 (w.heap.size + 1) 25 (firstM 82).cells := by
    rw [← hz1, hw2]
    exact Blk.new w1 25 (firstM 82).cells
  have FA : Calls Tryz.prog 17 #[.agg #[.int .i64 82, .int .u32 0, .int .u32 0, .int .u32 0, .int .u32 0, .int .u32 0, .string ⟨#[]⟩, .string ⟨#[]⟩, .bool false, .slice none 0 0]] w2 (FieldsPost w2 (firstM 82)) := fields_any (firstM 82) w2 (first_ok _ _) (Nat.zero_le _) (Nat.zero_le _)
  unfold FieldsPost at FA
  rw [show rowL (firstM 82).kind = some [] from rfl] at FA
  rw [hn] at hln hlc ⊢
  replace hn := hide hn
  replace hll := hide hll
  replace hk1 := hide hk1
  go_enter Tryz.func13, Tryz.ntmps13
  go_wp2_with fail
  rw [← hw1, ← hw2]
  replace hw1 := hide hw1
  replace hw2 := hide hw2
  replace hz1 := hide hz1
  go_call FA as e w3 ⟨P3, A0, c0, fs0, rfl, RF0, hfs0, hc0, hm0⟩
  clear FA
  have O3 : Only [] w w3 := O2.trans P3 (by simp)
  have Z3 := Z2.only P3 (by simp)
  have M3 := M2.only P3 (by simp)
  have hl0 : fs0.length = 0 := by have := congrArg List.length hfs0; simpa using this
  have hkk0 : fs0.map (·.kind) = ([] : List Int) := by
    have := congrArg (List.map PF.kind) hfs0
    rw [List.map_map, List.map_map] at this
    exact this
  have V4 := ownI_one w3 1
  have X4 : Only [] w3 (w3.alloc (.cells #[.int .i64 1] 3)) := (Only.refl _ _).alloc _
  rw [hl0] at hc0 ⊢
  replace hl0 := hide hl0
  replace hfs0 := hide hfs0
  replace hkk0 := hide hkk0
  go_wp2_with fail
  go_loopw [32, 7] (fun i o wr => ∃ (kk : Nat) (v : Value), kk ≤ 0 ∧ i = .int .i64 kk ∧ v = o ∧ OwnI wr w3.heap.size v (1 :: (fs0.take kk).map (·.kind)) ∧ Only [] w3 wr) (fun i _ _ => 0 - (intOf i).toNat)
  case atStart => exact ⟨0, _, by omega, rfl, rfl, V4, X4⟩
  case round =>
    obtain ⟨wo, rfl⟩ : ∃ wo : World, wo = wr := ⟨_, rfl⟩
    obtain ⟨kk, v, hkn, rfl, rfl, V, O⟩ := hrel
    have hob := V.block
    have z0 := O.size
    by_cases hlt : kk < 0
    · exact absurd hlt (by omega)
    · obtain rfl : kk = 0 := by omega
      have V' : OwnI wo w3.heap.size v [1] := by
        have e : (1 :: (fs0.take 0).map (·.kind)) = [1] := by rw [List.take_of_length_le (by have := hl0.out; omega), hkk0.out]
        rw [← e]; exact V
      obtain ⟨kA, kc, rfl, RK, _, _, _⟩ := V'.rd
      have Oo : Only [] w wo := O3.trans O (by simp)
      have RR := refRead_any wo kA (some ⟨b, off, none⟩) [1] l kc c RK (h.only Oo) hl (by decide) (by have := hn.out; omega) (by have := hn.out; omega) hlm
      rw [hn.out] at RR
      have RR' : Calls Tryz.prog 21 #[.slice kA 1 kc, .slice (some ⟨b, off, none⟩) ln c] wo (RefReadPost wo (readP [1] l)) := RR
      obtain ⟨E, hE⟩ : ∃ E, (readP [1] l).1 = E := ⟨_, rfl⟩
      have hgood := readP_good [1] l hl
      have hdec : ∀ (M : MD) (E' : Int), (if (readP [1] l).1 ≠ 0 then E' = (readP [1] l).1 ∧ M = zeroM
          else ∃ fs : List FD, fs.map FD.pf = (readP [1] l).2 ∧ if fitsP (putAll (firstM 82) [] fs.tail) then E' = 0 ∧ M = putAll (firstM 82) [] fs.tail else E' = 4 ∧ M = zeroM) → DecIs l M E' := fun M E' hx => by
        rw [← hll.out] at hx ⊢
        exact hx
      rw [hE] at hgood
      replace hE := hide hE
      replace hgood := hide hgood
      replace hdec := hide hdec
      have Zo := Z3.only O (by simp)
      have Mo := M3.only O (by simp)
      clear V V' RR RK
      go_wp2_with fail
      go_call RR' as e w5 ⟨P5, A5, k5, fs, rfl, hfs, V5, M5⟩
      clear RR'
      have O5 : Only [] w w5 := Oo.trans P5 (by simp)
      have Z5 := Zo.only P5 (by simp)
      have K5 := Mo.only P5 (by simp)
      rw [hE.out]
      by_cases hE0 : E = 0
      · subst hE0
        obtain ⟨g1, g2⟩ := hgood.out rfl
        rw [← hfs] at g1 g2
        have hfl : fs.length = 1 := by have := congrArg List.length g1; simpa using this
        obtain ⟨f0, rfl⟩ : ∃ f0, fs = [f0] := by
          match fs, hfl with
          | [f0], _ => exact ⟨f0, rfl⟩
        obtain ⟨A', cap, eA, hcle, hcmx, hF⟩ := V5.form
        injection eA with eA1 eA2 eA3
        subst eA1
        subst eA3
        obtain ⟨bF, rfl, hbase, hbF, hcF⟩ := hF (by simp)
        have hcap : 1 ≤ k5 := hcle
        have hbw : w.heap.size + 1 < bF := by have := Mo.lt; have := P5.size; have : wo.heap.size ≤ bF := hbase; omega
        have hne4 : ¬ w.heap.size + 1 = bF := by omega
        have hne5 : ¬ bF = w.heap.size + 1 := by omega
        have hne6 : ¬ w.heap.size = bF := by omega
        have hne7 : ¬ bF = w.heap.size := by omega
        obtain ⟨M, hM⟩ : ∃ M, putAll (firstM 82) [] ([] : List FD) = M := ⟨_, rfl⟩
        have okM : M.ok w5 := by rw [← hM]; exact first_ok w5 82
        have s0 : w5.cell? ⟨w.heap.size + 1, 0, none⟩ = some (.int .i64 82) := K5.cell 0
        have s1 : w5.cell? ⟨w.heap.size + 1, 1, none⟩ = some (.int .u32 0) := K5.cell 1
        have s2 : w5.cell? ⟨w.heap.size + 1, 2, none⟩ = some (.int .u32 0) := K5.cell 2
        have s3 : w5.cell? ⟨w.heap.size + 1, 3, none⟩ = some (.int .u32 0) := K5.cell 3
        have s4 : w5.cell? ⟨w.heap.size + 1, 4, none⟩ = some (.int .u32 0) := K5.cell 4
        have s5 : w5.cell? ⟨w.heap.size + 1, 5, none⟩ = some (.int .u32 0) := K5.cell 5
        have s6 : w5.cell? ⟨w.heap.size + 1, 6, none⟩ = some (.string ⟨#[]⟩) := K5.cell 6
        have s7 : w5.cell? ⟨w.heap.size + 1, 7, none⟩ = some (.string ⟨#[]⟩) := K5.cell 7
        have s8 : w5.cell? ⟨w.heap.size + 1, 8, none⟩ = some (.bool false) := K5.cell 8
        have s9 : w5.cell? ⟨w.heap.size + 1, 9, none⟩ = some (.slice none 0 0) := K5.cell 9
        by_cases hc1 : k5 = 1
        · obtain ⟨w6, hw6⟩ : ∃ w6, w6 = w5 := ⟨_, rfl⟩
          have K6 : Blk w6 (w.heap.size + 1) 25 M.cells := by rw [hw6, ← hM]; exact K5
          have Z6 : Blk w6 w.heap.size 25 zeroM.cells := by rw [hw6]; exact Z5
          have O6 : Only [] w w6 := by rw [hw6]; exact O5
          have okM6 : M.ok w6 := by rw [hw6]; exact okM
          have WD := refWords_any M w6 okM.name okM.lang
          obtain ⟨bf, hbf⟩ : ∃ bf, fitsP M = bf := ⟨_, rfl⟩
          rw [hbf] at WD
          unfold MD.val at WD
          replace WD : Calls Tryz.prog 18 #[.agg #[.int .i64 82, .int .u32 0, .int .u32 0, .int .u32 0, .int .u32 0, .int .u32 0, .string ⟨#[]⟩, .string ⟨#[]⟩, .bool false, .slice none 0 0]] w6 (fun e w' => e = .returned (.bool bf) ∧ Only [] w6 w') := by rw [← hM] at WD; exact WD
          replace hM := hide hM
          replace hfs := hide hfs
          replace hbf := hide hbf
          go_wp2_with fail
          rw [← hw6]
          replace hw6 := hide hw6
          go_call WD as e w7 ⟨rfl, P7⟩
          clear s0
          have K7 := K6.only P7 (by simp)
          have Z7 := Z6.only P7 (by simp)
          have O7 : Only [] w w7 := O6.trans P7 (by simp)
          have okM7 : M.ok w7 := okM6.only P7
          have hlt7 := Z7.lt
          have hlk7 := K7.lt
          have hq1 : ¬ w.heap.size = w.heap.size + 1 := by omega
          have hq2 : ¬ w.heap.size + 1 = w.heap.size := by omega
          have z0 : w7.cell? ⟨w.heap.size, 0, none⟩ = some (.int .i64 0) := Z7.cell 0
          have y0 := Z7.frozen 0
          have z1 : w7.cell? ⟨w.heap.size, 1, none⟩ = some (.int .u32 0) := Z7.cell 1
          have y1 := Z7.frozen 1
          have z2 : w7.cell? ⟨w.heap.size, 2, none⟩ = some (.int .u32 0) := Z7.cell 2
          have y2 := Z7.frozen 2
          have z3 : w7.cell? ⟨w.heap.size, 3, none⟩ = some (.int .u32 0) := Z7.cell 3
          have y3 := Z7.frozen 3
          have z4 : w7.cell? ⟨w.heap.size, 4, none⟩ = some (.int .u32 0) := Z7.cell 4
          have y4 := Z7.frozen 4
          have z5 : w7.cell? ⟨w.heap.size, 5, none⟩ = some (.int .u32 0) := Z7.cell 5
          have y5 := Z7.frozen 5
          have z6 : w7.cell? ⟨w.heap.size, 6, none⟩ = some (.string ⟨#[]⟩) := Z7.cell 6
          have y6 := Z7.frozen 6
          have z7 : w7.cell? ⟨w.heap.size, 7, none⟩ = some (.string ⟨#[]⟩) := Z7.cell 7
          have y7 := Z7.frozen 7
          have z8 : w7.cell? ⟨w.heap.size, 8, none⟩ = some (.bool false) := Z7.cell 8
          have y8 := Z7.frozen 8
          have z9 : w7.cell? ⟨w.heap.size, 9, none⟩ = some (.slice none 0 0) := Z7.cell 9
          have y9 := Z7.frozen 9
          cases bf with
          | false =>
            go_wp2_with fail
            (try simp only [Exit.inBlock, Exit.then])
            refine ret_dec (g := w.heap.size) (m := zeroM) rfl (by rfl) (by rfl) (zsetB Z7) ?_
            refine ⟨zsetO (Nat.le_refl _) O7, zeroM, 4, rfl, zero_ok _, hdec.out _ _ ?_⟩
            rw [hE.out, if_neg (by simp)]
            refine ⟨_, hfs.out, ?_⟩
            show if fitsP (putAll (firstM 82) [] []) then _ else _
            rw [hM.out, hbf.out, if_neg (by simp)]
            exact ⟨rfl, rfl⟩
          | true =>
            have a0 : w7.cell? ⟨w.heap.size + 1, 0, none⟩ = some (.int .i64 M.kind) := K7.cell 0
            have a1 : w7.cell? ⟨w.heap.size + 1, 1, none⟩ = some (.int .u32 M.chan) := K7.cell 1
            have a2 : w7.cell? ⟨w.heap.size + 1, 2, none⟩ = some (.int .u32 M.sender) := K7.cell 2
            have a3 : w7.cell? ⟨w.heap.size + 1, 3, none⟩ = some (.int .u32 M.window) := K7.cell 3
            have a4 : w7.cell? ⟨w.heap.size + 1, 4, none⟩ = some (.int .u32 M.packet) := K7.cell 4
            have a5 : w7.cell? ⟨w.heap.size + 1, 5, none⟩ = some (.int .u32 M.code) := K7.cell 5
            have a6 : w7.cell? ⟨w.heap.size + 1, 6, none⟩ = some (.string M.name) := K7.cell 6
            have a7 : w7.cell? ⟨w.heap.size + 1, 7, none⟩ = some (.string M.lang) := K7.cell 7
            have a8 : w7.cell? ⟨w.heap.size + 1, 8, none⟩ = some (.bool M.want) := K7.cell 8
            have a9 : w7.cell? ⟨w.heap.size + 1, 9, none⟩ = some (.slice M.dA M.data.length M.dc) := K7.cell 9
            go_wp2_with fail
            (try simp only [Exit.inBlock, Exit.then])
            refine ret_dec (g := w.heap.size) (m := M) rfl (by rfl) (by rfl) (msetB M Z7) ?_
            refine ⟨msetO M (.inr (Nat.le_refl _)) O7, M, 0, rfl, okM7.onlyN (q := w.heap.size) (msetO M (.inl (by simp)) (Only.refl _ _)) (fun a ha h0 => far_msg Z7 okM7.data h0 a ha), hdec.out _ _ ?_⟩
            rw [hE.out, if_neg (by simp)]
            refine ⟨_, hfs.out, ?_⟩
            show if fitsP (putAll (firstM 82) [] []) then _ else _
            rw [hM.out, hbf.out, if_pos rfl]
            exact ⟨rfl, hM.out.symm⟩
        · obtain ⟨w6, hw6⟩ : ∃ w6, w6 = w5 := ⟨_, rfl⟩
          have K6 : Blk w6 (w.heap.size + 1) 25 M.cells := by rw [hw6, ← hM]; exact K5
          have Z6 : Blk w6 w.heap.size 25 zeroM.cells := by rw [hw6]; exact Z5
          have O6 : Only [] w w6 := by rw [hw6]; exact O5
          have okM6 : M.ok w6 := by rw [hw6]; exact okM
          have WD := refWords_any M w6 okM.name okM.lang
          obtain ⟨bf, hbf⟩ : ∃ bf, fitsP M = bf := ⟨_, rfl⟩
          rw [hbf] at WD
          unfold MD.val at WD
          replace WD : Calls Tryz.prog 18 #[.agg #[.int .i64 82, .int .u32 0, .int .u32 0, .int .u32 0, .int .u32 0, .int .u32 0, .string ⟨#[]⟩, .string ⟨#[]⟩, .bool false, .slice none 0 0]] w6 (fun e w' => e = .returned (.bool bf) ∧ Only [] w6 w') := by rw [← hM] at WD; exact WD
          replace hM := hide hM
          replace hfs := hide hfs
          replace hbf := hide hbf
          go_wp2_with fail
          rw [← hw6]
          replace hw6 := hide hw6
          go_call WD as e w7 ⟨rfl, P7⟩
          clear s0
          have K7 := K6.only P7 (by simp)
          have Z7 := Z6.only P7 (by simp)
          have O7 : Only [] w w7 := O6.trans P7 (by simp)
          have okM7 : M.ok w7 := okM6.only P7
          have hlt7 := Z7.lt
          have hlk7 := K7.lt
          have hq1 : ¬ w.heap.size = w.heap.size + 1 := by omega
          have hq2 : ¬ w.heap.size + 1 = w.heap.size := by omega
          have z0 : w7.cell? ⟨w.heap.size, 0, none⟩ = some (.int .i64 0) := Z7.cell 0
          have y0 := Z7.frozen 0
          have z1 : w7.cell? ⟨w.heap.size, 1, none⟩ = some (.int .u32 0) := Z7.cell 1
          have y1 := Z7.frozen 1
          have z2 : w7.cell? ⟨w.heap.size, 2, none⟩ = some (.int .u32 0) := Z7.cell 2
          have y2 := Z7.frozen 2
          have z3 : w7.cell? ⟨w.heap.size, 3, none⟩ = some (.int .u32 0) := Z7.cell 3
          have y3 := Z7.frozen 3
          have z4 : w7.cell? ⟨w.heap.size, 4, none⟩ = some (.int .u32 0) := Z7.cell 4
          have y4 := Z7.frozen 4
          have z5 : w7.cell? ⟨w.heap.size, 5, none⟩ = some (.int .u32 0) := Z7.cell 5
          have y5 := Z7.frozen 5
          have z6 : w7.cell? ⟨w.heap.size, 6, none⟩ = some (.string ⟨#[]⟩) := Z7.cell 6
          have y6 := Z7.frozen 6
          have z7 : w7.cell? ⟨w.heap.size, 7, none⟩ = some (.string ⟨#[]⟩) := Z7.cell 7
          have y7 := Z7.frozen 7
          have z8 : w7.cell? ⟨w.heap.size, 8, none⟩ = some (.bool false) := Z7.cell 8
          have y8 := Z7.frozen 8
          have z9 : w7.cell? ⟨w.heap.size, 9, none⟩ = some (.slice none 0 0) := Z7.cell 9
          have y9 := Z7.frozen 9
          cases bf with
          | false =>
            go_wp2_with fail
            (try simp only [Exit.inBlock, Exit.then])
            refine ret_dec (g := w.heap.size) (m := zeroM) rfl (by rfl) (by rfl) (zsetB Z7) ?_
            refine ⟨zsetO (Nat.le_refl _) O7, zeroM, 4, rfl, zero_ok _, hdec.out _ _ ?_⟩
            rw [hE.out, if_neg (by simp)]
            refine ⟨_, hfs.out, ?_⟩
            show if fitsP (putAll (firstM 82) [] []) then _ else _
            rw [hM.out, hbf.out, if_neg (by simp)]
            exact ⟨rfl, rfl⟩
          | true =>
            have a0 : w7.cell? ⟨w.heap.size + 1, 0, none⟩ = some (.int .i64 M.kind) := K7.cell 0
            have a1 : w7.cell? ⟨w.heap.size + 1, 1, none⟩ = some (.int .u32 M.chan) := K7.cell 1
            have a2 : w7.cell? ⟨w.heap.size + 1, 2, none⟩ = some (.int .u32 M.sender) := K7.cell 2
            have a3 : w7.cell? ⟨w.heap.size + 1, 3, none⟩ = some (.int .u32 M.window) := K7.cell 3
            have a4 : w7.cell? ⟨w.heap.size + 1, 4, none⟩ = some (.int .u32 M.packet) := K7.cell 4
            have a5 : w7.cell? ⟨w.heap.size + 1, 5, none⟩ = some (.int .u32 M.code) := K7.cell 5
            have a6 : w7.cell? ⟨w.heap.size + 1, 6, none⟩ = some (.string M.name) := K7.cell 6
            have a7 : w7.cell? ⟨w.heap.size + 1, 7, none⟩ = some (.string M.lang) := K7.cell 7
            have a8 : w7.cell? ⟨w.heap.size + 1, 8, none⟩ = some (.bool M.want) := K7.cell 8
            have a9 : w7.cell? ⟨w.heap.size + 1, 9, none⟩ = some (.slice M.dA M.data.length M.dc) := K7.cell 9
            go_wp2_with fail
            (try simp only [Exit.inBlock, Exit.then])
            refine ret_dec (g := w.heap.size) (m := M) rfl (by rfl) (by rfl) (msetB M Z7) ?_
            refine ⟨msetO M (.inr (Nat.le_refl _)) O7, M, 0, rfl, okM7.onlyN (q := w.heap.size) (msetO M (.inl (by simp)) (Only.refl _ _)) (fun a ha h0 => far_msg Z7 okM7.data h0 a ha), hdec.out _ _ ?_⟩
            rw [hE.out, if_neg (by simp)]
            refine ⟨_, hfs.out, ?_⟩
            show if fitsP (putAll (firstM 82) [] []) then _ else _
            rw [hM.out, hbf.out, if_pos rfl]
            exact ⟨rfl, hM.out.symm⟩
      · replace hfs := hide hfs
        have z0 : w5.cell? ⟨w.heap.size, 0, none⟩ = some (.int .i64 0) := Z5.cell 0
        have y0 := Z5.frozen 0
        have z1 : w5.cell? ⟨w.heap.size, 1, none⟩ = some (.int .u32 0) := Z5.cell 1
        have y1 := Z5.frozen 1
        have z2 : w5.cell? ⟨w.heap.size, 2, none⟩ = some (.int .u32 0) := Z5.cell 2
        have y2 := Z5.frozen 2
        have z3 : w5.cell? ⟨w.heap.size, 3, none⟩ = some (.int .u32 0) := Z5.cell 3
        have y3 := Z5.frozen 3
        have z4 : w5.cell? ⟨w.heap.size, 4, none⟩ = some (.int .u32 0) := Z5.cell 4
        have y4 := Z5.frozen 4
        have z5 : w5.cell? ⟨w.heap.size, 5, none⟩ = some (.int .u32 0) := Z5.cell 5
        have y5 := Z5.frozen 5
        have z6 : w5.cell? ⟨w.heap.size, 6, none⟩ = some (.string ⟨#[]⟩) := Z5.cell 6
        have y6 := Z5.frozen 6
        have z7 : w5.cell? ⟨w.heap.size, 7, none⟩ = some (.string ⟨#[]⟩) := Z5.cell 7
        have y7 := Z5.frozen 7
        have z8 : w5.cell? ⟨w.heap.size, 8, none⟩ = some (.bool false) := Z5.cell 8
        have y8 := Z5.frozen 8
        have z9 : w5.cell? ⟨w.heap.size, 9, none⟩ = some (.slice none 0 0) := Z5.cell 9
        have y9 := Z5.frozen 9
        go_wp2_with fail
        (try simp only [Exit.inBlock, Exit.then])
        refine ret_dec (g := w.heap.size) (m := zeroM) rfl (by rfl) (by rfl) (zsetB Z5) ?_
        exact ⟨zsetO (Nat.le_refl _) O5, zeroM, E, rfl, zero_ok _, hdec.out _ _ (by rw [hE.out, if_pos hE0]; exact ⟨rfl, rfl⟩)⟩
end Go.Proofs.YtdmjabfjkkjhbaaGreatDoor
