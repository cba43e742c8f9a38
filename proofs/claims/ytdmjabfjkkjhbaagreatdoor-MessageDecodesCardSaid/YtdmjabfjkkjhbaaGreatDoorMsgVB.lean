/- The document's answer for layer 3: Decode; no condition but the number of bytes. -/
import Derived.Test.YtdmjabfjkkjhbaaGreatDoorMsgV
namespace Go.Proofs.YtdmjabfjkkjhbaaGreatDoor
set_option linter.all false
open Go.RowKit

set_option maxRecDepth 100000 in
set_option maxHeartbeats 6400000 in
theorem rdec_k94 (A : Option Addr) (t : List Int) (c : Nat) (w : World) (h : Rd w A (94 :: t)) (hl : InB (94 :: t)) (hln : (94 :: t : List Int).length ≤ 140737488355000) (hlc : (94 :: t : List Int).length ≤ c) (hlm : c ≤ maxLen) :
    Calls Tryz.prog 13 #[.slice A (94 :: t : List Int).length c] w (RDecPost w (94 :: t)) := by
  obtain ⟨b, off, y, rfl, hb, hy, cx⟩ := RdG.at (mk := .int .u8) h 0 (by simp)
  simp at hy
  subst hy
  rw [Nat.add_zero] at cx
  obtain ⟨l, hll⟩ : ∃ l : List Int, (94 :: t) = l := ⟨_, rfl⟩
  have hk1 : l.head? = some 94 := by rw [← hll]; rfl
  rw [hll] at h hl hln hlc ⊢
  obtain ⟨ln, hn⟩ : ∃ ln, l.length = ln := ⟨_, rfl⟩
  have hn1 : 1 ≤ ln := by rw [← hn, ← hll]; simp
  have hn0 : ((ln : Int) == 0) = false := by simp; omega
  have hn00 : ln ≠ 0 := by omega
  obtain ⟨w1, hw1⟩ : ∃ w1, w1 = w.alloc (.cells #[.int .i64 0, .int .u32 0, .int .u32 0, .int .u32 0, .int .u32 0, .int .u32 0, .string ⟨#[]⟩, .string ⟨#[]⟩, .bool false, .slice none 0 0] 25) := ⟨_, rfl⟩
  have hz1 : w1.heap.size = w.heap.size + 1 := by rw [hw1]; simp
  obtain ⟨w2, hw2⟩ : ∃ w2, w2 = w1.alloc (.cells #[.int .i64 94, .int .u32 0, .int .u32 0, .int .u32 0, .int .u32 0, .int .u32 0, .string ⟨#[]⟩, .string ⟨#[]⟩, .bool false, .slice none 0 0] 25) := ⟨_, rfl⟩
  have O1 : Only [] w w1 := by rw [hw1]; exact (Only.refl _ _).alloc _
  have P12 : Only [] w1 w2 := by rw [hw2]; exact (Only.refl _ _).alloc _
  have O2 : Only [] w w2 := O1.trans P12 (by simp)
  have Z2 : Blk w2 w.heap.size 25 zeroM.cells := by rw [hw2, hw1]; exact (Blk.new w _ _).alloc _
  have M2 : Blk w2 (w.heap.size + 1) 25 (firstM 94).cells := by
    rw [← hz1, hw2]
    exact Blk.new w1 25 (firstM 94).cells
  have FA : Calls Tryz.prog 17 #[.agg #[.int .i64 94, .int .u32 0, .int .u32 0, .int .u32 0, .int .u32 0, .int .u32 0, .string ⟨#[]⟩, .string ⟨#[]⟩, .bool false, .slice none 0 0]] w2 (FieldsPost w2 (firstM 94)) := fields_any (firstM 94) w2 (first_ok _ _) (Nat.zero_le _) (Nat.zero_le _)
  unfold FieldsPost at FA
  rw [show rowL (firstM 94).kind = some [9, 1] from rfl] at FA
  rw [hn] at hln hlc ⊢
  replace hn := hide hn
  replace hll := hide hll
  replace hk1 := hide hk1
  go_enter Tryz.func13, Tryz.ntmps13
  go_wp2_with fail
  rw [← hw1, ← hw2]
  replace hw1 := hide hw1
  replace hw2 := hide hw2
  replace hz1 := hide hz1
  go_call FA as e w3 ⟨P3, A0, c0, fs0, rfl, RF0, hfs0, hc0, hm0⟩
  clear FA
  have O3 : Only [] w w3 := O2.trans P3 (by simp)
  have Z3 := Z2.only P3 (by simp)
  have M3 := M2.only P3 (by simp)
  have hl0 : fs0.length = 2 := by have := congrArg List.length hfs0; simpa using this
  have hkk0 : fs0.map (·.kind) = [3, 4] := by
    have := congrArg (List.map PF.kind) hfs0
    rw [List.map_map, List.map_map] at this
    exact this
  have V4 := ownI_one w3 1
  have X4 : Only [] w3 (w3.alloc (.cells #[.int .i64 1] 3)) := (Only.refl _ _).alloc _
  rw [hl0] at hc0 ⊢
  replace hl0 := hide hl0
  replace hfs0 := hide hfs0
  replace hkk0 := hide hkk0
  go_wp2_with fail
  go_loopw [32, 7] (fun i o wr => ∃ (kk : Nat) (v : Value), kk ≤ 2 ∧ i = .int .i64 kk ∧ v = o ∧ OwnI wr w3.heap.size v (1 :: (fs0.take kk).map (·.kind)) ∧ Only [] w3 wr) (fun i _ _ => 2 - (intOf i).toNat)
  case atStart => exact ⟨0, _, by omega, rfl, rfl, V4, X4⟩
  case round =>
    obtain ⟨wo, rfl⟩ : ∃ wo : World, wo = wr := ⟨_, rfl⟩
    obtain ⟨kk, v, hkn, rfl, rfl, V, O⟩ := hrel
    have hob := V.block
    have z0 := O.size
    by_cases hlt : kk < 2
    · obtain ⟨f, hf⟩ : ∃ f, fs0[kk]? = some f := ⟨_, List.getElem?_eq_getElem (by have := hl0.out; omega)⟩
      obtain ⟨bF, oF, rfl, hbF, hcF⟩ := (RF0.only O).cells (by have := hl0.out; omega)
      obtain ⟨c0', c1, c2, c3⟩ := hcF kk f hf
      have hks : (1 :: (fs0.take (kk + 1)).map (·.kind)) = (1 :: (fs0.take kk).map (·.kind)) ++ [f.kind] := by
        rw [take_snocG hf, List.map_append]
        rfl
      have hlk : (1 :: (fs0.take kk).map (·.kind)).length = kk + 1 := by rw [List.length_cons, List.length_map, List.length_take]; have := hl0.out; omega
      have X5 : Only [] wo ((wo.alloc (.cells #[.int .i64 f.kind, .int .u32 f.n, .slice f.tA f.text.length f.tc, .slice f.lA f.list.length f.lc] 49)).alloc (.cells #[.int .i64 f.kind] 3)) := ((Only.refl _ _).alloc _).alloc _
      have R5 : RdI ((wo.alloc (.cells #[.int .i64 f.kind, .int .u32 f.n, .slice f.tA f.text.length f.tc, .slice f.lA f.list.length f.lc] 49)).alloc (.cells #[.int .i64 f.kind] 3)) (some ⟨wo.heap.size + 1, 0, none⟩) [f.kind] := by
        have := rdI_new (wo.alloc (.cells #[.int .i64 f.kind, .int .u32 f.n, .slice f.tA f.text.length f.tc, .slice f.lA f.list.length f.lc] 49)) #[.int .i64 f.kind] [f.kind] rfl
        rw [show (wo.alloc (.cells #[.int .i64 f.kind, .int .u32 f.n, .slice f.tA f.text.length f.tc, .slice f.lA f.list.length f.lc] 49)).heap.size = wo.heap.size + 1 by simp] at this
        exact this
      have V5 := V.far X5 (fun x hx => by simp at hx)
      obtain ⟨ks, hksv⟩ : ∃ ks, (1 :: (fs0.take kk).map (·.kind)) = ks := ⟨_, rfl⟩
      rw [hksv] at V5 hlk hks
      replace hks := hide hks
      replace hksv := hide hksv
      replace hlk := hide hlk
      replace hf := hide hf
      clear hcF
      go_wp2_with (at_builtin; go_must (refine wpList_appI rfl (.tmp 36) (.tmp 39) rfl w3.heap.size v ks rfl V5 (some ⟨wo.heap.size + 1, 0, none⟩) 1 [f.kind] _ rfl rfl R5 (by have := hlk.out; rw [this]; simp; omega) (by simp; omega) ?_; intro v9 w9 V9 P9))
      go_roundw
      case rel =>
        refine ⟨kk + 1, _, by omega, by go_num, rfl, ?_, (O.trans X5 (by simp)).trans P9 (fun x hx => .inr (hob x (by simpa using hx)).1)⟩
        rw [hks.out]
        exact V9.out
      case measure => simp [intOf]; omega
    · obtain rfl : kk = 2 := by omega
      have V' : OwnI wo w3.heap.size v [1, 3, 4] := by
        have e : (1 :: (fs0.take 2).map (·.kind)) = [1, 3, 4] := by rw [List.take_of_length_le (by have := hl0.out; omega), hkk0.out]
        rw [← e]; exact V
      obtain ⟨kA, kc, rfl, RK, _, _, _⟩ := V'.rd
      have Oo : Only [] w wo := O3.trans O (by simp)
      have RR := refRead_any wo kA (some ⟨b, off, none⟩) [1, 3, 4] l kc c RK (h.only Oo) hl (by decide) (by have := hn.out; omega) (by have := hn.out; omega) hlm
      rw [hn.out] at RR
      have RR' : Calls Tryz.prog 21 #[.slice kA 3 kc, .slice (some ⟨b, off, none⟩) ln c] wo (RefReadPost wo (readP [1, 3, 4] l)) := RR
      obtain ⟨E, hE⟩ : ∃ E, (readP [1, 3, 4] l).1 = E := ⟨_, rfl⟩
      have hgood := readP_good [1, 3, 4] l hl
      have hdec : ∀ (M : MD) (E' : Int), (if (readP [1, 3, 4] l).1 ≠ 0 then E' = (readP [1, 3, 4] l).1 ∧ M = zeroM
          else ∃ fs : List FD, fs.map FD.pf = (readP [1, 3, 4] l).2 ∧ if fitsP (putAll (firstM 94) [9, 1] fs.tail) then E' = 0 ∧ M = putAll (firstM 94) [9, 1] fs.tail else E' = 4 ∧ M = zeroM) → DecIs l M E' := fun M E' hx => by
        rw [← hll.out] at hx ⊢
        exact hx
      rw [hE] at hgood
      replace hE := hide hE
      replace hgood := hide hgood
      replace hdec := hide hdec
      have Zo := Z3.only O (by simp)
      have Mo := M3.only O (by simp)
      clear V V' RR RK
      go_wp2_with fail
      go_call RR' as e w5 ⟨P5, A5, k5, fs, rfl, hfs, V5, M5⟩
      clear RR'
      have O5 : Only [] w w5 := Oo.trans P5 (by simp)
      have Z5 := Zo.only P5 (by simp)
      have K5 := Mo.only P5 (by simp)
      rw [hE.out]
      by_cases hE0 : E = 0
      · subst hE0
        obtain ⟨g1, g2⟩ := hgood.out rfl
        rw [← hfs] at g1 g2
        have hfl : fs.length = 3 := by have := congrArg List.length g1; simpa using this
        obtain ⟨f0, f1, f2, rfl⟩ : ∃ f0 f1 f2, fs = [f0, f1, f2] := by
          match fs, hfl with
          | [f0, f1, f2], _ => exact ⟨f0, f1, f2, rfl⟩
        obtain ⟨A', cap, eA, hcle, hcmx, hF⟩ := V5.form
        injection eA with eA1 eA2 eA3
        subst eA1
        subst eA3
        obtain ⟨bF, rfl, hbase, hbF, hcF⟩ := hF (by simp)
        have hcap : 3 ≤ k5 := hcle
        have hbw : w.heap.size + 1 < bF := by have := Mo.lt; have := P5.size; have : wo.heap.size ≤ bF := hbase; omega
        have hne4 : ¬ w.heap.size + 1 = bF := by omega
        have hne5 : ¬ bF = w.heap.size + 1 := by omega
        have hne6 : ¬ w.heap.size = bF := by omega
        have hne7 : ¬ bF = w.heap.size := by omega
        have u1 : U32 f1.n ∧ InB f1.text := g2 f1.pf (by simp)
        have o1 : f1.ok w5 := M5 f1 (by simp)
        have u2 : U32 f2.n ∧ InB f2.text := g2 f2.pf (by simp)
        have o2 : f2.ok w5 := M5 f2 (by simp)
        obtain ⟨M, hM⟩ : ∃ M, putAll (firstM 94) [9, 1] [f1, f2] = M := ⟨_, rfl⟩
        have okM : M.ok w5 := by rw [← hM]; exact putM_ok 1 (putM_ok 9 (first_ok w5 94) o1 u1.1 u1.2) o2 u2.1 u2.2
        have s0 : w5.cell? ⟨w.heap.size + 1, 0, none⟩ = some (.int .i64 94) := K5.cell 0
        have hc1 : ¬ k5 = 1 := by omega
        obtain ⟨wd, hwd⟩ : ∃ wd, wd = w5.drew := ⟨_, rfl⟩
        have Kd0 : Blk wd (w.heap.size + 1) 25 (firstM 94).cells := by rw [hwd]; exact K5.drew
        have Xd0 : Only [w.heap.size + 1] w5 wd := by rw [hwd]; exact (Only.refl _ w5).drew
        have hI0 : (fun w' : World => (∀ (j : Nat) (u : Value), (fcells [f0, f1, f2])[j]? = some u → w'.cell? ⟨bF, j, none⟩ = some u) ∧ RdG (.int .u8) w' f2.tA f2.text) wd := by
          rw [hwd]
          exact ⟨hcF, o2.text⟩
        go_wp2_with fail
        refine wp_region_E (fun w' : World => (∀ (j : Nat) (u : Value), (fcells [f0, f1, f2])[j]? = some u → w'.cell? ⟨bF, j, none⟩ = some u) ∧ RdG (.int .u8) w' f2.tA f2.text) [] (by kernel_rfl) ?_
        rw [show ({ w5 with drawn := w5.drawn + 1 } : World) = wd from hwd.symm]
        replace hwd := hide hwd
        refine wpAnyE_take 0 (v := (.slice (some ⟨bF, 4, none⟩) 2 (k5 - 1))) rfl (by kernel_rfl) (fun _ _ _ h => h) hI0 (fun w' hw' => Or.inl ⟨by kernel_rfl, Or.inl (by go_simp)⟩) ?_
        refine wpAnyE_take 1 (v := (.pointer (some ⟨bF, 4, none⟩))) rfl (by kernel_rfl) (fun _ _ _ h => h) hI0 (fun w' hw' => Or.inl ⟨by kernel_rfl, Or.inl (by go_simp)⟩) ?_
        refine wpAnyE_take 2 (v := (.pointer (some ⟨bF, 5, none⟩))) rfl (by kernel_rfl) (fun _ _ _ h => h) hI0 (fun w' hw' => Or.inl ⟨by kernel_rfl, Or.inl (by go_simp)⟩) ?_
        refine wpAnyE_take 3 (v := (.int .u32 f1.n)) rfl (by kernel_rfl) (fun _ _ _ h => h) hI0 (fun w' hw' => Or.inl ⟨by kernel_rfl, Or.inl (by have y : w'.cell? ⟨bF, 5, none⟩ = some (.int .u32 f1.n) := hw'.1 5 _ rfl; go_simp)⟩) ?_
        refine wpAnyE_take 4 (v := (.slice (some ⟨bF, 4, none⟩) 2 (k5 - 1))) rfl (by kernel_rfl) (fun _ _ _ h => h) hI0 (fun w' hw' => Or.inl ⟨by kernel_rfl, Or.inl (by go_simp)⟩) ?_
        refine wpAnyE_take 5 (v := (.pointer (some ⟨bF, 8, none⟩))) rfl (by kernel_rfl) (fun _ _ _ h => h) hI0 (fun w' hw' => Or.inl ⟨by kernel_rfl, Or.inl (by go_simp)⟩) ?_
        refine wpAnyE_take 6 (v := (.pointer (some ⟨bF, 10, none⟩))) rfl (by kernel_rfl) (fun _ _ _ h => h) hI0 (fun w' hw' => Or.inl ⟨by kernel_rfl, Or.inl (by go_simp)⟩) ?_
        refine wpAnyE_take 7 (v := (.slice f2.tA f2.text.length f2.tc)) rfl (by kernel_rfl) (fun _ _ _ h => h) hI0 (fun w' hw' => Or.inl ⟨by kernel_rfl, Or.inl (by have y : w'.cell? ⟨bF, 10, none⟩ = some (.slice f2.tA f2.text.length f2.tc) := hw'.1 10 _ rfl; go_simp)⟩) ?_
        refine wpAnyE_take 8 (v := (.pointer (some ⟨w.heap.size + 1, 1, none⟩))) rfl (by kernel_rfl) (fun _ _ _ h => h) hI0 (fun w' hw' => Or.inl ⟨by kernel_rfl, Or.inl (by go_simp)⟩) ?_
        refine wpAnyE_one 9 rfl (by kernel_rfl) hI0 (fun K hK => ?_)
        rw [if_pos (by kernel_rfl)]
        have cc := Kd0.cell 1
        have ff := Kd0.frozen 1
        have cc' : wd.cell? ⟨w.heap.size + 1, 1, none⟩ = some (.int .u32 0) := cc
        clear cc
        go_simp
        refine hK _ _ ?_
        clear hK K cc' ff
        obtain ⟨wd1, hwd1⟩ : ∃ wd1, wd1 = wd.setCell ⟨w.heap.size + 1, 1, none⟩ (.int .u32 f1.n) := ⟨_, rfl⟩
        have Kd1 : Blk wd1 (w.heap.size + 1) 25 (putM (firstM 94) 9 f1).cells := by rw [hwd1]; exact Kd0.set_ 1 (.int .u32 f1.n)
        have Xs1 : Only [w.heap.size + 1] wd wd1 := by rw [hwd1]; exact (Only.refl _ wd).setCell (p := ⟨w.heap.size + 1, 1, none⟩) (.inl (by simp)) _
        have Xd1 : Only [w.heap.size + 1] w5 wd1 := Xd0.trans Xs1 (fun x hx => .inl hx)
        have hI1 : (fun w' : World => (∀ (j : Nat) (u : Value), (fcells [f0, f1, f2])[j]? = some u → w'.cell? ⟨bF, j, none⟩ = some u) ∧ RdG (.int .u8) w' f2.tA f2.text) wd1 := ⟨fun j u hj => cellL Xs1 (by have := Xd0.size; show bF < _; omega) (by show bF ∉ [w.heap.size + 1]; simp; omega) (hI0.1 j u hj), RdG.onlyL (mk := .int .u8) hI0.2 Xs1 (fun a ha h0 => by have := far_msg Kd0 hI0.2 h0 a ha; simp; omega)⟩
        rw [← hwd1]
        replace hwd1 := hide hwd1
        refine wpAnyE_take 10 (v := (.pointer (some ⟨w.heap.size + 1, 9, none⟩))) rfl (by kernel_rfl) (fun _ _ _ h => h) hI1 (fun w' hw' => Or.inl ⟨by kernel_rfl, Or.inl (by go_simp)⟩) ?_
        refine wpAnyE_one 11 rfl (by kernel_rfl) hI1 (fun K hK => ?_)
        rw [if_pos (by kernel_rfl)]
        have cc := Kd1.cell 9
        have ff := Kd1.frozen 9
        have cc' : wd1.cell? ⟨w.heap.size + 1, 9, none⟩ = some (.slice none 0 0) := cc
        clear cc
        go_simp
        refine hK _ _ ?_
        clear hK K cc' ff
        obtain ⟨w6, hw6⟩ : ∃ w6, w6 = wd1.setCell ⟨w.heap.size + 1, 9, none⟩ (.slice f2.tA f2.text.length f2.tc) := ⟨_, rfl⟩
        have Kd2 : Blk w6 (w.heap.size + 1) 25 (putM (putM (firstM 94) 9 f1) 1 f2).cells := by rw [hw6]; exact Kd1.set_ 9 (.slice f2.tA f2.text.length f2.tc)
        have Xs2 : Only [w.heap.size + 1] wd1 w6 := by rw [hw6]; exact (Only.refl _ wd1).setCell (p := ⟨w.heap.size + 1, 9, none⟩) (.inl (by simp)) _
        have Xd2 : Only [w.heap.size + 1] w5 w6 := Xd1.trans Xs2 (fun x hx => .inl hx)
        have hI2 : (fun w' : World => (∀ (j : Nat) (u : Value), (fcells [f0, f1, f2])[j]? = some u → w'.cell? ⟨bF, j, none⟩ = some u) ∧ RdG (.int .u8) w' f2.tA f2.text) w6 := ⟨fun j u hj => cellL Xs2 (by have := Xd1.size; show bF < _; omega) (by show bF ∉ [w.heap.size + 1]; simp; omega) (hI1.1 j u hj), RdG.onlyL (mk := .int .u8) hI1.2 Xs2 (fun a ha h0 => by have := far_msg Kd1 hI1.2 h0 a ha; simp; omega)⟩
        rw [← hw6]
        replace hw6 := hide hw6
        refine wpAnyE_end (by kernel_rfl) hI2 ?_
        (try simp only [Exit.then])
        have K6 : Blk w6 (w.heap.size + 1) 25 M.cells := by rw [← hM]; exact Kd2
        have Z6 : Blk w6 w.heap.size 25 zeroM.cells := Z5.only Xd2 (by simp)
        have O6 : Only [] w w6 := O5.trans Xd2 (fun x hx => .inr (by simp at hx; omega))
        have okM6 : M.ok w6 := okM.onlyN Xd2 (fun a ha h0 => far_msg K5 okM.data h0 a ha)
        clear hI0 hI1 hI2 Kd0 Kd1 Kd2
        have WD := refWords_any M w6 okM.name okM.lang
        obtain ⟨bf, hbf⟩ : ∃ bf, fitsP M = bf := ⟨_, rfl⟩
        rw [hbf] at WD
        unfold MD.val at WD
        have a0 : w6.cell? ⟨w.heap.size + 1, 0, none⟩ = some (.int .i64 M.kind) := K6.cell 0
        have a1 : w6.cell? ⟨w.heap.size + 1, 1, none⟩ = some (.int .u32 M.chan) := K6.cell 1
        have a2 : w6.cell? ⟨w.heap.size + 1, 2, none⟩ = some (.int .u32 M.sender) := K6.cell 2
        have a3 : w6.cell? ⟨w.heap.size + 1, 3, none⟩ = some (.int .u32 M.window) := K6.cell 3
        have a4 : w6.cell? ⟨w.heap.size + 1, 4, none⟩ = some (.int .u32 M.packet) := K6.cell 4
        have a5 : w6.cell? ⟨w.heap.size + 1, 5, none⟩ = some (.int .u32 M.code) := K6.cell 5
        have a6 : w6.cell? ⟨w.heap.size + 1, 6, none⟩ = some (.string M.name) := K6.cell 6
        have a7 : w6.cell? ⟨w.heap.size + 1, 7, none⟩ = some (.string M.lang) := K6.cell 7
        have a8 : w6.cell? ⟨w.heap.size + 1, 8, none⟩ = some (.bool M.want) := K6.cell 8
        have a9 : w6.cell? ⟨w.heap.size + 1, 9, none⟩ = some (.slice M.dA M.data.length M.dc) := K6.cell 9
        replace hM := hide hM
        replace hfs := hide hfs
        replace hbf := hide hbf
        go_wp2_with fail
        go_call WD as e w7 ⟨rfl, P7⟩
        clear a0 a1 a2 a3 a4 a5 a6 a7 a8 a9
        have K7 := K6.only P7 (by simp)
        have Z7 := Z6.only P7 (by simp)
        have O7 : Only [] w w7 := O6.trans P7 (by simp)
        have okM7 : M.ok w7 := okM6.only P7
        have hlt7 := Z7.lt
        have hlk7 := K7.lt
        have hq1 : ¬ w.heap.size = w.heap.size + 1 := by omega
        have hq2 : ¬ w.heap.size + 1 = w.heap.size := by omega
        have z0 : w7.cell? ⟨w.heap.size, 0, none⟩ = some (.int .i64 0) := Z7.cell 0
        have y0 := Z7.frozen 0
        have z1 : w7.cell? ⟨w.heap.size, 1, none⟩ = some (.int .u32 0) := Z7.cell 1
        have y1 := Z7.frozen 1
        have z2 : w7.cell? ⟨w.heap.size, 2, none⟩ = some (.int .u32 0) := Z7.cell 2
        have y2 := Z7.frozen 2
        have z3 : w7.cell? ⟨w.heap.size, 3, none⟩ = some (.int .u32 0) := Z7.cell 3
        have y3 := Z7.frozen 3
        have z4 : w7.cell? ⟨w.heap.size, 4, none⟩ = some (.int .u32 0) := Z7.cell 4
        have y4 := Z7.frozen 4
        have z5 : w7.cell? ⟨w.heap.size, 5, none⟩ = some (.int .u32 0) := Z7.cell 5
        have y5 := Z7.frozen 5
        have z6 : w7.cell? ⟨w.heap.size, 6, none⟩ = some (.string ⟨#[]⟩) := Z7.cell 6
        have y6 := Z7.frozen 6
        have z7 : w7.cell? ⟨w.heap.size, 7, none⟩ = some (.string ⟨#[]⟩) := Z7.cell 7
        have y7 := Z7.frozen 7
        have z8 : w7.cell? ⟨w.heap.size, 8, none⟩ = some (.bool false) := Z7.cell 8
        have y8 := Z7.frozen 8
        have z9 : w7.cell? ⟨w.heap.size, 9, none⟩ = some (.slice none 0 0) := Z7.cell 9
        have y9 := Z7.frozen 9
        cases bf with
        | false =>
          go_wp2_with fail
          (try simp only [Exit.inBlock, Exit.then])
          refine ret_dec (g := w.heap.size) (m := zeroM) rfl (by rfl) (by rfl) (zsetB Z7) ?_
          refine ⟨zsetO (Nat.le_refl _) O7, zeroM, 4, rfl, zero_ok _, hdec.out _ _ ?_⟩
          rw [hE.out, if_neg (by simp)]
          refine ⟨_, hfs.out, ?_⟩
          show if fitsP (putAll (firstM 94) [9, 1] [f1, f2]) then _ else _
          rw [hM.out, hbf.out, if_neg (by simp)]
          exact ⟨rfl, rfl⟩
        | true =>
          have a0 : w7.cell? ⟨w.heap.size + 1, 0, none⟩ = some (.int .i64 M.kind) := K7.cell 0
          have a1 : w7.cell? ⟨w.heap.size + 1, 1, none⟩ = some (.int .u32 M.chan) := K7.cell 1
          have a2 : w7.cell? ⟨w.heap.size + 1, 2, none⟩ = some (.int .u32 M.sender) := K7.cell 2
          have a3 : w7.cell? ⟨w.heap.size + 1, 3, none⟩ = some (.int .u32 M.window) := K7.cell 3
          have a4 : w7.cell? ⟨w.heap.size + 1, 4, none⟩ = some (.int .u32 M.packet) := K7.cell 4
          have a5 : w7.cell? ⟨w.heap.size + 1, 5, none⟩ = some (.int .u32 M.code) := K7.cell 5
          have a6 : w7.cell? ⟨w.heap.size + 1, 6, none⟩ = some (.string M.name) := K7.cell 6
          have a7 : w7.cell? ⟨w.heap.size + 1, 7, none⟩ = some (.string M.lang) := K7.cell 7
          have a8 : w7.cell? ⟨w.heap.size + 1, 8, none⟩ = some (.bool M.want) := K7.cell 8
          have a9 : w7.cell? ⟨w.heap.size + 1, 9, none⟩ = some (.slice M.dA M.data.length M.dc) := K7.cell 9
          go_wp2_with fail
          (try simp only [Exit.inBlock, Exit.then])
          refine ret_dec (g := w.heap.size) (m := M) rfl (by rfl) (by rfl) (msetB M Z7) ?_
          refine ⟨msetO M (.inr (Nat.le_refl _)) O7, M, 0, rfl, okM7.onlyN (q := w.heap.size) (msetO M (.inl (by simp)) (Only.refl _ _)) (fun a ha h0 => far_msg Z7 okM7.data h0 a ha), hdec.out _ _ ?_⟩
          rw [hE.out, if_neg (by simp)]
          refine ⟨_, hfs.out, ?_⟩
          show if fitsP (putAll (firstM 94) [9, 1] [f1, f2]) then _ else _
          rw [hM.out, hbf.out, if_pos rfl]
          exact ⟨rfl, hM.out.symm⟩
      · replace hfs := hide hfs
        have z0 : w5.cell? ⟨w.heap.size, 0, none⟩ = some (.int .i64 0) := Z5.cell 0
        have y0 := Z5.frozen 0
        have z1 : w5.cell? ⟨w.heap.size, 1, none⟩ = some (.int .u32 0) := Z5.cell 1
        have y1 := Z5.frozen 1
        have z2 : w5.cell? ⟨w.heap.size, 2, none⟩ = some (.int .u32 0) := Z5.cell 2
        have y2 := Z5.frozen 2
        have z3 : w5.cell? ⟨w.heap.size, 3, none⟩ = some (.int .u32 0) := Z5.cell 3
        have y3 := Z5.frozen 3
        have z4 : w5.cell? ⟨w.heap.size, 4, none⟩ = some (.int .u32 0) := Z5.cell 4
        have y4 := Z5.frozen 4
        have z5 : w5.cell? ⟨w.heap.size, 5, none⟩ = some (.int .u32 0) := Z5.cell 5
        have y5 := Z5.frozen 5
        have z6 : w5.cell? ⟨w.heap.size, 6, none⟩ = some (.string ⟨#[]⟩) := Z5.cell 6
        have y6 := Z5.frozen 6
        have z7 : w5.cell? ⟨w.heap.size, 7, none⟩ = some (.string ⟨#[]⟩) := Z5.cell 7
        have y7 := Z5.frozen 7
        have z8 : w5.cell? ⟨w.heap.size, 8, none⟩ = some (.bool false) := Z5.cell 8
        have y8 := Z5.frozen 8
        have z9 : w5.cell? ⟨w.heap.size, 9, none⟩ = some (.slice none 0 0) := Z5.cell 9
        have y9 := Z5.frozen 9
        go_wp2_with fail
        (try simp only [Exit.inBlock, Exit.then])
        refine ret_dec (g := w.heap.size) (m := zeroM) rfl (by rfl) (by rfl) (zsetB Z5) ?_
        exact ⟨zsetO (Nat.le_refl _) O5, zeroM, E, rfl, zero_ok _, hdec.out _ _ (by rw [hE.out, if_pos hE0]; exact ⟨rfl, rfl⟩)⟩
set_option maxRecDepth 100000 in
set_option maxHeartbeats 6400000 in
theorem rdec_k99 (A : Option Addr) (t : List Int) (c : Nat) (w : World) (h : Rd w A (99 :: t)) (hl : InB (99 :: t)) (hln : (99 :: t : List Int).length ≤ 140737488355000) (hlc : (99 :: t : List Int).length ≤ c) (hlm : c ≤ maxLen) :
    Calls Tryz.prog 13 #[.slice A (99 :: t : List Int).length c] w (RDecPost w (99 :: t)) := by
  obtain ⟨b, off, y, rfl, hb, hy, cx⟩ := RdG.at (mk := .int .u8) h 0 (by simp)
  simp at hy
  subst hy
  rw [Nat.add_zero] at cx
  obtain ⟨l, hll⟩ : ∃ l : List Int, (99 :: t) = l := ⟨_, rfl⟩
  have hk1 : l.head? = some 99 := by rw [← hll]; rfl
  rw [hll] at h hl hln hlc ⊢
  obtain ⟨ln, hn⟩ : ∃ ln, l.length = ln := ⟨_, rfl⟩
  have hn1 : 1 ≤ ln := by rw [← hn, ← hll]; simp
  have hn0 : ((ln : Int) == 0) = false := by simp; omega
  have hn00 : ln ≠ 0 := by omega
  obtain ⟨w1, hw1⟩ : ∃ w1, w1 = w.alloc (.cells #[.int .i64 0, .int .u32 0, .int .u32 0, .int .u32 0, .int .u32 0, .int .u32 0, .string ⟨#[]⟩, .string ⟨#[]⟩, .bool false, .slice none 0 0] 25) := ⟨_, rfl⟩
  have hz1 : w1.heap.size = w.heap.size + 1 := by rw [hw1]; simp
  obtain ⟨w2, hw2⟩ : ∃ w2, w2 = w1.alloc (.cells #[.int .i64 99, .int .u32 0, .int .u32 0, .int .u32 0, .int .u32 0, .int .u32 0, .string ⟨#[]⟩, .string ⟨#[]⟩, .bool false, .slice none 0 0] 25) := ⟨_, rfl⟩
  have O1 : Only [] w w1 := by rw [hw1]; exact (Only.refl _ _).alloc _
  have P12 : Only [] w1 w2 := by rw [hw2]; exact (Only.refl _ _).alloc _
  have O2 : Only [] w w2 := O1.trans P12 (by simp)
  have Z2 : Blk w2 w.heap.size 25 zeroM.cells := by rw [hw2, hw1]; exact (Blk.new w _ _).alloc _
  have M2 : Blk w2 (w.heap.size + 1) 25 (firstM 99).cells := by
    rw [← hz1, hw2]
    exact Blk.new w1 25 (firstM 99).cells
  have FA : Calls Tryz.prog 17 #[.agg #[.int .i64 99, .int .u32 0, .int .u32 0, .int .u32 0, .int .u32 0, .int .u32 0, .string ⟨#[]⟩, .string ⟨#[]⟩, .bool false, .slice none 0 0]] w2 (FieldsPost w2 (firstM 99)) := fields_any (firstM 99) w2 (first_ok _ _) (Nat.zero_le _) (Nat.zero_le _)
  unfold FieldsPost at FA
  rw [show rowL (firstM 99).kind = some [9] from rfl] at FA
  rw [hn] at hln hlc ⊢
  replace hn := hide hn
  replace hll := hide hll
  replace hk1 := hide hk1
  go_enter Tryz.func13, Tryz.ntmps13
  go_wp2_with fail
  rw [← hw1, ← hw2]
  replace hw1 := hide hw1
  replace hw2 := hide hw2
  replace hz1 := hide hz1
  go_call FA as e w3 ⟨P3, A0, c0, fs0, rfl, RF0, hfs0, hc0, hm0⟩
  clear FA
  have O3 : Only [] w w3 := O2.trans P3 (by simp)
  have Z3 := Z2.only P3 (by simp)
  have M3 := M2.only P3 (by simp)
  have hl0 : fs0.length = 1 := by have := congrArg List.length hfs0; simpa using this
  have hkk0 : fs0.map (·.kind) = [3] := by
    have := congrArg (List.map PF.kind) hfs0
    rw [List.map_map, List.map_map] at this
    exact this
  have V4 := ownI_one w3 1
  have X4 : Only [] w3 (w3.alloc (.cells #[.int .i64 1] 3)) := (Only.refl _ _).alloc _
  rw [hl0] at hc0 ⊢
  replace hl0 := hide hl0
  replace hfs0 := hide hfs0
  replace hkk0 := hide hkk0
  go_wp2_with fail
  go_loopw [32, 7] (fun i o wr => ∃ (kk : Nat) (v : Value), kk ≤ 1 ∧ i = .int .i64 kk ∧ v = o ∧ OwnI wr w3.heap.size v (1 :: (fs0.take kk).map (·.kind)) ∧ Only [] w3 wr) (fun i _ _ => 1 - (intOf i).toNat)
  case atStart => exact ⟨0, _, by omega, rfl, rfl, V4, X4⟩
  case round =>
    obtain ⟨wo, rfl⟩ : ∃ wo : World, wo = wr := ⟨_, rfl⟩
    obtain ⟨kk, v, hkn, rfl, rfl, V, O⟩ := hrel
    have hob := V.block
    have z0 := O.size
    by_cases hlt : kk < 1
    · obtain ⟨f, hf⟩ : ∃ f, fs0[kk]? = some f := ⟨_, List.getElem?_eq_getElem (by have := hl0.out; omega)⟩
      obtain ⟨bF, oF, rfl, hbF, hcF⟩ := (RF0.only O).cells (by have := hl0.out; omega)
      obtain ⟨c0', c1, c2, c3⟩ := hcF kk f hf
      have hks : (1 :: (fs0.take (kk + 1)).map (·.kind)) = (1 :: (fs0.take kk).map (·.kind)) ++ [f.kind] := by
        rw [take_snocG hf, List.map_append]
        rfl
      have hlk : (1 :: (fs0.take kk).map (·.kind)).length = kk + 1 := by rw [List.length_cons, List.length_map, List.length_take]; have := hl0.out; omega
      have X5 : Only [] wo ((wo.alloc (.cells #[.int .i64 f.kind, .int .u32 f.n, .slice f.tA f.text.length f.tc, .slice f.lA f.list.length f.lc] 49)).alloc (.cells #[.int .i64 f.kind] 3)) := ((Only.refl _ _).alloc _).alloc _
      have R5 : RdI ((wo.alloc (.cells #[.int .i64 f.kind, .int .u32 f.n, .slice f.tA f.text.length f.tc, .slice f.lA f.list.length f.lc] 49)).alloc (.cells #[.int .i64 f.kind] 3)) (some ⟨wo.heap.size + 1, 0, none⟩) [f.kind] := by
        have := rdI_new (wo.alloc (.cells #[.int .i64 f.kind, .int .u32 f.n, .slice f.tA f.text.length f.tc, .slice f.lA f.list.length f.lc] 49)) #[.int .i64 f.kind] [f.kind] rfl
        rw [show (wo.alloc (.cells #[.int .i64 f.kind, .int .u32 f.n, .slice f.tA f.text.length f.tc, .slice f.lA f.list.length f.lc] 49)).heap.size = wo.heap.size + 1 by simp] at this
        exact this
      have V5 := V.far X5 (fun x hx => by simp at hx)
      obtain ⟨ks, hksv⟩ : ∃ ks, (1 :: (fs0.take kk).map (·.kind)) = ks := ⟨_, rfl⟩
      rw [hksv] at V5 hlk hks
      replace hks := hide hks
      replace hksv := hide hksv
      replace hlk := hide hlk
      replace hf := hide hf
      clear hcF
      go_wp2_with (at_builtin; go_must (refine wpList_appI rfl (.tmp 36) (.tmp 39) rfl w3.heap.size v ks rfl V5 (some ⟨wo.heap.size + 1, 0, none⟩) 1 [f.kind] _ rfl rfl R5 (by have := hlk.out; rw [this]; simp; omega) (by simp; omega) ?_; intro v9 w9 V9 P9))
      go_roundw
      case rel =>
        refine ⟨kk + 1, _, by omega, by go_num, rfl, ?_, (O.trans X5 (by simp)).trans P9 (fun x hx => .inr (hob x (by simpa using hx)).1)⟩
        rw [hks.out]
        exact V9.out
      case measure => simp [intOf]; omega
    · obtain rfl : kk = 1 := by omega
      have V' : OwnI wo w3.heap.size v [1, 3] := by
        have e : (1 :: (fs0.take 1).map (·.kind)) = [1, 3] := by rw [List.take_of_length_le (by have := hl0.out; omega), hkk0.out]
        rw [← e]; exact V
      obtain ⟨kA, kc, rfl, RK, _, _, _⟩ := V'.rd
      have Oo : Only [] w wo := O3.trans O (by simp)
      have RR := refRead_any wo kA (some ⟨b, off, none⟩) [1, 3] l kc c RK (h.only Oo) hl (by decide) (by have := hn.out; omega) (by have := hn.out; omega) hlm
      rw [hn.out] at RR
      have RR' : Calls Tryz.prog 21 #[.slice kA 2 kc, .slice (some ⟨b, off, none⟩) ln c] wo (RefReadPost wo (readP [1, 3] l)) := RR
      obtain ⟨E, hE⟩ : ∃ E, (readP [1, 3] l).1 = E := ⟨_, rfl⟩
      have hgood := readP_good [1, 3] l hl
      have hdec : ∀ (M : MD) (E' : Int), (if (readP [1, 3] l).1 ≠ 0 then E' = (readP [1, 3] l).1 ∧ M = zeroM
          else ∃ fs : List FD, fs.map FD.pf = (readP [1, 3] l).2 ∧ if fitsP (putAll (firstM 99) [9] fs.tail) then E' = 0 ∧ M = putAll (firstM 99) [9] fs.tail else E' = 4 ∧ M = zeroM) → DecIs l M E' := fun M E' hx => by
        rw [← hll.out] at hx ⊢
        exact hx
      rw [hE] at hgood
      replace hE := hide hE
      replace hgood := hide hgood
      replace hdec := hide hdec
      have Zo := Z3.only O (by simp)
      have Mo := M3.only O (by simp)
      clear V V' RR RK
      go_wp2_with fail
      go_call RR' as e w5 ⟨P5, A5, k5, fs, rfl, hfs, V5, M5⟩
      clear RR'
      have O5 : Only [] w w5 := Oo.trans P5 (by simp)
      have Z5 := Zo.only P5 (by simp)
      have K5 := Mo.only P5 (by simp)
      rw [hE.out]
      by_cases hE0 : E = 0
      · subst hE0
        obtain ⟨g1, g2⟩ := hgood.out rfl
        rw [← hfs] at g1 g2
        have hfl : fs.length = 2 := by have := congrArg List.length g1; simpa using this
        obtain ⟨f0, f1, rfl⟩ : ∃ f0 f1, fs = [f0, f1] := by
          match fs, hfl with
          | [f0, f1], _ => exact ⟨f0, f1, rfl⟩
        obtain ⟨A', cap, eA, hcle, hcmx, hF⟩ := V5.form
        injection eA with eA1 eA2 eA3
        subst eA1
        subst eA3
        obtain ⟨bF, rfl, hbase, hbF, hcF⟩ := hF (by simp)
        have hcap : 2 ≤ k5 := hcle
        have hbw : w.heap.size + 1 < bF := by have := Mo.lt; have := P5.size; have : wo.heap.size ≤ bF := hbase; omega
        have hne4 : ¬ w.heap.size + 1 = bF := by omega
        have hne5 : ¬ bF = w.heap.size + 1 := by omega
        have hne6 : ¬ w.heap.size = bF := by omega
        have hne7 : ¬ bF = w.heap.size := by omega
        have u1 : U32 f1.n ∧ InB f1.text := g2 f1.pf (by simp)
        have o1 : f1.ok w5 := M5 f1 (by simp)
        obtain ⟨M, hM⟩ : ∃ M, putAll (firstM 99) [9] [f1] = M := ⟨_, rfl⟩
        have okM : M.ok w5 := by rw [← hM]; exact putM_ok 9 (first_ok w5 99) o1 u1.1 u1.2
        have s0 : w5.cell? ⟨w.heap.size + 1, 0, none⟩ = some (.int .i64 99) := K5.cell 0
        have hc1 : ¬ k5 = 1 := by omega
        have x1 : w5.cell? ⟨bF, 5, none⟩ = some (.int .u32 f1.n) := hcF 5 _ rfl
        have s1 : w5.cell? ⟨w.heap.size + 1, 1, none⟩ = some (.int .u32 0) := K5.cell 1
        have s2 : w5.cell? ⟨w.heap.size + 1, 2, none⟩ = some (.int .u32 0) := K5.cell 2
        have s3 : w5.cell? ⟨w.heap.size + 1, 3, none⟩ = some (.int .u32 0) := K5.cell 3
        have s4 : w5.cell? ⟨w.heap.size + 1, 4, none⟩ = some (.int .u32 0) := K5.cell 4
        have s5 : w5.cell? ⟨w.heap.size + 1, 5, none⟩ = some (.int .u32 0) := K5.cell 5
        have s6 : w5.cell? ⟨w.heap.size + 1, 6, none⟩ = some (.string ⟨#[]⟩) := K5.cell 6
        have s7 : w5.cell? ⟨w.heap.size + 1, 7, none⟩ = some (.string ⟨#[]⟩) := K5.cell 7
        have s8 : w5.cell? ⟨w.heap.size + 1, 8, none⟩ = some (.bool false) := K5.cell 8
        have s9 : w5.cell? ⟨w.heap.size + 1, 9, none⟩ = some (.slice none 0 0) := K5.cell 9
        have sf := K5.frozen 1
        obtain ⟨w6, hw6⟩ : ∃ w6, w6 = w5.setCell ⟨w.heap.size + 1, 1, none⟩ (.int .u32 f1.n) := ⟨_, rfl⟩
        have K6 : Blk w6 (w.heap.size + 1) 25 M.cells := by rw [hw6, ← hM]; exact K5.set_ 1 (.int .u32 f1.n)
        have Z6 : Blk w6 w.heap.size 25 zeroM.cells := by rw [hw6]; exact Blk.far Z5 (p := ⟨w.heap.size + 1, 1, none⟩) (by show ¬ w.heap.size = w.heap.size + 1; omega) _
        have X6 : Only [w.heap.size + 1] w5 w6 := by rw [hw6]; exact (Only.refl _ w5).setCell (p := ⟨w.heap.size + 1, 1, none⟩) (.inl (by simp)) _
        have O6 : Only [] w w6 := O5.trans X6 (fun x hx => .inr (by simp at hx; omega))
        have okM6 : M.ok w6 := okM.onlyN X6 (fun a ha h0 => far_msg K5 okM.data h0 a ha)
        have WD := refWords_any M w6 okM.name okM.lang
        obtain ⟨bf, hbf⟩ : ∃ bf, fitsP M = bf := ⟨_, rfl⟩
        rw [hbf] at WD
        unfold MD.val at WD
        replace WD : Calls Tryz.prog 18 #[.agg #[.int .i64 99, .int .u32 f1.n, .int .u32 0, .int .u32 0, .int .u32 0, .int .u32 0, .string ⟨#[]⟩, .string ⟨#[]⟩, .bool false, .slice none 0 0]] w6 (fun e w' => e = .returned (.bool bf) ∧ Only [] w6 w') := by rw [← hM] at WD; exact WD
        replace hM := hide hM
        replace hfs := hide hfs
        replace hbf := hide hbf
        go_wp2_with fail
        rw [← hw6]
        replace hw6 := hide hw6
        go_call WD as e w7 ⟨rfl, P7⟩
        clear s0
        have K7 := K6.only P7 (by simp)
        have Z7 := Z6.only P7 (by simp)
        have O7 : Only [] w w7 := O6.trans P7 (by simp)
        have okM7 : M.ok w7 := okM6.only P7
        have hlt7 := Z7.lt
        have hlk7 := K7.lt
        have hq1 : ¬ w.heap.size = w.heap.size + 1 := by omega
        have hq2 : ¬ w.heap.size + 1 = w.heap.size := by omega
        have z0 : w7.cell? ⟨w.heap.size, 0, none⟩ = some (.int .i64 0) := Z7.cell 0
        have y0 := Z7.frozen 0
        have z1 : w7.cell? ⟨w.heap.size, 1, none⟩ = some (.int .u32 0) := Z7.cell 1
        have y1 := Z7.frozen 1
        have z2 : w7.cell? ⟨w.heap.size, 2, none⟩ = some (.int .u32 0) := Z7.cell 2
        have y2 := Z7.frozen 2
        have z3 : w7.cell? ⟨w.heap.size, 3, none⟩ = some (.int .u32 0) := Z7.cell 3
        have y3 := Z7.frozen 3
        have z4 : w7.cell? ⟨w.heap.size, 4, none⟩ = some (.int .u32 0) := Z7.cell 4
        have y4 := Z7.frozen 4
        have z5 : w7.cell? ⟨w.heap.size, 5, none⟩ = some (.int .u32 0) := Z7.cell 5
        have y5 := Z7.frozen 5
        have z6 : w7.cell? ⟨w.heap.size, 6, none⟩ = some (.string ⟨#[]⟩) := Z7.cell 6
        have y6 := Z7.frozen 6
        have z7 : w7.cell? ⟨w.heap.size, 7, none⟩ = some (.string ⟨#[]⟩) := Z7.cell 7
        have y7 := Z7.frozen 7
        have z8 : w7.cell? ⟨w.heap.size, 8, none⟩ = some (.bool false) := Z7.cell 8
        have y8 := Z7.frozen 8
        have z9 : w7.cell? ⟨w.heap.size, 9, none⟩ = some (.slice none 0 0) := Z7.cell 9
        have y9 := Z7.frozen 9
        cases bf with
        | false =>
          go_wp2_with fail
          (try simp only [Exit.inBlock, Exit.then])
          refine ret_dec (g := w.heap.size) (m := zeroM) rfl (by rfl) (by rfl) (zsetB Z7) ?_
          refine ⟨zsetO (Nat.le_refl _) O7, zeroM, 4, rfl, zero_ok _, hdec.out _ _ ?_⟩
          rw [hE.out, if_neg (by simp)]
          refine ⟨_, hfs.out, ?_⟩
          show if fitsP (putAll (firstM 99) [9] [f1]) then _ else _
          rw [hM.out, hbf.out, if_neg (by simp)]
          exact ⟨rfl, rfl⟩
        | true =>
          have a0 : w7.cell? ⟨w.heap.size + 1, 0, none⟩ = some (.int .i64 M.kind) := K7.cell 0
          have a1 : w7.cell? ⟨w.heap.size + 1, 1, none⟩ = some (.int .u32 M.chan) := K7.cell 1
          have a2 : w7.cell? ⟨w.heap.size + 1, 2, none⟩ = some (.int .u32 M.sender) := K7.cell 2
          have a3 : w7.cell? ⟨w.heap.size + 1, 3, none⟩ = some (.int .u32 M.window) := K7.cell 3
          have a4 : w7.cell? ⟨w.heap.size + 1, 4, none⟩ = some (.int .u32 M.packet) := K7.cell 4
          have a5 : w7.cell? ⟨w.heap.size + 1, 5, none⟩ = some (.int .u32 M.code) := K7.cell 5
          have a6 : w7.cell? ⟨w.heap.size + 1, 6, none⟩ = some (.string M.name) := K7.cell 6
          have a7 : w7.cell? ⟨w.heap.size + 1, 7, none⟩ = some (.string M.lang) := K7.cell 7
          have a8 : w7.cell? ⟨w.heap.size + 1, 8, none⟩ = some (.bool M.want) := K7.cell 8
          have a9 : w7.cell? ⟨w.heap.size + 1, 9, none⟩ = some (.slice M.dA M.data.length M.dc) := K7.cell 9
          go_wp2_with fail
          (try simp only [Exit.inBlock, Exit.then])
          refine ret_dec (g := w.heap.size) (m := M) rfl (by rfl) (by rfl) (msetB M Z7) ?_
          refine ⟨msetO M (.inr (Nat.le_refl _)) O7, M, 0, rfl, okM7.onlyN (q := w.heap.size) (msetO M (.inl (by simp)) (Only.refl _ _)) (fun a ha h0 => far_msg Z7 okM7.data h0 a ha), hdec.out _ _ ?_⟩
          rw [hE.out, if_neg (by simp)]
          refine ⟨_, hfs.out, ?_⟩
          show if fitsP (putAll (firstM 99) [9] [f1]) then _ else _
          rw [hM.out, hbf.out, if_pos rfl]
          exact ⟨rfl, hM.out.symm⟩
      · replace hfs := hide hfs
        have z0 : w5.cell? ⟨w.heap.size, 0, none⟩ = some (.int .i64 0) := Z5.cell 0
        have y0 := Z5.frozen 0
        have z1 : w5.cell? ⟨w.heap.size, 1, none⟩ = some (.int .u32 0) := Z5.cell 1
        have y1 := Z5.frozen 1
        have z2 : w5.cell? ⟨w.heap.size, 2, none⟩ = some (.int .u32 0) := Z5.cell 2
        have y2 := Z5.frozen 2
        have z3 : w5.cell? ⟨w.heap.size, 3, none⟩ = some (.int .u32 0) := Z5.cell 3
        have y3 := Z5.frozen 3
        have z4 : w5.cell? ⟨w.heap.size, 4, none⟩ = some (.int .u32 0) := Z5.cell 4
        have y4 := Z5.frozen 4
        have z5 : w5.cell? ⟨w.heap.size, 5, none⟩ = some (.int .u32 0) := Z5.cell 5
        have y5 := Z5.frozen 5
        have z6 : w5.cell? ⟨w.heap.size, 6, none⟩ = some (.string ⟨#[]⟩) := Z5.cell 6
        have y6 := Z5.frozen 6
        have z7 : w5.cell? ⟨w.heap.size, 7, none⟩ = some (.string ⟨#[]⟩) := Z5.cell 7
        have y7 := Z5.frozen 7
        have z8 : w5.cell? ⟨w.heap.size, 8, none⟩ = some (.bool false) := Z5.cell 8
        have y8 := Z5.frozen 8
        have z9 : w5.cell? ⟨w.heap.size, 9, none⟩ = some (.slice none 0 0) := Z5.cell 9
        have y9 := Z5.frozen 9
        go_wp2_with fail
        (try simp only [Exit.inBlock, Exit.then])
        refine ret_dec (g := w.heap.size) (m := zeroM) rfl (by rfl) (by rfl) (zsetB Z5) ?_
        exact ⟨zsetO (Nat.le_refl _) O5, zeroM, E, rfl, zero_ok _, hdec.out _ _ (by rw [hE.out, if_pos hE0]; exact ⟨rfl, rfl⟩)⟩
set_option maxRecDepth 100000 in
set_option maxHeartbeats 6400000 in
theorem rdec_k100 (A : Option Addr) (t : List Int) (c : Nat) (w : World) (h : Rd w A (100 :: t)) (hl : InB (100 :: t)) (hln : (100 :: t : List Int).length ≤ 140737488355000) (hlc : (100 :: t : List Int).length ≤ c) (hlm : c ≤ maxLen) :
    Calls Tryz.prog 13 #[.slice A (100 :: t : List Int).length c] w (RDecPost w (100 :: t)) := by
  obtain ⟨b, off, y, rfl, hb, hy, cx⟩ := RdG.at (mk := .int .u8) h 0 (by simp)
  simp at hy
  subst hy
  rw [Nat.add_zero] at cx
  obtain ⟨l, hll⟩ : ∃ l : List Int, (100 :: t) = l := ⟨_, rfl⟩
  have hk1 : l.head? = some 100 := by rw [← hll]; rfl
  rw [hll] at h hl hln hlc ⊢
  obtain ⟨ln, hn⟩ : ∃ ln, l.length = ln := ⟨_, rfl⟩
  have hn1 : 1 ≤ ln := by rw [← hn, ← hll]; simp
  have hn0 : ((ln : Int) == 0) = false := by simp; omega
  have hn00 : ln ≠ 0 := by omega
  obtain ⟨w1, hw1⟩ : ∃ w1, w1 = w.alloc (.cells #[.int .i64 0, .int .u32 0, .int .u32 0, .int .u32 0, .int .u32 0, .int .u32 0, .string ⟨#[]⟩, .string ⟨#[]⟩, .bool false, .slice none 0 0] 25) := ⟨_, rfl⟩
  have hz1 : w1.heap.size = w.heap.size + 1 := by rw [hw1]; simp
  obtain ⟨w2, hw2⟩ : ∃ w2, w2 = w1.alloc (.cells #[.int .i64 100, .int .u32 0, .int .u32 0, .int .u32 0, .int .u32 0, .int .u32 0, .string ⟨#[]⟩, .string ⟨#[]⟩, .bool false, .slice none 0 0] 25) := ⟨_, rfl⟩
  have O1 : Only [] w w1 := by rw [hw1]; exact (Only.refl _ _).alloc _
  have P12 : Only [] w1 w2 := by rw [hw2]; exact (Only.refl _ _).alloc _
  have O2 : Only [] w w2 := O1.trans P12 (by simp)
  have Z2 : Blk w2 w.heap.size 25 zeroM.cells := by rw [hw2, hw1]; exact (Blk.new w _ _).alloc _
  have M2 : Blk w2 (w.heap.size + 1) 25 (firstM 100).cells := by
    rw [← hz1, hw2]
    exact Blk.new w1 25 (firstM 100).cells
  have FA : Calls Tryz.prog 17 #[.agg #[.int .i64 100, .int .u32 0, .int .u32 0, .int .u32 0, .int .u32 0, .int .u32 0, .string ⟨#[]⟩, .string ⟨#[]⟩, .bool false, .slice none 0 0]] w2 (FieldsPost w2 (firstM 100)) := fields_any (firstM 100) w2 (first_ok _ _) (Nat.zero_le _) (Nat.zero_le _)
  unfold FieldsPost at FA
  rw [show rowL (firstM 100).kind = some [9] from rfl] at FA
  rw [hn] at hln hlc ⊢
  replace hn := hide hn
  replace hll := hide hll
  replace hk1 := hide hk1
  go_enter Tryz.func13, Tryz.ntmps13
  go_wp2_with fail
  rw [← hw1, ← hw2]
  replace hw1 := hide hw1
  replace hw2 := hide hw2
  replace hz1 := hide hz1
  go_call FA as e w3 ⟨P3, A0, c0, fs0, rfl, RF0, hfs0, hc0, hm0⟩
  clear FA
  have O3 : Only [] w w3 := O2.trans P3 (by simp)
  have Z3 := Z2.only P3 (by simp)
  have M3 := M2.only P3 (by simp)
  have hl0 : fs0.length = 1 := by have := congrArg List.length hfs0; simpa using this
  have hkk0 : fs0.map (·.kind) = [3] := by
    have := congrArg (List.map PF.kind) hfs0
    rw [List.map_map, List.map_map] at this
    exact this
  have V4 := ownI_one w3 1
  have X4 : Only [] w3 (w3.alloc (.cells #[.int .i64 1] 3)) := (Only.refl _ _).alloc _
  rw [hl0] at hc0 ⊢
  replace hl0 := hide hl0
  replace hfs0 := hide hfs0
  replace hkk0 := hide hkk0
  go_wp2_with fail
  go_loopw [32, 7] (fun i o wr => ∃ (kk : Nat) (v : Value), kk ≤ 1 ∧ i = .int .i64 kk ∧ v = o ∧ OwnI wr w3.heap.size v (1 :: (fs0.take kk).map (·.kind)) ∧ Only [] w3 wr) (fun i _ _ => 1 - (intOf i).toNat)
  case atStart => exact ⟨0, _, by omega, rfl, rfl, V4, X4⟩
  case round =>
    obtain ⟨wo, rfl⟩ : ∃ wo : World, wo = wr := ⟨_, rfl⟩
    obtain ⟨kk, v, hkn, rfl, rfl, V, O⟩ := hrel
    have hob := V.block
    have z0 := O.size
    by_cases hlt : kk < 1
    · obtain ⟨f, hf⟩ : ∃ f, fs0[kk]? = some f := ⟨_, List.getElem?_eq_getElem (by have := hl0.out; omega)⟩
      obtain ⟨bF, oF, rfl, hbF, hcF⟩ := (RF0.only O).cells (by have := hl0.out; omega)
      obtain ⟨c0', c1, c2, c3⟩ := hcF kk f hf
      have hks : (1 :: (fs0.take (kk + 1)).map (·.kind)) = (1 :: (fs0.take kk).map (·.kind)) ++ [f.kind] := by
        rw [take_snocG hf, List.map_append]
        rfl
      have hlk : (1 :: (fs0.take kk).map (·.kind)).length = kk + 1 := by rw [List.length_cons, List.length_map, List.length_take]; have := hl0.out; omega
      have X5 : Only [] wo ((wo.alloc (.cells #[.int .i64 f.kind, .int .u32 f.n, .slice f.tA f.text.length f.tc, .slice f.lA f.list.length f.lc] 49)).alloc (.cells #[.int .i64 f.kind] 3)) := ((Only.refl _ _).alloc _).alloc _
      have R5 : RdI ((wo.alloc (.cells #[.int .i64 f.kind, .int .u32 f.n, .slice f.tA f.text.length f.tc, .slice f.lA f.list.length f.lc] 49)).alloc (.cells #[.int .i64 f.kind] 3)) (some ⟨wo.heap.size + 1, 0, none⟩) [f.kind] := by
        have := rdI_new (wo.alloc (.cells #[.int .i64 f.kind, .int .u32 f.n, .slice f.tA f.text.length f.tc, .slice f.lA f.list.length f.lc] 49)) #[.int .i64 f.kind] [f.kind] rfl
        rw [show (wo.alloc (.cells #[.int .i64 f.kind, .int .u32 f.n, .slice f.tA f.text.length f.tc, .slice f.lA f.list.length f.lc] 49)).heap.size = wo.heap.size + 1 by simp] at this
        exact this
      have V5 := V.far X5 (fun x hx => by simp at hx)
      obtain ⟨ks, hksv⟩ : ∃ ks, (1 :: (fs0.take kk).map (·.kind)) = ks := ⟨_, rfl⟩
      rw [hksv] at V5 hlk hks
      replace hks := hide hks
      replace hksv := hide hksv
      replace hlk := hide hlk
      replace hf := hide hf
      clear hcF
      go_wp2_with (at_builtin; go_must (refine wpList_appI rfl (.tmp 36) (.tmp 39) rfl w3.heap.size v ks rfl V5 (some ⟨wo.heap.size + 1, 0, none⟩) 1 [f.kind] _ rfl rfl R5 (by have := hlk.out; rw [this]; simp; omega) (by simp; omega) ?_; intro v9 w9 V9 P9))
      go_roundw
      case rel =>
        refine ⟨kk + 1, _, by omega, by go_num, rfl, ?_, (O.trans X5 (by simp)).trans P9 (fun x hx => .inr (hob x (by simpa using hx)).1)⟩
        rw [hks.out]
        exact V9.out
      case measure => simp [intOf]; omega
    · obtain rfl : kk = 1 := by omega
      have V' : OwnI wo w3.heap.size v [1, 3] := by
        have e : (1 :: (fs0.take 1).map (·.kind)) = [1, 3] := by rw [List.take_of_length_le (by have := hl0.out; omega), hkk0.out]
        rw [← e]; exact V
      obtain ⟨kA, kc, rfl, RK, _, _, _⟩ := V'.rd
      have Oo : Only [] w wo := O3.trans O (by simp)
      have RR := refRead_any wo kA (some ⟨b, off, none⟩) [1, 3] l kc c RK (h.only Oo) hl (by decide) (by have := hn.out; omega) (by have := hn.out; omega) hlm
      rw [hn.out] at RR
      have RR' : Calls Tryz.prog 21 #[.slice kA 2 kc, .slice (some ⟨b, off, none⟩) ln c] wo (RefReadPost wo (readP [1, 3] l)) := RR
      obtain ⟨E, hE⟩ : ∃ E, (readP [1, 3] l).1 = E := ⟨_, rfl⟩
      have hgood := readP_good [1, 3] l hl
      have hdec : ∀ (M : MD) (E' : Int), (if (readP [1, 3] l).1 ≠ 0 then E' = (readP [1, 3] l).1 ∧ M = zeroM
          else ∃ fs : List FD, fs.map FD.pf = (readP [1, 3] l).2 ∧ if fitsP (putAll (firstM 100) [9] fs.tail) then E' = 0 ∧ M = putAll (firstM 100) [9] fs.tail else E' = 4 ∧ M = zeroM) → DecIs l M E' := fun M E' hx => by
        rw [← hll.out] at hx ⊢
        exact hx
      rw [hE] at hgood
      replace hE := hide hE
      replace hgood := hide hgood
      replace hdec := hide hdec
      have Zo := Z3.only O (by simp)
      have Mo := M3.only O (by simp)
      clear V V' RR RK
      go_wp2_with fail
      go_call RR' as e w5 ⟨P5, A5, k5, fs, rfl, hfs, V5, M5⟩
      clear RR'
      have O5 : Only [] w w5 := Oo.trans P5 (by simp)
      have Z5 := Zo.only P5 (by simp)
      have K5 := Mo.only P5 (by simp)
      rw [hE.out]
      by_cases hE0 : E = 0
      · subst hE0
        obtain ⟨g1, g2⟩ := hgood.out rfl
        rw [← hfs] at g1 g2
        have hfl : fs.length = 2 := by have := congrArg List.length g1; simpa using this
        obtain ⟨f0, f1, rfl⟩ : ∃ f0 f1, fs = [f0, f1] := by
          match fs, hfl with
          | [f0, f1], _ => exact ⟨f0, f1, rfl⟩
        obtain ⟨A', cap, eA, hcle, hcmx, hF⟩ := V5.form
        injection eA with eA1 eA2 eA3
        subst eA1
        subst eA3
        obtain ⟨bF, rfl, hbase, hbF, hcF⟩ := hF (by simp)
        have hcap : 2 ≤ k5 := hcle
        have hbw : w.heap.size + 1 < bF := by have := Mo.lt; have := P5.size; have : wo.heap.size ≤ bF := hbase; omega
        have hne4 : ¬ w.heap.size + 1 = bF := by omega
        have hne5 : ¬ bF = w.heap.size + 1 := by omega
        have hne6 : ¬ w.heap.size = bF := by omega
        have hne7 : ¬ bF = w.heap.size := by omega
        have u1 : U32 f1.n ∧ InB f1.text := g2 f1.pf (by simp)
        have o1 : f1.ok w5 := M5 f1 (by simp)
        obtain ⟨M, hM⟩ : ∃ M, putAll (firstM 100) [9] [f1] = M := ⟨_, rfl⟩
        have okM : M.ok w5 := by rw [← hM]; exact putM_ok 9 (first_ok w5 100) o1 u1.1 u1.2
        have s0 : w5.cell? ⟨w.heap.size + 1, 0, none⟩ = some (.int .i64 100) := K5.cell 0
        have hc1 : ¬ k5 = 1 := by omega
        have x1 : w5.cell? ⟨bF, 5, none⟩ = some (.int .u32 f1.n) := hcF 5 _ rfl
        have s1 : w5.cell? ⟨w.heap.size + 1, 1, none⟩ = some (.int .u32 0) := K5.cell 1
        have s2 : w5.cell? ⟨w.heap.size + 1, 2, none⟩ = some (.int .u32 0) := K5.cell 2
        have s3 : w5.cell? ⟨w.heap.size + 1, 3, none⟩ = some (.int .u32 0) := K5.cell 3
        have s4 : w5.cell? ⟨w.heap.size + 1, 4, none⟩ = some (.int .u32 0) := K5.cell 4
        have s5 : w5.cell? ⟨w.heap.size + 1, 5, none⟩ = some (.int .u32 0) := K5.cell 5
        have s6 : w5.cell? ⟨w.heap.size + 1, 6, none⟩ = some (.string ⟨#[]⟩) := K5.cell 6
        have s7 : w5.cell? ⟨w.heap.size + 1, 7, none⟩ = some (.string ⟨#[]⟩) := K5.cell 7
        have s8 : w5.cell? ⟨w.heap.size + 1, 8, none⟩ = some (.bool false) := K5.cell 8
        have s9 : w5.cell? ⟨w.heap.size + 1, 9, none⟩ = some (.slice none 0 0) := K5.cell 9
        have sf := K5.frozen 1
        obtain ⟨w6, hw6⟩ : ∃ w6, w6 = w5.setCell ⟨w.heap.size + 1, 1, none⟩ (.int .u32 f1.n) := ⟨_, rfl⟩
        have K6 : Blk w6 (w.heap.size + 1) 25 M.cells := by rw [hw6, ← hM]; exact K5.set_ 1 (.int .u32 f1.n)
        have Z6 : Blk w6 w.heap.size 25 zeroM.cells := by rw [hw6]; exact Blk.far Z5 (p := ⟨w.heap.size + 1, 1, none⟩) (by show ¬ w.heap.size = w.heap.size + 1; omega) _
        have X6 : Only [w.heap.size + 1] w5 w6 := by rw [hw6]; exact (Only.refl _ w5).setCell (p := ⟨w.heap.size + 1, 1, none⟩) (.inl (by simp)) _
        have O6 : Only [] w w6 := O5.trans X6 (fun x hx => .inr (by simp at hx; omega))
        have okM6 : M.ok w6 := okM.onlyN X6 (fun a ha h0 => far_msg K5 okM.data h0 a ha)
        have WD := refWords_any M w6 okM.name okM.lang
        obtain ⟨bf, hbf⟩ : ∃ bf, fitsP M = bf := ⟨_, rfl⟩
        rw [hbf] at WD
        unfold MD.val at WD
        replace WD : Calls Tryz.prog 18 #[.agg #[.int .i64 100, .int .u32 f1.n, .int .u32 0, .int .u32 0, .int .u32 0, .int .u32 0, .string ⟨#[]⟩, .string ⟨#[]⟩, .bool false, .slice none 0 0]] w6 (fun e w' => e = .returned (.bool bf) ∧ Only [] w6 w') := by rw [← hM] at WD; exact WD
        replace hM := hide hM
        replace hfs := hide hfs
        replace hbf := hide hbf
        go_wp2_with fail
        rw [← hw6]
        replace hw6 := hide hw6
        go_call WD as e w7 ⟨rfl, P7⟩
        clear s0
        have K7 := K6.only P7 (by simp)
        have Z7 := Z6.only P7 (by simp)
        have O7 : Only [] w w7 := O6.trans P7 (by simp)
        have okM7 : M.ok w7 := okM6.only P7
        have hlt7 := Z7.lt
        have hlk7 := K7.lt
        have hq1 : ¬ w.heap.size = w.heap.size + 1 := by omega
        have hq2 : ¬ w.heap.size + 1 = w.heap.size := by omega
        have z0 : w7.cell? ⟨w.heap.size, 0, none⟩ = some (.int .i64 0) := Z7.cell 0
        have y0 := Z7.frozen 0
        have z1 : w7.cell? ⟨w.heap.size, 1, none⟩ = some (.int .u32 0) := Z7.cell 1
        have y1 := Z7.frozen 1
        have z2 : w7.cell? ⟨w.heap.size, 2, none⟩ = some (.int .u32 0) := Z7.cell 2
        have y2 := Z7.frozen 2
        have z3 : w7.cell? ⟨w.heap.size, 3, none⟩ = some (.int .u32 0) := Z7.cell 3
        have y3 := Z7.frozen 3
        have z4 : w7.cell? ⟨w.heap.size, 4, none⟩ = some (.int .u32 0) := Z7.cell 4
        have y4 := Z7.frozen 4
        have z5 : w7.cell? ⟨w.heap.size, 5, none⟩ = some (.int .u32 0) := Z7.cell 5
        have y5 := Z7.frozen 5
        have z6 : w7.cell? ⟨w.heap.size, 6, none⟩ = some (.string ⟨#[]⟩) := Z7.cell 6
        have y6 := Z7.frozen 6
        have z7 : w7.cell? ⟨w.heap.size, 7, none⟩ = some (.string ⟨#[]⟩) := Z7.cell 7
        have y7 := Z7.frozen 7
        have z8 : w7.cell? ⟨w.heap.size, 8, none⟩ = some (.bool false) := Z7.cell 8
        have y8 := Z7.frozen 8
        have z9 : w7.cell? ⟨w.heap.size, 9, none⟩ = some (.slice none 0 0) := Z7.cell 9
        have y9 := Z7.frozen 9
        cases bf with
        | false =>
          go_wp2_with fail
          (try simp only [Exit.inBlock, Exit.then])
          refine ret_dec (g := w.heap.size) (m := zeroM) rfl (by rfl) (by rfl) (zsetB Z7) ?_
          refine ⟨zsetO (Nat.le_refl _) O7, zeroM, 4, rfl, zero_ok _, hdec.out _ _ ?_⟩
          rw [hE.out, if_neg (by simp)]
          refine ⟨_, hfs.out, ?_⟩
          show if fitsP (putAll (firstM 100) [9] [f1]) then _ else _
          rw [hM.out, hbf.out, if_neg (by simp)]
          exact ⟨rfl, rfl⟩
        | true =>
          have a0 : w7.cell? ⟨w.heap.size + 1, 0, none⟩ = some (.int .i64 M.kind) := K7.cell 0
          have a1 : w7.cell? ⟨w.heap.size + 1, 1, none⟩ = some (.int .u32 M.chan) := K7.cell 1
          have a2 : w7.cell? ⟨w.heap.size + 1, 2, none⟩ = some (.int .u32 M.sender) := K7.cell 2
          have a3 : w7.cell? ⟨w.heap.size + 1, 3, none⟩ = some (.int .u32 M.window) := K7.cell 3
          have a4 : w7.cell? ⟨w.heap.size + 1, 4, none⟩ = some (.int .u32 M.packet) := K7.cell 4
          have a5 : w7.cell? ⟨w.heap.size + 1, 5, none⟩ = some (.int .u32 M.code) := K7.cell 5
          have a6 : w7.cell? ⟨w.heap.size + 1, 6, none⟩ = some (.string M.name) := K7.cell 6
          have a7 : w7.cell? ⟨w.heap.size + 1, 7, none⟩ = some (.string M.lang) := K7.cell 7
          have a8 : w7.cell? ⟨w.heap.size + 1, 8, none⟩ = some (.bool M.want) := K7.cell 8
          have a9 : w7.cell? ⟨w.heap.size + 1, 9, none⟩ = some (.slice M.dA M.data.length M.dc) := K7.cell 9
          go_wp2_with fail
          (try simp only [Exit.inBlock, Exit.then])
          refine ret_dec (g := w.heap.size) (m := M) rfl (by rfl) (by rfl) (msetB M Z7) ?_
          refine ⟨msetO M (.inr (Nat.le_refl _)) O7, M, 0, rfl, okM7.onlyN (q := w.heap.size) (msetO M (.inl (by simp)) (Only.refl _ _)) (fun a ha h0 => far_msg Z7 okM7.data h0 a ha), hdec.out _ _ ?_⟩
          rw [hE.out, if_neg (by simp)]
          refine ⟨_, hfs.out, ?_⟩
          show if fitsP (putAll (firstM 100) [9] [f1]) then _ else _
          rw [hM.out, hbf.out, if_pos rfl]
          exact ⟨rfl, hM.out.symm⟩
      · replace hfs := hide hfs
        have z0 : w5.cell? ⟨w.heap.size, 0, none⟩ = some (.int .i64 0) := Z5.cell 0
        have y0 := Z5.frozen 0
        have z1 : w5.cell? ⟨w.heap.size, 1, none⟩ = some (.int .u32 0) := Z5.cell 1
        have y1 := Z5.frozen 1
        have z2 : w5.cell? ⟨w.heap.size, 2, none⟩ = some (.int .u32 0) := Z5.cell 2
        have y2 := Z5.frozen 2
        have z3 : w5.cell? ⟨w.heap.size, 3, none⟩ = some (.int .u32 0) := Z5.cell 3
        have y3 := Z5.frozen 3
        have z4 : w5.cell? ⟨w.heap.size, 4, none⟩ = some (.int .u32 0) := Z5.cell 4
        have y4 := Z5.frozen 4
        have z5 : w5.cell? ⟨w.heap.size, 5, none⟩ = some (.int .u32 0) := Z5.cell 5
        have y5 := Z5.frozen 5
        have z6 : w5.cell? ⟨w.heap.size, 6, none⟩ = some (.string ⟨#[]⟩) := Z5.cell 6
        have y6 := Z5.frozen 6
        have z7 : w5.cell? ⟨w.heap.size, 7, none⟩ = some (.string ⟨#[]⟩) := Z5.cell 7
        have y7 := Z5.frozen 7
        have z8 : w5.cell? ⟨w.heap.size, 8, none⟩ = some (.bool false) := Z5.cell 8
        have y8 := Z5.frozen 8
        have z9 : w5.cell? ⟨w.heap.size, 9, none⟩ = some (.slice none 0 0) := Z5.cell 9
        have y9 := Z5.frozen 9
        go_wp2_with fail
        (try simp only [Exit.inBlock, Exit.then])
        refine ret_dec (g := w.heap.size) (m := zeroM) rfl (by rfl) (by rfl) (zsetB Z5) ?_
        exact ⟨zsetO (Nat.le_refl _) O5, zeroM, E, rfl, zero_ok _, hdec.out _ _ (by rw [hE.out, if_pos hE0]; exact ⟨rfl, rfl⟩)⟩
set_option maxRecDepth 100000 in
set_option maxHeartbeats 6400000 in
theorem rdec_k81 (A : Option Addr) (t : List Int) (c : Nat) (w : World) (h : Rd w A (81 :: t)) (hl : InB (81 :: t)) (hln : (81 :: t : List Int).length ≤ 140737488355000) (hlc : (81 :: t : List Int).length ≤ c) (hlm : c ≤ maxLen) :
    Calls Tryz.prog 13 #[.slice A (81 :: t : List Int).length c] w (RDecPost w (81 :: t)) := by
  obtain ⟨b, off, y, rfl, hb, hy, cx⟩ := RdG.at (mk := .int .u8) h 0 (by simp)
  simp at hy
  subst hy
  rw [Nat.add_zero] at cx
  obtain ⟨l, hll⟩ : ∃ l : List Int, (81 :: t) = l := ⟨_, rfl⟩
  have hk1 : l.head? = some 81 := by rw [← hll]; rfl
  rw [hll] at h hl hln hlc ⊢
  obtain ⟨ln, hn⟩ : ∃ ln, l.length = ln := ⟨_, rfl⟩
  have hn1 : 1 ≤ ln := by rw [← hn, ← hll]; simp
  have hn0 : ((ln : Int) == 0) = false := by simp; omega
  have hn00 : ln ≠ 0 := by omega
  obtain ⟨w1, hw1⟩ : ∃ w1, w1 = w.alloc (.cells #[.int .i64 0, .int .u32 0, .int .u32 0, .int .u32 0, .int .u32 0, .int .u32 0, .string ⟨#[]⟩, .string ⟨#[]⟩, .bool false, .slice none 0 0] 25) := ⟨_, rfl⟩
  have hz1 : w1.heap.size = w.heap.size + 1 := by rw [hw1]; simp
  obtain ⟨w2, hw2⟩ : ∃ w2, w2 = w1.alloc (.cells #[.int .i64 81, .int .u32 0, .int .u32 0, .int .u32 0, .int .u32 0, .int .u32 0, .string ⟨#[]⟩, .string ⟨#[]⟩, .bool false, .slice none 0 0] 25) := ⟨_, rfl⟩
  have O1 : Only [] w w1 := by rw [hw1]; exact (Only.refl _ _).alloc _
  have P12 : Only [] w1 w2 := by rw [hw2]; exact (Only.refl _ _).alloc _
  have O2 : Only [] w w2 := O1.trans P12 (by simp)
  have Z2 : Blk w2 w.heap.size 25 zeroM.cells := by rw [hw2, hw1]; exact (Blk.new w _ _).alloc _
  have M2 : Blk w2 (w.heap.size + 1) 25 (firstM 81).cells := by
    rw [← hz1, hw2]
    exact Blk.new w1 25 (firstM 81).cells
  have FA : Calls Tryz.prog 17 #[.agg #[.int .i64 81, .int .u32 0, .int .u32 0, .int .u32 0, .int .u32 0, .int .u32 0, .string ⟨#[]⟩, .string ⟨#[]⟩, .bool false, .slice none 0 0]] w2 (FieldsPost w2 (firstM 81)) := fields_any (firstM 81) w2 (first_ok _ _) (Nat.zero_le _) (Nat.zero_le _)
  unfold FieldsPost at FA
  rw [show rowL (firstM 81).kind = some [5] from rfl] at FA
  rw [hn] at hln hlc ⊢
  replace hn := hide hn
  replace hll := hide hll
  replace hk1 := hide hk1
  go_enter Tryz.func13, Tryz.ntmps13
  go_wp2_with fail
  rw [← hw1, ← hw2]
  replace hw1 := hide hw1
  replace hw2 := hide hw2
  replace hz1 := hide hz1
  go_call FA as e w3 ⟨P3, A0, c0, fs0, rfl, RF0, hfs0, hc0, hm0⟩
  clear FA
  have O3 : Only [] w w3 := O2.trans P3 (by simp)
  have Z3 := Z2.only P3 (by simp)
  have M3 := M2.only P3 (by simp)
  have hl0 : fs0.length = 1 := by have := congrArg List.length hfs0; simpa using this
  have hkk0 : fs0.map (·.kind) = [6] := by
    have := congrArg (List.map PF.kind) hfs0
    rw [List.map_map, List.map_map] at this
    exact this
  have V4 := ownI_one w3 1
  have X4 : Only [] w3 (w3.alloc (.cells #[.int .i64 1] 3)) := (Only.refl _ _).alloc _
  rw [hl0] at hc0 ⊢
  replace hl0 := hide hl0
  replace hfs0 := hide hfs0
  replace hkk0 := hide hkk0
  go_wp2_with fail
  go_loopw [32, 7] (fun i o wr => ∃ (kk : Nat) (v : Value), kk ≤ 1 ∧ i = .int .i64 kk ∧ v = o ∧ OwnI wr w3.heap.size v (1 :: (fs0.take kk).map (·.kind)) ∧ Only [] w3 wr) (fun i _ _ => 1 - (intOf i).toNat)
  case atStart => exact ⟨0, _, by omega, rfl, rfl, V4, X4⟩
  case round =>
    obtain ⟨wo, rfl⟩ : ∃ wo : World, wo = wr := ⟨_, rfl⟩
    obtain ⟨kk, v, hkn, rfl, rfl, V, O⟩ := hrel
    have hob := V.block
    have z0 := O.size
    by_cases hlt : kk < 1
    · obtain ⟨f, hf⟩ : ∃ f, fs0[kk]? = some f := ⟨_, List.getElem?_eq_getElem (by have := hl0.out; omega)⟩
      obtain ⟨bF, oF, rfl, hbF, hcF⟩ := (RF0.only O).cells (by have := hl0.out; omega)
      obtain ⟨c0', c1, c2, c3⟩ := hcF kk f hf
      have hks : (1 :: (fs0.take (kk + 1)).map (·.kind)) = (1 :: (fs0.take kk).map (·.kind)) ++ [f.kind] := by
        rw [take_snocG hf, List.map_append]
        rfl
      have hlk : (1 :: (fs0.take kk).map (·.kind)).length = kk + 1 := by rw [List.length_cons, List.length_map, List.length_take]; have := hl0.out; omega
      have X5 : Only [] wo ((wo.alloc (.cells #[.int .i64 f.kind, .int .u32 f.n, .slice f.tA f.text.length f.tc, .slice f.lA f.list.length f.lc] 49)).alloc (.cells #[.int .i64 f.kind] 3)) := ((Only.refl _ _).alloc _).alloc _
      have R5 : RdI ((wo.alloc (.cells #[.int .i64 f.kind, .int .u32 f.n, .slice f.tA f.text.length f.tc, .slice f.lA f.list.length f.lc] 49)).alloc (.cells #[.int .i64 f.kind] 3)) (some ⟨wo.heap.size + 1, 0, none⟩) [f.kind] := by
        have := rdI_new (wo.alloc (.cells #[.int .i64 f.kind, .int .u32 f.n, .slice f.tA f.text.length f.tc, .slice f.lA f.list.length f.lc] 49)) #[.int .i64 f.kind] [f.kind] rfl
        rw [show (wo.alloc (.cells #[.int .i64 f.kind, .int .u32 f.n, .slice f.tA f.text.length f.tc, .slice f.lA f.list.length f.lc] 49)).heap.size = wo.heap.size + 1 by simp] at this
        exact this
      have V5 := V.far X5 (fun x hx => by simp at hx)
      obtain ⟨ks, hksv⟩ : ∃ ks, (1 :: (fs0.take kk).map (·.kind)) = ks := ⟨_, rfl⟩
      rw [hksv] at V5 hlk hks
      replace hks := hide hks
      replace hksv := hide hksv
      replace hlk := hide hlk
      replace hf := hide hf
      clear hcF
      go_wp2_with (at_builtin; go_must (refine wpList_appI rfl (.tmp 36) (.tmp 39) rfl w3.heap.size v ks rfl V5 (some ⟨wo.heap.size + 1, 0, none⟩) 1 [f.kind] _ rfl rfl R5 (by have := hlk.out; rw [this]; simp; omega) (by simp; omega) ?_; intro v9 w9 V9 P9))
      go_roundw
      case rel =>
        refine ⟨kk + 1, _, by omega, by go_num, rfl, ?_, (O.trans X5 (by simp)).trans P9 (fun x hx => .inr (hob x (by simpa using hx)).1)⟩
        rw [hks.out]
        exact V9.out
      case measure => simp [intOf]; omega
    · obtain rfl : kk = 1 := by omega
      have V' : OwnI wo w3.heap.size v [1, 6] := by
        have e : (1 :: (fs0.take 1).map (·.kind)) = [1, 6] := by rw [List.take_of_length_le (by have := hl0.out; omega), hkk0.out]
        rw [← e]; exact V
      obtain ⟨kA, kc, rfl, RK, _, _, _⟩ := V'.rd
      have Oo : Only [] w wo := O3.trans O (by simp)
      have RR := refRead_any wo kA (some ⟨b, off, none⟩) [1, 6] l kc c RK (h.only Oo) hl (by decide) (by have := hn.out; omega) (by have := hn.out; omega) hlm
      rw [hn.out] at RR
      have RR' : Calls Tryz.prog 21 #[.slice kA 2 kc, .slice (some ⟨b, off, none⟩) ln c] wo (RefReadPost wo (readP [1, 6] l)) := RR
      obtain ⟨E, hE⟩ : ∃ E, (readP [1, 6] l).1 = E := ⟨_, rfl⟩
      have hgood := readP_good [1, 6] l hl
      have hdec : ∀ (M : MD) (E' : Int), (if (readP [1, 6] l).1 ≠ 0 then E' = (readP [1, 6] l).1 ∧ M = zeroM
          else ∃ fs : List FD, fs.map FD.pf = (readP [1, 6] l).2 ∧ if fitsP (putAll (firstM 81) [5] fs.tail) then E' = 0 ∧ M = putAll (firstM 81) [5] fs.tail else E' = 4 ∧ M = zeroM) → DecIs l M E' := fun M E' hx => by
        rw [← hll.out] at hx ⊢
        exact hx
      rw [hE] at hgood
      replace hE := hide hE
      replace hgood := hide hgood
      replace hdec := hide hdec
      have Zo := Z3.only O (by simp)
      have Mo := M3.only O (by simp)
      clear V V' RR RK
      go_wp2_with fail
      go_call RR' as e w5 ⟨P5, A5, k5, fs, rfl, hfs, V5, M5⟩
      clear RR'
      have O5 : Only [] w w5 := Oo.trans P5 (by simp)
      have Z5 := Zo.only P5 (by simp)
      have K5 := Mo.only P5 (by simp)
      rw [hE.out]
      by_cases hE0 : E = 0
      · subst hE0
        obtain ⟨g1, g2⟩ := hgood.out rfl
        rw [← hfs] at g1 g2
        have hfl : fs.length = 2 := by have := congrArg List.length g1; simpa using this
        obtain ⟨f0, f1, rfl⟩ : ∃ f0 f1, fs = [f0, f1] := by
          match fs, hfl with
          | [f0, f1], _ => exact ⟨f0, f1, rfl⟩
        obtain ⟨A', cap, eA, hcle, hcmx, hF⟩ := V5.form
        injection eA with eA1 eA2 eA3
        subst eA1
        subst eA3
        obtain ⟨bF, rfl, hbase, hbF, hcF⟩ := hF (by simp)
        have hcap : 2 ≤ k5 := hcle
        have hbw : w.heap.size + 1 < bF := by have := Mo.lt; have := P5.size; have : wo.heap.size ≤ bF := hbase; omega
        have hne4 : ¬ w.heap.size + 1 = bF := by omega
        have hne5 : ¬ bF = w.heap.size + 1 := by omega
        have hne6 : ¬ w.heap.size = bF := by omega
        have hne7 : ¬ bF = w.heap.size := by omega
        have u1 : U32 f1.n ∧ InB f1.text := g2 f1.pf (by simp)
        have o1 : f1.ok w5 := M5 f1 (by simp)
        obtain ⟨M, hM⟩ : ∃ M, putAll (firstM 81) [5] [f1] = M := ⟨_, rfl⟩
        have okM : M.ok w5 := by rw [← hM]; exact putM_ok 5 (first_ok w5 81) o1 u1.1 u1.2
        have s0 : w5.cell? ⟨w.heap.size + 1, 0, none⟩ = some (.int .i64 81) := K5.cell 0
        have hc1 : ¬ k5 = 1 := by omega
        have x1 : w5.cell? ⟨bF, 6, none⟩ = some (.slice f1.tA f1.text.length f1.tc) := hcF 6 _ rfl
        have s1 : w5.cell? ⟨w.heap.size + 1, 1, none⟩ = some (.int .u32 0) := K5.cell 1
        have s2 : w5.cell? ⟨w.heap.size + 1, 2, none⟩ = some (.int .u32 0) := K5.cell 2
        have s3 : w5.cell? ⟨w.heap.size + 1, 3, none⟩ = some (.int .u32 0) := K5.cell 3
        have s4 : w5.cell? ⟨w.heap.size + 1, 4, none⟩ = some (.int .u32 0) := K5.cell 4
        have s5 : w5.cell? ⟨w.heap.size + 1, 5, none⟩ = some (.int .u32 0) := K5.cell 5
        have s6 : w5.cell? ⟨w.heap.size + 1, 6, none⟩ = some (.string ⟨#[]⟩) := K5.cell 6
        have s7 : w5.cell? ⟨w.heap.size + 1, 7, none⟩ = some (.string ⟨#[]⟩) := K5.cell 7
        have s8 : w5.cell? ⟨w.heap.size + 1, 8, none⟩ = some (.bool false) := K5.cell 8
        have s9 : w5.cell? ⟨w.heap.size + 1, 9, none⟩ = some (.slice none 0 0) := K5.cell 9
        have sf := K5.frozen 9
        obtain ⟨w6, hw6⟩ : ∃ w6, w6 = w5.setCell ⟨w.heap.size + 1, 9, none⟩ (.slice f1.tA f1.text.length f1.tc) := ⟨_, rfl⟩
        have K6 : Blk w6 (w.heap.size + 1) 25 M.cells := by rw [hw6, ← hM]; exact K5.set_ 9 (.slice f1.tA f1.text.length f1.tc)
        have Z6 : Blk w6 w.heap.size 25 zeroM.cells := by rw [hw6]; exact Blk.far Z5 (p := ⟨w.heap.size + 1, 9, none⟩) (by show ¬ w.heap.size = w.heap.size + 1; omega) _
        have X6 : Only [w.heap.size + 1] w5 w6 := by rw [hw6]; exact (Only.refl _ w5).setCell (p := ⟨w.heap.size + 1, 9, none⟩) (.inl (by simp)) _
        have O6 : Only [] w w6 := O5.trans X6 (fun x hx => .inr (by simp at hx; omega))
        have okM6 : M.ok w6 := okM.onlyN X6 (fun a ha h0 => far_msg K5 okM.data h0 a ha)
        have WD := refWords_any M w6 okM.name okM.lang
        obtain ⟨bf, hbf⟩ : ∃ bf, fitsP M = bf := ⟨_, rfl⟩
        rw [hbf] at WD
        unfold MD.val at WD
        replace WD : Calls Tryz.prog 18 #[.agg #[.int .i64 81, .int .u32 0, .int .u32 0, .int .u32 0, .int .u32 0, .int .u32 0, .string ⟨#[]⟩, .string ⟨#[]⟩, .bool false, .slice f1.tA f1.text.length f1.tc]] w6 (fun e w' => e = .returned (.bool bf) ∧ Only [] w6 w') := by rw [← hM] at WD; exact WD
        replace hM := hide hM
        replace hfs := hide hfs
        replace hbf := hide hbf
        go_wp2_with fail
        rw [← hw6]
        replace hw6 := hide hw6
        go_call WD as e w7 ⟨rfl, P7⟩
        clear s0
        have K7 := K6.only P7 (by simp)
        have Z7 := Z6.only P7 (by simp)
        have O7 : Only [] w w7 := O6.trans P7 (by simp)
        have okM7 : M.ok w7 := okM6.only P7
        have hlt7 := Z7.lt
        have hlk7 := K7.lt
        have hq1 : ¬ w.heap.size = w.heap.size + 1 := by omega
        have hq2 : ¬ w.heap.size + 1 = w.heap.size := by omega
        have z0 : w7.cell? ⟨w.heap.size, 0, none⟩ = some (.int .i64 0) := Z7.cell 0
        have y0 := Z7.frozen 0
        have z1 : w7.cell? ⟨w.heap.size, 1, none⟩ = some (.int .u32 0) := Z7.cell 1
        have y1 := Z7.frozen 1
        have z2 : w7.cell? ⟨w.heap.size, 2, none⟩ = some (.int .u32 0) := Z7.cell 2
        have y2 := Z7.frozen 2
        have z3 : w7.cell? ⟨w.heap.size, 3, none⟩ = some (.int .u32 0) := Z7.cell 3
        have y3 := Z7.frozen 3
        have z4 : w7.cell? ⟨w.heap.size, 4, none⟩ = some (.int .u32 0) := Z7.cell 4
        have y4 := Z7.frozen 4
        have z5 : w7.cell? ⟨w.heap.size, 5, none⟩ = some (.int .u32 0) := Z7.cell 5
        have y5 := Z7.frozen 5
        have z6 : w7.cell? ⟨w.heap.size, 6, none⟩ = some (.string ⟨#[]⟩) := Z7.cell 6
        have y6 := Z7.frozen 6
        have z7 : w7.cell? ⟨w.heap.size, 7, none⟩ = some (.string ⟨#[]⟩) := Z7.cell 7
        have y7 := Z7.frozen 7
        have z8 : w7.cell? ⟨w.heap.size, 8, none⟩ = some (.bool false) := Z7.cell 8
        have y8 := Z7.frozen 8
        have z9 : w7.cell? ⟨w.heap.size, 9, none⟩ = some (.slice none 0 0) := Z7.cell 9
        have y9 := Z7.frozen 9
        cases bf with
        | false =>
          go_wp2_with fail
          (try simp only [Exit.inBlock, Exit.then])
          refine ret_dec (g := w.heap.size) (m := zeroM) rfl (by rfl) (by rfl) (zsetB Z7) ?_
          refine ⟨zsetO (Nat.le_refl _) O7, zeroM, 4, rfl, zero_ok _, hdec.out _ _ ?_⟩
          rw [hE.out, if_neg (by simp)]
          refine ⟨_, hfs.out, ?_⟩
          show if fitsP (putAll (firstM 81) [5] [f1]) then _ else _
          rw [hM.out, hbf.out, if_neg (by simp)]
          exact ⟨rfl, rfl⟩
        | true =>
          have a0 : w7.cell? ⟨w.heap.size + 1, 0, none⟩ = some (.int .i64 M.kind) := K7.cell 0
          have a1 : w7.cell? ⟨w.heap.size + 1, 1, none⟩ = some (.int .u32 M.chan) := K7.cell 1
          have a2 : w7.cell? ⟨w.heap.size + 1, 2, none⟩ = some (.int .u32 M.sender) := K7.cell 2
          have a3 : w7.cell? ⟨w.heap.size + 1, 3, none⟩ = some (.int .u32 M.window) := K7.cell 3
          have a4 : w7.cell? ⟨w.heap.size + 1, 4, none⟩ = some (.int .u32 M.packet) := K7.cell 4
          have a5 : w7.cell? ⟨w.heap.size + 1, 5, none⟩ = some (.int .u32 M.code) := K7.cell 5
          have a6 : w7.cell? ⟨w.heap.size + 1, 6, none⟩ = some (.string M.name) := K7.cell 6
          have a7 : w7.cell? ⟨w.heap.size + 1, 7, none⟩ = some (.string M.lang) := K7.cell 7
          have a8 : w7.cell? ⟨w.heap.size + 1, 8, none⟩ = some (.bool M.want) := K7.cell 8
          have a9 : w7.cell? ⟨w.heap.size + 1, 9, none⟩ = some (.slice M.dA M.data.length M.dc) := K7.cell 9
          go_wp2_with fail
          (try simp only [Exit.inBlock, Exit.then])
          refine ret_dec (g := w.heap.size) (m := M) rfl (by rfl) (by rfl) (msetB M Z7) ?_
          refine ⟨msetO M (.inr (Nat.le_refl _)) O7, M, 0, rfl, okM7.onlyN (q := w.heap.size) (msetO M (.inl (by simp)) (Only.refl _ _)) (fun a ha h0 => far_msg Z7 okM7.data h0 a ha), hdec.out _ _ ?_⟩
          rw [hE.out, if_neg (by simp)]
          refine ⟨_, hfs.out, ?_⟩
          show if fitsP (putAll (firstM 81) [5] [f1]) then _ else _
          rw [hM.out, hbf.out, if_pos rfl]
          exact ⟨rfl, hM.out.symm⟩
      · replace hfs := hide hfs
        have z0 : w5.cell? ⟨w.heap.size, 0, none⟩ = some (.int .i64 0) := Z5.cell 0
        have y0 := Z5.frozen 0
        have z1 : w5.cell? ⟨w.heap.size, 1, none⟩ = some (.int .u32 0) := Z5.cell 1
        have y1 := Z5.frozen 1
        have z2 : w5.cell? ⟨w.heap.size, 2, none⟩ = some (.int .u32 0) := Z5.cell 2
        have y2 := Z5.frozen 2
        have z3 : w5.cell? ⟨w.heap.size, 3, none⟩ = some (.int .u32 0) := Z5.cell 3
        have y3 := Z5.frozen 3
        have z4 : w5.cell? ⟨w.heap.size, 4, none⟩ = some (.int .u32 0) := Z5.cell 4
        have y4 := Z5.frozen 4
        have z5 : w5.cell? ⟨w.heap.size, 5, none⟩ = some (.int .u32 0) := Z5.cell 5
        have y5 := Z5.frozen 5
        have z6 : w5.cell? ⟨w.heap.size, 6, none⟩ = some (.string ⟨#[]⟩) := Z5.cell 6
        have y6 := Z5.frozen 6
        have z7 : w5.cell? ⟨w.heap.size, 7, none⟩ = some (.string ⟨#[]⟩) := Z5.cell 7
        have y7 := Z5.frozen 7
        have z8 : w5.cell? ⟨w.heap.size, 8, none⟩ = some (.bool false) := Z5.cell 8
        have y8 := Z5.frozen 8
        have z9 : w5.cell? ⟨w.heap.size, 9, none⟩ = some (.slice none 0 0) := Z5.cell 9
        have y9 := Z5.frozen 9
        go_wp2_with fail
        (try simp only [Exit.inBlock, Exit.then])
        refine ret_dec (g := w.heap.size) (m := zeroM) rfl (by rfl) (by rfl) (zsetB Z5) ?_
        exact ⟨zsetO (Nat.le_refl _) O5, zeroM, E, rfl, zero_ok _, hdec.out _ _ (by rw [hE.out, if_pos hE0]; exact ⟨rfl, rfl⟩)⟩
end Go.Proofs.YtdmjabfjkkjhbaaGreatDoor
