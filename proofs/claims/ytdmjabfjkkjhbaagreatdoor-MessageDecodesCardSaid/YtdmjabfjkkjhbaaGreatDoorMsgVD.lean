/- The document's answer for layer 3: Decode; no condition but the number of bytes. -/
import Derived.Test.YtdmjabfjkkjhbaaGreatDoorMsgV
namespace Go.Proofs.YtdmjabfjkkjhbaaGreatDoor
set_option linter.all false
open Go.RowKit

set_option maxRecDepth 100000 in
set_option maxHeartbeats 6400000 in
theorem rdec_k90 (A : Option Addr) (t : List Int) (c : Nat) (w : World) (h : Rd w A (90 :: t)) (hl : InB (90 :: t)) (hln : (90 :: t : List Int).length ≤ 140737488355000) (hlc : (90 :: t : List Int).length ≤ c) (hlm : c ≤ maxLen) :
    Calls Tryz.prog 13 #[.slice A (90 :: t : List Int).length c] w (RDecPost w (90 :: t)) := by
  obtain ⟨b, off, y, rfl, hb, hy, cx⟩ := RdG.at (mk := .int .u8) h 0 (by simp)
  simp at hy
  subst hy
  rw [Nat.add_zero] at cx
  obtain ⟨l, hll⟩ : ∃ l : List Int, (90 :: t) = l := ⟨_, rfl⟩
  have hk1 : l.head? = some 90 := by rw [← hll]; rfl
  rw [hll] at h hl hln hlc ⊢
  obtain ⟨ln, hn⟩ : ∃ ln, l.length = ln := ⟨_, rfl⟩
  have hn1 : 1 ≤ ln := by rw [← hn, ← hll]; simp
  have hn0 : ((ln : Int) == 0) = false := by simp; omega
  have hn00 : ln ≠ 0 := by omega
  obtain ⟨w1, hw1⟩ : ∃ w1, w1 = w.alloc (.cells #[.int .i64 0, .int .u32 0, .int .u32 0, .int .u32 0, .int .u32 0, .int .u32 0, .string ⟨#[]⟩, .string ⟨#[]⟩, .bool false, .slice none 0 0] 25) := ⟨_, rfl⟩
  have hz1 : w1.heap.size = w.heap.size + 1 := by rw [hw1]; simp
  obtain ⟨w2, hw2⟩ : ∃ w2, w2 = w1.alloc (.cells #[.int .i64 90, .int .u32 0, .int .u32 0, .int .u32 0, .int .u32 0, .int .u32 0, .string ⟨#[]⟩, .string ⟨#[]⟩, .bool false, .slice none 0 0] 25) := ⟨_, rfl⟩
  have O1 : Only [] w w1 := by rw [hw1]; exact (Only.refl _ _).alloc _
  have P12 : Only [] w1 w2 := by rw [hw2]; exact (Only.refl _ _).alloc _
  have O2 : Only [] w w2 := O1.trans P12 (by simp)
  have Z2 : Blk w2 w.heap.size 25 zeroM.cells := by rw [hw2, hw1]; exact (Blk.new w _ _).alloc _
  have M2 : Blk w2 (w.heap.size + 1) 25 (firstM 90).cells := by
    rw [← hz1, hw2]
    exact Blk.new w1 25 (firstM 90).cells
  have FA : Calls Tryz.prog 17 #[.agg #[.int .i64 90, .int .u32 0, .int .u32 0, .int .u32 0, .int .u32 0, .int .u32 0, .string ⟨#[]⟩, .string ⟨#[]⟩, .bool false, .slice none 0 0]] w2 (FieldsPost w2 (firstM 90)) := fields_any (firstM 90) w2 (first_ok _ _) (Nat.zero_le _) (Nat.zero_le _)
  unfold FieldsPost at FA
  rw [show rowL (firstM 90).kind = some [3, 6, 7, 8, 5] from rfl] at FA
  rw [hn] at hln hlc ⊢
  replace hn := hide hn
  replace hll := hide hll
  replace hk1 := hide hk1
  go_enter Tryz.func13, Tryz.ntmps13
  go_wp2_with fail
  rw [← hw1, ← hw2]
  replace hw1 := hide hw1
  replace hw2 := hide hw2
  replace hz1 := hide hz1
  go_call FA as e w3 ⟨P3, A0, c0, fs0, rfl, RF0, hfs0, hc0, hm0⟩
  clear FA
  have O3 : Only [] w w3 := O2.trans P3 (by simp)
  have Z3 := Z2.only P3 (by simp)
  have M3 := M2.only P3 (by simp)
  have hl0 : fs0.length = 5 := by have := congrArg List.length hfs0; simpa using this
  have hkk0 : fs0.map (·.kind) = [4, 3, 3, 3, 6] := by
    have := congrArg (List.map PF.kind) hfs0
    rw [List.map_map, List.map_map] at this
    exact this
  have V4 := ownI_one w3 1
  have X4 : Only [] w3 (w3.alloc (.cells #[.int .i64 1] 3)) := (Only.refl _ _).alloc _
  rw [hl0] at hc0 ⊢
  replace hl0 := hide hl0
  replace hfs0 := hide hfs0
  replace hkk0 := hide hkk0
  go_wp2_with fail
  go_loopw [32, 7] (fun i o wr => ∃ (kk : Nat) (v : Value), kk ≤ 5 ∧ i = .int .i64 kk ∧ v = o ∧ OwnI wr w3.heap.size v (1 :: (fs0.take kk).map (·.kind)) ∧ Only [] w3 wr) (fun i _ _ => 5 - (intOf i).toNat)
  case atStart => exact ⟨0, _, by omega, rfl, rfl, V4, X4⟩
  case round =>
    obtain ⟨wo, rfl⟩ : ∃ wo : World, wo = wr := ⟨_, rfl⟩
    obtain ⟨kk, v, hkn, rfl, rfl, V, O⟩ := hrel
    have hob := V.block
    have z0 := O.size
    by_cases hlt : kk < 5
    · obtain ⟨f, hf⟩ : ∃ f, fs0[kk]? = some f := ⟨_, List.getElem?_eq_getElem (by have := hl0.out; omega)⟩
      obtain ⟨bF, oF, rfl, hbF, hcF⟩ := (RF0.only O).cells (by have := hl0.out; omega)
      obtain ⟨c0', c1, c2, c3⟩ := hcF kk f hf
      have hks : (1 :: (fs0.take (kk + 1)).map (·.kind)) = (1 :: (fs0.take kk).map (·.kind)) ++ [f.kind] := by
        rw [take_snocG hf, List.map_append]
        rfl
      have hlk : (1 :: (fs0.take kk).map (·.kind)).length = kk + 1 := by rw [List.length_cons, List.length_map, List.length_take]; have := hl0.out; omega
      have X5 : Only [] wo ((wo.alloc (.cells #[.int .i64 f.kind, .int .u32 f.n, .slice f.tA f.text.length f.tc, .slice f.lA f.list.length f.lc] 49)).alloc (.cells #[.int .i64 f.kind] 3)) := ((Only.refl _ _).alloc _).alloc _
      have R5 : RdI ((wo.alloc (.cells #[.int .i64 f.kind, .int .u32 f.n, .slice f.tA f.text.length f.tc, .slice f.lA f.list.length f.lc] 49)).alloc (.cells #[.int .i64 f.kind] 3)) (some ⟨wo.heap.size + 1, 0, none⟩) [f.kind] := by
        have := rdI_new (wo.alloc (.cells #[.int .i64 f.kind, .int .u32 f.n, .slice f.tA f.text.length f.tc, .slice f.lA f.list.length f.lc] 49)) #[.int .i64 f.kind] [f.kind] rfl
        rw [show (wo.alloc (.cells #[.int .i64 f.kind, .int .u32 f.n, .slice f.tA f.text.length f.tc, .slice f.lA f.list.length f.lc] 49)).heap.size = wo.heap.size + 1 by simp] at this
        exact this
      have V5 := V.far X5 (fun x hx => by simp at hx)
      obtain ⟨ks, hksv⟩ : ∃ ks, (1 :: (fs0.take kk).map (·.kind)) = ks := ⟨_, rfl⟩
      rw [hksv] at V5 hlk hks
      replace hks := hide hks
      replace hksv := hide hksv
      replace hlk := hide hlk
      replace hf := hide hf
      clear hcF
      go_wp2_with (at_builtin; go_must (refine wpList_appI rfl (.tmp 36) (.tmp 39) rfl w3.heap.size v ks rfl V5 (some ⟨wo.heap.size + 1, 0, none⟩) 1 [f.kind] _ rfl rfl R5 (by have := hlk.out; rw [this]; simp; omega) (by simp; omega) ?_; intro v9 w9 V9 P9))
      go_roundw
      case rel =>
        refine ⟨kk + 1, _, by omega, by go_num, rfl, ?_, (O.trans X5 (by simp)).trans P9 (fun x hx => .inr (hob x (by simpa using hx)).1)⟩
        rw [hks.out]
        exact V9.out
      case measure => simp [intOf]; omega
    · obtain rfl : kk = 5 := by omega
      have V' : OwnI wo w3.heap.size v [1, 4, 3, 3, 3, 6] := by
        have e : (1 :: (fs0.take 5).map (·.kind)) = [1, 4, 3, 3, 3, 6] := by rw [List.take_of_length_le (by have := hl0.out; omega), hkk0.out]
        rw [← e]; exact V
      obtain ⟨kA, kc, rfl, RK, _, _, _⟩ := V'.rd
      have Oo : Only [] w wo := O3.trans O (by simp)
      have RR := refRead_any wo kA (some ⟨b, off, none⟩) [1, 4, 3, 3, 3, 6] l kc c RK (h.only Oo) hl (by decide) (by have := hn.out; omega) (by have := hn.out; omega) hlm
      rw [hn.out] at RR
      have RR' : Calls Tryz.prog 21 #[.slice kA 6 kc, .slice (some ⟨b, off, none⟩) ln c] wo (RefReadPost wo (readP [1, 4, 3, 3, 3, 6] l)) := RR
      obtain ⟨E, hE⟩ : ∃ E, (readP [1, 4, 3, 3, 3, 6] l).1 = E := ⟨_, rfl⟩
      have hgood := readP_good [1, 4, 3, 3, 3, 6] l hl
      have hdec : ∀ (M : MD) (E' : Int), (if (readP [1, 4, 3, 3, 3, 6] l).1 ≠ 0 then E' = (readP [1, 4, 3, 3, 3, 6] l).1 ∧ M = zeroM
          else ∃ fs : List FD, fs.map FD.pf = (readP [1, 4, 3, 3, 3, 6] l).2 ∧ if fitsP (putAll (firstM 90) [3, 6, 7, 8, 5] fs.tail) then E' = 0 ∧ M = putAll (firstM 90) [3, 6, 7, 8, 5] fs.tail else E' = 4 ∧ M = zeroM) → DecIs l M E' := fun M E' hx => by
        rw [← hll.out] at hx ⊢
        exact hx
      rw [hE] at hgood
      replace hE := hide hE
      replace hgood := hide hgood
      replace hdec := hide hdec
      have Zo := Z3.only O (by simp)
      have Mo := M3.only O (by simp)
      clear V V' RR RK
      go_wp2_with fail
      go_call RR' as e w5 ⟨P5, A5, k5, fs, rfl, hfs, V5, M5⟩
      clear RR'
      have O5 : Only [] w w5 := Oo.trans P5 (by simp)
      have Z5 := Zo.only P5 (by simp)
      have K5 := Mo.only P5 (by simp)
      rw [hE.out]
      by_cases hE0 : E = 0
      · subst hE0
        obtain ⟨g1, g2⟩ := hgood.out rfl
        rw [← hfs] at g1 g2
        have hfl : fs.length = 6 := by have := congrArg List.length g1; simpa using this
        obtain ⟨f0, f1, f2, f3, f4, f5, rfl⟩ : ∃ f0 f1 f2 f3 f4 f5, fs = [f0, f1, f2, f3, f4, f5] := by
          match fs, hfl with
          | [f0, f1, f2, f3, f4, f5], _ => exact ⟨f0, f1, f2, f3, f4, f5, rfl⟩
        obtain ⟨A', cap, eA, hcle, hcmx, hF⟩ := V5.form
        injection eA with eA1 eA2 eA3
        subst eA1
        subst eA3
        obtain ⟨bF, rfl, hbase, hbF, hcF⟩ := hF (by simp)
        have hcap : 6 ≤ k5 := hcle
        have hbw : w.heap.size + 1 < bF := by have := Mo.lt; have := P5.size; have : wo.heap.size ≤ bF := hbase; omega
        have hne4 : ¬ w.heap.size + 1 = bF := by omega
        have hne5 : ¬ bF = w.heap.size + 1 := by omega
        have hne6 : ¬ w.heap.size = bF := by omega
        have hne7 : ¬ bF = w.heap.size := by omega
        have u1 : U32 f1.n ∧ InB f1.text := g2 f1.pf (by simp)
        have o1 : f1.ok w5 := M5 f1 (by simp)
        have u2 : U32 f2.n ∧ InB f2.text := g2 f2.pf (by simp)
        have o2 : f2.ok w5 := M5 f2 (by simp)
        have u3 : U32 f3.n ∧ InB f3.text := g2 f3.pf (by simp)
        have o3 : f3.ok w5 := M5 f3 (by simp)
        have u4 : U32 f4.n ∧ InB f4.text := g2 f4.pf (by simp)
        have o4 : f4.ok w5 := M5 f4 (by simp)
        have u5 : U32 f5.n ∧ InB f5.text := g2 f5.pf (by simp)
        have o5 : f5.ok w5 := M5 f5 (by simp)
        obtain ⟨M, hM⟩ : ∃ M, putAll (firstM 90) [3, 6, 7, 8, 5] [f1, f2, f3, f4, f5] = M := ⟨_, rfl⟩
        have okM : M.ok w5 := by rw [← hM]; exact putM_ok 5 (putM_ok 8 (putM_ok 7 (putM_ok 6 (putM_ok 3 (first_ok w5 90) o1 u1.1 u1.2) o2 u2.1 u2.2) o3 u3.1 u3.2) o4 u4.1 u4.2) o5 u5.1 u5.2
        have s0 : w5.cell? ⟨w.heap.size + 1, 0, none⟩ = some (.int .i64 90) := K5.cell 0
        have hc1 : ¬ k5 = 1 := by omega
        obtain ⟨wd, hwd⟩ : ∃ wd, wd = w5.drew := ⟨_, rfl⟩
        have Kd0 : Blk wd (w.heap.size + 1) 25 (firstM 90).cells := by rw [hwd]; exact K5.drew
        have Xd0 : Only [w.heap.size + 1] w5 wd := by rw [hwd]; exact (Only.refl _ w5).drew
        have hI0 : (fun w' : World => (∀ (j : Nat) (u : Value), (fcells [f0, f1, f2, f3, f4, f5])[j]? = some u → w'.cell? ⟨bF, j, none⟩ = some u) ∧ RdG (.int .u8) w' f1.tA f1.text ∧ RdG (.int .u8) w' f5.tA f5.text) wd := by
          rw [hwd]
          exact ⟨hcF, o1.text, o5.text⟩
        go_wp2_with fail
        refine wp_region_E (fun w' : World => (∀ (j : Nat) (u : Value), (fcells [f0, f1, f2, f3, f4, f5])[j]? = some u → w'.cell? ⟨bF, j, none⟩ = some u) ∧ RdG (.int .u8) w' f1.tA f1.text ∧ RdG (.int .u8) w' f5.tA f5.text) [] (by kernel_rfl) ?_
        rw [show ({ w5 with drawn := w5.drawn + 1 } : World) = wd from hwd.symm]
        replace hwd := hide hwd
        refine wpAnyE_take 0 (v := (.slice (some ⟨bF, 4, none⟩) 5 (k5 - 1))) rfl (by kernel_rfl) (fun _ _ _ h => h) hI0 (fun w' hw' => Or.inl ⟨by kernel_rfl, Or.inl (by go_simp)⟩) ?_
        refine wpAnyE_take 1 (v := (.pointer (some ⟨bF, 4, none⟩))) rfl (by kernel_rfl) (fun _ _ _ h => h) hI0 (fun w' hw' => Or.inl ⟨by kernel_rfl, Or.inl (by go_simp)⟩) ?_
        refine wpAnyE_take 2 (v := (.pointer (some ⟨bF, 6, none⟩))) rfl (by kernel_rfl) (fun _ _ _ h => h) hI0 (fun w' hw' => Or.inl ⟨by kernel_rfl, Or.inl (by go_simp)⟩) ?_
        refine wpAnyE_take 3 (v := (.slice f1.tA f1.text.length f1.tc)) rfl (by kernel_rfl) (fun _ _ _ h => h) hI0 (fun w' hw' => Or.inl ⟨by kernel_rfl, Or.inl (by have y : w'.cell? ⟨bF, 6, none⟩ = some (.slice f1.tA f1.text.length f1.tc) := hw'.1 6 _ rfl; go_simp)⟩) ?_
        refine wpAnyE_take 4 (v := (.string (strOfNums f1.text))) rfl (by kernel_rfl) (fun _ _ _ h => h) hI0 (fun w' hw' => Or.inl ⟨by kernel_rfl, Or.inl (by have cv := conv_rd (w := w') (A := f1.tA) (l := f1.text) (c := f1.tc) (hw'.2.1); go_simp)⟩) ?_
        refine wpAnyE_take 5 (v := (.slice (some ⟨bF, 4, none⟩) 5 (k5 - 1))) rfl (by kernel_rfl) (fun _ _ _ h => h) hI0 (fun w' hw' => Or.inl ⟨by kernel_rfl, Or.inl (by go_simp)⟩) ?_
        refine wpAnyE_take 6 (v := (.pointer (some ⟨bF, 8, none⟩))) rfl (by kernel_rfl) (fun _ _ _ h => h) hI0 (fun w' hw' => Or.inl ⟨by kernel_rfl, Or.inl (by go_simp)⟩) ?_
        refine wpAnyE_take 7 (v := (.pointer (some ⟨bF, 9, none⟩))) rfl (by kernel_rfl) (fun _ _ _ h => h) hI0 (fun w' hw' => Or.inl ⟨by kernel_rfl, Or.inl (by go_simp)⟩) ?_
        refine wpAnyE_take 8 (v := (.int .u32 f2.n)) rfl (by kernel_rfl) (fun _ _ _ h => h) hI0 (fun w' hw' => Or.inl ⟨by kernel_rfl, Or.inl (by have y : w'.cell? ⟨bF, 9, none⟩ = some (.int .u32 f2.n) := hw'.1 9 _ rfl; go_simp)⟩) ?_
        refine wpAnyE_take 9 (v := (.slice (some ⟨bF, 4, none⟩) 5 (k5 - 1))) rfl (by kernel_rfl) (fun _ _ _ h => h) hI0 (fun w' hw' => Or.inl ⟨by kernel_rfl, Or.inl (by go_simp)⟩) ?_
        refine wpAnyE_take 10 (v := (.pointer (some ⟨bF, 12, none⟩))) rfl (by kernel_rfl) (fun _ _ _ h => h) hI0 (fun w' hw' => Or.inl ⟨by kernel_rfl, Or.inl (by go_simp)⟩) ?_
        refine wpAnyE_take 11 (v := (.pointer (some ⟨bF, 13, none⟩))) rfl (by kernel_rfl) (fun _ _ _ h => h) hI0 (fun w' hw' => Or.inl ⟨by kernel_rfl, Or.inl (by go_simp)⟩) ?_
        refine wpAnyE_take 12 (v := (.int .u32 f3.n)) rfl (by kernel_rfl) (fun _ _ _ h => h) hI0 (fun w' hw' => Or.inl ⟨by kernel_rfl, Or.inl (by have y : w'.cell? ⟨bF, 13, none⟩ = some (.int .u32 f3.n) := hw'.1 13 _ rfl; go_simp)⟩) ?_
        refine wpAnyE_take 13 (v := (.slice (some ⟨bF, 4, none⟩) 5 (k5 - 1))) rfl (by kernel_rfl) (fun _ _ _ h => h) hI0 (fun w' hw' => Or.inl ⟨by kernel_rfl, Or.inl (by go_simp)⟩) ?_
        refine wpAnyE_take 14 (v := (.pointer (some ⟨bF, 16, none⟩))) rfl (by kernel_rfl) (fun _ _ _ h => h) hI0 (fun w' hw' => Or.inl ⟨by kernel_rfl, Or.inl (by go_simp)⟩) ?_
        refine wpAnyE_take 15 (v := (.pointer (some ⟨bF, 17, none⟩))) rfl (by kernel_rfl) (fun _ _ _ h => h) hI0 (fun w' hw' => Or.inl ⟨by kernel_rfl, Or.inl (by go_simp)⟩) ?_
        refine wpAnyE_take 16 (v := (.int .u32 f4.n)) rfl (by kernel_rfl) (fun _ _ _ h => h) hI0 (fun w' hw' => Or.inl ⟨by kernel_rfl, Or.inl (by have y : w'.cell? ⟨bF, 17, none⟩ = some (.int .u32 f4.n) := hw'.1 17 _ rfl; go_simp)⟩) ?_
        refine wpAnyE_take 17 (v := (.slice (some ⟨bF, 4, none⟩) 5 (k5 - 1))) rfl (by kernel_rfl) (fun _ _ _ h => h) hI0 (fun w' hw' => Or.inl ⟨by kernel_rfl, Or.inl (by go_simp)⟩) ?_
        refine wpAnyE_take 18 (v := (.pointer (some ⟨bF, 20, none⟩))) rfl (by kernel_rfl) (fun _ _ _ h => h) hI0 (fun w' hw' => Or.inl ⟨by kernel_rfl, Or.inl (by go_simp)⟩) ?_
        refine wpAnyE_take 19 (v := (.pointer (some ⟨bF, 22, none⟩))) rfl (by kernel_rfl) (fun _ _ _ h => h) hI0 (fun w' hw' => Or.inl ⟨by kernel_rfl, Or.inl (by go_simp)⟩) ?_
        refine wpAnyE_take 20 (v := (.slice f5.tA f5.text.length f5.tc)) rfl (by kernel_rfl) (fun _ _ _ h => h) hI0 (fun w' hw' => Or.inl ⟨by kernel_rfl, Or.inl (by have y : w'.cell? ⟨bF, 22, none⟩ = some (.slice f5.tA f5.text.length f5.tc) := hw'.1 22 _ rfl; go_simp)⟩) ?_
        refine wpAnyE_take 21 (v := (.pointer (some ⟨w.heap.size + 1, 6, none⟩))) rfl (by kernel_rfl) (fun _ _ _ h => h) hI0 (fun w' hw' => Or.inl ⟨by kernel_rfl, Or.inl (by go_simp)⟩) ?_
        refine wpAnyE_one 22 rfl (by kernel_rfl) hI0 (fun K hK => ?_)
        rw [if_pos (by kernel_rfl)]
        have cc := Kd0.cell 6
        have ff := Kd0.frozen 6
        have cc' : wd.cell? ⟨w.heap.size + 1, 6, none⟩ = some (.string ⟨#[]⟩) := cc
        clear cc
        go_simp
        refine hK _ _ ?_
        clear hK K cc' ff
        obtain ⟨wd1, hwd1⟩ : ∃ wd1, wd1 = wd.setCell ⟨w.heap.size + 1, 6, none⟩ (.string (strOfNums f1.text)) := ⟨_, rfl⟩
        have Kd1 : Blk wd1 (w.heap.size + 1) 25 (putM (firstM 90) 3 f1).cells := by rw [hwd1]; exact Kd0.set_ 6 (.string (strOfNums f1.text))
        have Xs1 : Only [w.heap.size + 1] wd wd1 := by rw [hwd1]; exact (Only.refl _ wd).setCell (p := ⟨w.heap.size + 1, 6, none⟩) (.inl (by simp)) _
        have Xd1 : Only [w.heap.size + 1] w5 wd1 := Xd0.trans Xs1 (fun x hx => .inl hx)
        have hI1 : (fun w' : World => (∀ (j : Nat) (u : Value), (fcells [f0, f1, f2, f3, f4, f5])[j]? = some u → w'.cell? ⟨bF, j, none⟩ = some u) ∧ RdG (.int .u8) w' f1.tA f1.text ∧ RdG (.int .u8) w' f5.tA f5.text) wd1 := ⟨fun j u hj => cellL Xs1 (by have := Xd0.size; show bF < _; omega) (by show bF ∉ [w.heap.size + 1]; simp; omega) (hI0.1 j u hj), RdG.onlyL (mk := .int .u8) hI0.2.1 Xs1 (fun a ha h0 => by have := far_msg Kd0 hI0.2.1 h0 a ha; simp; omega), RdG.onlyL (mk := .int .u8) hI0.2.2 Xs1 (fun a ha h0 => by have := far_msg Kd0 hI0.2.2 h0 a ha; simp; omega)⟩
        rw [← hwd1]
        replace hwd1 := hide hwd1
        refine wpAnyE_take 23 (v := (.pointer (some ⟨w.heap.size + 1, 2, none⟩))) rfl (by kernel_rfl) (fun _ _ _ h => h) hI1 (fun w' hw' => Or.inl ⟨by kernel_rfl, Or.inl (by go_simp)⟩) ?_
        refine wpAnyE_one 24 rfl (by kernel_rfl) hI1 (fun K hK => ?_)
        rw [if_pos (by kernel_rfl)]
        have cc := Kd1.cell 2
        have ff := Kd1.frozen 2
        have cc' : wd1.cell? ⟨w.heap.size + 1, 2, none⟩ = some (.int .u32 0) := cc
        clear cc
        go_simp
        refine hK _ _ ?_
        clear hK K cc' ff
        obtain ⟨wd2, hwd2⟩ : ∃ wd2, wd2 = wd1.setCell ⟨w.heap.size + 1, 2, none⟩ (.int .u32 f2.n) := ⟨_, rfl⟩
        have Kd2 : Blk wd2 (w.heap.size + 1) 25 (putM (putM (firstM 90) 3 f1) 6 f2).cells := by rw [hwd2]; exact Kd1.set_ 2 (.int .u32 f2.n)
        have Xs2 : Only [w.heap.size + 1] wd1 wd2 := by rw [hwd2]; exact (Only.refl _ wd1).setCell (p := ⟨w.heap.size + 1, 2, none⟩) (.inl (by simp)) _
        have Xd2 : Only [w.heap.size + 1] w5 wd2 := Xd1.trans Xs2 (fun x hx => .inl hx)
        have hI2 : (fun w' : World => (∀ (j : Nat) (u : Value), (fcells [f0, f1, f2, f3, f4, f5])[j]? = some u → w'.cell? ⟨bF, j, none⟩ = some u) ∧ RdG (.int .u8) w' f1.tA f1.text ∧ RdG (.int .u8) w' f5.tA f5.text) wd2 := ⟨fun j u hj => cellL Xs2 (by have := Xd1.size; show bF < _; omega) (by show bF ∉ [w.heap.size + 1]; simp; omega) (hI1.1 j u hj), RdG.onlyL (mk := .int .u8) hI1.2.1 Xs2 (fun a ha h0 => by have := far_msg Kd1 hI1.2.1 h0 a ha; simp; omega), RdG.onlyL (mk := .int .u8) hI1.2.2 Xs2 (fun a ha h0 => by have := far_msg Kd1 hI1.2.2 h0 a ha; simp; omega)⟩
        rw [← hwd2]
        replace hwd2 := hide hwd2
        refine wpAnyE_take 25 (v := (.pointer (some ⟨w.heap.size + 1, 3, none⟩))) rfl (by kernel_rfl) (fun _ _ _ h => h) hI2 (fun w' hw' => Or.inl ⟨by kernel_rfl, Or.inl (by go_simp)⟩) ?_
        refine wpAnyE_one 26 rfl (by kernel_rfl) hI2 (fun K hK => ?_)
        rw [if_pos (by kernel_rfl)]
        have cc := Kd2.cell 3
        have ff := Kd2.frozen 3
        have cc' : wd2.cell? ⟨w.heap.size + 1, 3, none⟩ = some (.int .u32 0) := cc
        clear cc
        go_simp
        refine hK _ _ ?_
        clear hK K cc' ff
        obtain ⟨wd3, hwd3⟩ : ∃ wd3, wd3 = wd2.setCell ⟨w.heap.size + 1, 3, none⟩ (.int .u32 f3.n) := ⟨_, rfl⟩
        have Kd3 : Blk wd3 (w.heap.size + 1) 25 (putM (putM (putM (firstM 90) 3 f1) 6 f2) 7 f3).cells := by rw [hwd3]; exact Kd2.set_ 3 (.int .u32 f3.n)
        have Xs3 : Only [w.heap.size + 1] wd2 wd3 := by rw [hwd3]; exact (Only.refl _ wd2).setCell (p := ⟨w.heap.size + 1, 3, none⟩) (.inl (by simp)) _
        have Xd3 : Only [w.heap.size + 1] w5 wd3 := Xd2.trans Xs3 (fun x hx => .inl hx)
        have hI3 : (fun w' : World => (∀ (j : Nat) (u : Value), (fcells [f0, f1, f2, f3, f4, f5])[j]? = some u → w'.cell? ⟨bF, j, none⟩ = some u) ∧ RdG (.int .u8) w' f1.tA f1.text ∧ RdG (.int .u8) w' f5.tA f5.text) wd3 := ⟨fun j u hj => cellL Xs3 (by have := Xd2.size; show bF < _; omega) (by show bF ∉ [w.heap.size + 1]; simp; omega) (hI2.1 j u hj), RdG.onlyL (mk := .int .u8) hI2.2.1 Xs3 (fun a ha h0 => by have := far_msg Kd2 hI2.2.1 h0 a ha; simp; omega), RdG.onlyL (mk := .int .u8) hI2.2.2 Xs3 (fun a ha h0 => by have := far_msg Kd2 hI2.2.2 h0 a ha; simp; omega)⟩
        rw [← hwd3]
        replace hwd3 := hide hwd3
        refine wpAnyE_take 27 (v := (.pointer (some ⟨w.heap.size + 1, 4, none⟩))) rfl (by kernel_rfl) (fun _ _ _ h => h) hI3 (fun w' hw' => Or.inl ⟨by kernel_rfl, Or.inl (by go_simp)⟩) ?_
        refine wpAnyE_one 28 rfl (by kernel_rfl) hI3 (fun K hK => ?_)
        rw [if_pos (by kernel_rfl)]
        have cc := Kd3.cell 4
        have ff := Kd3.frozen 4
        have cc' : wd3.cell? ⟨w.heap.size + 1, 4, none⟩ = some (.int .u32 0) := cc
        clear cc
        go_simp
        refine hK _ _ ?_
        clear hK K cc' ff
        obtain ⟨wd4, hwd4⟩ : ∃ wd4, wd4 = wd3.setCell ⟨w.heap.size + 1, 4, none⟩ (.int .u32 f4.n) := ⟨_, rfl⟩
        have Kd4 : Blk wd4 (w.heap.size + 1) 25 (putM (putM (putM (putM (firstM 90) 3 f1) 6 f2) 7 f3) 8 f4).cells := by rw [hwd4]; exact Kd3.set_ 4 (.int .u32 f4.n)
        have Xs4 : Only [w.heap.size + 1] wd3 wd4 := by rw [hwd4]; exact (Only.refl _ wd3).setCell (p := ⟨w.heap.size + 1, 4, none⟩) (.inl (by simp)) _
        have Xd4 : Only [w.heap.size + 1] w5 wd4 := Xd3.trans Xs4 (fun x hx => .inl hx)
        have hI4 : (fun w' : World => (∀ (j : Nat) (u : Value), (fcells [f0, f1, f2, f3, f4, f5])[j]? = some u → w'.cell? ⟨bF, j, none⟩ = some u) ∧ RdG (.int .u8) w' f1.tA f1.text ∧ RdG (.int .u8) w' f5.tA f5.text) wd4 := ⟨fun j u hj => cellL Xs4 (by have := Xd3.size; show bF < _; omega) (by show bF ∉ [w.heap.size + 1]; simp; omega) (hI3.1 j u hj), RdG.onlyL (mk := .int .u8) hI3.2.1 Xs4 (fun a ha h0 => by have := far_msg Kd3 hI3.2.1 h0 a ha; simp; omega), RdG.onlyL (mk := .int .u8) hI3.2.2 Xs4 (fun a ha h0 => by have := far_msg Kd3 hI3.2.2 h0 a ha; simp; omega)⟩
        rw [← hwd4]
        replace hwd4 := hide hwd4
        refine wpAnyE_take 29 (v := (.pointer (some ⟨w.heap.size + 1, 9, none⟩))) rfl (by kernel_rfl) (fun _ _ _ h => h) hI4 (fun w' hw' => Or.inl ⟨by kernel_rfl, Or.inl (by go_simp)⟩) ?_
        refine wpAnyE_one 30 rfl (by kernel_rfl) hI4 (fun K hK => ?_)
        rw [if_pos (by kernel_rfl)]
        have cc := Kd4.cell 9
        have ff := Kd4.frozen 9
        have cc' : wd4.cell? ⟨w.heap.size + 1, 9, none⟩ = some (.slice none 0 0) := cc
        clear cc
        go_simp
        refine hK _ _ ?_
        clear hK K cc' ff
        obtain ⟨w6, hw6⟩ : ∃ w6, w6 = wd4.setCell ⟨w.heap.size + 1, 9, none⟩ (.slice f5.tA f5.text.length f5.tc) := ⟨_, rfl⟩
        have Kd5 : Blk w6 (w.heap.size + 1) 25 (putM (putM (putM (putM (putM (firstM 90) 3 f1) 6 f2) 7 f3) 8 f4) 5 f5).cells := by rw [hw6]; exact Kd4.set_ 9 (.slice f5.tA f5.text.length f5.tc)
        have Xs5 : Only [w.heap.size + 1] wd4 w6 := by rw [hw6]; exact (Only.refl _ wd4).setCell (p := ⟨w.heap.size + 1, 9, none⟩) (.inl (by simp)) _
        have Xd5 : Only [w.heap.size + 1] w5 w6 := Xd4.trans Xs5 (fun x hx => .inl hx)
        have hI5 : (fun w' : World => (∀ (j : Nat) (u : Value), (fcells [f0, f1, f2, f3, f4, f5])[j]? = some u → w'.cell? ⟨bF, j, none⟩ = some u) ∧ RdG (.int .u8) w' f1.tA f1.text ∧ RdG (.int .u8) w' f5.tA f5.text) w6 := ⟨fun j u hj => cellL Xs5 (by have := Xd4.size; show bF < _; omega) (by show bF ∉ [w.heap.size + 1]; simp; omega) (hI4.1 j u hj), RdG.onlyL (mk := .int .u8) hI4.2.1 Xs5 (fun a ha h0 => by have := far_msg Kd4 hI4.2.1 h0 a ha; simp; omega), RdG.onlyL (mk := .int .u8) hI4.2.2 Xs5 (fun a ha h0 => by have := far_msg Kd4 hI4.2.2 h0 a ha; simp; omega)⟩
        rw [← hw6]
        replace hw6 := hide hw6
        refine wpAnyE_end (by kernel_rfl) hI5 ?_
        (try simp only [Exit.then])
        have K6 : Blk w6 (w.heap.size + 1) 25 M.cells := by rw [← hM]; exact Kd5
        have Z6 : Blk w6 w.heap.size 25 zeroM.cells := Z5.only Xd5 (by simp)
        have O6 : Only [] w w6 := O5.trans Xd5 (fun x hx => .inr (by simp at hx; omega))
        have okM6 : M.ok w6 := okM.onlyN Xd5 (fun a ha h0 => far_msg K5 okM.data h0 a ha)
        clear hI0 hI1 hI2 hI3 hI4 hI5 Kd0 Kd1 Kd2 Kd3 Kd4 Kd5
        have WD := refWords_any M w6 okM.name okM.lang
        obtain ⟨bf, hbf⟩ : ∃ bf, fitsP M = bf := ⟨_, rfl⟩
        rw [hbf] at WD
        unfold MD.val at WD
        have a0 : w6.cell? ⟨w.heap.size + 1, 0, none⟩ = some (.int .i64 M.kind) := K6.cell 0
        have a1 : w6.cell? ⟨w.heap.size + 1, 1, none⟩ = some (.int .u32 M.chan) := K6.cell 1
        have a2 : w6.cell? ⟨w.heap.size + 1, 2, none⟩ = some (.int .u32 M.sender) := K6.cell 2
        have a3 : w6.cell? ⟨w.heap.size + 1, 3, none⟩ = some (.int .u32 M.window) := K6.cell 3
        have a4 : w6.cell? ⟨w.heap.size + 1, 4, none⟩ = some (.int .u32 M.packet) := K6.cell 4
        have a5 : w6.cell? ⟨w.heap.size + 1, 5, none⟩ = some (.int .u32 M.code) := K6.cell 5
        have a6 : w6.cell? ⟨w.heap.size + 1, 6, none⟩ = some (.string M.name) := K6.cell 6
        have a7 : w6.cell? ⟨w.heap.size + 1, 7, none⟩ = some (.string M.lang) := K6.cell 7
        have a8 : w6.cell? ⟨w.heap.size + 1, 8, none⟩ = some (.bool M.want) := K6.cell 8
        have a9 : w6.cell? ⟨w.heap.size + 1, 9, none⟩ = some (.slice M.dA M.data.length M.dc) := K6.cell 9
        replace hM := hide hM
        replace hfs := hide hfs
        replace hbf := hide hbf
        go_wp2_with fail
        go_call WD as e w7 ⟨rfl, P7⟩
        clear a0 a1 a2 a3 a4 a5 a6 a7 a8 a9
        have K7 := K6.only P7 (by simp)
        have Z7 := Z6.only P7 (by simp)
        have O7 : Only [] w w7 := O6.trans P7 (by simp)
        have okM7 : M.ok w7 := okM6.only P7
        have hlt7 := Z7.lt
        have hlk7 := K7.lt
        have hq1 : ¬ w.heap.size = w.heap.size + 1 := by omega
        have hq2 : ¬ w.heap.size + 1 = w.heap.size := by omega
        have z0 : w7.cell? ⟨w.heap.size, 0, none⟩ = some (.int .i64 0) := Z7.cell 0
        have y0 := Z7.frozen 0
        have z1 : w7.cell? ⟨w.heap.size, 1, none⟩ = some (.int .u32 0) := Z7.cell 1
        have y1 := Z7.frozen 1
        have z2 : w7.cell? ⟨w.heap.size, 2, none⟩ = some (.int .u32 0) := Z7.cell 2
        have y2 := Z7.frozen 2
        have z3 : w7.cell? ⟨w.heap.size, 3, none⟩ = some (.int .u32 0) := Z7.cell 3
        have y3 := Z7.frozen 3
        have z4 : w7.cell? ⟨w.heap.size, 4, none⟩ = some (.int .u32 0) := Z7.cell 4
        have y4 := Z7.frozen 4
        have z5 : w7.cell? ⟨w.heap.size, 5, none⟩ = some (.int .u32 0) := Z7.cell 5
        have y5 := Z7.frozen 5
        have z6 : w7.cell? ⟨w.heap.size, 6, none⟩ = some (.string ⟨#[]⟩) := Z7.cell 6
        have y6 := Z7.frozen 6
        have z7 : w7.cell? ⟨w.heap.size, 7, none⟩ = some (.string ⟨#[]⟩) := Z7.cell 7
        have y7 := Z7.frozen 7
        have z8 : w7.cell? ⟨w.heap.size, 8, none⟩ = some (.bool false) := Z7.cell 8
        have y8 := Z7.frozen 8
        have z9 : w7.cell? ⟨w.heap.size, 9, none⟩ = some (.slice none 0 0) := Z7.cell 9
        have y9 := Z7.frozen 9
        cases bf with
        | false =>
          go_wp2_with fail
          (try simp only [Exit.inBlock, Exit.then])
          refine ret_dec (g := w.heap.size) (m := zeroM) rfl (by rfl) (by rfl) (zsetB Z7) ?_
          refine ⟨zsetO (Nat.le_refl _) O7, zeroM, 4, rfl, zero_ok _, hdec.out _ _ ?_⟩
          rw [hE.out, if_neg (by simp)]
          refine ⟨_, hfs.out, ?_⟩
          show if fitsP (putAll (firstM 90) [3, 6, 7, 8, 5] [f1, f2, f3, f4, f5]) then _ else _
          rw [hM.out, hbf.out, if_neg (by simp)]
          exact ⟨rfl, rfl⟩
        | true =>
          have a0 : w7.cell? ⟨w.heap.size + 1, 0, none⟩ = some (.int .i64 M.kind) := K7.cell 0
          have a1 : w7.cell? ⟨w.heap.size + 1, 1, none⟩ = some (.int .u32 M.chan) := K7.cell 1
          have a2 : w7.cell? ⟨w.heap.size + 1, 2, none⟩ = some (.int .u32 M.sender) := K7.cell 2
          have a3 : w7.cell? ⟨w.heap.size + 1, 3, none⟩ = some (.int .u32 M.window) := K7.cell 3
          have a4 : w7.cell? ⟨w.heap.size + 1, 4, none⟩ = some (.int .u32 M.packet) := K7.cell 4
          have a5 : w7.cell? ⟨w.heap.size + 1, 5, none⟩ = some (.int .u32 M.code) := K7.cell 5
          have a6 : w7.cell? ⟨w.heap.size + 1, 6, none⟩ = some (.string M.name) := K7.cell 6
          have a7 : w7.cell? ⟨w.heap.size + 1, 7, none⟩ = some (.string M.lang) := K7.cell 7
          have a8 : w7.cell? ⟨w.heap.size + 1, 8, none⟩ = some (.bool M.want) := K7.cell 8
          have a9 : w7.cell? ⟨w.heap.size + 1, 9, none⟩ = some (.slice M.dA M.data.length M.dc) := K7.cell 9
          go_wp2_with fail
          (try simp only [Exit.inBlock, Exit.then])
          refine ret_dec (g := w.heap.size) (m := M) rfl (by rfl) (by rfl) (msetB M Z7) ?_
          refine ⟨msetO M (.inr (Nat.le_refl _)) O7, M, 0, rfl, okM7.onlyN (q := w.heap.size) (msetO M (.inl (by simp)) (Only.refl _ _)) (fun a ha h0 => far_msg Z7 okM7.data h0 a ha), hdec.out _ _ ?_⟩
          rw [hE.out, if_neg (by simp)]
          refine ⟨_, hfs.out, ?_⟩
          show if fitsP (putAll (firstM 90) [3, 6, 7, 8, 5] [f1, f2, f3, f4, f5]) then _ else _
          rw [hM.out, hbf.out, if_pos rfl]
          exact ⟨rfl, hM.out.symm⟩
      · replace hfs := hide hfs
        have z0 : w5.cell? ⟨w.heap.size, 0, none⟩ = some (.int .i64 0) := Z5.cell 0
        have y0 := Z5.frozen 0
        have z1 : w5.cell? ⟨w.heap.size, 1, none⟩ = some (.int .u32 0) := Z5.cell 1
        have y1 := Z5.frozen 1
        have z2 : w5.cell? ⟨w.heap.size, 2, none⟩ = some (.int .u32 0) := Z5.cell 2
        have y2 := Z5.frozen 2
        have z3 : w5.cell? ⟨w.heap.size, 3, none⟩ = some (.int .u32 0) := Z5.cell 3
        have y3 := Z5.frozen 3
        have z4 : w5.cell? ⟨w.heap.size, 4, none⟩ = some (.int .u32 0) := Z5.cell 4
        have y4 := Z5.frozen 4
        have z5 : w5.cell? ⟨w.heap.size, 5, none⟩ = some (.int .u32 0) := Z5.cell 5
        have y5 := Z5.frozen 5
        have z6 : w5.cell? ⟨w.heap.size, 6, none⟩ = some (.string ⟨#[]⟩) := Z5.cell 6
        have y6 := Z5.frozen 6
        have z7 : w5.cell? ⟨w.heap.size, 7, none⟩ = some (.string ⟨#[]⟩) := Z5.cell 7
        have y7 := Z5.frozen 7
        have z8 : w5.cell? ⟨w.heap.size, 8, none⟩ = some (.bool false) := Z5.cell 8
        have y8 := Z5.frozen 8
        have z9 : w5.cell? ⟨w.heap.size, 9, none⟩ = some (.slice none 0 0) := Z5.cell 9
        have y9 := Z5.frozen 9
        go_wp2_with fail
        (try simp only [Exit.inBlock, Exit.then])
        refine ret_dec (g := w.heap.size) (m := zeroM) rfl (by rfl) (by rfl) (zsetB Z5) ?_
        exact ⟨zsetO (Nat.le_refl _) O5, zeroM, E, rfl, zero_ok _, hdec.out _ _ (by rw [hE.out, if_pos hE0]; exact ⟨rfl, rfl⟩)⟩
set_option maxRecDepth 100000 in
set_option maxHeartbeats 6400000 in
theorem rdec_k98 (A : Option Addr) (t : List Int) (c : Nat) (w : World) (h : Rd w A (98 :: t)) (hl : InB (98 :: t)) (hln : (98 :: t : List Int).length ≤ 140737488355000) (hlc : (98 :: t : List Int).length ≤ c) (hlm : c ≤ maxLen) :
    Calls Tryz.prog 13 #[.slice A (98 :: t : List Int).length c] w (RDecPost w (98 :: t)) := by
  obtain ⟨b, off, y, rfl, hb, hy, cx⟩ := RdG.at (mk := .int .u8) h 0 (by simp)
  simp at hy
  subst hy
  rw [Nat.add_zero] at cx
  obtain ⟨l, hll⟩ : ∃ l : List Int, (98 :: t) = l := ⟨_, rfl⟩
  have hk1 : l.head? = some 98 := by rw [← hll]; rfl
  rw [hll] at h hl hln hlc ⊢
  obtain ⟨ln, hn⟩ : ∃ ln, l.length = ln := ⟨_, rfl⟩
  have hn1 : 1 ≤ ln := by rw [← hn, ← hll]; simp
  have hn0 : ((ln : Int) == 0) = false := by simp; omega
  have hn00 : ln ≠ 0 := by omega
  obtain ⟨w1, hw1⟩ : ∃ w1, w1 = w.alloc (.cells #[.int .i64 0, .int .u32 0, .int .u32 0, .int .u32 0, .int .u32 0, .int .u32 0, .string ⟨#[]⟩, .string ⟨#[]⟩, .bool false, .slice none 0 0] 25) := ⟨_, rfl⟩
  have hz1 : w1.heap.size = w.heap.size + 1 := by rw [hw1]; simp
  obtain ⟨w2, hw2⟩ : ∃ w2, w2 = w1.alloc (.cells #[.int .i64 98, .int .u32 0, .int .u32 0, .int .u32 0, .int .u32 0, .int .u32 0, .string ⟨#[]⟩, .string ⟨#[]⟩, .bool false, .slice none 0 0] 25) := ⟨_, rfl⟩
  have O1 : Only [] w w1 := by rw [hw1]; exact (Only.refl _ _).alloc _
  have P12 : Only [] w1 w2 := by rw [hw2]; exact (Only.refl _ _).alloc _
  have O2 : Only [] w w2 := O1.trans P12 (by simp)
  have Z2 : Blk w2 w.heap.size 25 zeroM.cells := by rw [hw2, hw1]; exact (Blk.new w _ _).alloc _
  have M2 : Blk w2 (w.heap.size + 1) 25 (firstM 98).cells := by
    rw [← hz1, hw2]
    exact Blk.new w1 25 (firstM 98).cells
  have FA : Calls Tryz.prog 17 #[.agg #[.int .i64 98, .int .u32 0, .int .u32 0, .int .u32 0, .int .u32 0, .int .u32 0, .string ⟨#[]⟩, .string ⟨#[]⟩, .bool false, .slice none 0 0]] w2 (FieldsPost w2 (firstM 98)) := fields_any (firstM 98) w2 (first_ok _ _) (Nat.zero_le _) (Nat.zero_le _)
  unfold FieldsPost at FA
  rw [show rowL (firstM 98).kind = some [9, 3, 4, 5] from rfl] at FA
  rw [hn] at hln hlc ⊢
  replace hn := hide hn
  replace hll := hide hll
  replace hk1 := hide hk1
  go_enter Tryz.func13, Tryz.ntmps13
  go_wp2_with fail
  rw [← hw1, ← hw2]
  replace hw1 := hide hw1
  replace hw2 := hide hw2
  replace hz1 := hide hz1
  go_call FA as e w3 ⟨P3, A0, c0, fs0, rfl, RF0, hfs0, hc0, hm0⟩
  clear FA
  have O3 : Only [] w w3 := O2.trans P3 (by simp)
  have Z3 := Z2.only P3 (by simp)
  have M3 := M2.only P3 (by simp)
  have hl0 : fs0.length = 4 := by have := congrArg List.length hfs0; simpa using this
  have hkk0 : fs0.map (·.kind) = [3, 4, 2, 6] := by
    have := congrArg (List.map PF.kind) hfs0
    rw [List.map_map, List.map_map] at this
    exact this
  have V4 := ownI_one w3 1
  have X4 : Only [] w3 (w3.alloc (.cells #[.int .i64 1] 3)) := (Only.refl _ _).alloc _
  rw [hl0] at hc0 ⊢
  replace hl0 := hide hl0
  replace hfs0 := hide hfs0
  replace hkk0 := hide hkk0
  go_wp2_with fail
  go_loopw [32, 7] (fun i o wr => ∃ (kk : Nat) (v : Value), kk ≤ 4 ∧ i = .int .i64 kk ∧ v = o ∧ OwnI wr w3.heap.size v (1 :: (fs0.take kk).map (·.kind)) ∧ Only [] w3 wr) (fun i _ _ => 4 - (intOf i).toNat)
  case atStart => exact ⟨0, _, by omega, rfl, rfl, V4, X4⟩
  case round =>
    obtain ⟨wo, rfl⟩ : ∃ wo : World, wo = wr := ⟨_, rfl⟩
    obtain ⟨kk, v, hkn, rfl, rfl, V, O⟩ := hrel
    have hob := V.block
    have z0 := O.size
    by_cases hlt : kk < 4
    · obtain ⟨f, hf⟩ : ∃ f, fs0[kk]? = some f := ⟨_, List.getElem?_eq_getElem (by have := hl0.out; omega)⟩
      obtain ⟨bF, oF, rfl, hbF, hcF⟩ := (RF0.only O).cells (by have := hl0.out; omega)
      obtain ⟨c0', c1, c2, c3⟩ := hcF kk f hf
      have hks : (1 :: (fs0.take (kk + 1)).map (·.kind)) = (1 :: (fs0.take kk).map (·.kind)) ++ [f.kind] := by
        rw [take_snocG hf, List.map_append]
        rfl
      have hlk : (1 :: (fs0.take kk).map (·.kind)).length = kk + 1 := by rw [List.length_cons, List.length_map, List.length_take]; have := hl0.out; omega
      have X5 : Only [] wo ((wo.alloc (.cells #[.int .i64 f.kind, .int .u32 f.n, .slice f.tA f.text.length f.tc, .slice f.lA f.list.length f.lc] 49)).alloc (.cells #[.int .i64 f.kind] 3)) := ((Only.refl _ _).alloc _).alloc _
      have R5 : RdI ((wo.alloc (.cells #[.int .i64 f.kind, .int .u32 f.n, .slice f.tA f.text.length f.tc, .slice f.lA f.list.length f.lc] 49)).alloc (.cells #[.int .i64 f.kind] 3)) (some ⟨wo.heap.size + 1, 0, none⟩) [f.kind] := by
        have := rdI_new (wo.alloc (.cells #[.int .i64 f.kind, .int .u32 f.n, .slice f.tA f.text.length f.tc, .slice f.lA f.list.length f.lc] 49)) #[.int .i64 f.kind] [f.kind] rfl
        rw [show (wo.alloc (.cells #[.int .i64 f.kind, .int .u32 f.n, .slice f.tA f.text.length f.tc, .slice f.lA f.list.length f.lc] 49)).heap.size = wo.heap.size + 1 by simp] at this
        exact this
      have V5 := V.far X5 (fun x hx => by simp at hx)
      obtain ⟨ks, hksv⟩ : ∃ ks, (1 :: (fs0.take kk).map (·.kind)) = ks := ⟨_, rfl⟩
      rw [hksv] at V5 hlk hks
      replace hks := hide hks
      replace hksv := hide hksv
      replace hlk := hide hlk
      replace hf := hide hf
      clear hcF
      go_wp2_with (at_builtin; go_must (refine wpList_appI rfl (.tmp 36) (.tmp 39) rfl w3.heap.size v ks rfl V5 (some ⟨wo.heap.size + 1, 0, none⟩) 1 [f.kind] _ rfl rfl R5 (by have := hlk.out; rw [this]; simp; omega) (by simp; omega) ?_; intro v9 w9 V9 P9))
      go_roundw
      case rel =>
        refine ⟨kk + 1, _, by omega, by go_num, rfl, ?_, (O.trans X5 (by simp)).trans P9 (fun x hx => .inr (hob x (by simpa using hx)).1)⟩
        rw [hks.out]
        exact V9.out
      case measure => simp [intOf]; omega
    · obtain rfl : kk = 4 := by omega
      have V' : OwnI wo w3.heap.size v [1, 3, 4, 2, 6] := by
        have e : (1 :: (fs0.take 4).map (·.kind)) = [1, 3, 4, 2, 6] := by rw [List.take_of_length_le (by have := hl0.out; omega), hkk0.out]
        rw [← e]; exact V
      obtain ⟨kA, kc, rfl, RK, _, _, _⟩ := V'.rd
      have Oo : Only [] w wo := O3.trans O (by simp)
      have RR := refRead_any wo kA (some ⟨b, off, none⟩) [1, 3, 4, 2, 6] l kc c RK (h.only Oo) hl (by decide) (by have := hn.out; omega) (by have := hn.out; omega) hlm
      rw [hn.out] at RR
      have RR' : Calls Tryz.prog 21 #[.slice kA 5 kc, .slice (some ⟨b, off, none⟩) ln c] wo (RefReadPost wo (readP [1, 3, 4, 2, 6] l)) := RR
      obtain ⟨E, hE⟩ : ∃ E, (readP [1, 3, 4, 2, 6] l).1 = E := ⟨_, rfl⟩
      have hgood := readP_good [1, 3, 4, 2, 6] l hl
      have hdec : ∀ (M : MD) (E' : Int), (if (readP [1, 3, 4, 2, 6] l).1 ≠ 0 then E' = (readP [1, 3, 4, 2, 6] l).1 ∧ M = zeroM
          else ∃ fs : List FD, fs.map FD.pf = (readP [1, 3, 4, 2, 6] l).2 ∧ if fitsP (putAll (firstM 98) [9, 3, 4, 5] fs.tail) then E' = 0 ∧ M = putAll (firstM 98) [9, 3, 4, 5] fs.tail else E' = 4 ∧ M = zeroM) → DecIs l M E' := fun M E' hx => by
        rw [← hll.out] at hx ⊢
        exact hx
      rw [hE] at hgood
      replace hE := hide hE
      replace hgood := hide hgood
      replace hdec := hide hdec
      have Zo := Z3.only O (by simp)
      have Mo := M3.only O (by simp)
      clear V V' RR RK
      go_wp2_with fail
      go_call RR' as e w5 ⟨P5, A5, k5, fs, rfl, hfs, V5, M5⟩
      clear RR'
      have O5 : Only [] w w5 := Oo.trans P5 (by simp)
      have Z5 := Zo.only P5 (by simp)
      have K5 := Mo.only P5 (by simp)
      rw [hE.out]
      by_cases hE0 : E = 0
      · subst hE0
        obtain ⟨g1, g2⟩ := hgood.out rfl
        rw [← hfs] at g1 g2
        have hfl : fs.length = 5 := by have := congrArg List.length g1; simpa using this
        obtain ⟨f0, f1, f2, f3, f4, rfl⟩ : ∃ f0 f1 f2 f3 f4, fs = [f0, f1, f2, f3, f4] := by
          match fs, hfl with
          | [f0, f1, f2, f3, f4], _ => exact ⟨f0, f1, f2, f3, f4, rfl⟩
        obtain ⟨A', cap, eA, hcle, hcmx, hF⟩ := V5.form
        injection eA with eA1 eA2 eA3
        subst eA1
        subst eA3
        obtain ⟨bF, rfl, hbase, hbF, hcF⟩ := hF (by simp)
        have hcap : 5 ≤ k5 := hcle
        have hbw : w.heap.size + 1 < bF := by have := Mo.lt; have := P5.size; have : wo.heap.size ≤ bF := hbase; omega
        have hne4 : ¬ w.heap.size + 1 = bF := by omega
        have hne5 : ¬ bF = w.heap.size + 1 := by omega
        have hne6 : ¬ w.heap.size = bF := by omega
        have hne7 : ¬ bF = w.heap.size := by omega
        have u1 : U32 f1.n ∧ InB f1.text := g2 f1.pf (by simp)
        have o1 : f1.ok w5 := M5 f1 (by simp)
        have u2 : U32 f2.n ∧ InB f2.text := g2 f2.pf (by simp)
        have o2 : f2.ok w5 := M5 f2 (by simp)
        have u3 : U32 f3.n ∧ InB f3.text := g2 f3.pf (by simp)
        have o3 : f3.ok w5 := M5 f3 (by simp)
        have u4 : U32 f4.n ∧ InB f4.text := g2 f4.pf (by simp)
        have o4 : f4.ok w5 := M5 f4 (by simp)
        obtain ⟨M, hM⟩ : ∃ M, putAll (firstM 98) [9, 3, 4, 5] [f1, f2, f3, f4] = M := ⟨_, rfl⟩
        have okM : M.ok w5 := by rw [← hM]; exact putM_ok 5 (putM_ok 4 (putM_ok 3 (putM_ok 9 (first_ok w5 98) o1 u1.1 u1.2) o2 u2.1 u2.2) o3 u3.1 u3.2) o4 u4.1 u4.2
        have s0 : w5.cell? ⟨w.heap.size + 1, 0, none⟩ = some (.int .i64 98) := K5.cell 0
        have hc1 : ¬ k5 = 1 := by omega
        obtain ⟨wd, hwd⟩ : ∃ wd, wd = w5.drew := ⟨_, rfl⟩
        have Kd0 : Blk wd (w.heap.size + 1) 25 (firstM 98).cells := by rw [hwd]; exact K5.drew
        have Xd0 : Only [w.heap.size + 1] w5 wd := by rw [hwd]; exact (Only.refl _ w5).drew
        have hI0 : (fun w' : World => (∀ (j : Nat) (u : Value), (fcells [f0, f1, f2, f3, f4])[j]? = some u → w'.cell? ⟨bF, j, none⟩ = some u) ∧ RdG (.int .u8) w' f2.tA f2.text ∧ RdG (.int .u8) w' f4.tA f4.text) wd := by
          rw [hwd]
          exact ⟨hcF, o2.text, o4.text⟩
        go_wp2_with fail
        refine wp_region_E (fun w' : World => (∀ (j : Nat) (u : Value), (fcells [f0, f1, f2, f3, f4])[j]? = some u → w'.cell? ⟨bF, j, none⟩ = some u) ∧ RdG (.int .u8) w' f2.tA f2.text ∧ RdG (.int .u8) w' f4.tA f4.text) [] (by kernel_rfl) ?_
        rw [show ({ w5 with drawn := w5.drawn + 1 } : World) = wd from hwd.symm]
        replace hwd := hide hwd
        refine wpAnyE_take 0 (v := (.slice (some ⟨bF, 4, none⟩) 4 (k5 - 1))) rfl (by kernel_rfl) (fun _ _ _ h => h) hI0 (fun w' hw' => Or.inl ⟨by kernel_rfl, Or.inl (by go_simp)⟩) ?_
        refine wpAnyE_take 1 (v := (.pointer (some ⟨bF, 4, none⟩))) rfl (by kernel_rfl) (fun _ _ _ h => h) hI0 (fun w' hw' => Or.inl ⟨by kernel_rfl, Or.inl (by go_simp)⟩) ?_
        refine wpAnyE_take 2 (v := (.pointer (some ⟨bF, 5, none⟩))) rfl (by kernel_rfl) (fun _ _ _ h => h) hI0 (fun w' hw' => Or.inl ⟨by kernel_rfl, Or.inl (by go_simp)⟩) ?_
        refine wpAnyE_take 3 (v := (.int .u32 f1.n)) rfl (by kernel_rfl) (fun _ _ _ h => h) hI0 (fun w' hw' => Or.inl ⟨by kernel_rfl, Or.inl (by have y : w'.cell? ⟨bF, 5, none⟩ = some (.int .u32 f1.n) := hw'.1 5 _ rfl; go_simp)⟩) ?_
        refine wpAnyE_take 4 (v := (.slice (some ⟨bF, 4, none⟩) 4 (k5 - 1))) rfl (by kernel_rfl) (fun _ _ _ h => h) hI0 (fun w' hw' => Or.inl ⟨by kernel_rfl, Or.inl (by go_simp)⟩) ?_
        refine wpAnyE_take 5 (v := (.pointer (some ⟨bF, 8, none⟩))) rfl (by kernel_rfl) (fun _ _ _ h => h) hI0 (fun w' hw' => Or.inl ⟨by kernel_rfl, Or.inl (by go_simp)⟩) ?_
        refine wpAnyE_take 6 (v := (.pointer (some ⟨bF, 10, none⟩))) rfl (by kernel_rfl) (fun _ _ _ h => h) hI0 (fun w' hw' => Or.inl ⟨by kernel_rfl, Or.inl (by go_simp)⟩) ?_
        refine wpAnyE_take 7 (v := (.slice f2.tA f2.text.length f2.tc)) rfl (by kernel_rfl) (fun _ _ _ h => h) hI0 (fun w' hw' => Or.inl ⟨by kernel_rfl, Or.inl (by have y : w'.cell? ⟨bF, 10, none⟩ = some (.slice f2.tA f2.text.length f2.tc) := hw'.1 10 _ rfl; go_simp)⟩) ?_
        refine wpAnyE_take 8 (v := (.string (strOfNums f2.text))) rfl (by kernel_rfl) (fun _ _ _ h => h) hI0 (fun w' hw' => Or.inl ⟨by kernel_rfl, Or.inl (by have cv := conv_rd (w := w') (A := f2.tA) (l := f2.text) (c := f2.tc) (hw'.2.1); go_simp)⟩) ?_
        refine wpAnyE_take 9 (v := (.slice (some ⟨bF, 4, none⟩) 4 (k5 - 1))) rfl (by kernel_rfl) (fun _ _ _ h => h) hI0 (fun w' hw' => Or.inl ⟨by kernel_rfl, Or.inl (by go_simp)⟩) ?_
        refine wpAnyE_take 10 (v := (.pointer (some ⟨bF, 12, none⟩))) rfl (by kernel_rfl) (fun _ _ _ h => h) hI0 (fun w' hw' => Or.inl ⟨by kernel_rfl, Or.inl (by go_simp)⟩) ?_
        refine wpAnyE_take 11 (v := (.pointer (some ⟨bF, 13, none⟩))) rfl (by kernel_rfl) (fun _ _ _ h => h) hI0 (fun w' hw' => Or.inl ⟨by kernel_rfl, Or.inl (by go_simp)⟩) ?_
        refine wpAnyE_take 12 (v := (.int .u32 f3.n)) rfl (by kernel_rfl) (fun _ _ _ h => h) hI0 (fun w' hw' => Or.inl ⟨by kernel_rfl, Or.inl (by have y : w'.cell? ⟨bF, 13, none⟩ = some (.int .u32 f3.n) := hw'.1 13 _ rfl; go_simp)⟩) ?_
        refine wpAnyE_take 13 (v := (.bool (f3.n == 1))) rfl (by kernel_rfl) (fun _ _ _ h => h) hI0 (fun w' hw' => Or.inl ⟨by kernel_rfl, Or.inl (by go_simp)⟩) ?_
        refine wpAnyE_take 14 (v := (.slice (some ⟨bF, 4, none⟩) 4 (k5 - 1))) rfl (by kernel_rfl) (fun _ _ _ h => h) hI0 (fun w' hw' => Or.inl ⟨by kernel_rfl, Or.inl (by go_simp)⟩) ?_
        refine wpAnyE_take 15 (v := (.pointer (some ⟨bF, 16, none⟩))) rfl (by kernel_rfl) (fun _ _ _ h => h) hI0 (fun w' hw' => Or.inl ⟨by kernel_rfl, Or.inl (by go_simp)⟩) ?_
        refine wpAnyE_take 16 (v := (.pointer (some ⟨bF, 18, none⟩))) rfl (by kernel_rfl) (fun _ _ _ h => h) hI0 (fun w' hw' => Or.inl ⟨by kernel_rfl, Or.inl (by go_simp)⟩) ?_
        refine wpAnyE_take 17 (v := (.slice f4.tA f4.text.length f4.tc)) rfl (by kernel_rfl) (fun _ _ _ h => h) hI0 (fun w' hw' => Or.inl ⟨by kernel_rfl, Or.inl (by have y : w'.cell? ⟨bF, 18, none⟩ = some (.slice f4.tA f4.text.length f4.tc) := hw'.1 18 _ rfl; go_simp)⟩) ?_
        refine wpAnyE_take 18 (v := (.pointer (some ⟨w.heap.size + 1, 1, none⟩))) rfl (by kernel_rfl) (fun _ _ _ h => h) hI0 (fun w' hw' => Or.inl ⟨by kernel_rfl, Or.inl (by go_simp)⟩) ?_
        refine wpAnyE_one 19 rfl (by kernel_rfl) hI0 (fun K hK => ?_)
        rw [if_pos (by kernel_rfl)]
        have cc := Kd0.cell 1
        have ff := Kd0.frozen 1
        have cc' : wd.cell? ⟨w.heap.size + 1, 1, none⟩ = some (.int .u32 0) := cc
        clear cc
        go_simp
        refine hK _ _ ?_
        clear hK K cc' ff
        obtain ⟨wd1, hwd1⟩ : ∃ wd1, wd1 = wd.setCell ⟨w.heap.size + 1, 1, none⟩ (.int .u32 f1.n) := ⟨_, rfl⟩
        have Kd1 : Blk wd1 (w.heap.size + 1) 25 (putM (firstM 98) 9 f1).cells := by rw [hwd1]; exact Kd0.set_ 1 (.int .u32 f1.n)
        have Xs1 : Only [w.heap.size + 1] wd wd1 := by rw [hwd1]; exact (Only.refl _ wd).setCell (p := ⟨w.heap.size + 1, 1, none⟩) (.inl (by simp)) _
        have Xd1 : Only [w.heap.size + 1] w5 wd1 := Xd0.trans Xs1 (fun x hx => .inl hx)
        have hI1 : (fun w' : World => (∀ (j : Nat) (u : Value), (fcells [f0, f1, f2, f3, f4])[j]? = some u → w'.cell? ⟨bF, j, none⟩ = some u) ∧ RdG (.int .u8) w' f2.tA f2.text ∧ RdG (.int .u8) w' f4.tA f4.text) wd1 := ⟨fun j u hj => cellL Xs1 (by have := Xd0.size; show bF < _; omega) (by show bF ∉ [w.heap.size + 1]; simp; omega) (hI0.1 j u hj), RdG.onlyL (mk := .int .u8) hI0.2.1 Xs1 (fun a ha h0 => by have := far_msg Kd0 hI0.2.1 h0 a ha; simp; omega), RdG.onlyL (mk := .int .u8) hI0.2.2 Xs1 (fun a ha h0 => by have := far_msg Kd0 hI0.2.2 h0 a ha; simp; omega)⟩
        rw [← hwd1]
        replace hwd1 := hide hwd1
        refine wpAnyE_take 20 (v := (.pointer (some ⟨w.heap.size + 1, 6, none⟩))) rfl (by kernel_rfl) (fun _ _ _ h => h) hI1 (fun w' hw' => Or.inl ⟨by kernel_rfl, Or.inl (by go_simp)⟩) ?_
        refine wpAnyE_one 21 rfl (by kernel_rfl) hI1 (fun K hK => ?_)
        rw [if_pos (by kernel_rfl)]
        have cc := Kd1.cell 6
        have ff := Kd1.frozen 6
        have cc' : wd1.cell? ⟨w.heap.size + 1, 6, none⟩ = some (.string ⟨#[]⟩) := cc
        clear cc
        go_simp
        refine hK _ _ ?_
        clear hK K cc' ff
        obtain ⟨wd2, hwd2⟩ : ∃ wd2, wd2 = wd1.setCell ⟨w.heap.size + 1, 6, none⟩ (.string (strOfNums f2.text)) := ⟨_, rfl⟩
        have Kd2 : Blk wd2 (w.heap.size + 1) 25 (putM (putM (firstM 98) 9 f1) 3 f2).cells := by rw [hwd2]; exact Kd1.set_ 6 (.string (strOfNums f2.text))
        have Xs2 : Only [w.heap.size + 1] wd1 wd2 := by rw [hwd2]; exact (Only.refl _ wd1).setCell (p := ⟨w.heap.size + 1, 6, none⟩) (.inl (by simp)) _
        have Xd2 : Only [w.heap.size + 1] w5 wd2 := Xd1.trans Xs2 (fun x hx => .inl hx)
        have hI2 : (fun w' : World => (∀ (j : Nat) (u : Value), (fcells [f0, f1, f2, f3, f4])[j]? = some u → w'.cell? ⟨bF, j, none⟩ = some u) ∧ RdG (.int .u8) w' f2.tA f2.text ∧ RdG (.int .u8) w' f4.tA f4.text) wd2 := ⟨fun j u hj => cellL Xs2 (by have := Xd1.size; show bF < _; omega) (by show bF ∉ [w.heap.size + 1]; simp; omega) (hI1.1 j u hj), RdG.onlyL (mk := .int .u8) hI1.2.1 Xs2 (fun a ha h0 => by have := far_msg Kd1 hI1.2.1 h0 a ha; simp; omega), RdG.onlyL (mk := .int .u8) hI1.2.2 Xs2 (fun a ha h0 => by have := far_msg Kd1 hI1.2.2 h0 a ha; simp; omega)⟩
        rw [← hwd2]
        replace hwd2 := hide hwd2
        refine wpAnyE_take 22 (v := (.pointer (some ⟨w.heap.size + 1, 8, none⟩))) rfl (by kernel_rfl) (fun _ _ _ h => h) hI2 (fun w' hw' => Or.inl ⟨by kernel_rfl, Or.inl (by go_simp)⟩) ?_
        refine wpAnyE_one 23 rfl (by kernel_rfl) hI2 (fun K hK => ?_)
        rw [if_pos (by kernel_rfl)]
        have cc := Kd2.cell 8
        have ff := Kd2.frozen 8
        have cc' : wd2.cell? ⟨w.heap.size + 1, 8, none⟩ = some (.bool false) := cc
        clear cc
        go_simp
        refine hK _ _ ?_
        clear hK K cc' ff
        obtain ⟨wd3, hwd3⟩ : ∃ wd3, wd3 = wd2.setCell ⟨w.heap.size + 1, 8, none⟩ (.bool (f3.n == 1)) := ⟨_, rfl⟩
        have Kd3 : Blk wd3 (w.heap.size + 1) 25 (putM (putM (putM (firstM 98) 9 f1) 3 f2) 4 f3).cells := by rw [hwd3]; exact Kd2.set_ 8 (.bool (f3.n == 1))
        have Xs3 : Only [w.heap.size + 1] wd2 wd3 := by rw [hwd3]; exact (Only.refl _ wd2).setCell (p := ⟨w.heap.size + 1, 8, none⟩) (.inl (by simp)) _
        have Xd3 : Only [w.heap.size + 1] w5 wd3 := Xd2.trans Xs3 (fun x hx => .inl hx)
        have hI3 : (fun w' : World => (∀ (j : Nat) (u : Value), (fcells [f0, f1, f2, f3, f4])[j]? = some u → w'.cell? ⟨bF, j, none⟩ = some u) ∧ RdG (.int .u8) w' f2.tA f2.text ∧ RdG (.int .u8) w' f4.tA f4.text) wd3 := ⟨fun j u hj => cellL Xs3 (by have := Xd2.size; show bF < _; omega) (by show bF ∉ [w.heap.size + 1]; simp; omega) (hI2.1 j u hj), RdG.onlyL (mk := .int .u8) hI2.2.1 Xs3 (fun a ha h0 => by have := far_msg Kd2 hI2.2.1 h0 a ha; simp; omega), RdG.onlyL (mk := .int .u8) hI2.2.2 Xs3 (fun a ha h0 => by have := far_msg Kd2 hI2.2.2 h0 a ha; simp; omega)⟩
        rw [← hwd3]
        replace hwd3 := hide hwd3
        refine wpAnyE_take 24 (v := (.pointer (some ⟨w.heap.size + 1, 9, none⟩))) rfl (by kernel_rfl) (fun _ _ _ h => h) hI3 (fun w' hw' => Or.inl ⟨by kernel_rfl, Or.inl (by go_simp)⟩) ?_
        refine wpAnyE_one 25 rfl (by kernel_rfl) hI3 (fun K hK => ?_)
        rw [if_pos (by kernel_rfl)]
        have cc := Kd3.cell 9
        have ff := Kd3.frozen 9
        have cc' : wd3.cell? ⟨w.heap.size + 1, 9, none⟩ = some (.slice none 0 0) := cc
        clear cc
        go_simp
        refine hK _ _ ?_
        clear hK K cc' ff
        obtain ⟨w6, hw6⟩ : ∃ w6, w6 = wd3.setCell ⟨w.heap.size + 1, 9, none⟩ (.slice f4.tA f4.text.length f4.tc) := ⟨_, rfl⟩
        have Kd4 : Blk w6 (w.heap.size + 1) 25 (putM (putM (putM (putM (firstM 98) 9 f1) 3 f2) 4 f3) 5 f4).cells := by rw [hw6]; exact Kd3.set_ 9 (.slice f4.tA f4.text.length f4.tc)
        have Xs4 : Only [w.heap.size + 1] wd3 w6 := by rw [hw6]; exact (Only.refl _ wd3).setCell (p := ⟨w.heap.size + 1, 9, none⟩) (.inl (by simp)) _
        have Xd4 : Only [w.heap.size + 1] w5 w6 := Xd3.trans Xs4 (fun x hx => .inl hx)
        have hI4 : (fun w' : World => (∀ (j : Nat) (u : Value), (fcells [f0, f1, f2, f3, f4])[j]? = some u → w'.cell? ⟨bF, j, none⟩ = some u) ∧ RdG (.int .u8) w' f2.tA f2.text ∧ RdG (.int .u8) w' f4.tA f4.text) w6 := ⟨fun j u hj => cellL Xs4 (by have := Xd3.size; show bF < _; omega) (by show bF ∉ [w.heap.size + 1]; simp; omega) (hI3.1 j u hj), RdG.onlyL (mk := .int .u8) hI3.2.1 Xs4 (fun a ha h0 => by have := far_msg Kd3 hI3.2.1 h0 a ha; simp; omega), RdG.onlyL (mk := .int .u8) hI3.2.2 Xs4 (fun a ha h0 => by have := far_msg Kd3 hI3.2.2 h0 a ha; simp; omega)⟩
        rw [← hw6]
        replace hw6 := hide hw6
        refine wpAnyE_end (by kernel_rfl) hI4 ?_
        (try simp only [Exit.then])
        have K6 : Blk w6 (w.heap.size + 1) 25 M.cells := by rw [← hM]; exact Kd4
        have Z6 : Blk w6 w.heap.size 25 zeroM.cells := Z5.only Xd4 (by simp)
        have O6 : Only [] w w6 := O5.trans Xd4 (fun x hx => .inr (by simp at hx; omega))
        have okM6 : M.ok w6 := okM.onlyN Xd4 (fun a ha h0 => far_msg K5 okM.data h0 a ha)
        clear hI0 hI1 hI2 hI3 hI4 Kd0 Kd1 Kd2 Kd3 Kd4
        have WD := refWords_any M w6 okM.name okM.lang
        obtain ⟨bf, hbf⟩ : ∃ bf, fitsP M = bf := ⟨_, rfl⟩
        rw [hbf] at WD
        unfold MD.val at WD
        have a0 : w6.cell? ⟨w.heap.size + 1, 0, none⟩ = some (.int .i64 M.kind) := K6.cell 0
        have a1 : w6.cell? ⟨w.heap.size + 1, 1, none⟩ = some (.int .u32 M.chan) := K6.cell 1
        have a2 : w6.cell? ⟨w.heap.size + 1, 2, none⟩ = some (.int .u32 M.sender) := K6.cell 2
        have a3 : w6.cell? ⟨w.heap.size + 1, 3, none⟩ = some (.int .u32 M.window) := K6.cell 3
        have a4 : w6.cell? ⟨w.heap.size + 1, 4, none⟩ = some (.int .u32 M.packet) := K6.cell 4
        have a5 : w6.cell? ⟨w.heap.size + 1, 5, none⟩ = some (.int .u32 M.code) := K6.cell 5
        have a6 : w6.cell? ⟨w.heap.size + 1, 6, none⟩ = some (.string M.name) := K6.cell 6
        have a7 : w6.cell? ⟨w.heap.size + 1, 7, none⟩ = some (.string M.lang) := K6.cell 7
        have a8 : w6.cell? ⟨w.heap.size + 1, 8, none⟩ = some (.bool M.want) := K6.cell 8
        have a9 : w6.cell? ⟨w.heap.size + 1, 9, none⟩ = some (.slice M.dA M.data.length M.dc) := K6.cell 9
        replace hM := hide hM
        replace hfs := hide hfs
        replace hbf := hide hbf
        go_wp2_with fail
        go_call WD as e w7 ⟨rfl, P7⟩
        clear a0 a1 a2 a3 a4 a5 a6 a7 a8 a9
        have K7 := K6.only P7 (by simp)
        have Z7 := Z6.only P7 (by simp)
        have O7 : Only [] w w7 := O6.trans P7 (by simp)
        have okM7 : M.ok w7 := okM6.only P7
        have hlt7 := Z7.lt
        have hlk7 := K7.lt
        have hq1 : ¬ w.heap.size = w.heap.size + 1 := by omega
        have hq2 : ¬ w.heap.size + 1 = w.heap.size := by omega
        have z0 : w7.cell? ⟨w.heap.size, 0, none⟩ = some (.int .i64 0) := Z7.cell 0
        have y0 := Z7.frozen 0
        have z1 : w7.cell? ⟨w.heap.size, 1, none⟩ = some (.int .u32 0) := Z7.cell 1
        have y1 := Z7.frozen 1
        have z2 : w7.cell? ⟨w.heap.size, 2, none⟩ = some (.int .u32 0) := Z7.cell 2
        have y2 := Z7.frozen 2
        have z3 : w7.cell? ⟨w.heap.size, 3, none⟩ = some (.int .u32 0) := Z7.cell 3
        have y3 := Z7.frozen 3
        have z4 : w7.cell? ⟨w.heap.size, 4, none⟩ = some (.int .u32 0) := Z7.cell 4
        have y4 := Z7.frozen 4
        have z5 : w7.cell? ⟨w.heap.size, 5, none⟩ = some (.int .u32 0) := Z7.cell 5
        have y5 := Z7.frozen 5
        have z6 : w7.cell? ⟨w.heap.size, 6, none⟩ = some (.string ⟨#[]⟩) := Z7.cell 6
        have y6 := Z7.frozen 6
        have z7 : w7.cell? ⟨w.heap.size, 7, none⟩ = some (.string ⟨#[]⟩) := Z7.cell 7
        have y7 := Z7.frozen 7
        have z8 : w7.cell? ⟨w.heap.size, 8, none⟩ = some (.bool false) := Z7.cell 8
        have y8 := Z7.frozen 8
        have z9 : w7.cell? ⟨w.heap.size, 9, none⟩ = some (.slice none 0 0) := Z7.cell 9
        have y9 := Z7.frozen 9
        cases bf with
        | false =>
          go_wp2_with fail
          (try simp only [Exit.inBlock, Exit.then])
          refine ret_dec (g := w.heap.size) (m := zeroM) rfl (by rfl) (by rfl) (zsetB Z7) ?_
          refine ⟨zsetO (Nat.le_refl _) O7, zeroM, 4, rfl, zero_ok _, hdec.out _ _ ?_⟩
          rw [hE.out, if_neg (by simp)]
          refine ⟨_, hfs.out, ?_⟩
          show if fitsP (putAll (firstM 98) [9, 3, 4, 5] [f1, f2, f3, f4]) then _ else _
          rw [hM.out, hbf.out, if_neg (by simp)]
          exact ⟨rfl, rfl⟩
        | true =>
          have a0 : w7.cell? ⟨w.heap.size + 1, 0, none⟩ = some (.int .i64 M.kind) := K7.cell 0
          have a1 : w7.cell? ⟨w.heap.size + 1, 1, none⟩ = some (.int .u32 M.chan) := K7.cell 1
          have a2 : w7.cell? ⟨w.heap.size + 1, 2, none⟩ = some (.int .u32 M.sender) := K7.cell 2
          have a3 : w7.cell? ⟨w.heap.size + 1, 3, none⟩ = some (.int .u32 M.window) := K7.cell 3
          have a4 : w7.cell? ⟨w.heap.size + 1, 4, none⟩ = some (.int .u32 M.packet) := K7.cell 4
          have a5 : w7.cell? ⟨w.heap.size + 1, 5, none⟩ = some (.int .u32 M.code) := K7.cell 5
          have a6 : w7.cell? ⟨w.heap.size + 1, 6, none⟩ = some (.string M.name) := K7.cell 6
          have a7 : w7.cell? ⟨w.heap.size + 1, 7, none⟩ = some (.string M.lang) := K7.cell 7
          have a8 : w7.cell? ⟨w.heap.size + 1, 8, none⟩ = some (.bool M.want) := K7.cell 8
          have a9 : w7.cell? ⟨w.heap.size + 1, 9, none⟩ = some (.slice M.dA M.data.length M.dc) := K7.cell 9
          go_wp2_with fail
          (try simp only [Exit.inBlock, Exit.then])
          refine ret_dec (g := w.heap.size) (m := M) rfl (by rfl) (by rfl) (msetB M Z7) ?_
          refine ⟨msetO M (.inr (Nat.le_refl _)) O7, M, 0, rfl, okM7.onlyN (q := w.heap.size) (msetO M (.inl (by simp)) (Only.refl _ _)) (fun a ha h0 => far_msg Z7 okM7.data h0 a ha), hdec.out _ _ ?_⟩
          rw [hE.out, if_neg (by simp)]
          refine ⟨_, hfs.out, ?_⟩
          show if fitsP (putAll (firstM 98) [9, 3, 4, 5] [f1, f2, f3, f4]) then _ else _
          rw [hM.out, hbf.out, if_pos rfl]
          exact ⟨rfl, hM.out.symm⟩
      · replace hfs := hide hfs
        have z0 : w5.cell? ⟨w.heap.size, 0, none⟩ = some (.int .i64 0) := Z5.cell 0
        have y0 := Z5.frozen 0
        have z1 : w5.cell? ⟨w.heap.size, 1, none⟩ = some (.int .u32 0) := Z5.cell 1
        have y1 := Z5.frozen 1
        have z2 : w5.cell? ⟨w.heap.size, 2, none⟩ = some (.int .u32 0) := Z5.cell 2
        have y2 := Z5.frozen 2
        have z3 : w5.cell? ⟨w.heap.size, 3, none⟩ = some (.int .u32 0) := Z5.cell 3
        have y3 := Z5.frozen 3
        have z4 : w5.cell? ⟨w.heap.size, 4, none⟩ = some (.int .u32 0) := Z5.cell 4
        have y4 := Z5.frozen 4
        have z5 : w5.cell? ⟨w.heap.size, 5, none⟩ = some (.int .u32 0) := Z5.cell 5
        have y5 := Z5.frozen 5
        have z6 : w5.cell? ⟨w.heap.size, 6, none⟩ = some (.string ⟨#[]⟩) := Z5.cell 6
        have y6 := Z5.frozen 6
        have z7 : w5.cell? ⟨w.heap.size, 7, none⟩ = some (.string ⟨#[]⟩) := Z5.cell 7
        have y7 := Z5.frozen 7
        have z8 : w5.cell? ⟨w.heap.size, 8, none⟩ = some (.bool false) := Z5.cell 8
        have y8 := Z5.frozen 8
        have z9 : w5.cell? ⟨w.heap.size, 9, none⟩ = some (.slice none 0 0) := Z5.cell 9
        have y9 := Z5.frozen 9
        go_wp2_with fail
        (try simp only [Exit.inBlock, Exit.then])
        refine ret_dec (g := w.heap.size) (m := zeroM) rfl (by rfl) (by rfl) (zsetB Z5) ?_
        exact ⟨zsetO (Nat.le_refl _) O5, zeroM, E, rfl, zero_ok _, hdec.out _ _ (by rw [hE.out, if_pos hE0]; exact ⟨rfl, rfl⟩)⟩
end Go.Proofs.YtdmjabfjkkjhbaaGreatDoor
