/- The document's answer for layer 4: Decode of kinds 1, 10; no condition. -/
import Derived.Test.YtmpeidliacbelaaGreatDoorReqW
namespace Go.Proofs.YtmpeidliacbelaaGreatDoor
set_option linter.all false
open Go.RowKit

set_option maxRecDepth 100000 in
set_option maxHeartbeats 6400000 in
theorem refdec_k1 (A : Option Addr) (l : List Int) (c : Nat) (w : World) (h : Rd w A l) (hl : InB l) (hln : l.length ≤ 140737488355000) (hlc : l.length ≤ c) (hlm : c ≤ maxLen) :
    Calls Tryz.prog 7 #[.string (rname 1), .slice A l.length c] w (RefDecPost w (rname 1) l) := by
  obtain ⟨ln, hn⟩ : ∃ ln, l.length = ln := ⟨_, rfl⟩
  rw [hn] at hln hlc ⊢
  replace hn := hide hn
  obtain ⟨s, hs⟩ : ∃ s, rname 1 = s := ⟨_, rfl⟩
  rw [hs]
  replace hs := hide hs
  obtain ⟨w2, hw2⟩ : ∃ w2, w2 = (w.alloc (.cells #[.int .i64 0, .string ⟨#[]⟩, .string ⟨#[]⟩, .string ⟨#[]⟩, .int .u32 0, .int .u32 0, .int .u32 0, .int .u32 0, .slice none 0 0, .bool false, .int .u32 0] 28)).alloc (.cells #[.int .i64 0, .string ⟨#[]⟩, .string ⟨#[]⟩, .string ⟨#[]⟩, .int .u32 0, .int .u32 0, .int .u32 0, .int .u32 0, .slice none 0 0, .bool false, .int .u32 0] 28) := ⟨_, rfl⟩
  have P2 : Only [] w w2 := by rw [hw2]; exact ((Only.refl _ _).alloc _).alloc _
  have G2 : Blk w2 w.heap.size 28 zeroR.cells := by rw [hw2]; exact (Blk.new w _ _).alloc _
  have R2 : Blk w2 (w.heap.size + 1) 28 (kcells (kdAt 1 1)) := by
    rw [hw2]
    have := Blk.new (w.alloc (.cells #[.int .i64 0, .string ⟨#[]⟩, .string ⟨#[]⟩, .string ⟨#[]⟩, .int .u32 0, .int .u32 0, .int .u32 0, .int .u32 0, .slice none 0 0, .bool false, .int .u32 0] 28)) 28 [.int .i64 0, .string ⟨#[]⟩, .string ⟨#[]⟩, .string ⟨#[]⟩, .int .u32 0, .int .u32 0, .int .u32 0, .int .u32 0, .slice none 0 0, .bool false, .int .u32 0]
    rwa [show (w.alloc (.cells #[.int .i64 0, .string ⟨#[]⟩, .string ⟨#[]⟩, .string ⟨#[]⟩, .int .u32 0, .int .u32 0, .int .u32 0, .int .u32 0, .slice none 0 0, .bool false, .int .u32 0] 28)).heap.size = w.heap.size + 1 by simp] at this
  go_enter Tryz.func7, Tryz.ntmps7
  go_wp2_with fail
  rw [← hw2]
  replace hw2 := hide hw2
  go_loopw [7] (fun ii wr => ∃ i : Nat, 1 ≤ i ∧ i ≤ 11 ∧ ii = .int .i64 i ∧ Blk wr (w.heap.size + 1) 28 (kcells (kdAt 1 i)) ∧ Only [w.heap.size + 1] w2 wr) (fun ii _ => 11 - (intOf ii).toNat)
  case atStart => exact ⟨1, by omega, by omega, rfl, R2, Only.refl _ _⟩
  case round =>
    obtain ⟨wo, rfl⟩ : ∃ wo : World, wo = wr := ⟨_, rfl⟩
    obtain ⟨i, hi1, hi, rfl, R, O⟩ := hrel
    by_cases hlt : i ≤ 10
    · have NA := refRName_any i hi1 hlt wo
      obtain ⟨nm, hnm⟩ : ∃ nm, rname i = nm := ⟨_, rfl⟩
      rw [hnm] at NA
      by_cases hik : i = 1
      · have s1 : (nm.toList == s.toList) = true := str_eq (by rw [← hnm, ← hs.out, hik])
        have c0 : wo.cell? ⟨w.heap.size + 1, 0, none⟩ = some (.int .i64 (kdAt 1 i)) := R.cell 0
        have z0 := R.frozen 0
        have R' : Blk (wo.setCell ⟨w.heap.size + 1, 0, none⟩ (.int .i64 (i : Int))) (w.heap.size + 1) 28 (kcells (kdAt 1 (i + 1))) := by
          have := R.set_ 0 (.int .i64 (i : Int))
          rw [kcells_set] at this
          rw [show kdAt 1 (i + 1) = (i : Int) by rw [hik]; rfl]
          exact this
        have O' : Only [w.heap.size + 1] w2 (wo.setCell ⟨w.heap.size + 1, 0, none⟩ (.int .i64 (i : Int))) := O.setCell (p := ⟨w.heap.size + 1, 0, none⟩) (.inl (by simp)) _
        replace hnm := hide hnm
        replace hik := hide hik
        go_wp2_with fail
        go_call NA as e w3 ⟨rfl, rfl⟩
        go_wp2_with fail
        go_roundw
        case rel => exact ⟨i + 1, by omega, by omega, by go_num, R', O'⟩
        case measure => simp [intOf]; omega
      · have s1 : (nm.toList == s.toList) = false := str_ne (fun e => hik (rname_inj hi1 hlt (by decide) (by decide) (by rw [← rname_data, ← rname_data, hnm, hs.out, e])))
        have hkd := kdAt_miss hik
        rw [← hkd] at R
        replace hnm := hide hnm
        replace hkd := hide hkd
        go_wp2_with fail
        go_call NA as e w3 ⟨rfl, rfl⟩
        go_wp2_with fail
        go_roundw
        case rel => exact ⟨i + 1, by omega, by omega, by go_num, R, O⟩
        case measure => simp [intOf]; omega
    · obtain rfl : i = 11 := by omega
      have G := G2.only O (by simp)
      have OO : Only [] w wo := P2.trans O (fun x hx => .inr (by simp at hx; omega))
      replace R : Blk wo (w.heap.size + 1) 28 (firstR 1).cells := R
      have b0 : wo.cell? ⟨w.heap.size + 1, 0, none⟩ = some (.int .i64 1) := R.cell 0
      have b1 : wo.cell? ⟨w.heap.size + 1, 1, none⟩ = some (.string ⟨#[]⟩) := R.cell 1
      have b2 : wo.cell? ⟨w.heap.size + 1, 2, none⟩ = some (.string ⟨#[]⟩) := R.cell 2
      have b3 : wo.cell? ⟨w.heap.size + 1, 3, none⟩ = some (.string ⟨#[]⟩) := R.cell 3
      have b4 : wo.cell? ⟨w.heap.size + 1, 4, none⟩ = some (.int .u32 0) := R.cell 4
      have b5 : wo.cell? ⟨w.heap.size + 1, 5, none⟩ = some (.int .u32 0) := R.cell 5
      have b6 : wo.cell? ⟨w.heap.size + 1, 6, none⟩ = some (.int .u32 0) := R.cell 6
      have b7 : wo.cell? ⟨w.heap.size + 1, 7, none⟩ = some (.int .u32 0) := R.cell 7
      have b8 : wo.cell? ⟨w.heap.size + 1, 8, none⟩ = some (.slice none 0 0) := R.cell 8
      have b9 : wo.cell? ⟨w.heap.size + 1, 9, none⟩ = some (.bool false) := R.cell 9
      have b10 : wo.cell? ⟨w.heap.size + 1, 10, none⟩ = some (.int .u32 0) := R.cell 10
      have FA : Calls Tryz.prog 17 #[.agg #[.int .i64 1, .string ⟨#[]⟩, .string ⟨#[]⟩, .string ⟨#[]⟩, .int .u32 0, .int .u32 0, .int .u32 0, .int .u32 0, .slice none 0 0, .bool false, .int .u32 0]] wo (FieldsPost wo (partsR (firstR 1) 1)) := refFields_any (firstR 1) wo 1 (by decide) (by decide) rfl (firstR_ok _ _) (Nat.zero_le _) (Nat.zero_le _) (Nat.zero_le _)
      go_wp2_with fail
      go_call FA as e w4 ⟨P4, v0, fs, rfl, V4, hp, M4, N4⟩
      clear FA b0 b1 b2 b3 b4 b5 b6 b7 b8 b9 b10
      have hkf : fs.map (fun f => f.pf.kind) = rkinds 1 := by
        have := congrArg (List.map PF.kind) hp
        rw [List.map_map] at this
        exact this.trans (parts_kinds _ 1 (by decide) (by decide))
      have hfl : fs.length = 6 := len_kinds hkf
      obtain ⟨AF, cF, rfl, _, _, _⟩ := V4.form
      have RF := V4.rdF (fun f hf => ⟨(M4 f hf).1, N4 f hf⟩)
      rw [hfl]
      have O4 : Only [] w w4 := OO.trans P4 (by simp)
      replace hfl := hide hfl
      replace hp := hide hp
      replace hkf := hide hkf
      clear M4 N4 V4
      go_wp2_with fail
      go_loopw [38, 10] (fun ii o wr => ∃ (i : Nat) (v : Value), i ≤ 6 ∧ ii = .int .i64 i ∧ v = o ∧ OwnI wr w4.heap.size v ((rkinds 1).take i) ∧ Only [] w4 wr) (fun ii _ _ => 6 - (intOf ii).toNat)
      case atStart => exact ⟨0, _, by omega, rfl, rfl, ownI_nil _ _, Only.refl _ _⟩
      case round =>
        obtain ⟨wp, rfl⟩ : ∃ wp : World, wp = wr := ⟨_, rfl⟩
        obtain ⟨j, v, hj, rfl, rfl, V, Op⟩ := hrel
        have hob := V.block
        have zo := Op.size
        by_cases hlj : j < 6
        · skip
          obtain ⟨bF, offF, rfl, hbF, hcF⟩ := RF.cells (by have := hfl.out; omega)
          obtain ⟨f, hf⟩ : ∃ f, fs[j]? = some f := ⟨_, List.getElem?_eq_getElem (by have := hfl.out; omega)⟩
          obtain ⟨e0, e1, e2, e3⟩ := hcF j f hf
          have y0 := cellL Op hbF (by simp) e0
          have y1 := cellL Op hbF (by simp) e1
          have y2 := cellL Op hbF (by simp) e2
          have y3 := cellL Op hbF (by simp) e3
          have hkj : (rkinds 1)[j]? = some f.kind := by rw [← hkf.out, List.getElem?_map, hf]; rfl
          have hks : (rkinds 1).take (j + 1) = (rkinds 1).take j ++ [f.kind] := take_snocG hkj
          have hll : ((rkinds 1).take j).length ≤ 10 := by rw [List.length_take]; omega
          have X5 : Only [] wp ((wp.alloc (.cells #[.int .i64 f.kind, .int .u32 f.n, .slice f.tA f.text.length f.tc, .slice f.lA f.list.length f.lc] 61)).alloc (.cells #[.int .i64 f.kind] 3)) := ((Only.refl _ _).alloc _).alloc _
          have R5 : RdI ((wp.alloc (.cells #[.int .i64 f.kind, .int .u32 f.n, .slice f.tA f.text.length f.tc, .slice f.lA f.list.length f.lc] 61)).alloc (.cells #[.int .i64 f.kind] 3)) (some ⟨wp.heap.size + 1, 0, none⟩) [f.kind] := by
            have := rdI_new (wp.alloc (.cells #[.int .i64 f.kind, .int .u32 f.n, .slice f.tA f.text.length f.tc, .slice f.lA f.list.length f.lc] 61)) #[.int .i64 f.kind] [f.kind] rfl
            rwa [show (wp.alloc (.cells #[.int .i64 f.kind, .int .u32 f.n, .slice f.tA f.text.length f.tc, .slice f.lA f.list.length f.lc] 61)).heap.size = wp.heap.size + 1 by simp] at this
          have V5 := V.far X5 (fun x hx => by simp at hx)
          obtain ⟨ks, hksv⟩ : ∃ ks, (rkinds 1).take j = ks := ⟨_, rfl⟩
          rw [hksv] at V5 hll hks
          replace hks := hide hks
          replace hksv := hide hksv
          replace hkj := hide hkj
          replace hf := hide hf
          clear e0 e1 e2 e3 hcF
          go_wp2_with (at_builtin; go_must (refine wpList_appI rfl (.tmp 42) (.tmp 45) rfl w4.heap.size v ks rfl V5 (some ⟨wp.heap.size + 1, 0, none⟩) 1 [f.kind] _ rfl rfl R5 (by simp; omega) (by simp; omega) ?_; intro v9 w9 V9 P9))
          go_roundw
          case rel =>
            refine ⟨j + 1, _, by omega, by go_num, rfl, ?_, (Op.trans X5 (by simp)).trans P9 (fun x hx => .inr (hob x (by simpa using hx)).1)⟩
            rw [hks.out]
            exact V9.out
          case measure => simp [intOf]; omega
        · obtain rfl : j = 6 := by omega
          rw [show (rkinds 1).take 6 = rkinds 1 from rfl] at V
          obtain ⟨Ak, ck, rfl, Rk, hck, hcm, hAk⟩ := V.rd
          have O5 : Only [] w wp := O4.trans Op (by simp)
          have RD := refRead_any wp Ak A (rkinds 1) l ck c Rk (h.only O5) hl (by decide) (by have := hn.out; omega) (by have := hn.out; omega) hlm
          obtain ⟨⟨E, ps⟩, hres⟩ : ∃ r, readP (rkinds 1) l = r := ⟨_, rfl⟩
          rw [hres, hn.out] at RD
          have hgood := readP_good (rkinds 1) l hl
          rw [hres] at hgood
          have hdk : ∀ m E, DecK 1 l m E → DecR s l m E := fun m E hd => by rw [← hs.out]; exact decR_kind (by decide) (by decide) hd
          replace hres := hide hres
          replace hgood := hide hgood
          replace hdk := hide hdk
          rw [show (rkinds 1).length = 6 from rfl] at RD ⊢
          clear V hck hcm hAk
          go_wp2_with fail
          go_call RD as e w6 ⟨P6, Ax, cx, xs, rfl, hxs, VX, MX⟩
          clear RD
          (try dsimp only at hxs)
          (try dsimp only)
          have O6 : Only [] w w6 := O5.trans P6 (by simp)
          have G6 := ((G.only P4 (by simp)).only Op (by simp)).only P6 (by simp)
          have R6 := ((R.only P4 (by simp)).only Op (by simp)).only P6 (by simp)
          by_cases hE : E = 0
          · obtain ⟨hg1, hg2⟩ := hgood.out hE
            (try dsimp only at hg1 hg2)
            have hk : xs.map (fun f => f.pf.kind) = rkinds 1 := by rw [← hg1, ← hxs, List.map_map]; rfl
            have hff : ∀ f ∈ xs, U32 f.n ∧ InB f.text := fun f hf => hg2 f.pf (by rw [← hxs]; exact List.mem_map_of_mem hf)
            have Mok := put_ok2 1 (by decide) (by decide) hk MX hff
            have RX := VX.rdF (fun f hf => ⟨MX f hf, (hff f hf).1⟩)
            have hdz : ∀ (E2 : Int), E2 ≠ 0 → askR (putR (firstR 1) 1 xs) 1 = E2 → DecR s l zeroR E2 := fun E2 h2 ha => hdk.out _ _ (by
              unfold DecK
              rw [hres.out, if_neg (by simpa using hE)]
              exact ⟨xs, hxs, by rw [ha, if_neg h2]; exact ⟨rfl, rfl⟩⟩)
            have hd0 : askR (putR (firstR 1) 1 xs) 1 = 0 → DecR s l (putR (firstR 1) 1 xs) 0 := fun ha => hdk.out _ _ (by
              unfold DecK
              rw [hres.out, if_neg (by simpa using hE)]
              exact ⟨xs, hxs, by rw [if_pos ha]; exact ⟨rfl, rfl⟩⟩)
            replace hdz := hide hdz
            replace hd0 := hide hd0
            have hEb : (E != 0) = false := by simpa using hE
            replace hE := hide hE
            replace hxs := hide hxs
            clear hg1 hg2
            obtain ⟨x1, x2, x3, x4, x5, x6, rfl, _⟩ := ks6 hk
            clear hk
            have Rp : Blk wp (w.heap.size + 1) 28 (firstR 1).cells := (R.only P4 (by simp)).only Op (by simp)
            obtain ⟨bX, oX, rfl, hbX, hcX⟩ := RX.cells (by simp)
            have hbq : ¬ bX = w.heap.size + 1 := by have := (OwnF.block VX bX rfl).1; have := Rp.lt; omega
            obtain ⟨_, n0, t0, _⟩ := hcX 0 x1 rfl
            simp only [Nat.zero_mul, Nat.one_mul, Nat.reduceMul, Nat.add_zero] at n0 t0
            obtain ⟨_, n1, t1, _⟩ := hcX 1 x2 rfl
            simp only [Nat.zero_mul, Nat.one_mul, Nat.reduceMul, Nat.add_zero] at n1 t1
            obtain ⟨_, n2, t2, _⟩ := hcX 2 x3 rfl
            simp only [Nat.zero_mul, Nat.one_mul, Nat.reduceMul, Nat.add_zero] at n2 t2
            obtain ⟨_, n3, t3, _⟩ := hcX 3 x4 rfl
            simp only [Nat.zero_mul, Nat.one_mul, Nat.reduceMul, Nat.add_zero] at n3 t3
            obtain ⟨_, n4, t4, _⟩ := hcX 4 x5 rfl
            simp only [Nat.zero_mul, Nat.one_mul, Nat.reduceMul, Nat.add_zero] at n4 t4
            obtain ⟨_, n5, t5, _⟩ := hcX 5 x6 rfl
            simp only [Nat.zero_mul, Nat.one_mul, Nat.reduceMul, Nat.add_zero] at n5 t5
            clear hcX Rp
            clear VX
            have r0 : w6.cell? ⟨w.heap.size + 1, 0, none⟩ = some (.int .i64 1) := R6.cell 0
            have s0z := R6.frozen 0
            have r1 : w6.cell? ⟨w.heap.size + 1, 1, none⟩ = some (.string ⟨#[]⟩) := R6.cell 1
            have s1z := R6.frozen 1
            have r2 : w6.cell? ⟨w.heap.size + 1, 2, none⟩ = some (.string ⟨#[]⟩) := R6.cell 2
            have s2z := R6.frozen 2
            have r3 : w6.cell? ⟨w.heap.size + 1, 3, none⟩ = some (.string ⟨#[]⟩) := R6.cell 3
            have s3z := R6.frozen 3
            have r4 : w6.cell? ⟨w.heap.size + 1, 4, none⟩ = some (.int .u32 0) := R6.cell 4
            have s4z := R6.frozen 4
            have r5 : w6.cell? ⟨w.heap.size + 1, 5, none⟩ = some (.int .u32 0) := R6.cell 5
            have s5z := R6.frozen 5
            have r6 : w6.cell? ⟨w.heap.size + 1, 6, none⟩ = some (.int .u32 0) := R6.cell 6
            have s6z := R6.frozen 6
            have r7 : w6.cell? ⟨w.heap.size + 1, 7, none⟩ = some (.int .u32 0) := R6.cell 7
            have s7z := R6.frozen 7
            have r8 : w6.cell? ⟨w.heap.size + 1, 8, none⟩ = some (.slice none 0 0) := R6.cell 8
            have s8z := R6.frozen 8
            have r9 : w6.cell? ⟨w.heap.size + 1, 9, none⟩ = some (.bool false) := R6.cell 9
            have s9z := R6.frozen 9
            have r10 : w6.cell? ⟨w.heap.size + 1, 10, none⟩ = some (.int .u32 0) := R6.cell 10
            have s10z := R6.frozen 10
            have hML : putR (firstR 1) 1 [x1, x2, x3, x4, x5, x6] = (⟨1, (strOfNums x1.text), ⟨#[]⟩, ⟨#[]⟩, x2.n, x3.n, x4.n, x5.n, x6.tA, x6.tc, x6.text, false, 0⟩ : RQ) := rfl
            rw [hML] at Mok hdz hd0
            clear hML
            go_wp2_with fail
            have hI : (fun w' : World => Only [w.heap.size + 1] w6 w') { w6 with drawn := w6.drawn + 1 } := (Only.drew (Only.refl [w.heap.size + 1] w6))
            refine wp_region_E (fun w' : World => Only [w.heap.size + 1] w6 w') [] (by kernel_rfl) ?_
            refine wpAnyE_take 0 (v := (.slice (some ⟨bX, oX, none⟩) 6 cx)) rfl (by kernel_rfl) (fun _ _ _ h => h) hI (fun w' hw' => Or.inl ⟨by kernel_rfl, Or.inl (by go_simp)⟩) ?_
            refine wpAnyE_take 1 (v := (.pointer (some ⟨bX, oX, none⟩))) rfl (by kernel_rfl) (fun _ _ _ h => h) hI (fun w' hw' => Or.inl ⟨by kernel_rfl, Or.inl (by go_simp)⟩) ?_
            refine wpAnyE_take 2 (v := (.pointer (some ⟨bX, oX + 2, none⟩))) rfl (by kernel_rfl) (fun _ _ _ h => h) hI (fun w' hw' => Or.inl ⟨by kernel_rfl, Or.inl (by go_simp)⟩) ?_
            refine wpAnyE_take 3 (v := (.slice x1.tA x1.text.length x1.tc)) rfl (by kernel_rfl) (fun _ _ _ h => h) hI (fun w' hw' => Or.inl ⟨by kernel_rfl, Or.inl (by have y0 := cellL hw' hbX (by simpa using hbq) t0; go_simp)⟩) ?_
            refine wpAnyE_take 4 (v := (.string (strOfNums x1.text))) rfl (by kernel_rfl) (fun _ _ _ h => h) hI (fun w' hw' => Or.inl ⟨by kernel_rfl, Or.inl (by have kc := conv_rd (c := x1.tc) (RdG.onlyL (MX x1 (by simp)).text hw' (fun a ha h0 => by have := far_req R6 (MX x1 (by simp)).text h0 a ha; simp; omega)); go_simp)⟩) ?_
            refine wpAnyE_take 5 (v := (.slice (some ⟨bX, oX, none⟩) 6 cx)) rfl (by kernel_rfl) (fun _ _ _ h => h) hI (fun w' hw' => Or.inl ⟨by kernel_rfl, Or.inl (by go_simp)⟩) ?_
            refine wpAnyE_take 6 (v := (.pointer (some ⟨bX, oX + 20, none⟩))) rfl (by kernel_rfl) (fun _ _ _ h => h) hI (fun w' hw' => Or.inl ⟨by kernel_rfl, Or.inl (by go_simp)⟩) ?_
            refine wpAnyE_take 7 (v := (.pointer (some ⟨bX, oX + 20 + 2, none⟩))) rfl (by kernel_rfl) (fun _ _ _ h => h) hI (fun w' hw' => Or.inl ⟨by kernel_rfl, Or.inl (by go_simp)⟩) ?_
            refine wpAnyE_take 8 (v := (.slice x6.tA x6.text.length x6.tc)) rfl (by kernel_rfl) (fun _ _ _ h => h) hI (fun w' hw' => Or.inl ⟨by kernel_rfl, Or.inl (by have y0 := cellL hw' hbX (by simpa using hbq) t5; go_simp)⟩) ?_
            refine wpAnyE_take 9 (v := (.pointer (some ⟨w.heap.size + 1, 1, none⟩))) rfl (by kernel_rfl) (fun _ _ _ h => h) hI (fun w' hw' => Or.inl ⟨by kernel_rfl, Or.inl (by go_simp)⟩) ?_
            refine wpAnyE_one 10 rfl (by kernel_rfl) hI (fun K hK => ?_)
            rw [if_pos (by kernel_rfl)]
            go_simp
            refine hK _ _ ?_
            clear hK K
            replace hI : (fun w' : World => Only [w.heap.size + 1] w6 w') ((w6.setCell ⟨w.heap.size + 1, 1, none⟩ (.string (strOfNums x1.text))).drew) := ((Only.refl [w.heap.size + 1] w6).setCell (p := ⟨w.heap.size + 1, 1, none⟩) (.inl (by simp)) (.string (strOfNums x1.text))).drew
            refine wpAnyE_take 11 (v := (.pointer (some ⟨w.heap.size + 1, 8, none⟩))) rfl (by kernel_rfl) (fun _ _ _ h => h) hI (fun w' hw' => Or.inl ⟨by kernel_rfl, Or.inl (by go_simp)⟩) ?_
            refine wpAnyE_one 12 rfl (by kernel_rfl) hI (fun K hK => ?_)
            rw [if_pos (by kernel_rfl)]
            go_simp
            refine hK _ _ ?_
            clear hK K
            replace hI : (fun w' : World => Only [w.heap.size + 1] w6 w') (((w6.setCell ⟨w.heap.size + 1, 1, none⟩ (.string (strOfNums x1.text))).setCell ⟨w.heap.size + 1, 8, none⟩ (.slice x6.tA x6.text.length x6.tc)).drew) := (((Only.refl [w.heap.size + 1] w6).setCell (p := ⟨w.heap.size + 1, 1, none⟩) (.inl (by simp)) (.string (strOfNums x1.text))).setCell (p := ⟨w.heap.size + 1, 8, none⟩) (.inl (by simp)) (.slice x6.tA x6.text.length x6.tc)).drew
            refine wpAnyE_end (by kernel_rfl) hI ?_
            clear hI
            (try simp only [Exit.then])
            go_wp2_with fail
            obtain ⟨wz, hwz⟩ : ∃ wz, wz = ((w6.setCell ⟨w.heap.size + 1, 1, none⟩ (.string (strOfNums x1.text))).setCell ⟨w.heap.size + 1, 8, none⟩ (.slice x6.tA x6.text.length x6.tc)).drew := ⟨_, rfl⟩
            have KZ : Blk wz (w.heap.size + 1) 28 [.int .i64 1, .string (strOfNums x1.text), .string ⟨#[]⟩, .string ⟨#[]⟩, .int .u32 0, .int .u32 0, .int .u32 0, .int .u32 0, .slice x6.tA x6.text.length x6.tc, .bool false, .int .u32 0] := by rw [hwz]; exact ((R6.set_ 1 (.string (strOfNums x1.text))).set_ 8 (.slice x6.tA x6.text.length x6.tc)).drew
            have OZ : Only [w.heap.size + 1] w6 wz := by rw [hwz]; exact (((Only.refl [w.heap.size + 1] w6).setCell (p := ⟨w.heap.size + 1, 1, none⟩) (.inl (by simp)) (.string (strOfNums x1.text))).setCell (p := ⟨w.heap.size + 1, 8, none⟩) (.inl (by simp)) (.slice x6.tA x6.text.length x6.tc)).drew
            rw [← hwz]
            replace hwz := hide hwz
            have r0 : wz.cell? ⟨w.heap.size + 1, 0, none⟩ = some (.int .i64 1) := KZ.cell 0
            have s0z := KZ.frozen 0
            have r1 : wz.cell? ⟨w.heap.size + 1, 1, none⟩ = some (.string (strOfNums x1.text)) := KZ.cell 1
            have s1z := KZ.frozen 1
            have r2 : wz.cell? ⟨w.heap.size + 1, 2, none⟩ = some (.string ⟨#[]⟩) := KZ.cell 2
            have s2z := KZ.frozen 2
            have r3 : wz.cell? ⟨w.heap.size + 1, 3, none⟩ = some (.string ⟨#[]⟩) := KZ.cell 3
            have s3z := KZ.frozen 3
            have r4 : wz.cell? ⟨w.heap.size + 1, 4, none⟩ = some (.int .u32 0) := KZ.cell 4
            have s4z := KZ.frozen 4
            have r5 : wz.cell? ⟨w.heap.size + 1, 5, none⟩ = some (.int .u32 0) := KZ.cell 5
            have s5z := KZ.frozen 5
            have r6 : wz.cell? ⟨w.heap.size + 1, 6, none⟩ = some (.int .u32 0) := KZ.cell 6
            have s6z := KZ.frozen 6
            have r7 : wz.cell? ⟨w.heap.size + 1, 7, none⟩ = some (.int .u32 0) := KZ.cell 7
            have s7z := KZ.frozen 7
            have r8 : wz.cell? ⟨w.heap.size + 1, 8, none⟩ = some (.slice x6.tA x6.text.length x6.tc) := KZ.cell 8
            have s8z := KZ.frozen 8
            have r9 : wz.cell? ⟨w.heap.size + 1, 9, none⟩ = some (.bool false) := KZ.cell 9
            have s9z := KZ.frozen 9
            have r10 : wz.cell? ⟨w.heap.size + 1, 10, none⟩ = some (.int .u32 0) := KZ.cell 10
            have s10z := KZ.frozen 10
            obtain ⟨w7, hw7⟩ : ∃ w7, w7 = ((((wz.setCell ⟨w.heap.size + 1, 4, none⟩ (.int .u32 x2.n)).setCell ⟨w.heap.size + 1, 5, none⟩ (.int .u32 x3.n)).setCell ⟨w.heap.size + 1, 6, none⟩ (.int .u32 x4.n)).setCell ⟨w.heap.size + 1, 7, none⟩ (.int .u32 x5.n)).drew := ⟨_, rfl⟩
            have KM : Blk w7 (w.heap.size + 1) 28 (RQ.cells (⟨1, (strOfNums x1.text), ⟨#[]⟩, ⟨#[]⟩, x2.n, x3.n, x4.n, x5.n, x6.tA, x6.tc, x6.text, false, 0⟩ : RQ)) := by rw [hw7]; exact ((((KZ.set_ 4 (.int .u32 x2.n)).set_ 5 (.int .u32 x3.n)).set_ 6 (.int .u32 x4.n)).set_ 7 (.int .u32 x5.n)).drew
            have OM : Only [w.heap.size + 1] w6 w7 := by rw [hw7]; exact ((((OZ.setCell (p := ⟨w.heap.size + 1, 4, none⟩) (.inl (by simp)) (.int .u32 x2.n)).setCell (p := ⟨w.heap.size + 1, 5, none⟩) (.inl (by simp)) (.int .u32 x3.n)).setCell (p := ⟨w.heap.size + 1, 6, none⟩) (.inl (by simp)) (.int .u32 x4.n)).setCell (p := ⟨w.heap.size + 1, 7, none⟩) (.inl (by simp)) (.int .u32 x5.n)).drew
            have hMb : ∀ a, (RQ.mA (⟨1, (strOfNums x1.text), ⟨#[]⟩, ⟨#[]⟩, x2.n, x3.n, x4.n, x5.n, x6.tA, x6.tc, x6.text, false, 0⟩ : RQ)) = some a → 0 < (RQ.modes (⟨1, (strOfNums x1.text), ⟨#[]⟩, ⟨#[]⟩, x2.n, x3.n, x4.n, x5.n, x6.tA, x6.tc, x6.text, false, 0⟩ : RQ)).length → a.block ≠ w.heap.size + 1 := fun a ha h0 => far_req R6 Mok.modes h0 a ha
            have Mok7 := Mok.onlyN OM hMb
            have FT := reffault_any (⟨1, (strOfNums x1.text), ⟨#[]⟩, ⟨#[]⟩, x2.n, x3.n, x4.n, x5.n, x6.tA, x6.tc, x6.text, false, 0⟩ : RQ) w7 1 (by decide) (by decide) rfl Mok7
            obtain ⟨E2, hE2⟩ : ∃ E2, askR (⟨1, (strOfNums x1.text), ⟨#[]⟩, ⟨#[]⟩, x2.n, x3.n, x4.n, x5.n, x6.tA, x6.tc, x6.text, false, 0⟩ : RQ) 1 = E2 := ⟨_, rfl⟩
            rw [hE2] at FT
            have O7 : Only [] w w7 := O6.trans OM (fun x hx => .inr (by simp at hx; omega))
            have G7 := G6.only OM (by simp)
            replace hE2 := hide hE2
            replace KM := hide KM
            replace hMb := hide hMb
            replace Mok := hide Mok
            replace Mok7 := hide Mok7
            unfold RQ.val at FT
            dsimp only at FT
            replace FT := hide FT
            have hI : (fun w' : World => Only [w.heap.size + 1] w6 w') { wz with drawn := wz.drawn + 1 } := OZ.drew
            refine wp_region_E (fun w' : World => Only [w.heap.size + 1] w6 w') [] (by kernel_rfl) ?_
            refine wpAnyE_take 0 (v := (.slice (some ⟨bX, oX, none⟩) 6 cx)) rfl (by kernel_rfl) (fun _ _ _ h => h) hI (fun w' hw' => Or.inl ⟨by kernel_rfl, Or.inl (by go_simp)⟩) ?_
            refine wpAnyE_take 1 (v := (.pointer (some ⟨bX, oX + 4, none⟩))) rfl (by kernel_rfl) (fun _ _ _ h => h) hI (fun w' hw' => Or.inl ⟨by kernel_rfl, Or.inl (by go_simp)⟩) ?_
            refine wpAnyE_take 2 (v := (.pointer (some ⟨bX, oX + 4 + 1, none⟩))) rfl (by kernel_rfl) (fun _ _ _ h => h) hI (fun w' hw' => Or.inl ⟨by kernel_rfl, Or.inl (by go_simp)⟩) ?_
            refine wpAnyE_take 3 (v := (.int .u32 x2.n)) rfl (by kernel_rfl) (fun _ _ _ h => h) hI (fun w' hw' => Or.inl ⟨by kernel_rfl, Or.inl (by have y0 := cellL hw' hbX (by simpa using hbq) n1; go_simp)⟩) ?_
            refine wpAnyE_take 4 (v := (.slice (some ⟨bX, oX, none⟩) 6 cx)) rfl (by kernel_rfl) (fun _ _ _ h => h) hI (fun w' hw' => Or.inl ⟨by kernel_rfl, Or.inl (by go_simp)⟩) ?_
            refine wpAnyE_take 5 (v := (.pointer (some ⟨bX, oX + 8, none⟩))) rfl (by kernel_rfl) (fun _ _ _ h => h) hI (fun w' hw' => Or.inl ⟨by kernel_rfl, Or.inl (by go_simp)⟩) ?_
            refine wpAnyE_take 6 (v := (.pointer (some ⟨bX, oX + 8 + 1, none⟩))) rfl (by kernel_rfl) (fun _ _ _ h => h) hI (fun w' hw' => Or.inl ⟨by kernel_rfl, Or.inl (by go_simp)⟩) ?_
            refine wpAnyE_take 7 (v := (.int .u32 x3.n)) rfl (by kernel_rfl) (fun _ _ _ h => h) hI (fun w' hw' => Or.inl ⟨by kernel_rfl, Or.inl (by have y0 := cellL hw' hbX (by simpa using hbq) n2; go_simp)⟩) ?_
            refine wpAnyE_take 8 (v := (.slice (some ⟨bX, oX, none⟩) 6 cx)) rfl (by kernel_rfl) (fun _ _ _ h => h) hI (fun w' hw' => Or.inl ⟨by kernel_rfl, Or.inl (by go_simp)⟩) ?_
            refine wpAnyE_take 9 (v := (.pointer (some ⟨bX, oX + 12, none⟩))) rfl (by kernel_rfl) (fun _ _ _ h => h) hI (fun w' hw' => Or.inl ⟨by kernel_rfl, Or.inl (by go_simp)⟩) ?_
            refine wpAnyE_take 10 (v := (.pointer (some ⟨bX, oX + 12 + 1, none⟩))) rfl (by kernel_rfl) (fun _ _ _ h => h) hI (fun w' hw' => Or.inl ⟨by kernel_rfl, Or.inl (by go_simp)⟩) ?_
            refine wpAnyE_take 11 (v := (.int .u32 x4.n)) rfl (by kernel_rfl) (fun _ _ _ h => h) hI (fun w' hw' => Or.inl ⟨by kernel_rfl, Or.inl (by have y0 := cellL hw' hbX (by simpa using hbq) n3; go_simp)⟩) ?_
            refine wpAnyE_take 12 (v := (.slice (some ⟨bX, oX, none⟩) 6 cx)) rfl (by kernel_rfl) (fun _ _ _ h => h) hI (fun w' hw' => Or.inl ⟨by kernel_rfl, Or.inl (by go_simp)⟩) ?_
            refine wpAnyE_take 13 (v := (.pointer (some ⟨bX, oX + 16, none⟩))) rfl (by kernel_rfl) (fun _ _ _ h => h) hI (fun w' hw' => Or.inl ⟨by kernel_rfl, Or.inl (by go_simp)⟩) ?_
            refine wpAnyE_take 14 (v := (.pointer (some ⟨bX, oX + 16 + 1, none⟩))) rfl (by kernel_rfl) (fun _ _ _ h => h) hI (fun w' hw' => Or.inl ⟨by kernel_rfl, Or.inl (by go_simp)⟩) ?_
            refine wpAnyE_take 15 (v := (.int .u32 x5.n)) rfl (by kernel_rfl) (fun _ _ _ h => h) hI (fun w' hw' => Or.inl ⟨by kernel_rfl, Or.inl (by have y0 := cellL hw' hbX (by simpa using hbq) n4; go_simp)⟩) ?_
            refine wpAnyE_take 16 (v := (.agg #[.int .u32 x2.n, .int .u32 x3.n, .int .u32 x4.n, .int .u32 x5.n])) rfl (by kernel_rfl) (fun _ _ _ h => h) hI (fun w' hw' => Or.inl ⟨by kernel_rfl, Or.inl (by go_simp)⟩) ?_
            refine wpAnyE_take 17 (v := (.pointer (some ⟨w.heap.size + 1, 4, none⟩))) rfl (by kernel_rfl) (fun _ _ _ h => h) hI (fun w' hw' => Or.inl ⟨by kernel_rfl, Or.inl (by go_simp)⟩) ?_
            refine wpAnyE_one 18 rfl (by kernel_rfl) hI (fun K hK => ?_)
            rw [if_pos (by kernel_rfl)]
            go_simp
            refine hK _ _ ?_
            clear hK K
            replace hI : (fun w' : World => Only [w.heap.size + 1] w6 w') (((((wz.setCell ⟨w.heap.size + 1, 4, none⟩ (.int .u32 x2.n)).setCell ⟨w.heap.size + 1, 5, none⟩ (.int .u32 x3.n)).setCell ⟨w.heap.size + 1, 6, none⟩ (.int .u32 x4.n)).setCell ⟨w.heap.size + 1, 7, none⟩ (.int .u32 x5.n)).drew) := ((((OZ.setCell (p := ⟨w.heap.size + 1, 4, none⟩) (.inl (by simp)) (.int .u32 x2.n)).setCell (p := ⟨w.heap.size + 1, 5, none⟩) (.inl (by simp)) (.int .u32 x3.n)).setCell (p := ⟨w.heap.size + 1, 6, none⟩) (.inl (by simp)) (.int .u32 x4.n)).setCell (p := ⟨w.heap.size + 1, 7, none⟩) (.inl (by simp)) (.int .u32 x5.n)).drew
            refine wpAnyE_end (by kernel_rfl) hI ?_
            clear hI
            (try simp only [Exit.then])
            replace FT := FT.out
            go_wp2_with fail
            rw [← hw7]
            replace hw7 := hide hw7
            go_call FT as e w8 ⟨rfl, P8⟩
            clear FT
            clear r0 s0z r1 s1z r2 s2z r3 s3z r4 s4z r5 s5z r6 s6z r7 s7z r8 s8z r9 s9z r10 s10z n0 t0 n1 t1 n2 t2 n3 t3 n4 t4 n5 t5 
            have O8 := O7.trans P8 (by simp)
            have G8 := G7.only P8 (by simp)
            have K8 := KM.out.only P8 (by simp)
            have m0 : w8.cell? ⟨w.heap.size + 1, 0, none⟩ = some (.int .i64 1) := K8.cell 0
            have m1 : w8.cell? ⟨w.heap.size + 1, 1, none⟩ = some (.string (strOfNums x1.text)) := K8.cell 1
            have m2 : w8.cell? ⟨w.heap.size + 1, 2, none⟩ = some (.string ⟨#[]⟩) := K8.cell 2
            have m3 : w8.cell? ⟨w.heap.size + 1, 3, none⟩ = some (.string ⟨#[]⟩) := K8.cell 3
            have m4 : w8.cell? ⟨w.heap.size + 1, 4, none⟩ = some (.int .u32 x2.n) := K8.cell 4
            have m5 : w8.cell? ⟨w.heap.size + 1, 5, none⟩ = some (.int .u32 x3.n) := K8.cell 5
            have m6 : w8.cell? ⟨w.heap.size + 1, 6, none⟩ = some (.int .u32 x4.n) := K8.cell 6
            have m7 : w8.cell? ⟨w.heap.size + 1, 7, none⟩ = some (.int .u32 x5.n) := K8.cell 7
            have m8 : w8.cell? ⟨w.heap.size + 1, 8, none⟩ = some (.slice x6.tA x6.text.length x6.tc) := K8.cell 8
            have m9 : w8.cell? ⟨w.heap.size + 1, 9, none⟩ = some (.bool false) := K8.cell 9
            have m10 : w8.cell? ⟨w.heap.size + 1, 10, none⟩ = some (.int .u32 0) := K8.cell 10
            have g0 : w8.cell? ⟨w.heap.size, 0, none⟩ = some (.int .i64 0) := G8.cell 0
            have f0 := G8.frozen 0
            have g1 : w8.cell? ⟨w.heap.size, 1, none⟩ = some (.string ⟨#[]⟩) := G8.cell 1
            have f1 := G8.frozen 1
            have g2 : w8.cell? ⟨w.heap.size, 2, none⟩ = some (.string ⟨#[]⟩) := G8.cell 2
            have f2 := G8.frozen 2
            have g3 : w8.cell? ⟨w.heap.size, 3, none⟩ = some (.string ⟨#[]⟩) := G8.cell 3
            have f3 := G8.frozen 3
            have g4 : w8.cell? ⟨w.heap.size, 4, none⟩ = some (.int .u32 0) := G8.cell 4
            have f4 := G8.frozen 4
            have g5 : w8.cell? ⟨w.heap.size, 5, none⟩ = some (.int .u32 0) := G8.cell 5
            have f5 := G8.frozen 5
            have g6 : w8.cell? ⟨w.heap.size, 6, none⟩ = some (.int .u32 0) := G8.cell 6
            have f6 := G8.frozen 6
            have g7 : w8.cell? ⟨w.heap.size, 7, none⟩ = some (.int .u32 0) := G8.cell 7
            have f7 := G8.frozen 7
            have g8 : w8.cell? ⟨w.heap.size, 8, none⟩ = some (.slice none 0 0) := G8.cell 8
            have f8 := G8.frozen 8
            have g9 : w8.cell? ⟨w.heap.size, 9, none⟩ = some (.bool false) := G8.cell 9
            have f9 := G8.frozen 9
            have g10 : w8.cell? ⟨w.heap.size, 10, none⟩ = some (.int .u32 0) := G8.cell 10
            have f10 := G8.frozen 10
            by_cases hz : E2 = 0
            · have hzb : (E2 != 0) = false := by simpa using hz
              have hD := hd0.out (by rw [hE2.out]; exact hz)
              replace hz := hide hz
              replace hD := hide hD
              go_wp2_with fail
              (try simp only [Exit.inBlock, Exit.then])
              refine ret_req (g := w.heap.size) (⟨1, (strOfNums x1.text), ⟨#[]⟩, ⟨#[]⟩, x2.n, x3.n, x4.n, x5.n, x6.tA, x6.tc, x6.text, false, 0⟩ : RQ) rfl (by rfl) (by rfl) (rsetB (⟨1, (strOfNums x1.text), ⟨#[]⟩, ⟨#[]⟩, x2.n, x3.n, x4.n, x5.n, x6.tA, x6.tc, x6.text, false, 0⟩ : RQ) G8) ?_
              have hx := rsetO (⟨1, (strOfNums x1.text), ⟨#[]⟩, ⟨#[]⟩, x2.n, x3.n, x4.n, x5.n, x6.tA, x6.tc, x6.text, false, 0⟩ : RQ) (L := [w.heap.size]) (w0 := w8) (w := w8) (q := w.heap.size) (.inl (by simp)) (Only.refl _ _)
              have Mok8 := Mok7.out.only P8
              exact ⟨rsetO (⟨1, (strOfNums x1.text), ⟨#[]⟩, ⟨#[]⟩, x2.n, x3.n, x4.n, x5.n, x6.tA, x6.tc, x6.text, false, 0⟩ : RQ) (.inr (Nat.le_refl _)) O8, (⟨1, (strOfNums x1.text), ⟨#[]⟩, ⟨#[]⟩, x2.n, x3.n, x4.n, x5.n, x6.tA, x6.tc, x6.text, false, 0⟩ : RQ), 0, rfl, Mok8.onlyN hx (fun a ha h0 => far_req G8 Mok8.modes h0 a ha), hD.out⟩
            · have hzb : (E2 != 0) = true := by simpa using hz
              have hD := hdz.out E2 hz hE2.out
              replace hz := hide hz
              replace hD := hide hD
              go_wp2_with fail
              (try simp only [Exit.inBlock, Exit.then])
              refine ret_req (g := w.heap.size) zeroR rfl (by rfl) (by rfl) (rsetB zeroR G8) ?_
              exact ⟨rsetO zeroR (.inr (Nat.le_refl _)) O8, zeroR, E2, rfl, zeroR_ok _, hD.out⟩
          · have hEb : (E != 0) = true := by simpa using hE
            have hD : DecR s l zeroR E := hdk.out _ _ (by
              unfold DecK
              rw [hres.out, if_pos (by simpa using hE)]
              exact ⟨rfl, rfl⟩)
            replace hE := hide hE
            replace hD := hide hD
            replace hxs := hide hxs
            have g0 : w6.cell? ⟨w.heap.size, 0, none⟩ = some (.int .i64 0) := G6.cell 0
            have f0 := G6.frozen 0
            have g1 : w6.cell? ⟨w.heap.size, 1, none⟩ = some (.string ⟨#[]⟩) := G6.cell 1
            have f1 := G6.frozen 1
            have g2 : w6.cell? ⟨w.heap.size, 2, none⟩ = some (.string ⟨#[]⟩) := G6.cell 2
            have f2 := G6.frozen 2
            have g3 : w6.cell? ⟨w.heap.size, 3, none⟩ = some (.string ⟨#[]⟩) := G6.cell 3
            have f3 := G6.frozen 3
            have g4 : w6.cell? ⟨w.heap.size, 4, none⟩ = some (.int .u32 0) := G6.cell 4
            have f4 := G6.frozen 4
            have g5 : w6.cell? ⟨w.heap.size, 5, none⟩ = some (.int .u32 0) := G6.cell 5
            have f5 := G6.frozen 5
            have g6 : w6.cell? ⟨w.heap.size, 6, none⟩ = some (.int .u32 0) := G6.cell 6
            have f6 := G6.frozen 6
            have g7 : w6.cell? ⟨w.heap.size, 7, none⟩ = some (.int .u32 0) := G6.cell 7
            have f7 := G6.frozen 7
            have g8 : w6.cell? ⟨w.heap.size, 8, none⟩ = some (.slice none 0 0) := G6.cell 8
            have f8 := G6.frozen 8
            have g9 : w6.cell? ⟨w.heap.size, 9, none⟩ = some (.bool false) := G6.cell 9
            have f9 := G6.frozen 9
            have g10 : w6.cell? ⟨w.heap.size, 10, none⟩ = some (.int .u32 0) := G6.cell 10
            have f10 := G6.frozen 10
            go_wp2_with fail
            (try simp only [Exit.inBlock, Exit.then])
            refine ret_req (g := w.heap.size) zeroR rfl (by rfl) (by rfl) (rsetB zeroR G6) ?_
            exact ⟨rsetO zeroR (.inr (Nat.le_refl _)) O6, zeroR, E, rfl, zeroR_ok _, hD.out⟩
set_option maxRecDepth 100000 in
set_option maxHeartbeats 6400000 in
theorem refdec_k10 (A : Option Addr) (l : List Int) (c : Nat) (w : World) (h : Rd w A l) (hl : InB l) (hln : l.length ≤ 140737488355000) (hlc : l.length ≤ c) (hlm : c ≤ maxLen) :
    Calls Tryz.prog 7 #[.string (rname 10), .slice A l.length c] w (RefDecPost w (rname 10) l) := by
  obtain ⟨ln, hn⟩ : ∃ ln, l.length = ln := ⟨_, rfl⟩
  rw [hn] at hln hlc ⊢
  replace hn := hide hn
  obtain ⟨s, hs⟩ : ∃ s, rname 10 = s := ⟨_, rfl⟩
  rw [hs]
  replace hs := hide hs
  obtain ⟨w2, hw2⟩ : ∃ w2, w2 = (w.alloc (.cells #[.int .i64 0, .string ⟨#[]⟩, .string ⟨#[]⟩, .string ⟨#[]⟩, .int .u32 0, .int .u32 0, .int .u32 0, .int .u32 0, .slice none 0 0, .bool false, .int .u32 0] 28)).alloc (.cells #[.int .i64 0, .string ⟨#[]⟩, .string ⟨#[]⟩, .string ⟨#[]⟩, .int .u32 0, .int .u32 0, .int .u32 0, .int .u32 0, .slice none 0 0, .bool false, .int .u32 0] 28) := ⟨_, rfl⟩
  have P2 : Only [] w w2 := by rw [hw2]; exact ((Only.refl _ _).alloc _).alloc _
  have G2 : Blk w2 w.heap.size 28 zeroR.cells := by rw [hw2]; exact (Blk.new w _ _).alloc _
  have R2 : Blk w2 (w.heap.size + 1) 28 (kcells (kdAt 10 1)) := by
    rw [hw2]
    have := Blk.new (w.alloc (.cells #[.int .i64 0, .string ⟨#[]⟩, .string ⟨#[]⟩, .string ⟨#[]⟩, .int .u32 0, .int .u32 0, .int .u32 0, .int .u32 0, .slice none 0 0, .bool false, .int .u32 0] 28)) 28 [.int .i64 0, .string ⟨#[]⟩, .string ⟨#[]⟩, .string ⟨#[]⟩, .int .u32 0, .int .u32 0, .int .u32 0, .int .u32 0, .slice none 0 0, .bool false, .int .u32 0]
    rwa [show (w.alloc (.cells #[.int .i64 0, .string ⟨#[]⟩, .string ⟨#[]⟩, .string ⟨#[]⟩, .int .u32 0, .int .u32 0, .int .u32 0, .int .u32 0, .slice none 0 0, .bool false, .int .u32 0] 28)).heap.size = w.heap.size + 1 by simp] at this
  go_enter Tryz.func7, Tryz.ntmps7
  go_wp2_with fail
  rw [← hw2]
  replace hw2 := hide hw2
  go_loopw [7] (fun ii wr => ∃ i : Nat, 1 ≤ i ∧ i ≤ 11 ∧ ii = .int .i64 i ∧ Blk wr (w.heap.size + 1) 28 (kcells (kdAt 10 i)) ∧ Only [w.heap.size + 1] w2 wr) (fun ii _ => 11 - (intOf ii).toNat)
  case atStart => exact ⟨1, by omega, by omega, rfl, R2, Only.refl _ _⟩
  case round =>
    obtain ⟨wo, rfl⟩ : ∃ wo : World, wo = wr := ⟨_, rfl⟩
    obtain ⟨i, hi1, hi, rfl, R, O⟩ := hrel
    by_cases hlt : i ≤ 10
    · have NA := refRName_any i hi1 hlt wo
      obtain ⟨nm, hnm⟩ : ∃ nm, rname i = nm := ⟨_, rfl⟩
      rw [hnm] at NA
      by_cases hik : i = 10
      · have s1 : (nm.toList == s.toList) = true := str_eq (by rw [← hnm, ← hs.out, hik])
        have c0 : wo.cell? ⟨w.heap.size + 1, 0, none⟩ = some (.int .i64 (kdAt 10 i)) := R.cell 0
        have z0 := R.frozen 0
        have R' : Blk (wo.setCell ⟨w.heap.size + 1, 0, none⟩ (.int .i64 (i : Int))) (w.heap.size + 1) 28 (kcells (kdAt 10 (i + 1))) := by
          have := R.set_ 0 (.int .i64 (i : Int))
          rw [kcells_set] at this
          rw [show kdAt 10 (i + 1) = (i : Int) by rw [hik]; rfl]
          exact this
        have O' : Only [w.heap.size + 1] w2 (wo.setCell ⟨w.heap.size + 1, 0, none⟩ (.int .i64 (i : Int))) := O.setCell (p := ⟨w.heap.size + 1, 0, none⟩) (.inl (by simp)) _
        replace hnm := hide hnm
        replace hik := hide hik
        go_wp2_with fail
        go_call NA as e w3 ⟨rfl, rfl⟩
        go_wp2_with fail
        go_roundw
        case rel => exact ⟨i + 1, by omega, by omega, by go_num, R', O'⟩
        case measure => simp [intOf]; omega
      · have s1 : (nm.toList == s.toList) = false := str_ne (fun e => hik (rname_inj hi1 hlt (by decide) (by decide) (by rw [← rname_data, ← rname_data, hnm, hs.out, e])))
        have hkd := kdAt_miss hik
        rw [← hkd] at R
        replace hnm := hide hnm
        replace hkd := hide hkd
        go_wp2_with fail
        go_call NA as e w3 ⟨rfl, rfl⟩
        go_wp2_with fail
        go_roundw
        case rel => exact ⟨i + 1, by omega, by omega, by go_num, R, O⟩
        case measure => simp [intOf]; omega
    · obtain rfl : i = 11 := by omega
      have G := G2.only O (by simp)
      have OO : Only [] w wo := P2.trans O (fun x hx => .inr (by simp at hx; omega))
      replace R : Blk wo (w.heap.size + 1) 28 (firstR 10).cells := R
      have b0 : wo.cell? ⟨w.heap.size + 1, 0, none⟩ = some (.int .i64 10) := R.cell 0
      have b1 : wo.cell? ⟨w.heap.size + 1, 1, none⟩ = some (.string ⟨#[]⟩) := R.cell 1
      have b2 : wo.cell? ⟨w.heap.size + 1, 2, none⟩ = some (.string ⟨#[]⟩) := R.cell 2
      have b3 : wo.cell? ⟨w.heap.size + 1, 3, none⟩ = some (.string ⟨#[]⟩) := R.cell 3
      have b4 : wo.cell? ⟨w.heap.size + 1, 4, none⟩ = some (.int .u32 0) := R.cell 4
      have b5 : wo.cell? ⟨w.heap.size + 1, 5, none⟩ = some (.int .u32 0) := R.cell 5
      have b6 : wo.cell? ⟨w.heap.size + 1, 6, none⟩ = some (.int .u32 0) := R.cell 6
      have b7 : wo.cell? ⟨w.heap.size + 1, 7, none⟩ = some (.int .u32 0) := R.cell 7
      have b8 : wo.cell? ⟨w.heap.size + 1, 8, none⟩ = some (.slice none 0 0) := R.cell 8
      have b9 : wo.cell? ⟨w.heap.size + 1, 9, none⟩ = some (.bool false) := R.cell 9
      have b10 : wo.cell? ⟨w.heap.size + 1, 10, none⟩ = some (.int .u32 0) := R.cell 10
      have FA : Calls Tryz.prog 17 #[.agg #[.int .i64 10, .string ⟨#[]⟩, .string ⟨#[]⟩, .string ⟨#[]⟩, .int .u32 0, .int .u32 0, .int .u32 0, .int .u32 0, .slice none 0 0, .bool false, .int .u32 0]] wo (FieldsPost wo (partsR (firstR 10) 10)) := refFields_any (firstR 10) wo 10 (by decide) (by decide) rfl (firstR_ok _ _) (Nat.zero_le _) (Nat.zero_le _) (Nat.zero_le _)
      go_wp2_with fail
      go_call FA as e w4 ⟨P4, v0, fs, rfl, V4, hp, M4, N4⟩
      clear FA b0 b1 b2 b3 b4 b5 b6 b7 b8 b9 b10
      have hkf : fs.map (fun f => f.pf.kind) = rkinds 10 := by
        have := congrArg (List.map PF.kind) hp
        rw [List.map_map] at this
        exact this.trans (parts_kinds _ 10 (by decide) (by decide))
      have hfl : fs.length = 4 := len_kinds hkf
      obtain ⟨AF, cF, rfl, _, _, _⟩ := V4.form
      have RF := V4.rdF (fun f hf => ⟨(M4 f hf).1, N4 f hf⟩)
      rw [hfl]
      have O4 : Only [] w w4 := OO.trans P4 (by simp)
      replace hfl := hide hfl
      replace hp := hide hp
      replace hkf := hide hkf
      clear M4 N4 V4
      go_wp2_with fail
      go_loopw [38, 10] (fun ii o wr => ∃ (i : Nat) (v : Value), i ≤ 4 ∧ ii = .int .i64 i ∧ v = o ∧ OwnI wr w4.heap.size v ((rkinds 10).take i) ∧ Only [] w4 wr) (fun ii _ _ => 4 - (intOf ii).toNat)
      case atStart => exact ⟨0, _, by omega, rfl, rfl, ownI_nil _ _, Only.refl _ _⟩
      case round =>
        obtain ⟨wp, rfl⟩ : ∃ wp : World, wp = wr := ⟨_, rfl⟩
        obtain ⟨j, v, hj, rfl, rfl, V, Op⟩ := hrel
        have hob := V.block
        have zo := Op.size
        by_cases hlj : j < 4
        · skip
          obtain ⟨bF, offF, rfl, hbF, hcF⟩ := RF.cells (by have := hfl.out; omega)
          obtain ⟨f, hf⟩ : ∃ f, fs[j]? = some f := ⟨_, List.getElem?_eq_getElem (by have := hfl.out; omega)⟩
          obtain ⟨e0, e1, e2, e3⟩ := hcF j f hf
          have y0 := cellL Op hbF (by simp) e0
          have y1 := cellL Op hbF (by simp) e1
          have y2 := cellL Op hbF (by simp) e2
          have y3 := cellL Op hbF (by simp) e3
          have hkj : (rkinds 10)[j]? = some f.kind := by rw [← hkf.out, List.getElem?_map, hf]; rfl
          have hks : (rkinds 10).take (j + 1) = (rkinds 10).take j ++ [f.kind] := take_snocG hkj
          have hll : ((rkinds 10).take j).length ≤ 10 := by rw [List.length_take]; omega
          have X5 : Only [] wp ((wp.alloc (.cells #[.int .i64 f.kind, .int .u32 f.n, .slice f.tA f.text.length f.tc, .slice f.lA f.list.length f.lc] 61)).alloc (.cells #[.int .i64 f.kind] 3)) := ((Only.refl _ _).alloc _).alloc _
          have R5 : RdI ((wp.alloc (.cells #[.int .i64 f.kind, .int .u32 f.n, .slice f.tA f.text.length f.tc, .slice f.lA f.list.length f.lc] 61)).alloc (.cells #[.int .i64 f.kind] 3)) (some ⟨wp.heap.size + 1, 0, none⟩) [f.kind] := by
            have := rdI_new (wp.alloc (.cells #[.int .i64 f.kind, .int .u32 f.n, .slice f.tA f.text.length f.tc, .slice f.lA f.list.length f.lc] 61)) #[.int .i64 f.kind] [f.kind] rfl
            rwa [show (wp.alloc (.cells #[.int .i64 f.kind, .int .u32 f.n, .slice f.tA f.text.length f.tc, .slice f.lA f.list.length f.lc] 61)).heap.size = wp.heap.size + 1 by simp] at this
          have V5 := V.far X5 (fun x hx => by simp at hx)
          obtain ⟨ks, hksv⟩ : ∃ ks, (rkinds 10).take j = ks := ⟨_, rfl⟩
          rw [hksv] at V5 hll hks
          replace hks := hide hks
          replace hksv := hide hksv
          replace hkj := hide hkj
          replace hf := hide hf
          clear e0 e1 e2 e3 hcF
          go_wp2_with (at_builtin; go_must (refine wpList_appI rfl (.tmp 42) (.tmp 45) rfl w4.heap.size v ks rfl V5 (some ⟨wp.heap.size + 1, 0, none⟩) 1 [f.kind] _ rfl rfl R5 (by simp; omega) (by simp; omega) ?_; intro v9 w9 V9 P9))
          go_roundw
          case rel =>
            refine ⟨j + 1, _, by omega, by go_num, rfl, ?_, (Op.trans X5 (by simp)).trans P9 (fun x hx => .inr (hob x (by simpa using hx)).1)⟩
            rw [hks.out]
            exact V9.out
          case measure => simp [intOf]; omega
        · obtain rfl : j = 4 := by omega
          rw [show (rkinds 10).take 4 = rkinds 10 from rfl] at V
          obtain ⟨Ak, ck, rfl, Rk, hck, hcm, hAk⟩ := V.rd
          have O5 : Only [] w wp := O4.trans Op (by simp)
          have RD := refRead_any wp Ak A (rkinds 10) l ck c Rk (h.only O5) hl (by decide) (by have := hn.out; omega) (by have := hn.out; omega) hlm
          obtain ⟨⟨E, ps⟩, hres⟩ : ∃ r, readP (rkinds 10) l = r := ⟨_, rfl⟩
          rw [hres, hn.out] at RD
          have hgood := readP_good (rkinds 10) l hl
          rw [hres] at hgood
          have hdk : ∀ m E, DecK 10 l m E → DecR s l m E := fun m E hd => by rw [← hs.out]; exact decR_kind (by decide) (by decide) hd
          replace hres := hide hres
          replace hgood := hide hgood
          replace hdk := hide hdk
          rw [show (rkinds 10).length = 4 from rfl] at RD ⊢
          clear V hck hcm hAk
          go_wp2_with fail
          go_call RD as e w6 ⟨P6, Ax, cx, xs, rfl, hxs, VX, MX⟩
          clear RD
          (try dsimp only at hxs)
          (try dsimp only)
          have O6 : Only [] w w6 := O5.trans P6 (by simp)
          have G6 := ((G.only P4 (by simp)).only Op (by simp)).only P6 (by simp)
          have R6 := ((R.only P4 (by simp)).only Op (by simp)).only P6 (by simp)
          by_cases hE : E = 0
          · obtain ⟨hg1, hg2⟩ := hgood.out hE
            (try dsimp only at hg1 hg2)
            have hk : xs.map (fun f => f.pf.kind) = rkinds 10 := by rw [← hg1, ← hxs, List.map_map]; rfl
            have hff : ∀ f ∈ xs, U32 f.n ∧ InB f.text := fun f hf => hg2 f.pf (by rw [← hxs]; exact List.mem_map_of_mem hf)
            have Mok := put_ok2 10 (by decide) (by decide) hk MX hff
            have RX := VX.rdF (fun f hf => ⟨MX f hf, (hff f hf).1⟩)
            have hdz : ∀ (E2 : Int), E2 ≠ 0 → askR (putR (firstR 10) 10 xs) 10 = E2 → DecR s l zeroR E2 := fun E2 h2 ha => hdk.out _ _ (by
              unfold DecK
              rw [hres.out, if_neg (by simpa using hE)]
              exact ⟨xs, hxs, by rw [ha, if_neg h2]; exact ⟨rfl, rfl⟩⟩)
            have hd0 : askR (putR (firstR 10) 10 xs) 10 = 0 → DecR s l (putR (firstR 10) 10 xs) 0 := fun ha => hdk.out _ _ (by
              unfold DecK
              rw [hres.out, if_neg (by simpa using hE)]
              exact ⟨xs, hxs, by rw [if_pos ha]; exact ⟨rfl, rfl⟩⟩)
            replace hdz := hide hdz
            replace hd0 := hide hd0
            have hEb : (E != 0) = false := by simpa using hE
            replace hE := hide hE
            replace hxs := hide hxs
            clear hg1 hg2
            obtain ⟨x1, x2, x3, x4, rfl, _⟩ := ks4 hk
            clear hk
            have Rp : Blk wp (w.heap.size + 1) 28 (firstR 10).cells := (R.only P4 (by simp)).only Op (by simp)
            obtain ⟨bX, oX, rfl, hbX, hcX⟩ := RX.cells (by simp)
            have hbq : ¬ bX = w.heap.size + 1 := by have := (OwnF.block VX bX rfl).1; have := Rp.lt; omega
            obtain ⟨_, n0, t0, _⟩ := hcX 0 x1 rfl
            simp only [Nat.zero_mul, Nat.one_mul, Nat.reduceMul, Nat.add_zero] at n0 t0
            obtain ⟨_, n1, t1, _⟩ := hcX 1 x2 rfl
            simp only [Nat.zero_mul, Nat.one_mul, Nat.reduceMul, Nat.add_zero] at n1 t1
            obtain ⟨_, n2, t2, _⟩ := hcX 2 x3 rfl
            simp only [Nat.zero_mul, Nat.one_mul, Nat.reduceMul, Nat.add_zero] at n2 t2
            obtain ⟨_, n3, t3, _⟩ := hcX 3 x4 rfl
            simp only [Nat.zero_mul, Nat.one_mul, Nat.reduceMul, Nat.add_zero] at n3 t3
            clear hcX Rp
            clear VX
            have r0 : w6.cell? ⟨w.heap.size + 1, 0, none⟩ = some (.int .i64 10) := R6.cell 0
            have s0z := R6.frozen 0
            have r1 : w6.cell? ⟨w.heap.size + 1, 1, none⟩ = some (.string ⟨#[]⟩) := R6.cell 1
            have s1z := R6.frozen 1
            have r2 : w6.cell? ⟨w.heap.size + 1, 2, none⟩ = some (.string ⟨#[]⟩) := R6.cell 2
            have s2z := R6.frozen 2
            have r3 : w6.cell? ⟨w.heap.size + 1, 3, none⟩ = some (.string ⟨#[]⟩) := R6.cell 3
            have s3z := R6.frozen 3
            have r4 : w6.cell? ⟨w.heap.size + 1, 4, none⟩ = some (.int .u32 0) := R6.cell 4
            have s4z := R6.frozen 4
            have r5 : w6.cell? ⟨w.heap.size + 1, 5, none⟩ = some (.int .u32 0) := R6.cell 5
            have s5z := R6.frozen 5
            have r6 : w6.cell? ⟨w.heap.size + 1, 6, none⟩ = some (.int .u32 0) := R6.cell 6
            have s6z := R6.frozen 6
            have r7 : w6.cell? ⟨w.heap.size + 1, 7, none⟩ = some (.int .u32 0) := R6.cell 7
            have s7z := R6.frozen 7
            have r8 : w6.cell? ⟨w.heap.size + 1, 8, none⟩ = some (.slice none 0 0) := R6.cell 8
            have s8z := R6.frozen 8
            have r9 : w6.cell? ⟨w.heap.size + 1, 9, none⟩ = some (.bool false) := R6.cell 9
            have s9z := R6.frozen 9
            have r10 : w6.cell? ⟨w.heap.size + 1, 10, none⟩ = some (.int .u32 0) := R6.cell 10
            have s10z := R6.frozen 10
            obtain ⟨on, hon⟩ : ∃ on, decide (x2.n = 1) = on := ⟨_, rfl⟩
            have hon2 : (x2.n == 1) = on := hon
            have hML : putR (firstR 10) 10 [x1, x2, x3, x4] = (⟨10, (strOfNums x1.text), (strOfNums x3.text), (strOfNums x4.text), 0, 0, 0, 0, none, 0, [], on, 0⟩ : RQ) := by rw [← hon]; rfl
            rw [hML] at Mok hdz hd0
            clear hML
            replace hon := hide hon
            obtain ⟨w7, hw7⟩ : ∃ w7, w7 = ((((w6.setCell ⟨w.heap.size + 1, 1, none⟩ (.string (strOfNums x1.text))).setCell ⟨w.heap.size + 1, 9, none⟩ (.bool on)).setCell ⟨w.heap.size + 1, 2, none⟩ (.string (strOfNums x3.text))).setCell ⟨w.heap.size + 1, 3, none⟩ (.string (strOfNums x4.text))).drew := ⟨_, rfl⟩
            have KM : Blk w7 (w.heap.size + 1) 28 (RQ.cells (⟨10, (strOfNums x1.text), (strOfNums x3.text), (strOfNums x4.text), 0, 0, 0, 0, none, 0, [], on, 0⟩ : RQ)) := by rw [hw7]; exact ((((R6.set_ 1 (.string (strOfNums x1.text))).set_ 9 (.bool on)).set_ 2 (.string (strOfNums x3.text))).set_ 3 (.string (strOfNums x4.text))).drew
            have OM : Only [w.heap.size + 1] w6 w7 := by rw [hw7]; exact (((((Only.refl [w.heap.size + 1] w6).setCell (p := ⟨w.heap.size + 1, 1, none⟩) (.inl (by simp)) (.string (strOfNums x1.text))).setCell (p := ⟨w.heap.size + 1, 9, none⟩) (.inl (by simp)) (.bool on)).setCell (p := ⟨w.heap.size + 1, 2, none⟩) (.inl (by simp)) (.string (strOfNums x3.text))).setCell (p := ⟨w.heap.size + 1, 3, none⟩) (.inl (by simp)) (.string (strOfNums x4.text))).drew
            have hMb : ∀ a, (RQ.mA (⟨10, (strOfNums x1.text), (strOfNums x3.text), (strOfNums x4.text), 0, 0, 0, 0, none, 0, [], on, 0⟩ : RQ)) = some a → 0 < (RQ.modes (⟨10, (strOfNums x1.text), (strOfNums x3.text), (strOfNums x4.text), 0, 0, 0, 0, none, 0, [], on, 0⟩ : RQ)).length → a.block ≠ w.heap.size + 1 := fun a ha h0 => far_req R6 Mok.modes h0 a ha
            have Mok7 := Mok.onlyN OM hMb
            have FT := reffault_any (⟨10, (strOfNums x1.text), (strOfNums x3.text), (strOfNums x4.text), 0, 0, 0, 0, none, 0, [], on, 0⟩ : RQ) w7 10 (by decide) (by decide) rfl Mok7
            obtain ⟨E2, hE2⟩ : ∃ E2, askR (⟨10, (strOfNums x1.text), (strOfNums x3.text), (strOfNums x4.text), 0, 0, 0, 0, none, 0, [], on, 0⟩ : RQ) 10 = E2 := ⟨_, rfl⟩
            rw [hE2] at FT
            have O7 : Only [] w w7 := O6.trans OM (fun x hx => .inr (by simp at hx; omega))
            have G7 := G6.only OM (by simp)
            replace hE2 := hide hE2
            replace KM := hide KM
            replace hMb := hide hMb
            replace Mok := hide Mok
            replace Mok7 := hide Mok7
            unfold RQ.val at FT
            dsimp only at FT
            replace FT := hide FT
            go_wp2_with fail
            have hI : (fun w' : World => Only [w.heap.size + 1] w6 w') { w6 with drawn := w6.drawn + 1 } := (Only.drew (Only.refl [w.heap.size + 1] w6))
            refine wp_region_E (fun w' : World => Only [w.heap.size + 1] w6 w') [] (by kernel_rfl) ?_
            refine wpAnyE_take 0 (v := (.slice (some ⟨bX, oX, none⟩) 4 cx)) rfl (by kernel_rfl) (fun _ _ _ h => h) hI (fun w' hw' => Or.inl ⟨by kernel_rfl, Or.inl (by go_simp)⟩) ?_
            refine wpAnyE_take 1 (v := (.pointer (some ⟨bX, oX, none⟩))) rfl (by kernel_rfl) (fun _ _ _ h => h) hI (fun w' hw' => Or.inl ⟨by kernel_rfl, Or.inl (by go_simp)⟩) ?_
            refine wpAnyE_take 2 (v := (.pointer (some ⟨bX, oX + 2, none⟩))) rfl (by kernel_rfl) (fun _ _ _ h => h) hI (fun w' hw' => Or.inl ⟨by kernel_rfl, Or.inl (by go_simp)⟩) ?_
            refine wpAnyE_take 3 (v := (.slice x1.tA x1.text.length x1.tc)) rfl (by kernel_rfl) (fun _ _ _ h => h) hI (fun w' hw' => Or.inl ⟨by kernel_rfl, Or.inl (by have y0 := cellL hw' hbX (by simpa using hbq) t0; go_simp)⟩) ?_
            refine wpAnyE_take 4 (v := (.string (strOfNums x1.text))) rfl (by kernel_rfl) (fun _ _ _ h => h) hI (fun w' hw' => Or.inl ⟨by kernel_rfl, Or.inl (by have kc := conv_rd (c := x1.tc) (RdG.onlyL (MX x1 (by simp)).text hw' (fun a ha h0 => by have := far_req R6 (MX x1 (by simp)).text h0 a ha; simp; omega)); go_simp)⟩) ?_
            refine wpAnyE_take 5 (v := (.slice (some ⟨bX, oX, none⟩) 4 cx)) rfl (by kernel_rfl) (fun _ _ _ h => h) hI (fun w' hw' => Or.inl ⟨by kernel_rfl, Or.inl (by go_simp)⟩) ?_
            refine wpAnyE_take 6 (v := (.pointer (some ⟨bX, oX + 4, none⟩))) rfl (by kernel_rfl) (fun _ _ _ h => h) hI (fun w' hw' => Or.inl ⟨by kernel_rfl, Or.inl (by go_simp)⟩) ?_
            refine wpAnyE_take 7 (v := (.pointer (some ⟨bX, oX + 4 + 1, none⟩))) rfl (by kernel_rfl) (fun _ _ _ h => h) hI (fun w' hw' => Or.inl ⟨by kernel_rfl, Or.inl (by go_simp)⟩) ?_
            refine wpAnyE_take 8 (v := (.int .u32 x2.n)) rfl (by kernel_rfl) (fun _ _ _ h => h) hI (fun w' hw' => Or.inl ⟨by kernel_rfl, Or.inl (by have y0 := cellL hw' hbX (by simpa using hbq) n1; go_simp)⟩) ?_
            refine wpAnyE_take 9 (v := (.bool on)) rfl (by kernel_rfl) (fun _ _ _ h => h) hI (fun w' hw' => Or.inl ⟨by kernel_rfl, Or.inl (by go_simp)⟩) ?_
            refine wpAnyE_take 10 (v := (.slice (some ⟨bX, oX, none⟩) 4 cx)) rfl (by kernel_rfl) (fun _ _ _ h => h) hI (fun w' hw' => Or.inl ⟨by kernel_rfl, Or.inl (by go_simp)⟩) ?_
            refine wpAnyE_take 11 (v := (.pointer (some ⟨bX, oX + 8, none⟩))) rfl (by kernel_rfl) (fun _ _ _ h => h) hI (fun w' hw' => Or.inl ⟨by kernel_rfl, Or.inl (by go_simp)⟩) ?_
            refine wpAnyE_take 12 (v := (.pointer (some ⟨bX, oX + 8 + 2, none⟩))) rfl (by kernel_rfl) (fun _ _ _ h => h) hI (fun w' hw' => Or.inl ⟨by kernel_rfl, Or.inl (by go_simp)⟩) ?_
            refine wpAnyE_take 13 (v := (.slice x3.tA x3.text.length x3.tc)) rfl (by kernel_rfl) (fun _ _ _ h => h) hI (fun w' hw' => Or.inl ⟨by kernel_rfl, Or.inl (by have y0 := cellL hw' hbX (by simpa using hbq) t2; go_simp)⟩) ?_
            refine wpAnyE_take 14 (v := (.string (strOfNums x3.text))) rfl (by kernel_rfl) (fun _ _ _ h => h) hI (fun w' hw' => Or.inl ⟨by kernel_rfl, Or.inl (by have kc := conv_rd (c := x3.tc) (RdG.onlyL (MX x3 (by simp)).text hw' (fun a ha h0 => by have := far_req R6 (MX x3 (by simp)).text h0 a ha; simp; omega)); go_simp)⟩) ?_
            refine wpAnyE_take 15 (v := (.slice (some ⟨bX, oX, none⟩) 4 cx)) rfl (by kernel_rfl) (fun _ _ _ h => h) hI (fun w' hw' => Or.inl ⟨by kernel_rfl, Or.inl (by go_simp)⟩) ?_
            refine wpAnyE_take 16 (v := (.pointer (some ⟨bX, oX + 12, none⟩))) rfl (by kernel_rfl) (fun _ _ _ h => h) hI (fun w' hw' => Or.inl ⟨by kernel_rfl, Or.inl (by go_simp)⟩) ?_
            refine wpAnyE_take 17 (v := (.pointer (some ⟨bX, oX + 12 + 2, none⟩))) rfl (by kernel_rfl) (fun _ _ _ h => h) hI (fun w' hw' => Or.inl ⟨by kernel_rfl, Or.inl (by go_simp)⟩) ?_
            refine wpAnyE_take 18 (v := (.slice x4.tA x4.text.length x4.tc)) rfl (by kernel_rfl) (fun _ _ _ h => h) hI (fun w' hw' => Or.inl ⟨by kernel_rfl, Or.inl (by have y0 := cellL hw' hbX (by simpa using hbq) t3; go_simp)⟩) ?_
            refine wpAnyE_take 19 (v := (.string (strOfNums x4.text))) rfl (by kernel_rfl) (fun _ _ _ h => h) hI (fun w' hw' => Or.inl ⟨by kernel_rfl, Or.inl (by have kc := conv_rd (c := x4.tc) (RdG.onlyL (MX x4 (by simp)).text hw' (fun a ha h0 => by have := far_req R6 (MX x4 (by simp)).text h0 a ha; simp; omega)); go_simp)⟩) ?_
            refine wpAnyE_take 20 (v := (.pointer (some ⟨w.heap.size + 1, 1, none⟩))) rfl (by kernel_rfl) (fun _ _ _ h => h) hI (fun w' hw' => Or.inl ⟨by kernel_rfl, Or.inl (by go_simp)⟩) ?_
            refine wpAnyE_one 21 rfl (by kernel_rfl) hI (fun K hK => ?_)
            rw [if_pos (by kernel_rfl)]
            go_simp
            refine hK _ _ ?_
            clear hK K
            replace hI : (fun w' : World => Only [w.heap.size + 1] w6 w') ((w6.setCell ⟨w.heap.size + 1, 1, none⟩ (.string (strOfNums x1.text))).drew) := ((Only.refl [w.heap.size + 1] w6).setCell (p := ⟨w.heap.size + 1, 1, none⟩) (.inl (by simp)) (.string (strOfNums x1.text))).drew
            refine wpAnyE_take 22 (v := (.pointer (some ⟨w.heap.size + 1, 9, none⟩))) rfl (by kernel_rfl) (fun _ _ _ h => h) hI (fun w' hw' => Or.inl ⟨by kernel_rfl, Or.inl (by go_simp)⟩) ?_
            refine wpAnyE_one 23 rfl (by kernel_rfl) hI (fun K hK => ?_)
            rw [if_pos (by kernel_rfl)]
            go_simp
            refine hK _ _ ?_
            clear hK K
            replace hI : (fun w' : World => Only [w.heap.size + 1] w6 w') (((w6.setCell ⟨w.heap.size + 1, 1, none⟩ (.string (strOfNums x1.text))).setCell ⟨w.heap.size + 1, 9, none⟩ (.bool on)).drew) := (((Only.refl [w.heap.size + 1] w6).setCell (p := ⟨w.heap.size + 1, 1, none⟩) (.inl (by simp)) (.string (strOfNums x1.text))).setCell (p := ⟨w.heap.size + 1, 9, none⟩) (.inl (by simp)) (.bool on)).drew
            refine wpAnyE_take 24 (v := (.pointer (some ⟨w.heap.size + 1, 2, none⟩))) rfl (by kernel_rfl) (fun _ _ _ h => h) hI (fun w' hw' => Or.inl ⟨by kernel_rfl, Or.inl (by go_simp)⟩) ?_
            refine wpAnyE_one 25 rfl (by kernel_rfl) hI (fun K hK => ?_)
            rw [if_pos (by kernel_rfl)]
            go_simp
            refine hK _ _ ?_
            clear hK K
            replace hI : (fun w' : World => Only [w.heap.size + 1] w6 w') ((((w6.setCell ⟨w.heap.size + 1, 1, none⟩ (.string (strOfNums x1.text))).setCell ⟨w.heap.size + 1, 9, none⟩ (.bool on)).setCell ⟨w.heap.size + 1, 2, none⟩ (.string (strOfNums x3.text))).drew) := ((((Only.refl [w.heap.size + 1] w6).setCell (p := ⟨w.heap.size + 1, 1, none⟩) (.inl (by simp)) (.string (strOfNums x1.text))).setCell (p := ⟨w.heap.size + 1, 9, none⟩) (.inl (by simp)) (.bool on)).setCell (p := ⟨w.heap.size + 1, 2, none⟩) (.inl (by simp)) (.string (strOfNums x3.text))).drew
            refine wpAnyE_take 26 (v := (.pointer (some ⟨w.heap.size + 1, 3, none⟩))) rfl (by kernel_rfl) (fun _ _ _ h => h) hI (fun w' hw' => Or.inl ⟨by kernel_rfl, Or.inl (by go_simp)⟩) ?_
            refine wpAnyE_one 27 rfl (by kernel_rfl) hI (fun K hK => ?_)
            rw [if_pos (by kernel_rfl)]
            go_simp
            refine hK _ _ ?_
            clear hK K
            replace hI : (fun w' : World => Only [w.heap.size + 1] w6 w') (((((w6.setCell ⟨w.heap.size + 1, 1, none⟩ (.string (strOfNums x1.text))).setCell ⟨w.heap.size + 1, 9, none⟩ (.bool on)).setCell ⟨w.heap.size + 1, 2, none⟩ (.string (strOfNums x3.text))).setCell ⟨w.heap.size + 1, 3, none⟩ (.string (strOfNums x4.text))).drew) := (((((Only.refl [w.heap.size + 1] w6).setCell (p := ⟨w.heap.size + 1, 1, none⟩) (.inl (by simp)) (.string (strOfNums x1.text))).setCell (p := ⟨w.heap.size + 1, 9, none⟩) (.inl (by simp)) (.bool on)).setCell (p := ⟨w.heap.size + 1, 2, none⟩) (.inl (by simp)) (.string (strOfNums x3.text))).setCell (p := ⟨w.heap.size + 1, 3, none⟩) (.inl (by simp)) (.string (strOfNums x4.text))).drew
            refine wpAnyE_end (by kernel_rfl) hI ?_
            clear hI
            (try simp only [Exit.then])
            replace FT := FT.out
            go_wp2_with fail
            rw [← hw7]
            replace hw7 := hide hw7
            go_call FT as e w8 ⟨rfl, P8⟩
            clear FT
            clear r0 s0z r1 s1z r2 s2z r3 s3z r4 s4z r5 s5z r6 s6z r7 s7z r8 s8z r9 s9z r10 s10z n0 t0 n1 t1 n2 t2 n3 t3 
            have O8 := O7.trans P8 (by simp)
            have G8 := G7.only P8 (by simp)
            have K8 := KM.out.only P8 (by simp)
            have m0 : w8.cell? ⟨w.heap.size + 1, 0, none⟩ = some (.int .i64 10) := K8.cell 0
            have m1 : w8.cell? ⟨w.heap.size + 1, 1, none⟩ = some (.string (strOfNums x1.text)) := K8.cell 1
            have m2 : w8.cell? ⟨w.heap.size + 1, 2, none⟩ = some (.string (strOfNums x3.text)) := K8.cell 2
            have m3 : w8.cell? ⟨w.heap.size + 1, 3, none⟩ = some (.string (strOfNums x4.text)) := K8.cell 3
            have m4 : w8.cell? ⟨w.heap.size + 1, 4, none⟩ = some (.int .u32 0) := K8.cell 4
            have m5 : w8.cell? ⟨w.heap.size + 1, 5, none⟩ = some (.int .u32 0) := K8.cell 5
            have m6 : w8.cell? ⟨w.heap.size + 1, 6, none⟩ = some (.int .u32 0) := K8.cell 6
            have m7 : w8.cell? ⟨w.heap.size + 1, 7, none⟩ = some (.int .u32 0) := K8.cell 7
            have m8 : w8.cell? ⟨w.heap.size + 1, 8, none⟩ = some (.slice none 0 0) := K8.cell 8
            have m9 : w8.cell? ⟨w.heap.size + 1, 9, none⟩ = some (.bool on) := K8.cell 9
            have m10 : w8.cell? ⟨w.heap.size + 1, 10, none⟩ = some (.int .u32 0) := K8.cell 10
            have g0 : w8.cell? ⟨w.heap.size, 0, none⟩ = some (.int .i64 0) := G8.cell 0
            have f0 := G8.frozen 0
            have g1 : w8.cell? ⟨w.heap.size, 1, none⟩ = some (.string ⟨#[]⟩) := G8.cell 1
            have f1 := G8.frozen 1
            have g2 : w8.cell? ⟨w.heap.size, 2, none⟩ = some (.string ⟨#[]⟩) := G8.cell 2
            have f2 := G8.frozen 2
            have g3 : w8.cell? ⟨w.heap.size, 3, none⟩ = some (.string ⟨#[]⟩) := G8.cell 3
            have f3 := G8.frozen 3
            have g4 : w8.cell? ⟨w.heap.size, 4, none⟩ = some (.int .u32 0) := G8.cell 4
            have f4 := G8.frozen 4
            have g5 : w8.cell? ⟨w.heap.size, 5, none⟩ = some (.int .u32 0) := G8.cell 5
            have f5 := G8.frozen 5
            have g6 : w8.cell? ⟨w.heap.size, 6, none⟩ = some (.int .u32 0) := G8.cell 6
            have f6 := G8.frozen 6
            have g7 : w8.cell? ⟨w.heap.size, 7, none⟩ = some (.int .u32 0) := G8.cell 7
            have f7 := G8.frozen 7
            have g8 : w8.cell? ⟨w.heap.size, 8, none⟩ = some (.slice none 0 0) := G8.cell 8
            have f8 := G8.frozen 8
            have g9 : w8.cell? ⟨w.heap.size, 9, none⟩ = some (.bool false) := G8.cell 9
            have f9 := G8.frozen 9
            have g10 : w8.cell? ⟨w.heap.size, 10, none⟩ = some (.int .u32 0) := G8.cell 10
            have f10 := G8.frozen 10
            by_cases hz : E2 = 0
            · have hzb : (E2 != 0) = false := by simpa using hz
              have hD := hd0.out (by rw [hE2.out]; exact hz)
              replace hz := hide hz
              replace hD := hide hD
              go_wp2_with fail
              (try simp only [Exit.inBlock, Exit.then])
              refine ret_req (g := w.heap.size) (⟨10, (strOfNums x1.text), (strOfNums x3.text), (strOfNums x4.text), 0, 0, 0, 0, none, 0, [], on, 0⟩ : RQ) rfl (by rfl) (by rfl) (rsetB (⟨10, (strOfNums x1.text), (strOfNums x3.text), (strOfNums x4.text), 0, 0, 0, 0, none, 0, [], on, 0⟩ : RQ) G8) ?_
              have hx := rsetO (⟨10, (strOfNums x1.text), (strOfNums x3.text), (strOfNums x4.text), 0, 0, 0, 0, none, 0, [], on, 0⟩ : RQ) (L := [w.heap.size]) (w0 := w8) (w := w8) (q := w.heap.size) (.inl (by simp)) (Only.refl _ _)
              have Mok8 := Mok7.out.only P8
              exact ⟨rsetO (⟨10, (strOfNums x1.text), (strOfNums x3.text), (strOfNums x4.text), 0, 0, 0, 0, none, 0, [], on, 0⟩ : RQ) (.inr (Nat.le_refl _)) O8, (⟨10, (strOfNums x1.text), (strOfNums x3.text), (strOfNums x4.text), 0, 0, 0, 0, none, 0, [], on, 0⟩ : RQ), 0, rfl, Mok8.onlyN hx (fun a ha h0 => far_req G8 Mok8.modes h0 a ha), hD.out⟩
            · have hzb : (E2 != 0) = true := by simpa using hz
              have hD := hdz.out E2 hz hE2.out
              replace hz := hide hz
              replace hD := hide hD
              go_wp2_with fail
              (try simp only [Exit.inBlock, Exit.then])
              refine ret_req (g := w.heap.size) zeroR rfl (by rfl) (by rfl) (rsetB zeroR G8) ?_
              exact ⟨rsetO zeroR (.inr (Nat.le_refl _)) O8, zeroR, E2, rfl, zeroR_ok _, hD.out⟩
          · have hEb : (E != 0) = true := by simpa using hE
            have hD : DecR s l zeroR E := hdk.out _ _ (by
              unfold DecK
              rw [hres.out, if_pos (by simpa using hE)]
              exact ⟨rfl, rfl⟩)
            replace hE := hide hE
            replace hD := hide hD
            replace hxs := hide hxs
            have g0 : w6.cell? ⟨w.heap.size, 0, none⟩ = some (.int .i64 0) := G6.cell 0
            have f0 := G6.frozen 0
            have g1 : w6.cell? ⟨w.heap.size, 1, none⟩ = some (.string ⟨#[]⟩) := G6.cell 1
            have f1 := G6.frozen 1
            have g2 : w6.cell? ⟨w.heap.size, 2, none⟩ = some (.string ⟨#[]⟩) := G6.cell 2
            have f2 := G6.frozen 2
            have g3 : w6.cell? ⟨w.heap.size, 3, none⟩ = some (.string ⟨#[]⟩) := G6.cell 3
            have f3 := G6.frozen 3
            have g4 : w6.cell? ⟨w.heap.size, 4, none⟩ = some (.int .u32 0) := G6.cell 4
            have f4 := G6.frozen 4
            have g5 : w6.cell? ⟨w.heap.size, 5, none⟩ = some (.int .u32 0) := G6.cell 5
            have f5 := G6.frozen 5
            have g6 : w6.cell? ⟨w.heap.size, 6, none⟩ = some (.int .u32 0) := G6.cell 6
            have f6 := G6.frozen 6
            have g7 : w6.cell? ⟨w.heap.size, 7, none⟩ = some (.int .u32 0) := G6.cell 7
            have f7 := G6.frozen 7
            have g8 : w6.cell? ⟨w.heap.size, 8, none⟩ = some (.slice none 0 0) := G6.cell 8
            have f8 := G6.frozen 8
            have g9 : w6.cell? ⟨w.heap.size, 9, none⟩ = some (.bool false) := G6.cell 9
            have f9 := G6.frozen 9
            have g10 : w6.cell? ⟨w.heap.size, 10, none⟩ = some (.int .u32 0) := G6.cell 10
            have f10 := G6.frozen 10
            go_wp2_with fail
            (try simp only [Exit.inBlock, Exit.then])
            refine ret_req (g := w.heap.size) zeroR rfl (by rfl) (by rfl) (rsetB zeroR G6) ?_
            exact ⟨rsetO zeroR (.inr (Nat.le_refl _)) O6, zeroR, E, rfl, zeroR_ok _, hD.out⟩
end Go.Proofs.YtmpeidliacbelaaGreatDoor
