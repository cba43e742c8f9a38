/- The document's answer for layer 1: Size, Write; no condition but the number of fields. -/
import Derived.Test.YtdmjabfjkkjhbaaDoorRefL
import Derived.Test.YtdmjabfjkkjhbaaDoorRefA
import Derived.Test.YtdmjabfjkkjhbaaDoorAppI
namespace Go.Proofs.YtdmjabfjkkjhbaaDoor
set_option linter.all false
open Go.RowKit

set_option maxRecDepth 100000 in
set_option maxHeartbeats 3200000 in
theorem refSize_any (f : FD) (w : World) (hf : f.ok w) (hn : 0 ≤ f.n ∧ f.n ≤ 4294967295) :
    Calls Tryd.prog 21 #[f.val] w fun e w' => e = .returned (.int .i64 (sizeP f.pf)) ∧ Only [] w w' := by
  obtain ⟨w1, hw1⟩ : ∃ w1, w1 = w.alloc (.cells #[.int .i64 f.kind, .int .u32 f.n, .slice f.tA f.text.length f.tc, .slice f.lA f.list.length f.lc] 35) := ⟨_, rfl⟩
  have P1 : Only [] w w1 := by rw [hw1]; exact (Only.refl _ _).alloc _
  have K1 : Blk w1 w.heap.size 35 [.int .i64 f.kind, .int .u32 f.n, .slice f.tA f.text.length f.tc, .slice f.lA f.list.length f.lc] := by rw [hw1]; exact Blk.new w _ _
  by_cases h1 : f.kind < 1
  · have hsz : sizeP f.pf = 0 := if_neg (fun h => by have h' : 1 ≤ f.kind := h.1; omega)
    replace hsz := hide hsz
    unfold FD.val
    clear K1
    go_enter Tryd.func21, Tryd.ntmps21
    go_wp2_with fail
    rw [← hw1]
    go_ret
    exact ⟨by rw [hsz.out]; rfl, P1⟩
  by_cases h6 : 6 < f.kind
  · have hsz : sizeP f.pf = 0 := if_neg (fun h => by have h' : f.kind ≤ 6 := h.2.1; omega)
    replace hsz := hide hsz
    unfold FD.val
    clear K1
    go_enter Tryd.func21, Tryd.ntmps21
    go_wp2_with fail
    rw [← hw1]
    go_ret
    exact ⟨by rw [hsz.out]; rfl, P1⟩
  have x1 : 1 ≤ f.kind := by omega
  have x6 : f.kind ≤ 6 := by omega
  have FT := refFault_any f w1 x1 x6 (hf.only P1)
  by_cases hE : faultP f.pf = 0
  · have hsz : sizeP f.pf = ((bytesP f.pf).length : Int) := if_pos ⟨x1, x6, hE⟩
    have ON := fun (w2 : World) (P2 : Only [] w1 w2) => one_any f w2 x1 x6 ((hf.only P1).only P2) hn hE
    rw [hE] at FT
    obtain ⟨L, hL⟩ : ∃ L, bytesP f.pf = L := ⟨_, rfl⟩
    rw [hL] at ON hsz
    unfold FD.val at FT ON ⊢
    replace hsz := hide hsz
    replace ON := hide ON
    clear hL
    go_enter Tryd.func21, Tryd.ntmps21
    go_wp2_with fail
    rw [← hw1]
    replace hw1 := hide hw1
    go_call FT as e w2 ⟨rfl, P2⟩
    have K2 := K1.only P2 (by simp)
    have c0 : w2.cell? ⟨w.heap.size, 0, none⟩ = some (.int .i64 f.kind) := K2.cell 0
    have c1 : w2.cell? ⟨w.heap.size, 1, none⟩ = some (.int .u32 f.n) := K2.cell 1
    have c2 : w2.cell? ⟨w.heap.size, 2, none⟩ = some (.slice f.tA f.text.length f.tc) := K2.cell 2
    have c3 : w2.cell? ⟨w.heap.size, 3, none⟩ = some (.slice f.lA f.list.length f.lc) := K2.cell 3
    go_wp2_with fail
    go_call (ON.out w2 P2) as e w3 ⟨P3, v, rfl, V⟩
    obtain ⟨A, k, rfl, _, _, _, _⟩ := V.rd
    go_wp2_with fail
    go_ret
    exact ⟨by rw [hsz.out]; rfl, (P1.trans P2 (by simp)).trans P3 (by simp)⟩
  · have hsz : sizeP f.pf = 0 := if_neg (fun h => hE h.2.2)
    have hE2 : (faultP f.pf != 0) = true := by simpa using hE
    unfold FD.val at FT ⊢
    replace hsz := hide hsz
    clear K1
    go_enter Tryd.func21, Tryd.ntmps21
    go_wp2_with fail
    rw [← hw1]
    replace hw1 := hide hw1
    go_call FT as e w2 ⟨rfl, P2⟩
    go_wp2_with fail
    go_ret
    exact ⟨by rw [hsz.out]; rfl, P1.trans P2 (by simp)⟩

theorem bytesP_len {p : PF} (h1 : 1 ≤ p.kind) (h6 : p.kind ≤ 6) (h0 : faultP p = 0) : (bytesP p).length ≤ 40000 := by
  obtain ⟨k, n, t, ls⟩ := p
  dsimp only at h1 h6
  have hk : k = 1 ∨ k = 2 ∨ k = 3 ∨ k = 4 ∨ k = 5 ∨ k = 6 := by omega
  rcases hk with rfl | rfl | rfl | rfl | rfl | rfl
  · show ([n % 256] : List Int).length ≤ 40000; simp
  · show ([n % 256] : List Int).length ≤ 40000; simp
  · show (four n).length ≤ 40000; simp [four]
  · have h0 : over t.length 32768 6 = 0 := h0
    have := over_ok h0 (by decide)
    show (four t.length ++ t).length ≤ 40000
    simp [four]; omega
  · have h0 : namesBad ls = 0 := h0
    obtain ⟨a1, a2⟩ := namesBad_ok h0
    have hj := joinU_le ls a2
    show (four (joinU ls).length ++ u8i (joinU ls)).length ≤ 40000
    simp [four, u8i]; omega
  · have h0 : over t.length 33792 6 = 0 := h0
    have := over_ok h0 (by decide)
    show t.length ≤ 40000
    omega

set_option maxRecDepth 100000 in
set_option maxHeartbeats 6400000 in
theorem refWrite_any (w : World) (A : Option Addr) (fs : List FD) (c : Nat) (h : RdF w A fs) (hn1 : fs.length ≤ 1000) :
    Calls Tryd.prog 19 #[.slice A fs.length c] w (WritePost w (writeP (fs.map FD.pf))) := by
  obtain ⟨n, hn⟩ : ∃ n, n = fs.length := ⟨_, rfl⟩
  rw [← hn] at hn1 ⊢
  obtain ⟨res, hres⟩ : ∃ res, writeP (fs.map FD.pf) = res := ⟨_, rfl⟩
  rw [hres]
  replace hres := hide hres
  replace hn := hide hn
  go_enter Tryd.func19, Tryd.ntmps19
  go_wp2_with fail
  go_loopw [13, 4] (fun i o wr => ∃ (k : Nat) (v : Value), k ≤ n ∧ i = .int .i64 k ∧ v = o ∧ OwnI wr w.heap.size v ((fs.take k).map (·.kind)) ∧ Only [] w wr) (fun i _ _ => n - (intOf i).toNat)
  case atStart => exact ⟨0, _, by omega, rfl, rfl, ownI_nil _ _, Only.refl _ _⟩
  case round =>
    obtain ⟨wo, rfl⟩ : ∃ wo : World, wo = wr := ⟨_, rfl⟩
    obtain ⟨k, v, hkn, rfl, rfl, V, O⟩ := hrel
    have hob := V.block
    have z0 := O.size
    by_cases hlt : k < n
    · obtain ⟨f, hf⟩ : ∃ f, fs[k]? = some f := ⟨_, List.getElem?_eq_getElem (by have := hn.out; omega)⟩
      obtain ⟨b, off, rfl, hb, hc⟩ := (h.only O).cells (by have := hn.out; omega)
      obtain ⟨c0, c1, c2, c3⟩ := hc k f hf
      have hkk : (fs.take (k + 1)).map (·.kind) = (fs.take k).map (·.kind) ++ [f.kind] := by
        rw [take_snocG hf, List.map_append]
        rfl
      have hll : ((fs.take k).map (·.kind)).length = k := by rw [List.length_map, List.length_take]; have := hn.out; omega
      have X5 : Only [] wo ((wo.alloc (.cells #[.int .i64 f.kind, .int .u32 f.n, .slice f.tA f.text.length f.tc, .slice f.lA f.list.length f.lc] 35)).alloc (.cells #[.int .i64 f.kind] 3)) := ((Only.refl _ _).alloc _).alloc _
      have R5 : RdI ((wo.alloc (.cells #[.int .i64 f.kind, .int .u32 f.n, .slice f.tA f.text.length f.tc, .slice f.lA f.list.length f.lc] 35)).alloc (.cells #[.int .i64 f.kind] 3)) (some ⟨wo.heap.size + 1, 0, none⟩) [f.kind] := by
        have := rdI_new (wo.alloc (.cells #[.int .i64 f.kind, .int .u32 f.n, .slice f.tA f.text.length f.tc, .slice f.lA f.list.length f.lc] 35)) #[.int .i64 f.kind] [f.kind] rfl
        rw [show (wo.alloc (.cells #[.int .i64 f.kind, .int .u32 f.n, .slice f.tA f.text.length f.tc, .slice f.lA f.list.length f.lc] 35)).heap.size = wo.heap.size + 1 by simp] at this
        exact this
      have V5 : OwnI ((wo.alloc (.cells #[.int .i64 f.kind, .int .u32 f.n, .slice f.tA f.text.length f.tc, .slice f.lA f.list.length f.lc] 35)).alloc (.cells #[.int .i64 f.kind] 3)) w.heap.size v ((fs.take k).map (·.kind)) := V.far X5 (fun x hx => by simp at hx)
      replace hf := hide hf
      replace hkk := hide hkk
      replace hll := hide hll
      clear hc
      go_wp2_with (at_builtin; go_must (refine wpList_appI rfl (.tmp 17) (.tmp 20) rfl w.heap.size v ((fs.take k).map (·.kind)) rfl V5 (some ⟨wo.heap.size + 1, 0, none⟩) 1 [f.kind] _ rfl rfl R5 (by have := hll.out; rw [this]; simp; omega) (by simp; omega) ?_; intro v9 w9 V9 P9))
      go_roundw
      case rel =>
        refine ⟨k + 1, _, by omega, by go_num, rfl, ?_, (O.trans X5 (by simp)).trans P9 (fun x hx => .inr (hob x (by simpa using hx)).1)⟩
        rw [hkk.out]
        exact V9.out
      case measure => simp [intOf]; omega
    · obtain rfl : k = n := by omega
      rw [List.take_of_length_le (by have := hn.out; omega)] at V
      obtain ⟨ks, hks⟩ : ∃ ks, fs.map (·.kind) = ks := ⟨_, rfl⟩
      rw [hks] at V
      have hkl : ks.length = k := by rw [← hks, List.length_map, hn.out]
      obtain ⟨kA, kc, rfl, RK, _, _, _⟩ := V.rd
      have KN := refKinds_any kA ks kc wo RK (by unfold maxLen; omega)
      rw [hkl] at KN ⊢
      have hks2 : (fs.map FD.pf).map (·.kind) = ks := by rw [← hks, List.map_map]; rfl
      replace hks := hide hks
      replace hks2 := hide hks2
      replace hkl := hide hkl
      clear V
      by_cases hr : rowOk ks = true
      · rw [hr] at KN
        have hres1 : res = writeFrom (fs.map FD.pf) [] := by
          rw [← hres.out]
          unfold writeP
          rw [hks2.out, if_pos hr]
        replace hr := hide hr
        replace hres1 := hide hres1
        go_wp2_with fail
        go_call KN as e w1 ⟨rfl, rfl⟩
        clear KN
        go_wp2_with fail
        go_loopw [28, 7] (fun i o wr => ∃ (j : Nat) (v : Value) (acc : List Int), j ≤ k ∧ i = .int .i64 j ∧ v = o ∧ Hid (res = writeFrom ((fs.drop j).map FD.pf) acc) ∧ OwnB wr wo.heap.size v acc ∧ acc.length ≤ 33792 ∧ Only [] wo wr) (fun i _ _ => k - (intOf i).toNat)
        case atStart => exact ⟨0, _, [], by omega, rfl, rfl, hide (by simpa using hres1.out), ownB_nil _ _, by simp, Only.refl _ _⟩
        case round =>
          obtain ⟨wq, rfl⟩ : ∃ wq : World, wq = wr := ⟨_, rfl⟩
          obtain ⟨j, v, acc, hjk, rfl, rfl, hrs, V, hfew, O2⟩ := hrel
          have hob2 := V.block
          have z2 := O2.size
          by_cases hlt2 : j < k
          · obtain ⟨f, hf⟩ : ∃ f, fs[j]? = some f := ⟨_, List.getElem?_eq_getElem (by have := hn.out; omega)⟩
            obtain ⟨b, off, rfl, hb, hc⟩ := ((h.only O).only O2).cells (by have := hn.out; omega)
            obtain ⟨c0, c1, c2, c3⟩ := hc j f hf
            have okf := ((h.only O).only O2).ok f (List.mem_of_getElem? hf)
            obtain ⟨x1, x6⟩ := rowOk_at (i := j) (k := f.kind) hr.out (by rw [← hks2.out]; simp [hf, FD.pf])
            have hdrop : fs.drop j = f :: fs.drop (j + 1) := by
              have hki : j < fs.length := by have := hn.out; omega
              rw [List.drop_eq_getElem_cons hki]
              congr 1
              rw [List.getElem?_eq_getElem hki] at hf
              injection hf
            have hres2 := hrs.out
            rw [hdrop, List.map_cons] at hres2
            unfold writeFrom at hres2
            obtain ⟨w5, hw5⟩ : ∃ w5, w5 = wq.alloc (.cells #[.int .i64 f.kind, .int .u32 f.n, .slice f.tA f.text.length f.tc, .slice f.lA f.list.length f.lc] 35) := ⟨_, rfl⟩
            have X5 : Only [] wq w5 := by rw [hw5]; exact (Only.refl _ _).alloc _
            have K5 : Blk w5 wq.heap.size 35 [.int .i64 f.kind, .int .u32 f.n, .slice f.tA f.text.length f.tc, .slice f.lA f.list.length f.lc] := by rw [hw5]; exact Blk.new wq _ _
            have FT := refFault_any f w5 x1 x6 (okf.1.only X5)
            by_cases hE : faultP f.pf = 0
            · rw [if_neg (by simp [hE])] at hres2
              have ON := fun (w6 : World) (P6 : Only [] w5 w6) => one_any f w6 x1 x6 ((okf.1.only X5).only P6) okf.2 hE
              have hbl := bytesP_len (p := f.pf) x1 x6 hE
              rw [hE] at FT
              obtain ⟨L, hL⟩ : ∃ L, bytesP f.pf = L := ⟨_, rfl⟩
              rw [hL] at ON hbl hres2
              unfold FD.val at FT ON
              replace ON := hide ON
              replace hres2 := hide hres2
              replace okf := hide okf
              replace hf := hide hf
              replace hdrop := hide hdrop
              clear hc hL hrs
              go_wp2_with fail
              rw [← hw5]
              replace hw5 := hide hw5
              go_call FT as e w6 ⟨rfl, P6⟩
              clear FT c0 c1 c2 c3
              have K6 := K5.only P6 (by simp)
              have d0 : w6.cell? ⟨wq.heap.size, 0, none⟩ = some (.int .i64 f.kind) := K6.cell 0
              have d1 : w6.cell? ⟨wq.heap.size, 1, none⟩ = some (.int .u32 f.n) := K6.cell 1
              have d2 : w6.cell? ⟨wq.heap.size, 2, none⟩ = some (.slice f.tA f.text.length f.tc) := K6.cell 2
              have d3 : w6.cell? ⟨wq.heap.size, 3, none⟩ = some (.slice f.lA f.list.length f.lc) := K6.cell 3
              go_wp2_with fail
              go_call (ON.out w6 P6) as e w7 ⟨P7, v7, rfl, V7⟩
              obtain ⟨A7, k7, rfl, R7, q7, m7, a7⟩ := V7.rd
              have X7 : Only [] wq w7 := (X5.trans P6 (by simp)).trans P7 (by simp)
              have VV : OwnB w7 wo.heap.size v acc := V.far X7 (fun x hx => by simp at hx)
              have z7 := X7.size
              go_wp2_with (at_builtin; go_must (refine wpList_app3 rfl (.tmp 37) (.tmp 39) rfl wo.heap.size v acc rfl VV A7 k7 L _ rfl rfl R7 (by omega) (by omega) ?_; intro v8 w8 V8 P8 G8; replace V8 := V8.out; obtain ⟨A8, k8, rfl, R8, q8, m8, a8⟩ := V8.rd))
              all_goals have hw8 : Only [] wo w8 := (O2.trans X7 (by simp)).trans P8 (fun x hx => .inr (hob2 x (by simpa using hx)).1)
              · rename_i hbig
                have hfin : res = (6, []) := by rw [hres2.out, if_pos (by rw [List.length_append]; omega)]
                replace hfin := hide hfin
                go_ret2
                rw [hfin.out]
                exact writePost_none _ _ _ (O.trans hw8 (by simp))
              · rename_i hsm
                have hfin : res = writeFrom ((fs.drop (j + 1)).map FD.pf) (acc ++ L) := by rw [hres2.out, if_neg (by rw [List.length_append]; omega)]
                replace hfin := hide hfin
                have V9 := V8
                rw [List.length_append] at V9
                go_roundw
                case rel => exact ⟨j + 1, _, acc ++ L, by omega, by go_num, rfl, hfin, V9, by rw [List.length_append]; omega, hw8⟩
                case measure => simp [intOf]; omega
            · have hE2 : (faultP f.pf != 0) = true := by simpa using hE
              rw [if_pos hE] at hres2
              unfold FD.val at FT
              replace hres2 := hide hres2
              replace okf := hide okf
              replace hf := hide hf
              replace hdrop := hide hdrop
              clear hc hrs
              go_wp2_with fail
              rw [← hw5]
              replace hw5 := hide hw5
              go_call FT as e w6 ⟨rfl, P6⟩
              go_wp2_with fail
              go_ret2
              rw [hres2.out]
              exact writePost_none _ _ _ (((O.trans O2 (by simp)).trans X5 (by simp)).trans P6 (by simp))
          · obtain rfl : j = k := by omega
            have hres2 := hrs.out
            rw [List.drop_eq_nil_of_le (by have := hn.out; omega)] at hres2
            have hres3 : res = (0, acc) := hres2
            replace hres3 := hide hres3
            clear hres2 hrs
            go_wp2_with fail
            go_ret2
            rw [hres3.out]
            exact ⟨O.trans O2 (by simp), _, rfl, V.mono (by omega)⟩
      · have hr' : rowOk ks = false := by simpa using hr
        rw [hr'] at KN
        have hres1 : res = (2, []) := by
          rw [← hres.out]
          unfold writeP
          rw [hks2.out, if_neg hr]
        clear hr hr'
        replace hres1 := hide hres1
        go_wp2_with fail
        go_call KN as e w1 ⟨rfl, rfl⟩
        go_wp2_with fail
        go_ret2
        rw [hres1.out]
        exact writePost_none _ _ _ O
end Go.Proofs.YtdmjabfjkkjhbaaDoor
