/- The law RequestEncodes holds: for every request; no condition. -/
import Derived.Test.YtmpeidliacbelaaGreatDoorReqU
import Derived.Test.YtmpeidliacbelaaGreatDoorOpenR
import Derived.Test.YtmpeidliacbelaaGreatDoorFrameC
import Derived.Test.YtmpeidliacbelaaGreatDoorTie
import Derived.Test.YtmpeidliacbelaaGreatDoorCards
namespace Go.Proofs.YtmpeidliacbelaaGreatDoor
set_option linter.all false
open Go.ChangeShapes Go.WideShapes Go.ChangeAt Go.RowKit Go.Deep

set_option maxRecDepth 100000 in
set_option maxHeartbeats 6400000 in
theorem requestEncodes_walk (m : RQ) (i0 : Int) (w : World) (hm : w.cell? ⟨0, 0, none⟩ = some (.int .i64 i0)) (ok : m.ok w) :
    Calls Tryz.prog 4 #[m.val] w fun e w' => e = .returned (.bool true) ∧ Below w.heap.size w w' := by
  obtain ⟨w1, hw1⟩ : ∃ w1, w1 = w.alloc (.cells #[.int .i64 m.kind, .string m.text, .string m.value, .string m.lang, .int .u32 m.cols, .int .u32 m.rows, .int .u32 m.width, .int .u32 m.height, .slice m.mA m.modes.length m.mc, .bool m.on, .int .u32 m.code] 28) := ⟨_, rfl⟩
  have P1 : Only [] w w1 := by rw [hw1]; exact (Only.refl _ _).alloc _
  have K1 : Blk w1 w.heap.size 28 m.cells := by rw [hw1]; exact Blk.new w _ _
  have h0 : 0 < w.heap.size := Nat.pos_of_ne_zero (fun e => by
    have := block_lt_of_cell hm
    simp only at this
    omega)
  have AL := alive04 w1 i0 (cellL P1 h0 (by simp) hm)
  unfold RQ.val
  go_enter Tryz.func4, Tryz.ntmps4
  go_wp2_with fail
  rw [← hw1]
  replace hw1 := hide hw1
  go_call AL as e w2 ⟨rfl, P2⟩
  clear AL
  have O2 : Only [] w w2 := P1.trans P2 (by simp)
  have K2 := K1.only P2 (by simp)
  have GR := rgreat_any m w2
  unfold RQ.val at GR
  have a0 : w2.cell? ⟨w.heap.size, 0, none⟩ = some (.int .i64 m.kind) := K2.cell 0
  have a1 : w2.cell? ⟨w.heap.size, 1, none⟩ = some (.string m.text) := K2.cell 1
  have a2 : w2.cell? ⟨w.heap.size, 2, none⟩ = some (.string m.value) := K2.cell 2
  have a3 : w2.cell? ⟨w.heap.size, 3, none⟩ = some (.string m.lang) := K2.cell 3
  have a4 : w2.cell? ⟨w.heap.size, 4, none⟩ = some (.int .u32 m.cols) := K2.cell 4
  have a5 : w2.cell? ⟨w.heap.size, 5, none⟩ = some (.int .u32 m.rows) := K2.cell 5
  have a6 : w2.cell? ⟨w.heap.size, 6, none⟩ = some (.int .u32 m.width) := K2.cell 6
  have a7 : w2.cell? ⟨w.heap.size, 7, none⟩ = some (.int .u32 m.height) := K2.cell 7
  have a8 : w2.cell? ⟨w.heap.size, 8, none⟩ = some (.slice m.mA m.modes.length m.mc) := K2.cell 8
  have a9 : w2.cell? ⟨w.heap.size, 9, none⟩ = some (.bool m.on) := K2.cell 9
  have a10 : w2.cell? ⟨w.heap.size, 10, none⟩ = some (.int .u32 m.code) := K2.cell 10
  go_wp2_with fail
  go_call GR as e w3 ⟨P3, b, rfl, hb⟩
  clear GR
  clear a0 a1 a2 a3 a4 a5 a6 a7 a8 a9 a10
  have O3 : Only [] w w3 := O2.trans P3 (by simp)
  have K3 := K2.only P3 (by simp)
  cases b with
  | true =>
    clear hb
    go_wp2_with fail
    go_ret
    exact ⟨rfl, O3.below (Nat.le_refl _) (by simp)⟩
  | false =>
    obtain ⟨g1, g2, g3, g4⟩ := hb rfl
    clear hb
    have hlt3 := K3.lt
    have ok3 := ok.only O3
    obtain ⟨w5, hw5⟩ : ∃ w5, w5 = (w3.alloc (.cells #[.int .i64 m.kind, .string m.text, .string m.value, .string m.lang, .int .u32 m.cols, .int .u32 m.rows, .int .u32 m.width, .int .u32 m.height, .slice m.mA m.modes.length m.mc, .bool m.on, .int .u32 m.code] 28)).alloc (.cells #[] 5) := ⟨_, rfl⟩
    have P5 : Only [] w3 w5 := by rw [hw5]; exact ((Only.refl _ _).alloc _).alloc _
    have Q5 : Blk w5 w3.heap.size 28 m.cells := by rw [hw5]; exact (Blk.new w3 _ _).alloc _
    have V5 : OwnB w5 (w3.heap.size + 1) (.slice (some ⟨w3.heap.size + 1, 0, none⟩) 0 0) [] := by
      rw [hw5]
      have := ownB_lit (w3.alloc (.cells #[.int .i64 m.kind, .string m.text, .string m.value, .string m.lang, .int .u32 m.cols, .int .u32 m.rows, .int .u32 m.width, .int .u32 m.height, .slice m.mA m.modes.length m.mc, .bool m.on, .int .u32 m.code] 28)) (w3.heap.size + 1) [] (by simp) (by simp)
      rwa [show (w3.alloc (.cells #[.int .i64 m.kind, .string m.text, .string m.value, .string m.lang, .int .u32 m.cols, .int .u32 m.rows, .int .u32 m.width, .int .u32 m.height, .slice m.mA m.modes.length m.mc, .bool m.on, .int .u32 m.code] 28)).heap.size = w3.heap.size + 1 by simp] at this
    have z5 : w5.heap.size = w3.heap.size + 1 + 1 := by rw [hw5]; simp
    have K5 := K3.only P5 (by simp)
    have D5 : Rd w5 m.mA m.modes := RdG.only ok3.modes P5
    have hd5 : ([] : List Int).length + m.modes.length ≤ 140737488355328 := by simp; omega
    have hb5 : w3.heap.size + 1 ≤ w5.heap.size := by omega
    replace z5 := hide z5
    have a0 : w3.cell? ⟨w.heap.size, 0, none⟩ = some (.int .i64 m.kind) := K3.cell 0
    have a1 : w3.cell? ⟨w.heap.size, 1, none⟩ = some (.string m.text) := K3.cell 1
    have a2 : w3.cell? ⟨w.heap.size, 2, none⟩ = some (.string m.value) := K3.cell 2
    have a3 : w3.cell? ⟨w.heap.size, 3, none⟩ = some (.string m.lang) := K3.cell 3
    have a4 : w3.cell? ⟨w.heap.size, 4, none⟩ = some (.int .u32 m.cols) := K3.cell 4
    have a5 : w3.cell? ⟨w.heap.size, 5, none⟩ = some (.int .u32 m.rows) := K3.cell 5
    have a6 : w3.cell? ⟨w.heap.size, 6, none⟩ = some (.int .u32 m.width) := K3.cell 6
    have a7 : w3.cell? ⟨w.heap.size, 7, none⟩ = some (.int .u32 m.height) := K3.cell 7
    have a8 : w3.cell? ⟨w.heap.size, 8, none⟩ = some (.slice m.mA m.modes.length m.mc) := K3.cell 8
    have a9 : w3.cell? ⟨w.heap.size, 9, none⟩ = some (.bool m.on) := K3.cell 9
    have a10 : w3.cell? ⟨w.heap.size, 10, none⟩ = some (.int .u32 m.code) := K3.cell 10
    go_wp2_with (at_builtin; rw [← hw5]; go_must (refine wpList_app3 rfl (.tmp 20) (.tmp 22) rfl (w3.heap.size + 1) (.slice (some ⟨w3.heap.size + 1, 0, none⟩) 0 0) [] rfl V5 m.mA m.mc m.modes _ rfl rfl D5 hd5 hb5 ?_; intro v9 w9 V9 P9 B9; replace V9 := V9.out; rw [List.nil_append] at V9; obtain ⟨A9, k9, rfl, R9, q9, m9, low9⟩ := V9.rd; have K9 := K5.only P9 (by simp [Value.ownBlock]; omega); have Q9 := Q5.only P9 (by simp [Value.ownBlock]); have d0 : w9.cell? ⟨w3.heap.size, 0, none⟩ = some (.int .i64 m.kind) := Q9.cell 0; have d1 : w9.cell? ⟨w3.heap.size, 1, none⟩ = some (.string m.text) := Q9.cell 1; have d2 : w9.cell? ⟨w3.heap.size, 2, none⟩ = some (.string m.value) := Q9.cell 2; have d3 : w9.cell? ⟨w3.heap.size, 3, none⟩ = some (.string m.lang) := Q9.cell 3; have d4 : w9.cell? ⟨w3.heap.size, 4, none⟩ = some (.int .u32 m.cols) := Q9.cell 4; have d5 : w9.cell? ⟨w3.heap.size, 5, none⟩ = some (.int .u32 m.rows) := Q9.cell 5; have d6 : w9.cell? ⟨w3.heap.size, 6, none⟩ = some (.int .u32 m.width) := Q9.cell 6; have d7 : w9.cell? ⟨w3.heap.size, 7, none⟩ = some (.int .u32 m.height) := Q9.cell 7; have d8 : w9.cell? ⟨w3.heap.size, 8, none⟩ = some (.slice m.mA m.modes.length m.mc) := Q9.cell 8; have d9 : w9.cell? ⟨w3.heap.size, 9, none⟩ = some (.bool m.on) := Q9.cell 9; have d10 : w9.cell? ⟨w3.heap.size, 10, none⟩ = some (.int .u32 m.code) := Q9.cell 10; have z8 := Q9.frozen 8; replace hw5 := hide hw5))
    obtain ⟨w10, hw10⟩ : ∃ w10, w10 = w9.setCell ⟨w3.heap.size, 8, none⟩ (.slice A9 m.modes.length k9) := ⟨_, rfl⟩
    obtain ⟨m2, hm2⟩ : ∃ m2 : RQ, m2 = { m with mA := A9, mc := k9 } := ⟨_, rfl⟩
    have P10 : Only [w3.heap.size] w9 w10 := by rw [hw10]; exact (Only.refl _ w9).setCell (p := ⟨w3.heap.size, 8, none⟩) (.inl (by simp)) _
    have Q10 : Blk w10 w3.heap.size 28 m2.cells := by rw [hw10, hm2]; exact Q9.set_ 8 _
    have O9 : Only [] w w9 := (O3.trans P5 (by simp)).trans P9 (fun x hx => .inr (by have h9 : x = w3.heap.size + 1 := (by simpa [Value.ownBlock] using hx); omega))
    have O10 : Only [] w w10 := O9.trans P10 (fun x hx => .inr (by simp at hx; have := O3.size; omega))
    have K10 : Blk w10 w.heap.size 28 m.cells := K9.only P10 (by simp; omega)
    have same : SameR m m2 := by rw [hm2]; exact ⟨rfl, rfl, rfl, rfl, rfl, rfl, rfl, rfl, rfl, rfl, rfl⟩
    have ok2 : m2.ok w10 := by
      rw [hm2]
      exact { ok with modes := RdG.onlyL (mk := .int .u8) R9 P10 (fun a ha _ => by have := low9 a ha; simp; omega), mle := q9, mmax := m9 }
    have EN := rencode_any m2 w10 ok2 (by rw [same.text]; omega) (by rw [same.value]; omega) (by rw [same.lang]; omega)
    unfold EncPost at EN
    rw [encR_same same, encName_same same] at EN
    have hv2 : m2.val = .agg #[.int .i64 m.kind, .string m.text, .string m.value, .string m.lang, .int .u32 m.cols, .int .u32 m.rows, .int .u32 m.width, .int .u32 m.height, .slice A9 m.modes.length k9, .bool m.on, .int .u32 m.code] := by rw [hm2]; rfl
    obtain ⟨E, hE⟩ : ∃ E, (encR m).1 = E := ⟨_, rfl⟩
    obtain ⟨l, hl⟩ : ∃ l, (encR m).2 = l := ⟨_, rfl⟩
    obtain ⟨nm, hnm⟩ : ∃ nm, encName m = nm := ⟨_, rfl⟩
    rw [hE, hl, hnm, hv2] at EN
    have RE := fun w' okw => refREncode_any m w' okw (by omega) (by omega) (by omega)
    unfold EncPost RQ.val at RE
    rw [hE, hl, hnm] at RE
    replace hE := hide hE
    replace hl := hide hl
    replace hnm := hide hnm
    replace hm2 := hide hm2
    replace hv2 := hide hv2
    replace RE := hide RE
    clear d0 d1 d2 d3 d4 d5 d6 d7 d8 d9 d10 z8 V9 R9
    clear a0 a1 a2 a3 a4 a5 a6 a7 a8 a9 a10
    rw [← hw10]
    replace hw10 := hide hw10
    go_call EN as e w11 ⟨P11, v, rfl, V⟩
    clear EN
    have O11 : Only [] w w11 := O10.trans P11 (by simp)
    have K11 := K10.only P11 (by simp)
    have RX := RE.out w11 (ok.only O11)
    have hvb := V.block
    obtain ⟨A1, k1, rfl, R1, q1, m1, a1⟩ := V.rd
    obtain ⟨n, hn⟩ : ∃ n, l.length = n := ⟨_, rfl⟩
    (try dsimp only at R1 q1 hvb V ⊢)
    rw [hn] at V q1 hvb ⊢
    have a0 : w11.cell? ⟨w.heap.size, 0, none⟩ = some (.int .i64 m.kind) := K11.cell 0
    have a1 : w11.cell? ⟨w.heap.size, 1, none⟩ = some (.string m.text) := K11.cell 1
    have a2 : w11.cell? ⟨w.heap.size, 2, none⟩ = some (.string m.value) := K11.cell 2
    have a3 : w11.cell? ⟨w.heap.size, 3, none⟩ = some (.string m.lang) := K11.cell 3
    have a4 : w11.cell? ⟨w.heap.size, 4, none⟩ = some (.int .u32 m.cols) := K11.cell 4
    have a5 : w11.cell? ⟨w.heap.size, 5, none⟩ = some (.int .u32 m.rows) := K11.cell 5
    have a6 : w11.cell? ⟨w.heap.size, 6, none⟩ = some (.int .u32 m.width) := K11.cell 6
    have a7 : w11.cell? ⟨w.heap.size, 7, none⟩ = some (.int .u32 m.height) := K11.cell 7
    have a8 : w11.cell? ⟨w.heap.size, 8, none⟩ = some (.slice m.mA m.modes.length m.mc) := K11.cell 8
    have a9 : w11.cell? ⟨w.heap.size, 9, none⟩ = some (.bool m.on) := K11.cell 9
    have a10 : w11.cell? ⟨w.heap.size, 10, none⟩ = some (.int .u32 m.code) := K11.cell 10
    go_wp2_with fail
    go_call RX as e w12 ⟨P12, v2, rfl, V2⟩
    clear RX
    clear a0 a1 a2 a3 a4 a5 a6 a7 a8 a9 a10
    obtain ⟨A2, k2, rfl, R2, q2, m2', a2⟩ := V2.rd
    clear V2
    (try dsimp only at R2 q2 ⊢)
    have O12 : Only [] w w12 := O11.trans P12 (by simp)
    have BY := bytes_any w12 A1 A2 l l k1 k2 (R1.only P12) R2 (by omega) (by omega)
    rw [show eqB l l = true from decide_eq_true rfl, hn] at BY
    rw [hn] at q2 ⊢
    replace hn := hide hn
    go_wp2_with fail
    go_call BY as e w13 ⟨rfl, P13⟩
    clear BY
    have P1113 : Only [] w11 w13 := P12.trans P13 (by simp)
    have O13 : Only [] w w13 := O11.trans P1113 (by simp)
    have V13 : OwnB w13 w10.heap.size (.slice A1 n k1) l := V.far P1113 (fun x hx => by simp at hx)
    have hn9 : n ≤ 9223372036854775807 := by unfold maxLen at m1; omega
    have P1013 : Only [] w10 w13 := P11.trans P1113 (by simp)
    clear V
    go_wp2_with fail
    go_loopw [53] (fun i wp => RaiseRel w13 w10.heap.size n (.slice A1 n k1) i wp) (fun i _ => n - (intOf i).toNat)
    case atStart => exact ⟨0, _, Nat.zero_le _, rfl, hn.out, V13, Only.refl _ _⟩
    case round =>
      obtain ⟨wp, rfl⟩ : ∃ wp : World, wp = wr := ⟨_, rfl⟩
      obtain ⟨kp, lp, hkp, rfl, hlp, Vp, Pp⟩ := hrel
      replace hlp := hide hlp
      by_cases hltp : kp < n
      · obtain ⟨gg, cc, e', hg', hgl'⟩ := Vp.form (by rw [hlp.out]; omega)
        have e'' : A1 = some ⟨gg, 0, none⟩ := by injection e'
        subst e''
        clear e'
        obtain ⟨x', hx'⟩ : ∃ x, lp[kp]? = some x := ⟨_, List.getElem?_eq_getElem (by rw [hlp.out]; exact hltp)⟩
        have cx' : wp.cell? ⟨gg, kp, none⟩ = some (.int .u8 x') := by
          have := World.ownsRow.cells Vp (g := gg) rfl kp (.int .u8 x') (by rw [getElem?_u8s, hx']; rfl)
          simpa [Addr.add_lit] using this
        have fx' : wp.frozen? ⟨gg, kp, none⟩ = false := OwnB.frozenAt Vp kp
        replace hx' := hide hx'
        go_wp2
        go_roundw
        case rel => exact ⟨kp + 1, lp.set kp _, by omega, by go_num, by rw [List.length_set]; exact hlp.out, Vp.wrote kp (by rw [hlp.out]; exact hltp) _, Pp.setCell (p := ⟨gg, kp, none⟩) (.inl (by simp [Value.ownBlock])) _⟩
        case measure => simp [intOf]; omega
      · obtain rfl : kp = n := by omega
        have P10p : Only [] w10 wp := P1013.trans Pp (fun x hx => .inr (hvb x (by simpa using hx)).1)
        have Op : Only [] w wp := O10.trans P10p (by simp)
        have Qp := Q10.only P10p (by simp)
        have Kp := K10.only P10p (by simp)
        obtain ⟨s, okn, N1, N2⟩ := names_both m.kind
        have N1' := N1 wp
        replace N2 := hide N2
        have a0 : wp.cell? ⟨w.heap.size, 0, none⟩ = some (.int .i64 m.kind) := Kp.cell 0
        clear N1
        go_wp2_with fail
        go_call N1' as e w14 ⟨rfl, P14⟩
        clear N1' a0
        have N2' := N2.out w14
        have K14 := Kp.only P14 (by simp)
        have Q14 := Qp.only P14 (by simp)
        have a0 : w14.cell? ⟨w.heap.size, 0, none⟩ = some (.int .i64 m.kind) := K14.cell 0
        go_wp2_with fail
        go_call N2' as e w15 ⟨rfl, rfl⟩
        clear N2' a0
        have O14 : Only [] w w14 := Op.trans P14 (by simp)
        have SM := rsame_true m2 m w14 (ok2.only (P10p.trans P14 (by simp))) (ok.only O14) same.symm
        unfold RQ.val at SM
        have a0 : w14.cell? ⟨w.heap.size, 0, none⟩ = some (.int .i64 m.kind) := K14.cell 0
        have a1 : w14.cell? ⟨w.heap.size, 1, none⟩ = some (.string m.text) := K14.cell 1
        have a2 : w14.cell? ⟨w.heap.size, 2, none⟩ = some (.string m.value) := K14.cell 2
        have a3 : w14.cell? ⟨w.heap.size, 3, none⟩ = some (.string m.lang) := K14.cell 3
        have a4 : w14.cell? ⟨w.heap.size, 4, none⟩ = some (.int .u32 m.cols) := K14.cell 4
        have a5 : w14.cell? ⟨w.heap.size, 5, none⟩ = some (.int .u32 m.rows) := K14.cell 5
        have a6 : w14.cell? ⟨w.heap.size, 6, none⟩ = some (.int .u32 m.width) := K14.cell 6
        have a7 : w14.cell? ⟨w.heap.size, 7, none⟩ = some (.int .u32 m.height) := K14.cell 7
        have a8 : w14.cell? ⟨w.heap.size, 8, none⟩ = some (.slice m.mA m.modes.length m.mc) := K14.cell 8
        have a9 : w14.cell? ⟨w.heap.size, 9, none⟩ = some (.bool m.on) := K14.cell 9
        have a10 : w14.cell? ⟨w.heap.size, 10, none⟩ = some (.int .u32 m.code) := K14.cell 10
        have b0 : w14.cell? ⟨w3.heap.size, 0, none⟩ = some (.int .i64 m2.kind) := Q14.cell 0
        have b1 : w14.cell? ⟨w3.heap.size, 1, none⟩ = some (.string m2.text) := Q14.cell 1
        have b2 : w14.cell? ⟨w3.heap.size, 2, none⟩ = some (.string m2.value) := Q14.cell 2
        have b3 : w14.cell? ⟨w3.heap.size, 3, none⟩ = some (.string m2.lang) := Q14.cell 3
        have b4 : w14.cell? ⟨w3.heap.size, 4, none⟩ = some (.int .u32 m2.cols) := Q14.cell 4
        have b5 : w14.cell? ⟨w3.heap.size, 5, none⟩ = some (.int .u32 m2.rows) := Q14.cell 5
        have b6 : w14.cell? ⟨w3.heap.size, 6, none⟩ = some (.int .u32 m2.width) := Q14.cell 6
        have b7 : w14.cell? ⟨w3.heap.size, 7, none⟩ = some (.int .u32 m2.height) := Q14.cell 7
        have b8 : w14.cell? ⟨w3.heap.size, 8, none⟩ = some (.slice m2.mA m2.modes.length m2.mc) := Q14.cell 8
        have b9 : w14.cell? ⟨w3.heap.size, 9, none⟩ = some (.bool m2.on) := Q14.cell 9
        have b10 : w14.cell? ⟨w3.heap.size, 10, none⟩ = some (.int .u32 m2.code) := Q14.cell 10
        go_wp2_with fail
        go_call SM as e w16 ⟨rfl, P16⟩
        go_wp2_with fail
        go_ret
        exact ⟨rfl, (O14.trans P16 (by simp)).below (Nat.le_refl _) (by simp)⟩

theorem mlen {W : World} (h : W.ShapedOpen Tryz.prog) : ∃ m, W.cell? ⟨0, 0, none⟩ = some (.int .i64 m) :=
  cell_of_shapedOpen_int (t := 3) (zero := #[.int .i64 0]) h (of_decide_eq_true (by kernel_rfl)) (by kernel_rfl) rfl (by kernel_rfl) (by kernel_rfl) Tryz.underlying3

set_option maxRecDepth 100000 in
theorem requestEncodes_law : LawWalkC Tryz.prog 4 Tryz.f4 := by
  intro H enc W base args ds ps hval hA hsz hshape
  rw [Tryz.params4] at hA hval hsz
  obtain ⟨m, hm⟩ := mlen hshape
  obtain ⟨v0, d0, rfl, rfl, h0⟩ := trodAll_one hA
  obtain ⟨x, rfl, ok⟩ := openR (hval 0 28 v0 rfl rfl) h0
  exact requestEncodes_walk x m W hm ok

set_option maxRecDepth 100000 in
theorem requestEncodes_row : Rows.RequestEncodesSaid :=
  OpenClaim.holds_of_wide 4 Tryz.f4 rfl rfl rfl rfl rfl rfl rfl ⟨rfl, rfl, rfl, rfl, rfl⟩ rfl rfl rfl rfl rfl (by kernel_rfl) Tryz.func4 (by kernel_rfl)
    (of_decide_eq_true (by kernel_rfl)) (by unfold Func.isWrapper; rw [if_neg (by decide +kernel)]; exact ⟨rfl, rfl⟩)
    (fun os started H enc _ => law_liftedC own laidOut Tryz.underlying4 4 Tryz.f4 Rows.requestEncodesSpec Tryz.func4 (by kernel_rfl) (by kernel_rfl) (by kernel_rfl) rfl
      (fun H ds hl => by
        have hl : ds.length = 1 := hl
        match ds, hl with
        | [d1], _ => rfl)
      (fun w => laidMetH Tryz.prog Rows.requestEncodesRow.laid w)
      requestEncodes_law os started H enc
      (ChangeSpec.witness_shaped (enc := enc) (C := Tryz.checked) (os := os) (X := fun w _ => laidMetH Tryz.prog Rows.requestEncodesRow.laid w) false (World.laidAll Tryz.prog os Rows.requestEncodesRow.laid) #[.agg #[.int .i64 0, .string ⟨#[]⟩, .string ⟨#[]⟩, .string ⟨#[]⟩, .int .u32 0, .int .u32 0, .int .u32 0, .int .u32 0, .slice none 0 0, .bool false, .int .u32 0]] 8 (World.laidAll_os _ _ _)
        (World.shaped_of_ZipB (by kernel_rfl) (by kernel_rfl)) (by kernel_rfl) (by kernel_rfl) (by kernel_rfl)
        (by rw [MakeChecks.laidMetH_plain _ _ _ (by kernel_rfl)]; exact laidMet_laidAll _ (by kernel_rfl) (by kernel_rfl))))

/-- The tied card. -/
theorem requestEncodes_holds : Rows.RequestEncodesCardSaid :=
  Claim7.holds_tied_plain_at .later [] [.data, .pinned] true (true, "354fa975cd925e7de3bd5655de4a4660f343580419ec47cdc9de02947a434fe0") false requestEncodes_row (fun _ h => by cases h) (by kernel_rfl) (fun _ h => by cases h) requestEncodes_row_tie rfl ⟨rfl, rfl⟩ (by kernel_rfl) rfl
    (fun f fn hf hfn => by
      obtain rfl : f = 4 := Option.some.inj ((show Tryz.prog.funcNamed "parlour/parlourlaw04.RequestEncodes" = some 4 by kernel_rfl).symm.trans hf) |>.symm
      obtain rfl : fn = Tryz.f4 := (Option.some.inj (Tryz.func4.symm.trans hfn)).symm
      exact ⟨by kernel_rfl, fun j t ht => by
        rw [Tryz.params4] at ht
        have hm : t ∈ [28] := by simpa using Array.mem_of_getElem? ht
        have hall : ([28].all fun u => !Tryz.prog.wantsStandIn u) = true := by kernel_rfl
        exact (show Tryz.prog.wantsStandIn t = false by simpa using List.all_eq_true.1 hall t hm)⟩)
    (by kernel_rfl)
#print axioms requestEncodes_holds
end Go.Proofs.YtmpeidliacbelaaGreatDoor
