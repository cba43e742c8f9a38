/- Layer 1: Size; for every field, no condition. -/
import Derived.Test.YtdmjabfjkkjhbaaDoorOctS
import Derived.Laws.EntriesVeiled
namespace Go.Proofs.YtdmjabfjkkjhbaaDoor
set_option linter.all false
open Go.RowKit

theorem Only.set3 {w w' : World} (h : Only [] w w') (q : Nat) (hq : w.heap.size ≤ q) (a b c : Value) : Only [] w (((w'.setCell ⟨q, 0, none⟩ a).setCell ⟨q, 1, none⟩ b).setCell ⟨q, 2, none⟩ c) :=
  ((h.setCell (p := ⟨q, 0, none⟩) (.inr hq) a).setCell (p := ⟨q, 1, none⟩) (.inr hq) b).setCell (p := ⟨q, 2, none⟩) (.inr hq) c
theorem and_hid {w w' : World} {q i : Nat} {v : Value} (h : Hid (Only [] w w')) (hq : q < w.heap.size) (hc : w.cell? ⟨q, i, none⟩ = some v) : w'.cell? ⟨q, i, none⟩ = some v ∧ Hid (Only [] w w') := ⟨cellL h.out hq (by simp) hc, h⟩
set_option maxRecDepth 100000 in
theorem index_tab (k : Nat) (h1 : 1 ≤ k) (h6 : k ≤ 6) (W : World) : (Instr.index 63 (.agg tab) (.int .i64 (k : Int))).run Tryd.prog W = .ok (.agg #[tab.getD (k * 3) .nilFunc, tab.getD (k * 3 + 1) .nilFunc, tab.getD (k * 3 + 2) .nilFunc]) W := by
  have hk : k = 1 ∨ k = 2 ∨ k = 3 ∨ k = 4 ∨ k = 5 ∨ k = 6 := by omega
  rcases hk with rfl | rfl | rfl | rfl | rfl | rfl <;> rfl

set_option maxRecDepth 100000 in
set_option maxHeartbeats 3200000 in
theorem size_any (f : FD) (w : World) (hf : f.ok w) (hn : 0 ≤ f.n ∧ f.n ≤ 4294967295) :
    Calls Tryd.prog 20 #[f.val] w fun e w' => e = .returned (.int .i64 (sizeP f.pf)) ∧ Only [] w w' := by
  obtain ⟨w1, hw1⟩ : ∃ w1, w1 = w.alloc (.cells #[.int .i64 f.kind, .int .u32 f.n, .slice f.tA f.text.length f.tc, .slice f.lA f.list.length f.lc] 35) := ⟨_, rfl⟩
  have P1 : Only [] w w1 := by rw [hw1]; exact (Only.refl _ _).alloc _
  have K1 : Blk w1 w.heap.size 35 [.int .i64 f.kind, .int .u32 f.n, .slice f.tA f.text.length f.tc, .slice f.lA f.list.length f.lc] := by rw [hw1]; exact Blk.new w _ _
  have c0 : w1.cell? ⟨w.heap.size, 0, none⟩ = some (.int .i64 f.kind) := K1.cell 0
  have c1 : w1.cell? ⟨w.heap.size, 1, none⟩ = some (.int .u32 f.n) := K1.cell 1
  have c2 : w1.cell? ⟨w.heap.size, 2, none⟩ = some (.slice f.tA f.text.length f.tc) := K1.cell 2
  have c3 : w1.cell? ⟨w.heap.size, 3, none⟩ = some (.slice f.lA f.list.length f.lc) := K1.cell 3
  have hlt := K1.lt
  have KN := known_any f.kind w1
  replace hn := hide hn
  by_cases hk : kindOk f.kind = true
  · rw [hk] at KN
    obtain ⟨x1, x6⟩ := kindOk_range hk
    obtain ⟨j, hj⟩ := Int.eq_ofNat_of_zero_le (show 0 ≤ f.kind by omega)
    obtain ⟨F, G, hF, hG, hcF, hcG, hCF, hCG⟩ := kindW_any j (by omega) (by omega)
    have hj7 : j < 7 := by omega
    have hidx := index_tab j (by omega) (by omega)
    rw [show tab.getD (j * 3) .nilFunc = .func (Fn.func F) #[] #[] by simp [Array.getD_eq_getD_getElem?, hF], show tab.getD (j * 3 + 1) .nilFunc = .func (Fn.func G) #[] #[] by simp [Array.getD_eq_getD_getElem?, hG]] at hidx
    obtain ⟨Z, hZ, _, _⟩ := kind_any j (by omega) (by omega)
    rw [show tab.getD (j * 3 + 2) .nilFunc = .func (Fn.func Z) #[] #[] by simp [Array.getD_eq_getD_getElem?, hZ]] at hidx
    clear hZ
    rw [hj] at KN c0 K1 hw1
    replace hj := hide hj
    unfold FD.val
    rw [hj.out]
    go_enter Tryd.func20, Tryd.ntmps20
    go_wp2_with fail
    rw [← hw1]
    replace hw1 := hide hw1
    go_call KN as e w2 ⟨rfl, rfl⟩
    clear KN
    go_wp2_with fail
    have hO0 : Hid (Only [] w1 w1) := hide (Only.refl _ _)
    have hX : ∀ w6, Hid (Only [] w1 w6) → Calls Tryd.prog 30 #[] w6 fun e w' => e = .returned (.agg tab) ∧ Only [] w6 w' := fun w6 _ => sorts_any w6
    replace hX := hide hX
    go_region_held3 (fun w' => w'.cell? ⟨w.heap.size, 0, none⟩ = some (.int .i64 (j : Int)) ∧ Hid (Only [] w1 w'))
      ((try go_split_ands
        (refine and_hid ?_ hlt c0
         first | (with_reducible assumption) | (exact hide (Only.trans (unhide (by assumption)) P7 (by simp))) | (exact hide (Only.drew (unhide (by assumption)))) | (exact hide (Only.alloc (unhide (by assumption)) _)) | (exact hide (((Only.drew (Only.refl [] w1)).trans P7 (by simp)).alloc _)) | (exact hide (Only.set3 (unhide (by assumption)) _ (Nat.le_refl _) _ _ _)))))
      (first | (go_at_call 30; (try go_split_ands); go_call (hX.out _ (by assumption)) as e w7 ⟨rfl, P7⟩; (try (have b7 := (Blk.new w1.drew 62 [.nilFunc, .nilFunc, .nilFunc]).only P7 (by simp); have y0 : w7.cell? ⟨w1.heap.size, 0, none⟩ = some .nilFunc := b7.cell 0; have y1 : w7.cell? ⟨w1.heap.size, 1, none⟩ = some .nilFunc := b7.cell 1; have y2 : w7.cell? ⟨w1.heap.size, 2, none⟩ = some .nilFunc := b7.cell 2; have f0 : w7.frozen? ⟨w1.heap.size, 0, none⟩ = false := b7.frozen 0; have f1 : w7.frozen? ⟨w1.heap.size, 1, none⟩ = false := b7.frozen 1; have f2 : w7.frozen? ⟨w1.heap.size, 2, none⟩ = false := b7.frozen 2))))
    rotate_left 2
    · have BB : Blk (((w7.setCell ⟨w1.heap.size, 0, none⟩ (.func (Fn.func F) #[] #[])).setCell ⟨w1.heap.size, 1, none⟩ (.func (Fn.func G) #[] #[])).setCell ⟨w1.heap.size, 2, none⟩ (.func (Fn.func Z) #[] #[])) w1.heap.size 62 [.func (Fn.func F) #[] #[], .func (Fn.func G) #[] #[], .func (Fn.func Z) #[] #[]] :=
        (((((Blk.new w1.drew 62 [.nilFunc, .nilFunc, .nilFunc]).only P7 (by simp)).set_ 0 _).set_ 1 _).set_ 2 _)
      have OO : Only [] w1 (((w7.setCell ⟨w1.heap.size, 0, none⟩ (.func (Fn.func F) #[] #[])).setCell ⟨w1.heap.size, 1, none⟩ (.func (Fn.func G) #[] #[])).setCell ⟨w1.heap.size, 2, none⟩ (.func (Fn.func Z) #[] #[])) := Only.set3 (((Only.refl [] w1).drew.alloc _).trans P7 (by simp)) _ (Nat.le_refl _) _ _ _
      have qq : w1.heap.size ≤ w1.heap.size := Nat.le_refl _
      generalize World.setCell (World.setCell (World.setCell _ _ _) _ _) _ _ = wq at BB OO ⊢
      generalize hqq0 : w1.heap.size = q0 at BB qq ⊢
      replace hqq0 := hide hqq0
      have KK := K1.only OO (by simp)
      have d0 : wq.cell? ⟨w.heap.size, 0, none⟩ = some (.int .i64 (j : Int)) := KK.cell 0
      have d1 : wq.cell? ⟨w.heap.size, 1, none⟩ = some (.int .u32 f.n) := KK.cell 1
      have d2 : wq.cell? ⟨w.heap.size, 2, none⟩ = some (.slice f.tA f.text.length f.tc) := KK.cell 2
      have d3 : wq.cell? ⟨w.heap.size, 3, none⟩ = some (.slice f.lA f.list.length f.lc) := KK.cell 3
      have s0 : wq.cell? ⟨q0, 0, none⟩ = some (.func (Fn.func F) #[] #[]) := BB.cell 0
      have hq0 := BB.lt
      have CF := hCF wq f hj.out ((hf.only P1).only OO)
      unfold FD.val at CF
      rw [hj.out] at CF
      go_wp2_with fail
      go_call CF as e w8 ⟨rfl, P8⟩
      clear CF
      have O8 : Only [] w1 w8 := OO.trans P8 (by simp)
      by_cases hE : faultP f.pf = 0
      · rw [hE]
        have hE2 : ((0 : Int) != 0) = false := rfl
        obtain ⟨w9, hw9⟩ : ∃ w9, w9 = w8.alloc (.cells #[.slice none 0 0] 73) := ⟨_, rfl⟩
        have P9 : Only [] w8 w9 := by rw [hw9]; exact (Only.refl _ _).alloc _
        have K9 : Blk w9 w8.heap.size 73 [.slice none 0 0] := by rw [hw9]; exact Blk.new w8 _ _
        have K3 := (KK.only P8 (by simp)).only P9 (by simp)
        have B3 := (BB.only P8 (by simp)).only P9 (by simp)
        have z8 := O8.size
        have z1 := P1.size
        have z9 := K9.lt
        have K8 := KK.only P8 (by simp)
        have B8 := BB.only P8 (by simp)
        have t0 : w8.cell? ⟨w.heap.size, 0, none⟩ = some (.int .i64 (j : Int)) := K8.cell 0
        have t1 : w8.cell? ⟨w.heap.size, 1, none⟩ = some (.int .u32 f.n) := K8.cell 1
        have t2 : w8.cell? ⟨w.heap.size, 2, none⟩ = some (.slice f.tA f.text.length f.tc) := K8.cell 2
        have t3 : w8.cell? ⟨w.heap.size, 3, none⟩ = some (.slice f.lA f.list.length f.lc) := K8.cell 3
        have u1 : w8.cell? ⟨q0, 1, none⟩ = some (.func (Fn.func G) #[] #[]) := B8.cell 1
        have hlt8 : w.heap.size < w8.heap.size := by omega
        have hq8 : q0 < w8.heap.size := B8.lt
        have hfar : f.far w8.heap.size (.slice none 0 0) := ⟨fun a ha h0 => ⟨by have := hf.tlt a ha h0; omega, by simp [Value.ownBlock]⟩, fun a ha h0 => ⟨by have := hf.llt a ha h0; omega, by simp [Value.ownBlock]⟩⟩
        have CG := hCG w9 f w8.heap.size (w8.heap.size + 1) (.slice none 0 0) [] hj.out (((hf.only P1).only O8).only P9) hE hfar hn.out ⟨K9, ownB_nil _ _, by omega, by omega⟩ (by simp)
        unfold FD.val at CG
        rw [hj.out, List.nil_append] at CG
        have hsz : sizeP f.pf = ((bytesP f.pf).length : Int) := if_pos ⟨x1, x6, hE⟩
        obtain ⟨bs, hbs⟩ : ∃ bs, bytesP f.pf = bs := ⟨_, rfl⟩
        rw [hbs] at hsz CG
        replace hsz := hide hsz
        replace hbs := hide hbs
        clear d0 d1 d2 d3 s0
        go_wp2_with fail
        rw [← hw9]
        replace hw9 := hide hw9
        clear t0 t1 t2 t3 u1
        go_call CG as e w10 ⟨rfl, v10, R10, M10⟩
        clear CG
        obtain ⟨A9, k9, rfl, G9, q9, m9, a9⟩ := R10.own.rd
        have g0 : w10.cell? ⟨w8.heap.size, 0, none⟩ = some (.slice A9 bs.length k9) := R10.blk.cell 0
        go_wp2_with fail
        go_ret
        refine ⟨by rw [hsz.out]; rfl, ((P1.trans O8 (by simp)).trans P9 (by simp)).trans M10.1 (fun x hx => .inr ?_)⟩
        rcases List.mem_cons.1 hx with rfl | hx
        · omega
        · simp [Value.ownBlock] at hx
      · have hE2 : (faultP f.pf != 0) = true := by simpa using hE
        have hsz : sizeP f.pf = 0 := if_neg (fun h => hE h.2.2)
        replace hsz := hide hsz
        go_wp2_with fail
        go_ret
        exact ⟨by rw [hsz.out]; rfl, P1.trans O8 (by simp)⟩
    all_goals (
      have BB : Blk (w7.alloc (.cells #[.func (Fn.func F) #[] #[], .func (Fn.func G) #[] #[], .func (Fn.func Z) #[] #[]] 62)) w7.heap.size 62 [.func (Fn.func F) #[] #[], .func (Fn.func G) #[] #[], .func (Fn.func Z) #[] #[]] := Blk.new w7 _ _
      have OO : Only [] w1 (w7.alloc (.cells #[.func (Fn.func F) #[] #[], .func (Fn.func G) #[] #[], .func (Fn.func Z) #[] #[]] 62)) := ((Only.refl [] w1).drew.trans P7 (by simp)).alloc _
      have qq : w1.heap.size ≤ w7.heap.size := P7.size
      generalize World.alloc w7 _ = wq at BB OO ⊢
      generalize w7.heap.size = q0 at BB qq ⊢
      have KK := K1.only OO (by simp)
      have d0 : wq.cell? ⟨w.heap.size, 0, none⟩ = some (.int .i64 (j : Int)) := KK.cell 0
      have d1 : wq.cell? ⟨w.heap.size, 1, none⟩ = some (.int .u32 f.n) := KK.cell 1
      have d2 : wq.cell? ⟨w.heap.size, 2, none⟩ = some (.slice f.tA f.text.length f.tc) := KK.cell 2
      have d3 : wq.cell? ⟨w.heap.size, 3, none⟩ = some (.slice f.lA f.list.length f.lc) := KK.cell 3
      have s0 : wq.cell? ⟨q0, 0, none⟩ = some (.func (Fn.func F) #[] #[]) := BB.cell 0
      have hq0 := BB.lt
      have CF := hCF wq f hj.out ((hf.only P1).only OO)
      unfold FD.val at CF
      rw [hj.out] at CF
      go_wp2_with fail
      go_call CF as e w8 ⟨rfl, P8⟩
      clear CF
      have O8 : Only [] w1 w8 := OO.trans P8 (by simp)
      by_cases hE : faultP f.pf = 0
      · rw [hE]
        have hE2 : ((0 : Int) != 0) = false := rfl
        obtain ⟨w9, hw9⟩ : ∃ w9, w9 = w8.alloc (.cells #[.slice none 0 0] 73) := ⟨_, rfl⟩
        have P9 : Only [] w8 w9 := by rw [hw9]; exact (Only.refl _ _).alloc _
        have K9 : Blk w9 w8.heap.size 73 [.slice none 0 0] := by rw [hw9]; exact Blk.new w8 _ _
        have K3 := (KK.only P8 (by simp)).only P9 (by simp)
        have B3 := (BB.only P8 (by simp)).only P9 (by simp)
        have z8 := O8.size
        have z1 := P1.size
        have z9 := K9.lt
        have K8 := KK.only P8 (by simp)
        have B8 := BB.only P8 (by simp)
        have t0 : w8.cell? ⟨w.heap.size, 0, none⟩ = some (.int .i64 (j : Int)) := K8.cell 0
        have t1 : w8.cell? ⟨w.heap.size, 1, none⟩ = some (.int .u32 f.n) := K8.cell 1
        have t2 : w8.cell? ⟨w.heap.size, 2, none⟩ = some (.slice f.tA f.text.length f.tc) := K8.cell 2
        have t3 : w8.cell? ⟨w.heap.size, 3, none⟩ = some (.slice f.lA f.list.length f.lc) := K8.cell 3
        have u1 : w8.cell? ⟨q0, 1, none⟩ = some (.func (Fn.func G) #[] #[]) := B8.cell 1
        have hlt8 : w.heap.size < w8.heap.size := by omega
        have hq8 : q0 < w8.heap.size := B8.lt
        have hfar : f.far w8.heap.size (.slice none 0 0) := ⟨fun a ha h0 => ⟨by have := hf.tlt a ha h0; omega, by simp [Value.ownBlock]⟩, fun a ha h0 => ⟨by have := hf.llt a ha h0; omega, by simp [Value.ownBlock]⟩⟩
        have CG := hCG w9 f w8.heap.size (w8.heap.size + 1) (.slice none 0 0) [] hj.out (((hf.only P1).only O8).only P9) hE hfar hn.out ⟨K9, ownB_nil _ _, by omega, by omega⟩ (by simp)
        unfold FD.val at CG
        rw [hj.out, List.nil_append] at CG
        have hsz : sizeP f.pf = ((bytesP f.pf).length : Int) := if_pos ⟨x1, x6, hE⟩
        obtain ⟨bs, hbs⟩ : ∃ bs, bytesP f.pf = bs := ⟨_, rfl⟩
        rw [hbs] at hsz CG
        replace hsz := hide hsz
        replace hbs := hide hbs
        clear d0 d1 d2 d3 s0
        go_wp2_with fail
        rw [← hw9]
        replace hw9 := hide hw9
        clear t0 t1 t2 t3 u1
        go_call CG as e w10 ⟨rfl, v10, R10, M10⟩
        clear CG
        obtain ⟨A9, k9, rfl, G9, q9, m9, a9⟩ := R10.own.rd
        have g0 : w10.cell? ⟨w8.heap.size, 0, none⟩ = some (.slice A9 bs.length k9) := R10.blk.cell 0
        go_wp2_with fail
        go_ret
        refine ⟨by rw [hsz.out]; rfl, ((P1.trans O8 (by simp)).trans P9 (by simp)).trans M10.1 (fun x hx => .inr ?_)⟩
        rcases List.mem_cons.1 hx with rfl | hx
        · omega
        · simp [Value.ownBlock] at hx
      · have hE2 : (faultP f.pf != 0) = true := by simpa using hE
        have hsz : sizeP f.pf = 0 := if_neg (fun h => hE h.2.2)
        replace hsz := hide hsz
        go_wp2_with fail
        go_ret
        exact ⟨by rw [hsz.out]; rfl, P1.trans O8 (by simp)⟩)
  · have hk' : kindOk f.kind = false := by simpa using hk
    rw [hk'] at KN
    have hsz : sizeP f.pf = 0 := if_neg (fun h => hk (by unfold kindOk; simp [show 1 ≤ f.kind from h.1, show f.kind ≤ 6 from h.2.1]))
    replace hsz := hide hsz
    clear hk hk'
    unfold FD.val
    go_enter Tryd.func20, Tryd.ntmps20
    go_wp2_with fail
    rw [← hw1]
    replace hw1 := hide hw1
    go_call KN as e w2 ⟨rfl, rfl⟩
    clear KN
    go_wp2_with fail
    go_ret
    exact ⟨by rw [hsz.out]; rfl, P1⟩
end Go.Proofs.YtdmjabfjkkjhbaaDoor
