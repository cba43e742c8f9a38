/- The document's answer for layer 1: Own; no condition but the sizes that can be. -/
import Derived.Test.YtdmjabfjkkjhbaaDoorRefJ
import Derived.Test.YtdmjabfjkkjhbaaDoorOctV
namespace Go.Proofs.YtdmjabfjkkjhbaaDoor
set_option linter.all false
open Go.RowKit

set_option maxRecDepth 100000 in
set_option maxHeartbeats 6400000 in
theorem own_any (A : Option Addr) (fs : List FD) (c : Nat) (w : World) (h : RdF w A fs) (hl : fs.length ≤ 1000) (hfit : ∀ f ∈ fs, Fits f) :
    Calls Tryd.prog 22 #[.slice A fs.length c] w fun e w' => Only [] w w' ∧ ∃ A' cap gs, e = .returned (.slice A' fs.length cap) ∧ gs.map FD.pf = (fs.map FD.pf).map ownP ∧ RdF w' A' gs := by
  have CP := copy_any A fs c w h hl hfit
  have hrange : ∀ f ∈ fs, 0 ≤ f.n ∧ f.n ≤ 4294967295 := fun f hf => (h.ok f hf).2
  obtain ⟨n, hn⟩ : ∃ n, n = fs.length := ⟨_, rfl⟩
  rw [← hn] at hl CP ⊢
  replace hn := hide hn
  replace hfit := hide hfit
  replace hrange := hide hrange
  go_enter Tryd.func22, Tryd.ntmps22
  go_wp2_with fail
  go_call CP as e w1 ⟨P1, A1, c1', xs, rfl, hxs, RX, MX⟩
  clear CP MX
  have hxl : xs.length = n := by
    have := congrArg List.length hxs
    rw [List.length_map, List.length_map] at this
    rw [this, ← hn.out]
  replace hxs := hide hxs
  replace hxl := hide hxl
  go_wp2_with fail
  go_loopw [10, 3] (fun i o wr => ∃ (k : Nat) (v : Value) (gs : List FD), k ≤ n ∧ i = .int .i64 k ∧ v = o ∧ gs.map FD.pf = ((xs.take k).map FD.pf).map ownP ∧ OwnF wr w1.heap.size v gs ∧ (∀ g ∈ gs, FD.ok w1 g) ∧ Only [] w1 wr) (fun i _ _ => n - (intOf i).toNat)
  case atStart => exact ⟨0, _, [], by omega, rfl, rfl, rfl, ownF_nil _ _, fun g hg => by simp at hg, Only.refl _ _⟩
  case round =>
    obtain ⟨wo, rfl⟩ : ∃ wo : World, wo = wr := ⟨_, rfl⟩
    obtain ⟨k, v, gs, hkn, rfl, rfl, hgs, V, M, O⟩ := hrel
    have hgl : gs.length = k := by
      have := congrArg List.length hgs
      rw [List.length_map, List.length_map, List.length_map, List.length_take] at this
      have := hxl.out
      omega
    by_cases hlt : k < n
    · obtain ⟨f, hf⟩ : ∃ f, xs[k]? = some f := ⟨_, List.getElem?_eq_getElem (by have := hxl.out; omega)⟩
      obtain ⟨b, off, rfl, hb, hc⟩ := (RX.only O).cells (by have := hxl.out; omega)
      obtain ⟨c0, c1, c2, c3⟩ := hc k f hf
      have okf := (RX.ok f (List.mem_of_getElem? hf)).1
      have hgs2 : ((xs.take (k + 1)).map FD.pf).map ownP = gs.map FD.pf ++ [ownP f.pf] := by rw [take_snocG hf, List.map_append, List.map_append, ← hgs]; rfl
      obtain ⟨kd, nn, tA, tc, tx, lA, lc, ls⟩ := f
      dsimp only at c0 c1 c2 c3
      have hob := V.block
      have z0 := O.size
      replace hf := hide hf
      replace hgs := hide hgs
      replace hgs2 : Hid (((xs.take (k + 1)).map FD.pf).map ownP = gs.map FD.pf ++ [ownP ⟨kd, nn, tx, ls⟩]) := hide hgs2
      replace hgl := hide hgl
      replace okf := hide okf
      clear hc
      by_cases h4 : kd = 4
      · subst h4
        skip
        have X13 : Only [] wo (((wo.alloc (.cells #[.int .i64 4, .int .u32 nn, .slice tA tx.length tc, .slice lA ls.length lc] 35)).alloc (.cells #[.int .i64 4, .int .u32 0, .slice tA tx.length tc, .slice none 0 0] 35)).alloc (.cells #[.int .i64 4, .int .u32 0, .slice tA tx.length tc, .slice none 0 0] 35)) := (((Only.refl [] wo).alloc _).alloc _).alloc _
        have V13 : OwnF (((wo.alloc (.cells #[.int .i64 4, .int .u32 nn, .slice tA tx.length tc, .slice lA ls.length lc] 35)).alloc (.cells #[.int .i64 4, .int .u32 0, .slice tA tx.length tc, .slice none 0 0] 35)).alloc (.cells #[.int .i64 4, .int .u32 0, .slice tA tx.length tc, .slice none 0 0] 35)) w1.heap.size v gs := V.far X13 (fun x hx => by simp at hx)
        have B13 : Blk (((wo.alloc (.cells #[.int .i64 4, .int .u32 nn, .slice tA tx.length tc, .slice lA ls.length lc] 35)).alloc (.cells #[.int .i64 4, .int .u32 0, .slice tA tx.length tc, .slice none 0 0] 35)).alloc (.cells #[.int .i64 4, .int .u32 0, .slice tA tx.length tc, .slice none 0 0] 35)) (wo.heap.size + 2) 35 (FD.cells ⟨4, 0, tA, tc, tx, none, 0, []⟩) := by
          have := Blk.new ((wo.alloc (.cells #[.int .i64 4, .int .u32 nn, .slice tA tx.length tc, .slice lA ls.length lc] 35)).alloc (.cells #[.int .i64 4, .int .u32 0, .slice tA tx.length tc, .slice none 0 0] 35)) 35 [.int .i64 4, .int .u32 0, .slice tA tx.length tc, .slice none 0 0]
          rw [show ((wo.alloc (.cells #[.int .i64 4, .int .u32 nn, .slice tA tx.length tc, .slice lA ls.length lc] 35)).alloc (.cells #[.int .i64 4, .int .u32 0, .slice tA tx.length tc, .slice none 0 0] 35)).heap.size = wo.heap.size + 2 by simp] at this
          exact this
        have hbase : w1.heap.size ≤ (((wo.alloc (.cells #[.int .i64 4, .int .u32 nn, .slice tA tx.length tc, .slice lA ls.length lc] 35)).alloc (.cells #[.int .i64 4, .int .u32 0, .slice tA tx.length tc, .slice none 0 0] 35)).alloc (.cells #[.int .i64 4, .int .u32 0, .slice tA tx.length tc, .slice none 0 0] 35)).heap.size := Nat.le_trans z0 X13.size
        have hokg : FD.ok w1 ⟨4, 0, tA, tc, tx, none, 0, []⟩ := ⟨okf.out.text, RdG.nil, okf.out.tle, okf.out.tmax, by simp, by simp, by simp⟩
        have hpg : FD.pf ⟨4, 0, tA, tc, tx, none, 0, []⟩ = ownP ⟨4, nn, tx, ls⟩ := by
          unfold FD.pf ownP
          simp
        replace hokg := hide hokg
        replace hpg := hide hpg
        go_wp2_with (at_builtin; go_must (refine wpList_appF rfl (.tmp 33) (.tmp 35) rfl w1.heap.size v gs rfl V13 (wo.heap.size + 2) ⟨4, 0, tA, tc, tx, none, 0, []⟩ rfl B13 (by have := hgl.out; omega) hbase ?_; intro A14 k14 w14 V14 P14 G14))
        go_roundw
        case rel =>
          refine ⟨k + 1, _, gs ++ [⟨4, 0, tA, tc, tx, none, 0, []⟩], by omega, by go_num, rfl, ?_, V14.out, ?_, (O.trans X13 (by simp)).trans P14 (fun x hx => .inr (hob x (by simpa using hx)).1)⟩
          · rw [hgs2.out, List.map_append, List.map_cons, List.map_nil, hpg.out]
          · intro g hg
            rcases List.mem_append.1 hg with hg | hg
            · exact M g hg
            · simp only [List.mem_singleton] at hg
              rw [hg]
              exact hokg.out
        case measure => simp [intOf]; omega
      by_cases h6 : kd = 6
      · subst h6
        skip
        have X13 : Only [] wo (((wo.alloc (.cells #[.int .i64 6, .int .u32 nn, .slice tA tx.length tc, .slice lA ls.length lc] 35)).alloc (.cells #[.int .i64 6, .int .u32 0, .slice tA tx.length tc, .slice none 0 0] 35)).alloc (.cells #[.int .i64 6, .int .u32 0, .slice tA tx.length tc, .slice none 0 0] 35)) := (((Only.refl [] wo).alloc _).alloc _).alloc _
        have V13 : OwnF (((wo.alloc (.cells #[.int .i64 6, .int .u32 nn, .slice tA tx.length tc, .slice lA ls.length lc] 35)).alloc (.cells #[.int .i64 6, .int .u32 0, .slice tA tx.length tc, .slice none 0 0] 35)).alloc (.cells #[.int .i64 6, .int .u32 0, .slice tA tx.length tc, .slice none 0 0] 35)) w1.heap.size v gs := V.far X13 (fun x hx => by simp at hx)
        have B13 : Blk (((wo.alloc (.cells #[.int .i64 6, .int .u32 nn, .slice tA tx.length tc, .slice lA ls.length lc] 35)).alloc (.cells #[.int .i64 6, .int .u32 0, .slice tA tx.length tc, .slice none 0 0] 35)).alloc (.cells #[.int .i64 6, .int .u32 0, .slice tA tx.length tc, .slice none 0 0] 35)) (wo.heap.size + 2) 35 (FD.cells ⟨6, 0, tA, tc, tx, none, 0, []⟩) := by
          have := Blk.new ((wo.alloc (.cells #[.int .i64 6, .int .u32 nn, .slice tA tx.length tc, .slice lA ls.length lc] 35)).alloc (.cells #[.int .i64 6, .int .u32 0, .slice tA tx.length tc, .slice none 0 0] 35)) 35 [.int .i64 6, .int .u32 0, .slice tA tx.length tc, .slice none 0 0]
          rw [show ((wo.alloc (.cells #[.int .i64 6, .int .u32 nn, .slice tA tx.length tc, .slice lA ls.length lc] 35)).alloc (.cells #[.int .i64 6, .int .u32 0, .slice tA tx.length tc, .slice none 0 0] 35)).heap.size = wo.heap.size + 2 by simp] at this
          exact this
        have hbase : w1.heap.size ≤ (((wo.alloc (.cells #[.int .i64 6, .int .u32 nn, .slice tA tx.length tc, .slice lA ls.length lc] 35)).alloc (.cells #[.int .i64 6, .int .u32 0, .slice tA tx.length tc, .slice none 0 0] 35)).alloc (.cells #[.int .i64 6, .int .u32 0, .slice tA tx.length tc, .slice none 0 0] 35)).heap.size := Nat.le_trans z0 X13.size
        have hokg : FD.ok w1 ⟨6, 0, tA, tc, tx, none, 0, []⟩ := ⟨okf.out.text, RdG.nil, okf.out.tle, okf.out.tmax, by simp, by simp, by simp⟩
        have hpg : FD.pf ⟨6, 0, tA, tc, tx, none, 0, []⟩ = ownP ⟨6, nn, tx, ls⟩ := by
          unfold FD.pf ownP
          simp
        replace hokg := hide hokg
        replace hpg := hide hpg
        go_wp2_with (at_builtin; go_must (refine wpList_appF rfl (.tmp 33) (.tmp 35) rfl w1.heap.size v gs rfl V13 (wo.heap.size + 2) ⟨6, 0, tA, tc, tx, none, 0, []⟩ rfl B13 (by have := hgl.out; omega) hbase ?_; intro A14 k14 w14 V14 P14 G14))
        go_roundw
        case rel =>
          refine ⟨k + 1, _, gs ++ [⟨6, 0, tA, tc, tx, none, 0, []⟩], by omega, by go_num, rfl, ?_, V14.out, ?_, (O.trans X13 (by simp)).trans P14 (fun x hx => .inr (hob x (by simpa using hx)).1)⟩
          · rw [hgs2.out, List.map_append, List.map_cons, List.map_nil, hpg.out]
          · intro g hg
            rcases List.mem_append.1 hg with hg | hg
            · exact M g hg
            · simp only [List.mem_singleton] at hg
              rw [hg]
              exact hokg.out
        case measure => simp [intOf]; omega
      by_cases h5 : kd = 5
      · subst h5
        skip
        have X13 : Only [] wo (((wo.alloc (.cells #[.int .i64 5, .int .u32 nn, .slice tA tx.length tc, .slice lA ls.length lc] 35)).alloc (.cells #[.int .i64 5, .int .u32 0, .slice none 0 0, .slice lA ls.length lc] 35)).alloc (.cells #[.int .i64 5, .int .u32 0, .slice none 0 0, .slice lA ls.length lc] 35)) := (((Only.refl [] wo).alloc _).alloc _).alloc _
        have V13 : OwnF (((wo.alloc (.cells #[.int .i64 5, .int .u32 nn, .slice tA tx.length tc, .slice lA ls.length lc] 35)).alloc (.cells #[.int .i64 5, .int .u32 0, .slice none 0 0, .slice lA ls.length lc] 35)).alloc (.cells #[.int .i64 5, .int .u32 0, .slice none 0 0, .slice lA ls.length lc] 35)) w1.heap.size v gs := V.far X13 (fun x hx => by simp at hx)
        have B13 : Blk (((wo.alloc (.cells #[.int .i64 5, .int .u32 nn, .slice tA tx.length tc, .slice lA ls.length lc] 35)).alloc (.cells #[.int .i64 5, .int .u32 0, .slice none 0 0, .slice lA ls.length lc] 35)).alloc (.cells #[.int .i64 5, .int .u32 0, .slice none 0 0, .slice lA ls.length lc] 35)) (wo.heap.size + 2) 35 (FD.cells ⟨5, 0, none, 0, [], lA, lc, ls⟩) := by
          have := Blk.new ((wo.alloc (.cells #[.int .i64 5, .int .u32 nn, .slice tA tx.length tc, .slice lA ls.length lc] 35)).alloc (.cells #[.int .i64 5, .int .u32 0, .slice none 0 0, .slice lA ls.length lc] 35)) 35 [.int .i64 5, .int .u32 0, .slice none 0 0, .slice lA ls.length lc]
          rw [show ((wo.alloc (.cells #[.int .i64 5, .int .u32 nn, .slice tA tx.length tc, .slice lA ls.length lc] 35)).alloc (.cells #[.int .i64 5, .int .u32 0, .slice none 0 0, .slice lA ls.length lc] 35)).heap.size = wo.heap.size + 2 by simp] at this
          exact this
        have hbase : w1.heap.size ≤ (((wo.alloc (.cells #[.int .i64 5, .int .u32 nn, .slice tA tx.length tc, .slice lA ls.length lc] 35)).alloc (.cells #[.int .i64 5, .int .u32 0, .slice none 0 0, .slice lA ls.length lc] 35)).alloc (.cells #[.int .i64 5, .int .u32 0, .slice none 0 0, .slice lA ls.length lc] 35)).heap.size := Nat.le_trans z0 X13.size
        have hokg : FD.ok w1 ⟨5, 0, none, 0, [], lA, lc, ls⟩ := ⟨RdG.nil, okf.out.list, by simp, by simp, okf.out.lle, okf.out.lmax, okf.out.strs⟩
        have hpg : FD.pf ⟨5, 0, none, 0, [], lA, lc, ls⟩ = ownP ⟨5, nn, tx, ls⟩ := by
          unfold FD.pf ownP
          simp
        replace hokg := hide hokg
        replace hpg := hide hpg
        go_wp2_with (at_builtin; go_must (refine wpList_appF rfl (.tmp 33) (.tmp 35) rfl w1.heap.size v gs rfl V13 (wo.heap.size + 2) ⟨5, 0, none, 0, [], lA, lc, ls⟩ rfl B13 (by have := hgl.out; omega) hbase ?_; intro A14 k14 w14 V14 P14 G14))
        go_roundw
        case rel =>
          refine ⟨k + 1, _, gs ++ [⟨5, 0, none, 0, [], lA, lc, ls⟩], by omega, by go_num, rfl, ?_, V14.out, ?_, (O.trans X13 (by simp)).trans P14 (fun x hx => .inr (hob x (by simpa using hx)).1)⟩
          · rw [hgs2.out, List.map_append, List.map_cons, List.map_nil, hpg.out]
          · intro g hg
            rcases List.mem_append.1 hg with hg | hg
            · exact M g hg
            · simp only [List.mem_singleton] at hg
              rw [hg]
              exact hokg.out
        case measure => simp [intOf]; omega
      · have e4 : (kd == 4) = false := beq_eq_false_iff_ne.2 h4
        have e5 : (kd == 5) = false := beq_eq_false_iff_ne.2 h5
        have e6 : (kd == 6) = false := beq_eq_false_iff_ne.2 h6
        skip
        have X13 : Only [] wo (((wo.alloc (.cells #[.int .i64 kd, .int .u32 nn, .slice tA tx.length tc, .slice lA ls.length lc] 35)).alloc (.cells #[.int .i64 kd, .int .u32 nn, .slice none 0 0, .slice none 0 0] 35)).alloc (.cells #[.int .i64 kd, .int .u32 nn, .slice none 0 0, .slice none 0 0] 35)) := (((Only.refl [] wo).alloc _).alloc _).alloc _
        have V13 : OwnF (((wo.alloc (.cells #[.int .i64 kd, .int .u32 nn, .slice tA tx.length tc, .slice lA ls.length lc] 35)).alloc (.cells #[.int .i64 kd, .int .u32 nn, .slice none 0 0, .slice none 0 0] 35)).alloc (.cells #[.int .i64 kd, .int .u32 nn, .slice none 0 0, .slice none 0 0] 35)) w1.heap.size v gs := V.far X13 (fun x hx => by simp at hx)
        have B13 : Blk (((wo.alloc (.cells #[.int .i64 kd, .int .u32 nn, .slice tA tx.length tc, .slice lA ls.length lc] 35)).alloc (.cells #[.int .i64 kd, .int .u32 nn, .slice none 0 0, .slice none 0 0] 35)).alloc (.cells #[.int .i64 kd, .int .u32 nn, .slice none 0 0, .slice none 0 0] 35)) (wo.heap.size + 2) 35 (FD.cells ⟨kd, nn, none, 0, [], none, 0, []⟩) := by
          have := Blk.new ((wo.alloc (.cells #[.int .i64 kd, .int .u32 nn, .slice tA tx.length tc, .slice lA ls.length lc] 35)).alloc (.cells #[.int .i64 kd, .int .u32 nn, .slice none 0 0, .slice none 0 0] 35)) 35 [.int .i64 kd, .int .u32 nn, .slice none 0 0, .slice none 0 0]
          rw [show ((wo.alloc (.cells #[.int .i64 kd, .int .u32 nn, .slice tA tx.length tc, .slice lA ls.length lc] 35)).alloc (.cells #[.int .i64 kd, .int .u32 nn, .slice none 0 0, .slice none 0 0] 35)).heap.size = wo.heap.size + 2 by simp] at this
          exact this
        have hbase : w1.heap.size ≤ (((wo.alloc (.cells #[.int .i64 kd, .int .u32 nn, .slice tA tx.length tc, .slice lA ls.length lc] 35)).alloc (.cells #[.int .i64 kd, .int .u32 nn, .slice none 0 0, .slice none 0 0] 35)).alloc (.cells #[.int .i64 kd, .int .u32 nn, .slice none 0 0, .slice none 0 0] 35)).heap.size := Nat.le_trans z0 X13.size
        have hokg : FD.ok w1 ⟨kd, nn, none, 0, [], none, 0, []⟩ := ⟨RdG.nil, RdG.nil, by simp, by simp, by simp, by simp, by simp⟩
        have hpg : FD.pf ⟨kd, nn, none, 0, [], none, 0, []⟩ = ownP ⟨kd, nn, tx, ls⟩ := by
          unfold FD.pf ownP
          simp [h4, h5, h6]
        replace hokg := hide hokg
        replace hpg := hide hpg
        go_wp2_with (at_builtin; go_must (refine wpList_appF rfl (.tmp 33) (.tmp 35) rfl w1.heap.size v gs rfl V13 (wo.heap.size + 2) ⟨kd, nn, none, 0, [], none, 0, []⟩ rfl B13 (by have := hgl.out; omega) hbase ?_; intro A14 k14 w14 V14 P14 G14))
        go_roundw
        case rel =>
          refine ⟨k + 1, _, gs ++ [⟨kd, nn, none, 0, [], none, 0, []⟩], by omega, by go_num, rfl, ?_, V14.out, ?_, (O.trans X13 (by simp)).trans P14 (fun x hx => .inr (hob x (by simpa using hx)).1)⟩
          · rw [hgs2.out, List.map_append, List.map_cons, List.map_nil, hpg.out]
          · intro g hg
            rcases List.mem_append.1 hg with hg | hg
            · exact M g hg
            · simp only [List.mem_singleton] at hg
              rw [hg]
              exact hokg.out
        case measure => simp [intOf]; omega
    · obtain rfl : k = n := by omega
      rw [List.take_of_length_le (by have := hxl.out; omega), hxs.out] at hgs
      obtain ⟨A', cap, rfl, _, _, _⟩ := V.form
      have hA := V.rdF (fun g hg => ⟨(M g hg).only O, by
        have hp : g.pf ∈ (fs.map FD.pf).map ownP := by rw [← hgs]; exact List.mem_map_of_mem hg
        obtain ⟨p, hp, e⟩ := List.mem_map.1 hp
        obtain ⟨f, hf, rfl⟩ := List.mem_map.1 hp
        have hr := hrange.out f hf
        have e2 : (ownP f.pf).n = g.n := congrArg PF.n e
        rw [← e2]
        unfold ownP
        dsimp only
        split
        · exact ⟨Int.le_refl 0, show (0 : Int) ≤ 4294967295 by decide⟩
        · exact hr⟩)
      rw [hgl]
      replace hgl := hide hgl
      replace hgs := hide hgs
      go_wp2
      go_ret
      exact ⟨P1.trans O (by simp), A', cap, gs, rfl, hgs.out, hA⟩
end Go.Proofs.YtdmjabfjkkjhbaaDoor
