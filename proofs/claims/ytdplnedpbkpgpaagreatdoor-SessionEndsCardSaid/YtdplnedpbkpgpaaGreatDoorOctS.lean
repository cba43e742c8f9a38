/- Layer 1: Write; for all fields (of a number that the laws ask), no condition. -/
import Derived.Test.YtdplnedpbkpgpaaGreatDoorOctR
import Derived.Deep.OwnRows
namespace Go.Proofs.YtdplnedpbkpgpaaGreatDoor
set_option linter.all false
open Go.RowKit

/-- Fields that are read. -/
structure RdF (w : World) (A : Option Addr) (fs : List FD) : Prop where
  cells : 0 < fs.length → ∃ b off, A = some ⟨b, off, none⟩ ∧ b < w.heap.size ∧ ∀ i f, fs[i]? = some f →
    w.cell? ⟨b, off + i * 4, none⟩ = some (.int .i64 f.kind) ∧ w.cell? ⟨b, off + i * 4 + 1, none⟩ = some (.int .u32 f.n) ∧ w.cell? ⟨b, off + i * 4 + 2, none⟩ = some (.slice f.tA f.text.length f.tc) ∧ w.cell? ⟨b, off + i * 4 + 3, none⟩ = some (.slice f.lA f.list.length f.lc)
  ok : ∀ f ∈ fs, f.ok w ∧ 0 ≤ f.n ∧ f.n ≤ 4294967295
theorem RdF.only {w w' : World} {A : Option Addr} {fs : List FD} (h : RdF w A fs) (hb : Only [] w w') : RdF w' A fs := by
  refine ⟨fun h0 => ?_, fun f hf => ⟨(h.ok f hf).1.only hb, (h.ok f hf).2⟩⟩
  obtain ⟨b, off, rfl, hlt, hc⟩ := h.cells h0
  refine ⟨b, off, rfl, Nat.lt_of_lt_of_le hlt hb.size, fun i f hi => ?_⟩
  obtain ⟨c0, c1, c2, c3⟩ := hc i f hi
  exact ⟨cellL hb hlt (by simp) c0, cellL hb hlt (by simp) c1, cellL hb hlt (by simp) c2, cellL hb hlt (by simp) c3⟩

def ints (l : List Int) : List Value := l.map (.int .i64)
theorem intInfo : (Tryz.prog.info? 3).map (fun i => (i.zero, i.size, i.bytes)) = some (some (.int .i64 0), 1, 8) := by kernel_rfl
theorem make_ints (k : Nat) (hk : k ≤ 1000) (W : World) : (Instr.makeSlice 109 (.int .i64 (k : Int)) (.int .i64 (k : Int))).run Tryz.prog W = .ok (.slice (some ⟨W.heap.size, 0, none⟩) k k) (W.alloc (.cells (ints (List.replicate k 0)).toArray 3)) := by
  have h := run_make_row' (P := Tryz.prog) 109 3 (.int .i64 0) 8 Tryz.underlying109 intInfo rfl .i64 .i64 k (by omega) (by omega) W
  have e : madeCells #[.int .i64 0] k = (ints (List.replicate k 0)).toArray := by
    apply Array.ext
    · simp [madeCells, ints]
    · intro i h1 h2
      simp [madeCells, ints, Nat.mod_one]
  rw [e] at h
  exact h
theorem take_set {cs : List Int} {k : Nat} (x : Int) (h : k < cs.length) : (cs.set k x).take (k + 1) = cs.take k ++ [x] := by
  rw [List.take_add_one, List.getElem?_set_self h, List.take_set_of_le (Nat.le_refl _)]
  rfl

def WritePost (w : World) (res : Int × List Int) : Ending → World → Prop := fun E w' =>
  Only [] w w' ∧ ∃ v, E = .returned (.tuple #[v, .int .i64 res.1]) ∧ OwnB w' w.heap.size v res.2
theorem writePost_none (w w' : World) (e : Int) (h : Only [] w w') : WritePost w (e, []) (.returned (.tuple #[.slice none 0 0, .int .i64 e])) w' := ⟨h, _, rfl, ownB_nil _ _⟩

/-- Where Write's loop stands: k fields are written, as acc. -/
structure WL (w wr : World) (q : Nat) (fs : List FD) (res : Int × List Int) (k : Nat) (v : Value) (acc : List Int) : Prop where
  res : res = writeFrom ((fs.drop k).map FD.pf) acc
  own : WrV wr (q + 1) (q + 2) v acc
  few : acc.length ≤ 33792
  tab : Blk wr q 158 tab.toList
  only : Only [] w wr
  low : w.heap.size ≤ q

set_option maxRecDepth 100000 in
set_option maxHeartbeats 3200000 in
theorem write_any (w : World) (A : Option Addr) (fs : List FD) (c : Nat) (h : RdF w A fs) (hn1 : fs.length ≤ 1000) :
    Calls Tryz.prog 42 #[.slice A fs.length c] w (WritePost w (writeP (fs.map FD.pf))) := by
  obtain ⟨n, hn⟩ : ∃ n, n = fs.length := ⟨_, rfl⟩
  rw [← hn] at hn1 ⊢
  obtain ⟨res, hres⟩ : ∃ res, writeP (fs.map FD.pf) = res := ⟨_, rfl⟩
  rw [hres]
  replace hres := hide hres
  replace hn := hide hn
  have hmk := make_ints n hn1
  go_enter Tryz.func42, Tryz.ntmps42
  go_wp2_with fail
  go_loopw [17] (fun i wr => ∃ (k : Nat) (cs : List Int), k ≤ n ∧ i = .int .i64 k ∧ cs.length = n ∧ cs.take k = (fs.take k).map (·.kind) ∧ Blk wr w.heap.size 3 (ints cs) ∧ Only [] w wr) (fun i _ => n - (intOf i).toNat)
  case atStart => exact ⟨0, List.replicate n 0, by omega, rfl, by simp, rfl, Blk.new w _ _, (Only.refl _ _).alloc _⟩
  case round =>
    obtain ⟨wo, rfl⟩ : ∃ wo : World, wo = wr := ⟨_, rfl⟩
    obtain ⟨k, cs, hk, rfl, hcs, htk, B, O⟩ := hrel
    by_cases hlt : k < n
    · obtain ⟨f, hf⟩ : ∃ f, fs[k]? = some f := ⟨_, List.getElem?_eq_getElem (by have := hn.out; omega)⟩
      obtain ⟨b, off, rfl, hb, hc⟩ := (h.only O).cells (by have := hn.out; omega)
      obtain ⟨c0, c1, c2, c3⟩ := hc k f hf
      have hq := B.lt
      have hqk : wo.cell? ⟨w.heap.size, k, none⟩ = some (.int .i64 (cs.getD k 0)) := by
        rw [B.cell k]
        simp [ints, List.getElem?_eq_getElem (show k < cs.length by omega)]
      have hfk := B.frozen k
      obtain ⟨kd, nn, tA, tc, tx, lA, lc, ls⟩ := f
      dsimp only at c0 c1 c2 c3
      replace htk := hide htk
      replace hcs := hide hcs
      replace hf := hide hf
      clear hc
      go_wp2_with fail
      go_roundw
      case rel =>
        refine ⟨k + 1, cs.set k kd, by omega, by go_num, by rw [List.length_set]; exact hcs.out, ?_, ?_, ?_⟩
        · rw [take_set _ (by rw [hcs.out]; exact hlt), htk.out, take_snocG hf.out, List.map_append]
          rfl
        · have := (B.set_ k (.int .i64 kd)).alloc (.cells #[.int .i64 kd, .int .u32 nn, .slice tA tx.length tc, .slice lA ls.length lc] 123)
          rw [ints, List.map_set]
          exact this
        · exact (O.setCell (p := ⟨w.heap.size, k, none⟩) (.inr (Nat.le_refl _)) _).alloc _
      case measure => simp [intOf]; omega
    · obtain rfl : k = n := by omega
      have hks : cs = (fs.map FD.pf).map (·.kind) := by
        rw [List.take_of_length_le (by omega), List.take_of_length_le (by have := hn.out; omega)] at htk
        rw [htk]
        simp [FD.pf]
      have RW := row_any (some ⟨w.heap.size, 0, none⟩) cs k wo (fun _ => ⟨w.heap.size, 0, rfl, B.lt, fun i x hx => by
        rw [Nat.zero_add, B.cell i]
        simp [ints, hx]⟩) (by unfold maxLen; omega)
      rw [hcs] at RW
      have hB := B.lt
      replace hks := hide hks
      replace hcs := hide hcs
      clear htk
      by_cases hr : rowOk cs = true
      · rw [hr] at RW
        have hres1 : res = writeFrom (fs.map FD.pf) [] := by
          rw [← hres.out]
          unfold writeP
          rw [← hks.out, if_pos hr]
        replace hr := hide hr
        replace hres1 := hide hres1
        go_wp2_with fail
        go_call RW as e w1 ⟨rfl, rfl⟩
        clear RW
        go_wp2_with fail
        go_call (sorts_any wo) as e w1 ⟨rfl, P1⟩
        have hz := heap_alloc_new w1 (.cells (Array.replicate 21 Value.nilFunc) 158)
        go_wp2_with (refine wpList_store_row rfl 158 (.tmp 7) (.tmp 31) rfl w1.heap.size tab rfl rfl 158 (Array.replicate 21 Value.nilFunc) hz (by kernel_rfl) (by kernel_rfl) (by kernel_rfl) ?_)
        have z1 := P1.size
        go_loopw [36] (fun i wr => ∃ (kk : Nat) (v : Value) (acc : List Int), kk ≤ k ∧ i = .int .i64 kk ∧ WL w wr w1.heap.size fs res kk v acc) (fun i _ => k - (intOf i).toNat)
        case atStart =>
          have Z := blk_setRow (Blk.new w1 158 (List.replicate 21 Value.nilFunc)) tab.toList
          have O2 : Only [] w1 ((w1.alloc (.cells (Array.replicate 21 Value.nilFunc) 158)).setRow w1.heap.size tab) := ((Only.refl [] w1).alloc _).trans (only_setRow _ _ _) (by simp)
          have O3 := O2.alloc (.cells #[.slice none 0 0] 162)
          have hs2 : ((w1.alloc (.cells (Array.replicate 21 Value.nilFunc) 158)).setRow w1.heap.size tab).heap.size = w1.heap.size + 1 := by simp
          have B3 := Blk.new ((w1.alloc (.cells (Array.replicate 21 Value.nilFunc) 158)).setRow w1.heap.size tab) 162 [.slice none 0 0]
          rw [hs2] at B3
          have O4 := (O.trans P1 (by simp)).trans O3 (by simp)
          have zo := O.size
          refine ⟨0, .slice none 0 0, [], by omega, rfl, ⟨by simpa using hres1.out, ⟨B3, ownB_nil _ _, by omega, by simp⟩, by simp, Blk.alloc Z _, O4, by omega⟩⟩
        case round =>
          clear hz P1
          obtain ⟨wb, rfl⟩ : ∃ wb : World, wb = wo := ⟨_, rfl⟩
          obtain ⟨wo, rfl⟩ : ∃ wo : World, wo = wr := ⟨_, rfl⟩
          obtain ⟨kk, v, acc, hkk, rfl, H⟩ := hrel
          obtain ⟨q, hq⟩ : ∃ q, q = w1.heap.size := ⟨_, rfl⟩
          rw [← hq] at H ⊢
          replace hq := hide hq
          by_cases hlt2 : kk < k
          · obtain ⟨f, hf⟩ : ∃ f, fs[kk]? = some f := ⟨_, List.getElem?_eq_getElem (by have := hn.out; omega)⟩
            have hfm : f ∈ fs := List.mem_of_getElem? hf
            obtain ⟨b, off, rfl, hb, hc⟩ := (h.only H.only).cells (by have := hn.out; omega)
            obtain ⟨e0, e1, e2, e3⟩ := hc kk f hf
            obtain ⟨fok, fn1⟩ := (h.only H.only).ok f hfm
            obtain ⟨x1, x6⟩ := rowOk_at (i := kk) (k := f.kind) hr.out (by rw [hks.out]; simp [hf, FD.pf])
            have fold := (h.ok f hfm).1
            have hqlow := H.low
            have hob := H.own.own.block
            have ffar : f.far (q + 1) v := ⟨fun a ha h0 => ⟨by have := fold.tlt a ha h0; omega, fun hv => by have h1 := fold.tlt a ha h0; have h2 := hob _ hv; omega⟩, fun a ha h0 => ⟨by have := fold.llt a ha h0; omega, fun hv => by have h1 := fold.llt a ha h0; have h2 := hob _ hv; omega⟩⟩
            have hdrop : fs.drop kk = f :: fs.drop (kk + 1) := by
              have hki : kk < fs.length := by have := hn.out; omega
              rw [List.drop_eq_getElem_cons hki]
              congr 1
              rw [List.getElem?_eq_getElem hki] at hf
              injection hf
            have hres2 := H.res
            rw [hdrop, List.map_cons] at hres2
            unfold writeFrom at hres2
            obtain ⟨j, hj⟩ := Int.eq_ofNat_of_zero_le (show 0 ≤ f.kind by omega)
            obtain ⟨F, G, hF, hG, hcF, hcG, hCF, hCG⟩ := kindW_any j (by omega) (by omega)
            have ctF : wo.cell? ⟨q, j * 3, none⟩ = some (.func (Fn.func F) #[] #[]) := by
              rw [H.tab.cell]
              simpa using hF
            have ctG : wo.cell? ⟨q, j * 3 + 1, none⟩ = some (.func (Fn.func G) #[] #[]) := by
              rw [H.tab.cell]
              simpa using hG
            have hj7 : j < 7 := by omega
            obtain ⟨w5, hw5⟩ : ∃ w5, w5 = wo.alloc (.cells #[.int .i64 f.kind, .int .u32 f.n, .slice f.tA f.text.length f.tc, .slice f.lA f.list.length f.lc] 123) := ⟨_, rfl⟩
            have P5 : Only [] wo w5 := by rw [hw5]; exact (Only.refl _ _).alloc _
            have K5 : Blk w5 wo.heap.size 123 f.cells := by rw [hw5]; exact Blk.new wo _ _
            have CF := hCF w5.drew f hj (fok.only P5.drew)
            have hCG' : ∀ w6, Only [] w5 w6 → faultP f.pf = 0 → Calls Tryz.prog G #[.pointer (some ⟨q + 1, 0, none⟩), f.val] w6 (WPost w6 (q + 1) (q + 2) v (acc ++ bytesP f.pf)) := fun w6 P6 h0 =>
              hCG w6 f (q + 1) (q + 2) v acc hj ((fok.only P5).only P6) h0 ffar fn1 ((H.own.only P5 (by simp) (by simp)).only P6 (by simp) (by simp)) H.few
            have c0 : w5.cell? ⟨wo.heap.size, 0, none⟩ = some (.int .i64 f.kind) := K5.cell 0
            have c1 : w5.cell? ⟨wo.heap.size, 1, none⟩ = some (.int .u32 f.n) := K5.cell 1
            have c2 : w5.cell? ⟨wo.heap.size, 2, none⟩ = some (.slice f.tA f.text.length f.tc) := K5.cell 2
            have c3 : w5.cell? ⟨wo.heap.size, 3, none⟩ = some (.slice f.lA f.list.length f.lc) := K5.cell 3
            have hql := H.tab.lt
            have ctF5 : w5.cell? ⟨q, j * 3, none⟩ = some (.func (Fn.func F) #[] #[]) := cellL P5 hql (by simp) ctF
            rw [hj] at e0 hw5 c0
            unfold FD.val at CF
            rw [hj] at CF
            have hI : (fun w' : World => w'.cell? ⟨wo.heap.size, 0, none⟩ = some (.int .i64 (j : Int)) ∧ w'.cell? ⟨wo.heap.size, 1, none⟩ = some (.int .u32 f.n) ∧ w'.cell? ⟨wo.heap.size, 2, none⟩ = some (.slice f.tA f.text.length f.tc) ∧ w'.cell? ⟨wo.heap.size, 3, none⟩ = some (.slice f.lA f.list.length f.lc) ∧ w'.cell? ⟨q, j * 3, none⟩ = some (.func (Fn.func F) #[] #[])) { w5 with drawn := w5.drawn + 1 } := ⟨c0, c1, c2, c3, ctF5⟩
            replace hj := hide hj
            replace hCG' := hide hCG'
            replace hres2 := hide hres2
            replace hdrop := hide hdrop
            replace hf := hide hf
            clear hc hF hG hCF hCG
            go_wp2_with fail
            rw [← hw5]
            replace hw5 := hide hw5
            refine wp_region_E (fun w' : World => w'.cell? ⟨wo.heap.size, 0, none⟩ = some (.int .i64 (j : Int)) ∧ w'.cell? ⟨wo.heap.size, 1, none⟩ = some (.int .u32 f.n) ∧ w'.cell? ⟨wo.heap.size, 2, none⟩ = some (.slice f.tA f.text.length f.tc) ∧ w'.cell? ⟨wo.heap.size, 3, none⟩ = some (.slice f.lA f.list.length f.lc) ∧ w'.cell? ⟨q, j * 3, none⟩ = some (.func (Fn.func F) #[] #[])) [6, 7] (by kernel_rfl) ?_
            refine wpAnyE_take 0 (v := (.pointer (some ⟨wo.heap.size, 0, none⟩))) rfl (by kernel_rfl) (fun _ _ _ h => h) hI (fun w' hw' => Or.inl ⟨by rfl, Or.inl (by obtain ⟨i0, i1, i2, i3, i4⟩ := hw'; go_simp)⟩) ?_
            refine wpAnyE_take 1 (v := (.int .i64 (j : Int))) rfl (by kernel_rfl) (fun _ _ _ h => h) hI (fun w' hw' => Or.inl ⟨by rfl, Or.inl (by obtain ⟨i0, i1, i2, i3, i4⟩ := hw'; go_simp)⟩) ?_
            refine wpAnyE_take 2 (v := (.pointer (some ⟨q, j * 3, none⟩))) rfl (by kernel_rfl) (fun _ _ _ h => h) hI (fun w' hw' => Or.inl ⟨by rfl, Or.inl (by obtain ⟨i0, i1, i2, i3, i4⟩ := hw'; go_simp; try (intro h7; exact absurd h7 (by omega)))⟩) ?_
            refine wpAnyE_take 3 (v := (.pointer (some ⟨q, j * 3, none⟩))) rfl (by kernel_rfl) (fun _ _ _ h => h) hI (fun w' hw' => Or.inl ⟨by rfl, Or.inl (by obtain ⟨i0, i1, i2, i3, i4⟩ := hw'; go_simp)⟩) ?_
            refine wpAnyE_take 4 (v := (.func (Fn.func F) #[] #[])) rfl (by kernel_rfl) (fun _ _ _ h => h) hI (fun w' hw' => Or.inl ⟨by rfl, Or.inl (by obtain ⟨i0, i1, i2, i3, i4⟩ := hw'; go_simp)⟩) ?_
            refine wpAnyE_take 5 (v := (.agg #[.int .i64 (j : Int), .int .u32 f.n, .slice f.tA f.text.length f.tc, .slice f.lA f.list.length f.lc])) rfl (by kernel_rfl) (fun _ _ _ h => h) hI (fun w' hw' => Or.inl ⟨by rfl, Or.inl (by obtain ⟨i0, i1, i2, i3, i4⟩ := hw'; go_simp)⟩) ?_
            refine wpAnyE_tail 6 [] [6, 7] rfl (by kernel_rfl) (by decide) hI ?_
            simp only [List.drop_succ_cons, List.drop_zero]
            refine wpListI_zero ?_
            go_wp2_with fail
            go_call CF as e w6 ⟨rfl, P6⟩
            have ctG6 : w6.cell? ⟨q, j * 3 + 1, none⟩ = some (.func (Fn.func G) #[] #[]) := cellL (P5.drew.trans P6 (by simp)) hql (by simp) ctG
            have K6 := (K5.drew).only P6 (by simp)
            have d0 : w6.cell? ⟨wo.heap.size, 0, none⟩ = some (.int .i64 (j : Int)) := by rw [← hj.out]; exact K6.cell 0
            have d1 : w6.cell? ⟨wo.heap.size, 1, none⟩ = some (.int .u32 f.n) := K6.cell 1
            have d2 : w6.cell? ⟨wo.heap.size, 2, none⟩ = some (.slice f.tA f.text.length f.tc) := K6.cell 2
            have d3 : w6.cell? ⟨wo.heap.size, 3, none⟩ = some (.slice f.lA f.list.length f.lc) := K6.cell 3
            have O6 : Only [] w w6 := H.only.trans (P5.drew.trans P6 (by simp)) (by simp)
            by_cases hE : faultP f.pf = 0
            · have hCG2 := hCG'.out w6.drew (((Only.refl [] w5).drew.trans P6 (by simp)).drew) hE
              have hres3 : res = if 33792 < (acc ++ bytesP f.pf).length then (6, []) else writeFrom ((fs.drop (kk + 1)).map FD.pf) (acc ++ bytesP f.pf) := by
                rw [hres2.out, if_neg (by simp [hE])]
              rw [hE]
              unfold FD.val at hCG2
              rw [hj.out] at hCG2
              have hE2 : ((0 : Int) != 0) = false := rfl
              obtain ⟨acc2, hacc⟩ : ∃ acc2, acc ++ bytesP f.pf = acc2 := ⟨_, rfl⟩
              rw [hacc] at hCG2 hres3
              replace hres3 := hide hres3
              have hI2 : (fun w' : World => w'.cell? ⟨wo.heap.size, 0, none⟩ = some (.int .i64 (j : Int)) ∧ w'.cell? ⟨wo.heap.size, 1, none⟩ = some (.int .u32 f.n) ∧ w'.cell? ⟨wo.heap.size, 2, none⟩ = some (.slice f.tA f.text.length f.tc) ∧ w'.cell? ⟨wo.heap.size, 3, none⟩ = some (.slice f.lA f.list.length f.lc) ∧ w'.cell? ⟨q, j * 3 + 1, none⟩ = some (.func (Fn.func G) #[] #[])) { w6 with drawn := w6.drawn + 1 } := ⟨d0, d1, d2, d3, ctG6⟩
              clear hres2 hCG' hacc
              go_wp2_with fail
              refine wp_region_E (fun w' : World => w'.cell? ⟨wo.heap.size, 0, none⟩ = some (.int .i64 (j : Int)) ∧ w'.cell? ⟨wo.heap.size, 1, none⟩ = some (.int .u32 f.n) ∧ w'.cell? ⟨wo.heap.size, 2, none⟩ = some (.slice f.tA f.text.length f.tc) ∧ w'.cell? ⟨wo.heap.size, 3, none⟩ = some (.slice f.lA f.list.length f.lc) ∧ w'.cell? ⟨q, j * 3 + 1, none⟩ = some (.func (Fn.func G) #[] #[])) [7] (by kernel_rfl) ?_
              refine wpAnyE_take 0 (v := (.pointer (some ⟨wo.heap.size, 0, none⟩))) rfl (by kernel_rfl) (fun _ _ _ h => h) hI2 (fun w' hw' => Or.inl ⟨by rfl, Or.inl (by obtain ⟨i0, i1, i2, i3, i4⟩ := hw'; go_simp; try (intro h7; exact absurd h7 (by omega)))⟩) ?_
              refine wpAnyE_take 1 (v := (.int .i64 (j : Int))) rfl (by kernel_rfl) (fun _ _ _ h => h) hI2 (fun w' hw' => Or.inl ⟨by rfl, Or.inl (by obtain ⟨i0, i1, i2, i3, i4⟩ := hw'; go_simp; try (intro h7; exact absurd h7 (by omega)))⟩) ?_
              refine wpAnyE_take 2 (v := (.pointer (some ⟨q, j * 3, none⟩))) rfl (by kernel_rfl) (fun _ _ _ h => h) hI2 (fun w' hw' => Or.inl ⟨by rfl, Or.inl (by obtain ⟨i0, i1, i2, i3, i4⟩ := hw'; go_simp; try (intro h7; exact absurd h7 (by omega)))⟩) ?_
              refine wpAnyE_take 3 (v := (.pointer (some ⟨q, j * 3 + 1, none⟩))) rfl (by kernel_rfl) (fun _ _ _ h => h) hI2 (fun w' hw' => Or.inl ⟨by rfl, Or.inl (by obtain ⟨i0, i1, i2, i3, i4⟩ := hw'; go_simp; try (intro h7; exact absurd h7 (by omega)))⟩) ?_
              refine wpAnyE_take 4 (v := (.func (Fn.func G) #[] #[])) rfl (by kernel_rfl) (fun _ _ _ h => h) hI2 (fun w' hw' => Or.inl ⟨by rfl, Or.inl (by obtain ⟨i0, i1, i2, i3, i4⟩ := hw'; go_simp; try (intro h7; exact absurd h7 (by omega)))⟩) ?_
              refine wpAnyE_take 5 (v := (.pointer (some ⟨q + 1, 0, none⟩))) rfl (by kernel_rfl) (fun _ _ _ h => h) hI2 (fun w' hw' => Or.inl ⟨by rfl, Or.inl (by obtain ⟨i0, i1, i2, i3, i4⟩ := hw'; go_simp; try (intro h7; exact absurd h7 (by omega)))⟩) ?_
              refine wpAnyE_take 6 (v := (.agg #[.int .i64 (j : Int), .int .u32 f.n, .slice f.tA f.text.length f.tc, .slice f.lA f.list.length f.lc])) rfl (by kernel_rfl) (fun _ _ _ h => h) hI2 (fun w' hw' => Or.inl ⟨by rfl, Or.inl (by obtain ⟨i0, i1, i2, i3, i4⟩ := hw'; go_simp; try (intro h7; exact absurd h7 (by omega)))⟩) ?_
              refine wpAnyE_tail 7 [] [7] rfl (by kernel_rfl) (by decide) hI2 ?_
              simp only [List.drop_succ_cons, List.drop_zero]
              refine wpListI_zero ?_
              go_wp2_with fail
              go_call hCG2 as e w7 ⟨rfl, v7, R7, M7⟩
              obtain ⟨A9, k9, rfl, G9, q9, m9, a9⟩ := R7.own.rd
              have O7 : Only [] w w7 := (O6.drew).trans M7.1 (fun x hx => by
                right
                rcases List.mem_cons.1 hx with rfl | hx
                · omega
                · have := hob x (by simpa using hx); omega)
              have B7 : Blk w7 q 158 tab.toList := (((H.tab.only P5 (by simp)).drew.only P6 (by simp)).drew).only M7.1 (fun hm => by
                rcases List.mem_cons.1 hm with hm | hm
                · omega
                · have := hob q (by simpa using hm); omega)
              have g0 : w7.cell? ⟨q + 1, 0, none⟩ = some (.slice A9 acc2.length k9) := R7.blk.cell 0
              obtain ⟨LL, hLL⟩ : ∃ LL, acc2.length = LL := ⟨_, rfl⟩
              rw [hLL] at g0 q9
              by_cases hbig : 33792 < LL
              · have hfin : res = (6, []) := by rw [hres3.out, if_pos (by omega)]
                have hb3 : (33792 : Int) < (LL : Int) := by omega
                replace hfin := hide hfin
                replace hLL := hide hLL
                clear hres3
                go_wp2_with fail
                go_ret2
                rw [hfin.out]
                exact writePost_none _ _ _ O7
              · have hfin : res = writeFrom ((fs.drop (kk + 1)).map FD.pf) acc2 := by rw [hres3.out, if_neg (by omega)]
                have hb3 : ¬ (33792 : Int) < (LL : Int) := by omega
                replace hfin := hide hfin
                replace hLL := hide hLL
                clear hres3
                go_wp2_with fail
                go_roundw
                case rel => exact ⟨kk + 1, _, acc2, by omega, by go_num, ⟨hfin.out, R7, by rw [hLL.out]; omega, B7, O7, hqlow⟩⟩
                case measure => simp [intOf]; omega
            · have hE2 : (faultP f.pf != 0) = true := by simpa using hE
              have hfin : res = (faultP f.pf, []) := by rw [hres2.out, if_pos hE]
              replace hfin := hide hfin
              clear hres2 hCG'
              go_wp2_with fail
              go_ret2
              rw [hfin.out]
              exact writePost_none _ _ _ O6
          · have hkk3 : kk = k := by omega
            subst hkk3
            have hres2 := H.res
            rw [List.drop_eq_nil_of_le (by have := hn.out; omega)] at hres2
            have hres3 : res = (0, acc) := hres2
            replace hres3 := hide hres3
            clear hres2
            obtain ⟨A9, k9, rfl, G9, q9, m9, a9⟩ := H.own.own.rd
            have g0 : wo.cell? ⟨q + 1, 0, none⟩ = some (.slice A9 acc.length k9) := H.own.blk.cell 0
            have hqlow := H.low
            go_wp2_with fail
            go_ret2
            rw [hres3.out]
            exact ⟨H.only, _, rfl, H.own.own.mono (by omega)⟩
      · have hr' : rowOk cs = false := by simpa using hr
        rw [hr'] at RW
        have hres1 : res = (2, []) := by
          rw [← hres.out]
          unfold writeP
          rw [← hks.out, if_neg hr]
        clear hr hr'
        replace hres1 := hide hres1
        go_wp2_with fail
        go_call RW as e w1 ⟨rfl, rfl⟩
        go_wp2_with fail
        go_ret2
        rw [hres1.out]
        exact writePost_none _ _ _ O
end Go.Proofs.YtdplnedpbkpgpaaGreatDoor
