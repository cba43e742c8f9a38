/- Layer 4: Encode; no condition but the sizes that can be. -/
import Derived.Test.YtdplnedpbkpgpaaGreatDoorReqG
import Derived.Test.YtdplnedpbkpgpaaGreatDoorReqD
namespace Go.Proofs.YtdplnedpbkpgpaaGreatDoor
set_option linter.all false
open Go.RowKit

/-- What Encode hands on. -/
def EncPost (w : World) (m : RQ) : Ending → World → Prop := fun e w' => Only [] w w' ∧ ∃ v, e = .returned (.tuple #[.string (encName m), v, .int .i64 (encR m).1]) ∧ OwnB w' w.heap.size v (encR m).2
theorem fcells_set : ∀ (fs : List FD) (i : Nat) (f : FD) (x : Int), fs[i]? = some f → (fcells fs).set (i * 4) (.int .i64 x) = fcells (fs.set i { f with kind := x })
  | [], i, f, x, h => by simp at h
  | g :: fs, 0, f, x, h => by
    simp at h
    subst h
    rfl
  | g :: fs, i + 1, f, x, h => by
    simp at h
    have ih := fcells_set fs i f x h
    unfold fcells at ih ⊢
    rw [List.set_cons_succ, List.flatMap_cons, List.flatMap_cons, ← ih]
    have e : (i + 1) * 4 = g.cells.length + i * 4 := by simp [FD.cells]; omega
    rw [e, List.set_append_right _ _ (by omega)]
    congr 2
    omega
theorem ownF_set {w : World} {base g cap n : Nat} {fs : List FD} (hn : fs.length = n) (h : OwnF w base (.slice (some ⟨g, 0, none⟩) n cap) fs) (i : Nat) (f : FD) (x : Int) (hi : fs[i]? = some f) :
    OwnF (w.setCell ⟨g, i * 4, none⟩ (.int .i64 x)) base (.slice (some ⟨g, 0, none⟩) n cap) (fs.set i { f with kind := x }) := by
  subst hn
  have := (World.ownsRow.stored h (i * 4) (.int .i64 x)).1
  show World.ownsRow _ _ _ _ _ _ _
  rw [List.length_set, ← fcells_set fs i f x hi]
  exact this
theorem ownF_at {w : World} {base g cap n : Nat} {fs : List FD} (hn : fs.length = n) (h : OwnF w base (.slice (some ⟨g, 0, none⟩) n cap) fs) (i : Nat) (f : FD) (hi : fs[i]? = some f) :
    w.cell? ⟨g, i * 4, none⟩ = some (.int .i64 f.kind) ∧ w.frozen? ⟨g, i * 4, none⟩ = false := by
  subst hn
  have hl : i < fs.length := (List.getElem?_eq_some_iff.1 hi).1
  refine ⟨?_, World.ownsRow.frozenAt h _⟩
  rw [World.ownsRow.cellAt h (i * 4) (by omega), ← Nat.add_zero (i * 4), fcells_at fs i f 0 hi (by decide)]
  rfl
theorem ok_setC {w : World} {f : FD} {g i n cap : Nat} {u : Value} (h : FD.ok w f) (ho : f.off (.slice (some ⟨g, 0, none⟩) n cap)) : FD.ok (w.setCell ⟨g, i, none⟩ u) f := by
  have P : Only [g] w (w.setCell ⟨g, i, none⟩ u) := (Only.refl [g] w).setCell (p := ⟨g, i, none⟩) (.inl (by simp)) u
  exact { h with text := h.text.onlyL P (fun a ha h0 hx => ho.1 a ha h0 (by simp at hx; rw [hx]; rfl)), list := h.list.onlyL P (fun a ha h0 hx => ho.2 a ha h0 (by simp at hx; rw [hx]; rfl)) }
theorem set_mid {α : Type} (l m : List α) (k : Nat) (x : α) (hl : l.length = m.length) (hx : l[k]? = some x) : (l.take k ++ m.drop k).set k x = l.take (k + 1) ++ m.drop (k + 1) := by
  have hk : k < l.length := (List.getElem?_eq_some_iff.1 hx).1
  rw [List.set_append_right _ _ (by simp; omega)]
  have e : k - (l.take k).length = 0 := by simp; omega
  rw [e, List.drop_eq_getElem_cons (by omega : k < m.length), List.set_cons_zero, List.take_succ, hx]
  simp
/-- The fields with the first kinds set. -/
def MidP (m : RQ) (k i : Nat) : List PF := (partsR m k).take i ++ ((partsR m k).map (fun p => { p with kind := 0 })).drop i
theorem mid_step (m : RQ) (k i : Nat) (p : PF) (hp : (partsR m k)[i]? = some p) (fs : List FD) (f : FD) (hf : fs[i]? = some f) (h : fs.map FD.pf = MidP m k i) : (fs.set i { f with kind := p.kind }).map FD.pf = MidP m k (i + 1) := by
  have hil : i < (partsR m k).length := (List.getElem?_eq_some_iff.1 hp).1
  rw [List.map_set, h]
  unfold MidP
  have hfp : FD.pf { f with kind := p.kind } = p := by
    have e1 : (fs.map FD.pf)[i]? = some f.pf := by rw [List.getElem?_map, hf]; rfl
    rw [h] at e1
    unfold MidP at e1
    rw [List.getElem?_append_right (by simp; omega), List.getElem?_drop] at e1
    have e2 : i + (i - ((partsR m k).take i).length) = i := by simp; omega
    rw [e2, List.getElem?_map, hp] at e1
    have e3 : f.pf = { p with kind := 0 } := by simpa using e1.symm
    have n1 : f.n = p.n := congrArg PF.n e3
    have n2 : f.text = p.text := congrArg PF.text e3
    have n3 : f.list = p.list := congrArg PF.list e3
    unfold FD.pf
    dsimp only
    rw [n1, n2, n3]
  rw [hfp]
  exact set_mid _ _ i p (by simp) hp
theorem mid0 {m : RQ} {k : Nat} {fs : List FD} (h : fs.map FD.pf = (partsR m k).map (fun p => { p with kind := 0 })) : fs.map FD.pf = MidP m k 0 := by
  rw [h]
  rfl
theorem mid_end (m : RQ) (k n : Nat) (h : (partsR m k).length = n) : MidP m k n = partsR m k := by
  unfold MidP
  rw [List.take_of_length_le (by omega), List.drop_of_length_le (by simp; omega), List.append_nil]
theorem mem_set {α : Type} {l : List α} {i : Nat} {x : α} {P : α → Prop} (h : ∀ y ∈ l, P y) (hx : P x) : ∀ y ∈ l.set i x, P y := fun y hy => by
  rcases List.mem_or_eq_of_mem_set hy with h1 | rfl
  · exact h y h1
  · exact hx
theorem encR_none {m : RQ} (h : ¬ (1 ≤ m.kind ∧ m.kind ≤ 10)) : encR m = (8, []) := if_neg h
theorem encR_ask {m : RQ} {k : Nat} (h1 : 1 ≤ k) (h2 : k ≤ 10) (hk : m.kind = k) (h : askR m k ≠ 0) : encR m = (askR m k, []) := by
  unfold encR
  rw [hk, Int.toNat_natCast, if_pos (by omega), if_pos h]
theorem encR_go {m : RQ} {k : Nat} (h1 : 1 ≤ k) (h2 : k ≤ 10) (hk : m.kind = k) (h : askR m k = 0) : encR m = writeP (partsR m k) := by
  unfold encR
  rw [hk, Int.toNat_natCast, if_pos (by omega), if_neg (by simpa using h)]
theorem encName_bad {m : RQ} (h : (encR m).1 ≠ 0) : encName m = ⟨#[]⟩ := if_neg h
theorem encName_ok {m : RQ} {k : Nat} (hk : m.kind = k) (h : (encR m).1 = 0) : encName m = rname k := by
  unfold encName
  rw [if_pos h, hk, Int.toNat_natCast]
theorem encPost_bad (w w' : World) (m : RQ) (E : Int) (h : encR m = (E, [])) (hE : E ≠ 0) (P : Only [] w w') : EncPost w m (.returned (.tuple #[.string ⟨#[]⟩, .slice none 0 0, .int .i64 E])) w' := by
  unfold EncPost
  rw [encName_bad (by rw [h]; exact hE), h]
  exact ⟨P, _, rfl, ownB_nil _ _⟩
set_option maxRecDepth 100000 in
set_option maxHeartbeats 6400000 in
theorem rencode_any (m : RQ) (w : World) (hm : m.ok w) (hs : m.text.size ≤ 140737488355328) (hv : m.value.size ≤ 140737488355328) (hl : m.lang.size ≤ 140737488355328) : Calls Tryz.prog 20 #[m.val] w (EncPost w m) := by
  obtain ⟨w1, hw1⟩ : ∃ w1, w1 = w.alloc (.cells #[.int .i64 m.kind, .string m.text, .string m.value, .string m.lang, .int .u32 m.cols, .int .u32 m.rows, .int .u32 m.width, .int .u32 m.height, .slice m.mA m.modes.length m.mc, .bool m.on, .int .u32 m.code] 63) := ⟨_, rfl⟩
  have P1 : Only [] w w1 := by rw [hw1]; exact (Only.refl _ _).alloc _
  have K1 : Blk w1 w.heap.size 63 m.cells := by rw [hw1]; exact Blk.new w _ _
  unfold RQ.val
  by_cases hk : 1 ≤ m.kind ∧ m.kind ≤ 10
  · obtain ⟨k, hkk⟩ := Int.eq_ofNat_of_zero_le (show 0 ≤ m.kind by omega)
    have h1 : 1 ≤ k := by omega
    have h2 : k ≤ 10 := by omega
    have OF := rof_any k h1 h2 w1
    rw [← hkk] at OF
    obtain ⟨F1, hF1, cF1, C1⟩ := rget_any k h1 h2
    obtain ⟨F3, hF3, cF3, C3⟩ := ask_any k h1 h2
    have hen : askR m k = 0 → encR m = writeP (partsR m k) := encR_go h1 h2 hkk
    have hea : askR m k ≠ 0 → encR m = (askR m k, []) := encR_ask h1 h2 hkk
    have hnk : (encR m).1 = 0 → encName m = rname k := encName_ok hkk
    obtain ⟨n, hn⟩ : ∃ n, (rkinds k).length = n := ⟨_, rfl⟩
    obtain ⟨nm, hnm⟩ : ∃ nm, rname k = nm := ⟨_, rfl⟩
    obtain ⟨F2, hF2⟩ : ∃ F, rput k = F := ⟨_, rfl⟩
    obtain ⟨E0, hE0⟩ : ∃ E, askR m k = E := ⟨_, rfl⟩
    rw [hE0] at hen hea
    have hpk := parts_kinds m k h1 h2
    have hn10 : n ≤ 10 := by rw [← hn]; rcases k10 h1 h2 with rfl | rfl | rfl | rfl | rfl | rfl | rfl | rfl | rfl | rfl <;> decide
    have hpl : (partsR m k).length = n := by rw [← hn, ← hpk, List.length_map]
    replace hen := hide hen
    replace hea := hide hea
    replace hnk := hide hnk
    replace hpl := hide hpl
    replace hpk := hide hpk
    replace hkk := hide hkk
    replace C1 := hide C1
    replace C3 := hide C3
    replace hk := hide hk
    go_enter Tryz.func20, Tryz.ntmps20
    go_wp2_with fail
    rw [← hw1]
    replace hw1 := hide hw1
    go_call OF as e w2 ⟨P2, KA, rfl, R2⟩
    clear OF
    unfold ruleV rfn
    rw [hn, hF1, hF2, hF3, hnm]
    replace hn := hide hn
    replace hF1 := hide hF1
    replace hF2 := hide hF2
    replace hF3 := hide hF3
    replace hnm := hide hnm
    have K2 := K1.only P2 (by simp)
    have Q2 : Only [] w w2 := P1.trans P2 (by simp)
    have B3 : Blk (w2.alloc (.cells #[.string nm, .slice KA n n, .func (Fn.func F1) #[] #[], .func (Fn.func F2) #[] #[], .func (Fn.func F3) #[] #[]] 114)) w2.heap.size 114 [.string nm, .slice KA n n, .func (Fn.func F1) #[] #[], .func (Fn.func F2) #[] #[], .func (Fn.func F3) #[] #[]] := Blk.new _ _ _
    have P3 : Only [] w2 (w2.alloc (.cells #[.string nm, .slice KA n n, .func (Fn.func F1) #[] #[], .func (Fn.func F2) #[] #[], .func (Fn.func F3) #[] #[]] 114)) := (Only.refl _ _).alloc _
    have z3 : (w2.alloc (.cells #[.string nm, .slice KA n n, .func (Fn.func F1) #[] #[], .func (Fn.func F2) #[] #[], .func (Fn.func F3) #[] #[]] 114)).heap.size = w2.heap.size + 1 := by simp
    obtain ⟨w3, hw3⟩ : ∃ w3, w3 = w2.alloc (.cells #[.string nm, .slice KA n n, .func (Fn.func F1) #[] #[], .func (Fn.func F2) #[] #[], .func (Fn.func F3) #[] #[]] 114) := ⟨_, rfl⟩
    rw [← hw3] at B3 P3 z3
    have B4 := B3.alloc (.cells #[.int .i64 m.kind, .string m.text, .string m.value, .string m.lang, .int .u32 m.cols, .int .u32 m.rows, .int .u32 m.width, .int .u32 m.height, .slice m.mA m.modes.length m.mc, .bool m.on, .int .u32 m.code] 119)
    have P4 : Only [] w3 (w3.alloc (.cells #[.int .i64 m.kind, .string m.text, .string m.value, .string m.lang, .int .u32 m.cols, .int .u32 m.rows, .int .u32 m.width, .int .u32 m.height, .slice m.mA m.modes.length m.mc, .bool m.on, .int .u32 m.code] 119)) := (Only.refl _ _).alloc _
    have K4 : Blk (w3.alloc (.cells #[.int .i64 m.kind, .string m.text, .string m.value, .string m.lang, .int .u32 m.cols, .int .u32 m.rows, .int .u32 m.width, .int .u32 m.height, .slice m.mA m.modes.length m.mc, .bool m.on, .int .u32 m.code] 119)) w3.heap.size 119 m.cells := Blk.new _ _ _
    have K3 := K2.only P3 (by simp)
    rw [z3] at K4
    obtain ⟨w4, hw4⟩ : ∃ w4, w4 = w3.alloc (.cells #[.int .i64 m.kind, .string m.text, .string m.value, .string m.lang, .int .u32 m.cols, .int .u32 m.rows, .int .u32 m.width, .int .u32 m.height, .slice m.mA m.modes.length m.mc, .bool m.on, .int .u32 m.code] 119) := ⟨_, rfl⟩
    rw [← hw4] at B4 P4 K4
    have Q4 : Only [] w w4 := (Q2.trans P3 (by simp)).trans P4 (by simp)
    have A4 := C3.out w4 m _ K4 (hm.only Q4)
    rw [hE0] at A4
    replace hE0 := hide hE0
    have x0 := B4.cell 0
    have x1 := B4.cell 1
    have x2 := B4.cell 2
    have x4 := B4.cell 4
    simp only [List.getElem?_cons_zero, List.getElem?_cons_succ] at x0 x1 x2 x4
    have hlt2 := K2.lt
    have hne : ¬ w.heap.size = w2.heap.size := by omega
    have c0 : w2.cell? ⟨w.heap.size, 0, none⟩ = some (.int .i64 m.kind) := K2.cell 0
    have c1 : w2.cell? ⟨w.heap.size, 1, none⟩ = some (.string m.text) := K2.cell 1
    have c2 : w2.cell? ⟨w.heap.size, 2, none⟩ = some (.string m.value) := K2.cell 2
    have c3 : w2.cell? ⟨w.heap.size, 3, none⟩ = some (.string m.lang) := K2.cell 3
    have c4 : w2.cell? ⟨w.heap.size, 4, none⟩ = some (.int .u32 m.cols) := K2.cell 4
    have c5 : w2.cell? ⟨w.heap.size, 5, none⟩ = some (.int .u32 m.rows) := K2.cell 5
    have c6 : w2.cell? ⟨w.heap.size, 6, none⟩ = some (.int .u32 m.width) := K2.cell 6
    have c7 : w2.cell? ⟨w.heap.size, 7, none⟩ = some (.int .u32 m.height) := K2.cell 7
    have c8 : w2.cell? ⟨w.heap.size, 8, none⟩ = some (.slice m.mA m.modes.length m.mc) := K2.cell 8
    have c9 : w2.cell? ⟨w.heap.size, 9, none⟩ = some (.bool m.on) := K2.cell 9
    have c10 : w2.cell? ⟨w.heap.size, 10, none⟩ = some (.int .u32 m.code) := K2.cell 10
    replace z3 := hide z3
    go_wp2_with fail
    rw [← hw3, ← hw4]
    go_call A4 as e w5 ⟨rfl, P5⟩
    clear A4
    clear c0 c1 c2 c3 c4 c5 c6 c7 c8 c9 c10
    have B5 := B4.only P5 (by simp)
    have K5 := K4.only P5 (by simp)
    have Q5 : Only [] w w5 := Q4.trans P5 (by simp)
    replace hw3 := hide hw3
    replace hw4 := hide hw4
    have hR2 : RdI w5 KA (rkinds k) := ((R2.only P3).only P4).only P5
    clear x0 x1 x2 x4
    have x0 := B5.cell 0
    have x1 := B5.cell 1
    have x2 := B5.cell 2
    simp only [List.getElem?_cons_zero, List.getElem?_cons_succ] at x0 x1 x2
    by_cases hE : E0 = 0
    · have hew := hen.out hE
      replace hew := hide hew
      subst hE
      have A5 := C1.out w5 m _ K5 (hm.only Q5) hs hv hl
      go_wp2_with fail
      go_call A5 as e w6 ⟨P6, v, fs, rfl, V6, hp, M6, N6⟩
      clear A5
      have B6 := B5.only P6 (by simp)
      have Q6 : Only [] w w6 := Q5.trans P6 (by simp)
      have hR6 := hR2.only P6
      have hfl : fs.length = n := by
        have := congrArg List.length hp
        rw [List.length_map, List.length_map, hpl.out] at this
        exact this
      obtain ⟨A, cap, rfl, hc, hcm, _⟩ := V6.form
      rw [hfl] at V6 hc M6 ⊢
      have M0 := mid0 hp
      have zq := Q5.size
      have hbk := B5.lt
      clear x0 x1 x2
      go_wp2_with fail
      go_loopw [37] (fun ii wr => ∃ (i : Nat) (gs : List FD), i ≤ n ∧ ii = .int .i64 i ∧ Hid (gs.length = n) ∧ Hid (gs.map FD.pf = MidP m k i) ∧ OwnF wr w5.heap.size (.slice A n cap) gs ∧ (∀ f ∈ gs, FD.ok wr f ∧ f.off (.slice A n cap)) ∧ (∀ f ∈ gs, U32 f.n) ∧ Only [] w5 wr) (fun ii _ => n - (intOf ii).toNat)
      case atStart => exact ⟨0, fs, by omega, rfl, hide hfl, hide M0, V6, M6, N6, P6⟩
      case round =>
        obtain ⟨wo, rfl⟩ : ∃ wo : World, wo = wr := ⟨_, rfl⟩
        obtain ⟨i, gs, hin, rfl, hgl, hmp, V, M, N, O⟩ := hrel
        have Bo := B5.only O (by simp)
        have x0 := Bo.cell 0
        have x1 := Bo.cell 1
        simp only [List.getElem?_cons_zero, List.getElem?_cons_succ] at x0 x1
        by_cases hlt : i < n
        · obtain ⟨kb, koff, x, rfl, hkb, hx, cx⟩ := RdG.at (hR2.only O) i (by have := hn.out; omega)
          obtain ⟨A', cap', e1, _, _, hA⟩ := V.form
          obtain ⟨ga, hga, hga1, hga2, _⟩ := hA (by have := hgl.out; omega)
          obtain rfl : A = some ⟨ga, 0, none⟩ := by rw [← hga]; exact (Value.slice.inj e1).1
          obtain ⟨f, hf⟩ : ∃ f, gs[i]? = some f := ⟨_, List.getElem?_eq_getElem (by have := hgl.out; omega)⟩
          obtain ⟨p, hpp⟩ : ∃ p, (partsR m k)[i]? = some p := ⟨_, List.getElem?_eq_getElem (by have := hpl.out; omega)⟩
          have hpx : p.kind = x := by
            rw [← hpk.out, List.getElem?_map, hpp] at hx
            simpa using hx
          obtain ⟨cf, zf⟩ := ownF_at hgl.out V i f hf
          have V' := ownF_set hgl.out V i f x hf
          have hst := mid_step m k i p hpp gs f hf hmp.out
          rw [hpx] at hst
          have hgl' : (gs.set i { f with kind := x }).length = n := by rw [List.length_set]; exact hgl.out
          have M' : ∀ y ∈ gs.set i { f with kind := x }, FD.ok (wo.setCell ⟨ga, i * 4, none⟩ (.int .i64 x)) y ∧ y.off (.slice (some ⟨ga, 0, none⟩) n cap) := by
            have hfm := M f (List.mem_of_getElem? hf)
            refine mem_set (fun y hy => ⟨ok_setC (M y hy).1 (M y hy).2, (M y hy).2⟩) ⟨?_, hfm.2⟩
            exact ok_setC (FD.ok.with hfm.1 x f.n) hfm.2
          have N' : ∀ y ∈ gs.set i { f with kind := x }, U32 y.n := mem_set N (N f (List.mem_of_getElem? hf))
          have O' : Only [] w5 (wo.setCell ⟨ga, i * 4, none⟩ (.int .i64 x)) := O.setCell (p := ⟨ga, i * 4, none⟩) (.inr hga1) _
          replace hf := hide hf
          replace hpp := hide hpp
          replace hpx := hide hpx
          replace hx := hide hx
          replace hst := hide hst
          replace hgl' := hide hgl'
          replace M' := hide M'
          replace N' := hide N'
          clear M N hA e1 hga
          go_wp2_with fail
          go_roundw
          case rel => exact ⟨i + 1, _, by omega, by go_num, hgl', hst, V', M'.out, N'.out, O'⟩
          case measure => simp [intOf]; omega
        · obtain rfl : i = n := by omega
          have hmap : gs.map FD.pf = partsR m k := by
            rw [hmp.out]
            exact mid_end m k i hpl.out
          have RF := V.rdF (fun f hf => ⟨(M f hf).1, N f hf⟩)
          have WR := write_any wo A gs cap RF (by have := hgl.out; omega)
          rw [hmap, ← hew.out, hgl.out] at WR
          obtain ⟨E, hE⟩ : ∃ E, (encR m).1 = E := ⟨_, rfl⟩
          obtain ⟨l, hl2⟩ : ∃ l, (encR m).2 = l := ⟨_, rfl⟩
          have hpair : encR m = (E, l) := by rw [← hE, ← hl2]
          rw [hpair] at WR
          have Qo : Only [] w wo := Q5.trans O (by simp)
          have zo := Qo.size
          replace hmap := hide hmap
          replace hpair := hide hpair
          replace hE := hide hE
          replace hl2 := hide hl2
          clear M N
          go_wp2_with fail
          go_call WR as e w9 ⟨P9, v9, rfl, V9⟩
          clear WR
          have Q9 : Only [] w w9 := Qo.trans P9 (by simp)
          have B9 := Bo.only P9 (by simp)
          have x0 := B9.cell 0
          simp only [List.getElem?_cons_zero, List.getElem?_cons_succ] at x0
          dsimp only
          by_cases hz : E = 0
          · have hfin : EncPost w m (.returned (.tuple #[.string nm, v9, .int .i64 0])) w9 := by
              unfold EncPost
              rw [hE.out, hl2.out, hnk.out (by rw [hE.out]; exact hz), hnm.out, hz]
              exact ⟨Q9, v9, rfl, V9.mono zo⟩
            subst hz
            replace hfin := hide hfin
            go_wp2_with fail
            go_ret3
            exact hfin.out
          · have hzb : (E != 0) = true := by simpa using hz
            have hl0 : l = [] := by rw [← hl2.out]; exact encR_bad (by rw [hE.out]; exact hz)
            have hfin : EncPost w m (.returned (.tuple #[.string ⟨#[]⟩, .slice none 0 0, .int .i64 E])) w9 := encPost_bad w w9 m E (by rw [hpair.out, hl0]) hz Q9
            replace hfin := hide hfin
            replace hl0 := hide hl0
            replace hz := hide hz
            go_wp2_with fail
            go_ret3
            exact hfin.out
    · have hEb : (E0 != 0) = true := by simpa using hE
      have hfin : EncPost w m (.returned (.tuple #[.string ⟨#[]⟩, .slice none 0 0, .int .i64 E0])) w5 := encPost_bad w w5 m E0 (hea.out hE) hE Q5
      replace hfin := hide hfin
      replace hE := hide hE
      go_wp2_with fail
      go_ret3
      exact hfin.out
  · have OF := rof_none m.kind hk w1
    have hfin : ∀ w', Only [] w w' → EncPost w m (.returned (.tuple #[.string ⟨#[]⟩, .slice none 0 0, .int .i64 8])) w' := fun w' P => encPost_bad w w' m 8 (encR_none hk) (by decide) P
    replace hfin := hide hfin
    replace hk := hide hk
    go_enter Tryz.func20, Tryz.ntmps20
    go_wp2_with fail
    rw [← hw1]
    replace hw1 := hide hw1
    go_call OF as e w2 ⟨P2, rfl⟩
    go_wp2_with fail
    go_ret3
    exact hfin.out _ ((P1.trans P2 (by simp)).alloc _)
end Go.Proofs.YtdplnedpbkpgpaaGreatDoor
