/- Layer 4: Decode; no condition but the number of bytes. -/
import Derived.Test.YtdplnedpbkpgpaaGreatDoorReqG
import Derived.Test.YtdplnedpbkpgpaaGreatDoorReqD
namespace Go.Proofs.YtdplnedpbkpgpaaGreatDoor
set_option linter.all false
open Go.RowKit

/-- The result set. -/
def rset (w : World) (q : Nat) (m : RQ) : World := (((((((((((w.setCell ⟨q, 0, none⟩ (.int .i64 m.kind)).setCell ⟨q, 1, none⟩ (.string m.text)).setCell ⟨q, 2, none⟩ (.string m.value)).setCell ⟨q, 3, none⟩ (.string m.lang)).setCell ⟨q, 4, none⟩ (.int .u32 m.cols)).setCell ⟨q, 5, none⟩ (.int .u32 m.rows)).setCell ⟨q, 6, none⟩ (.int .u32 m.width)).setCell ⟨q, 7, none⟩ (.int .u32 m.height)).setCell ⟨q, 8, none⟩ (.slice m.mA m.modes.length m.mc)).setCell ⟨q, 9, none⟩ (.bool m.on)).setCell ⟨q, 10, none⟩ (.int .u32 m.code))
theorem rsetB {w : World} {q : Nat} {m0 : RQ} (m : RQ) (K : Blk w q 63 m0.cells) : Blk (rset w q m) q 63 m.cells := (((((((((((K.set_ 0 _).set_ 1 _).set_ 2 _).set_ 3 _).set_ 4 _).set_ 5 _).set_ 6 _).set_ 7 _).set_ 8 _).set_ 9 _).set_ 10 _)
theorem rsetO {L : List Nat} {w0 w : World} {q : Nat} (m : RQ) (hq : q ∈ L ∨ w0.heap.size ≤ q) (h : Only L w0 w) : Only L w0 (rset w q m) := (((((((((((h.setCell (p := ⟨q, 0, none⟩) hq _).setCell (p := ⟨q, 1, none⟩) hq _).setCell (p := ⟨q, 2, none⟩) hq _).setCell (p := ⟨q, 3, none⟩) hq _).setCell (p := ⟨q, 4, none⟩) hq _).setCell (p := ⟨q, 5, none⟩) hq _).setCell (p := ⟨q, 6, none⟩) hq _).setCell (p := ⟨q, 7, none⟩) hq _).setCell (p := ⟨q, 8, none⟩) hq _).setCell (p := ⟨q, 9, none⟩) hq _).setCell (p := ⟨q, 10, none⟩) hq _)
theorem ret_req {fn : Func} {p t : Tmp} {R : Ending → World → Prop} {a : Act} {w : World} {g : Nat} (m : RQ) (h : fn.results = #[.cell p 63, .tmp t]) (hp : a.tmps.getD p undef = .pointer (some ⟨g, 0, none⟩)) (hd : a.defers = [])
    (hg : Blk w g 63 m.cells) (hR : R (.returned (.tuple #[m.val, a.tmps.getD t undef])) w) : bodyPost Tryz.prog fn R .ret a w :=
  ret_row_tmp m.cells.toArray h hp hd hg Tryz.underlying63 rfl (by unfold RQ.cells; kernel_rfl) hR
/-- A request's modes can be written. -/
def RSoft (m : RQ) (w : World) : Prop := ∀ a, m.mA = some a → ∀ i, i < m.modes.length → w.frozen? (a.add i) = false
theorem RSoft.onlyL {w w' : World} {m : RQ} {L : List Nat} (h : RSoft m w) (ho : m.ok w) (hb : Only L w w') (hL : ∀ a, m.mA = some a → 0 < m.modes.length → a.block ∉ L) : RSoft m w' := by
  intro a ha i hi
  obtain ⟨b, off, e, hlt, _⟩ := ho.modes (by omega)
  rw [ha] at e
  injection e with e
  refine (World.frozen?_of_block (w := w) ?_).trans (h a ha i hi)
  rw [block_add]
  exact hb.block _ (by rw [e]; exact hlt) (hL a ha (by omega))
theorem RQ.ok.onlyL {w w' : World} {L : List Nat} {m : RQ} (h : m.ok w) (hb : Only L w w') (hn : ∀ a, m.mA = some a → 0 < m.modes.length → a.block ∉ L) : m.ok w' :=
  { h with modes := RdG.onlyL h.modes hb hn }
/-- What Decode hands on. -/
def RDecPost (w : World) (s : ByteArray) (l : List Int) : Ending → World → Prop := fun e w' => Only [] w w' ∧ ∃ (m : RQ) (E : Int), e = .returned (.tuple #[m.val, .int .i64 E]) ∧ m.ok w' ∧ (∀ a, m.mA = some a → w.heap.size ≤ a.block) ∧ RSoft m w' ∧ DecR s l m E
theorem zeroR_new (B : Nat) : ∀ a, zeroR.mA = some a → B ≤ a.block := fun a ha => by simp [zeroR] at ha
theorem zeroR_soft (w : World) : RSoft zeroR w := fun a ha => by simp [zeroR] at ha
structure PutOk (w : World) (B : Nat) (m : RQ) : Prop where
  ok : m.ok w
  new : ∀ a, m.mA = some a → B ≤ a.block
  soft : RSoft m w
theorem put_ok {w : World} {B : Nat} {fs : List FD} (k : Nat) (h1 : 1 ≤ k) (h2 : k ≤ 10) (hk : fs.map (fun f => f.pf.kind) = rkinds k) (hm : ∀ f ∈ fs, FD.mine w f B) (hn : ∀ f ∈ fs, U32 f.n ∧ InB f.text) : PutOk w B (putR (firstR k) k fs) := by
  have z0 : PutOk w B (firstR k) := ⟨firstR_ok w k, fun a ha => by simp [firstR, zeroR] at ha, fun a ha => by simp [firstR, zeroR] at ha⟩
  have hs : ∀ f ∈ fs, (strOfNums f.text).size ≤ maxLen := fun f hf => by rw [str_size]; exact Nat.le_trans (hm f hf).ok.tle (hm f hf).ok.tmax
  have z : U32 0 := ⟨by decide, by decide⟩
  rcases k10 h1 h2 with rfl | rfl | rfl | rfl | rfl | rfl | rfl | rfl | rfl | rfl
  · obtain ⟨x1, x2, x3, x4, x5, x6, rfl, _⟩ := ks6 hk
    exact ⟨{ z0.ok with text := hs x1 (by simp), nums := ⟨(hn x2 (by simp)).1, (hn x3 (by simp)).1, (hn x4 (by simp)).1, (hn x5 (by simp)).1, z⟩, modes := (hm x6 (by simp)).ok.text, mle := (hm x6 (by simp)).ok.tle, mmax := (hm x6 (by simp)).ok.tmax, bytes := (hn x6 (by simp)).2 }, (hm x6 (by simp)).new.1, (hm x6 (by simp)).soft⟩
  · obtain ⟨x1, x2, rfl, _⟩ := ks2 hk
    exact ⟨{ z0.ok with text := hs x1 (by simp), value := hs x2 (by simp) }, z0.new, z0.soft⟩
  · exact z0
  · obtain ⟨x1, rfl, _⟩ := ks1 hk
    exact ⟨{ z0.ok with text := hs x1 (by simp) }, z0.new, z0.soft⟩
  · obtain ⟨x1, rfl, _⟩ := ks1 hk
    exact ⟨{ z0.ok with text := hs x1 (by simp) }, z0.new, z0.soft⟩
  · obtain ⟨x1, x2, x3, x4, rfl, _⟩ := ks4 hk
    exact ⟨{ z0.ok with nums := ⟨(hn x1 (by simp)).1, (hn x2 (by simp)).1, (hn x3 (by simp)).1, (hn x4 (by simp)).1, z⟩ }, z0.new, z0.soft⟩
  · obtain ⟨x1, rfl, _⟩ := ks1 hk
    exact ⟨{ z0.ok with }, z0.new, z0.soft⟩
  · obtain ⟨x1, rfl, _⟩ := ks1 hk
    exact ⟨{ z0.ok with text := hs x1 (by simp) }, z0.new, z0.soft⟩
  · obtain ⟨x1, rfl, _⟩ := ks1 hk
    exact ⟨{ z0.ok with nums := ⟨z, z, z, z, (hn x1 (by simp)).1⟩ }, z0.new, z0.soft⟩
  · obtain ⟨x1, x2, x3, x4, rfl, _⟩ := ks4 hk
    exact ⟨{ z0.ok with text := hs x1 (by simp), value := hs x3 (by simp), lang := hs x4 (by simp) }, z0.new, z0.soft⟩
theorem str_ne {x y : ByteArray} (h : ¬ x = y) : (x.toList == y.toList) = false := by
  rw [beq_eq_false_iff_ne]
  intro e
  rw [ByteArray.toList_eq, ByteArray.toList_eq] at e
  exact h (bytes_ext e)
theorem rule_index0 (q : Nat) (w : World) : (Instr.index 133 (.agg (rtab q)) (.int .i64 ((0 : Nat) : Int))).run Tryz.prog w = .ok (.agg #[.string ⟨#[]⟩, .slice none 0 0, .nilFunc, .nilFunc, .nilFunc]) w := by kernel_rfl
theorem kinds_len (k : Nat) : (rkinds k).length ≤ 6 := by unfold rkinds; split <;> decide
theorem decR_none {s : ByteArray} (l : List Int) (h : ∀ j, 1 ≤ j → j < 11 → rname j ≠ s) : DecR s l zeroR 8 := by
  unfold DecR
  cases hk : kindL s.data.toList with
  | none => exact ⟨rfl, rfl⟩
  | some k =>
    obtain ⟨h1, h2, e⟩ := kindL_range hk
    exact absurd (bytes_ext (by rw [rname_data, e])) (h k h1 (by omega))
theorem decR_kind {k : Nat} (h1 : 1 ≤ k) (h2 : k ≤ 10) {l : List Int} {m : RQ} {E : Int} (h : DecK k l m E) : DecR (rname k) l m E := by
  unfold DecR
  rw [rname_data, kindL_name k h1 h2]
  exact h
set_option maxRecDepth 100000 in
set_option maxHeartbeats 6400000 in
theorem rdecode_any (s : ByteArray) (A : Option Addr) (l : List Int) (c : Nat) (i0 : Int) (w : World) (hm : w.cell? ⟨0, 0, none⟩ = some (.int .i64 i0)) (h : Rd w A l) (hl : ∀ x ∈ l, 0 ≤ x ∧ x < 256) (hln : l.length ≤ 140737488355000) (hlc : l.length ≤ c) (hlm : c ≤ maxLen) (hal : ∀ a, A = some a → a.block < w.heap.size) :
    Calls Tryz.prog 28 #[.string s, .slice A l.length c] w (RDecPost w s l) := by
  obtain ⟨ln, hn⟩ : ∃ ln, l.length = ln := ⟨_, rfl⟩
  have h0 : 0 < w.heap.size := Nat.pos_of_ne_zero (fun e => by
    have := block_lt_of_cell hm
    simp only at this
    omega)
  obtain ⟨w1, hw1⟩ : ∃ w1, w1 = w.alloc (.cells #[.int .i64 0, .string ⟨#[]⟩, .string ⟨#[]⟩, .string ⟨#[]⟩, .int .u32 0, .int .u32 0, .int .u32 0, .int .u32 0, .slice none 0 0, .bool false, .int .u32 0] 63) := ⟨_, rfl⟩
  have P1 : Only [] w w1 := by rw [hw1]; exact (Only.refl _ _).alloc _
  have K1 : Blk w1 w.heap.size 63 zeroR.cells := by rw [hw1]; exact Blk.new w _ _
  have RU := rules_any w1
  obtain ⟨tb, htb⟩ : ∃ tb, rtab w1.heap.size = tb := ⟨_, rfl⟩
  have hix := fun k h1 h2 w' => rule_index w1.heap.size k h1 h2 w'
  have hix0 := fun w' => rule_index0 w1.heap.size w'
  rw [htb] at RU hix0
  replace hix : ∀ k : Nat, 1 ≤ k → k ≤ 10 → ∀ w', (Instr.index 133 (.agg tb) (.int .i64 (k : Int))).run Tryz.prog w' = .ok (ruleV k (kaddr w1.heap.size k)) w' := fun k h1 h2 w' => by rw [← htb]; exact hix k h1 h2 w'
  rw [hn] at hln hlc ⊢
  replace hn := hide hn
  replace htb := hide htb
  replace hix := hide hix
  replace hix0 := hide hix0
  go_enter Tryz.func28, Tryz.ntmps28
  go_wp2_with fail
  rw [← hw1]
  replace hw1 := hide hw1
  go_call RU as e w2 ⟨rfl, P2, z2, R2⟩
  clear RU
  replace z2 := hide z2
  have K2 := K1.only P2 (by simp)
  have O2 : Only [] w w2 := P1.trans P2 (by simp)
  replace R2 := hide R2
  go_wp2_with fail
  go_loopw [13] (fun ii wr => ∃ i : Nat, i ≤ 11 ∧ ii = .int .i64 i ∧ Hid (∀ j, 1 ≤ j → j < i → rname j ≠ s) ∧ Only [] w2 wr) (fun ii _ => 11 - (intOf ii).toNat)
  case atStart => exact ⟨0, by omega, rfl, hide (fun j h1 h2 => by omega), Only.refl _ _⟩
  case round =>
    obtain ⟨wo, rfl⟩ : ∃ wo : World, wo = wr := ⟨_, rfl⟩
    obtain ⟨i, hi, rfl, hne, O⟩ := hrel
    by_cases hlt : i < 11
    · by_cases hi0 : i = 0
      · have hx : ∀ w', (Instr.index 133 (.agg tb) (.int .i64 (i : Int))).run Tryz.prog w' = .ok (.agg #[.string ⟨#[]⟩, .slice none 0 0, .nilFunc, .nilFunc, .nilFunc]) w' := fun w' => by rw [hi0]; exact hix0.out w'
        have ib : ((i : Int) == 0) = true := by simp [hi0]
        have hle : i ≤ 0 := by omega
        clear hi0
        go_wp2_with fail
        go_roundw
        case rel => exact ⟨i + 1, by omega, by go_num, hide (fun j h1 h2 => by omega), O.alloc _⟩
        case measure => simp [intOf]; omega
      · have h1 : 1 ≤ i := by omega
        have h2 : i ≤ 10 := by omega
        have hx := hix.out i h1 h2
        have RKi := R2.out i h1 h2
        obtain ⟨KA, hKA⟩ : ∃ KA, kaddr w1.heap.size i = KA := ⟨_, rfl⟩
        rw [hKA] at hx RKi
        unfold ruleV rfn at hx
        obtain ⟨F2, hF2, cF2, C2⟩ := rput_any i h1 h2
        obtain ⟨F3, hF3, cF3, C3⟩ := ask_any i h1 h2
        obtain ⟨F1, hF1⟩ : ∃ F, rget i = F := ⟨_, rfl⟩
        obtain ⟨n, hnk⟩ : ∃ n, (rkinds i).length = n := ⟨_, rfl⟩
        obtain ⟨nm, hnm⟩ : ∃ nm, rname i = nm := ⟨_, rfl⟩
        rw [hF1, hF2, hF3, hnk, hnm] at hx
        have ib : ((i : Int) == 0) = false := by simp; omega
        replace hKA := hide hKA
        replace hF1 := hide hF1
        replace hF2 := hide hF2
        replace hF3 := hide hF3
        replace C2 := hide C2
        replace C3 := hide C3
        by_cases hnn : nm = s
        · have s1 : (nm.toList == s.toList) = true := by rw [hnn]; simp
          have hsn : s = rname i := by rw [← hnn, ← hnm]
          replace hsn := hide hsn
          replace hnn := hide hnn
          replace hnm := hide hnm
          have B3 : Blk (wo.alloc (.cells #[.string nm, .slice KA n n, .func (Fn.func F1) #[] #[], .func (Fn.func F2) #[] #[], .func (Fn.func F3) #[] #[]] 114)) wo.heap.size 114 [.string nm, .slice KA n n, .func (Fn.func F1) #[] #[], .func (Fn.func F2) #[] #[], .func (Fn.func F3) #[] #[]] := Blk.new _ _ _
          have P3 : Only [] wo (wo.alloc (.cells #[.string nm, .slice KA n n, .func (Fn.func F1) #[] #[], .func (Fn.func F2) #[] #[], .func (Fn.func F3) #[] #[]] 114)) := (Only.refl _ _).alloc _
          obtain ⟨w3, hw3⟩ : ∃ w3, w3 = wo.alloc (.cells #[.string nm, .slice KA n n, .func (Fn.func F1) #[] #[], .func (Fn.func F2) #[] #[], .func (Fn.func F3) #[] #[]] 114) := ⟨_, rfl⟩
          rw [← hw3] at B3 P3
          have OO : Only [] w wo := O2.trans O (by simp)
          have O3 : Only [] w w3 := OO.trans P3 (by simp)
          have z3 := O3.size
          have RD := read_any w3 KA A (rkinds i) l n c i0 (cellL O3 h0 (by simp) hm) ((RKi.only O).only P3) (h.only O3) hl (by have := kinds_len i; omega) (by have := hn.out; omega) (by have := hn.out; omega) hlm (fun a ha => by have := hal a ha; omega)
          obtain ⟨⟨E, ps⟩, hres⟩ : ∃ r, readP (rkinds i) l = r := ⟨_, rfl⟩
          rw [hnk, hn.out, hres] at RD
          have hgood := readP_good (rkinds i) l hl
          rw [hres] at hgood
          have K3 := (K2.only O (by simp)).only P3 (by simp)
          replace hnk := hide hnk
          replace hres := hide hres
          replace hgood := hide hgood
          go_wp2_with fail
          rw [← hw3]
          replace hw3 := hide hw3
          go_call RD as e w4 ⟨P4, Af, cf, fs, rfl, hfs, V4, H4⟩
          clear RD
          (try dsimp only at hfs)
          have K4 := K3.only P4 (by simp)
          have O4 := O3.trans P4 (by simp)
          have B4 := B3.only P4 (by simp)
          have x3 := B4.cell 3
          simp only [List.getElem?_cons_zero, List.getElem?_cons_succ] at x3
          (try dsimp only)
          by_cases hE : E = 0
          · obtain ⟨hg1, hg2⟩ := hgood.out hE
            (try dsimp only at hg1 hg2)
            have hk : fs.map (fun f => f.pf.kind) = rkinds i := by rw [← hg1, ← hfs, List.map_map]; rfl
            have hfl : fs.length = n := by rw [← hnk.out, ← hk, List.length_map]
            have hff : ∀ f ∈ fs, U32 f.n ∧ InB f.text := fun f hf => hg2 f.pf (by rw [← hfs]; exact List.mem_map_of_mem hf)
            have RF : RdF w4 Af fs := V4.rdF (fun f hf => ⟨(H4 f hf).1.ok, (hff f hf).1⟩)
            obtain ⟨_, _, e1, hcf, hcm, _⟩ := V4.form
            have e2 := (Value.slice.inj e1).2.2
            rw [← e2] at hcf hcm
            clear e1 e2
            have PM := put_ok i h1 h2 hk (fun f hf => (H4 f hf).1) hff
            have P5 : Only [] w4 (w4.alloc (.cells #[.int .i64 (i : Int), .string ⟨#[]⟩, .string ⟨#[]⟩, .string ⟨#[]⟩, .int .u32 0, .int .u32 0, .int .u32 0, .int .u32 0, .slice none 0 0, .bool false, .int .u32 0] 119)) := (Only.refl _ _).alloc _
            have K5 : Blk (w4.alloc (.cells #[.int .i64 (i : Int), .string ⟨#[]⟩, .string ⟨#[]⟩, .string ⟨#[]⟩, .int .u32 0, .int .u32 0, .int .u32 0, .int .u32 0, .slice none 0 0, .bool false, .int .u32 0] 119)) w4.heap.size 119 (firstR i).cells := Blk.new _ _ _
            have B5 := B4.only P5 (by simp)
            obtain ⟨w5, hw5⟩ : ∃ w5, w5 = w4.alloc (.cells #[.int .i64 (i : Int), .string ⟨#[]⟩, .string ⟨#[]⟩, .string ⟨#[]⟩, .int .u32 0, .int .u32 0, .int .u32 0, .int .u32 0, .slice none 0 0, .bool false, .int .u32 0] 119) := ⟨_, rfl⟩
            rw [← hw5] at P5 K5 B5
            have CZ := C2.out (firstR i) w4.heap.size w4 w5 Af fs n cf hfl hk (by omega) hcm RF P5 (Nat.le_refl _) K5
            obtain ⟨M, hM⟩ : ∃ M, putR (firstR i) i fs = M := ⟨_, rfl⟩
            rw [hM] at CZ PM
            rw [hfl]
            have hE2 : (E != 0) = false := by simpa using hE
            have hB4l := B4.lt
            have hne4 : ¬ wo.heap.size = w4.heap.size := by omega
            have x3' := B5.cell 3
            simp only [List.getElem?_cons_zero, List.getElem?_cons_succ] at x3'
            replace hE := hide hE
            replace hfl := hide hfl
            replace hk := hide hk
            replace hfs := hide hfs
            replace hg1 := hide hg1
            replace hM := hide hM
            clear hff hg2 V4 H4
            go_wp2_with fail
            rw [← hw5]
            replace hw5 := hide hw5
            go_call CZ as e w6 ⟨rfl, P6, K6⟩
            clear CZ x3 x3'
            have B6 := B5.only P6 (by simp; omega)
            have x4 := B6.cell 4
            simp only [List.getElem?_cons_zero, List.getElem?_cons_succ] at x4
            have P46 : Only [w4.heap.size] w4 w6 := (P5.mono (fun x hx => by simp at hx)).trans P6 (fun x hx => .inl hx)
            have hMb : ∀ a, M.mA = some a → 0 < M.modes.length → a.block ∉ [w4.heap.size] := fun a ha h0 => by
              have := RdG.lt (mk := .int .u8) PM.ok.modes h0 a ha
              simp
              omega
            have Mok := PM.ok.onlyL P46 hMb
            have Mso := PM.soft.onlyL PM.ok P46 hMb
            have CA := C3.out w6 M _ K6 Mok
            obtain ⟨E2, hE2x⟩ : ∃ E2, askR M i = E2 := ⟨_, rfl⟩
            rw [hE2x] at CA
            replace hE2x := hide hE2x
            go_wp2_with fail
            go_call CA as e w7 ⟨rfl, P7⟩
            clear CA x4
            have O7 : Only [] w w7 := (O4.trans P46 (fun x hx => .inr (by simp at hx; have := O4.size; omega))).trans P7 (by simp)
            have K7 := (K4.only P46 (by have := K4.lt; have := K1.lt; simp; omega)).only P7 (by simp)
            have KM := K6.only P7 (by simp)
            have Mok7 := Mok.only P7
            have Mso7 := Mso.onlyL Mok P7 (by simp)
            have g0 : w7.cell? ⟨w.heap.size, 0, none⟩ = some (.int .i64 0) := K7.cell 0
            have f0 := K7.frozen 0
            have g1 : w7.cell? ⟨w.heap.size, 1, none⟩ = some (.string ⟨#[]⟩) := K7.cell 1
            have f1 := K7.frozen 1
            have g2 : w7.cell? ⟨w.heap.size, 2, none⟩ = some (.string ⟨#[]⟩) := K7.cell 2
            have f2 := K7.frozen 2
            have g3 : w7.cell? ⟨w.heap.size, 3, none⟩ = some (.string ⟨#[]⟩) := K7.cell 3
            have f3 := K7.frozen 3
            have g4 : w7.cell? ⟨w.heap.size, 4, none⟩ = some (.int .u32 0) := K7.cell 4
            have f4 := K7.frozen 4
            have g5 : w7.cell? ⟨w.heap.size, 5, none⟩ = some (.int .u32 0) := K7.cell 5
            have f5 := K7.frozen 5
            have g6 : w7.cell? ⟨w.heap.size, 6, none⟩ = some (.int .u32 0) := K7.cell 6
            have f6 := K7.frozen 6
            have g7 : w7.cell? ⟨w.heap.size, 7, none⟩ = some (.int .u32 0) := K7.cell 7
            have f7 := K7.frozen 7
            have g8 : w7.cell? ⟨w.heap.size, 8, none⟩ = some (.slice none 0 0) := K7.cell 8
            have f8 := K7.frozen 8
            have g9 : w7.cell? ⟨w.heap.size, 9, none⟩ = some (.bool false) := K7.cell 9
            have f9 := K7.frozen 9
            have g10 : w7.cell? ⟨w.heap.size, 10, none⟩ = some (.int .u32 0) := K7.cell 10
            have f10 := K7.frozen 10
            by_cases hz : E2 = 0
            · have hzb : (E2 != 0) = false := by simpa using hz
              have hD : DecR s l M 0 := by
                rw [hsn.out]
                refine decR_kind h1 h2 ?_
                unfold DecK
                rw [hres.out, if_neg (by simpa using hE.out)]
                refine ⟨fs, hfs.out, ?_⟩
                rw [hM.out, hE2x.out, if_pos hz]
                exact ⟨rfl, rfl⟩
              replace hz := hide hz
              have b0 : w7.cell? ⟨w4.heap.size, 0, none⟩ = some (.int .i64 M.kind) := KM.cell 0
              have b1 : w7.cell? ⟨w4.heap.size, 1, none⟩ = some (.string M.text) := KM.cell 1
              have b2 : w7.cell? ⟨w4.heap.size, 2, none⟩ = some (.string M.value) := KM.cell 2
              have b3 : w7.cell? ⟨w4.heap.size, 3, none⟩ = some (.string M.lang) := KM.cell 3
              have b4 : w7.cell? ⟨w4.heap.size, 4, none⟩ = some (.int .u32 M.cols) := KM.cell 4
              have b5 : w7.cell? ⟨w4.heap.size, 5, none⟩ = some (.int .u32 M.rows) := KM.cell 5
              have b6 : w7.cell? ⟨w4.heap.size, 6, none⟩ = some (.int .u32 M.width) := KM.cell 6
              have b7 : w7.cell? ⟨w4.heap.size, 7, none⟩ = some (.int .u32 M.height) := KM.cell 7
              have b8 : w7.cell? ⟨w4.heap.size, 8, none⟩ = some (.slice M.mA M.modes.length M.mc) := KM.cell 8
              have b9 : w7.cell? ⟨w4.heap.size, 9, none⟩ = some (.bool M.on) := KM.cell 9
              have b10 : w7.cell? ⟨w4.heap.size, 10, none⟩ = some (.int .u32 M.code) := KM.cell 10
              go_wp2_with fail
              (try simp only [Exit.inBlock, Exit.then])
              refine ret_req (g := w.heap.size) M rfl (by rfl) (by rfl) (rsetB M K7) ?_
              have hx := rsetO M (L := [w.heap.size]) (w0 := w7) (w := w7) (q := w.heap.size) (.inl (by simp)) (Only.refl _ _)
              have hno : ∀ a, M.mA = some a → 0 < M.modes.length → a.block ∉ [w.heap.size] := fun a ha h0 => by
                have := PM.new a ha
                have := K3.lt
                simp
                omega
              exact ⟨rsetO M (.inr (Nat.le_refl _)) O7, M, 0, rfl, Mok7.onlyL hx hno, fun a ha => by have := PM.new a ha; omega, Mso7.onlyL Mok7 hx hno, hD⟩
            · have hzb : (E2 != 0) = true := by simpa using hz
              have hD : DecR s l zeroR E2 := by
                rw [hsn.out]
                refine decR_kind h1 h2 ?_
                unfold DecK
                rw [hres.out, if_neg (by simpa using hE.out)]
                refine ⟨fs, hfs.out, ?_⟩
                rw [hM.out, hE2x.out, if_neg hz]
                exact ⟨rfl, rfl⟩
              replace hz := hide hz
              go_wp2_with fail
              (try simp only [Exit.inBlock, Exit.then])
              refine ret_req (g := w.heap.size) zeroR rfl (by rfl) (by rfl) (rsetB zeroR K7) ?_
              exact ⟨rsetO zeroR (.inr (Nat.le_refl _)) O7, zeroR, E2, rfl, zeroR_ok _, zeroR_new _, zeroR_soft _, hD⟩
          · have hzb : (E != 0) = true := by simpa using hE
            have hD : DecR s l zeroR E := by
              rw [hsn.out]
              refine decR_kind h1 h2 ?_
              unfold DecK
              rw [hres.out, if_pos hE]
              exact ⟨rfl, rfl⟩
            replace hE := hide hE
            replace hfs := hide hfs
            have g0 : w4.cell? ⟨w.heap.size, 0, none⟩ = some (.int .i64 0) := K4.cell 0
            have f0 := K4.frozen 0
            have g1 : w4.cell? ⟨w.heap.size, 1, none⟩ = some (.string ⟨#[]⟩) := K4.cell 1
            have f1 := K4.frozen 1
            have g2 : w4.cell? ⟨w.heap.size, 2, none⟩ = some (.string ⟨#[]⟩) := K4.cell 2
            have f2 := K4.frozen 2
            have g3 : w4.cell? ⟨w.heap.size, 3, none⟩ = some (.string ⟨#[]⟩) := K4.cell 3
            have f3 := K4.frozen 3
            have g4 : w4.cell? ⟨w.heap.size, 4, none⟩ = some (.int .u32 0) := K4.cell 4
            have f4 := K4.frozen 4
            have g5 : w4.cell? ⟨w.heap.size, 5, none⟩ = some (.int .u32 0) := K4.cell 5
            have f5 := K4.frozen 5
            have g6 : w4.cell? ⟨w.heap.size, 6, none⟩ = some (.int .u32 0) := K4.cell 6
            have f6 := K4.frozen 6
            have g7 : w4.cell? ⟨w.heap.size, 7, none⟩ = some (.int .u32 0) := K4.cell 7
            have f7 := K4.frozen 7
            have g8 : w4.cell? ⟨w.heap.size, 8, none⟩ = some (.slice none 0 0) := K4.cell 8
            have f8 := K4.frozen 8
            have g9 : w4.cell? ⟨w.heap.size, 9, none⟩ = some (.bool false) := K4.cell 9
            have f9 := K4.frozen 9
            have g10 : w4.cell? ⟨w.heap.size, 10, none⟩ = some (.int .u32 0) := K4.cell 10
            have f10 := K4.frozen 10
            go_wp2_with fail
            (try simp only [Exit.inBlock, Exit.then])
            refine ret_req (g := w.heap.size) zeroR rfl (by rfl) (by rfl) (rsetB zeroR K4) ?_
            exact ⟨rsetO zeroR (.inr (Nat.le_refl _)) O4, zeroR, E, rfl, zeroR_ok _, zeroR_new _, zeroR_soft _, hD⟩
        · have s1 : (nm.toList == s.toList) = false := str_ne hnn
          have hne2 : ∀ j, 1 ≤ j → j < i + 1 → rname j ≠ s := fun j h1 h2 => by
            by_cases hj : j = i
            · rw [hj, hnm]; exact hnn
            · exact hne.out j h1 (by omega)
          replace hne2 := hide hne2
          replace hnm := hide hnm
          replace hnn := hide hnn
          go_wp2_with fail
          go_roundw
          case rel => exact ⟨i + 1, by omega, by go_num, hne2, O.alloc _⟩
          case measure => simp [intOf]; omega
    · obtain rfl : i = 11 := by omega
      have hD := decR_none l hne.out
      have KO := K2.only O (by simp)
      have g0 : wo.cell? ⟨w.heap.size, 0, none⟩ = some (.int .i64 0) := KO.cell 0
      have f0 := KO.frozen 0
      have g1 : wo.cell? ⟨w.heap.size, 1, none⟩ = some (.string ⟨#[]⟩) := KO.cell 1
      have f1 := KO.frozen 1
      have g2 : wo.cell? ⟨w.heap.size, 2, none⟩ = some (.string ⟨#[]⟩) := KO.cell 2
      have f2 := KO.frozen 2
      have g3 : wo.cell? ⟨w.heap.size, 3, none⟩ = some (.string ⟨#[]⟩) := KO.cell 3
      have f3 := KO.frozen 3
      have g4 : wo.cell? ⟨w.heap.size, 4, none⟩ = some (.int .u32 0) := KO.cell 4
      have f4 := KO.frozen 4
      have g5 : wo.cell? ⟨w.heap.size, 5, none⟩ = some (.int .u32 0) := KO.cell 5
      have f5 := KO.frozen 5
      have g6 : wo.cell? ⟨w.heap.size, 6, none⟩ = some (.int .u32 0) := KO.cell 6
      have f6 := KO.frozen 6
      have g7 : wo.cell? ⟨w.heap.size, 7, none⟩ = some (.int .u32 0) := KO.cell 7
      have f7 := KO.frozen 7
      have g8 : wo.cell? ⟨w.heap.size, 8, none⟩ = some (.slice none 0 0) := KO.cell 8
      have f8 := KO.frozen 8
      have g9 : wo.cell? ⟨w.heap.size, 9, none⟩ = some (.bool false) := KO.cell 9
      have f9 := KO.frozen 9
      have g10 : wo.cell? ⟨w.heap.size, 10, none⟩ = some (.int .u32 0) := KO.cell 10
      have f10 := KO.frozen 10
      go_wp2_with fail
      (try simp only [Exit.inBlock, Exit.then])
      refine ret_req (g := w.heap.size) zeroR rfl (by rfl) (by rfl) (rsetB zeroR KO) ?_
      exact ⟨rsetO zeroR (.inr (Nat.le_refl _)) (O2.trans O (by simp)), zeroR, 8, rfl, zeroR_ok _, zeroR_new _, zeroR_soft _, hD⟩
end Go.Proofs.YtdplnedpbkpgpaaGreatDoor
