/- Layer 4: Decode; no condition but the number of bytes · Layer 8: whether a setting may be: all flags, one by one (a range over a function); for all settings; no condition · Layer 27: a session, and what is asked of it; the plain answer, and its parts. No condition · Layer 27: what is done with what is asked, method by method; for all sessions and requests; the slice of programs lies elsewhere · The machine: a way on that is shared by several ways; states that differ in the order of their slots alone. No condition · Layer 27: a terminal is asked for. No condition · Layer 27: a variable is looked for. No condition but the number of variables · Layer 27: a session that is asked; for all sessions and requests; the bytes lie in memory, the lengths are small · The machine: a struct with arrays is equal to itself; over any program; no condition · The machine: two structs compared (flat ones and nested ones; bools, numbers, strings); over any program; no condition. -/
import Derived.Test.YtdplnedpbkpgpaaGreatDoorSgC
import Derived.RangeFuncNested
import Derived.RangeFuncBound
import Derived.RangeFuncCalls
import Derived.RangeFuncLeaves
import Derived.Shelf.Abstract
import Derived.Shelf.RegionOpen
import Derived.WalkKit
import Derived.OwnWalkIn
import Derived.TacticsInMore
import Derived.LoopNIn
import Derived.LoopIn
import Derived.Test.YtdplnedpbkpgpaaGreatDoorSgA
import Derived.Test.YtdplnedpbkpgpaaGreatDoorSgB
import Derived.Test.YtdplnedpbkpgpaaGreatDoorShelf
import Derived.Test.YtdplnedpbkpgpaaGreatDoorEngF
import Derived.ChangeKeysEq
import Derived.Test.YtdplnedpbkpgpaaGreatDoorEngG
namespace Go.Proofs.YtdplnedpbkpgpaaGreatDoor
set_option linter.all false
open Go.RowKit

/-- The result set. -/
def rset (w : World) (q : Nat) (m : RQ) : World := (((((((((((w.setCell ⟨q, 0, none⟩ (.int .i64 m.kind)).setCell ⟨q, 1, none⟩ (.string m.text)).setCell ⟨q, 2, none⟩ (.string m.value)).setCell ⟨q, 3, none⟩ (.string m.lang)).setCell ⟨q, 4, none⟩ (.int .u32 m.cols)).setCell ⟨q, 5, none⟩ (.int .u32 m.rows)).setCell ⟨q, 6, none⟩ (.int .u32 m.width)).setCell ⟨q, 7, none⟩ (.int .u32 m.height)).setCell ⟨q, 8, none⟩ (.slice m.mA m.modes.length m.mc)).setCell ⟨q, 9, none⟩ (.bool m.on)).setCell ⟨q, 10, none⟩ (.int .u32 m.code))
theorem rsetB {w : World} {q : Nat} {m0 : RQ} (m : RQ) (K : Blk w q 63 m0.cells) : Blk (rset w q m) q 63 m.cells := (((((((((((K.set_ 0 _).set_ 1 _).set_ 2 _).set_ 3 _).set_ 4 _).set_ 5 _).set_ 6 _).set_ 7 _).set_ 8 _).set_ 9 _).set_ 10 _)
theorem rsetO {L : List Nat} {w0 w : World} {q : Nat} (m : RQ) (hq : q ∈ L ∨ w0.heap.size ≤ q) (h : Only L w0 w) : Only L w0 (rset w q m) := (((((((((((h.setCell (p := ⟨q, 0, none⟩) hq _).setCell (p := ⟨q, 1, none⟩) hq _).setCell (p := ⟨q, 2, none⟩) hq _).setCell (p := ⟨q, 3, none⟩) hq _).setCell (p := ⟨q, 4, none⟩) hq _).setCell (p := ⟨q, 5, none⟩) hq _).setCell (p := ⟨q, 6, none⟩) hq _).setCell (p := ⟨q, 7, none⟩) hq _).setCell (p := ⟨q, 8, none⟩) hq _).setCell (p := ⟨q, 9, none⟩) hq _).setCell (p := ⟨q, 10, none⟩) hq _)
theorem ret_req {fn : Func} {p t : Tmp} {R : Ending → World → Prop} {a : Act} {w : World} {g : Nat} (m : RQ) (h : fn.results = #[.cell p 63, .tmp t]) (hp : a.tmps.getD p undef = .pointer (some ⟨g, 0, none⟩)) (hd : a.defers = [])
    (hg : Blk w g 63 m.cells) (hR : R (.returned (.tuple #[m.val, a.tmps.getD t undef])) w) : bodyPost Tryz.prog fn R .ret a w :=
  ret_row_tmp m.cells.toArray h hp hd hg Tryz.underlying63 rfl (by unfold RQ.cells; kernel_rfl) hR
/-- A request's modes can be written. -/
def RSoft (m : RQ) (w : World) : Prop := ∀ a, m.mA = some a → ∀ i, i < m.modes.length → w.frozen? (a.add i) = false
theorem RSoft.onlyL {w w' : World} {m : RQ} {L : List Nat} (h : RSoft m w) (ho : m.ok w) (hb : Only L w w') (hL : ∀ a, m.mA = some a → 0 < m.modes.length → a.block ∉ L) : RSoft m w' := by
  intro a ha i hi
  obtain ⟨b, off, e, hlt, _⟩ := ho.modes (by omega)
  rw [ha] at e
  injection e with e
  refine (World.frozen?_of_block (w := w) ?_).trans (h a ha i hi)
  rw [block_add]
  exact hb.block _ (by rw [e]; exact hlt) (hL a ha (by omega))
theorem RQ.ok.onlyL {w w' : World} {L : List Nat} {m : RQ} (h : m.ok w) (hb : Only L w w') (hn : ∀ a, m.mA = some a → 0 < m.modes.length → a.block ∉ L) : m.ok w' :=
  { h with modes := RdG.onlyL h.modes hb hn }
/-- What Decode hands on. -/
def RDecPost (w : World) (s : ByteArray) (l : List Int) : Ending → World → Prop := fun e w' => Only [] w w' ∧ ∃ (m : RQ) (E : Int), e = .returned (.tuple #[m.val, .int .i64 E]) ∧ m.ok w' ∧ (∀ a, m.mA = some a → w.heap.size ≤ a.block) ∧ RSoft m w' ∧ DecR s l m E
theorem zeroR_new (B : Nat) : ∀ a, zeroR.mA = some a → B ≤ a.block := fun a ha => by simp [zeroR] at ha
theorem zeroR_soft (w : World) : RSoft zeroR w := fun a ha => by simp [zeroR] at ha
structure PutOk (w : World) (B : Nat) (m : RQ) : Prop where
  ok : m.ok w
  new : ∀ a, m.mA = some a → B ≤ a.block
  soft : RSoft m w
theorem put_ok {w : World} {B : Nat} {fs : List FD} (k : Nat) (h1 : 1 ≤ k) (h2 : k ≤ 10) (hk : fs.map (fun f => f.pf.kind) = rkinds k) (hm : ∀ f ∈ fs, FD.mine w f B) (hn : ∀ f ∈ fs, U32 f.n ∧ InB f.text) : PutOk w B (putR (firstR k) k fs) := by
  have z0 : PutOk w B (firstR k) := ⟨firstR_ok w k, fun a ha => by simp [firstR, zeroR] at ha, fun a ha => by simp [firstR, zeroR] at ha⟩
  have hs : ∀ f ∈ fs, (strOfNums f.text).size ≤ maxLen := fun f hf => by rw [str_size]; exact Nat.le_trans (hm f hf).ok.tle (hm f hf).ok.tmax
  have z : U32 0 := ⟨by decide, by decide⟩
  rcases k10 h1 h2 with rfl | rfl | rfl | rfl | rfl | rfl | rfl | rfl | rfl | rfl
  · obtain ⟨x1, x2, x3, x4, x5, x6, rfl, _⟩ := ks6 hk
    exact ⟨{ z0.ok with text := hs x1 (by simp), nums := ⟨(hn x2 (by simp)).1, (hn x3 (by simp)).1, (hn x4 (by simp)).1, (hn x5 (by simp)).1, z⟩, modes := (hm x6 (by simp)).ok.text, mle := (hm x6 (by simp)).ok.tle, mmax := (hm x6 (by simp)).ok.tmax, bytes := (hn x6 (by simp)).2 }, (hm x6 (by simp)).new.1, (hm x6 (by simp)).soft⟩
  · obtain ⟨x1, x2, rfl, _⟩ := ks2 hk
    exact ⟨{ z0.ok with text := hs x1 (by simp), value := hs x2 (by simp) }, z0.new, z0.soft⟩
  · exact z0
  · obtain ⟨x1, rfl, _⟩ := ks1 hk
    exact ⟨{ z0.ok with text := hs x1 (by simp) }, z0.new, z0.soft⟩
  · obtain ⟨x1, rfl, _⟩ := ks1 hk
    exact ⟨{ z0.ok with text := hs x1 (by simp) }, z0.new, z0.soft⟩
  · obtain ⟨x1, x2, x3, x4, rfl, _⟩ := ks4 hk
    exact ⟨{ z0.ok with nums := ⟨(hn x1 (by simp)).1, (hn x2 (by simp)).1, (hn x3 (by simp)).1, (hn x4 (by simp)).1, z⟩ }, z0.new, z0.soft⟩
  · obtain ⟨x1, rfl, _⟩ := ks1 hk
    exact ⟨{ z0.ok with }, z0.new, z0.soft⟩
  · obtain ⟨x1, rfl, _⟩ := ks1 hk
    exact ⟨{ z0.ok with text := hs x1 (by simp) }, z0.new, z0.soft⟩
  · obtain ⟨x1, rfl, _⟩ := ks1 hk
    exact ⟨{ z0.ok with nums := ⟨z, z, z, z, (hn x1 (by simp)).1⟩ }, z0.new, z0.soft⟩
  · obtain ⟨x1, x2, x3, x4, rfl, _⟩ := ks4 hk
    exact ⟨{ z0.ok with text := hs x1 (by simp), value := hs x3 (by simp), lang := hs x4 (by simp) }, z0.new, z0.soft⟩
theorem str_ne {x y : ByteArray} (h : ¬ x = y) : (x.toList == y.toList) = false := by
  rw [beq_eq_false_iff_ne]
  intro e
  rw [ByteArray.toList_eq, ByteArray.toList_eq] at e
  exact h (bytes_ext e)
theorem rule_index0 (q : Nat) (w : World) : (Instr.index 133 (.agg (rtab q)) (.int .i64 ((0 : Nat) : Int))).run Tryz.prog w = .ok (.agg #[.string ⟨#[]⟩, .slice none 0 0, .nilFunc, .nilFunc, .nilFunc]) w := by kernel_rfl
theorem kinds_len (k : Nat) : (rkinds k).length ≤ 6 := by unfold rkinds; split <;> decide
theorem decR_none {s : ByteArray} (l : List Int) (h : ∀ j, 1 ≤ j → j < 11 → rname j ≠ s) : DecR s l zeroR 8 := by
  unfold DecR
  cases hk : kindL s.data.toList with
  | none => exact ⟨rfl, rfl⟩
  | some k =>
    obtain ⟨h1, h2, e⟩ := kindL_range hk
    exact absurd (bytes_ext (by rw [rname_data, e])) (h k h1 (by omega))
theorem decR_kind {k : Nat} (h1 : 1 ≤ k) (h2 : k ≤ 10) {l : List Int} {m : RQ} {E : Int} (h : DecK k l m E) : DecR (rname k) l m E := by
  unfold DecR
  rw [rname_data, kindL_name k h1 h2]
  exact h
set_option maxRecDepth 100000 in
set_option maxHeartbeats 6400000 in
theorem rdecode_any (s : ByteArray) (A : Option Addr) (l : List Int) (c : Nat) (i0 : Int) (w : World) (hm : w.cell? ⟨0, 0, none⟩ = some (.int .i64 i0)) (h : Rd w A l) (hl : ∀ x ∈ l, 0 ≤ x ∧ x < 256) (hln : l.length ≤ 140737488355000) (hlc : l.length ≤ c) (hlm : c ≤ maxLen) (hal : ∀ a, A = some a → a.block < w.heap.size) :
    Calls Tryz.prog 28 #[.string s, .slice A l.length c] w (RDecPost w s l) := by
  obtain ⟨ln, hn⟩ : ∃ ln, l.length = ln := ⟨_, rfl⟩
  have h0 : 0 < w.heap.size := Nat.pos_of_ne_zero (fun e => by
    have := block_lt_of_cell hm
    simp only at this
    omega)
  obtain ⟨w1, hw1⟩ : ∃ w1, w1 = w.alloc (.cells #[.int .i64 0, .string ⟨#[]⟩, .string ⟨#[]⟩, .string ⟨#[]⟩, .int .u32 0, .int .u32 0, .int .u32 0, .int .u32 0, .slice none 0 0, .bool false, .int .u32 0] 63) := ⟨_, rfl⟩
  have P1 : Only [] w w1 := by rw [hw1]; exact (Only.refl _ _).alloc _
  have K1 : Blk w1 w.heap.size 63 zeroR.cells := by rw [hw1]; exact Blk.new w _ _
  have RU := rules_any w1
  obtain ⟨tb, htb⟩ : ∃ tb, rtab w1.heap.size = tb := ⟨_, rfl⟩
  have hix := fun k h1 h2 w' => rule_index w1.heap.size k h1 h2 w'
  have hix0 := fun w' => rule_index0 w1.heap.size w'
  rw [htb] at RU hix0
  replace hix : ∀ k : Nat, 1 ≤ k → k ≤ 10 → ∀ w', (Instr.index 133 (.agg tb) (.int .i64 (k : Int))).run Tryz.prog w' = .ok (ruleV k (kaddr w1.heap.size k)) w' := fun k h1 h2 w' => by rw [← htb]; exact hix k h1 h2 w'
  rw [hn] at hln hlc ⊢
  replace hn := hide hn
  replace htb := hide htb
  replace hix := hide hix
  replace hix0 := hide hix0
  go_enter Tryz.func28, Tryz.ntmps28
  go_wp2_with fail
  rw [← hw1]
  replace hw1 := hide hw1
  go_call RU as e w2 ⟨rfl, P2, z2, R2⟩
  clear RU
  replace z2 := hide z2
  have K2 := K1.only P2 (by simp)
  have O2 : Only [] w w2 := P1.trans P2 (by simp)
  replace R2 := hide R2
  go_wp2_with fail
  go_loopw [13] (fun ii wr => ∃ i : Nat, i ≤ 11 ∧ ii = .int .i64 i ∧ Hid (∀ j, 1 ≤ j → j < i → rname j ≠ s) ∧ Only [] w2 wr) (fun ii _ => 11 - (intOf ii).toNat)
  case atStart => exact ⟨0, by omega, rfl, hide (fun j h1 h2 => by omega), Only.refl _ _⟩
  case round =>
    obtain ⟨wo, rfl⟩ : ∃ wo : World, wo = wr := ⟨_, rfl⟩
    obtain ⟨i, hi, rfl, hne, O⟩ := hrel
    by_cases hlt : i < 11
    · by_cases hi0 : i = 0
      · have hx : ∀ w', (Instr.index 133 (.agg tb) (.int .i64 (i : Int))).run Tryz.prog w' = .ok (.agg #[.string ⟨#[]⟩, .slice none 0 0, .nilFunc, .nilFunc, .nilFunc]) w' := fun w' => by rw [hi0]; exact hix0.out w'
        have ib : ((i : Int) == 0) = true := by simp [hi0]
        have hle : i ≤ 0 := by omega
        clear hi0
        go_wp2_with fail
        go_roundw
        case rel => exact ⟨i + 1, by omega, by go_num, hide (fun j h1 h2 => by omega), O.alloc _⟩
        case measure => simp [intOf]; omega
      · have h1 : 1 ≤ i := by omega
        have h2 : i ≤ 10 := by omega
        have hx := hix.out i h1 h2
        have RKi := R2.out i h1 h2
        obtain ⟨KA, hKA⟩ : ∃ KA, kaddr w1.heap.size i = KA := ⟨_, rfl⟩
        rw [hKA] at hx RKi
        unfold ruleV rfn at hx
        obtain ⟨F2, hF2, cF2, C2⟩ := rput_any i h1 h2
        obtain ⟨F3, hF3, cF3, C3⟩ := ask_any i h1 h2
        obtain ⟨F1, hF1⟩ : ∃ F, rget i = F := ⟨_, rfl⟩
        obtain ⟨n, hnk⟩ : ∃ n, (rkinds i).length = n := ⟨_, rfl⟩
        obtain ⟨nm, hnm⟩ : ∃ nm, rname i = nm := ⟨_, rfl⟩
        rw [hF1, hF2, hF3, hnk, hnm] at hx
        have ib : ((i : Int) == 0) = false := by simp; omega
        replace hKA := hide hKA
        replace hF1 := hide hF1
        replace hF2 := hide hF2
        replace hF3 := hide hF3
        replace C2 := hide C2
        replace C3 := hide C3
        by_cases hnn : nm = s
        · have s1 : (nm.toList == s.toList) = true := by rw [hnn]; simp
          have hsn : s = rname i := by rw [← hnn, ← hnm]
          replace hsn := hide hsn
          replace hnn := hide hnn
          replace hnm := hide hnm
          have B3 : Blk (wo.alloc (.cells #[.string nm, .slice KA n n, .func (Fn.func F1) #[] #[], .func (Fn.func F2) #[] #[], .func (Fn.func F3) #[] #[]] 114)) wo.heap.size 114 [.string nm, .slice KA n n, .func (Fn.func F1) #[] #[], .func (Fn.func F2) #[] #[], .func (Fn.func F3) #[] #[]] := Blk.new _ _ _
          have P3 : Only [] wo (wo.alloc (.cells #[.string nm, .slice KA n n, .func (Fn.func F1) #[] #[], .func (Fn.func F2) #[] #[], .func (Fn.func F3) #[] #[]] 114)) := (Only.refl _ _).alloc _
          obtain ⟨w3, hw3⟩ : ∃ w3, w3 = wo.alloc (.cells #[.string nm, .slice KA n n, .func (Fn.func F1) #[] #[], .func (Fn.func F2) #[] #[], .func (Fn.func F3) #[] #[]] 114) := ⟨_, rfl⟩
          rw [← hw3] at B3 P3
          have OO : Only [] w wo := O2.trans O (by simp)
          have O3 : Only [] w w3 := OO.trans P3 (by simp)
          have z3 := O3.size
          have RD := read_any w3 KA A (rkinds i) l n c i0 (cellL O3 h0 (by simp) hm) ((RKi.only O).only P3) (h.only O3) hl (by have := kinds_len i; omega) (by have := hn.out; omega) (by have := hn.out; omega) hlm (fun a ha => by have := hal a ha; omega)
          obtain ⟨⟨E, ps⟩, hres⟩ : ∃ r, readP (rkinds i) l = r := ⟨_, rfl⟩
          rw [hnk, hn.out, hres] at RD
          have hgood := readP_good (rkinds i) l hl
          rw [hres] at hgood
          have K3 := (K2.only O (by simp)).only P3 (by simp)
          replace hnk := hide hnk
          replace hres := hide hres
          replace hgood := hide hgood
          go_wp2_with fail
          rw [← hw3]
          replace hw3 := hide hw3
          go_call RD as e w4 ⟨P4, Af, cf, fs, rfl, hfs, V4, H4⟩
          clear RD
          (try dsimp only at hfs)
          have K4 := K3.only P4 (by simp)
          have O4 := O3.trans P4 (by simp)
          have B4 := B3.only P4 (by simp)
          have x3 := B4.cell 3
          simp only [List.getElem?_cons_zero, List.getElem?_cons_succ] at x3
          (try dsimp only)
          by_cases hE : E = 0
          · obtain ⟨hg1, hg2⟩ := hgood.out hE
            (try dsimp only at hg1 hg2)
            have hk : fs.map (fun f => f.pf.kind) = rkinds i := by rw [← hg1, ← hfs, List.map_map]; rfl
            have hfl : fs.length = n := by rw [← hnk.out, ← hk, List.length_map]
            have hff : ∀ f ∈ fs, U32 f.n ∧ InB f.text := fun f hf => hg2 f.pf (by rw [← hfs]; exact List.mem_map_of_mem hf)
            have RF : RdF w4 Af fs := V4.rdF (fun f hf => ⟨(H4 f hf).1.ok, (hff f hf).1⟩)
            obtain ⟨_, _, e1, hcf, hcm, _⟩ := V4.form
            have e2 := (Value.slice.inj e1).2.2
            rw [← e2] at hcf hcm
            clear e1 e2
            have PM := put_ok i h1 h2 hk (fun f hf => (H4 f hf).1) hff
            have P5 : Only [] w4 (w4.alloc (.cells #[.int .i64 (i : Int), .string ⟨#[]⟩, .string ⟨#[]⟩, .string ⟨#[]⟩, .int .u32 0, .int .u32 0, .int .u32 0, .int .u32 0, .slice none 0 0, .bool false, .int .u32 0] 119)) := (Only.refl _ _).alloc _
            have K5 : Blk (w4.alloc (.cells #[.int .i64 (i : Int), .string ⟨#[]⟩, .string ⟨#[]⟩, .string ⟨#[]⟩, .int .u32 0, .int .u32 0, .int .u32 0, .int .u32 0, .slice none 0 0, .bool false, .int .u32 0] 119)) w4.heap.size 119 (firstR i).cells := Blk.new _ _ _
            have B5 := B4.only P5 (by simp)
            obtain ⟨w5, hw5⟩ : ∃ w5, w5 = w4.alloc (.cells #[.int .i64 (i : Int), .string ⟨#[]⟩, .string ⟨#[]⟩, .string ⟨#[]⟩, .int .u32 0, .int .u32 0, .int .u32 0, .int .u32 0, .slice none 0 0, .bool false, .int .u32 0] 119) := ⟨_, rfl⟩
            rw [← hw5] at P5 K5 B5
            have CZ := C2.out (firstR i) w4.heap.size w4 w5 Af fs n cf hfl hk (by omega) hcm RF P5 (Nat.le_refl _) K5
            obtain ⟨M, hM⟩ : ∃ M, putR (firstR i) i fs = M := ⟨_, rfl⟩
            rw [hM] at CZ PM
            rw [hfl]
            have hE2 : (E != 0) = false := by simpa using hE
            have hB4l := B4.lt
            have hne4 : ¬ wo.heap.size = w4.heap.size := by omega
            have x3' := B5.cell 3
            simp only [List.getElem?_cons_zero, List.getElem?_cons_succ] at x3'
            replace hE := hide hE
            replace hfl := hide hfl
            replace hk := hide hk
            replace hfs := hide hfs
            replace hg1 := hide hg1
            replace hM := hide hM
            clear hff hg2 V4 H4
            go_wp2_with fail
            rw [← hw5]
            replace hw5 := hide hw5
            go_call CZ as e w6 ⟨rfl, P6, K6⟩
            clear CZ x3 x3'
            have B6 := B5.only P6 (by simp; omega)
            have x4 := B6.cell 4
            simp only [List.getElem?_cons_zero, List.getElem?_cons_succ] at x4
            have P46 : Only [w4.heap.size] w4 w6 := (P5.mono (fun x hx => by simp at hx)).trans P6 (fun x hx => .inl hx)
            have hMb : ∀ a, M.mA = some a → 0 < M.modes.length → a.block ∉ [w4.heap.size] := fun a ha h0 => by
              have := RdG.lt (mk := .int .u8) PM.ok.modes h0 a ha
              simp
              omega
            have Mok := PM.ok.onlyL P46 hMb
            have Mso := PM.soft.onlyL PM.ok P46 hMb
            have CA := C3.out w6 M _ K6 Mok
            obtain ⟨E2, hE2x⟩ : ∃ E2, askR M i = E2 := ⟨_, rfl⟩
            rw [hE2x] at CA
            replace hE2x := hide hE2x
            go_wp2_with fail
            go_call CA as e w7 ⟨rfl, P7⟩
            clear CA x4
            have O7 : Only [] w w7 := (O4.trans P46 (fun x hx => .inr (by simp at hx; have := O4.size; omega))).trans P7 (by simp)
            have K7 := (K4.only P46 (by have := K4.lt; have := K1.lt; simp; omega)).only P7 (by simp)
            have KM := K6.only P7 (by simp)
            have Mok7 := Mok.only P7
            have Mso7 := Mso.onlyL Mok P7 (by simp)
            have g0 : w7.cell? ⟨w.heap.size, 0, none⟩ = some (.int .i64 0) := K7.cell 0
            have f0 := K7.frozen 0
            have g1 : w7.cell? ⟨w.heap.size, 1, none⟩ = some (.string ⟨#[]⟩) := K7.cell 1
            have f1 := K7.frozen 1
            have g2 : w7.cell? ⟨w.heap.size, 2, none⟩ = some (.string ⟨#[]⟩) := K7.cell 2
            have f2 := K7.frozen 2
            have g3 : w7.cell? ⟨w.heap.size, 3, none⟩ = some (.string ⟨#[]⟩) := K7.cell 3
            have f3 := K7.frozen 3
            have g4 : w7.cell? ⟨w.heap.size, 4, none⟩ = some (.int .u32 0) := K7.cell 4
            have f4 := K7.frozen 4
            have g5 : w7.cell? ⟨w.heap.size, 5, none⟩ = some (.int .u32 0) := K7.cell 5
            have f5 := K7.frozen 5
            have g6 : w7.cell? ⟨w.heap.size, 6, none⟩ = some (.int .u32 0) := K7.cell 6
            have f6 := K7.frozen 6
            have g7 : w7.cell? ⟨w.heap.size, 7, none⟩ = some (.int .u32 0) := K7.cell 7
            have f7 := K7.frozen 7
            have g8 : w7.cell? ⟨w.heap.size, 8, none⟩ = some (.slice none 0 0) := K7.cell 8
            have f8 := K7.frozen 8
            have g9 : w7.cell? ⟨w.heap.size, 9, none⟩ = some (.bool false) := K7.cell 9
            have f9 := K7.frozen 9
            have g10 : w7.cell? ⟨w.heap.size, 10, none⟩ = some (.int .u32 0) := K7.cell 10
            have f10 := K7.frozen 10
            by_cases hz : E2 = 0
            · have hzb : (E2 != 0) = false := by simpa using hz
              have hD : DecR s l M 0 := by
                rw [hsn.out]
                refine decR_kind h1 h2 ?_
                unfold DecK
                rw [hres.out, if_neg (by simpa using hE.out)]
                refine ⟨fs, hfs.out, ?_⟩
                rw [hM.out, hE2x.out, if_pos hz]
                exact ⟨rfl, rfl⟩
              replace hz := hide hz
              have b0 : w7.cell? ⟨w4.heap.size, 0, none⟩ = some (.int .i64 M.kind) := KM.cell 0
              have b1 : w7.cell? ⟨w4.heap.size, 1, none⟩ = some (.string M.text) := KM.cell 1
              have b2 : w7.cell? ⟨w4.heap.size, 2, none⟩ = some (.string M.value) := KM.cell 2
              have b3 : w7.cell? ⟨w4.heap.size, 3, none⟩ = some (.string M.lang) := KM.cell 3
              have b4 : w7.cell? ⟨w4.heap.size, 4, none⟩ = some (.int .u32 M.cols) := KM.cell 4
              have b5 : w7.cell? ⟨w4.heap.size, 5, none⟩ = some (.int .u32 M.rows) := KM.cell 5
              have b6 : w7.cell? ⟨w4.heap.size, 6, none⟩ = some (.int .u32 M.width) := KM.cell 6
              have b7 : w7.cell? ⟨w4.heap.size, 7, none⟩ = some (.int .u32 M.height) := KM.cell 7
              have b8 : w7.cell? ⟨w4.heap.size, 8, none⟩ = some (.slice M.mA M.modes.length M.mc) := KM.cell 8
              have b9 : w7.cell? ⟨w4.heap.size, 9, none⟩ = some (.bool M.on) := KM.cell 9
              have b10 : w7.cell? ⟨w4.heap.size, 10, none⟩ = some (.int .u32 M.code) := KM.cell 10
              go_wp2_with fail
              (try simp only [Exit.inBlock, Exit.then])
              refine ret_req (g := w.heap.size) M rfl (by rfl) (by rfl) (rsetB M K7) ?_
              have hx := rsetO M (L := [w.heap.size]) (w0 := w7) (w := w7) (q := w.heap.size) (.inl (by simp)) (Only.refl _ _)
              have hno : ∀ a, M.mA = some a → 0 < M.modes.length → a.block ∉ [w.heap.size] := fun a ha h0 => by
                have := PM.new a ha
                have := K3.lt
                simp
                omega
              exact ⟨rsetO M (.inr (Nat.le_refl _)) O7, M, 0, rfl, Mok7.onlyL hx hno, fun a ha => by have := PM.new a ha; omega, Mso7.onlyL Mok7 hx hno, hD⟩
            · have hzb : (E2 != 0) = true := by simpa using hz
              have hD : DecR s l zeroR E2 := by
                rw [hsn.out]
                refine decR_kind h1 h2 ?_
                unfold DecK
                rw [hres.out, if_neg (by simpa using hE.out)]
                refine ⟨fs, hfs.out, ?_⟩
                rw [hM.out, hE2x.out, if_neg hz]
                exact ⟨rfl, rfl⟩
              replace hz := hide hz
              go_wp2_with fail
              (try simp only [Exit.inBlock, Exit.then])
              refine ret_req (g := w.heap.size) zeroR rfl (by rfl) (by rfl) (rsetB zeroR K7) ?_
              exact ⟨rsetO zeroR (.inr (Nat.le_refl _)) O7, zeroR, E2, rfl, zeroR_ok _, zeroR_new _, zeroR_soft _, hD⟩
          · have hzb : (E != 0) = true := by simpa using hE
            have hD : DecR s l zeroR E := by
              rw [hsn.out]
              refine decR_kind h1 h2 ?_
              unfold DecK
              rw [hres.out, if_pos hE]
              exact ⟨rfl, rfl⟩
            replace hE := hide hE
            replace hfs := hide hfs
            have g0 : w4.cell? ⟨w.heap.size, 0, none⟩ = some (.int .i64 0) := K4.cell 0
            have f0 := K4.frozen 0
            have g1 : w4.cell? ⟨w.heap.size, 1, none⟩ = some (.string ⟨#[]⟩) := K4.cell 1
            have f1 := K4.frozen 1
            have g2 : w4.cell? ⟨w.heap.size, 2, none⟩ = some (.string ⟨#[]⟩) := K4.cell 2
            have f2 := K4.frozen 2
            have g3 : w4.cell? ⟨w.heap.size, 3, none⟩ = some (.string ⟨#[]⟩) := K4.cell 3
            have f3 := K4.frozen 3
            have g4 : w4.cell? ⟨w.heap.size, 4, none⟩ = some (.int .u32 0) := K4.cell 4
            have f4 := K4.frozen 4
            have g5 : w4.cell? ⟨w.heap.size, 5, none⟩ = some (.int .u32 0) := K4.cell 5
            have f5 := K4.frozen 5
            have g6 : w4.cell? ⟨w.heap.size, 6, none⟩ = some (.int .u32 0) := K4.cell 6
            have f6 := K4.frozen 6
            have g7 : w4.cell? ⟨w.heap.size, 7, none⟩ = some (.int .u32 0) := K4.cell 7
            have f7 := K4.frozen 7
            have g8 : w4.cell? ⟨w.heap.size, 8, none⟩ = some (.slice none 0 0) := K4.cell 8
            have f8 := K4.frozen 8
            have g9 : w4.cell? ⟨w.heap.size, 9, none⟩ = some (.bool false) := K4.cell 9
            have f9 := K4.frozen 9
            have g10 : w4.cell? ⟨w.heap.size, 10, none⟩ = some (.int .u32 0) := K4.cell 10
            have f10 := K4.frozen 10
            go_wp2_with fail
            (try simp only [Exit.inBlock, Exit.then])
            refine ret_req (g := w.heap.size) zeroR rfl (by rfl) (by rfl) (rsetB zeroR K4) ?_
            exact ⟨rsetO zeroR (.inr (Nat.le_refl _)) O4, zeroR, E, rfl, zeroR_ok _, zeroR_new _, zeroR_soft _, hD⟩
        · have s1 : (nm.toList == s.toList) = false := str_ne hnn
          have hne2 : ∀ j, 1 ≤ j → j < i + 1 → rname j ≠ s := fun j h1 h2 => by
            by_cases hj : j = i
            · rw [hj, hnm]; exact hnn
            · exact hne.out j h1 (by omega)
          replace hne2 := hide hne2
          replace hnm := hide hnm
          replace hnn := hide hnn
          go_wp2_with fail
          go_roundw
          case rel => exact ⟨i + 1, by omega, by go_num, hne2, O.alloc _⟩
          case measure => simp [intOf]; omega
    · obtain rfl : i = 11 := by omega
      have hD := decR_none l hne.out
      have KO := K2.only O (by simp)
      have g0 : wo.cell? ⟨w.heap.size, 0, none⟩ = some (.int .i64 0) := KO.cell 0
      have f0 := KO.frozen 0
      have g1 : wo.cell? ⟨w.heap.size, 1, none⟩ = some (.string ⟨#[]⟩) := KO.cell 1
      have f1 := KO.frozen 1
      have g2 : wo.cell? ⟨w.heap.size, 2, none⟩ = some (.string ⟨#[]⟩) := KO.cell 2
      have f2 := KO.frozen 2
      have g3 : wo.cell? ⟨w.heap.size, 3, none⟩ = some (.string ⟨#[]⟩) := KO.cell 3
      have f3 := KO.frozen 3
      have g4 : wo.cell? ⟨w.heap.size, 4, none⟩ = some (.int .u32 0) := KO.cell 4
      have f4 := KO.frozen 4
      have g5 : wo.cell? ⟨w.heap.size, 5, none⟩ = some (.int .u32 0) := KO.cell 5
      have f5 := KO.frozen 5
      have g6 : wo.cell? ⟨w.heap.size, 6, none⟩ = some (.int .u32 0) := KO.cell 6
      have f6 := KO.frozen 6
      have g7 : wo.cell? ⟨w.heap.size, 7, none⟩ = some (.int .u32 0) := KO.cell 7
      have f7 := KO.frozen 7
      have g8 : wo.cell? ⟨w.heap.size, 8, none⟩ = some (.slice none 0 0) := KO.cell 8
      have f8 := KO.frozen 8
      have g9 : wo.cell? ⟨w.heap.size, 9, none⟩ = some (.bool false) := KO.cell 9
      have f9 := KO.frozen 9
      have g10 : wo.cell? ⟨w.heap.size, 10, none⟩ = some (.int .u32 0) := KO.cell 10
      have f10 := KO.frozen 10
      go_wp2_with fail
      (try simp only [Exit.inBlock, Exit.then])
      refine ret_req (g := w.heap.size) zeroR rfl (by rfl) (by rfl) (rsetB zeroR KO) ?_
      exact ⟨rsetO zeroR (.inr (Nat.le_refl _)) (O2.trans O (by simp)), zeroR, 8, rfl, zeroR_ok _, zeroR_new _, zeroR_soft _, hD⟩
end Go.Proofs.YtdplnedpbkpgpaaGreatDoor

namespace Go.Proofs.YtdplnedpbkpgpaaGreatDoor
open Go.RowKit Go.Shelf
set_option linter.all false
attribute [local go_sem] Oper.semAt_some

set_option maxHeartbeats 1000000 in
theorem bit_in (F : Fence) (n : Nat) (hF : F.fn 45) (hro : F.round = none) (op : Int) (h1 : 30 ≤ op) (h2 : op ≤ 93) (w : World) : CallsIn F n Tryz.prog 45 #[.int .i64 op] w fun e w' => e = .returned (.int .u64 (bitI op)) ∧ w' = w := by
  have e2 : IntKind.u64.wrap (2 ^ (op - 30).toNat) = bitI op := by
    unfold bitI
    have h3 : (2 : Int) ^ (op - 30).toNat = ((2 ^ (op - 30).toNat : Nat) : Int) := (Int.natCast_pow 2 _).symm
    have h6 : (op - 30).toNat < 64 := by omega
    have h4 : 2 ^ (op - 30).toNat < 2 ^ 64 := Nat.pow_lt_pow_right (by decide) h6
    rw [h3]
    generalize 2 ^ (op - 30).toNat = q at h4
    have h7 : q < 18446744073709551616 := h4
    have h5 : (q : Int) < 18446744073709551616 := by omega
    show ((q : Int) % (18446744073709551616 : Int)) = _
    exact Int.emod_eq_of_lt (Int.natCast_nonneg q) h5
  refine callsIn_of_wp Tryz.func45 rfl hF ?_ hro
  simp only [Tryz.ntmps45, List.size_toArray, List.length_cons, List.length_nil, Nat.reduceAdd, Nat.reduceSub, Array.replicate_succ, Array.replicate_zero, List.push_toArray, List.append_toArray, List.nil_append, List.cons_append]
  gi_wp2
  go_ret
  exact ⟨rfl, rfl⟩
theorem flagsF_any (w : World) : Calls Tryz.prog 44 #[] w fun e w' => e = .returned (.func (.func 69) #[] #[]) ∧ Only [] w w' := by
  refine Hs.enter Tryz.func44 [] [] [] [] (Mem.start0 w) (by kernel_rfl) (by kernel_rfl) ?_
  refine Hs.run0 300 (fun _ => by kernel_rfl) ?_
  exact Hs.ret (v := .func (.func 69) #[] #[]) Tryz.func44 (by kernel_rfl) fun w' H => ⟨rfl, H.only⟩
/-- Numbers of flags. -/
abbrev FI := { x : Int // 30 ≤ x ∧ x ≤ 93 }
def mkF (x : Int) : FI := if h : 30 ≤ x ∧ x ≤ 93 then ⟨x, h⟩ else ⟨30, by decide⟩
theorem mkF_val {x : Int} (h : 30 ≤ x ∧ x ≤ 93) : (mkF x).1 = x := by unfold mkF; rw [dif_pos h]
def rng (lo : Int) (n : Nat) : List FI := (List.range n).map fun j => mkF (lo + (j : Nat))
theorem rng_succ (lo : Int) (n : Nat) : rng lo (n + 1) = rng lo n ++ [mkF (lo + (n : Nat))] := by simp [rng, List.range_succ]
theorem rng_len (lo : Int) (n : Nat) : (rng lo n).length = n := by simp [rng]
def upG : Nat → List FI
  | 0 => []
  | 1 => rng 30 13
  | 2 => rng 30 13 ++ rng 50 13
  | 3 => rng 30 13 ++ rng 50 13 ++ rng 70 6
  | 4 => rng 30 13 ++ rng 50 13 ++ rng 70 6 ++ rng 90 4
  | _ => []
theorem upG_1 : upG 1 = upG 0 ++ rng 30 13 := by simp [upG]
theorem upG_2 : upG 2 = upG 1 ++ rng 50 13 := by simp [upG]
theorem upG_3 : upG 3 = upG 2 ++ rng 70 6 := by simp [upG]
theorem upG_4 : upG 4 = upG 3 ++ rng 90 4 := by simp [upG]
/-- All flags, in their order. -/
def flagL : List FI := upG 4
/-- Cells beside the block B stay. -/
def KpB (B : Nat) (W W' : World) : Prop := W.heap.size ≤ W'.heap.size ∧ ∀ (a : Addr) (v : Value), a.block ≠ B → W.cell? a = some v → W'.cell? a = some v
theorem KpB.trans {B : Nat} {W W' W'' : World} (h : KpB B W W') (h' : KpB B W' W'') : KpB B W W'' := ⟨Nat.le_trans h.1 h'.1, fun a v hb hc => h'.2 a v hb (h.2 a v hb hc)⟩
theorem only_grown {w w' : World} (h : Only [] w w') : w.grownBy w' none := ⟨h.os, h.tape, h.output, h.size, fun k hk _ => h.block k hk (by simp)⟩
set_option maxRecDepth 100000 in
set_option maxHeartbeats 4000000 in
/-- The flags' iterator: all of them, in order. -/
theorem flags_stops (n B : Nat) (hn : 1 ≤ n) (w : World) (hB : B < w.heap.size) : SeqStopsK Fence.wide n Tryz.prog 69 #[] (fun x : FI => #[Value.int .i64 x.1]) (KpB B) (fun xs => xs = flagL) (fun _ => True) 36 w := fun l J Jx W hW hJ _ hY h0 => by
  refine callsIn_of_wp Tryz.func69 rfl trivial ?_ rfl
  simp only [Tryz.ntmps69, List.size_toArray, List.length_cons, List.length_nil, Nat.reduceAdd, Nat.reduceSub, Array.replicate_succ, Array.replicate_zero, List.push_toArray, List.append_toArray, List.nil_append, List.cons_append]
  gi_wp2_with (refine ⟨trivial, ?_⟩; gi_at_call 70; refine (callsIn_wide.2 (groups_any _)).mono ?_; rintro e w1 ⟨rfl, hO⟩)
  have hJ0 : J [] w1 := hJ [] W w1 none h0 (only_grown hO) (fun r e => by cases e)
  have hsz : W.heap.size ≤ w1.heap.size := hO.size
  have hB1 : B < W.heap.size := Nat.lt_of_lt_of_le hB hW.size
  gi_loopw [6] (fun p wr => ∃ k : Nat, k ≤ 4 ∧ p = .int .i64 (k : Nat) ∧ J (upG k) wr ∧ W.heap.size ≤ wr.heap.size)
    (fun p _ => 4 - (intOf p).toNat)
  case atStart => exact ⟨0, by omega, rfl, hJ0, hsz⟩
  case round =>
    obtain ⟨k, hk, rfl, hJs, hsw⟩ := hrel
    obtain ⟨wo, rfl⟩ : ∃ wo : World, wo = wr := ⟨_, rfl⟩
    have hk5 : k = 0 ∨ k = 1 ∨ k = 2 ∨ k = 3 ∨ k = 4 := by omega
    rcases hk5 with rfl | rfl | rfl | rfl | rfl
    · gi_wp2
      have hix : ∀ w, (Instr.index 164 (.agg #[.int .i64 30, .int .i64 42, .int .i64 50, .int .i64 62, .int .i64 70, .int .i64 75, .int .i64 90, .int .i64 93]) (.int .i64 0)).run Tryz.prog w = .ok (.agg #[.int .i64 30, .int .i64 42]) w := fun w => by kernel_rfl
      rw [hix]
      gi_wp2
      gi_loopw [4] (fun p wr2 => ∃ j : Nat, j ≤ 13 ∧ p = .int .i64 (30 + (j : Nat)) ∧ J (upG 0 ++ rng 30 j) wr2 ∧ wr2.cell? ⟨wo.heap.size, 1, none⟩ = some (.int .i64 42) ∧ wo.heap.size ≤ wr2.heap.size)
        (fun p _ => 13 - (intOf p - 30).toNat)
      case atStart =>
        exact ⟨0, by omega, by simp, by
          rw [show upG 0 ++ rng 30 0 = upG 0 by simp [rng]]
          exact hJ _ wo _ none hJs (World.grownBy_alloc wo _ none) (fun r e => by cases e), (Blk.new wo 163 [.int .i64 30, .int .i64 42]).cell 1, by simp⟩
      case round =>
        obtain ⟨j, hj, rfl, hJ2, hc2, hs2⟩ := hrel
        by_cases hlt : j < 13
        · obtain ⟨fn, tmps, assign, body, hy, hR⟩ := hY _ (mkF (30 + (j : Nat))) _ hJ2 (by rw [List.length_append, rng_len]; show 0 + j < 36; omega)
          have hmk : (mkF (30 + (j : Nat))).1 = 30 + (j : Nat) := mkF_val ⟨by omega, by omega⟩
          rw [hmk] at hy
          gi_wp2
          refine hR.mono ?_
          rintro e W3 (⟨rfl, hJ3, hk3⟩ | ⟨rfl, hJx3⟩)
          · gi_wp2
            go_roundw
            case rel => exact ⟨j + 1, by omega, by simp; omega, by rw [rng_succ, ← List.append_assoc]; exact hJ3, hk3.2 ⟨wo.heap.size, 1, none⟩ _ (by show wo.heap.size ≠ B; omega) hc2, Nat.le_trans hs2 hk3.1⟩
            case measure => simp [intOf]; omega
          · gi_wp2
            refine bodyPost_ret (results_none rfl _ _ _) rfl ?_
            exact ⟨⟨_, rfl⟩, .inr ⟨_, trivial, hJx3⟩⟩
        · obtain rfl : j = 13 := by omega
          gi_wp2
          go_roundw
          case rel => exact ⟨1, by omega, by simp, by rw [upG_1]; exact hJ2, Nat.le_trans hsw hs2⟩
          case measure => simp [intOf]
    · gi_wp2
      have hix : ∀ w, (Instr.index 164 (.agg #[.int .i64 30, .int .i64 42, .int .i64 50, .int .i64 62, .int .i64 70, .int .i64 75, .int .i64 90, .int .i64 93]) (.int .i64 1)).run Tryz.prog w = .ok (.agg #[.int .i64 50, .int .i64 62]) w := fun w => by kernel_rfl
      rw [hix]
      gi_wp2
      gi_loopw [4] (fun p wr2 => ∃ j : Nat, j ≤ 13 ∧ p = .int .i64 (50 + (j : Nat)) ∧ J (upG 1 ++ rng 50 j) wr2 ∧ wr2.cell? ⟨wo.heap.size, 1, none⟩ = some (.int .i64 62) ∧ wo.heap.size ≤ wr2.heap.size)
        (fun p _ => 13 - (intOf p - 50).toNat)
      case atStart =>
        exact ⟨0, by omega, by simp, by
          rw [show upG 1 ++ rng 50 0 = upG 1 by simp [rng]]
          exact hJ _ wo _ none hJs (World.grownBy_alloc wo _ none) (fun r e => by cases e), (Blk.new wo 163 [.int .i64 50, .int .i64 62]).cell 1, by simp⟩
      case round =>
        obtain ⟨j, hj, rfl, hJ2, hc2, hs2⟩ := hrel
        by_cases hlt : j < 13
        · obtain ⟨fn, tmps, assign, body, hy, hR⟩ := hY _ (mkF (50 + (j : Nat))) _ hJ2 (by rw [List.length_append, rng_len]; show 13 + j < 36; omega)
          have hmk : (mkF (50 + (j : Nat))).1 = 50 + (j : Nat) := mkF_val ⟨by omega, by omega⟩
          rw [hmk] at hy
          gi_wp2
          refine hR.mono ?_
          rintro e W3 (⟨rfl, hJ3, hk3⟩ | ⟨rfl, hJx3⟩)
          · gi_wp2
            go_roundw
            case rel => exact ⟨j + 1, by omega, by simp; omega, by rw [rng_succ, ← List.append_assoc]; exact hJ3, hk3.2 ⟨wo.heap.size, 1, none⟩ _ (by show wo.heap.size ≠ B; omega) hc2, Nat.le_trans hs2 hk3.1⟩
            case measure => simp [intOf]; omega
          · gi_wp2
            refine bodyPost_ret (results_none rfl _ _ _) rfl ?_
            exact ⟨⟨_, rfl⟩, .inr ⟨_, trivial, hJx3⟩⟩
        · obtain rfl : j = 13 := by omega
          gi_wp2
          go_roundw
          case rel => exact ⟨2, by omega, by simp, by rw [upG_2]; exact hJ2, Nat.le_trans hsw hs2⟩
          case measure => simp [intOf]
    · gi_wp2
      have hix : ∀ w, (Instr.index 164 (.agg #[.int .i64 30, .int .i64 42, .int .i64 50, .int .i64 62, .int .i64 70, .int .i64 75, .int .i64 90, .int .i64 93]) (.int .i64 2)).run Tryz.prog w = .ok (.agg #[.int .i64 70, .int .i64 75]) w := fun w => by kernel_rfl
      rw [hix]
      gi_wp2
      gi_loopw [4] (fun p wr2 => ∃ j : Nat, j ≤ 6 ∧ p = .int .i64 (70 + (j : Nat)) ∧ J (upG 2 ++ rng 70 j) wr2 ∧ wr2.cell? ⟨wo.heap.size, 1, none⟩ = some (.int .i64 75) ∧ wo.heap.size ≤ wr2.heap.size)
        (fun p _ => 6 - (intOf p - 70).toNat)
      case atStart =>
        exact ⟨0, by omega, by simp, by
          rw [show upG 2 ++ rng 70 0 = upG 2 by simp [rng]]
          exact hJ _ wo _ none hJs (World.grownBy_alloc wo _ none) (fun r e => by cases e), (Blk.new wo 163 [.int .i64 70, .int .i64 75]).cell 1, by simp⟩
      case round =>
        obtain ⟨j, hj, rfl, hJ2, hc2, hs2⟩ := hrel
        by_cases hlt : j < 6
        · obtain ⟨fn, tmps, assign, body, hy, hR⟩ := hY _ (mkF (70 + (j : Nat))) _ hJ2 (by rw [List.length_append, rng_len]; show 26 + j < 36; omega)
          have hmk : (mkF (70 + (j : Nat))).1 = 70 + (j : Nat) := mkF_val ⟨by omega, by omega⟩
          rw [hmk] at hy
          gi_wp2
          refine hR.mono ?_
          rintro e W3 (⟨rfl, hJ3, hk3⟩ | ⟨rfl, hJx3⟩)
          · gi_wp2
            go_roundw
            case rel => exact ⟨j + 1, by omega, by simp; omega, by rw [rng_succ, ← List.append_assoc]; exact hJ3, hk3.2 ⟨wo.heap.size, 1, none⟩ _ (by show wo.heap.size ≠ B; omega) hc2, Nat.le_trans hs2 hk3.1⟩
            case measure => simp [intOf]; omega
          · gi_wp2
            refine bodyPost_ret (results_none rfl _ _ _) rfl ?_
            exact ⟨⟨_, rfl⟩, .inr ⟨_, trivial, hJx3⟩⟩
        · obtain rfl : j = 6 := by omega
          gi_wp2
          go_roundw
          case rel => exact ⟨3, by omega, by simp, by rw [upG_3]; exact hJ2, Nat.le_trans hsw hs2⟩
          case measure => simp [intOf]
    · gi_wp2
      have hix : ∀ w, (Instr.index 164 (.agg #[.int .i64 30, .int .i64 42, .int .i64 50, .int .i64 62, .int .i64 70, .int .i64 75, .int .i64 90, .int .i64 93]) (.int .i64 3)).run Tryz.prog w = .ok (.agg #[.int .i64 90, .int .i64 93]) w := fun w => by kernel_rfl
      rw [hix]
      gi_wp2
      gi_loopw [4] (fun p wr2 => ∃ j : Nat, j ≤ 4 ∧ p = .int .i64 (90 + (j : Nat)) ∧ J (upG 3 ++ rng 90 j) wr2 ∧ wr2.cell? ⟨wo.heap.size, 1, none⟩ = some (.int .i64 93) ∧ wo.heap.size ≤ wr2.heap.size)
        (fun p _ => 4 - (intOf p - 90).toNat)
      case atStart =>
        exact ⟨0, by omega, by simp, by
          rw [show upG 3 ++ rng 90 0 = upG 3 by simp [rng]]
          exact hJ _ wo _ none hJs (World.grownBy_alloc wo _ none) (fun r e => by cases e), (Blk.new wo 163 [.int .i64 90, .int .i64 93]).cell 1, by simp⟩
      case round =>
        obtain ⟨j, hj, rfl, hJ2, hc2, hs2⟩ := hrel
        by_cases hlt : j < 4
        · obtain ⟨fn, tmps, assign, body, hy, hR⟩ := hY _ (mkF (90 + (j : Nat))) _ hJ2 (by rw [List.length_append, rng_len]; show 32 + j < 36; omega)
          have hmk : (mkF (90 + (j : Nat))).1 = 90 + (j : Nat) := mkF_val ⟨by omega, by omega⟩
          rw [hmk] at hy
          gi_wp2
          refine hR.mono ?_
          rintro e W3 (⟨rfl, hJ3, hk3⟩ | ⟨rfl, hJx3⟩)
          · gi_wp2
            go_roundw
            case rel => exact ⟨j + 1, by omega, by simp; omega, by rw [rng_succ, ← List.append_assoc]; exact hJ3, hk3.2 ⟨wo.heap.size, 1, none⟩ _ (by show wo.heap.size ≠ B; omega) hc2, Nat.le_trans hs2 hk3.1⟩
            case measure => simp [intOf]; omega
          · gi_wp2
            refine bodyPost_ret (results_none rfl _ _ _) rfl ?_
            exact ⟨⟨_, rfl⟩, .inr ⟨_, trivial, hJx3⟩⟩
        · obtain rfl : j = 4 := by omega
          gi_wp2
          go_roundw
          case rel => exact ⟨4, by omega, by simp, by rw [upG_4]; exact hJ2, Nat.le_trans hsw hs2⟩
          case measure => simp [intOf]
    · gi_wp2
      go_end0
      exact ⟨⟨_, rfl⟩, .inl ⟨_, rfl, hJs⟩⟩
def clrI (r op : Int) : Int := bits BinOp.andNot IntKind.u64 r (bitI op)
def restF (fl : Int) (pre : List FI) : Int := pre.foldl (fun r x => clrI r x.1) fl
theorem restF_snoc (fl : Int) (pre : List FI) (x : FI) : restF fl (pre ++ [x]) = clrI (restF fl pre) x.1 := by simp [restF]
def rightB (t : TM) : Bool := restF t.fl flagL == 0 && (t.ch 0 == 0 && (decide (t.mn ≥ 0) && (decide (t.mn ≤ 255) && (decide (t.tm ≥ 0) && decide (t.tm ≤ 255)))))
set_option maxRecDepth 100000 in
set_option maxHeartbeats 4000000 in
theorem right_any (t : TM) (w : World) : Calls Tryz.prog 23 #[t.val] w fun e w' => e = .returned (.bool (rightB t)) ∧ Below w.heap.size w w' := by
  unfold TM.val
  refine (callsIn_wide (n := 3)).1 ?_
  refine callsIn_of_wp_marks Tryz.func23 rfl trivial ?_ rfl
  simp only [Tryz.ntmps23, List.size_toArray, List.length_cons, List.length_nil, Nat.reduceAdd, Nat.reduceSub, Array.replicate_succ, Array.replicate_zero, List.push_toArray, List.append_toArray, List.nil_append, List.cons_append]
  gi_wp2_with (refine ⟨trivial, ?_⟩; gi_at_call 44; refine (callsIn_wide.2 (flagsF_any _)).mono ?_; rintro e w1 ⟨rfl, hO⟩)
  have b0 := (Blk.new w 28 (#[.int .u8 (t.ch 0), .int .u8 (t.ch 1), .int .u8 (t.ch 2), .int .u8 (t.ch 3), .int .u8 (t.ch 4), .int .u8 (t.ch 5), .int .u8 (t.ch 6), .int .u8 (t.ch 7), .int .u8 (t.ch 8), .int .u8 (t.ch 9), .int .u8 (t.ch 10), .int .u8 (t.ch 11), .int .u8 (t.ch 12), .int .u8 (t.ch 13), .int .u8 (t.ch 14), .int .u8 (t.ch 15), .int .u8 (t.ch 16), .int .u8 (t.ch 17), .int .u8 (t.ch 18), .int .u64 t.fl, .int .u32 t.inn, .int .u32 t.out, .int .i64 t.mn, .int .i64 t.tm] : Array Value).toList).alloc (.cells #[.int .u64 t.fl] 26)
  have b1 := Blk.new (w.alloc (.cells #[.int .u8 (t.ch 0), .int .u8 (t.ch 1), .int .u8 (t.ch 2), .int .u8 (t.ch 3), .int .u8 (t.ch 4), .int .u8 (t.ch 5), .int .u8 (t.ch 6), .int .u8 (t.ch 7), .int .u8 (t.ch 8), .int .u8 (t.ch 9), .int .u8 (t.ch 10), .int .u8 (t.ch 11), .int .u8 (t.ch 12), .int .u8 (t.ch 13), .int .u8 (t.ch 14), .int .u8 (t.ch 15), .int .u8 (t.ch 16), .int .u8 (t.ch 17), .int .u8 (t.ch 18), .int .u64 t.fl, .int .u32 t.inn, .int .u32 t.out, .int .i64 t.mn, .int .i64 t.tm] 28)) 26 [.int .u64 t.fl]
  have hs1 : (w.alloc (.cells #[.int .u8 (t.ch 0), .int .u8 (t.ch 1), .int .u8 (t.ch 2), .int .u8 (t.ch 3), .int .u8 (t.ch 4), .int .u8 (t.ch 5), .int .u8 (t.ch 6), .int .u8 (t.ch 7), .int .u8 (t.ch 8), .int .u8 (t.ch 9), .int .u8 (t.ch 10), .int .u8 (t.ch 11), .int .u8 (t.ch 12), .int .u8 (t.ch 13), .int .u8 (t.ch 14), .int .u8 (t.ch 15), .int .u8 (t.ch 16), .int .u8 (t.ch 17), .int .u8 (t.ch 18), .int .u64 t.fl, .int .u32 t.inn, .int .u32 t.out, .int .i64 t.mn, .int .i64 t.tm] 28)).heap.size = w.heap.size + 1 := by simp
  rw [hs1] at b1
  have hB0 : Below w.heap.size w ((w.alloc (.cells #[.int .u8 (t.ch 0), .int .u8 (t.ch 1), .int .u8 (t.ch 2), .int .u8 (t.ch 3), .int .u8 (t.ch 4), .int .u8 (t.ch 5), .int .u8 (t.ch 6), .int .u8 (t.ch 7), .int .u8 (t.ch 8), .int .u8 (t.ch 9), .int .u8 (t.ch 10), .int .u8 (t.ch 11), .int .u8 (t.ch 12), .int .u8 (t.ch 13), .int .u8 (t.ch 14), .int .u8 (t.ch 15), .int .u8 (t.ch 16), .int .u8 (t.ch 17), .int .u8 (t.ch 18), .int .u64 t.fl, .int .u32 t.inn, .int .u32 t.out, .int .i64 t.mn, .int .i64 t.tm] 28)).alloc (.cells #[.int .u64 t.fl] 26)) := ((Below.refl _ w).alloc (Nat.le_refl _) _).alloc (by simp) _
  have hB1 : Below w.heap.size w w1 := hB0.trans (hO.below (by simp; omega) (by simp))
  have hz : w.heap.size + 2 ≤ w1.heap.size := Nat.le_trans (by simp) hO.size
  replace b0 := b0.only hO (by simp)
  replace b1 := b1.only hO (by simp)
  refine wpIn_rangeFunc_ownF rfl (by omega) (gf := 69) (lb := #[]) rfl trivial (enters_of Tryz.func69 (by kernel_rfl) rfl)
    (flags_stops _ (w.heap.size + 1) (by omega) w1 (by omega)) KpB.trans (fun W l o o' hl ho hc _ => ⟨by simp, fun a v hb hv => cell_kept hv (grownBy_putObj' W l o') (fun r e => by cases e; exact ⟨o, ho, hc⟩)⟩) (Below.refl _ _) (fun _ => rfl)
    (fun pre W => ((∀ i v, (TM.cells t)[i]? = some v → W.cell? ⟨w.heap.size, i, none⟩ = some v) ∧ W.cell? ⟨w.heap.size + 1, 0, none⟩ = some (.int .u64 (restF t.fl pre)) ∧ W.frozen? ⟨w.heap.size + 1, 0, none⟩ = false) ∧ Below w.heap.size w W)
    (fun _ _ _ => False)
    (OwnFrom.and (Own.from (fun s A B row hs hg hr => ⟨fun i v hv => cell_kept (hs.1 i v hv) hg hr, cell_kept hs.2.1 hg hr, (frozen_kept hs.2.1 hg hr).trans hs.2.2⟩) _) (ownFrom_below (Nat.le_refl _) (by omega)))
    (fun _ _ _ _ _ hs _ _ => hs)
    ⟨⟨fun i v hv => by rw [b0.cell]; exact hv, b1.cell 0, b1.frozen 0⟩, hB1⟩
    (fun x => { tmps := #[(.agg #[.int .u8 (t.ch 0), .int .u8 (t.ch 1), .int .u8 (t.ch 2), .int .u8 (t.ch 3), .int .u8 (t.ch 4), .int .u8 (t.ch 5), .int .u8 (t.ch 6), .int .u8 (t.ch 7), .int .u8 (t.ch 8), .int .u8 (t.ch 9), .int .u8 (t.ch 10), .int .u8 (t.ch 11), .int .u8 (t.ch 12), .int .u8 (t.ch 13), .int .u8 (t.ch 14), .int .u8 (t.ch 15), .int .u8 (t.ch 16), .int .u8 (t.ch 17), .int .u8 (t.ch 18), .int .u64 t.fl, .int .u32 t.inn, .int .u32 t.out, .int .i64 t.mn, .int .i64 t.tm]), .pointer (some ⟨w.heap.size, 0, none⟩), .bool false, .pointer (some ⟨w.heap.size + 1, 0, none⟩), .int .i64 x.1, .pointer (some ⟨w.heap.size, 19, none⟩), .int .u64 t.fl, .func (.func 69) #[] #[], .int .i64 x.1, undef, undef, undef, undef, undef, undef, undef, undef, undef, undef, undef, undef, undef, undef, undef, undef, undef, undef, undef, undef, undef, undef, undef, undef, undef, undef, undef, undef, undef, undef, undef, undef], defers := [] }) ?assign ?body ?done ?stop
  case assign =>
    intro l x W K hK
    gi_wp2
    exact hK
  case body =>
    rintro l pre x W ⟨⟨hbx, hc, hf⟩, hB⟩ _
    have hd : 1 ≤ 3 - 1 - 1 := by omega
    have hmx : Tryz.prog.follows .mixedOrders = true := by kernel_rfl
    gi_wp2
    gi_region_with_o (refine ⟨trivial, ?_⟩; gi_at_call 45; refine (CallsIn.inRound l (bit_in Fence.wide _ trivial rfl x.1 x.2.1 x.2.2 _)).mono ?_; rintro e w' ⟨rfl, rfl⟩)
    all_goals gi_wp2
    all_goals (try go_bits)
    all_goals
      refine ⟨(KeepsOthers.setCell _ _ _).trans (KeepsOthers.drew _), ⟨by simp, fun a v hb hv => by rw [World.cell?_drew, World.cell?_setCell_other (h := fun e => hb (by rw [← e]))]; exact hv⟩, ⟨⟨fun i v hv => ?_, ?_, ?_⟩, ?_⟩⟩
      · rw [World.cell?_drew, World.cell?_setCell_other (h := fun e => by have := congrArg Addr.block e; simp at this)]; exact hbx i v hv
      · rw [World.cell?_drew, World.cell?_setCell_same (h := hc), restF_snoc]; rfl
      · rw [World.frozen?_drew, World.frozen?_setCell]; exact hf
      · exact hB.trans (((Below.refl _ _).setCell (by show w.heap.size ≤ w.heap.size + 1; omega) _).drew)
  case done =>
    rintro D ys W hD rfl ⟨⟨hbx, hc, hf⟩, hB⟩ hK
    have c0 : W.cell? ⟨w.heap.size, 0, none⟩ = some (.int .u8 (t.ch 0)) := hbx 0 _ rfl
    have c22 : W.cell? ⟨w.heap.size, 22, none⟩ = some (.int .i64 t.mn) := hbx 22 _ rfl
    have c23 : W.cell? ⟨w.heap.size, 23, none⟩ = some (.int .i64 t.tm) := hbx 23 _ rfl
    gi_wp2
    all_goals
      refine ⟨by simp, .inl ⟨_, _, rfl, run_takeDeferred hK, ?_⟩⟩
      refine ⟨_, results_tmp rfl _ _ _, ?_, hB.trans (belowK_b (w := w) (Nat.le_refl _) W D _ _ (by omega) hK rfl rfl)⟩
      refine congrArg Ending.returned ?_
      simp_all [rightB]
      try omega
  case stop =>
    rintro D c pre W _ _ h _
    exact h.elim
end Go.Proofs.YtdplnedpbkpgpaaGreatDoor

namespace Go.Proofs.YtdplnedpbkpgpaaGreatDoor
set_option linter.all false
set_option maxRecDepth 100000
open Go.RowKit

def tDef : TM := ⟨fun k => [0, 3, 28, 127, 21, 4, 255, 255, 17, 19, 26, 255, 18, 23, 22, 255, 255, 255, 15].getD k 0, 2305848510591797568, 38400, 38400, 1, 0⟩
/-- A session. -/
structure SS where
  pty : Bool
  term : ByteArray
  c0 : Int
  c1 : Int
  c2 : Int
  c3 : Int
  t : TM
  env : List VR
  st : Bool
def SS.val (s : SS) (A : Option Addr) (cap : Nat) : Value := .agg (#[.bool s.pty, .string s.term, .int .u32 s.c0, .int .u32 s.c1, .int .u32 s.c2, .int .u32 s.c3, .int .u8 (s.t.ch 0), .int .u8 (s.t.ch 1), .int .u8 (s.t.ch 2), .int .u8 (s.t.ch 3), .int .u8 (s.t.ch 4), .int .u8 (s.t.ch 5), .int .u8 (s.t.ch 6), .int .u8 (s.t.ch 7), .int .u8 (s.t.ch 8), .int .u8 (s.t.ch 9), .int .u8 (s.t.ch 10), .int .u8 (s.t.ch 11), .int .u8 (s.t.ch 12), .int .u8 (s.t.ch 13), .int .u8 (s.t.ch 14), .int .u8 (s.t.ch 15), .int .u8 (s.t.ch 16), .int .u8 (s.t.ch 17), .int .u8 (s.t.ch 18), .int .u64 s.t.fl, .int .u32 s.t.inn, .int .u32 s.t.out, .int .i64 s.t.mn, .int .i64 s.t.tm, .slice A s.env.length cap, .bool s.st])
def SS.sc (s : SS) (A : Option Addr) (cap : Nat) : List SC := [.v (.bool s.pty), .v (.string s.term), .v (.int .u32 s.c0), .v (.int .u32 s.c1), .v (.int .u32 s.c2), .v (.int .u32 s.c3), .v (.int .u8 (s.t.ch 0)), .v (.int .u8 (s.t.ch 1)), .v (.int .u8 (s.t.ch 2)), .v (.int .u8 (s.t.ch 3)), .v (.int .u8 (s.t.ch 4)), .v (.int .u8 (s.t.ch 5)), .v (.int .u8 (s.t.ch 6)), .v (.int .u8 (s.t.ch 7)), .v (.int .u8 (s.t.ch 8)), .v (.int .u8 (s.t.ch 9)), .v (.int .u8 (s.t.ch 10)), .v (.int .u8 (s.t.ch 11)), .v (.int .u8 (s.t.ch 12)), .v (.int .u8 (s.t.ch 13)), .v (.int .u8 (s.t.ch 14)), .v (.int .u8 (s.t.ch 15)), .v (.int .u8 (s.t.ch 16)), .v (.int .u8 (s.t.ch 17)), .v (.int .u8 (s.t.ch 18)), .v (.int .u64 s.t.fl), .v (.int .u32 s.t.inn), .v (.int .u32 s.t.out), .v (.int .i64 s.t.mn), .v (.int .i64 s.t.tm), .v (.slice A s.env.length cap), .v (.bool s.st)]
/-- What comes of a request. -/
structure AC where
  ok : Bool
  what : Int
  prog : Int
  sig : Int
  c0 : Int
  c1 : Int
  c2 : Int
  c3 : Int
def AC.val (a : AC) : Value := .agg #[.bool a.ok, .int .i64 a.what, .int .i64 a.prog, .int .i64 a.sig, .int .u32 a.c0, .int .u32 a.c1, .int .u32 a.c2, .int .u32 a.c3]
def noA : AC := ⟨false, 0, 0, 0, 0, 0, 0, 0⟩
def okA : AC := ⟨true, 0, 0, 0, 0, 0, 0, 0⟩
def shellS : ByteArray := ⟨#[115, 104, 101, 108, 108]⟩
def cutS (s : ByteArray) : ByteArray := ⟨(Lib.cut s.data.toList [32]).1.toArray⟩
def startS (s : SS) (nm : ByteArray) (ps : List PR) : SS × AC := if s.st then (s, noA) else if findB nm ps then ({ s with st := true }, ⟨true, 1, findN nm ps, 0, 0, 0, 0, 0⟩) else (s, noA)
def varI (nm : ByteArray) (l : List VR) : Int := idxS nm (l.map VR.n) 0
def ptyM (s : SS) (m : RQ) : SS × AC := if s.pty then (s, noA) else if s.st then (s, noA) else if (modesD tDef m.modes).2 ≠ 0 then (s, noA) else if rightB (modesD tDef m.modes).1 then ({ s with pty := true, term := m.text, c0 := m.cols, c1 := m.rows, c2 := m.width, c3 := m.height, t := (modesD tDef m.modes).1 }, okA) else (s, noA)
def envM (s : SS) (m : RQ) : SS × AC := if s.st then (s, noA) else if varI m.text s.env ≥ 0 then ({ s with env := s.env.set (varI m.text s.env).toNat ⟨((s.env.map VR.n)[(varI m.text s.env).toNat]?).getD ⟨#[]⟩, m.value⟩ }, okA) else if (s.env.length : Int) ≥ 16 then (s, noA) else ({ s with env := s.env ++ [⟨m.text, m.value⟩] }, okA)
def sizeM (s : SS) (m : RQ) : SS × AC := if s.pty then (if s.st then ({ s with c0 := m.cols, c1 := m.rows, c2 := m.width, c3 := m.height }, ⟨true, 2, 0, 0, m.cols, m.rows, m.width, m.height⟩) else ({ s with c0 := m.cols, c1 := m.rows, c2 := m.width, c3 := m.height }, okA)) else (s, noA)
def sigM (s : SS) (m : RQ) : SS × AC := if s.st then (if numB m.text then (if wireS (numS m.text) then (s, ⟨true, 3, 0, numS m.text, 0, 0, 0, 0⟩) else (s, noA)) else (s, noA)) else (s, noA)
/-- What is asked and what is to be done. -/
def kindM (s : SS) (m : RQ) (ps : List PR) : Nat → SS × AC
  | 1 => ptyM s m
  | 2 => envM s m
  | 3 => startS s shellS ps
  | 4 => startS s (cutS m.text) ps
  | 5 => startS s m.text ps
  | 6 => sizeM s m
  | 8 => sigM s m
  | _ => (s, noA)
def askM (s : SS) (m : RQ) (E : Int) (ps : List PR) : SS × AC := if E ≠ 0 then (s, noA) else kindM s m ps m.kind.toNat
theorem decK_kind {k : Nat} {l : List Int} {m : RQ} (h1 : 1 ≤ k) (h2 : k ≤ 10) (h : DecK k l m 0) : m.kind = (k : Int) := by
  unfold DecK at h
  split at h
  · rename_i hn
    exact absurd h.1.symm hn
  · obtain ⟨fs, hf, h⟩ := h
    split at h
    · rw [h.2]
      have e : ∀ (m0 : RQ) (k : Nat) (fs : List FD), (putR m0 k fs).kind = m0.kind := by
        intro m0 k fs
        unfold putR
        split <;> rfl
      rw [e]
      rfl
    · rename_i hn
      exact absurd h.1.symm hn
theorem decR_kind27 {nm : ByteArray} {l : List Int} {m : RQ} (h : DecR nm l m 0) : ∃ k : Nat, 1 ≤ k ∧ k ≤ 10 ∧ m.kind = (k : Int) := by
  unfold DecR at h
  split at h
  · exact absurd h.1 (by decide)
  · rename_i k hk
    obtain ⟨h1, h2, _⟩ := kindL_range hk
    exact ⟨k, h1, h2, decK_kind h1 h2 h⟩
def kindsV : Value := .agg #[.func (.func 51) #[] #[], .func (.func 52) #[] #[], .func (.func 53) #[] #[], .func (.func 54) #[] #[], .func (.func 55) #[] #[], .func (.func 56) #[] #[], .func (.func 57) #[] #[], .func (.func 51) #[] #[], .func (.func 58) #[] #[], .func (.func 51) #[] #[], .func (.func 51) #[] #[]]
theorem kinds_any27 (w : World) : Calls Tryz.prog 29 #[] w fun e w' => e = .returned kindsV ∧ Only [] w w' := by
  refine Hs.enter Tryz.func29 [] [] [] [] (Mem.start0 w) (by kernel_rfl) (by kernel_rfl) ?_
  refine Hs.run1 300 (fun _ => by kernel_rfl) fun b0 => ?_
  exact Hs.ret (v := kindsV) Tryz.func29 (by kernel_rfl) fun w' H => ⟨rfl, H.only⟩
theorem default_any27 (w : World) : Calls Tryz.prog 94 #[] w fun e w' => e = .returned tDef.val ∧ Only [] w w' := by
  refine Hs.enter Tryz.func94 [] [] [] [] (Mem.start0 w) (by kernel_rfl) (by kernel_rfl) ?_
  refine Hs.runK [45] 1200 2 Tryz.func94 rfl (by kernel_rfl) (fun ν => by kernel_rfl) (fun ν => by kernel_rfl) fun ν hν => ?_
  exact Hs.ret (v := tDef.val) Tryz.func94 (by kernel_rfl) fun w' H => ⟨rfl, H.only⟩
end Go.Proofs.YtdplnedpbkpgpaaGreatDoor

namespace Go.Proofs.YtdplnedpbkpgpaaGreatDoor
set_option linter.all false
set_option maxRecDepth 100000
open Go.RowKit

def AC.sc (a : AC) : List SC := [.v (.bool a.ok), .v (.int .i64 a.what), .v (.int .i64 a.prog), .v (.int .i64 a.sig), .v (.int .u32 a.c0), .v (.int .u32 a.c1), .v (.int .u32 a.c2), .v (.int .u32 a.c3)]
/-- What is asked of a session, as it lies in a block. -/
def askSC (s : SS) (A : Option Addr) (cap : Nat) (m : RQ) (pA : Option Addr) (pl pc : Nat) (a : AC) : List SC := s.sc A cap ++ (m.sc ++ (.v (.slice pA pl pc) :: a.sc))
def askL (s : SS) (A : Option Addr) (cap : Nat) (m : RQ) (pA : Option Addr) (pl pc : Nat) (a : AC) : List Value := dens [] (askSC s A cap m pA pl pc a)
theorem dens_ask (β : List Nat) (s : SS) (A : Option Addr) (cap : Nat) (m : RQ) (pA : Option Addr) (pl pc : Nat) (a : AC) : dens β (askSC s A cap m pA pl pc a) = askL s A cap m pA pl pc a := by kernel_rfl
abbrev AskAt (w : World) (g : Nat) (s : SS) (A : Option Addr) (cap : Nat) (m : RQ) (pA : Option Addr) (pl pc : Nat) (a : AC) : Prop := Blk w g 88 (askL s A cap m pA pl pc a)
def AskPost (w : World) (g : Nat) (A : Option Addr) (cap : Nat) (m : RQ) (pA : Option Addr) (pl pc : Nat) (r : SS × AC) : Ending → World → Prop := fun e w' => e = .returned (.tuple #[]) ∧ Only [g] w w' ∧ AskAt w' g r.1 A cap m pA pl pc r.2
theorem cell_far {w w' : World} {g : Nat} {v : Value} (O : Only [g] w w') (h : w.cell? ⟨0, 0, none⟩ = some v) (hg : g ≠ 0) : w'.cell? ⟨0, 0, none⟩ = some v := by
  have hb := block_lt_of_cell h
  rw [← h]
  exact World.cell?_of_block (w := w) (w' := w') (O.block 0 hb (by simp [Ne.symm hg]))
section
variable {w w' : World} {g : Nat} {s s' : SS} {A : Option Addr} {cap : Nat} {m : RQ} {pA : Option Addr} {pl pc : Nat} {a a' : AC} {β : List Nat} {hp : List HB}
theorem Mem.ask (hB : AskAt w g s A cap m pA pl pc a) : Mem w [g] [g] [.b true 88 (askSC s A cap m pA pl pc a)] w := Mem.one w g (by rw [dens_ask]; exact hB)
theorem Mem.askB (H : Mem w [g] β hp w') (hg : nm β 0 = g) (hk : hp[0]? = some (.b true 88 (askSC s' A cap m pA pl pc a'))) : AskAt w' g s' A cap m pA pl pc a' := by
  have := H.at 0 hk
  rw [dens_ask, hg] at this
  exact this
theorem Mem.askE {r : SS × AC} (H : Mem w [g] β hp w') (hg : nm β 0 = g) (hk : hp[0]? = some (.b true 88 (askSC r.1 A cap m pA pl pc r.2))) : AskPost w g A cap m pA pl pc r (.returned (.tuple #[])) w' := ⟨rfl, H.only, H.askB hg hk⟩
end
section
variable (s : SS) (A : Option Addr) (cap : Nat) (m : RQ) (pA : Option Addr) (pc : Nat) (ps : List PR) (w : World) (g : Nat)
theorem start_any27 (nm : ByteArray) (hB : AskAt w g s A cap m pA ps.length pc noA) (hr : RdX cPr w pA ps) (hl : ps.length ≤ maxLen) (hf : ∀ a, pA = some a → 0 < ps.length → a.block ≠ g) : Calls Tryz.prog 98 #[.pointer (some ⟨g, 0, none⟩), .string nm] w (AskPost w g A cap m pA ps.length pc (startS s nm ps)) := by
  refine Hs.enter Tryz.func98 [g] [g] [.b true 88 (askSC s A cap m pA ps.length pc noA)] [.c (.p 0 0), .c (.v (.string nm))] (Mem.ask hB) (by kernel_rfl) (by kernel_rfl) ?_
  unfold startS
  refine Hs.run0 300 (fun _ => by kernel_rfl) ?_
  refine Hs.callV (fun w' H => find_any27 nm pA pc ps w' (hr.far H.only (fun a ha h0 hm => hf a ha h0 (List.mem_singleton.1 hm))) hl) (by kernel_rfl) ?_
  refine Hs.run0 300 (fun _ => by kernel_rfl) ?_
  refine Hs.bool 20 s.st (by kernel_rfl) (fun h1 => ?_) (fun h1 => ?_)
  · refine Hs.rung0 [5] 300 (fun _ => by kernel_rfl) ?_
    refine Hs.condT (by kernel_rfl) ?_
    refine Hs.run0 300 (fun _ => by kernel_rfl) ?_
    rw [if_pos h1]
    exact Hs.ret (v := .tuple #[]) Tryz.func98 (by kernel_rfl) fun w' H => H.askE rfl (by kernel_rfl)
  · refine Hs.rung0 [5] 300 (fun _ => by kernel_rfl) ?_
    rw [if_neg (by rw [h1]; decide)]
    refine Hs.cond (!findB nm ps) (by kernel_rfl) (fun h2 => ?_) (fun h2 => ?_)
    · rw [if_neg (by simpa using h2)]
      refine Hs.run0 300 (fun _ => by kernel_rfl) ?_
      exact Hs.ret (v := .tuple #[]) Tryz.func98 (by kernel_rfl) fun w' H => H.askE rfl (by kernel_rfl)
    · rw [if_pos (by simpa using h2)]
      refine Hs.runK [100, 95] 1000 0 Tryz.func98 rfl (by kernel_rfl) (fun ν => by kernel_rfl) (fun ν => by kernel_rfl) fun ν hν => ?_
      obtain rfl := List.length_eq_zero_iff.1 hν
      exact Hs.ret (v := .tuple #[]) Tryz.func98 (by kernel_rfl) fun w' H => H.askE rfl (by kernel_rfl)
theorem nothing_any27 (hB : AskAt w g s A cap m pA ps.length pc noA) : Calls Tryz.prog 51 #[.pointer (some ⟨g, 0, none⟩)] w (AskPost w g A cap m pA ps.length pc (s, noA)) := by
  refine Hs.enter Tryz.func51 [g] [g] [.b true 88 (askSC s A cap m pA ps.length pc noA)] [.c (.p 0 0)] (Mem.ask hB) (by kernel_rfl) (by kernel_rfl) ?_
  refine Hs.run0 300 (fun _ => by kernel_rfl) ?_
  exact Hs.ret (v := .tuple #[]) Tryz.func51 (by kernel_rfl) fun w' H => H.askE rfl (by kernel_rfl)
theorem shell_any27 (hB : AskAt w g s A cap m pA ps.length pc noA) (hr : RdX cPr w pA ps) (hl : ps.length ≤ maxLen) (hf : ∀ a, pA = some a → 0 < ps.length → a.block ≠ g) : Calls Tryz.prog 54 #[.pointer (some ⟨g, 0, none⟩)] w (AskPost w g A cap m pA ps.length pc (startS s shellS ps)) := by
  refine Hs.enter Tryz.func54 [g] [g] [.b true 88 (askSC s A cap m pA ps.length pc noA)] [.c (.p 0 0)] (Mem.ask hB) (by kernel_rfl) (by kernel_rfl) ?_
  generalize hz : startS s shellS ps = z
  refine Hs.run0 300 (fun _ => by kernel_rfl) ?_
  refine Hs.callP 0 88 (askSC z.1 A cap m pA ps.length pc z.2) (v := .tuple #[]) (fun w' H => (start_any27 s A cap m pA pc ps w' g shellS (H.askB rfl (by kernel_rfl)) (hr.far H.only (fun a ha h0 hm => hf a ha h0 (List.mem_singleton.1 hm))) hl hf).mono fun e w1 h => by rw [hz] at h; rw [dens_ask]; exact h) (by kernel_rfl) (by kernel_rfl) ?_
  refine Hs.run0 300 (fun _ => by kernel_rfl) ?_
  exact Hs.ret (v := .tuple #[]) Tryz.func54 (by kernel_rfl) fun w' H => H.askE rfl (by kernel_rfl)
theorem subsystem_any27 (hB : AskAt w g s A cap m pA ps.length pc noA) (hr : RdX cPr w pA ps) (hl : ps.length ≤ maxLen) (hf : ∀ a, pA = some a → 0 < ps.length → a.block ≠ g) : Calls Tryz.prog 56 #[.pointer (some ⟨g, 0, none⟩)] w (AskPost w g A cap m pA ps.length pc (startS s m.text ps)) := by
  refine Hs.enter Tryz.func56 [g] [g] [.b true 88 (askSC s A cap m pA ps.length pc noA)] [.c (.p 0 0)] (Mem.ask hB) (by kernel_rfl) (by kernel_rfl) ?_
  generalize hz : startS s m.text ps = z
  refine Hs.run0 300 (fun _ => by kernel_rfl) ?_
  refine Hs.callP 0 88 (askSC z.1 A cap m pA ps.length pc z.2) (v := .tuple #[]) (fun w' H => (start_any27 s A cap m pA pc ps w' g m.text (H.askB rfl (by kernel_rfl)) (hr.far H.only (fun a ha h0 hm => hf a ha h0 (List.mem_singleton.1 hm))) hl hf).mono fun e w1 h => by rw [hz] at h; rw [dens_ask]; exact h) (by kernel_rfl) (by kernel_rfl) ?_
  refine Hs.run0 300 (fun _ => by kernel_rfl) ?_
  exact Hs.ret (v := .tuple #[]) Tryz.func56 (by kernel_rfl) fun w' H => H.askE rfl (by kernel_rfl)
theorem exec_any27 (i0 : Int) (h00 : w.cell? ⟨0, 0, none⟩ = some (.int .i64 i0)) (hg0 : g ≠ 0) (hsz : m.text.size < 4294967281) (hB : AskAt w g s A cap m pA ps.length pc noA) (hr : RdX cPr w pA ps) (hl : ps.length ≤ maxLen) (hf : ∀ a, pA = some a → 0 < ps.length → a.block ≠ g) : Calls Tryz.prog 55 #[.pointer (some ⟨g, 0, none⟩)] w (AskPost w g A cap m pA ps.length pc (startS s (cutS m.text) ps)) := by
  refine Hs.enter Tryz.func55 [g] [g] [.b true 88 (askSC s A cap m pA ps.length pc noA)] [.c (.p 0 0)] (Mem.ask hB) (by kernel_rfl) (by kernel_rfl) ?_
  generalize hz : startS s (cutS m.text) ps = z
  refine Hs.run0 300 (fun _ => by kernel_rfl) ?_
  refine Hs.callV (v := .tuple #[.string (cutS m.text), .string ⟨(Lib.cut m.text.data.toList [32]).2.1.toArray⟩, .bool (Lib.cut m.text.data.toList [32]).2.2]) (fun w' H => (Tryz.strings_Cut m.text ⟨#[32]⟩ i0 w' hsz (cell_far H.only h00 hg0)).mono fun e w1 ⟨h1, q, h2⟩ => ⟨h1, by rw [h2]; exact (Only.refl _ _).drewN q⟩) (by kernel_rfl) ?_
  refine Hs.run0 300 (fun _ => by kernel_rfl) ?_
  refine Hs.callP 0 88 (askSC z.1 A cap m pA ps.length pc z.2) (v := .tuple #[]) (fun w' H => (start_any27 s A cap m pA pc ps w' g (cutS m.text) (H.askB rfl (by kernel_rfl)) (hr.far H.only (fun a ha h0 hm => hf a ha h0 (List.mem_singleton.1 hm))) hl hf).mono fun e w1 h => by rw [hz] at h; rw [dens_ask]; exact h) (by kernel_rfl) (by kernel_rfl) ?_
  refine Hs.run0 300 (fun _ => by kernel_rfl) ?_
  exact Hs.ret (v := .tuple #[]) Tryz.func55 (by kernel_rfl) fun w' H => H.askE rfl (by kernel_rfl)
theorem resize_any27 (hB : AskAt w g s A cap m pA ps.length pc noA) : Calls Tryz.prog 57 #[.pointer (some ⟨g, 0, none⟩)] w (AskPost w g A cap m pA ps.length pc (sizeM s m)) := by
  refine Hs.enter Tryz.func57 [g] [g] [.b true 88 (askSC s A cap m pA ps.length pc noA)] [.c (.p 0 0)] (Mem.ask hB) (by kernel_rfl) (by kernel_rfl) ?_
  unfold sizeM
  refine Hs.run0 300 (fun _ => by kernel_rfl) ?_
  refine Hs.cond (!s.pty) (by kernel_rfl) (fun h1 => ?_) (fun h1 => ?_)
  · rw [if_neg (by simpa using h1)]
    refine Hs.run0 300 (fun _ => by kernel_rfl) ?_
    exact Hs.ret (v := .tuple #[]) Tryz.func57 (by kernel_rfl) fun w' H => H.askE rfl (by kernel_rfl)
  rw [if_pos (by simpa using h1)]
  refine Hs.run0 300 (fun _ => by kernel_rfl) ?_
  refine Hs.cond (!s.st) (by kernel_rfl) (fun h2 => ?_) (fun h2 => ?_)
  · rw [if_neg (by simpa using h2)]
    refine Hs.runK [100, 95] 1000 0 Tryz.func57 rfl (by kernel_rfl) (fun ν => by kernel_rfl) (fun ν => by kernel_rfl) fun ν hν => ?_
    obtain rfl := List.length_eq_zero_iff.1 hν
    exact Hs.ret (v := .tuple #[]) Tryz.func57 (by kernel_rfl) fun w' H => H.askE rfl (by kernel_rfl)
  · rw [if_pos (by simpa using h2)]
    refine Hs.runK [100, 95] 1000 0 Tryz.func57 rfl (by kernel_rfl) (fun ν => by kernel_rfl) (fun ν => by kernel_rfl) fun ν hν => ?_
    obtain rfl := List.length_eq_zero_iff.1 hν
    exact Hs.ret (v := .tuple #[]) Tryz.func57 (by kernel_rfl) fun w' H => H.askE rfl (by kernel_rfl)
theorem signal_any27 (hB : AskAt w g s A cap m pA ps.length pc noA) : Calls Tryz.prog 58 #[.pointer (some ⟨g, 0, none⟩)] w (AskPost w g A cap m pA ps.length pc (sigM s m)) := by
  refine Hs.enter Tryz.func58 [g] [g] [.b true 88 (askSC s A cap m pA ps.length pc noA)] [.c (.p 0 0)] (Mem.ask hB) (by kernel_rfl) (by kernel_rfl) ?_
  unfold sigM
  refine Hs.run0 300 (fun _ => by kernel_rfl) ?_
  refine Hs.callV (fun w' H => number_any18 m.text w') (by kernel_rfl) ?_
  refine Hs.run0 300 (fun _ => by kernel_rfl) ?_
  refine Hs.bool 19 (!s.st) (by kernel_rfl) (fun h1 => ?_) (fun h1 => ?_)
  · refine Hs.rung0 [6, 10] 300 (fun _ => by kernel_rfl) ?_
    refine Hs.condT (by kernel_rfl) ?_
    refine Hs.run0 300 (fun _ => by kernel_rfl) ?_
    rw [if_neg (by simpa using h1)]
    exact Hs.ret (v := .tuple #[]) Tryz.func58 (by kernel_rfl) fun w' H => H.askE rfl (by kernel_rfl)
  rw [if_pos (by simpa using h1)]
  refine Hs.rung0 [6] 300 (fun _ => by kernel_rfl) ?_
  refine Hs.bool 23 (!numB m.text) (by kernel_rfl) (fun h2 => ?_) (fun h2 => ?_)
  · refine Hs.rung0 [6, 10] 300 (fun _ => by kernel_rfl) ?_
    refine Hs.condT (by kernel_rfl) ?_
    refine Hs.run0 300 (fun _ => by kernel_rfl) ?_
    rw [if_neg (by simpa using h2)]
    exact Hs.ret (v := .tuple #[]) Tryz.func58 (by kernel_rfl) fun w' H => H.askE rfl (by kernel_rfl)
  rw [if_pos (by simpa using h2)]
  refine Hs.rung0 [6, 10] 300 (fun _ => by kernel_rfl) ?_
  refine Hs.callV (fun w' H => wire_any18 (numS m.text) w') (by kernel_rfl) ?_
  refine Hs.rung0 [6, 10] 300 (fun _ => by kernel_rfl) ?_
  refine Hs.cond (!wireS (numS m.text)) (by kernel_rfl) (fun h3 => ?_) (fun h3 => ?_)
  · rw [if_neg (by simpa using h3)]
    refine Hs.run0 300 (fun _ => by kernel_rfl) ?_
    exact Hs.ret (v := .tuple #[]) Tryz.func58 (by kernel_rfl) fun w' H => H.askE rfl (by kernel_rfl)
  · rw [if_pos (by simpa using h3)]
    refine Hs.runK [100, 95] 1000 0 Tryz.func58 rfl (by kernel_rfl) (fun ν => by kernel_rfl) (fun ν => by kernel_rfl) fun ν hν => ?_
    obtain rfl := List.length_eq_zero_iff.1 hν
    exact Hs.ret (v := .tuple #[]) Tryz.func58 (by kernel_rfl) fun w' H => H.askE rfl (by kernel_rfl)
end
end Go.Proofs.YtdplnedpbkpgpaaGreatDoor

namespace Go.Proofs.YtdplnedpbkpgpaaGreatDoor
set_option linter.all false
set_option maxRecDepth 100000
open Go.RowKit

section
variable {P : Program} {f : FuncId} {R : Ending → World → Prop} {n : Nat} {β : List Nat} {m : SM} {w0 : World} {L : List Nat}
/-- The way on from a state that several ways come to. -/
theorem Hs.share0 {S : SM} {β' : List Nat} (h1 : Hs P f R n w0 L β' S → Hs P f R n w0 L β m) (h2 : Hs P f R n w0 L β' S) : Hs P f R n w0 L β m := h1 h2
theorem Hs.share1 {S : Nat → SM} {β' : List Nat} (h1 : (∀ b, Hs P f R n w0 L (β' ++ [b]) (S b)) → Hs P f R n w0 L β m) (h2 : ∀ b, Hs P f R n w0 L (β' ++ [b]) (S b)) : Hs P f R n w0 L β m := h1 h2
def keyM (n : Nat) (m : SM) : RM × List Item × List HB × List SV × List Deferred := ⟨m.r, m.todo, m.hp, (List.range n).map m.sl.at, m.sl.ds⟩
/-- A state that another state is, but for the order in which its slots were written. -/
theorem Hs.eqM {m' : SM} (k : Hs P f R n w0 L β m') (h : keyM n m = keyM n m') (hw : m'.sl.wf m'.hp.length = true) : Hs P f R n w0 L β m := by
  obtain ⟨r, td, sl, hp⟩ := m
  obtain ⟨r', td', sl', hp'⟩ := m'
  simp only [keyM, Prod.mk.injEq] at h
  obtain ⟨rfl, rfl, rfl, hs, hd⟩ := h
  have e : fr n β sl = fr n β sl' := by
    unfold fr
    rw [hd]
    congr 2
    refine List.map_congr_left fun i hi => ?_
    have h1 := List.mem_range.1 hi
    have h2 := congrArg (fun l => l[i]?) hs
    simp only [List.getElem?_map, List.getElem?_range h1, Option.map_some, Option.some.injEq] at h2
    rw [h2]
  refine ⟨fun w H W => ?_⟩
  have W' : SM.wf ⟨r, td, sl', hp⟩ = true := by
    unfold SM.wf at W ⊢
    simp only [Bool.and_eq_true] at W ⊢
    exact ⟨hw, W.2⟩
  have g := k.go w H W'
  unfold Gs at g ⊢
  dsimp only at g ⊢
  rw [e]
  exact g
end
end Go.Proofs.YtdplnedpbkpgpaaGreatDoor

namespace Go.Proofs.YtdplnedpbkpgpaaGreatDoor
set_option linter.all false
set_option maxRecDepth 100000
open Go.RowKit

section
variable (s : SS) (A : Option Addr) (cap : Nat) (m : RQ) (pA : Option Addr) (pc : Nat) (ps : List PR) (w : World) (g : Nat)
theorem ok_any27 (a : AC) (hB : AskAt w g s A cap m pA ps.length pc a) : Calls Tryz.prog 95 #[.pointer (some ⟨g, 0, none⟩)] w (AskPost w g A cap m pA ps.length pc (s, { a with ok := true })) := by
  refine Hs.enter Tryz.func95 [g] [g] [.b true 88 (askSC s A cap m pA ps.length pc a)] [.c (.p 0 0)] (Mem.ask hB) (by kernel_rfl) (by kernel_rfl) ?_
  refine Hs.run0 300 (fun _ => by kernel_rfl) ?_
  exact Hs.ret (v := .tuple #[]) Tryz.func95 (by kernel_rfl) fun w' H => H.askE rfl (by kernel_rfl)
set_option maxHeartbeats 8000000 in
theorem pty_any27 (hB : AskAt w g s A cap m pA ps.length pc noA) (hm : RdU w m.mA m.mc m.modes) (hb : ∀ x ∈ m.modes, 0 ≤ x ∧ x < 256) (hf : ∀ a, m.mA = some a → 0 < m.modes.length → a.block ≠ g) : Calls Tryz.prog 52 #[.pointer (some ⟨g, 0, none⟩)] w (AskPost w g A cap m pA ps.length pc (ptyM s m)) := by
  refine Hs.enter Tryz.func52 [g] [g] [.b true 88 (askSC s A cap m pA ps.length pc noA)] [.c (.p 0 0)] (Mem.ask hB) (by kernel_rfl) (by kernel_rfl) ?_
  unfold ptyM
  refine Hs.run0 300 (fun _ => by kernel_rfl) ?_
  refine Hs.bool 9 s.pty (by kernel_rfl) (fun h1 => ?_) (fun h1 => ?_)
  · refine Hs.rung0 [5] 300 (fun _ => by kernel_rfl) ?_
    refine Hs.condT (by kernel_rfl) ?_
    refine Hs.run0 300 (fun _ => by kernel_rfl) ?_
    rw [if_pos h1]
    exact Hs.ret (v := .tuple #[]) Tryz.func52 (by kernel_rfl) fun w' H => H.askE rfl (by kernel_rfl)
  rw [if_neg (by rw [h1]; decide)]
  refine Hs.rung0 [5] 300 (fun _ => by kernel_rfl) ?_
  refine Hs.cond s.st (by kernel_rfl) (fun h2 => ?_) (fun h2 => ?_)
  · rw [if_pos h2]
    refine Hs.run0 300 (fun _ => by kernel_rfl) ?_
    exact Hs.ret (v := .tuple #[]) Tryz.func52 (by kernel_rfl) fun w' H => H.askE rfl (by kernel_rfl)
  rw [if_neg (by rw [h2]; decide)]
  refine Hs.run0 300 (fun _ => by kernel_rfl) ?_
  refine Hs.any [0] (by kernel_rfl) ?_
  obtain ⟨z, hz⟩ : ∃ z, z = modesD tDef m.modes := ⟨_, rfl⟩
  rw [← hz]
  obtain ⟨t2, e2⟩ := z
  dsimp only
  refine Hs.run0 300 (fun _ => by kernel_rfl) ?_
  apply Hs.share1 (β' := [g])
  · intro K
    refine Hs.branch2 5 10 (by kernel_rfl) ?_ ?_
    · refine Hs.callV (fun w' H => default_any27 w') (by kernel_rfl) ?_
      refine Hs.run0 300 (fun _ => by kernel_rfl) ?_
      refine Hs.branch2 6 10 (by kernel_rfl) ?_ ?_
      · refine Hs.callV (v := .tuple #[t2.val, .int .i64 e2]) (fun w' H => by have := mdecode_any tDef m.mA m.mc m.modes w' ⟨hm.1.far H.only (fun a ha h0 hm => hf a ha h0 (List.mem_singleton.1 hm)), hm.2⟩ hb; rw [← hz] at this; exact this) (by kernel_rfl) ?_
        refine Hs.run1 300 (fun _ => by kernel_rfl) fun b1 => ?_
        exact K b1
      · refine Hs.run1 300 (fun _ => by kernel_rfl) fun b1 => ?_
        refine Hs.callV (v := .tuple #[t2.val, .int .i64 e2]) (fun w' H => by have := mdecode_any tDef m.mA m.mc m.modes w' ⟨hm.1.far H.only (fun a ha h0 hm => hf a ha h0 (List.mem_singleton.1 hm)), hm.2⟩ hb; rw [← hz] at this; exact this) (by kernel_rfl) ?_
        refine Hs.run0 300 (fun _ => by kernel_rfl) ?_
        exact Hs.eqM (K b1) (by kernel_rfl) (by kernel_rfl)
    · refine Hs.run1 300 (fun _ => by kernel_rfl) fun b1 => ?_
      refine Hs.callV (fun w' H => default_any27 w') (by kernel_rfl) ?_
      refine Hs.run0 300 (fun _ => by kernel_rfl) ?_
      refine Hs.callV (v := .tuple #[t2.val, .int .i64 e2]) (fun w' H => by have := mdecode_any tDef m.mA m.mc m.modes w' ⟨hm.1.far H.only (fun a ha h0 hm => hf a ha h0 (List.mem_singleton.1 hm)), hm.2⟩ hb; rw [← hz] at this; exact this) (by kernel_rfl) ?_
      refine Hs.run0 300 (fun _ => by kernel_rfl) ?_
      exact Hs.eqM (K b1) (by kernel_rfl) (by kernel_rfl)
  intro b1
  refine Hs.bool 28 (e2 != 0) (by kernel_rfl) (fun h3 => ?_) (fun h3 => ?_)
  · rw [if_pos (by simpa using h3)]
    refine Hs.rung0 [2] 300 (fun _ => by kernel_rfl) ?_
    refine Hs.condT (by kernel_rfl) ?_
    refine Hs.run0 300 (fun _ => by kernel_rfl) ?_
    exact Hs.ret (v := .tuple #[]) Tryz.func52 (by kernel_rfl) fun w' H => H.askE rfl (by kernel_rfl)
  rw [if_neg (by simpa using h3)]
  refine Hs.rung0 [2] 300 (fun _ => by kernel_rfl) ?_
  refine Hs.callV (v := .bool (rightB t2)) (fun w' H => (right_any t2 w').mono fun e w1 ⟨h1, h2⟩ => ⟨h1, only_of_below h2⟩) (by kernel_rfl) ?_
  refine Hs.rung0 [2] 300 (fun _ => by kernel_rfl) ?_
  refine Hs.cond (!rightB t2) (by kernel_rfl) (fun h4 => ?_) (fun h4 => ?_)
  · rw [if_neg (by simpa using h4)]
    refine Hs.run0 300 (fun _ => by kernel_rfl) ?_
    exact Hs.ret (v := .tuple #[]) Tryz.func52 (by kernel_rfl) fun w' H => H.askE rfl (by kernel_rfl)
  rw [if_pos (by simpa using h4)]
  obtain ⟨S2, hS⟩ : ∃ S2 : SS, S2 = { s with pty := true, term := m.text, c0 := m.cols, c1 := m.rows, c2 := m.width, c3 := m.height, t := t2 } := ⟨_, rfl⟩
  rw [← hS]
  subst hS
  refine Hs.run0 300 (fun _ => by kernel_rfl) ?_
  refine Hs.any [1] (by kernel_rfl) ?_
  refine Hs.run0 300 (fun _ => by kernel_rfl) ?_
  refine Hs.branch2 8 13 (by kernel_rfl) ?_ ?_
  · refine Hs.run0 300 (fun _ => by kernel_rfl) ?_
    refine Hs.callP 0 88 (askSC ({ s with pty := true, term := m.text, c0 := m.cols, c1 := m.rows, c2 := m.width, c3 := m.height, t := t2 } : SS) A cap m pA ps.length pc okA) (v := .tuple #[]) (fun w' H => (ok_any27 _ A cap m pA pc ps w' g noA (H.askB rfl (by kernel_rfl))).mono fun e w1 h => by rw [dens_ask]; exact h) (by kernel_rfl) (by kernel_rfl) ?_
    refine Hs.run0 300 (fun _ => by kernel_rfl) ?_
    exact Hs.ret (v := .tuple #[]) Tryz.func52 (by kernel_rfl) fun w' H => H.askE rfl (by kernel_rfl)
  · refine Hs.run0 300 (fun _ => by kernel_rfl) ?_
    refine Hs.callP 0 88 (askSC ({ s with pty := true, term := m.text, c0 := m.cols, c1 := m.rows, c2 := m.width, c3 := m.height, t := t2 } : SS) A cap m pA ps.length pc okA) (v := .tuple #[]) (fun w' H => (ok_any27 _ A cap m pA pc ps w' g noA (H.askB rfl (by kernel_rfl))).mono fun e w1 h => by rw [dens_ask]; exact h) (by kernel_rfl) (by kernel_rfl) ?_
    refine Hs.run0 300 (fun _ => by kernel_rfl) ?_
    exact Hs.ret (v := .tuple #[]) Tryz.func52 (by kernel_rfl) fun w' H => H.askE rfl (by kernel_rfl)
end
end Go.Proofs.YtdplnedpbkpgpaaGreatDoor

namespace Go.Proofs.YtdplnedpbkpgpaaGreatDoor
set_option linter.all false
set_option maxRecDepth 100000
open Go.RowKit
def envFV (b : Nat) : Value := .func (.func 97) #[] #[.pointer (some ⟨b, 0, none⟩)]
theorem Mem.env {w : World} {b g : Nat} {s : SS} {A : Option Addr} {cap : Nat} {m : RQ} {pA : Option Addr} {pl pc : Nat} {a : AC} (h : Blk w b 86 [.pointer (some ⟨g, 0, none⟩)]) (hB : AskAt w g s A cap m pA pl pc a) (hbg : b ≠ g) : Mem w [] [b, g] [.b false 86 [.p 1 0], .b false 88 (askSC s A cap m pA pl pc a)] w := by
  refine Mem.start _ _ _ _ rfl (fun k x hk => ?_) (fun k x y hk hw => ?_) (fun i j x y z hi hj ei ej => ?_)
  · match k, hk with
    | 0, hk => injection hk with hk; subst hk; exact h
    | 1, hk =>
      injection hk with hk
      subst hk
      show Blk w g 88 (dens [b, g] (askSC s A cap m pA pl pc a))
      rw [dens_ask]
      exact hB
  · match k, hk with
    | 0, hk => injection hk with hk; subst hk; cases hw
    | 1, hk => injection hk with hk; subst hk; cases hw
  · match i, j, hi, hj with
    | 0, 0, _, _ => rfl
    | 1, 1, _, _ => rfl
    | 0, 1, hi, hj =>
      injection hi with hi; injection hj with hj; subst hi; subst hj
      injection ei with ei; injection ej with ej
      exact absurd (ei.trans ej.symm) hbg
    | 1, 0, hi, hj =>
      injection hi with hi; injection hj with hj; subst hi; subst hj
      injection ei with ei; injection ej with ej
      exact absurd (ej.trans ei.symm) hbg
set_option maxHeartbeats 4000000 in
theorem indexV_any (s : SS) (A1 : Option Addr) (cap1 : Nat) (m : RQ) (pA : Option Addr) (pl pc : Nat) (a : AC) (b g : Nat) (hbg : b ≠ g) (A : Option Addr) (c : Nat) (ps : List VR) (w : World) (h : Blk w b 86 [.pointer (some ⟨g, 0, none⟩)]) (hB : AskAt w g s A1 cap1 m pA pl pc a) (hr : RdX cVar w A ps) (hl : ps.length ≤ maxLen) : Calls Tryz.prog 96 #[.slice A ps.length c, envFV b] w fun e w' => e = .returned (.int .i64 (varI m.text ps)) ∧ Only [] w w' := by
  have J : ∀ (d i : Nat), ps.length - i = d → i ≤ ps.length → (∀ x ∈ ps.take i, (x.n.toList == m.text.toList) = false) → ∀ (u : Nat → Value), Hs Tryz.prog 96 (fun e w' => e = .returned (.int .i64 (varI m.text ps)) ∧ Only [] w w') (Tryz.f96).ntmps w [] [b, g] ⟨.no, loopAt Tryz.f96 0, pins [(0, .c (.v (.slice A ps.length c))), (1, .c (.v (envFV b))), (7, .c (.v (.int .i64 ps.length))), (8, .c (.v (.int .i64 i)))] (.vals u), [.b false 86 [.p 1 0], .b false 88 (askSC s A1 cap1 m pA pl pc a)]⟩ := by
    intro d
    induction d with
    | zero =>
      intro i hd hi hno u
      obtain rfl : i = ps.length := by omega
      rw [List.take_length] at hno
      have e : varI m.text ps = -1 := by
        unfold varI
        have := idxS_app m.text [] ((ps.map VR.n)) 0 (fun s hs => by
          obtain ⟨x, hx, rfl⟩ := List.mem_map.1 hs
          exact hno x hx)
        rw [List.append_nil] at this
        rw [this]
        rfl
      rw [e]
      refine Hs.run0 300 (fun _ => by kernel_rfl) ?_
      refine Hs.condP ((ps.length : Int) < (ps.length : Int)) (by kernel_rfl) (fun h => by omega) (fun _ => ?_)
      refine Hs.run0 300 (fun _ => by kernel_rfl) ?_
      exact Hs.ret (v := .int .i64 (-1)) Tryz.func96 (by kernel_rfl) fun w' H => ⟨rfl, H.only⟩
    | succ d ih =>
      intro i hd hi hno u
      have hil : i < ps.length := by omega
      obtain ⟨x, hx⟩ : ∃ x, ps[i]? = some x := ⟨_, List.getElem?_eq_getElem hil⟩
      obtain ⟨ab, aoff, hA, _, _⟩ := hr (by omega)
      have hih := fun h u => ih (i + 1) (by omega) (by omega) h u
      clear ih
      rw [hA] at hih hr ⊢
      refine Hs.run0 300 (fun _ => by kernel_rfl) ?_
      refine Hs.condP ((i : Int) < (ps.length : Int)) (by kernel_rfl) (fun _ => ?_) (fun h => by omega)
      refine Hs.run0 300 (fun _ => by kernel_rfl) ?_
      refine Hs.idx (b := ab) (off := aoff) (len := ps.length) (c := c) (i := i) elemVr hil (by kernel_rfl) ?_
      refine Hs.ldx (cf := cVar) (size := 2) (E := 59) (b := ab) (off := aoff) (i := i) (l := ps) (x := x) cVar_len (.g x.sc) (by kernel_rfl) (fun w' H => hr.only H.only) hx (by kernel_rfl) (by kernel_rfl) rfl (by kernel_rfl) ?_
      refine Hs.inl Tryz.func97 [.g x.sc, .c (.p 0 0)] (by kernel_rfl) (by kernel_rfl) ?_
      refine Hs.run1 300 (fun _ => by kernel_rfl) fun b2 => ?_
      refine Hs.any [0, 1, 2] (by kernel_rfl) ?_
      refine Hs.run0 300 (fun _ => by kernel_rfl) ?_
      refine Hs.retI Tryz.func97 (by kernel_rfl) (by kernel_rfl) (by kernel_rfl) ?_
      refine Hs.run0 300 (fun _ => by kernel_rfl) ?_
      refine Hs.cond (x.n.toList == m.text.toList) (by kernel_rfl) (fun h1 => ?_) (fun h1 => ?_)
      · have e : varI m.text ps = i := by
          unfold varI
          have e2 : (ps.map VR.n) = ((ps.take i).map VR.n) ++ (x.n :: ((ps.drop (i + 1)).map VR.n)) := by
            have e3 : ps = ps.take i ++ x :: ps.drop (i + 1) := by
              have h3 := List.drop_eq_getElem_cons hil
              rw [List.getElem?_eq_getElem hil] at hx
              injection hx with hx
              rw [hx] at h3
              rw [← h3, List.take_append_drop]
            rw [← List.map_cons, ← List.map_append, ← e3]
          rw [e2, idxS_app m.text _ _ 0 (fun s hs => by
            obtain ⟨y, hy, rfl⟩ := List.mem_map.1 hs
            exact hno y hy), idx_yes (by rw [← h1]; exact Bool.beq_comm)]
          rw [List.length_map, List.length_take]
          omega
        rw [e]
        refine Hs.run0 300 (fun _ => by kernel_rfl) ?_
        exact Hs.ret (v := .int .i64 i) Tryz.func96 (by kernel_rfl) fun w' H => ⟨rfl, H.only⟩
      · refine Hs.run0 300 (fun _ => by kernel_rfl) ?_
        refine Hs.slot 8 (.c (.v (.int .i64 (i + 1 : Nat)))) rfl ((by kernel_rfl : _ = Value.int .i64 (IntKind.i64.wrap ((i : Int) + 1))).trans (wrap_nextJ hl)) ?_
        refine Hs.loop (by kernel_rfl) ?_
        exact Hs.goto (loopAt Tryz.f96 0) [0, 1] [.b false 86 [.p 1 0], .b false 88 (askSC s A1 cap1 m pA pl pc a)] [(0, .c (.v (.slice (some ⟨ab, aoff, none⟩) ps.length c))), (1, .c (.v (envFV b))), (7, .c (.v (.int .i64 ps.length))), (8, .c (.v (.int .i64 (i + 1 : Nat))))] (by kernel_rfl) (by decide) (by kernel_rfl) (by kernel_rfl) (fun _ => (by kernel_rfl)) (fun u => hih (by
          rw [List.take_add_one, hx]
          intro y hy
          rcases List.mem_append.1 hy with hy | hy
          · exact hno y hy
          · rw [Option.mem_toList] at hy
            injection hy with hy
            subst hy
            exact h1) u)
  refine Hs.enter Tryz.func96 [] [b, g] [.b false 86 [.p 1 0], .b false 88 (askSC s A1 cap1 m pA pl pc a)] [.c (.v (.slice A ps.length c)), .c (.v (envFV b))] (Mem.env h hB hbg) (by kernel_rfl) (by kernel_rfl) ?_
  refine Hs.run0 300 (fun _ => by kernel_rfl) ?_
  refine Hs.loop (by kernel_rfl) ?_
  exact Hs.goto (loopAt Tryz.f96 0) [0, 1] [.b false 86 [.p 1 0], .b false 88 (askSC s A1 cap1 m pA pl pc a)] [(0, .c (.v (.slice A ps.length c))), (1, .c (.v (envFV b))), (7, .c (.v (.int .i64 ps.length))), (8, .c (.v (.int .i64 (0 : Nat))))] (by kernel_rfl) (by decide) (by kernel_rfl) (by kernel_rfl) (fun _ => (by kernel_rfl)) (fun u => J ps.length 0 (by omega) (by omega) (by simp) u)
end Go.Proofs.YtdplnedpbkpgpaaGreatDoor

namespace Go.Proofs.YtdplnedpbkpgpaaGreatDoor
set_option linter.all false
set_option maxRecDepth 100000
open Go.RowKit
def mAo (m : RQ) : Option Addr := if m.modes.length = 0 then none else m.mA
theorem RQ.ok.stable2 {w w' : World} {m : RQ} (h1 : ∀ a, mAo m = some a → w'.heap[a.block]? = w.heap[a.block]?) (h2 : w.heap.size ≤ w'.heap.size) (h : m.ok w) : m.ok w' :=
  ⟨fun h0 => by
    obtain ⟨b, off, e, hlt, hc⟩ := h.modes h0
    exact ⟨b, off, e, Nat.lt_of_lt_of_le hlt h2, fun i x hx => (World.cell?_of_block (w := w) (show w'.heap[b]? = w.heap[b]? from h1 ⟨b, off, none⟩ (by unfold mAo; rw [if_neg (by omega)]; exact e))).trans (hc i x hx)⟩, h.mle, h.mmax, h.bytes, h.nums, h.text, h.value, h.lang⟩
theorem cell_step {w w' : World} {v : Value} (O : Only [] w w') (h : w.cell? ⟨0, 0, none⟩ = some v) : w'.cell? ⟨0, 0, none⟩ = some v := by
  rw [← h]
  exact World.cell?_of_block (w := w) (w' := w') (O.block 0 (block_lt_of_cell h) (by simp))
theorem dec_q {w w' : World} {nm : ByteArray} {l : List Int} {e : Ending} (h : RDecPost w nm l e w') : ∃ x : RQ × Int, e = .returned (.tuple #[x.1.val, .int .i64 x.2]) ∧ Only [] w w' ∧ (x.1.ok w' ∧ DecR nm l x.1 x.2) ∧ ∀ a, mAo x.1 = some a → w.heap.size ≤ a.block ∧ a.block < w'.heap.size := by
  obtain ⟨O, m, E, he, hok, hnew, _, hD⟩ := h
  refine ⟨(m, E), he, O, ⟨hok, hD⟩, fun a ha => ?_⟩
  unfold mAo at ha
  split at ha
  · cases ha
  · rename_i h0
    have h0' : ¬ m.modes.length = 0 := h0
    obtain ⟨b, off, e1, hlt, _⟩ := hok.modes (by omega)
    have ha' : m.mA = some a := ha
    refine ⟨hnew a ha', ?_⟩
    rw [ha'] at e1
    injection e1 with e1
    rw [e1]
    exact hlt
theorem long_le27 {n : Nat} (h : longE n = 0) : n ≤ 1024 := by
  unfold longE at h
  split at h
  · cases h
  · omega
theorem dec_text {nm : ByteArray} {l : List Int} {m : RQ} (h : DecR nm l m 0) (h4 : m.kind = 4) : m.text.size ≤ 1024 := by
  unfold DecR at h
  split at h
  · exact absurd h.1 (by decide)
  · rename_i k hk
    obtain ⟨h1, h2, _⟩ := kindL_range hk
    have hk4 := decK_kind h1 h2 h
    obtain rfl : k = 4 := by omega
    unfold DecK at h
    split at h
    · rename_i hn; exact absurd h.1.symm hn
    · obtain ⟨fs, hf, h⟩ := h
      split at h
      · rename_i hq
        rw [← h.2] at hq
        exact long_le27 hq
      · rename_i hn; exact absurd h.1.symm hn
theorem own_ge {w w' : World} {β : List Nat} {hp : List HB} {T : Nat} {cs : List SC} (H : Mem w [] β hp w') (k : Nat) (hk : hp[k]? = some (.b true T cs)) : w.heap.size ≤ nm β k := (H.own k _ _ hk rfl rfl).resolve_left (by simp)
theorem own_apart {w w' : World} {β : List Nat} {hp : List HB} {T : Nat} {cs : List SC} {A : Option Addr} {Q : World → Prop} {st : ∀ w w' : World, (∀ a, A = some a → w'.heap[a.block]? = w.heap[a.block]?) → w.heap.size ≤ w'.heap.size → Q w → Q w'} (H : Mem w [] β hp w') (i j : Nat) (hi : hp[i]? = some (.q true A Q st)) (hj : hp[j]? = some (.b true T cs)) (hij : i ≠ j) (a : Addr) (ha : A = some a) : a.block ≠ nm β j := fun he =>
  hij (H.inj i j _ _ a.block hi hj (by show Option.map Addr.block A = _; rw [ha]; rfl) (by show some (nm β j) = _; rw [he]))
theorem startS_env (s : SS) (nm : ByteArray) (ps : List PR) : (startS s nm ps).1.env = s.env := by
  unfold startS
  split
  · rfl
  · split <;> rfl
theorem ptyM_env (s : SS) (m : RQ) : (ptyM s m).1.env = s.env := by
  unfold ptyM
  repeat' split
  all_goals rfl
theorem sizeM_env (s : SS) (m : RQ) : (sizeM s m).1.env = s.env := by
  unfold sizeM
  repeat' split
  all_goals rfl
theorem sigM_env (s : SS) (m : RQ) : (sigM s m).1.env = s.env := by
  unfold sigM
  repeat' split
  all_goals rfl
def SS.valL (s : SS) (A : Option Addr) (n cap : Nat) : Value := .agg (#[.bool s.pty, .string s.term, .int .u32 s.c0, .int .u32 s.c1, .int .u32 s.c2, .int .u32 s.c3, .int .u8 (s.t.ch 0), .int .u8 (s.t.ch 1), .int .u8 (s.t.ch 2), .int .u8 (s.t.ch 3), .int .u8 (s.t.ch 4), .int .u8 (s.t.ch 5), .int .u8 (s.t.ch 6), .int .u8 (s.t.ch 7), .int .u8 (s.t.ch 8), .int .u8 (s.t.ch 9), .int .u8 (s.t.ch 10), .int .u8 (s.t.ch 11), .int .u8 (s.t.ch 12), .int .u8 (s.t.ch 13), .int .u8 (s.t.ch 14), .int .u8 (s.t.ch 15), .int .u8 (s.t.ch 16), .int .u8 (s.t.ch 17), .int .u8 (s.t.ch 18), .int .u64 s.t.fl, .int .u32 s.t.inn, .int .u32 s.t.out, .int .i64 s.t.mn, .int .i64 s.t.tm, .slice A n cap, .bool s.st])
theorem var_len (l : List VR) : (l.flatMap cVar).length = l.length * 2 := by
  induction l with
  | nil => rfl
  | cons x l ih => rw [List.flatMap_cons, List.length_append, ih, cVar_len, List.length_cons]; omega
theorem splice_var : ∀ (l : List VR) (i : Nat), i < l.length → ∀ v : ByteArray, splice (l.flatMap cVar) (i * 2 + 1) [.string v] = (l.set i ⟨((l.map VR.n)[i]?).getD ⟨#[]⟩, v⟩).flatMap cVar
  | x :: l, 0, _, v => by simp [splice, cVar]
  | x :: l, i + 1, h, v => by
    have ih := splice_var l i (by simpa using h) v
    have e : (i + 1) * 2 + 1 = i * 2 + 1 + 1 + 1 := by omega
    simp only [List.flatMap_cons, List.set_cons_succ, List.map_cons, List.getElem?_cons_succ]
    rw [← ih, e]
    simp [splice, cVar]
theorem idxS_lt (nm : ByteArray) : ∀ (l : List ByteArray) (k : Int), 0 ≤ k → idxS nm l k < k + l.length
  | [], k, h => by
    show (-1 : Int) < k + ((0 : Nat) : Int)
    omega
  | s :: l, k, h => by
    have ih := idxS_lt nm l (k + 1) (by omega)
    unfold idxS
    rw [List.length_cons]
    split
    · omega
    · omega
theorem varI_lt {nm : ByteArray} {l : List VR} {i : Nat} (h : varI nm l = i) : i < l.length := by
  have := idxS_lt nm (l.map VR.n) 0 (Int.le_refl _)
  unfold varI at h
  rw [h, List.length_map] at this
  omega
theorem SS.val_env (s : SS) (l : List VR) (n : Nat) (h : l.length = n) (A : Option Addr) (cap : Nat) : s.valL A n cap = ({ s with env := l } : SS).val A cap := by
  subst h
  rfl
theorem own_ne {w w' : World} {β : List Nat} {hp : List HB} {T T' : Nat} {cs cs' : List SC} (H : Mem w [] β hp w') (i j : Nat) (hi : hp[i]? = some (.b true T cs)) (hj : hp[j]? = some (.b true T' cs')) (hij : i ≠ j) : nm β i ≠ nm β j := fun he =>
  hij (H.inj i j _ _ (nm β j) hi hj (by show some (nm β i) = _; rw [he]) rfl)
section
variable {P : Program} {f : FuncId} {R : Ending → World → Prop} {n : Nat} {β : List Nat} {m : SM} {w0 : World} {L : List Nat} {E size : Nat}
theorem Hs.stc2 (k : Nat) {g cap nl : Nat} {vs vs' : List Value} (hk : m.hp[k]? = some (.s (some ⟨g, 0, none⟩) cap nl E size vs)) (j : Nat) (hj : j < vs.length) {v : Value} (hv : v.cells = #[v]) (hone : v.oneCell' = true) {E' : TypeId} (hz : szB P E' = some 1)
    (hs : semOf n β m = some (unitS (Instr.storeAt E' (.pointer (some ⟨g, j, none⟩)) v))) (hrd : (rdOf m).contains k = false) (e : splice vs j [v] = vs')
    (h : Hs P f R n w0 L β (m.put (dstOf m) (.c (.v undef)) (m.hp.set k (.s (some ⟨g, 0, none⟩) cap nl E size vs')))) : Hs P f R n w0 L β m := by
  subst e
  exact Hs.stc k hk j hj hv hone hz hs hrd h
end
/-- What Ask answers. -/
def AskD (s : SS) (nam : ByteArray) (l : List Int) (ps : List PR) (w : World) : Ending → World → Prop := fun e w' => Only [] w w' ∧ ∃ (m : RQ) (E : Int) (A' : Option Addr) (cap' : Nat), DecR nam l m E ∧ e = .returned (.tuple #[(askM s m E ps).1.val A' cap', (askM s m E ps).2.val]) ∧ OwnX cVar 59 2 w' w.heap.size (.slice A' (askM s m E ps).1.env.length cap') (askM s m E ps).1.env
theorem askD_ok {s : SS} {nam : ByteArray} {l : List Int} {ps : List PR} {w w' : World} {m : RQ} {E : Int} {z : SS × AC} (hz : askM s m E ps = z) (hD : DecR nam l m E) {A' : Option Addr} {cap' : Nat} {β : List Nat} {hp : List HB} (H : Mem w [] β hp w') {vs : List Value} {nl : Nat} (hv : vs = z.1.env.flatMap cVar) (hn : z.1.env.length = nl) (hk : hp[3]? = some (.s A' cap' nl 59 2 vs)) {v : Value} (he : v = z.1.val A' cap') : AskD s nam l ps w (.returned (.tuple #[v, z.2.val])) w' := by
  subst hz hv hn he
  exact ⟨H.only, m, E, A', cap', hD, rfl, H.fresh 3 rfl hk⟩
theorem rd_modes {w : World} {m : RQ} (h : m.ok w) : RdX cu8 w m.mA m.modes := rd_rdX h.modes
theorem Hs.fact27 {P : Program} {f : FuncId} {R : Ending → World → Prop} {n : Nat} {w0 : World} {L : List Nat} {β : List Nat} {m : SM} {p : Prop} (hp : ∀ w, Mem w0 L β m.hp w → p) (h : p → Hs P f R n w0 L β m) : Hs P f R n w0 L β m := ⟨fun w H W => (h (hp w H)).go w H W⟩
set_option maxHeartbeats 8000000 in
theorem ask_any27 (s : SS) (A : Option Addr) (cap : Nat) (nam : ByteArray) (B : Option Addr) (c : Nat) (l : List Int) (pA : Option Addr) (pc : Nat) (ps : List PR) (w : World) (i0 : Int) (h00 : w.cell? ⟨0, 0, none⟩ = some (.int .i64 i0)) (hs : RdX cVar w A s.env) (hse : s.env.length ≤ 1000000) (hd : Rd w B l) (hl : ∀ x ∈ l, 0 ≤ x ∧ x < 256) (hln : l.length ≤ 140737488355000) (hlc : l.length ≤ c) (hlm : c ≤ maxLen) (hal : ∀ a, B = some a → a.block < w.heap.size) (hr : RdX cPr w pA ps) (hpl : ps.length ≤ maxLen) :
    Calls Tryz.prog 11 #[s.val A cap, .string nam, .slice B l.length c, .slice pA ps.length pc] w (AskD s nam l ps w) := by
  have hw0 : 0 < w.heap.size := block_lt_of_cell h00
  refine Hs.enter Tryz.func11 [] [] [] [.g (s.sc A cap), .c (.v (.string nam)), .c (.v (.slice B l.length c)), .c (.v (.slice pA ps.length pc))] (Mem.start0 w) (by kernel_rfl) (by kernel_rfl) ?_
  refine Hs.run3 300 (fun _ => by kernel_rfl) fun b0 b1 b2 => ?_
  refine Hs.callS (cf := cVar) (E := 59) (size := 2) (fun A cap => .slice A s.env.length cap) s.env s.env.length rfl (fun w' H => cloneV_any s.env A cap w' (hs.only H.only) (by omega)) (by kernel_rfl) (by kernel_rfl) fun A' cap' h1 h2 => ?_
  refine Hs.run0 300 (fun _ => by kernel_rfl) ?_
  refine Hs.callQ (X := RQ × Int) (fun x => mAo x.1) (fun x => .tuple #[x.1.val, .int .i64 x.2]) (fun x w => x.1.ok w ∧ DecR nam l x.1 x.2) (fun x w w' h1 h2 h => ⟨h.1.stable2 h1 h2, h.2⟩) (fun w' H => (rdecode_any nam B l c i0 w' (cell_step H.only h00) (hd.only H.only) hl hln hlc hlm (fun a ha => Nat.lt_of_lt_of_le (hal a ha) H.only.size)).mono fun e w1 h => dec_q h) (by kernel_rfl) (by kernel_rfl) fun x => ?_
  obtain ⟨m, E⟩ := x
  refine Hs.run1 300 (fun _ => by kernel_rfl) fun b5 => ?_
  refine Hs.fact27 (fun w' H => (H.atQ 4 (wr := true) (A := mAo m) (Q := fun w => m.ok w ∧ DecR nam l m E) (st := fun w w' h1 h2 h => ⟨h.1.stable2 h1 h2, h.2⟩) (by kernel_rfl)).2) fun hD => ?_
  refine Hs.cond (E != 0) (by kernel_rfl) (fun h3 => ?_) (fun h3 => ?_)
  · have hz : askM s m E ps = (s, noA) := by unfold askM; rw [if_pos (by simpa using h3)]
    refine Hs.run0 300 (fun _ => by kernel_rfl) ?_
    exact Hs.ret (v := .tuple #[s.val A' cap', noA.val]) Tryz.func11 (by kernel_rfl) fun w' H => askD_ok hz hD H rfl rfl (by kernel_rfl) rfl
  obtain rfl : E = 0 := by simpa using h3
  obtain ⟨k, hk1, hk2, hk⟩ := decR_kind27 hD
  have hz : askM s m 0 ps = kindM s m ps k := by unfold askM; rw [if_neg (by simp), hk]; rfl
  refine Hs.run1 300 (fun _ => by kernel_rfl) fun b6 => ?_
  refine Hs.any [5] (by kernel_rfl) ?_
  refine Hs.run0 300 (fun _ => by kernel_rfl) ?_
  refine Hs.callV (fun w' H => kinds_any27 w') (by kernel_rfl) ?_
  refine Hs.slot 34 (.c (.v (.int .i64 k))) rfl ((by kernel_rfl : _ = Value.int .i64 m.kind).trans (by rw [hk]; rfl)) ?_
  rcases k10 hk1 hk2 with rfl | rfl | rfl | rfl | rfl | rfl | rfl | rfl | rfl | rfl
  · replace hz : askM s m 0 ps = ptyM s m := hz
    obtain ⟨z, hzz⟩ : ∃ z, ptyM s m = z := ⟨_, rfl⟩
    rw [hzz] at hz
    have henv : z.1.env = s.env := (congrArg (fun z : SS × AC => z.1.env) hzz.symm).trans (ptyM_env s m)
    refine Hs.run0 300 (fun _ => by kernel_rfl) ?_
    refine Hs.callP 6 88 (askSC z.1 A' cap' m pA ps.length pc z.2) (v := .tuple #[]) (fun w' H => by
      have hq := (H.atQ 4 (wr := true) (A := mAo m) (Q := fun w => m.ok w ∧ DecR nam l m 0) (st := fun w w' h1 h2 h => ⟨h.1.stable2 h1 h2, h.2⟩) (by kernel_rfl)).1
      have hB := H.at (wr := true) (T := 88) (cs := askSC s A' cap' m pA ps.length pc noA) 6 (by kernel_rfl)
      rw [dens_ask] at hB
      have hg : ∀ a, m.mA = some a → 0 < m.modes.length → a.block ≠ b6 := fun a ha h0 => own_apart H (A := mAo m) (Q := fun w => m.ok w ∧ DecR nam l m 0) (st := fun w w' h1 h2 h => ⟨h.1.stable2 h1 h2, h.2⟩) (T := 88) (cs := askSC s A' cap' m pA ps.length pc noA) 4 6 (by kernel_rfl) (by kernel_rfl) (by decide) a (by unfold mAo; rw [if_neg (by omega)]; exact ha)
      exact (pty_any27 s A' cap' m pA pc ps w' b6 hB ⟨rd_modes hq, hq.mle, hq.mmax⟩ hq.bytes hg).mono fun e w1 h => by rw [hzz] at h; rw [dens_ask]; exact h) (by kernel_rfl) (by kernel_rfl) ?_
    refine Hs.run0 300 (fun _ => by kernel_rfl) ?_
    refine Hs.any [6] (by kernel_rfl) ?_
    refine Hs.run0 300 (fun _ => by kernel_rfl) ?_
    exact Hs.ret (v := .tuple #[z.1.val A' cap', z.2.val]) Tryz.func11 (by kernel_rfl) fun w' H => askD_ok hz hD H (vs := s.env.flatMap cVar) (nl := s.env.length) (by rw [henv]) (by rw [henv]) (by kernel_rfl) rfl
  · replace hz : askM s m 0 ps = envM s m := hz
    unfold envM at hz
    refine Hs.run0 300 (fun _ => by kernel_rfl) ?_
    refine Hs.inl Tryz.func53 [.c (.p 6 0)] (by kernel_rfl) (by kernel_rfl) ?_
    refine Hs.run1 300 (fun _ => by kernel_rfl) fun b7 => ?_
    refine Hs.cond s.st (by kernel_rfl) (fun h4 => ?_) (fun h4 => ?_)
    · rw [if_pos h4] at hz
      refine Hs.run0 300 (fun _ => by kernel_rfl) ?_
      refine Hs.retI Tryz.func53 (by kernel_rfl) (by kernel_rfl) (by kernel_rfl) ?_
      refine Hs.run0 300 (fun _ => by kernel_rfl) ?_
      refine Hs.any [6] (by kernel_rfl) ?_
      refine Hs.run0 300 (fun _ => by kernel_rfl) ?_
      exact Hs.ret (v := .tuple #[s.val A' cap', noA.val]) Tryz.func11 (by kernel_rfl) fun w' H => askD_ok hz hD H rfl rfl (by kernel_rfl) rfl
    rw [if_neg (by rw [h4]; decide)] at hz
    refine Hs.run0 300 (fun _ => by kernel_rfl) ?_
    refine Hs.callV (v := .int .i64 (varI m.text s.env)) (fun w' H => by
      have hB := H.at (wr := true) (T := 88) (cs := askSC s A' cap' m pA ps.length pc noA) 6 (by kernel_rfl)
      rw [dens_ask] at hB
      have hne : b7 ≠ b6 := own_ne H 7 6 (T := 86) (cs := [.p 6 0]) (T' := 88) (cs' := askSC s A' cap' m pA ps.length pc noA) (by kernel_rfl) (by kernel_rfl) (by decide)
      have hR : RdX cVar w' A' s.env := H.rdX 3 (A := A') (cap := cap') (E := 59) (size := 2) rfl (by kernel_rfl)
      have hP : Blk w' b7 86 [.pointer (some ⟨b6, 0, none⟩)] := H.at (wr := true) (T := 86) (cs := [.p 6 0]) 7 (by kernel_rfl)
      exact indexV_any s A' cap' m pA ps.length pc noA b7 b6 hne A' cap' s.env w' hP hB hR (by unfold maxLen; omega)) (by kernel_rfl) ?_
    refine Hs.run0 300 (fun _ => by kernel_rfl) ?_
    refine Hs.condP (varI m.text s.env ≥ 0) (by kernel_rfl) (fun h5 => ?_) (fun h5 => ?_)
    · rw [if_pos h5] at hz
      obtain ⟨i, hi⟩ : ∃ i : Nat, varI m.text s.env = i := ⟨_, (Int.toNat_of_nonneg h5).symm⟩
      have hil : i < s.env.length := varI_lt hi
      rw [hi, Int.toNat_natCast] at hz
      refine Hs.someS (A := A') (cap := cap') (nl := s.env.length) (E := 59) (size := 2) (vs := s.env.flatMap cVar) 3 (by kernel_rfl) (by omega) fun g hA => ?_
      subst hA
      refine Hs.run0 300 (fun _ => by kernel_rfl) ?_
      refine Hs.any [6, 7] (by kernel_rfl) ?_
      refine Hs.run0 300 (fun _ => by kernel_rfl) ?_
      refine Hs.slot 45 (.c (.v (.int .i64 i))) rfl ((by kernel_rfl : _ = Value.int .i64 (varI m.text s.env)).trans (congrArg (Value.int .i64) hi)) ?_
      refine Hs.idx (b := g) (off := 0) (c := cap') (len := s.env.length) (i := i) elemVr hil (by kernel_rfl) ?_
      refine Hs.run0 300 (fun _ => by kernel_rfl) ?_
      refine Hs.stc2 (E := 59) (size := 2) (g := g) (cap := cap') (nl := s.env.length) (vs := s.env.flatMap cVar) (E' := 9) 3 (by kernel_rfl) (0 + i * 2 + 1) (by rw [var_len]; omega) (v := .string m.value) rfl rfl (by kernel_rfl) (by kernel_rfl) (by kernel_rfl) (vs' := (s.env.set i ⟨((s.env.map VR.n)[i]?).getD ⟨#[]⟩, m.value⟩).flatMap cVar) (by rw [Nat.zero_add]; exact splice_var s.env i hil m.value) ?_
      refine Hs.run0 300 (fun _ => by kernel_rfl) ?_
      refine Hs.callP 6 88 (askSC s (some ⟨g, 0, none⟩) cap' m pA ps.length pc okA) (v := .tuple #[]) (fun w' H => (ok_any27 s (some ⟨g, 0, none⟩) cap' m pA pc ps w' b6 noA (by have := H.at (wr := true) (T := 88) (cs := askSC s (some ⟨g, 0, none⟩) cap' m pA ps.length pc noA) 6 (by kernel_rfl); rw [dens_ask] at this; exact this)).mono fun e w1 h => by rw [dens_ask]; exact h) (by kernel_rfl) (by kernel_rfl) ?_
      refine Hs.run0 300 (fun _ => by kernel_rfl) ?_
      refine Hs.retI Tryz.func53 (by kernel_rfl) (by kernel_rfl) (by kernel_rfl) ?_
      refine Hs.run0 300 (fun _ => by kernel_rfl) ?_
      refine Hs.any [6] (by kernel_rfl) ?_
      refine Hs.run0 300 (fun _ => by kernel_rfl) ?_
      exact Hs.ret (v := .tuple #[s.val (some ⟨g, 0, none⟩) cap', okA.val]) Tryz.func11 (by kernel_rfl) fun w' H => askD_ok hz hD H rfl List.length_set (by kernel_rfl) (SS.val_env s _ _ List.length_set _ _)
    rw [if_neg h5] at hz
    refine Hs.run0 300 (fun _ => by kernel_rfl) ?_
    refine Hs.condP ((s.env.length : Int) ≥ 16) (by kernel_rfl) (fun h6 => ?_) (fun h6 => ?_)
    · rw [if_pos h6] at hz
      refine Hs.run0 300 (fun _ => by kernel_rfl) ?_
      refine Hs.retI Tryz.func53 (by kernel_rfl) (by kernel_rfl) (by kernel_rfl) ?_
      refine Hs.run0 300 (fun _ => by kernel_rfl) ?_
      refine Hs.any [6] (by kernel_rfl) ?_
      refine Hs.run0 300 (fun _ => by kernel_rfl) ?_
      exact Hs.ret (v := .tuple #[s.val A' cap', noA.val]) Tryz.func11 (by kernel_rfl) fun w' H => askD_ok hz hD H rfl rfl (by kernel_rfl) rfl
    rw [if_neg h6] at hz
    refine Hs.run0 300 (fun _ => by kernel_rfl) ?_
    refine Hs.any [6, 7, 1022] (by kernel_rfl) ?_
    refine Hs.run1 300 (fun _ => by kernel_rfl) fun b8 => ?_
    refine Hs.app (cf := cVar) (c := 1) (ty := 39) 3 elemVr s.env [(⟨m.text, m.value⟩ : VR)] s.env.length 1 rfl rfl cVar_one cVar_len (A := A') (B := some ⟨b8, 0, none⟩) (cap := cap') (by kernel_rfl) (by kernel_rfl) (by kernel_rfl) (fun w' H => H.rdB (gs := [(⟨m.text, m.value⟩ : VR)]) 8 (wr := true) (T := 59) (cs := VR.sc ⟨m.text, m.value⟩) (by kernel_rfl) rfl) (by unfold maxLen; omega) (by rw [by_vr]; omega) fun A2 cap2 h7 => ?_
    refine Hs.runK [95] 1000 0 Tryz.func53 rfl (by kernel_rfl) (fun ν => by kernel_rfl) (fun ν => by kernel_rfl) fun ν hν => ?_
    obtain rfl := List.length_eq_zero_iff.1 hν
    refine Hs.retI Tryz.func53 (by kernel_rfl) (by kernel_rfl) (by kernel_rfl) ?_
    refine Hs.run0 300 (fun _ => by kernel_rfl) ?_
    refine Hs.any [6] (by kernel_rfl) ?_
    refine Hs.run0 300 (fun _ => by kernel_rfl) ?_
    exact Hs.ret (v := .tuple #[s.valL A2 (s.env.length + 1) cap2, okA.val]) Tryz.func11 (by kernel_rfl) fun w' H => askD_ok hz hD H (A' := A2) (cap' := cap2) (nl := s.env.length + 1) rfl (by show (s.env ++ [_]).length = _; rw [List.length_append]; rfl) (by kernel_rfl) (SS.val_env s (s.env ++ [⟨m.text, m.value⟩]) (s.env.length + 1) (by rw [List.length_append]; rfl) A2 cap2)
  · replace hz : askM s m 0 ps = startS s shellS ps := hz
    obtain ⟨z, hzz⟩ : ∃ z, startS s shellS ps = z := ⟨_, rfl⟩
    rw [hzz] at hz
    have henv : z.1.env = s.env := (congrArg (fun z : SS × AC => z.1.env) hzz.symm).trans (startS_env s shellS ps)
    refine Hs.run0 300 (fun _ => by kernel_rfl) ?_
    refine Hs.callP 6 88 (askSC z.1 A' cap' m pA ps.length pc z.2) (v := .tuple #[]) (fun w' H => (shell_any27 s A' cap' m pA pc ps w' b6 (by have := H.at (wr := true) (T := 88) (cs := askSC s A' cap' m pA ps.length pc noA) 6 (by kernel_rfl); rw [dens_ask] at this; exact this) (hr.only H.only) hpl (fun a ha h0 => by obtain ⟨b, off, e, hlt, _⟩ := hr h0; rw [ha] at e; injection e with e; have : w.heap.size ≤ b6 := own_ge H 6 (T := 88) (cs := askSC s A' cap' m pA ps.length pc noA) (by kernel_rfl); rw [e]; show b ≠ b6; omega)).mono fun e w1 h => by rw [hzz] at h; rw [dens_ask]; exact h) (by kernel_rfl) (by kernel_rfl) ?_
    refine Hs.run0 300 (fun _ => by kernel_rfl) ?_
    refine Hs.any [6] (by kernel_rfl) ?_
    refine Hs.run0 300 (fun _ => by kernel_rfl) ?_
    exact Hs.ret (v := .tuple #[z.1.val A' cap', z.2.val]) Tryz.func11 (by kernel_rfl) fun w' H => askD_ok hz hD H (vs := s.env.flatMap cVar) (nl := s.env.length) (by rw [henv]) (by rw [henv]) (by kernel_rfl) rfl
  · replace hz : askM s m 0 ps = startS s (cutS m.text) ps := hz
    obtain ⟨z, hzz⟩ : ∃ z, startS s (cutS m.text) ps = z := ⟨_, rfl⟩
    rw [hzz] at hz
    have henv : z.1.env = s.env := (congrArg (fun z : SS × AC => z.1.env) hzz.symm).trans (startS_env s (cutS m.text) ps)
    refine Hs.run0 300 (fun _ => by kernel_rfl) ?_
    refine Hs.callP 6 88 (askSC z.1 A' cap' m pA ps.length pc z.2) (v := .tuple #[]) (fun w' H => (exec_any27 s A' cap' m pA pc ps w' b6 i0 (cell_step H.only h00) (by have : w.heap.size ≤ b6 := own_ge H 6 (T := 88) (cs := askSC s A' cap' m pA ps.length pc noA) (by kernel_rfl); omega) (by have := dec_text hD hk; omega) (by have := H.at (wr := true) (T := 88) (cs := askSC s A' cap' m pA ps.length pc noA) 6 (by kernel_rfl); rw [dens_ask] at this; exact this) (hr.only H.only) hpl (fun a ha h0 => by obtain ⟨b, off, e, hlt, _⟩ := hr h0; rw [ha] at e; injection e with e; have : w.heap.size ≤ b6 := own_ge H 6 (T := 88) (cs := askSC s A' cap' m pA ps.length pc noA) (by kernel_rfl); rw [e]; show b ≠ b6; omega)).mono fun e w1 h => by rw [hzz] at h; rw [dens_ask]; exact h) (by kernel_rfl) (by kernel_rfl) ?_
    refine Hs.run0 300 (fun _ => by kernel_rfl) ?_
    refine Hs.any [6] (by kernel_rfl) ?_
    refine Hs.run0 300 (fun _ => by kernel_rfl) ?_
    exact Hs.ret (v := .tuple #[z.1.val A' cap', z.2.val]) Tryz.func11 (by kernel_rfl) fun w' H => askD_ok hz hD H (vs := s.env.flatMap cVar) (nl := s.env.length) (by rw [henv]) (by rw [henv]) (by kernel_rfl) rfl
  · replace hz : askM s m 0 ps = startS s m.text ps := hz
    obtain ⟨z, hzz⟩ : ∃ z, startS s m.text ps = z := ⟨_, rfl⟩
    rw [hzz] at hz
    have henv : z.1.env = s.env := (congrArg (fun z : SS × AC => z.1.env) hzz.symm).trans (startS_env s m.text ps)
    refine Hs.run0 300 (fun _ => by kernel_rfl) ?_
    refine Hs.callP 6 88 (askSC z.1 A' cap' m pA ps.length pc z.2) (v := .tuple #[]) (fun w' H => (subsystem_any27 s A' cap' m pA pc ps w' b6 (by have := H.at (wr := true) (T := 88) (cs := askSC s A' cap' m pA ps.length pc noA) 6 (by kernel_rfl); rw [dens_ask] at this; exact this) (hr.only H.only) hpl (fun a ha h0 => by obtain ⟨b, off, e, hlt, _⟩ := hr h0; rw [ha] at e; injection e with e; have : w.heap.size ≤ b6 := own_ge H 6 (T := 88) (cs := askSC s A' cap' m pA ps.length pc noA) (by kernel_rfl); rw [e]; show b ≠ b6; omega)).mono fun e w1 h => by rw [hzz] at h; rw [dens_ask]; exact h) (by kernel_rfl) (by kernel_rfl) ?_
    refine Hs.run0 300 (fun _ => by kernel_rfl) ?_
    refine Hs.any [6] (by kernel_rfl) ?_
    refine Hs.run0 300 (fun _ => by kernel_rfl) ?_
    exact Hs.ret (v := .tuple #[z.1.val A' cap', z.2.val]) Tryz.func11 (by kernel_rfl) fun w' H => askD_ok hz hD H (vs := s.env.flatMap cVar) (nl := s.env.length) (by rw [henv]) (by rw [henv]) (by kernel_rfl) rfl
  · replace hz : askM s m 0 ps = sizeM s m := hz
    obtain ⟨z, hzz⟩ : ∃ z, sizeM s m = z := ⟨_, rfl⟩
    rw [hzz] at hz
    have henv : z.1.env = s.env := (congrArg (fun z : SS × AC => z.1.env) hzz.symm).trans (sizeM_env s m)
    refine Hs.run0 300 (fun _ => by kernel_rfl) ?_
    refine Hs.callP 6 88 (askSC z.1 A' cap' m pA ps.length pc z.2) (v := .tuple #[]) (fun w' H => (resize_any27 s A' cap' m pA pc ps w' b6 (by have := H.at (wr := true) (T := 88) (cs := askSC s A' cap' m pA ps.length pc noA) 6 (by kernel_rfl); rw [dens_ask] at this; exact this)).mono fun e w1 h => by rw [hzz] at h; rw [dens_ask]; exact h) (by kernel_rfl) (by kernel_rfl) ?_
    refine Hs.run0 300 (fun _ => by kernel_rfl) ?_
    refine Hs.any [6] (by kernel_rfl) ?_
    refine Hs.run0 300 (fun _ => by kernel_rfl) ?_
    exact Hs.ret (v := .tuple #[z.1.val A' cap', z.2.val]) Tryz.func11 (by kernel_rfl) fun w' H => askD_ok hz hD H (vs := s.env.flatMap cVar) (nl := s.env.length) (by rw [henv]) (by rw [henv]) (by kernel_rfl) rfl
  · replace hz : askM s m 0 ps = ((s, noA) : SS × AC) := hz
    obtain ⟨z, hzz⟩ : ∃ z, ((s, noA) : SS × AC) = z := ⟨_, rfl⟩
    rw [hzz] at hz
    have henv : z.1.env = s.env := (congrArg (fun z : SS × AC => z.1.env) hzz.symm).trans (rfl)
    refine Hs.run0 300 (fun _ => by kernel_rfl) ?_
    refine Hs.callP 6 88 (askSC z.1 A' cap' m pA ps.length pc z.2) (v := .tuple #[]) (fun w' H => (nothing_any27 s A' cap' m pA pc ps w' b6 (by have := H.at (wr := true) (T := 88) (cs := askSC s A' cap' m pA ps.length pc noA) 6 (by kernel_rfl); rw [dens_ask] at this; exact this)).mono fun e w1 h => by rw [hzz] at h; rw [dens_ask]; exact h) (by kernel_rfl) (by kernel_rfl) ?_
    refine Hs.run0 300 (fun _ => by kernel_rfl) ?_
    refine Hs.any [6] (by kernel_rfl) ?_
    refine Hs.run0 300 (fun _ => by kernel_rfl) ?_
    exact Hs.ret (v := .tuple #[z.1.val A' cap', z.2.val]) Tryz.func11 (by kernel_rfl) fun w' H => askD_ok hz hD H (vs := s.env.flatMap cVar) (nl := s.env.length) (by rw [henv]) (by rw [henv]) (by kernel_rfl) rfl
  · replace hz : askM s m 0 ps = sigM s m := hz
    obtain ⟨z, hzz⟩ : ∃ z, sigM s m = z := ⟨_, rfl⟩
    rw [hzz] at hz
    have henv : z.1.env = s.env := (congrArg (fun z : SS × AC => z.1.env) hzz.symm).trans (sigM_env s m)
    refine Hs.run0 300 (fun _ => by kernel_rfl) ?_
    refine Hs.callP 6 88 (askSC z.1 A' cap' m pA ps.length pc z.2) (v := .tuple #[]) (fun w' H => (signal_any27 s A' cap' m pA pc ps w' b6 (by have := H.at (wr := true) (T := 88) (cs := askSC s A' cap' m pA ps.length pc noA) 6 (by kernel_rfl); rw [dens_ask] at this; exact this)).mono fun e w1 h => by rw [hzz] at h; rw [dens_ask]; exact h) (by kernel_rfl) (by kernel_rfl) ?_
    refine Hs.run0 300 (fun _ => by kernel_rfl) ?_
    refine Hs.any [6] (by kernel_rfl) ?_
    refine Hs.run0 300 (fun _ => by kernel_rfl) ?_
    exact Hs.ret (v := .tuple #[z.1.val A' cap', z.2.val]) Tryz.func11 (by kernel_rfl) fun w' H => askD_ok hz hD H (vs := s.env.flatMap cVar) (nl := s.env.length) (by rw [henv]) (by rw [henv]) (by kernel_rfl) rfl
  · replace hz : askM s m 0 ps = ((s, noA) : SS × AC) := hz
    obtain ⟨z, hzz⟩ : ∃ z, ((s, noA) : SS × AC) = z := ⟨_, rfl⟩
    rw [hzz] at hz
    have henv : z.1.env = s.env := (congrArg (fun z : SS × AC => z.1.env) hzz.symm).trans (rfl)
    refine Hs.run0 300 (fun _ => by kernel_rfl) ?_
    refine Hs.callP 6 88 (askSC z.1 A' cap' m pA ps.length pc z.2) (v := .tuple #[]) (fun w' H => (nothing_any27 s A' cap' m pA pc ps w' b6 (by have := H.at (wr := true) (T := 88) (cs := askSC s A' cap' m pA ps.length pc noA) 6 (by kernel_rfl); rw [dens_ask] at this; exact this)).mono fun e w1 h => by rw [hzz] at h; rw [dens_ask]; exact h) (by kernel_rfl) (by kernel_rfl) ?_
    refine Hs.run0 300 (fun _ => by kernel_rfl) ?_
    refine Hs.any [6] (by kernel_rfl) ?_
    refine Hs.run0 300 (fun _ => by kernel_rfl) ?_
    exact Hs.ret (v := .tuple #[z.1.val A' cap', z.2.val]) Tryz.func11 (by kernel_rfl) fun w' H => askD_ok hz hD H (vs := s.env.flatMap cVar) (nl := s.env.length) (by rw [henv]) (by rw [henv]) (by kernel_rfl) rfl
  · replace hz : askM s m 0 ps = ((s, noA) : SS × AC) := hz
    obtain ⟨z, hzz⟩ : ∃ z, ((s, noA) : SS × AC) = z := ⟨_, rfl⟩
    rw [hzz] at hz
    have henv : z.1.env = s.env := (congrArg (fun z : SS × AC => z.1.env) hzz.symm).trans (rfl)
    refine Hs.run0 300 (fun _ => by kernel_rfl) ?_
    refine Hs.callP 6 88 (askSC z.1 A' cap' m pA ps.length pc z.2) (v := .tuple #[]) (fun w' H => (nothing_any27 s A' cap' m pA pc ps w' b6 (by have := H.at (wr := true) (T := 88) (cs := askSC s A' cap' m pA ps.length pc noA) 6 (by kernel_rfl); rw [dens_ask] at this; exact this)).mono fun e w1 h => by rw [hzz] at h; rw [dens_ask]; exact h) (by kernel_rfl) (by kernel_rfl) ?_
    refine Hs.run0 300 (fun _ => by kernel_rfl) ?_
    refine Hs.any [6] (by kernel_rfl) ?_
    refine Hs.run0 300 (fun _ => by kernel_rfl) ?_
    exact Hs.ret (v := .tuple #[z.1.val A' cap', z.2.val]) Tryz.func11 (by kernel_rfl) fun w' H => askD_ok hz hD H (vs := s.env.flatMap cVar) (nl := s.env.length) (by rw [henv]) (by rw [henv]) (by kernel_rfl) rfl
end Go.Proofs.YtdplnedpbkpgpaaGreatDoor

namespace Go.Proofs.YtdplnedpbkpgpaaGreatDoor
set_option linter.all false

section
variable (P : Program)
def selfA : Nat → TypeId → Value → Bool
  | 0, _, _ => false
  | m + 1, t, v => match P.underlying t with
    | some .bool => match v with
      | .bool _ => true
      | _ => false
    | some (.int _) => match v with
      | .int _ _ => true
      | _ => false
    | some .string => match v with
      | .string _ => true
      | _ => false
    | some (.struct fs) => match v with
      | .agg xs => !P.stoodInHeld t && fs.toList.all fun f => f.name != "_" && (match partS P f.type (xs.toList.map .v) f.offset with
        | some u => selfA m f.type (u.den [])
        | none => false)
      | _ => false
    | some (.array len e) => match v with
      | .agg xs => (P.info? e).isSome && (List.range len).all fun i => (match partS P e (xs.toList.map .v) (i * P.cellsOf e) with
        | some u => selfA m e (u.den [])
        | none => false)
      | _ => false
    | _ => false
end
section
variable {P : Program}
theorem selfA_run : ∀ (m : Nat) (t : TypeId) (v : Value), selfA P m t v = true → ∀ (d : Nat) (w : World), (Op.equalIn (d + m) t v v).run P w = .ok true w
  | 0, t, v, h, d, w => by simp [selfA] at h
  | m + 1, t, v, h, d, w => by
    rw [show d + (m + 1) = (d + m) + 1 by omega]
    unfold selfA at h
    split at h
    · rename_i hu
      split at h
      · rename_i b; rw [run_equalIn_bool' w (d + m) t b b hu]; simp
      · cases h
    · rename_i k hu
      split at h
      · rename_i k' a; rw [run_equalIn_int w (d + m) t k' k a a hu]; simp
      · cases h
    · rename_i hu
      split at h
      · rename_i s; rw [run_equalIn_string w (d + m) t s s hu]; simp
      · cases h
    · rename_i fs hu
      split at h
      · rename_i xs
        simp only [Bool.and_eq_true, Bool.not_eq_true'] at h
        have hf : P.fieldsOf t = fs := by unfold Program.fieldsOf; rw [hu]
        rw [run_equalIn_struct w (d + m) t xs xs (by rw [hf]; exact hu) h.1, hf]
        have key : ∀ l : List Field, (l.all fun f => f.name != "_" && (match partS P f.type (xs.toList.map .v) f.offset with | some u => selfA P m f.type (u.den []) | none => false)) = true → (Op.eqFields (d + m) xs xs l).run P w = .ok true w := by
          intro l
          induction l with
          | nil => intro _; simp [Op.eqFields]
          | cons f l ih =>
            intro hl
            simp only [List.all_cons, Bool.and_eq_true] at hl
            obtain ⟨⟨h1, h2⟩, h3⟩ := hl
            split at h2
            · rename_i u hp
              have hpart : (part f.type xs f.offset).run P w = .ok (u.den []) w := by
                have := run_part_S (β := []) (w := w) hp
                rwa [dens_v, Array.toArray_toList] at this
              have hself := selfA_run m f.type (u.den []) h2 d w
              have hne : f.name ≠ "_" := by simpa using h1
              simp only [Op.eqFields, hne, ne_eq, not_false_eq_true, if_true, Sem.run_bind, hpart, Result.andThen_ok, hself, Bool.not_true, Bool.false_eq_true, if_false]
              exact ih h3
            · cases h2
        exact key fs.toList h.2
      · cases h
    · rename_i len e hu
      split at h
      · rename_i xs
        simp only [Bool.and_eq_true] at h
        obtain ⟨i, hi⟩ := Option.isSome_iff_exists.1 h.1
        rw [run_equalIn_array w (d + m) xs xs hu hi]
        have key : ∀ l : List Nat, (l.all fun i => (match partS P e (xs.toList.map .v) (i * P.cellsOf e) with | some u => selfA P m e (u.den []) | none => false)) = true → (Op.eqItems (d + m) e (P.cellsOf e) xs xs l).run P w = .ok true w := by
          intro l
          induction l with
          | nil => intro _; simp [Op.eqItems]
          | cons f l ih =>
            intro hl
            simp only [List.all_cons, Bool.and_eq_true] at hl
            obtain ⟨h2, h3⟩ := hl
            split at h2
            · rename_i u hp
              have hpart : (part e xs (f * P.cellsOf e)).run P w = .ok (u.den []) w := by
                have := run_part_S (β := []) (w := w) hp
                rwa [dens_v, Array.toArray_toList] at this
              have hself := selfA_run m e (u.den []) h2 d w
              simp only [Op.eqItems, Sem.run_bind, hpart, Result.andThen_ok, hself, Bool.not_true, Bool.false_eq_true, if_false]
              exact ih h3
            · cases h2
        exact key (List.range len) h.2
      · cases h
    · cases h
variable {f : FuncId} {R : Ending → World → Prop} {n : Nat} {w0 : World} {L : List Nat} {β : List Nat} {m : SM}
theorem run_sameA {op : BinOp} {T : TypeId} {xs : Array Value} {b : Bool} (ho : op = .eql ∧ b = true ∨ op = .neq ∧ b = false) (hm : P.eqGuardType P.depth T = false) (h : selfA P 100 T (.agg xs) = true) (x y : Operand) (w : World) : ((do eqGuard op T x y (.agg xs) (.agg xs); binOp op T (.agg xs) (.agg xs)) : Sem Value).run P w = .ok (.bool b) w := by
  have hr := selfA_run 100 T (.agg xs) h 9900 w
  rcases ho with ⟨rfl, rfl⟩ | ⟨rfl, rfl⟩
  · simp only [Sem.run_bind, run_eqGuard_agg w _ T x y xs xs hm, Result.andThen_ok, run_eql_struct]
    rw [show (10000 : Nat) = 9900 + 100 from rfl, hr]; rfl
  · simp only [Sem.run_bind, run_eqGuard_agg w _ T x y xs xs hm, Result.andThen_ok, run_neq_struct]
    rw [show (10000 : Nat) = 9900 + 100 from rfl, hr]; rfl
/-- A struct against itself. -/
theorem Hs.sameA {op : BinOp} {T : TypeId} (xs : Array Value) (b : Bool) (hc : sameOf n β m = some (op, T, .agg xs, .agg xs)) (ho : op = .eql ∧ b = true ∨ op = .neq ∧ b = false) (hm : (!P.eqGuardType P.depth T && selfA P 100 T (.agg xs)) = true) (h : Hs P f R n w0 L β (m.put (dstOf m) (.c (.v (.bool b))) m.hp)) : Hs P f R n w0 L β m := by
  simp only [Bool.and_eq_true, Bool.not_eq_true'] at hm
  refine ⟨fun w H W => ?_⟩
  unfold sameOf at hc
  split at hc
  · rename_i o hcur
    split at hc
    · rename_i hg
      split at hc
      · rename_i op' T' x y z hop
        simp only [Option.some.injEq, Prod.mk.injEq] at hc
        obtain ⟨rfl, rfl, hx, hy⟩ := hc
        have hd : dstOf m = o.dst := by unfold dstOf; rw [hcur]
        rw [hd] at h
        refine Gs.val (v := .c (.v (.bool b))) hcur hg ?_ (h.go w H ?_)
        · have hr := run_sameA (P := P) ho hm.1 hm.2 x y w
          simp only [execOp, hop, hx, hy, Sem.run_bind] at hr ⊢
          simp only [hr, Result.andThen_ok, Sem.run_pure]
          rfl
        · simp only [SM.wf, SM.put, Bool.and_eq_true]
          exact ⟨putS_wf (SM.wf_sl W) rfl, SM.wf_hp W⟩
      · cases hc
    · cases hc
  · cases hc
end
end Go.Proofs.YtdplnedpbkpgpaaGreatDoor

namespace Go.Proofs.YtdplnedpbkpgpaaGreatDoor
set_option linter.all false

section
variable (P : Program)
def cmpL (rec : TypeId → Value → Value → Option Bool) (xs ys : Array Value) : List Field → Option Bool
  | [] => some true
  | f :: l => match f.name != "_" with
    | true => match partS P f.type (xs.toList.map .v) f.offset, partS P f.type (ys.toList.map .v) f.offset with
      | some u, some u' => match rec f.type (u.den []) (u'.den []), cmpL rec xs ys l with
        | some a, some b => some (a && b)
        | _, _ => none
      | _, _ => none
    | false => none
/-- What a comparison of two values answers. -/
def cmpB : Nat → TypeId → Value → Value → Option Bool
  | 0, _, _, _ => none
  | m + 1, t, v, v' => match P.underlying t with
    | some .bool => match v, v' with
      | .bool a, .bool b => some (a == b)
      | _, _ => none
    | some (.int _) => match v, v' with
      | .int k a, .int k' b => match decide (k = k') with
        | true => some (a == b)
        | false => none
      | _, _ => none
    | some (.struct fs) => match v, v' with
      | .agg xs, .agg ys => match P.stoodInHeld t with
        | false => cmpL P (cmpB m) xs ys fs.toList
        | true => none
      | _, _ => none
    | _ => none
end
section
variable {P : Program}
theorem cmpB_run : ∀ (m : Nat) (t : TypeId) (v v' : Value) (r : Bool), cmpB P m t v v' = some r → ∀ (d : Nat) (w : World), (Op.equalIn (d + m) t v v').run P w = .ok r w
  | 0, t, v, v', r, h, d, w => by simp [cmpB] at h
  | m + 1, t, v, v', r, h, d, w => by
    rw [show d + (m + 1) = (d + m) + 1 by omega]
    unfold cmpB at h
    split at h
    · rename_i hu
      split at h
      · rename_i a b
        injection h with h
        subst h
        rw [run_equalIn_bool' w (d + m) t a b hu]
      · cases h
    · rename_i k hu
      split at h
      · rename_i k1 a k2 b
        split at h
        · rename_i hk
          have hk : k1 = k2 := by simpa using hk
          subst hk
          injection h with h
          subst h
          rw [run_equalIn_int w (d + m) t k1 k a b hu]
        · cases h
      · cases h
    · rename_i fs hu
      split at h
      · rename_i xs ys
        split at h
        · rename_i hst
          have hf : P.fieldsOf t = fs := by unfold Program.fieldsOf; rw [hu]
          rw [run_equalIn_struct w (d + m) t xs ys (by rw [hf]; exact hu) hst, hf]
          have key : ∀ (l : List Field) (r : Bool), cmpL P (cmpB P m) xs ys l = some r → (Op.eqFields (d + m) xs ys l).run P w = .ok r w := by
            intro l
            induction l with
            | nil => intro r h; simp only [cmpL, Option.some.injEq] at h; subst h; simp [Op.eqFields]
            | cons f l ih =>
              intro r hl
              unfold cmpL at hl
              split at hl
              · rename_i h1
                split at hl
                · rename_i u u' hp hp'
                  split at hl
                  · rename_i a b ha hb
                    injection hl with hl
                    subst hl
                    have hpart : (part f.type xs f.offset).run P w = .ok (u.den []) w := by
                      have := run_part_S (β := []) (w := w) hp
                      rwa [dens_v, Array.toArray_toList] at this
                    have hpart' : (part f.type ys f.offset).run P w = .ok (u'.den []) w := by
                      have := run_part_S (β := []) (w := w) hp'
                      rwa [dens_v, Array.toArray_toList] at this
                    have hne : f.name ≠ "_" := by simpa using h1
                    have hc := cmpB_run m f.type (u.den []) (u'.den []) a ha d w
                    simp only [Op.eqFields, hne, ne_eq, not_false_eq_true, if_true, Sem.run_bind, hpart, hpart', Result.andThen_ok, hc]
                    cases a
                    · simp
                    · simp only [Bool.not_true, Bool.false_eq_true, if_false, Bool.true_and]
                      exact ih b hb
                  · cases hl
                · cases hl
              · cases hl
          exact key fs.toList r h
        · cases h
      · cases h
    · cases h
variable {f : FuncId} {R : Ending → World → Prop} {n : Nat} {w0 : World} {L : List Nat} {β : List Nat} {m : SM}
theorem run_cmp {op : BinOp} {T : TypeId} {xs ys : Array Value} {b r : Bool} (ho : op = .eql ∧ b = r ∨ op = .neq ∧ b = !r) (hm : P.eqGuardType P.depth T = false) (h : cmpB P 100 T (.agg xs) (.agg ys) = some r) (x y : Operand) (w : World) : ((do eqGuard op T x y (.agg xs) (.agg ys); binOp op T (.agg xs) (.agg ys)) : Sem Value).run P w = .ok (.bool b) w := by
  have hr := cmpB_run 100 T (.agg xs) (.agg ys) r h 9900 w
  rcases ho with ⟨rfl, rfl⟩ | ⟨rfl, rfl⟩
  · simp only [Sem.run_bind, run_eqGuard_agg w _ T x y xs ys hm, Result.andThen_ok, run_eql_struct]
    rw [show (10000 : Nat) = 9900 + 100 from rfl, hr]; rfl
  · simp only [Sem.run_bind, run_eqGuard_agg w _ T x y xs ys hm, Result.andThen_ok, run_neq_struct]
    rw [show (10000 : Nat) = 9900 + 100 from rfl, hr]; rfl
/-- Two structs compared. -/
theorem Hs.cmp {op : BinOp} {T : TypeId} (xs ys : Array Value) (r b : Bool) (hc : sameOf n β m = some (op, T, .agg xs, .agg ys)) (ho : op = .eql ∧ b = r ∨ op = .neq ∧ b = !r) (hm : (!P.eqGuardType P.depth T) = true) (hb : cmpB P 100 T (.agg xs) (.agg ys) = some r) (h : Hs P f R n w0 L β (m.put (dstOf m) (.c (.v (.bool b))) m.hp)) : Hs P f R n w0 L β m := by
  simp only [Bool.not_eq_true'] at hm
  refine ⟨fun w H W => ?_⟩
  unfold sameOf at hc
  split at hc
  · rename_i o hcur
    split at hc
    · rename_i hg
      split at hc
      · rename_i op' T' x y z hop
        simp only [Option.some.injEq, Prod.mk.injEq] at hc
        obtain ⟨rfl, rfl, hx, hy⟩ := hc
        have hd : dstOf m = o.dst := by unfold dstOf; rw [hcur]
        rw [hd] at h
        refine Gs.val (v := .c (.v (.bool b))) hcur hg ?_ (h.go w H ?_)
        · have hr := run_cmp (P := P) ho hm hb x y w
          simp only [execOp, hop, hx, hy, Sem.run_bind] at hr ⊢
          simp only [hr, Result.andThen_ok, Sem.run_pure]
          rfl
        · simp only [SM.wf, SM.put, Bool.and_eq_true]
          exact ⟨putS_wf (SM.wf_sl W) rfl, SM.wf_hp W⟩
      · cases hc
    · cases hc
  · cases hc
end
end Go.Proofs.YtdplnedpbkpgpaaGreatDoor
