/- maps.Keys, slices.Collect, slices.Sorted at uint32: the kit's worked texts at int, turned to this element; what each asks for stands in it. -/
import Derived.Shelf.SlIter.Keys
import Derived.Shelf.SlIter.Collect
import Derived.Shelf.SlIter.Sorted
import Derived.Shelf.AbstractIn
import Derived.RangeFuncSeq
import Derived.Sort.MapsRangeIn
import Derived.Sort.KeysCollected
import Derived.WalkKit
import Derived.OwnWalkIn
import Derived.TacticsInMore
import Derived.RegionIn
import Derived.LoopNIn
import Derived.LoopIn
import Derived.RangeFuncGives
import Derived.Maps.AppendAt
import Derived.Shelf.Abstract
import Derived.RangeFuncBound
import Derived.Sort.OwnSorted
import Derived.Test.YtkgikodiecmakaaGreatDoorSrI
namespace Go.Proofs.YtkgikodiecmakaaGreatDoor
set_option linter.all false
set_option maxRecDepth 1000000
set_option maxHeartbeats 4000000
open Go.RowKit Go.Maps Go.Sort Go.Shelf
theorem kz_mixed : Tryz.prog.follows .mixedOrders = true := by kernel_rfl
theorem kz_t0 : Tryz.prog.underlying 0 = some (TypeDesc.tuple #[]) := by kernel_rfl
theorem kz_a0 : ∀ w, (isAgg 0).run Tryz.prog w = .ok false w := fun w => by kernel_rfl
theorem kz_z0 : ∀ w, (Go.sizeOf 0).run Tryz.prog w = .ok 1 w := fun w => by kernel_rfl
theorem kz_v0 : ∀ w, (zeroValue 0).run Tryz.prog w = .ok (Value.tuple #[]) w := fun w => by kernel_rfl
theorem kz_t4 : Tryz.prog.underlying 4 = some (TypeDesc.bool) := by kernel_rfl
theorem kz_a4 : ∀ w, (isAgg 4).run Tryz.prog w = .ok false w := fun w => by kernel_rfl
theorem kz_z4 : ∀ w, (Go.sizeOf 4).run Tryz.prog w = .ok 1 w := fun w => by kernel_rfl
theorem kz_v4 : ∀ w, (zeroValue 4).run Tryz.prog w = .ok (Value.bool false) w := fun w => by kernel_rfl
theorem kz_t23 : Tryz.prog.underlying 52 = some (TypeDesc.map 33 57) := by kernel_rfl
theorem kz_a23 : ∀ w, (isAgg 52).run Tryz.prog w = .ok false w := fun w => by kernel_rfl
theorem kz_z23 : ∀ w, (Go.sizeOf 52).run Tryz.prog w = .ok 1 w := fun w => by kernel_rfl
theorem kz_v23 : ∀ w, (zeroValue 52).run Tryz.prog w = .ok (Value.map none) w := fun w => by kernel_rfl
theorem kz_t24 : Tryz.prog.underlying 73 = some (TypeDesc.slice 33) := by kernel_rfl
theorem kz_a24 : ∀ w, (isAgg 73).run Tryz.prog w = .ok false w := fun w => by kernel_rfl
theorem kz_z24 : ∀ w, (Go.sizeOf 73).run Tryz.prog w = .ok 1 w := fun w => by kernel_rfl
theorem kz_v24 : ∀ w, (zeroValue 73).run Tryz.prog w = .ok (Value.slice none 0 0) w := fun w => by kernel_rfl
theorem kz_t26 : Tryz.prog.underlying 33 = some (TypeDesc.int IntKind.u32) := by kernel_rfl
theorem kz_a26 : ∀ w, (isAgg 33).run Tryz.prog w = .ok false w := fun w => by kernel_rfl
theorem kz_z26 : ∀ w, (Go.sizeOf 33).run Tryz.prog w = .ok 1 w := fun w => by kernel_rfl
theorem kz_v26 : ∀ w, (zeroValue 33).run Tryz.prog w = .ok (Value.int IntKind.u32 0) w := fun w => by kernel_rfl
theorem kz_t27 : Tryz.prog.underlying 76 = some (TypeDesc.func #[91] #[] false) := by kernel_rfl
theorem kz_a27 : ∀ w, (isAgg 76).run Tryz.prog w = .ok false w := fun w => by kernel_rfl
theorem kz_z27 : ∀ w, (Go.sizeOf 76).run Tryz.prog w = .ok 1 w := fun w => by kernel_rfl
theorem kz_v27 : ∀ w, (zeroValue 76).run Tryz.prog w = .ok Value.nilFunc w := fun w => by kernel_rfl
theorem kz_t28 : Tryz.prog.underlying 76 = some (TypeDesc.func #[91] #[] false) := by kernel_rfl
theorem kz_a28 : ∀ w, (isAgg 76).run Tryz.prog w = .ok false w := fun w => by kernel_rfl
theorem kz_z28 : ∀ w, (Go.sizeOf 76).run Tryz.prog w = .ok 1 w := fun w => by kernel_rfl
theorem kz_v28 : ∀ w, (zeroValue 76).run Tryz.prog w = .ok Value.nilFunc w := fun w => by kernel_rfl
theorem kz_t33 : Tryz.prog.underlying 91 = some (TypeDesc.func #[33] #[4] false) := by kernel_rfl
theorem kz_a33 : ∀ w, (isAgg 91).run Tryz.prog w = .ok false w := fun w => by kernel_rfl
theorem kz_z33 : ∀ w, (Go.sizeOf 91).run Tryz.prog w = .ok 1 w := fun w => by kernel_rfl
theorem kz_v33 : ∀ w, (zeroValue 91).run Tryz.prog w = .ok Value.nilFunc w := fun w => by kernel_rfl
theorem kz_i26 : (Tryz.prog.info? 33).map (fun i => (i.zero, i.size, i.bytes)) = some (some (.int .u32 0), 1, 4) := by kernel_rfl
theorem Ku.keys_in (F : Fence) (n : Nat) (h7 : F.fn (25)) (hro : F.round = none) (mb : Option Nat) (w : World) :
    CallsIn F n Tryz.prog (25) #[.map mb] w fun e w' => e = .returned (.func (.func (42)) #[] #[.pointer (some ⟨w.heap.size, 0, none⟩)]) ∧ w' = w.alloc (.cells #[.map mb] (52)) := by
  have mixed := kz_mixed; have t0 := kz_t0; have a0 := kz_a0; have z0 := kz_z0; have v0 := kz_v0; have t4 := kz_t4; have a4 := kz_a4; have z4 := kz_z4; have v4 := kz_v4; have t23 := kz_t23; have a23 := kz_a23; have z23 := kz_z23; have v23 := kz_v23; have t26 := kz_t26; have a26 := kz_a26; have z26 := kz_z26; have v26 := kz_v26; have t27 := kz_t27; have a27 := kz_a27; have z27 := kz_z27; have v27 := kz_v27; have t28 := kz_t28; have a28 := kz_a28; have z28 := kz_z28; have v28 := kz_v28; have t33 := kz_t33; have a33 := kz_a33; have z33 := kz_z33; have v33 := kz_v33
  have u0 := run_underlying kz_t0; have u4 := run_underlying kz_t4; have u23 := run_underlying kz_t23; have u26 := run_underlying kz_t26; have u27 := run_underlying kz_t27; have u28 := run_underlying kz_t28; have u33 := run_underlying kz_t33
  have FG := Tryz.func25
  refine callsIn_of_wp FG rfl h7 ?_ hro
  simp only [Tryz.ntmps25, List.size_toArray, List.length_cons, List.length_nil, Nat.reduceAdd, Nat.reduceSub, Array.replicate_succ, Array.replicate_zero, List.push_toArray, List.append_toArray, List.nil_append, List.cons_append]
  gi_wp2
  go_ret
  exact ⟨rfl, rfl⟩
theorem Ku.keys1N_in {H : Type} (F : Fence) (n : Nat) (h10 : F.fn (42)) (hro : F.round = none) (hn : 1 ≤ n) (l Bm b nn : Nat) (D0 : DataW H) {R : Value → Option (DataW H × List MemPlace)} (J : List Int → World → Prop)
    (hY : ∀ pre x W, J pre W → pre.length < Maps.size D0 → YieldAt F (n - 1) Tryz.prog l #[encU x] W fun e W' => e = .returned (.bool true) ∧ J (pre ++ [x]) W' ∧ KeepsWalks W W')
    (W : World) (hJ : AbidesFrom W.heap.size J) (hm : W.cell? ⟨Bm, 0, none⟩ = some (.map (some b))) (hown : W.ownsMap Tryz.prog (33) R b nn D0) (h0 : J [] W) :
    CallsIn F n Tryz.prog (42) #[.func (.yield l) #[] #[], .pointer (some ⟨Bm, 0, none⟩)] W fun e W' => (∃ v, e = .returned v) ∧ ∃ ss : List Int, ss.Perm (u32Keys D0) ∧ J ss W' := by
  have mixed := kz_mixed; have t0 := kz_t0; have a0 := kz_a0; have z0 := kz_z0; have v0 := kz_v0; have t4 := kz_t4; have a4 := kz_a4; have z4 := kz_z4; have v4 := kz_v4; have t23 := kz_t23; have a23 := kz_a23; have z23 := kz_z23; have v23 := kz_v23; have t26 := kz_t26; have a26 := kz_a26; have z26 := kz_z26; have v26 := kz_v26; have t33 := kz_t33; have a33 := kz_a33; have z33 := kz_z33; have v33 := kz_v33
  have u0 := run_underlying kz_t0; have u4 := run_underlying kz_t4; have u23 := run_underlying kz_t23; have u26 := run_underlying kz_t26; have u33 := run_underlying kz_t33
  have FG := Tryz.func42
  refine callsIn_of_wp FG rfl h10 ?_ hro
  simp only [Tryz.ntmps42, List.size_toArray, List.length_cons, List.length_nil, Nat.reduceAdd, Nat.reduceSub, Array.replicate_succ, Array.replicate_zero, List.push_toArray, List.append_toArray, List.nil_append, List.cons_append]
  gi_wp2_with (first
    | (gi_at_range; refine wpListIn_range_own _ rfl _ (52) rfl (33) (57) (int_keyed kz_t26) kz_t23 _ b nn _ rfl hown ?_; intro w0 hrg0 hg0 hs0)
    | gi_in)
  go_frame
  gi_loopw [3] (fun _ wr => ∃ (left : Lit → Bool) (cnt : Nat) (ss : List Int), wr.ranges Tryz.prog (33) R b W.heap.size nn D0 left cnt ∧ ss.length + cnt ≤ Maps.size D0 ∧ CollectedU D0 left ss ∧ J ss wr)
    (fun _ wr => wr.rangeLeft b W.heap.size)
  case atStart =>
    exact ⟨_, _, [], hrg0, by simp, CollectedU.start D0, hJ [] W w0 none h0 hg0 (fun r e => by cases e)⟩
  case round =>
    obtain ⟨left, cnt, ss, hrg, hcs, hC, hJs⟩ := hrel
    gi_wp2_with (first
      | (gi_at_next; refine wpListIn_next_ranges _ rfl _ rfl (33) (int_keyed kz_t26) R encU id (fun key kl hk => by obtain ⟨x, hx, _⟩ := keyOf_u32 kz_t26 hk; exact ⟨x, hx⟩) (fun v _ _ => ⟨v, rfl⟩) b W.heap.size nn _ _ _ rfl hrg ?_ ?_)
      | gi_in)
    · -- NOTHING IS LEFT
      intro hc0 hl0
      gi_wp2
      go_end0
      exact ⟨⟨_, rfl⟩, ss, hC.perm hown (int_keyed kz_t26) kz_t26 hl0, hJs⟩
    · -- AN ENTRY HAS COME: yield(k)
      intro x c kl yd yp w2 cnt2 hkey hlk hv hat hrg2 hlt hg2 hs2 hen
      obtain ⟨x', ex, rfl, _⟩ := keyOf_u32 kz_t26 hkey
      obtain rfl : x = x' := encU_injU ex
      have hJ2 : J ss w2 := hJ ss wr w2 (some W.heap.size) hJs hg2 (fun r e => by cases e; exact ⟨Nat.le_refl _, hrg.iter_walk⟩)
      obtain ⟨fn, tmps, assign, body, hy, hR⟩ := hY ss x w2 hJ2 (by omega)
      clear hs2
      gi_wp2
      refine hR.mono ?_
      rintro e W3 ⟨rfl, hJ3, hk3⟩
      gi_wp2
      have hrg3 := hrg2.of_walks hk3
      go_roundw
      case rel => exact ⟨_, cnt2, ss ++ [x], hrg3, by simp; omega, hC.step hlk hat, hJ3⟩
      case measure => rw [hrg3.left_eq, hrg.left_eq]; exact hlt
theorem Ku.keys_gives {H : Type} (F : Fence) (n : Nat) (h10 : F.fn (42)) (hro : F.round = none) (hn : 1 ≤ n) (Bm b nn : Nat) (D0 : DataW H) {R : Value → Option (DataW H × List MemPlace)} (w : World) (hBm : Bm < w.heap.size)
    (hm : w.cell? ⟨Bm, 0, none⟩ = some (.map (some b))) (hown : w.ownsMap Tryz.prog (33) R b nn D0) :
    SeqGives F n Tryz.prog (42) #[.pointer (some ⟨Bm, 0, none⟩)] encU (fun ss => ss.Perm (u32Keys D0)) (Maps.size D0) w := fun l J W hW hJ hY h0 => by
  have hown' : W.ownsMap Tryz.prog (33) R b nn D0 := by
    have hbl := hown.lt
    obtain ⟨es, clock, hb, Ft, hs, hD⟩ := hown
    exact ⟨es, clock, (hW.block b hbl).trans hb, Ft, hs, hD⟩
  exact Ku.keys1N_in F n h10 hro hn l Bm b nn D0 J hY W hJ ((hW.cell (p := ⟨Bm, 0, none⟩) hBm).trans hm) hown' h0
def Ku.apAssign : Code := (Code.region 2 #[{ dst := some 5, op := Op.assign (Operand.tmp 7), type := 33, pos := "iter.go:51", after := #[], guard := none }] false)
def Ku.apBody : Code := (Code.block 1 (Code.region 3 #[{ dst := some 8, op := Op.load (73) (Operand.tmp 2), type := 73, pos := "iter.go:52", after := #[], guard := none }, { dst := some 9, op := Op.move (Operand.tmp 5), type := 33, pos := "iter.go:52", after := #[], guard := none }, { dst := some 10, op := Op.buildSlice (73) 1 #[(0, Operand.tmp 9)], type := 73, pos := "iter.go:52", after := #[{ on := 1, ground := Ground.data }], guard := none }, { dst := some 11, op := Op.call { callee := Callee.builtin Builtin.append, args := #[Operand.tmp 8, Operand.tmp 10], argTypes := #[73, 73] }, type := 73, pos := "iter.go:52", after := #[{ on := 0, ground := Ground.data }, { on := 2, ground := Ground.data }], guard := none }, { dst := none, op := Op.store (73) (Operand.tmp 2) (Operand.tmp 11), type := 0, pos := "iter.go:52", after := #[{ on := 3, ground := Ground.data }, { on := 3, ground := Ground.chain }, { on := 0, ground := Ground.phase }, { on := 1, ground := Ground.phase }, { on := 2, ground := Ground.phase }, { on := 3, ground := Ground.phase }], guard := none }] false))
def Ku.apRec (fn : FuncId) (sv : Value) (Bs D : Nat) (st : LoopState) (pend : Option Code) : Loop :=
  { state := st, pending := pend, fn, tmps := #[.slice none 0 0, sv, .pointer (some ⟨Bs, 0, none⟩), undef, .slice none 0 0, undef, sv, undef, undef, undef, undef, undef, undef], params := #[7], assign := Ku.apAssign, body := Ku.apBody, defers := D }
structure Ku.ApAt (w0 : World) (fn : FuncId) (sv : Value) (Bs l D : Nat) (ss : List Int) (W : World) : Prop where
  box : ∃ v, W.heap[Bs]? = some (.cells #[v] (73) (0, 0)) ∧ W.ownsRow w0.heap.size (33) 1 v ss.length (ss.map encU) ∧ (v = .slice none 0 0 ↔ ss = [])
  L : W.heap[l]? = some (.loop (Ku.apRec fn sv Bs D .ready none))
  K : W.heap[D]? = some (.deferred (some []))
  below : Below w0.heap.size w0 W
theorem Ku.ap_abides (w0 : World) (fn : FuncId) (sv : Value) (Bs l D B : Nat) (hB : w0.heap.size ≤ B) : AbidesFrom B (Ku.ApAt w0 fn sv Bs l D) := fun s W W' row h hg hrow => by
  have hrow' : ∀ r, row = some r → ∃ o : Obj, W.heap[r]? = some o ∧ o.isWalk = true := fun r e => (hrow r e).2
  obtain ⟨v, hv, hr, hn⟩ := h.box
  exact ⟨⟨v, (grownBy_keeps hg hrow' hv rfl).trans hv, ownsRow_abides_a hr hg hrow', hn⟩, (grownBy_keeps hg hrow' h.L rfl).trans h.L, (grownBy_keeps hg hrow' h.K rfl).trans h.K,
    h.below.grown hg h.below.size (fun k e => Nat.le_trans hB (hrow k e).1)⟩
theorem Ku.apYield (F : Fence) (m : Nat) (w0 : World) (fn : FuncId) (hfn : F.fn fn) (sv : Value) (Bs l D : Nat) (hBl : Bs ≠ l) (hDl : D ≠ l) (hDB : D ≠ Bs) (h0B : w0.heap.size ≤ Bs) (h0l : w0.heap.size ≤ l)
    (N : Nat) (hN : N ≤ maxLen) (hNb : N * 8 ≤ 140737488355328) (ss : List Int) (x : Int) (W : World) (h : Ku.ApAt w0 fn sv Bs l D ss W) (hlen : ss.length < N) :
    YieldAt F m Tryz.prog l #[encU x] W fun e W' => e = .returned (.bool true) ∧ Ku.ApAt w0 fn sv Bs l D (ss ++ [x]) W' ∧ KeepsWalks W W' := by
  have mixed := kz_mixed; have t0 := kz_t0; have a0 := kz_a0; have z0 := kz_z0; have v0 := kz_v0; have t24 := kz_t24; have a24 := kz_a24; have z24 := kz_z24; have v24 := kz_v24; have t26 := kz_t26; have a26 := kz_a26; have z26 := kz_z26; have v26 := kz_v26; have t28 := kz_t28; have a28 := kz_a28; have z28 := kz_z28; have v28 := kz_v28
  have hne : 73 ≠ 33 := fun e => by have h := kz_t24; rw [e, kz_t26] at h; cases h
  have u0 := run_underlying kz_t0; have u24 := run_underlying kz_t24; have u26 := run_underlying kz_t26; have u28 := run_underlying kz_t28
  obtain ⟨i0, hi, hz0, hz1, hz2⟩ := info_parts kz_i26
  obtain ⟨v, hv, hrow, _⟩ := h.box
  refine ⟨fn, #[.slice none 0 0, sv, .pointer (some ⟨Bs, 0, none⟩), undef, .slice none 0 0, undef, sv, encU x, undef, undef, undef, undef, undef], Ku.apAssign, Ku.apBody, by simpa [Ku.apRec] using run_yield (P := Tryz.prog) (args := #[encU x]) h.L rfl, roundIn_of_wpIn hfn ?_⟩
  have hl : l < W.heap.size := (Array.getElem?_eq_some_iff.1 h.L).1
  have hbr := run_beginRound (P := Tryz.prog) h.L rfl
  obtain ⟨W2, hW2⟩ : ∃ W2, W.putObj l (.loop { Ku.apRec fn sv Bs D .ready none with state := .busy }) = W2 := ⟨_, rfl⟩
  rw [hW2] at hbr
  have hg2 : W.grownBy W2 (some l) := by rw [← hW2]; exact grownBy_putObj_a _ _ _
  have hk2 : KeepsWalks W W2 := by rw [← hW2]; exact KeepsWalks.putObj _ h.L rfl
  have hv2 : W2.heap[Bs]? = some (.cells #[v] (73) (0, 0)) := by rw [← hW2]; exact (World.putObj_heap_other hBl).trans hv
  have hK2 : W2.heap[D]? = some (.deferred (some [])) := by rw [← hW2]; exact (World.putObj_heap_other hDl).trans h.K
  have hL2 : W2.heap[l]? = some (.loop { Ku.apRec fn sv Bs D .ready none with state := .busy }) := by rw [← hW2]; exact World.putObj_heap_same hl
  have hrow2 : W2.ownsRow w0.heap.size (33) 1 v ss.length (ss.map encU) := hrow.kept hg2 (ownsRow_ne_a hrow h.L (fun cur e => by first | cases e | exact hne (Obj.cells.inj e).2.1))
  have hb2 : Below w0.heap.size w0 W2 := h.below.grown hg2 h.below.size (fun k e => by cases e; exact h0l)
  obtain ⟨hc2, hf2⟩ := cell_of_box_a hv2
  have hBlt : Bs < W2.heap.size := (Array.getElem?_eq_some_iff.1 hv2).1
  have hl2 : l < W2.heap.size := (Array.getElem?_eq_some_iff.1 hL2).1
  have hDlt : D < W2.heap.size := (Array.getElem?_eq_some_iff.1 hK2).1
  have ne_of : ∀ {j : Nat} {o : Obj}, W2.heap[j]? = some o → (∀ cur, o ≠ .cells cur (33) (0, 0)) → some j ≠ v.ownBlock := fun hj hno => by
    rcases ownsRow_ne_a hrow2 hj hno with e | e
    · rw [e]; simp
    · exact fun e' => e e'.symm
  clear hW2
  unfold Ku.apAssign
  gi_wp2_with gi_round_op_a
  unfold Ku.apBody
  gi_wp2_with (first
    | (gi_at_builtin; refine wpListIn_append_own _ rfl _ _ (73) rfl w0.heap.size (33) i0 (.int .u32 0) 1 4 kz_t24 hi hz0 hz1 hz2 rfl (by decide) _ _ _ rfl (hrow2.alloc _) ⟨W2.heap.size, 0, none⟩ 1 1 [encU x] rfl rfl (cell_one_new _ _ _) (by simp [Value.oneCell', encU]) (by omega) (by omega) (by have := hb2.size; simp; omega) ?_; intro v' w3 hown' hg3 hnil3
       have hv3 : w3.heap[Bs]? = some (.cells #[v] (73) (0, 0)) := (hg3.block Bs (by simp; omega) (ne_of hv2 (fun cur e => by first | cases e | exact hne (Obj.cells.inj e).2.1))).trans ((Below.heap_alloc _ _ Bs hBlt).trans hv2)
       obtain ⟨hc3, hf3⟩ := cell_of_box_a hv3
       obtain ⟨g', cap', cur', rfl, hbase', hgb', hr1, hr2, hr3, hr4⟩ : ∃ g' cap' cur', v' = .slice (some ⟨g', 0, none⟩) (ss.length + 1) cap' ∧ w0.heap.size ≤ g' ∧ w3.heap[g']? = some (.cells cur' (33) (0, 0)) ∧ ss.length + 1 ≤ cap' ∧ cap' ≤ maxLen ∧ cur'.size = cap' * 1 ∧ cur'.toList.take ((ss.length + 1) * 1) = ss.map encU ++ [encU x] := by
         rcases hown'.2 with ⟨_, h0⟩ | h'
         · exact absurd h0 (by omega)
         · exact h'
       go_frame)
    | gi_round_op_a)
  have hg3' : (W2.alloc (.cells #[encU x] (33))).grownBy w3 v.ownBlock := hg3
  have hL3 : w3.heap[l]? = some (.loop { Ku.apRec fn sv Bs D .ready none with state := .busy }) := (hg3'.block l (by simp; omega) (ne_of hL2 (fun cur e => by first | cases e | exact hne (Obj.cells.inj e).2.1))).trans ((Below.heap_alloc _ _ l hl2).trans hL2)
  have hK3 : w3.heap[D]? = some (.deferred (some [])) := (hg3'.block D (by simp; omega) (ne_of hK2 (fun cur e => by first | cases e | exact hne (Obj.cells.inj e).2.1))).trans ((Below.heap_alloc _ _ D hDlt).trans hK2)
  obtain ⟨w4, hw4⟩ : ∃ w4, w3.setCell ⟨Bs, 0, none⟩ (.slice (some ⟨g', 0, none⟩) (ss.length + 1) cap') = w4 := ⟨_, rfl⟩
  rw [hw4]
  have hg4 : w3.grownBy w4 (some Bs) := by rw [← hw4]; exact grownBy_setCell0_a _ _ _
  have hv4 : w4.heap[Bs]? = some (.cells #[.slice (some ⟨g', 0, none⟩) (ss.length + 1) cap'] (73) (0, 0)) := by rw [← hw4]; exact heap_setCell_box_a _ hv3
  have hL4 : w4.heap[l]? = some (.loop { Ku.apRec fn sv Bs D .ready none with state := .busy }) := (hg4.block l (Array.getElem?_eq_some_iff.1 hL3).1 (fun e => hBl (by cases e; rfl))).trans hL3
  have hK4 : w4.heap[D]? = some (.deferred (some [])) := (hg4.block D (Array.getElem?_eq_some_iff.1 hK3).1 (fun e => hDB (by cases e; rfl))).trans hK3
  have hrow4 := hown'.kept hg4 (ownsRow_ne_a hown' hv3 (fun cur e => by first | cases e | exact hne (Obj.cells.inj e).2.1))
  have hl4 : l < w4.heap.size := (Array.getElem?_eq_some_iff.1 hL4).1
  have hb3 : Below w0.heap.size w0 w3 := (hb2.alloc hb2.size _).grown hg3' (by have := hb2.size; simp; omega) (fun k e => (hrow2.lt k e).1)
  have hb4 : Below w0.heap.size w0 w4 := hb3.grown hg4 hb3.size (fun k e => by cases e; exact h0B)
  have hk4 : KeepsWalks W w4 := ((hk2.trans (KeepsWalks.alloc _ _)).trans (KeepsWalks.of_grownBy hg3' (ownsRow_not_walk_a (hrow2.alloc _)))).trans (by rw [← hw4]; exact KeepsWalks.setCell _ _ _)
  clear hw4
  refine ⟨_, _, run_endRound none hL4, rfl, ⟨⟨_, (World.putObj_heap_other hBl).trans hv4, ?_, by simp⟩, World.putObj_heap_same hl4, (World.putObj_heap_other hDl).trans hK4, hb4.grown (grownBy_putObj_a _ _ _) hb4.size (fun k e => by cases e; exact h0l)⟩, hk4.trans (KeepsWalks.putObj _ hL4 rfl)⟩
  have := hrow4.kept (grownBy_putObj_a w4 l (.loop { { Ku.apRec fn sv Bs D .ready none with state := .busy } with state := if (none : Option Code).isNone then .ready else .done, pending := none })) (ownsRow_ne_a hrow4 hL4 (fun cur e => by first | cases e | exact hne (Obj.cells.inj e).2.1))
  simpa using this
theorem Ku.appendSeq_in (F : Fence) (n : Nat) (h11 : F.fn (52)) (hro : F.round = none) (hn : 2 ≤ n) (g : Nat) (lb : Array Value) (hFg : F.fn g) (eg : ∀ args w, (callFunc g args).run Tryz.prog w = .ok (.enter g args) w)
    (S : List Int → Prop) (N : Nat) (hN : N ≤ maxLen) (hNb : N * 8 ≤ 140737488355328) (w : World) (hseq : SeqGives F (n - 1) Tryz.prog g lb encU S N w) :
    CallsIn F n Tryz.prog (52) #[.slice none 0 0, .func (.func g) #[] lb] w fun e w' => ∃ (v : Value) (ss : List Int), e = .returned v ∧ S ss ∧ w'.ownsRow w.heap.size (33) 1 v ss.length (ss.map encU) ∧ (v = .slice none 0 0 ↔ ss = []) ∧ Below w.heap.size w w' := by
  have h1 : 1 ≤ n := by omega
  have mixed := kz_mixed; have t0 := kz_t0; have a0 := kz_a0; have z0 := kz_z0; have v0 := kz_v0; have t24 := kz_t24; have a24 := kz_a24; have z24 := kz_z24; have v24 := kz_v24; have t26 := kz_t26; have a26 := kz_a26; have z26 := kz_z26; have v26 := kz_v26; have t28 := kz_t28; have a28 := kz_a28; have z28 := kz_z28; have v28 := kz_v28
  have hne : 73 ≠ 33 := fun e => by have h := kz_t24; rw [e, kz_t26] at h; cases h
  have u0 := run_underlying kz_t0; have u24 := run_underlying kz_t24; have u26 := run_underlying kz_t26; have u28 := run_underlying kz_t28
  have FG := Tryz.func52
  refine callsIn_of_wp_marks FG rfl h11 ?_ hro
  simp only [Tryz.ntmps52, List.size_toArray, List.length_cons, List.length_nil, Nat.reduceAdd, Nat.reduceSub, Array.replicate_succ, Array.replicate_zero, List.push_toArray, List.append_toArray, List.nil_append, List.cons_append]
  gi_wp2
  refine wpIn_rangeFunc ?_
  intro fn hfn
  rw [hro]
  obtain ⟨W0, hW0⟩ : ∃ W0, w.alloc (.cells #[.slice none 0 0] (73)) = W0 := ⟨_, rfl⟩
  have hs0 : W0.heap.size = w.heap.size + 1 := by rw [← hW0]; simp
  have hv0 : W0.heap[w.heap.size]? = some (.cells #[.slice none 0 0] (73) (0, 0)) := by rw [← hW0]; exact World.alloc_heap_new w _
  have hb0 : Below w.heap.size w W0 := by rw [← hW0]; exact (Below.refl _ w).alloc (Nat.le_refl _) _
  rw [hW0]
  obtain ⟨W1, hW1⟩ : ∃ W1, (W0.alloc (.deferred (some []))).alloc (.loop (Ku.apRec fn (.func (.func g) #[] lb) w.heap.size W0.heap.size .ready none)) = W1 := ⟨_, rfl⟩
  have hold : ∀ k, k < W0.heap.size → W1.heap[k]? = W0.heap[k]? := fun k hk => by
    rw [← hW1]; exact (Below.heap_alloc _ _ k (by simp; omega)).trans (Below.heap_alloc _ _ k hk)
  have hb1 : Below w.heap.size w W1 := by rw [← hW1]; exact (hb0.alloc hb0.size _).alloc (by have := hb0.size; simp; omega) _
  have hs1 : W1.heap.size = W0.heap.size + 2 := by rw [← hW1]; simp
  have hM : Ku.ApAt w fn (.func (.func g) #[] lb) w.heap.size (W0.heap.size + 1) W0.heap.size [] W1 :=
    ⟨⟨_, (hold w.heap.size (by omega)).trans hv0, ⟨rfl, .inl ⟨rfl, rfl⟩⟩, by simp⟩,
     by rw [← hW1]; have := World.alloc_heap_new (W0.alloc (.deferred (some []))) (.loop (Ku.apRec fn (.func (.func g) #[] lb) w.heap.size W0.heap.size .ready none)); rwa [World.size_alloc] at this,
     by rw [← hW1]; exact (Below.heap_alloc _ _ _ (by simp)).trans (World.alloc_heap_new W0 _), hb1⟩
  refine ⟨W0.heap.size + 1, [{ target := .collected W0.heap.size, args := #[] }], W1, { target := .fn (.func g) lb, args := #[.func (.yield (W0.heap.size + 1)) #[] #[]] }, W1, g,
    #[.func (.yield (W0.heap.size + 1)) #[] #[]] ++ lb, W1, ?_, ?_, ?_, ?_, fun _ => h1, ?_⟩
  · rw [← hW1]; exact run_enterLoop_outer _ _ _ _ _
  · simp [resolve, go_sem]
  · intro f' hf'; simp [Target.leads] at hf'; subst hf'; exact hFg
  · simp [invoke, go_sem, eg]
  · refine (hseq (W0.heap.size + 1) (Ku.ApAt w fn (.func (.func g) #[] lb) w.heap.size (W0.heap.size + 1) W0.heap.size) W1 hb1 (Ku.ap_abides _ _ _ _ _ _ _ hb1.size)
      (fun pre x W hJ hl => Ku.apYield F (n - 1 - 1) w fn hfn _ w.heap.size (W0.heap.size + 1) W0.heap.size (by omega) (by omega) (by omega) (Nat.le_refl _) (by omega) N hN hNb pre x W hJ hl) hM).mono ?_
    rintro e W2 ⟨⟨v0, rfl⟩, ss, hS, h2⟩
    obtain ⟨v, hv, hrow, hnil⟩ := h2.box
    have hend := run_endLoop (P := Tryz.prog) h2.L (by simp [Ku.apRec])
    obtain ⟨W3, hW3⟩ : ∃ W3, W2.putObj (W0.heap.size + 1) (.loop { Ku.apRec fn (.func (.func g) #[] lb) w.heap.size W0.heap.size .ready none with state := .exhausted }) = W3 := ⟨_, rfl⟩
    rw [hW3] at hend
    have hg3 : W2.grownBy W3 (some (W0.heap.size + 1)) := by rw [← hW3]; exact grownBy_putObj_a _ _ _
    have hv3 : W3.heap[w.heap.size]? = some (.cells #[v] (73) (0, 0)) := by rw [← hW3]; exact (World.putObj_heap_other (by omega)).trans hv
    have hK3 : W3.heap[W0.heap.size]? = some (.deferred (some [])) := by rw [← hW3]; exact (World.putObj_heap_other (by omega)).trans h2.K
    have hrow3 := hrow.kept hg3 (ownsRow_ne_a hrow h2.L (fun cur e => by first | cases e | exact hne (Obj.cells.inj e).2.1))
    have hb3 : Below w.heap.size w W3 := h2.below.grown hg3 h2.below.size (fun k e => by cases e; omega)
    obtain ⟨hc3, hf3⟩ := cell_of_box_a hv3
    clear hW3
    refine ⟨none, W3, hend, ?_⟩
    gi_wp2
    rw [← hs0]
    refine ⟨by simp, .inl ⟨_, _, rfl, run_takeDeferred hK3, ?_⟩⟩
    exact ⟨_, results_tmp rfl _ _ _, v, ss, rfl, hS, hrow3.kept (grownBy_putObj_a _ _ _) (ownsRow_ne_a hrow3 hK3 (fun cur e => by first | cases e | exact hne (Obj.cells.inj e).2.1)), hnil, hb3.grown (grownBy_putObj_a _ _ _) hb3.size (fun k e => by cases e; omega)⟩
theorem Ku.collect_in (F : Fence) (n : Nat) (h8 : F.fn (40)) (h11 : F.fn (52)) (hro : F.round = none) (hn : 3 ≤ n) (g : Nat) (lb : Array Value) (hFg : F.fn g) (eg : ∀ args w, (callFunc g args).run Tryz.prog w = .ok (.enter g args) w)
    (S : List Int → Prop) (N : Nat) (hN : N ≤ maxLen) (hNb : N * 8 ≤ 140737488355328) (w : World) (hseq : SeqGives F (n - 1 - 1) Tryz.prog g lb encU S N w) :
    CallsIn F n Tryz.prog (40) #[.func (.func g) #[] lb] w fun e w' => ∃ (v : Value) (ss : List Int), e = .returned v ∧ S ss ∧ w'.ownsRow w.heap.size (33) 1 v ss.length (ss.map encU) ∧ (v = .slice none 0 0 ↔ ss = []) ∧ Below w.heap.size w w' := by
  have h1 : 1 ≤ n := by omega
  have e11 : ∀ args w, (callFunc (52) args).run Tryz.prog w = .ok (.enter (52) args) w := fun args w => by kernel_rfl
  have mixed := kz_mixed; have t0 := kz_t0; have a0 := kz_a0; have z0 := kz_z0; have v0 := kz_v0; have t24 := kz_t24; have a24 := kz_a24; have z24 := kz_z24; have v24 := kz_v24; have t26 := kz_t26; have a26 := kz_a26; have z26 := kz_z26; have v26 := kz_v26; have t28 := kz_t28; have a28 := kz_a28; have z28 := kz_z28; have v28 := kz_v28
  have u0 := run_underlying kz_t0; have u24 := run_underlying kz_t24; have u26 := run_underlying kz_t26; have u28 := run_underlying kz_t28
  have FG := Tryz.func40
  refine callsIn_of_wp FG rfl h8 ?_ hro
  simp only [Tryz.ntmps40, List.size_toArray, List.length_cons, List.length_nil, Nat.reduceAdd, Nat.reduceSub, Array.replicate_succ, Array.replicate_zero, List.push_toArray, List.append_toArray, List.nil_append, List.cons_append]
  gi_wp2_with (gi_at_fn (52); refine (Ku.appendSeq_in F (n - 1) h11 hro (by omega) g lb hFg eg S N hN hNb _ hseq).mono ?_; rintro e w' ⟨v, ss, rfl, hS, hrow, hnil, hb⟩)
  go_ret
  exact ⟨v, ss, rfl, hS, hrow, hnil, hb⟩
def Ku.SortsIn (F : Fence) (m : Nat) : Prop :=
  (∀ (blk off cap : Nat) (ss : List Int) (W : World), Holds encU W blk off ss.toArray → blk < W.heap.size → ss.length < 4611686018427387904 →
    CallsIn F m Tryz.prog (41) #[.slice (some ⟨blk, off, none⟩) ss.length cap] W fun e w' => e = .returned (.tuple #[]) ∧ ∃ k os, w' = grow (putRow encU (Sort.ahead W k) blk off (ss.mergeSort fun x y => decide (x ≤ y)).toArray) os) ∧
  (∀ (p : Option Addr) (cap : Nat) (W : World), CallsIn F m Tryz.prog (41) #[.slice p 0 cap] W fun e w' => e = .returned (.tuple #[]) ∧ w' = W)
theorem Ku.sorted_in (F : Fence) (n : Nat) (h6 : F.fn (24)) (h8 : F.fn (40)) (h9 : F.fn (41)) (h11 : F.fn (52)) (hro : F.round = none) (hn : 4 ≤ n) (hsort : Ku.SortsIn F (n - 1)) (e9 : ∀ args w, (callFunc (41) args).run Tryz.prog w = .ok (.enter (41) args) w) (g : Nat) (lb : Array Value) (hFg : F.fn g) (eg : ∀ args w, (callFunc g args).run Tryz.prog w = .ok (.enter g args) w)
    (S : List Int → Prop) (N : Nat) (hN : N ≤ maxLen) (hNb : N * 8 ≤ 140737488355328) (w : World) (hseq : SeqGives F (n - 1 - 1 - 1) Tryz.prog g lb encU S N w) :
    CallsIn F n Tryz.prog (24) #[.func (.func g) #[] lb] w fun e w' => ∃ (v : Value) (ss : List Int), e = .returned v ∧ S ss ∧
      w'.ownsRow w.heap.size (33) 1 v ss.length ((ss.mergeSort (fun x y => decide (x ≤ y))).map encU) ∧ (v = .slice none 0 0 ↔ ss = []) ∧ Below w.heap.size w w' := by
  have h1 : 1 ≤ n := by omega
  have e8 : ∀ args w, (callFunc (40) args).run Tryz.prog w = .ok (.enter (40) args) w := fun args w => by kernel_rfl
  have mixed := kz_mixed; have t0 := kz_t0; have a0 := kz_a0; have z0 := kz_z0; have v0 := kz_v0; have t24 := kz_t24; have a24 := kz_a24; have z24 := kz_z24; have v24 := kz_v24; have t26 := kz_t26; have a26 := kz_a26; have z26 := kz_z26; have v26 := kz_v26; have t28 := kz_t28; have a28 := kz_a28; have z28 := kz_z28; have v28 := kz_v28
  have u0 := run_underlying kz_t0; have u24 := run_underlying kz_t24; have u26 := run_underlying kz_t26; have u28 := run_underlying kz_t28
  have FG := Tryz.func24
  refine callsIn_of_wp FG rfl h6 ?_ hro
  simp only [Tryz.ntmps24, List.size_toArray, List.length_cons, List.length_nil, Nat.reduceAdd, Nat.reduceSub, Array.replicate_succ, Array.replicate_zero, List.push_toArray, List.append_toArray, List.nil_append, List.cons_append]
  gi_wp2_with (gi_at_fn (40); refine (Ku.collect_in F (n - 1) h8 h11 hro (by omega) g lb hFg eg _ N hN hNb _ hseq.bounded).mono ?_; rintro e W ⟨v, ss, rfl, ⟨hS, hlen⟩, hrow, hnil, hb⟩)
  rcases hrow.2 with ⟨rfl, hz⟩ | ⟨gb, cap, cur, rfl, hbase, hgb, r1, r2, r3, r4⟩
  · -- nothing came: the nil slice is sorted and handed back
    have hss : ss = [] := List.eq_nil_of_length_eq_zero hz
    subst hss
    gi_wp2_with (gi_at_fn (41); refine (hsort.2 none 0 W).mono ?_; rintro e w' ⟨rfl, rfl⟩)
    go_ret
    exact ⟨.slice none 0 0, [], rfl, hS, by simpa using hrow, by simp, hb⟩
  · have hH : Holds encU W gb 0 ss.toArray := holds_of_block_iU hgb (by simpa using r4)
    have hgl : gb < W.heap.size := (Array.getElem?_eq_some_iff.1 hgb).1
    have hsz : ss.length < 4611686018427387904 := by omega
    have cS := hsort.1 gb 0 cap ss W hH hgl hsz
    gi_wp2_with (gi_at_fn (41); refine cS.mono ?_; rintro e w' ⟨rfl, nn, os, rfl⟩)
    go_ret
    exact ⟨_, ss, rfl, hS, ownsRow_sorted_iU (by simp) hbase hgb r1 r2 r3, hnil, hb.grown (grownBy_sorted_iU _) hb.size (fun j hj => by cases hj; exact hbase)⟩
end Go.Proofs.YtkgikodiecmakaaGreatDoor
