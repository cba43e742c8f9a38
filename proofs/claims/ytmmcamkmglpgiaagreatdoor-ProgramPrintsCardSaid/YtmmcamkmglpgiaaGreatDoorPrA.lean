/- Layer 19: the lines of a text, one by one (strings.Lines); for all texts; no condition. -/
import Derived.RangeFuncNested
import Derived.RangeFuncBound
import Derived.RangeFuncCalls
import Derived.RangeFuncLeaves
import Derived.Shelf.Abstract
import Derived.Shelf.RegionOpen
import Derived.WalkKit
import Derived.OwnWalkIn
import Derived.TacticsInMore
import Derived.LoopNIn
import Derived.LoopIn
import Derived.Test.YtmmcamkmglpgiaaGreatDoorShelf
import Derived.Test.YtmmcamkmglpgiaaGreatDoorEngAY
namespace Go.Proofs.YtmmcamkmglpgiaaGreatDoor
open Go.RowKit Go.Shelf
set_option linter.all false

/-- The lines of a text, with their ends. -/
def linesB : List UInt8 → List (List UInt8)
  | [] => []
  | c :: l => if c = 10 then [10] :: linesB l else match linesB l with
    | [] => [[c]]
    | h :: t => (c :: h) :: t
theorem linesB_none : ∀ {l : List UInt8}, Lib.indexByte l 10 = -1 → l ≠ [] → linesB l = [l]
  | [], _, h => absurd rfl h
  | c :: l, h, _ => by
    unfold Lib.indexByte at h
    split at h
    · cases h
    · rename_i hc
      have hc' : c ≠ 10 := by simpa using hc
      have h2 : Lib.indexByte l 10 = -1 := by
        split at h
        · rename_i h3; simpa using h3
        · have := Lib.indexByte_ge l 10; omega
      unfold linesB
      rw [if_neg hc']
      cases l with
      | nil => rfl
      | cons d l => rw [linesB_none h2 (by simp)]
theorem linesB_some : ∀ {l : List UInt8} {i : Nat}, Lib.indexByte l 10 = (i : Int) → i < l.length ∧ linesB l = l.take (i + 1) :: linesB (l.drop (i + 1))
  | [], _, h => by unfold Lib.indexByte at h; omega
  | c :: l, i, h => by
    unfold Lib.indexByte at h
    split at h
    · rename_i hc
      have hc' : c = 10 := by simpa using hc
      obtain rfl : i = 0 := by omega
      subst hc'
      simp [linesB]
    · rename_i hc
      have hc' : c ≠ 10 := by simpa using hc
      split at h
      · omega
      · have h3 : Lib.indexByte l 10 = ((i - 1 : Nat) : Int) := by
          have := Lib.indexByte_ge l 10
          rename_i h4
          have h4 : Lib.indexByte l 10 ≠ -1 := by simpa using h4
          omega
        have h5 : 0 < i := by
          have := Lib.indexByte_ge l 10
          rename_i h4
          have h4 : Lib.indexByte l 10 ≠ -1 := by simpa using h4
          omega
        obtain ⟨j, rfl⟩ : ∃ j, i = j + 1 := ⟨i - 1, by omega⟩
        obtain ⟨h6, h7⟩ := linesB_some (l := l) (i := j) (by simpa using h3)
        refine ⟨by simp; omega, ?_⟩
        show (if c = 10 then [10] :: linesB l else match linesB l with | [] => [[c]] | h :: t => (c :: h) :: t) = _
        rw [if_neg hc', h7]
        rfl
def strL (l : List UInt8) : ByteArray := ⟨l.toArray⟩
def cellLen (w : World) (b : Nat) : Nat := match w.cell? ⟨b, 0, none⟩ with
  | some (.string s) => s.data.toList.length
  | _ => 0
theorem yld {P : Program} {ops : Array Oper} {w : World} {o : Oper} {v : Value} {a : Act} (hg : o.guard = none) (h : (execOp a.eval o).run P w = .ok (.value v) w) : YieldsAt P ops w o v a := Or.inl ⟨by simp [Region.wanted, hg], Or.inl h⟩
theorem run_cut1 (rest : List UInt8) (i : Nat) (h : i ≤ rest.length) (w : World) : (Instr.slice 9 (.string (strL rest)) none (some (.int .i64 (i : Int))) none).run Tryz.prog w = .ok (.string (strL (rest.take i))) w := by
  have hz : (strL rest).size = rest.length := rfl
  have hu : Tryz.prog.underlying 9 = some .string := by kernel_rfl
  have e : (strL rest).extract 0 i = strL (rest.take i) := by
    apply ByteArray.ext
    rw [ByteArray.data_extract]
    simp [strL]
  simp only [Instr.slice, run_underlying hu w, Sem.run_bind, Result.andThen_ok, Option.isSome_none, Bool.false_eq_true, if_false, Instr.sliceBounds, Instr.sliceBound, asIntOf, Sem.run_pure]
  rw [if_pos ⟨Int.natCast_nonneg i, by rw [hz]; exact_mod_cast h⟩]
  simp only [Sem.run_bind, Result.andThen_ok, Sem.run_pure, Int.toNat_natCast, e]
theorem run_cut2 (rest : List UInt8) (i : Nat) (h : i ≤ rest.length) (w : World) : (Instr.slice 9 (.string (strL rest)) (some (.int .i64 (i : Int))) none none).run Tryz.prog w = .ok (.string (strL (rest.drop i))) w := by
  have hz : (strL rest).size = rest.length := rfl
  have hu : Tryz.prog.underlying 9 = some .string := by kernel_rfl
  have e : (strL rest).extract i rest.length = strL (rest.drop i) := by
    apply ByteArray.ext
    rw [ByteArray.data_extract]
    simp only [strL, List.extract_toArray, List.extract_eq_take_drop]
    rw [List.take_of_length_le (by simp)]
  simp only [Instr.slice, run_underlying hu w, Sem.run_bind, Result.andThen_ok, Option.isSome_none, Bool.false_eq_true, if_false, Instr.sliceBounds, Instr.sliceBound, asIntOf, Sem.run_pure]
  rw [if_pos ⟨Int.natCast_nonneg i, by rw [hz]; exact_mod_cast h⟩]
  simp only [Sem.run_bind, Result.andThen_ok, Sem.run_pure, Int.toNat_natCast, hz, e]
theorem run_slice_op {P : Program} {a : Act} {o : Oper} {t : TypeId} {x : Operand} {lo hi mx : Option Operand} {X : Value} {LO HI MX : Option Value} {v : Value} {w : World} (hu : P.underlying t = some .string) (ho : o.op = .slice t x lo hi mx) (hx : a.eval x = X) (h1 : lo.map a.eval = LO) (h2 : hi.map a.eval = HI) (h3 : mx.map a.eval = MX) (h : (Instr.slice t X LO HI MX).run P w = .ok v w) : (execOp a.eval o).run P w = .ok (.value v) w := by
  subst hx; subst h1; subst h2; subst h3
  unfold execOp
  rw [ho]
  dsimp only
  simp only [Sem.run_bind, run_sliceAt_string (h := hu), h, Result.andThen_ok, Sem.run_pure]
theorem cell_same {W W' : World} {b i : Nat} (h : W'.heap[b]? = W.heap[b]?) : W'.cell? ⟨b, i, none⟩ = W.cell? ⟨b, i, none⟩ := by
  unfold World.cell?; dsimp only; rw [h]
theorem frozen_same {W W' : World} {b i : Nat} (h : W'.heap[b]? = W.heap[b]?) : W'.frozen? ⟨b, i, none⟩ = W.frozen? ⟨b, i, none⟩ := by
  unfold World.frozen?; dsimp only; rw [h]
theorem cellLen_of {W : World} {b : Nat} {l : List UInt8} (h : W.cell? ⟨b, 0, none⟩ = some (.string (strL l))) : cellLen W b = l.length := by
  unfold cellLen; rw [h]; simp [strL]
theorem lt_of_cell {W : World} {b : Nat} {v : Value} (h : W.cell? ⟨b, 0, none⟩ = some v) : b < W.heap.size := by
  unfold World.cell? at h
  dsimp only at h
  split at h
  · rename_i h1; exact (Array.getElem?_eq_some_iff.1 h1).1
  · cases h
set_option maxRecDepth 100000 in
set_option maxHeartbeats 4000000 in
theorem lines_stops (n : Nat) (hn : 1 ≤ n) (l Bs : Nat) (s : List UInt8) (hsl : s.length ≤ 9223372036854775806) (W : World) (J : List (List UInt8) → List Nat → World → Prop) (Jx : World → Prop) (bs0 : List Nat)
    (hc : W.cell? ⟨Bs, 0, none⟩ = some (.string (strL s))) (hfz : W.frozen? ⟨Bs, 0, none⟩ = false) (hBl : Bs ≠ l) (hB0 : Bs ∉ bs0)
    (hJs : ∀ pre bs A B, J pre bs A → Bs ∉ bs → Only [Bs] A B → J pre bs B)
    (hY : ∀ pre (x : List UInt8) bs W1, (∃ t, pre ++ x :: t = linesB s) → J pre bs W1 → YieldAt Fence.wide (n - 1) Tryz.prog l #[.string (strL x)] W1 fun e W' => (e = .returned (.bool true) ∧ ∃ bs', J (pre ++ [x]) bs' W' ∧ Only (l :: bs) W1 W' ∧ ∀ y ∈ bs', y ∈ bs ∨ W1.heap.size ≤ y) ∨ (e = .returned (.bool false) ∧ Jx W'))
    (h0 : J [] bs0 W) :
    CallsIn Fence.wide n Tryz.prog 52 (#[.func (.yield l) #[] #[]] ++ #[.pointer (some ⟨Bs, 0, none⟩)]) W fun e W' => (∃ v, e = .returned v) ∧ ((∃ bs, J (linesB s) bs W' ∧ Bs ∉ bs) ∨ Jx W') := by
  refine callsIn_of_wp Tryz.func52 rfl trivial ?_ rfl
  simp only [Tryz.ntmps52, List.size_toArray, List.length_cons, List.length_nil, Nat.reduceAdd, Nat.reduceSub, Array.replicate_succ, Array.replicate_zero, List.push_toArray, List.append_toArray, List.nil_append, List.cons_append]
  gi_wp2
  gi_loopw [] (fun wr => ∃ rest pre bs, J pre bs wr ∧ Bs ∉ bs ∧ wr.cell? ⟨Bs, 0, none⟩ = some (.string (strL rest)) ∧ wr.frozen? ⟨Bs, 0, none⟩ = false ∧ pre ++ linesB rest = linesB s ∧ rest.length ≤ 9223372036854775806)
    (fun wr => cellLen wr Bs)
  case atStart => exact ⟨s, [], bs0, h0, hB0, hc, hfz, rfl, hsl⟩
  case round =>
    obtain ⟨rest, pre, bs, hJ, hB, hcell, hfr, hpre, hrl⟩ := hrel
    have harm : ∀ (q : ByteArray) (w : World), CallsIn Fence.wide (n - 1) Tryz.prog 53 #[.string q, .int .u8 10] w fun e w' => e = .returned (.int .i64 (Lib.indexByte q.data.toList 10)) ∧ w' = w := fun q w => callsIn_wide.2 (Tryz.strings_IndexByte q 10 w)
    by_cases hr : rest = []
    · subst hr
      gi_wp2
      go_end0
      refine ⟨⟨_, rfl⟩, .inl ⟨bs, ?_, hB⟩⟩
      rw [← hpre]
      have e : pre ++ linesB [] = pre := List.append_nil pre
      rw [e]
      exact hJ
    · have hsz : 0 < (strL rest).size := by
        show 0 < rest.toArray.size
        rw [List.size_toArray]
        exact List.length_pos_iff.2 hr
      have hdl : (strL rest).data.toList = rest := rfl
      have hix : Lib.indexByte rest 10 = -1 ∨ ∃ i : Nat, Lib.indexByte rest 10 = (i : Int) := by
        have := Lib.indexByte_ge rest 10
        by_cases h : Lib.indexByte rest 10 = -1
        · exact .inl h
        · exact .inr ⟨(Lib.indexByte rest 10).toNat, by omega⟩
      have hmx : Tryz.prog.follows .mixedOrders = true := by kernel_rfl
      have hnext : ∀ (rem x : List UInt8) (W1 W3 : World) (bs' : List Nat), W1.cell? ⟨Bs, 0, none⟩ = some (.string (strL rem)) → W1.frozen? ⟨Bs, 0, none⟩ = false → rem.length < rest.length → linesB rest = x :: linesB rem → J (pre ++ [x]) bs' W3 → Only (l :: bs) W1 W3 → (∀ y ∈ bs', y ∈ bs ∨ W1.heap.size ≤ y) → (∃ rest pre bs, J pre bs W3 ∧ Bs ∉ bs ∧ W3.cell? ⟨Bs, 0, none⟩ = some (.string (strL rest)) ∧ W3.frozen? ⟨Bs, 0, none⟩ = false ∧ pre ++ linesB rest = linesB s ∧ rest.length ≤ 9223372036854775806) ∧ cellLen W3 Bs < cellLen wr Bs := fun rem x W1 W3 bs' h1 h2 h3 h4 h5 h6 h7 => by
        have hlt := lt_of_cell h1
        have hb := h6.block Bs hlt (by simp [hBl, hB])
        have h8 := (cell_same (i := 0) hb).trans h1
        refine ⟨⟨rem, pre ++ [x], bs', h5, fun hm => ?_, h8, (frozen_same (i := 0) hb).trans h2, ?_, by omega⟩, ?_⟩
        · rcases h7 Bs hm with h | h
          · exact hB h
          · omega
        · rw [← hpre, h4, List.append_assoc]; rfl
        · rw [cellLen_of h8, cellLen_of hcell]; exact h3
      have hset : ∀ q, J pre bs (wr.setCell ⟨Bs, 0, none⟩ q) := fun q => hJs pre bs wr _ hJ hB ((Only.refl [Bs] wr).setCell (.inl (by simp)) q)
      rcases hix with hix | ⟨i, hix⟩
      · have harm1 := harm (strL rest)
        rw [hdl, hix] at harm1
        obtain ⟨fn, tmps, assign, body, hy, hR⟩ := hY pre rest bs _ ⟨[], by rw [← hpre, linesB_none hix hr]⟩ (hset (.string ⟨#[]⟩))
        gi_wp2_with (refine ⟨trivial, ?_⟩; gi_at_call 53; refine (harm1 _).mono ?_; rintro e w1 ⟨rfl, rfl⟩)
        refine hR.mono ?_
        rintro e W3 (⟨rfl, bs', hJ3, hO3, hbs⟩ | ⟨rfl, hx⟩)
        · have hN := hnext [] rest _ W3 bs' (World.cell?_setCell_same (v := .string ⟨#[]⟩) (h := hcell)) (by rw [World.frozen?_setCell]; exact hfr) (List.length_pos_iff.2 hr) (by rw [linesB_none hix hr]; rfl) hJ3 hO3 hbs
          gi_wp2
          go_roundw
          case rel => exact hN.1
          case measure => exact hN.2
        · gi_wp2
          refine bodyPost_ret (results_none rfl _ _ _) rfl ?_
          exact ⟨⟨_, rfl⟩, .inr hx⟩
      · have harm1 := harm (strL rest)
        rw [hdl, hix] at harm1
        obtain ⟨hil, hlines⟩ := linesB_some hix
        gi_wp2_with (refine ⟨trivial, ?_⟩; gi_at_call 53; refine (harm1 _).mono ?_; rintro e w1 ⟨rfl, rfl⟩)
        refine wpIn_wide.2 (wp_region_E (fun w' => w'.cell? ⟨Bs, 0, none⟩ = some (.string (strL rest))) [9] hmx ?_)
        show wpAnyE _ _ _ _ _ _ 10 _ _ _
        have hI : ({ w1 with drawn := w1.drawn + 1 } : World).cell? ⟨Bs, 0, none⟩ = some (.string (strL rest)) := hcell
        have hw : IntKind.i64.wrap ((i : Int) + 1) = ((i + 1 : Nat) : Int) := by
          rw [IntWalk.i64_in _ (by omega)]
          rfl
        have hu : Tryz.prog.underlying 9 = some .string := by kernel_rfl
        refine wpAnyE_take 0 (v := (.string (strL rest))) rfl (by kernel_rfl) (fun _ _ _ h => h) hI (fun w' hw' => yld rfl (by have y0 : w'.cell? ⟨Bs, 0, none⟩ = some (.string (strL rest)) := hw'; go_simp)) ?_
        refine wpAnyE_take 4 (v := (.string (strL rest))) rfl (by kernel_rfl) (fun _ _ _ h => h) hI (fun w' hw' => yld rfl (by have y0 : w'.cell? ⟨Bs, 0, none⟩ = some (.string (strL rest)) := hw'; go_simp)) ?_
        refine wpAnyE_take 1 (v := (.int .i64 (i : Int))) rfl (by kernel_rfl) (fun _ _ _ h => h) hI (fun w' hw' => yld rfl (by kernel_rfl)) ?_
        refine wpAnyE_take 5 (v := (.int .i64 (i : Int))) rfl (by kernel_rfl) (fun _ _ _ h => h) hI (fun w' hw' => yld rfl (by kernel_rfl)) ?_
        refine wpAnyE_take 2 (v := (.int .i64 ((i + 1 : Nat) : Int))) rfl (by kernel_rfl) (fun _ _ _ h => h) hI (fun w' hw' => yld rfl (by rw [← hw]; kernel_rfl)) ?_
        refine wpAnyE_take 6 (v := (.int .i64 ((i + 1 : Nat) : Int))) rfl (by kernel_rfl) (fun _ _ _ h => h) hI (fun w' hw' => yld rfl (by rw [← hw]; kernel_rfl)) ?_
        refine wpAnyE_take 3 (v := (.string (strL (rest.take (i + 1))))) rfl (by kernel_rfl) (fun _ _ _ h => h) hI (fun w' hw' => yld rfl (run_slice_op (x := .tmp 12) (lo := none) (hi := some (.tmp 14)) (mx := none) hu rfl (by kernel_rfl) (by kernel_rfl) (by kernel_rfl) (by kernel_rfl) (run_cut1 rest (i + 1) (by omega) w'))) ?_
        refine wpAnyE_take 7 (v := (.string (strL (rest.drop (i + 1))))) rfl (by kernel_rfl) (fun _ _ _ h => h) hI (fun w' hw' => yld rfl (run_slice_op (x := .tmp 16) (lo := some (.tmp 18)) (hi := none) (mx := none) hu rfl (by kernel_rfl) (by kernel_rfl) (by kernel_rfl) (by kernel_rfl) (run_cut2 rest (i + 1) (by omega) w'))) ?_
        refine wpAnyE_take 8 (v := (.string (strL (rest.take (i + 1))))) rfl (by kernel_rfl) (fun _ _ _ h => h) hI (fun w' hw' => yld rfl (by kernel_rfl)) ?_
        refine wpAnyE_rest [9] _ _ _ (by kernel_rfl) (fun _ => hI) (by simp) (by kernel_rfl) ?_
        simp only [pick, List.filterMap_cons, List.filterMap_nil, List.getElem?_toArray, List.getElem?_cons_succ, List.getElem?_cons_zero]
        go_wp2
        obtain ⟨fn, tmps, assign, body, hy, hR⟩ := hY pre (rest.take (i + 1)) bs _ ⟨linesB (rest.drop (i + 1)), by rw [← hpre, hlines]⟩ (hJs pre bs w1 _ hJ hB ((Only.refl [Bs] w1).setCell (p := ⟨Bs, 0, none⟩) (.inl (by simp)) (.string (strL (rest.drop (i + 1))))).drew)
        gi_wp2
        refine hR.mono ?_
        rintro e W3 (⟨rfl, bs', hJ3, hO3, hbs⟩ | ⟨rfl, hx⟩)
        · have hN := hnext (rest.drop (i + 1)) (rest.take (i + 1)) ((w1.setCell ⟨Bs, 0, none⟩ (.string (strL (rest.drop (i + 1))))).drew) W3 bs' (by rw [World.cell?_drew]; exact World.cell?_setCell_same (v := .string (strL (rest.drop (i + 1)))) (h := hcell)) (by rw [World.frozen?_drew, World.frozen?_setCell]; exact hfr) (by rw [List.length_drop]; omega) hlines hJ3 hO3 hbs
          gi_wp2
          go_roundw
          case rel => exact hN.1
          case measure => exact hN.2
        · gi_wp2
          refine bodyPost_ret (results_none rfl _ _ _) rfl ?_
          exact ⟨⟨_, rfl⟩, .inr hx⟩
end Go.Proofs.YtmmcamkmglpgiaaGreatDoor
