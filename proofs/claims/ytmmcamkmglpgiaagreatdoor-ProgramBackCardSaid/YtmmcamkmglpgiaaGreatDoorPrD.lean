/- Layer 19: a number of digits; for all texts; where the library's tables hold what they hold. -/
import Derived.Lib.LaidTab
import Derived.Sort.Grow
import Derived.Test.YtmmcamkmglpgiaaGreatDoorPrC
namespace Go.Proofs.YtmmcamkmglpgiaaGreatDoor
open Go.RowKit Go.Sort
set_option linter.all false
set_option maxRecDepth 100000
theorem onlyB {w w' : World} (h : Below w.heap.size w w') : Only [] w w' := ⟨h.os, h.tape, h.output, h.size, fun i hi _ => h.block i hi⟩
theorem onlyG (w : World) (k : Nat) (os : Array Obj) : Only [] w (grow (w.drewN k) os) := ⟨rfl, rfl, rfl, by show w.heap.size ≤ (w.heap ++ os).size; simp, fun i hi _ => by
  show (w.heap ++ os)[i]? = w.heap[i]?
  rw [Array.getElem?_append_left hi]⟩
theorem var_only {P : Program} {w w' : World} {nm : String} {cs : Array Value} (O : Only [] w w') (h : w.var? P nm = some cs) : w'.var? P nm = some cs := by
  unfold World.var? at *
  cases hg : P.globalNamed nm with
  | none => rw [hg] at h; cases h
  | some g =>
    rw [hg] at h
    simp only [Option.bind_some] at h ⊢
    have hlt : g < w.heap.size := by
      rcases Nat.lt_or_ge g w.heap.size with hh | hh
      · exact hh
      · rw [Array.getElem?_eq_none hh] at h; cases h
    rw [O.block g hlt (by simp)]
    exact h
/-- What the library's variables hold. -/
structure SLib (w : World) : Prop where
  syn : ∃ (tp : TypeId) (p : Value), w.var? Tryz.prog "strconv.ErrSyntax" = some #[.iface tp p]
  rng : ∃ (tp : TypeId) (p : Value), w.var? Tryz.prog "strconv.ErrRange" = some #[.iface tp p]
  tab : Lib.TabIs Tryz.prog w "internal/strconv.uint64pow10" .u64 Lib.pow10Tab
  max : ∃ m : Int, w.cell? ⟨0, 0, none⟩ = some (.int .i64 m)
theorem SLib.only {w w' : World} (h : SLib w) (O : Only [] w w') : SLib w' := by
  obtain ⟨⟨t1, p1, h1⟩, ⟨t2, p2, h2⟩, h3, ⟨m, h4⟩⟩ := h
  refine ⟨⟨t1, p1, var_only O h1⟩, ⟨t2, p2, var_only O h2⟩, var_only O h3, ⟨m, ?_⟩⟩
  rw [← h4]
  exact cell_same (O.block 0 (lt_of_cell h4) (by simp))
theorem only_freeze {w w' : World} {L : List Nat} {a : Addr} {n : Nat} (h : Only L w w') (hp : w.heap.size ≤ a.block) : Only L w (w'.freeze a n) := by
  unfold World.freeze
  split
  · exact h
  · exact ⟨h.os, h.tape, h.output, by simpa using h.size, fun i hi hn => by
      show (w'.heap.modify a.block _)[i]? = _
      rw [Array.getElem?_modify, if_neg (by omega)]
      exact h.block i hi hn⟩
theorem bytesW (w : World) (e : TypeId) (t : ByteArray) : Only [] w (Lib.bytesWorld w e t) := by
  unfold Lib.bytesWorld
  exact only_freeze ((Only.refl [] w).drew.alloc _) (by simp)
theorem itoa_any (n : Int) (h0 : -9223372036854775808 ≤ n) (h1 : n ≤ 9223372036854775807) (w : World) (hS : SLib w) : Calls Tryz.prog 44 #[.int .i64 n] w fun e w' => e = .returned (.string (strL (Lib.itoa n))) ∧ Only [] w w' := by
  refine (Tryz.strconv_Itoa n h0 h1 w hS.tab).mono ?_
  rintro e w' ⟨rfl, k, os, rfl⟩
  exact ⟨rfl, onlyG w k os⟩
def atoiN (s : List UInt8) : Int := match Lib.atoiAll s with
  | .ok v => v
  | .range => Lib.atoiSat s
  | _ => 0
def atoiE (s : List UInt8) : Bool := match Lib.atoiAll s with
  | .ok _ => true
  | _ => false
theorem atoi_any (s : List UInt8) (hs : s.length ≤ 140737488355000) (w : World) (hS : SLib w) : Calls Tryz.prog 88 #[.string (strL s)] w fun e w' => ∃ (N : Nat), e = .returned (.tuple #[.int .i64 (atoiN s), if atoiE s then .nilIface else .iface 165 (.pointer (some ⟨N, 0, none⟩))]) ∧ Only [] w w' ∧ True := by
  have hz : (strL s).size = s.length := rfl
  cases h : Lib.atoiAll s with
  | ok v =>
    refine (Tryz.strconv_Atoi_ok (strL s) (by omega) v h w).mono ?_
    rintro e w' ⟨rfl, hw⟩
    refine ⟨0, by simp [atoiN, atoiE, h], ?_, trivial⟩
    rcases hw with rfl | ⟨t, rfl⟩
    · exact Only.refl _ _
    · exact bytesW _ _ _
  | range =>
    obtain ⟨tp, p, hv⟩ := hS.rng
    refine (Tryz.strconv_Atoi_range_var (strL s) (by omega) h tp p w hv).mono ?_
    rintro e w' ⟨N, rfl, _, _, hb⟩
    exact ⟨N, by simp [atoiN, atoiE, h, strL_data], onlyB hb, trivial⟩
  | _ =>
    obtain ⟨tp, p, hv⟩ := hS.syn
    refine (Tryz.strconv_Atoi_syntax_var (strL s) (by omega) h tp p w hv).mono ?_
    rintro e w' ⟨N, rfl, _, _, hb⟩
    exact ⟨N, by simp [atoiN, atoiE, h], onlyB hb, trivial⟩
/-- A number: what Atoi makes of it, and whether it is one. -/
def numOk (s : List UInt8) : Bool := atoiE s && (withinB (atoiN s) 0 999999 && (Lib.itoa (atoiN s) == s))
theorem atoiN_in (s : List UInt8) : -9223372036854775808 ≤ atoiN s ∧ atoiN s ≤ 9223372036854775807 := by
  unfold atoiN
  cases h : Lib.atoiAll s with
  | ok v => exact Lib.atoiAll_bounds h
  | range =>
    show _ ≤ Lib.atoiSat s ∧ Lib.atoiSat s ≤ _
    unfold Lib.atoiSat
    split <;> exact ⟨by decide, by decide⟩
  | _ =>
    show (-9223372036854775808 : Int) ≤ 0 ∧ (0 : Int) ≤ 9223372036854775807
    exact ⟨by decide, by decide⟩
theorem number_any19 (s : List UInt8) (hs : s.length ≤ 140737488355000) (w : World) (hS : SLib w) : Calls Tryz.prog 61 #[.string (strL s)] w fun e w' => e = .returned (.tuple #[.int .i64 (atoiN s), .bool (numOk s)]) ∧ Only [] w w' := by
  have hC := fun w hS => atoi_any s hs w hS
  have hb := atoiN_in s
  refine Hs.enter Tryz.func61 [] [] [] [.c (.v (.string (strL s)))] (Mem.start0 w) (by kernel_rfl) (by kernel_rfl) ?_
  refine Hs.run0 300 (fun _ => by kernel_rfl) ?_
  cases hE : atoiE s with
  | false =>
    rw [hE] at hC
    refine Hs.callX (v := fun N => .tuple #[.int .i64 (atoiN s), .iface 165 (.pointer (some ⟨N, 0, none⟩))]) (Q := fun _ => True) (fun w' H => hC w' (hS.only H.only)) (by kernel_rfl) fun N _ => ?_
    refine Hs.run0 300 (fun _ => by kernel_rfl) ?_
    refine Hs.bool 14 false (by kernel_rfl) (fun h => by cases h) (fun _ => ?_)
    refine Hs.rung0 [3] 300 (fun _ => by kernel_rfl) ?_
    refine Hs.bool 18 false (by kernel_rfl) (fun h => by cases h) (fun _ => ?_)
    refine Hs.rung0 [3, 7] 300 (fun _ => by kernel_rfl) ?_
    exact Hs.ret (v := .tuple #[.int .i64 (atoiN s), .bool false]) Tryz.func61 (by kernel_rfl) fun w' H => ⟨by simp [numOk, hE], H.only⟩
  | true =>
    rw [hE] at hC
    refine Hs.callX (v := fun _ : Nat => .tuple #[.int .i64 (atoiN s), .nilIface]) (Q := fun _ => True) (fun w' H => hC w' (hS.only H.only)) (by kernel_rfl) fun N _ => ?_
    refine Hs.run0 300 (fun _ => by kernel_rfl) ?_
    refine Hs.rung0 [3] 300 (fun _ => by kernel_rfl) ?_
    refine Hs.callV (v := .bool (withinB (atoiN s) 0 999999)) (fun w' H => within_any _ _ _ w') (by kernel_rfl) ?_
    refine Hs.rung0 [3] 300 (fun _ => by kernel_rfl) ?_
    refine Hs.bool 18 (withinB (atoiN s) 0 999999) (by kernel_rfl) (fun h => ?_) (fun h => ?_)
    · refine Hs.rung0 [3, 7] 300 (fun _ => by kernel_rfl) ?_
      refine Hs.callV (v := .string (strL (Lib.itoa (atoiN s)))) (fun w' H => itoa_any _ hb.1 hb.2 w' (hS.only H.only)) (by kernel_rfl) ?_
      refine Hs.rung0 [3, 7] 300 (fun _ => by kernel_rfl) ?_
      refine Hs.slot 3 (.c (.v (.bool (Lib.itoa (atoiN s) == s)))) rfl ((by kernel_rfl : _ = Value.bool ((strL (Lib.itoa (atoiN s))).toList == (strL s).toList)).trans (by rw [str_cmp]; rfl)) ?_
      exact Hs.ret (v := .tuple #[.int .i64 (atoiN s), .bool (Lib.itoa (atoiN s) == s)]) Tryz.func61 (by kernel_rfl) fun w' H => ⟨by simp [numOk, hE, h], H.only⟩
    · refine Hs.rung0 [3, 7] 300 (fun _ => by kernel_rfl) ?_
      exact Hs.ret (v := .tuple #[.int .i64 (atoiN s), .bool false]) Tryz.func61 (by kernel_rfl) fun w' H => ⟨by simp [numOk, hE, h], H.only⟩
end Go.Proofs.YtmmcamkmglpgiaaGreatDoor
