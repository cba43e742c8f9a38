/- Layer 8: whether a setting may be: all flags, one by one (a range over a function); for all settings; no condition. -/
import Derived.RangeFuncNested
import Derived.RangeFuncBound
import Derived.RangeFuncCalls
import Derived.RangeFuncLeaves
import Derived.Shelf.Abstract
import Derived.Shelf.RegionOpen
import Derived.WalkKit
import Derived.OwnWalkIn
import Derived.TacticsInMore
import Derived.LoopNIn
import Derived.LoopIn
import Derived.Test.YtnfcdbjckdhieaaGreatPkD
namespace Go.Proofs.YtnfcdbjckdhieaaGreat
open Go.RowKit Go.Shelf
set_option linter.all false
attribute [local go_sem] Oper.semAt_some

set_option maxHeartbeats 1000000 in
theorem bit_in (F : Fence) (n : Nat) (hF : F.fn 74) (hro : F.round = none) (op : Int) (h1 : 30 ≤ op) (h2 : op ≤ 93) (w : World) : CallsIn F n Tryz.prog 74 #[.int .i64 op] w fun e w' => e = .returned (.int .u64 (bitI op)) ∧ w' = w := by
  have e2 : IntKind.u64.wrap (2 ^ (op - 30).toNat) = bitI op := by
    unfold bitI
    have h3 : (2 : Int) ^ (op - 30).toNat = ((2 ^ (op - 30).toNat : Nat) : Int) := (Int.natCast_pow 2 _).symm
    have h6 : (op - 30).toNat < 64 := by omega
    have h4 : 2 ^ (op - 30).toNat < 2 ^ 64 := Nat.pow_lt_pow_right (by decide) h6
    rw [h3]
    generalize 2 ^ (op - 30).toNat = q at h4
    have h7 : q < 18446744073709551616 := h4
    have h5 : (q : Int) < 18446744073709551616 := by omega
    show ((q : Int) % (18446744073709551616 : Int)) = _
    exact Int.emod_eq_of_lt (Int.natCast_nonneg q) h5
  refine callsIn_of_wp Tryz.func74 rfl hF ?_ hro
  simp only [Tryz.ntmps74, List.size_toArray, List.length_cons, List.length_nil, Nat.reduceAdd, Nat.reduceSub, Array.replicate_succ, Array.replicate_zero, List.push_toArray, List.append_toArray, List.nil_append, List.cons_append]
  gi_wp2
  go_ret
  exact ⟨rfl, rfl⟩
theorem flagsF_any (w : World) : Calls Tryz.prog 140 #[] w fun e w' => e = .returned (.func (.func 172) #[] #[]) ∧ Only [] w w' := by
  refine Hs.enter Tryz.func140 [] [] [] [] (Mem.start0 w) (by kernel_rfl) (by kernel_rfl) ?_
  refine Hs.run0 300 (fun _ => by kernel_rfl) ?_
  exact Hs.ret (v := .func (.func 172) #[] #[]) Tryz.func140 (by kernel_rfl) fun w' H => ⟨rfl, H.only⟩
/-- Numbers of flags. -/
abbrev FI := { x : Int // 30 ≤ x ∧ x ≤ 93 }
def mkF (x : Int) : FI := if h : 30 ≤ x ∧ x ≤ 93 then ⟨x, h⟩ else ⟨30, by decide⟩
theorem mkF_val {x : Int} (h : 30 ≤ x ∧ x ≤ 93) : (mkF x).1 = x := by unfold mkF; rw [dif_pos h]
def rng (lo : Int) (n : Nat) : List FI := (List.range n).map fun j => mkF (lo + (j : Nat))
theorem rng_succ (lo : Int) (n : Nat) : rng lo (n + 1) = rng lo n ++ [mkF (lo + (n : Nat))] := by simp [rng, List.range_succ]
theorem rng_len (lo : Int) (n : Nat) : (rng lo n).length = n := by simp [rng]
def upG : Nat → List FI
  | 0 => []
  | 1 => rng 30 13
  | 2 => rng 30 13 ++ rng 50 13
  | 3 => rng 30 13 ++ rng 50 13 ++ rng 70 6
  | 4 => rng 30 13 ++ rng 50 13 ++ rng 70 6 ++ rng 90 4
  | _ => []
theorem upG_1 : upG 1 = upG 0 ++ rng 30 13 := by simp [upG]
theorem upG_2 : upG 2 = upG 1 ++ rng 50 13 := by simp [upG]
theorem upG_3 : upG 3 = upG 2 ++ rng 70 6 := by simp [upG]
theorem upG_4 : upG 4 = upG 3 ++ rng 90 4 := by simp [upG]
/-- All flags, in their order. -/
def flagL : List FI := upG 4
/-- Cells beside the block B stay. -/
def KpB (B : Nat) (W W' : World) : Prop := W.heap.size ≤ W'.heap.size ∧ ∀ (a : Addr) (v : Value), a.block ≠ B → W.cell? a = some v → W'.cell? a = some v
theorem KpB.trans {B : Nat} {W W' W'' : World} (h : KpB B W W') (h' : KpB B W' W'') : KpB B W W'' := ⟨Nat.le_trans h.1 h'.1, fun a v hb hc => h'.2 a v hb (h.2 a v hb hc)⟩
theorem only_grown {w w' : World} (h : Only [] w w') : w.grownBy w' none := ⟨h.os, h.tape, h.output, h.size, fun k hk _ => h.block k hk (by simp)⟩
set_option maxRecDepth 100000 in
set_option maxHeartbeats 4000000 in
/-- The flags' iterator: all of them, in order. -/
theorem flags_stops (n B : Nat) (hn : 1 ≤ n) (w : World) (hB : B < w.heap.size) : SeqStopsK Fence.wide n Tryz.prog 172 #[] (fun x : FI => #[Value.int .i64 x.1]) (KpB B) (fun xs => xs = flagL) (fun _ => True) 36 w := fun l J Jx W hW hJ _ hY h0 => by
  refine callsIn_of_wp Tryz.func172 rfl trivial ?_ rfl
  simp only [Tryz.ntmps172, List.size_toArray, List.length_cons, List.length_nil, Nat.reduceAdd, Nat.reduceSub, Array.replicate_succ, Array.replicate_zero, List.push_toArray, List.append_toArray, List.nil_append, List.cons_append]
  gi_wp2_with (refine ⟨trivial, ?_⟩; gi_at_call 160; refine (callsIn_wide.2 (groups_any _)).mono ?_; rintro e w1 ⟨rfl, hO⟩)
  have hJ0 : J [] w1 := hJ [] W w1 none h0 (only_grown hO) (fun r e => by cases e)
  have hsz : W.heap.size ≤ w1.heap.size := hO.size
  have hB1 : B < W.heap.size := Nat.lt_of_lt_of_le hB hW.size
  gi_loopw [6] (fun p wr => ∃ k : Nat, k ≤ 4 ∧ p = .int .i64 (k : Nat) ∧ J (upG k) wr ∧ W.heap.size ≤ wr.heap.size)
    (fun p _ => 4 - (intOf p).toNat)
  case atStart => exact ⟨0, by omega, rfl, hJ0, hsz⟩
  case round =>
    obtain ⟨k, hk, rfl, hJs, hsw⟩ := hrel
    obtain ⟨wo, rfl⟩ : ∃ wo : World, wo = wr := ⟨_, rfl⟩
    have hk5 : k = 0 ∨ k = 1 ∨ k = 2 ∨ k = 3 ∨ k = 4 := by omega
    rcases hk5 with rfl | rfl | rfl | rfl | rfl
    · gi_wp2
      have hix : ∀ w, (Instr.index 213 (.agg #[.int .i64 30, .int .i64 42, .int .i64 50, .int .i64 62, .int .i64 70, .int .i64 75, .int .i64 90, .int .i64 93]) (.int .i64 0)).run Tryz.prog w = .ok (.agg #[.int .i64 30, .int .i64 42]) w := fun w => by kernel_rfl
      rw [hix]
      gi_wp2
      gi_loopw [4] (fun p wr2 => ∃ j : Nat, j ≤ 13 ∧ p = .int .i64 (30 + (j : Nat)) ∧ J (upG 0 ++ rng 30 j) wr2 ∧ wr2.cell? ⟨wo.heap.size, 1, none⟩ = some (.int .i64 42) ∧ wo.heap.size ≤ wr2.heap.size)
        (fun p _ => 13 - (intOf p - 30).toNat)
      case atStart =>
        exact ⟨0, by omega, by simp, by
          rw [show upG 0 ++ rng 30 0 = upG 0 by simp [rng]]
          exact hJ _ wo _ none hJs (World.grownBy_alloc wo _ none) (fun r e => by cases e), (Blk.new wo 161 [.int .i64 30, .int .i64 42]).cell 1, by simp⟩
      case round =>
        obtain ⟨j, hj, rfl, hJ2, hc2, hs2⟩ := hrel
        by_cases hlt : j < 13
        · obtain ⟨fn, tmps, assign, body, hy, hR⟩ := hY _ (mkF (30 + (j : Nat))) _ hJ2 (by rw [List.length_append, rng_len]; show 0 + j < 36; omega)
          have hmk : (mkF (30 + (j : Nat))).1 = 30 + (j : Nat) := mkF_val ⟨by omega, by omega⟩
          rw [hmk] at hy
          gi_wp2
          refine hR.mono ?_
          rintro e W3 (⟨rfl, hJ3, hk3⟩ | ⟨rfl, hJx3⟩)
          · gi_wp2
            go_roundw
            case rel => exact ⟨j + 1, by omega, by simp; omega, by rw [rng_succ, ← List.append_assoc]; exact hJ3, hk3.2 ⟨wo.heap.size, 1, none⟩ _ (by show wo.heap.size ≠ B; omega) hc2, Nat.le_trans hs2 hk3.1⟩
            case measure => simp [intOf]; omega
          · gi_wp2
            refine bodyPost_ret (results_none rfl _ _ _) rfl ?_
            exact ⟨⟨_, rfl⟩, .inr ⟨_, trivial, hJx3⟩⟩
        · obtain rfl : j = 13 := by omega
          gi_wp2
          go_roundw
          case rel => exact ⟨1, by omega, by simp, by rw [upG_1]; exact hJ2, Nat.le_trans hsw hs2⟩
          case measure => simp [intOf]
    · gi_wp2
      have hix : ∀ w, (Instr.index 213 (.agg #[.int .i64 30, .int .i64 42, .int .i64 50, .int .i64 62, .int .i64 70, .int .i64 75, .int .i64 90, .int .i64 93]) (.int .i64 1)).run Tryz.prog w = .ok (.agg #[.int .i64 50, .int .i64 62]) w := fun w => by kernel_rfl
      rw [hix]
      gi_wp2
      gi_loopw [4] (fun p wr2 => ∃ j : Nat, j ≤ 13 ∧ p = .int .i64 (50 + (j : Nat)) ∧ J (upG 1 ++ rng 50 j) wr2 ∧ wr2.cell? ⟨wo.heap.size, 1, none⟩ = some (.int .i64 62) ∧ wo.heap.size ≤ wr2.heap.size)
        (fun p _ => 13 - (intOf p - 50).toNat)
      case atStart =>
        exact ⟨0, by omega, by simp, by
          rw [show upG 1 ++ rng 50 0 = upG 1 by simp [rng]]
          exact hJ _ wo _ none hJs (World.grownBy_alloc wo _ none) (fun r e => by cases e), (Blk.new wo 161 [.int .i64 50, .int .i64 62]).cell 1, by simp⟩
      case round =>
        obtain ⟨j, hj, rfl, hJ2, hc2, hs2⟩ := hrel
        by_cases hlt : j < 13
        · obtain ⟨fn, tmps, assign, body, hy, hR⟩ := hY _ (mkF (50 + (j : Nat))) _ hJ2 (by rw [List.length_append, rng_len]; show 13 + j < 36; omega)
          have hmk : (mkF (50 + (j : Nat))).1 = 50 + (j : Nat) := mkF_val ⟨by omega, by omega⟩
          rw [hmk] at hy
          gi_wp2
          refine hR.mono ?_
          rintro e W3 (⟨rfl, hJ3, hk3⟩ | ⟨rfl, hJx3⟩)
          · gi_wp2
            go_roundw
            case rel => exact ⟨j + 1, by omega, by simp; omega, by rw [rng_succ, ← List.append_assoc]; exact hJ3, hk3.2 ⟨wo.heap.size, 1, none⟩ _ (by show wo.heap.size ≠ B; omega) hc2, Nat.le_trans hs2 hk3.1⟩
            case measure => simp [intOf]; omega
          · gi_wp2
            refine bodyPost_ret (results_none rfl _ _ _) rfl ?_
            exact ⟨⟨_, rfl⟩, .inr ⟨_, trivial, hJx3⟩⟩
        · obtain rfl : j = 13 := by omega
          gi_wp2
          go_roundw
          case rel => exact ⟨2, by omega, by simp, by rw [upG_2]; exact hJ2, Nat.le_trans hsw hs2⟩
          case measure => simp [intOf]
    · gi_wp2
      have hix : ∀ w, (Instr.index 213 (.agg #[.int .i64 30, .int .i64 42, .int .i64 50, .int .i64 62, .int .i64 70, .int .i64 75, .int .i64 90, .int .i64 93]) (.int .i64 2)).run Tryz.prog w = .ok (.agg #[.int .i64 70, .int .i64 75]) w := fun w => by kernel_rfl
      rw [hix]
      gi_wp2
      gi_loopw [4] (fun p wr2 => ∃ j : Nat, j ≤ 6 ∧ p = .int .i64 (70 + (j : Nat)) ∧ J (upG 2 ++ rng 70 j) wr2 ∧ wr2.cell? ⟨wo.heap.size, 1, none⟩ = some (.int .i64 75) ∧ wo.heap.size ≤ wr2.heap.size)
        (fun p _ => 6 - (intOf p - 70).toNat)
      case atStart =>
        exact ⟨0, by omega, by simp, by
          rw [show upG 2 ++ rng 70 0 = upG 2 by simp [rng]]
          exact hJ _ wo _ none hJs (World.grownBy_alloc wo _ none) (fun r e => by cases e), (Blk.new wo 161 [.int .i64 70, .int .i64 75]).cell 1, by simp⟩
      case round =>
        obtain ⟨j, hj, rfl, hJ2, hc2, hs2⟩ := hrel
        by_cases hlt : j < 6
        · obtain ⟨fn, tmps, assign, body, hy, hR⟩ := hY _ (mkF (70 + (j : Nat))) _ hJ2 (by rw [List.length_append, rng_len]; show 26 + j < 36; omega)
          have hmk : (mkF (70 + (j : Nat))).1 = 70 + (j : Nat) := mkF_val ⟨by omega, by omega⟩
          rw [hmk] at hy
          gi_wp2
          refine hR.mono ?_
          rintro e W3 (⟨rfl, hJ3, hk3⟩ | ⟨rfl, hJx3⟩)
          · gi_wp2
            go_roundw
            case rel => exact ⟨j + 1, by omega, by simp; omega, by rw [rng_succ, ← List.append_assoc]; exact hJ3, hk3.2 ⟨wo.heap.size, 1, none⟩ _ (by show wo.heap.size ≠ B; omega) hc2, Nat.le_trans hs2 hk3.1⟩
            case measure => simp [intOf]; omega
          · gi_wp2
            refine bodyPost_ret (results_none rfl _ _ _) rfl ?_
            exact ⟨⟨_, rfl⟩, .inr ⟨_, trivial, hJx3⟩⟩
        · obtain rfl : j = 6 := by omega
          gi_wp2
          go_roundw
          case rel => exact ⟨3, by omega, by simp, by rw [upG_3]; exact hJ2, Nat.le_trans hsw hs2⟩
          case measure => simp [intOf]
    · gi_wp2
      have hix : ∀ w, (Instr.index 213 (.agg #[.int .i64 30, .int .i64 42, .int .i64 50, .int .i64 62, .int .i64 70, .int .i64 75, .int .i64 90, .int .i64 93]) (.int .i64 3)).run Tryz.prog w = .ok (.agg #[.int .i64 90, .int .i64 93]) w := fun w => by kernel_rfl
      rw [hix]
      gi_wp2
      gi_loopw [4] (fun p wr2 => ∃ j : Nat, j ≤ 4 ∧ p = .int .i64 (90 + (j : Nat)) ∧ J (upG 3 ++ rng 90 j) wr2 ∧ wr2.cell? ⟨wo.heap.size, 1, none⟩ = some (.int .i64 93) ∧ wo.heap.size ≤ wr2.heap.size)
        (fun p _ => 4 - (intOf p - 90).toNat)
      case atStart =>
        exact ⟨0, by omega, by simp, by
          rw [show upG 3 ++ rng 90 0 = upG 3 by simp [rng]]
          exact hJ _ wo _ none hJs (World.grownBy_alloc wo _ none) (fun r e => by cases e), (Blk.new wo 161 [.int .i64 90, .int .i64 93]).cell 1, by simp⟩
      case round =>
        obtain ⟨j, hj, rfl, hJ2, hc2, hs2⟩ := hrel
        by_cases hlt : j < 4
        · obtain ⟨fn, tmps, assign, body, hy, hR⟩ := hY _ (mkF (90 + (j : Nat))) _ hJ2 (by rw [List.length_append, rng_len]; show 32 + j < 36; omega)
          have hmk : (mkF (90 + (j : Nat))).1 = 90 + (j : Nat) := mkF_val ⟨by omega, by omega⟩
          rw [hmk] at hy
          gi_wp2
          refine hR.mono ?_
          rintro e W3 (⟨rfl, hJ3, hk3⟩ | ⟨rfl, hJx3⟩)
          · gi_wp2
            go_roundw
            case rel => exact ⟨j + 1, by omega, by simp; omega, by rw [rng_succ, ← List.append_assoc]; exact hJ3, hk3.2 ⟨wo.heap.size, 1, none⟩ _ (by show wo.heap.size ≠ B; omega) hc2, Nat.le_trans hs2 hk3.1⟩
            case measure => simp [intOf]; omega
          · gi_wp2
            refine bodyPost_ret (results_none rfl _ _ _) rfl ?_
            exact ⟨⟨_, rfl⟩, .inr ⟨_, trivial, hJx3⟩⟩
        · obtain rfl : j = 4 := by omega
          gi_wp2
          go_roundw
          case rel => exact ⟨4, by omega, by simp, by rw [upG_4]; exact hJ2, Nat.le_trans hsw hs2⟩
          case measure => simp [intOf]
    · gi_wp2
      go_end0
      exact ⟨⟨_, rfl⟩, .inl ⟨_, rfl, hJs⟩⟩
def clrI (r op : Int) : Int := bits BinOp.andNot IntKind.u64 r (bitI op)
def restF (fl : Int) (pre : List FI) : Int := pre.foldl (fun r x => clrI r x.1) fl
theorem restF_snoc (fl : Int) (pre : List FI) (x : FI) : restF fl (pre ++ [x]) = clrI (restF fl pre) x.1 := by simp [restF]
def rightB (t : TM) : Bool := restF t.fl flagL == 0 && (t.ch 0 == 0 && (decide (t.mn ≥ 0) && (decide (t.mn ≤ 255) && (decide (t.tm ≥ 0) && decide (t.tm ≤ 255)))))
set_option maxRecDepth 100000 in
set_option maxHeartbeats 4000000 in
theorem right_any (t : TM) (w : World) : Calls Tryz.prog 104 #[t.val] w fun e w' => e = .returned (.bool (rightB t)) ∧ Below w.heap.size w w' := by
  unfold TM.val
  refine (callsIn_wide (n := 3)).1 ?_
  refine callsIn_of_wp_marks Tryz.func104 rfl trivial ?_ rfl
  simp only [Tryz.ntmps104, List.size_toArray, List.length_cons, List.length_nil, Nat.reduceAdd, Nat.reduceSub, Array.replicate_succ, Array.replicate_zero, List.push_toArray, List.append_toArray, List.nil_append, List.cons_append]
  gi_wp2_with (refine ⟨trivial, ?_⟩; gi_at_call 140; refine (callsIn_wide.2 (flagsF_any _)).mono ?_; rintro e w1 ⟨rfl, hO⟩)
  have b0 := (Blk.new w 26 (#[.int .u8 (t.ch 0), .int .u8 (t.ch 1), .int .u8 (t.ch 2), .int .u8 (t.ch 3), .int .u8 (t.ch 4), .int .u8 (t.ch 5), .int .u8 (t.ch 6), .int .u8 (t.ch 7), .int .u8 (t.ch 8), .int .u8 (t.ch 9), .int .u8 (t.ch 10), .int .u8 (t.ch 11), .int .u8 (t.ch 12), .int .u8 (t.ch 13), .int .u8 (t.ch 14), .int .u8 (t.ch 15), .int .u8 (t.ch 16), .int .u8 (t.ch 17), .int .u8 (t.ch 18), .int .u64 t.fl, .int .u32 t.inn, .int .u32 t.out, .int .i64 t.mn, .int .i64 t.tm] : Array Value).toList).alloc (.cells #[.int .u64 t.fl] 23)
  have b1 := Blk.new (w.alloc (.cells #[.int .u8 (t.ch 0), .int .u8 (t.ch 1), .int .u8 (t.ch 2), .int .u8 (t.ch 3), .int .u8 (t.ch 4), .int .u8 (t.ch 5), .int .u8 (t.ch 6), .int .u8 (t.ch 7), .int .u8 (t.ch 8), .int .u8 (t.ch 9), .int .u8 (t.ch 10), .int .u8 (t.ch 11), .int .u8 (t.ch 12), .int .u8 (t.ch 13), .int .u8 (t.ch 14), .int .u8 (t.ch 15), .int .u8 (t.ch 16), .int .u8 (t.ch 17), .int .u8 (t.ch 18), .int .u64 t.fl, .int .u32 t.inn, .int .u32 t.out, .int .i64 t.mn, .int .i64 t.tm] 26)) 23 [.int .u64 t.fl]
  have hs1 : (w.alloc (.cells #[.int .u8 (t.ch 0), .int .u8 (t.ch 1), .int .u8 (t.ch 2), .int .u8 (t.ch 3), .int .u8 (t.ch 4), .int .u8 (t.ch 5), .int .u8 (t.ch 6), .int .u8 (t.ch 7), .int .u8 (t.ch 8), .int .u8 (t.ch 9), .int .u8 (t.ch 10), .int .u8 (t.ch 11), .int .u8 (t.ch 12), .int .u8 (t.ch 13), .int .u8 (t.ch 14), .int .u8 (t.ch 15), .int .u8 (t.ch 16), .int .u8 (t.ch 17), .int .u8 (t.ch 18), .int .u64 t.fl, .int .u32 t.inn, .int .u32 t.out, .int .i64 t.mn, .int .i64 t.tm] 26)).heap.size = w.heap.size + 1 := by simp
  rw [hs1] at b1
  have hB0 : Below w.heap.size w ((w.alloc (.cells #[.int .u8 (t.ch 0), .int .u8 (t.ch 1), .int .u8 (t.ch 2), .int .u8 (t.ch 3), .int .u8 (t.ch 4), .int .u8 (t.ch 5), .int .u8 (t.ch 6), .int .u8 (t.ch 7), .int .u8 (t.ch 8), .int .u8 (t.ch 9), .int .u8 (t.ch 10), .int .u8 (t.ch 11), .int .u8 (t.ch 12), .int .u8 (t.ch 13), .int .u8 (t.ch 14), .int .u8 (t.ch 15), .int .u8 (t.ch 16), .int .u8 (t.ch 17), .int .u8 (t.ch 18), .int .u64 t.fl, .int .u32 t.inn, .int .u32 t.out, .int .i64 t.mn, .int .i64 t.tm] 26)).alloc (.cells #[.int .u64 t.fl] 23)) := ((Below.refl _ w).alloc (Nat.le_refl _) _).alloc (by simp) _
  have hB1 : Below w.heap.size w w1 := hB0.trans (hO.below (by simp; omega) (by simp))
  have hz : w.heap.size + 2 ≤ w1.heap.size := Nat.le_trans (by simp) hO.size
  replace b0 := b0.only hO (by simp)
  replace b1 := b1.only hO (by simp)
  refine wpIn_rangeFunc_ownF rfl (by omega) (gf := 172) (lb := #[]) rfl trivial (enters_of Tryz.func172 (by kernel_rfl) rfl)
    (flags_stops _ (w.heap.size + 1) (by omega) w1 (by omega)) KpB.trans (fun W l o o' hl ho hc _ => ⟨by simp, fun a v hb hv => cell_kept hv (grownBy_putObj' W l o') (fun r e => by cases e; exact ⟨o, ho, hc⟩)⟩) (Below.refl _ _) (fun _ => rfl)
    (fun pre W => ((∀ i v, (TM.cells t)[i]? = some v → W.cell? ⟨w.heap.size, i, none⟩ = some v) ∧ W.cell? ⟨w.heap.size + 1, 0, none⟩ = some (.int .u64 (restF t.fl pre)) ∧ W.frozen? ⟨w.heap.size + 1, 0, none⟩ = false) ∧ Below w.heap.size w W)
    (fun _ _ _ => False)
    (OwnFrom.and (Own.from (fun s A B row hs hg hr => ⟨fun i v hv => cell_kept (hs.1 i v hv) hg hr, cell_kept hs.2.1 hg hr, (frozen_kept hs.2.1 hg hr).trans hs.2.2⟩) _) (ownFrom_below (Nat.le_refl _) (by omega)))
    (fun _ _ _ _ _ hs _ _ => hs)
    ⟨⟨fun i v hv => by rw [b0.cell]; exact hv, b1.cell 0, b1.frozen 0⟩, hB1⟩
    (fun x => { tmps := #[(.agg #[.int .u8 (t.ch 0), .int .u8 (t.ch 1), .int .u8 (t.ch 2), .int .u8 (t.ch 3), .int .u8 (t.ch 4), .int .u8 (t.ch 5), .int .u8 (t.ch 6), .int .u8 (t.ch 7), .int .u8 (t.ch 8), .int .u8 (t.ch 9), .int .u8 (t.ch 10), .int .u8 (t.ch 11), .int .u8 (t.ch 12), .int .u8 (t.ch 13), .int .u8 (t.ch 14), .int .u8 (t.ch 15), .int .u8 (t.ch 16), .int .u8 (t.ch 17), .int .u8 (t.ch 18), .int .u64 t.fl, .int .u32 t.inn, .int .u32 t.out, .int .i64 t.mn, .int .i64 t.tm]), .pointer (some ⟨w.heap.size, 0, none⟩), .bool false, .pointer (some ⟨w.heap.size + 1, 0, none⟩), .int .i64 x.1, .pointer (some ⟨w.heap.size, 19, none⟩), .int .u64 t.fl, .func (.func 172) #[] #[], .int .i64 x.1, undef, undef, undef, undef, undef, undef, undef, undef, undef, undef, undef, undef, undef, undef, undef, undef, undef, undef, undef, undef, undef, undef, undef, undef, undef, undef, undef, undef, undef, undef, undef, undef], defers := [] }) ?assign ?body ?done ?stop
  case assign =>
    intro l x W K hK
    gi_wp2
    exact hK
  case body =>
    rintro l pre x W ⟨⟨hbx, hc, hf⟩, hB⟩ _
    have hd : 1 ≤ 3 - 1 - 1 := by omega
    have hmx : Tryz.prog.follows .mixedOrders = true := by kernel_rfl
    gi_wp2
    gi_region_with_o (refine ⟨trivial, ?_⟩; gi_at_call 74; refine (CallsIn.inRound l (bit_in Fence.wide _ trivial rfl x.1 x.2.1 x.2.2 _)).mono ?_; rintro e w' ⟨rfl, rfl⟩)
    all_goals gi_wp2
    all_goals (try go_bits)
    all_goals
      refine ⟨(KeepsOthers.setCell _ _ _).trans (KeepsOthers.drew _), ⟨by simp, fun a v hb hv => by rw [World.cell?_drew, World.cell?_setCell_other (h := fun e => hb (by rw [← e]))]; exact hv⟩, ⟨⟨fun i v hv => ?_, ?_, ?_⟩, ?_⟩⟩
      · rw [World.cell?_drew, World.cell?_setCell_other (h := fun e => by have := congrArg Addr.block e; simp at this)]; exact hbx i v hv
      · rw [World.cell?_drew, World.cell?_setCell_same (h := hc), restF_snoc]; rfl
      · rw [World.frozen?_drew, World.frozen?_setCell]; exact hf
      · exact hB.trans (((Below.refl _ _).setCell (by show w.heap.size ≤ w.heap.size + 1; omega) _).drew)
  case done =>
    rintro D ys W hD rfl ⟨⟨hbx, hc, hf⟩, hB⟩ hK
    have c0 : W.cell? ⟨w.heap.size, 0, none⟩ = some (.int .u8 (t.ch 0)) := hbx 0 _ rfl
    have c22 : W.cell? ⟨w.heap.size, 22, none⟩ = some (.int .i64 t.mn) := hbx 22 _ rfl
    have c23 : W.cell? ⟨w.heap.size, 23, none⟩ = some (.int .i64 t.tm) := hbx 23 _ rfl
    gi_wp2
    all_goals
      refine ⟨by simp, .inl ⟨_, _, rfl, run_takeDeferred hK, ?_⟩⟩
      refine ⟨_, results_tmp rfl _ _ _, ?_, hB.trans (belowK_b (w := w) (Nat.le_refl _) W D _ _ (by omega) hK rfl rfl)⟩
      refine congrArg Ending.returned ?_
      simp_all [rightB]
      try omega
  case stop =>
    rintro D c pre W _ _ h _
    exact h.elim
end Go.Proofs.YtnfcdbjckdhieaaGreat
