/- TracePlays: lemmas, from 'Go's own sort at []uint32: the kit's worked walks at int, tu' on; what each asks for stands in it. -/
import Derived.Test.YtkgikodiecmakaaGreatDoorTpB
import Derived.Sort.EncStr
import Derived.Sort.Grow
import Derived.Sort.LotD1
import Derived.Sort.LotD5
import Derived.Laws.Bits64
import Derived.Laws.Bits64b
import Derived.Sort.LotD4
import Derived.Sort.AtCall
import Derived.BigGuard
import Derived.BigCall
import Derived.CellFam
import Derived.Sort.LotC
import Derived.WalkKit
import Derived.RegionTactic
import Derived.Deep.Draws
import Derived.Deep.QuietTactic
import Derived.BigQuiet
set_option linter.all false
set_option maxRecDepth 100000
set_option maxHeartbeats 64000000
namespace Go.Proofs.YtkgikodiecmakaaGreatDoor
open Go.Sort Go.RowKit Go.Lib
open Go.RowKit Go.Sort
theorem VL (x : Nat) (h : x < 2 ^ 64) : Lib.bitLen x = bitsLen x := by
  induction x using Nat.strongRecOn with
  | _ x ih =>
    by_cases h0 : x = 0
    · subst h0; rfl
    · rw [Lib.bitLen_half x h0 h, ih (x / 2) (by omega) (by omega)]
      unfold bitsLen
      rw [if_neg h0, Nat.log2_def x]
      by_cases h2 : 2 ≤ x
      · rw [if_pos h2, if_neg (by omega)]; omega
      · obtain rfl : x = 1 := by omega
        simp
def QE : Prop := ∀ (blk off cap a b limit : Nat) (d : Array Int) (w : World), Holds AJ w blk off d → blk < w.heap.size → a ≤ b → b ≤ d.size → d.size < 4611686018427387904 → limit < 4611686018427387904 → Below ltInt a b d →
  Calls Tryz.prog 53 #[.slice (some ⟨blk, off, none⟩) d.size cap, .int .i64 a, .int .i64 b, .int .i64 limit] w fun e w' =>
    e = .returned (.tuple #[]) ∧ ∃ n os, w' = grow (putRow AJ (Sort.ahead w n) blk off (Sort.pdq ltInt d a b limit true true)) os
theorem Su.Sort_int (hpdq : QE) (blk off cap : Nat) (d : Array Int) (w : World) (hH : Holds AJ w blk off d) (hblk : blk < w.heap.size) (hsz : d.size < 4611686018427387904) :
    Calls Tryz.prog 41 #[.slice (some ⟨blk, off, none⟩) d.size cap] w fun e w' => e = .returned (.tuple #[]) ∧ ∃ n os, w' = grow (putRow AJ (Sort.ahead w n) blk off (Sort.sort ltInt d)) os := by
  have HH : Hid (Holds AJ w blk off d) := hH
  clear hH
  have hLen : ∀ w, Calls Tryz.prog 54 #[.int .u64 (d.size : Int)] w fun e w' => e = .returned (.int .i64 (bitsLen d.size : Nat)) ∧ w' = w := fun w => by
    have h := Su.bits_Len (d.size : Int) w (by omega) (by omega)
    rwa [Int.toNat_natCast, VL _ (by omega)] at h
  have hk : bitsLen d.size ≤ 62 := (bitsLen_le_iff d.size 62).2 (by omega)
  go_enter Tryz.func41, Tryz.ntmps41
  go_wp2_with (first
    | (go_at_call 54; refine (hLen _).mono ?_; rintro e w' ⟨rfl, rfl⟩)
    | (go_at_call 53; refine (hpdq blk off cap 0 d.size (bitsLen d.size) d _ (by exact HH.out) (by exact hblk) (Nat.zero_le _) (Nat.le_refl _) hsz (by omega) (Or.inl rfl)).mono ?_; rintro e w' ⟨rfl, n, os, rfl⟩))
  go_end0
  exact ⟨rfl, n, os, rfl⟩
end Go.Proofs.YtkgikodiecmakaaGreatDoor
namespace Go.Proofs.YtkgikodiecmakaaGreatDoor
open Go.Sort Go.RowKit Go.Lib
open Go.RowKit Go.Sort
theorem RA (w : World) (blk off : Nat) (v v' : Value) : (w.setCell ⟨blk, off, none⟩ v).setCell ⟨blk, off, none⟩ v' = w.setCell ⟨blk, off, none⟩ v' := by
  rw [setCell_eq, setCell_eq, mapBlock_mapBlock, setCell_eq]
  congr 1
  funext c
  simp
theorem Su.xorshift_Next (rb ro X : Nat) (hX : X < 18446744073709551616) (w : World) (hc : w.cell? ⟨rb, ro, none⟩ = some (.int .u64 X)) (hf : w.frozen? ⟨rb, ro, none⟩ = false) :
    Calls Tryz.prog 97 #[.pointer (some ⟨rb, ro, none⟩)] w fun e w' => e = .returned (.int .u64 (xorNextN X : Nat)) ∧ w' = (w.setCell ⟨rb, ro, none⟩ (.int .u64 (xorNextN X : Nat))).drewN 3 := by
  -- the three numbers under names of their own; an equation a step, in the walk's own spelling
  obtain ⟨A, hA⟩ : ∃ A : Nat, A = X ^^^ (X * 8192 % 18446744073709551616) := ⟨_, rfl⟩
  obtain ⟨B, hB⟩ : ∃ B : Nat, B = A ^^^ (A / 128) := ⟨_, rfl⟩
  obtain ⟨C, hC⟩ : ∃ C : Nat, C = B ^^^ (B * 131072 % 18446744073709551616) := ⟨_, rfl⟩
  have lA : A < 18446744073709551616 := by rw [hA]; exact Nat.xor_lt_two_pow (n := 64) (by omega) (by omega)
  have lB : B < 18446744073709551616 := by rw [hB]; exact Nat.xor_lt_two_pow (n := 64) (by omega) (by omega)
  have e1 : bits .xor .u64 (X : Int) (IntKind.u64.wrap ((X : Int) * 8192)) = (A : Int) := by
    rw [IntKind.wrap_u64, show ((X : Int) * 8192 % 18446744073709551616) = ((X * 8192 % 18446744073709551616 : Nat) : Int) by omega, bits_xor_u64_nat _ _ hX (by omega), hA]
  have e2 : bits .xor .u64 (A : Int) ((A : Int) / 128) = (B : Int) := by
    rw [show ((A : Int) / 128) = ((A / 128 : Nat) : Int) by omega, bits_xor_u64_nat _ _ lA (by omega), hB]
  have e3 : bits .xor .u64 (B : Int) (IntKind.u64.wrap ((B : Int) * 131072)) = (C : Int) := by
    rw [IntKind.wrap_u64, show ((B : Int) * 131072 % 18446744073709551616) = ((B * 131072 % 18446744073709551616 : Nat) : Int) by omega, bits_xor_u64_nat _ _ lB (by omega), hC]
  have hv : xorNextN X = C := by unfold xorNextN; simp only []; rw [← hA, ← hB, ← hC]
  rw [hv]
  clear hA hB hC hv
  -- the stores are not let pile up: behind three of them the last load stood still
  have hss : ∀ v v', (w.setCell ⟨rb, ro, none⟩ v).setCell ⟨rb, ro, none⟩ v' = w.setCell ⟨rb, ro, none⟩ v' := RA w rb ro
  go_enter Tryz.func97, Tryz.ntmps97
  go_wp2
  go_region
  all_goals go_wp2
  all_goals go_region
  all_goals go_wp2
  all_goals go_region
  all_goals go_wp2
  go_ret
  exact ⟨rfl, rfl⟩
theorem ZO (k : Nat) (hk : k ≤ 62) : IntKind.u64.wrap ((2 : Int) ^ k) = ((1 <<< k : Nat) : Int) := by
  have h : (2 : Nat) ^ k ≤ 2 ^ 62 := Nat.pow_le_pow_right (by decide) hk
  rw [IntKind.wrap_u64, Nat.one_shiftLeft, show ((2 : Int) ^ k) = ((2 ^ k : Nat) : Int) by push_cast; rfl]
  generalize (2 : Nat) ^ k = p at h
  omega
theorem Su.nextPowerOfTwo (n : Nat) (hn : n < 4611686018427387904) (w : World) :
    Calls Tryz.prog 96 #[.int .i64 n] w fun e w' => e = .returned (.int .u64 ((1 <<< bitsLen n : Nat) : Int)) ∧ w' = w := by
  have hLen : ∀ w, Calls Tryz.prog 54 #[.int .u64 (n : Int)] w fun e w' => e = .returned (.int .i64 (bitsLen n : Nat)) ∧ w' = w := fun w => by
    have h := Su.bits_Len (n : Int) w (by omega) (by omega)
    rwa [Int.toNat_natCast, VL _ (by omega)] at h
  have hk : bitsLen n ≤ 62 := (bitsLen_le_iff n 62).2 (by omega)
  have hp := ZO (bitsLen n) hk
  go_enter Tryz.func96, Tryz.ntmps96
  go_wp2_with (first | (go_at_call 54; refine (hLen _).mono ?_; rintro e w' ⟨rfl, rfl⟩))
  go_ret
  exact ⟨rfl, rfl⟩
end Go.Proofs.YtkgikodiecmakaaGreatDoor
namespace Go.Proofs.YtkgikodiecmakaaGreatDoor
open Go.Sort Go.RowKit Go.Lib
open Go.RowKit Go.Sort
section
variable {α : Type} [Inhabited α]
def KC (a L M i0 : Nat) : Nat → Nat → UInt64 × Array α → Array α
  | 0, _, st => st.2
  | k + 1, t, st => KC a L M i0 k (t + 1) (breakStep a L M st (i0 + t))
theorem OU (d : Array α) (a L : Nat) (h8 : 8 ≤ L) : breakPatterns d a (a + L) = KC a L (1 <<< bitsLen L) (a + L / 4 * 2 - 1) 3 0 (UInt64.ofNat L, d) := by
  unfold breakPatterns
  simp only [Nat.add_sub_cancel_left]
  rw [if_pos h8]
  rfl
theorem bp_step (a L M i0 t : Nat) (r : UInt64) (d : Array α) (o : Nat) (ht : t < 3) (ho : (if (xorNext r).toNat &&& (M - 1) ≥ L then ((xorNext r).toNat &&& (M - 1)) - L else (xorNext r).toNat &&& (M - 1)) = o) :
    KC a L M i0 (3 - t) t (r, d) = KC a L M i0 (3 - (t + 1)) (t + 1) (xorNext r, swp d (i0 + t) (a + o)) := by
  rw [show 3 - t = (3 - (t + 1)) + 1 by omega, KC]
  unfold breakStep
  simp only [ho]
theorem UO (X : World) (v : Value) (T : TypeId) : (grow X #[Obj.cells #[v] T]).cell? ⟨X.heap.size, 0, none⟩ = some v := by
  rw [← alloc_eq_grow, World.cell?_alloc_at _ _ _ _ rfl]; rfl
theorem QT (X : World) (v : Value) (T : TypeId) : (grow X #[Obj.cells #[v] T]).frozen? ⟨X.heap.size, 0, none⟩ = false := by
  rw [← alloc_eq_grow, World.frozen?_alloc_at _ _ _ _ rfl]
theorem OI (X : World) (os : Array Obj) (blk off : Nat) (v : Value) (h : blk < X.heap.size) : (grow X os).setCell ⟨blk, off, none⟩ v = grow (X.setCell ⟨blk, off, none⟩ v) os := by
  rw [setCell_eq, setCell_eq, mapBlock_grow _ _ _ _ h]
theorem PQ (X : World) (u v : Value) (T : TypeId) : (grow X #[Obj.cells #[u] T]).setCell ⟨X.heap.size, 0, none⟩ v = grow X #[Obj.cells #[v] T] := by
  rw [setCell_eq, mapBlock_grow_new _ _ _ _ (Nat.le_refl _)]
  simp [onCells]
theorem UF (enc : α → Value) (w : World) (n q blk off : Nat) (d : Array α) (j k : Nat) (hblk : blk < w.heap.size) (hj : j < d.size) (hk : k < d.size) (u v : Value) (T : TypeId) :
    ((((grow (putRow enc (Sort.ahead w n) blk off d) #[Obj.cells #[u] T]).setCell ⟨w.heap.size, 0, none⟩ v).drewN q).setCell ⟨blk, off + j, none⟩ (enc d[k]!)).setCell ⟨blk, off + k, none⟩ (enc d[j]!) =
      grow (putRow enc (Sort.ahead w (n + q)) blk off (swp d j k)) #[Obj.cells #[v] T] := by
  have hz : (putRow enc (Sort.ahead w n) blk off d).heap.size = w.heap.size := by simp
  rw [← hz, PQ, show (grow (putRow enc (Sort.ahead w n) blk off d) #[Obj.cells #[v] T]).drewN q = grow ((putRow enc (Sort.ahead w n) blk off d).drewN q) #[Obj.cells #[v] T] from rfl, BA,
    OI _ _ _ _ _ (by simpa using hblk), OI _ _ _ _ _ (by simpa using hblk), putRow_swp enc _ blk off d j k hj hk]
end
theorem Su.breakPatterns_int_go (blk off cap a L : Nat) (d : Array Int) (w : World) (hH : Holds AJ w blk off d) (hblk : blk < w.heap.size) (hb : a + L ≤ d.size) (hsz : d.size < 4611686018427387904) (h8 : 8 ≤ L) :
    Calls Tryz.prog 61 #[.slice (some ⟨blk, off, none⟩) d.size cap, .int .i64 a, .int .i64 ((a + L : Nat) : Int)] w fun e w' =>
      e = .returned (.tuple #[]) ∧ ∃ n os, w' = grow (putRow AJ (Sort.ahead w n) blk off (breakPatterns d a (a + L))) os := by
  rw [OU d a L h8]
  -- the modulus under a name of its own (written out, simp pushes the cast into the shift)
  obtain ⟨M, hM⟩ : ∃ M : Nat, M = 1 <<< bitsLen L := ⟨_, rfl⟩
  have hM1 : 1 ≤ M := by rw [hM, Nat.one_shiftLeft]; exact Nat.two_pow_pos _
  have hM2 : M ≤ 2 * L := by rw [hM, Nat.one_shiftLeft]; exact two_pow_bitsLen_le (by omega)
  have hNP : ∀ w, Calls Tryz.prog 96 #[.int .i64 (L : Int)] w fun e w' => e = .returned (.int .u64 (M : Int)) ∧ w' = w := by rw [hM]; exact fun w => Su.nextPowerOfTwo L (by omega) w
  rw [← hM]
  clear hM
  have HH : Hid (Holds AJ w blk off d) := hH
  have HST : Hid (w.alloc (Obj.cells #[.int .u64 (L : Int)] 148) = grow (putRow AJ (Sort.ahead w 0) blk off d) #[Obj.cells #[.int .u64 ((UInt64.ofNat L).toNat : Int)] 148]) := by
    show _ = _
    rw [show Sort.ahead w 0 = w from rfl, putRow_self _ _ _ _ _ hH, alloc_eq_grow, show (UInt64.ofNat L).toNat = L from by simp; omega]
  clear hH
  go_enter Tryz.func61, Tryz.ntmps61
  go_wp2_with (first | (go_at_call 96; rw [show ((a : Int) + (L : Int) - (a : Int)) = (L : Int) by omega]; refine (hNP _).mono ?_; rintro e w' ⟨rfl, rfl⟩))
  go_loopw [9] (fun vi wr => ∃ (t n : Nat) (r : UInt64) (dk : Array Int), vi = .int .i64 ((a + L / 4 * 2 - 1 + t : Nat) : Int) ∧ t ≤ 3 ∧ dk.size = d.size ∧
      wr = grow (putRow AJ (Sort.ahead w n) blk off dk) #[Obj.cells #[.int .u64 (r.toNat : Int)] 148] ∧
      KC a L M (a + L / 4 * 2 - 1) (3 - t) t (r, dk) = KC a L M (a + L / 4 * 2 - 1) 3 0 (UInt64.ofNat L, d)) (fun vi _ => a + L / 4 * 2 + 3 - (intOf vi).toNat)
  case atStart => exact ⟨0, 0, UInt64.ofNat L, d, by congr 1; omega, by omega, rfl, HST.out, rfl⟩
  case round =>
    obtain ⟨t, n, r, dk, rfl, ht, hsk, hw, hR⟩ := hrel
    -- this round's numbers under names of their own
    obtain ⟨R, hRr⟩ : ∃ R : Nat, R = r.toNat := ⟨_, rfl⟩
    have lR : R < 18446744073709551616 := by rw [hRr]; exact r.toNat_lt
    obtain ⟨R', hR'⟩ : ∃ R' : Nat, R' = xorNextN R := ⟨_, rfl⟩
    have lR' : R' < 18446744073709551616 := by rw [hR']; exact xorNextN_lt R lR
    obtain ⟨O, hO⟩ : ∃ O : Nat, O = R' &&& (M - 1) := ⟨_, rfl⟩
    have lO : O ≤ M - 1 := by rw [hO]; exact Nat.and_le_right
    have eAnd : bits .and .u64 (R' : Int) ((M : Int) - 1) = (O : Int) := by
      rw [show ((M : Int) - 1) = ((M - 1 : Nat) : Int) by omega, bits_and_u64_nat _ _ lR' (by omega), hO]
    obtain ⟨G, hG⟩ : ∃ G : Nat → Int, ∀ x, G x = dk[x]! := ⟨fun x => dk[x]!, fun _ => rfl⟩
    have hz : (putRow AJ (Sort.ahead w n) blk off dk).heap.size = w.heap.size := by simp
    have hcw : ∀ x, x < d.size → wr.cell? ⟨blk, off + x, none⟩ = some (.int .u32 (G x)) := fun x hx => by
      rw [hw, cell?_grow _ _ _ (by rw [hz]; exact hblk), hG]; exact cell?_putRow _ _ _ _ d dk (holds_ahead _ _ _ _ _ _ HH.out) hsk x (by omega)
    have hfw : ∀ x, x < d.size → wr.frozen? ⟨blk, off + x, none⟩ = false := fun x hx => by
      rw [hw, frozen?_grow _ _ _ (by rw [hz]; exact hblk), frozen?_putRow]; exact ((holds_ahead _ _ n _ _ _ HH.out) x hx).2
    have hcB : wr.cell? ⟨w.heap.size, 0, none⟩ = some (.int .u64 (R : Int)) := by rw [hw, hRr, ← hz]; exact UO _ _ _
    have hfB : wr.frozen? ⟨w.heap.size, 0, none⟩ = false := by rw [hw, ← hz]; exact QT _ _ _
    have hNext : Calls Tryz.prog 97 #[.pointer (some ⟨w.heap.size, 0, none⟩)] wr fun e w' => e = .returned (.int .u64 (R' : Int)) ∧ w' = (wr.setCell ⟨w.heap.size, 0, none⟩ (.int .u64 (R' : Int))).drewN 3 := by
      rw [hR']; exact Su.xorshift_Next _ _ R lR wr hcB hfB
    have HW : Hid (wr = grow (putRow AJ (Sort.ahead w n) blk off dk) #[Obj.cells #[.int .u64 (r.toNat : Int)] 148]) := hw
    have HG : Hid (∀ x, G x = dk[x]!) := hG
    have HR : Hid (KC a L M (a + L / 4 * 2 - 1) (3 - t) t (r, dk) = KC a L M (a + L / 4 * 2 - 1) 3 0 (UInt64.ofNat L, d)) := hR
    have HN : Hid (R' = (xorNext r).toNat ∧ O = (xorNext r).toNat &&& (M - 1)) := by
      have e : R' = (xorNext r).toNat := by rw [hR', hRr, xorNext_toNat]
      exact ⟨e, by rw [hO, e]⟩
    clear hw hG hR hRr hR' hO
    go_wp2_with (first | (go_at_call 97; refine hNext.mono ?_; rintro e w' ⟨rfl, rfl⟩))
    -- ✋ THE RANDOM PLACE MAY BE idx ITSELF (Go then swaps an element with itself): whether the two stores hit one cell is not for arithmetic to say: PART ON IT AHEAD OF THE REGION
    · -- other >= length: other -= length
      have hLO : L ≤ O := by omega
      by_cases hEq : a + L / 4 * 2 - 1 + t = a + (O - L)
      all_goals
        go_region
        all_goals go_wp2
        go_roundw
        case rel =>
          refine ⟨t + 1, n + 4, xorNext r, swp dk (a + L / 4 * 2 - 1 + t) (a + (O - L)), by first | rfl | (congr 1 <;> omega), by omega, by rw [size_swp]; exact hsk, ?_, ?_⟩
          · (try rw [hEq])      -- (where the two places are one, the walk has written the one for the other)
            rw [HW.out, HN.out.1]
            simp only [HG.out]
            exact UF AJ w n 4 blk off dk _ _ hblk (by omega) (by omega) _ _ _
          · rw [← HR.out, bp_step a L M _ t r dk (O - L) (by omega) (by rw [← HN.out.2, if_pos (by omega)])]
        case measure => simp [intOf]; omega
    · have hLO : ¬ L ≤ O := by omega
      by_cases hEq : a + L / 4 * 2 - 1 + t = a + O
      all_goals
        go_region
        all_goals go_wp2
        go_roundw
        case rel =>
          refine ⟨t + 1, n + 4, xorNext r, swp dk (a + L / 4 * 2 - 1 + t) (a + O), by first | rfl | (congr 1 <;> omega), by omega, by rw [size_swp]; exact hsk, ?_, ?_⟩
          · (try rw [hEq])      -- (where the two places are one, the walk has written the one for the other)
            rw [HW.out, HN.out.1]
            simp only [HG.out]
            exact UF AJ w n 4 blk off dk _ _ hblk (by omega) (by omega) _ _ _
          · rw [← HR.out, bp_step a L M _ t r dk O (by omega) (by rw [← HN.out.2, if_neg (by omega)])]
        case measure => simp [intOf]; omega
    · -- three rounds are done
      obtain rfl : t = 3 := by omega
      go_end0
      exact ⟨rfl, n, _, by rw [← HR.out, HW.out]; rfl⟩
theorem Su.breakPatterns_int (blk off cap a b : Nat) (d : Array Int) (w : World) (hH : Holds AJ w blk off d) (hblk : blk < w.heap.size) (hab : a ≤ b) (hb : b ≤ d.size) (hsz : d.size < 4611686018427387904) :
    Calls Tryz.prog 61 #[.slice (some ⟨blk, off, none⟩) d.size cap, .int .i64 a, .int .i64 b] w fun e w' =>
      e = .returned (.tuple #[]) ∧ ∃ n os, w' = grow (putRow AJ (Sort.ahead w n) blk off (breakPatterns d a b)) os := by
  obtain ⟨L, rfl⟩ : ∃ L, b = a + L := ⟨b - a, by omega⟩
  by_cases h8 : 8 ≤ L
  · exact Su.breakPatterns_int_go blk off cap a L d w hH hblk hb hsz h8
  · have hv : breakPatterns d a (a + L) = d := by unfold breakPatterns; simp only [Nat.add_sub_cancel_left]; rw [if_neg h8]
    rw [hv]
    have HST : Hid (w = grow (putRow AJ (Sort.ahead w 0) blk off d) #[]) := by
      show _ = _
      rw [grow_empty, show Sort.ahead w 0 = w from rfl, putRow_self _ _ _ _ _ hH]
    clear hH
    go_enter Tryz.func61, Tryz.ntmps61
    go_wp2
    go_end0
    exact ⟨rfl, 0, #[], HST.out⟩
end Go.Proofs.YtkgikodiecmakaaGreatDoor
namespace Go.Proofs.YtkgikodiecmakaaGreatDoor
open Go.Sort Go.RowKit Go.Lib
open Go.Sort Go.RowKit
theorem GT {x y : Int} (h : (x == y) = true) : x = y := by simpa using h
theorem GU {x y : Int} (h : (x == y) = false) : x ≠ y := by simpa using h
theorem XK (w : World) (N S : Nat) : ∃ os, putRow (Value.int .i64) (Sort.ahead (w.alloc (.cells #[.int .i64 0] 3)) N) w.heap.size 0 (one S) = grow (Sort.ahead w N) os := by
  rw [alloc_eq_grow, ahead_grow]
  obtain ⟨os, _, h⟩ := putRow_grow_new (Value.int .i64) (Sort.ahead w N) #[.cells #[.int .i64 0] 3] w.heap.size 0 (one S) (Nat.le_refl _)
  exact ⟨os, h⟩
theorem QW (blk off cap : Nat) (d : Array Int) (w : World) (hH : Holds AJ w blk off d) (hblk : blk < w.heap.size) (hsz : d.size < 4611686018427387904) :
    ∃ Wc : Nat → Nat → World,
      w.alloc (.cells #[.int .i64 0] 3) = Wc 0 0 ∧
      (∀ N S : Nat, (Wc N S).cell? ⟨w.heap.size, 0, none⟩ = some (.int .i64 (S : Int))) ∧
      (∀ N S : Nat, ∃ os, Wc N S = grow (Sort.ahead w N) os) ∧
      (∀ x s N : Nat, 1 ≤ x → x + 1 < d.size → s + 3 < 4611686018427387904 → Calls Tryz.prog 98 #[.slice (some ⟨blk, off, none⟩) d.size cap, .int .i64 (x : Int), .pointer (some ⟨w.heap.size, 0, none⟩)] (Wc N s) fun e w' =>
        e = .returned (.int .i64 ((medianAdjacent ltInt d x s).1 : Int)) ∧ ∃ N', w' = Wc N' (medianAdjacent ltInt d x s).2) ∧
      (∀ x y z s N : Nat, x < d.size → y < d.size → z < d.size → s + 3 < 4611686018427387904 → Calls Tryz.prog 99 #[.slice (some ⟨blk, off, none⟩) d.size cap, .int .i64 (x : Int), .int .i64 (y : Int), .int .i64 (z : Int), .pointer (some ⟨w.heap.size, 0, none⟩)] (Wc N s) fun e w' =>
        e = .returned (.int .i64 ((median ltInt d x y z s).1 : Int)) ∧ ∃ N', w' = Wc N' (median ltInt d x y z s).2) := by
  have hne : w.heap.size ≠ blk := by omega
  have hH0 : Holds AJ (w.alloc (.cells #[.int .i64 0] 3)) blk off d := by rw [alloc_eq_grow]; exact holds_grow _ _ _ _ _ _ hblk hH
  have hS0 : Holds (Value.int .i64) (w.alloc (.cells #[.int .i64 0] 3)) w.heap.size 0 (one 0) := fun j hj => by
    obtain rfl : j = 0 := by simpa using hj
    simp
  refine ⟨fun N S => putRow (Value.int .i64) (Sort.ahead (w.alloc (.cells #[.int .i64 0] 3)) N) w.heap.size 0 (one S), (putRow_self _ _ _ _ _ hS0).symm, fun N S => (aO (IK (n := N) (t := S) hS0)).1, fun N S => XK w N S, ?_, ?_⟩
  · intro x s N h1 h2 hs
    refine (Su.medianAdjacent_int d _ rfl blk off cap x w.heap.size 0 s _ (HX hH0 hne) h1 h2 (by omega) hne (IK hS0) (by omega)).mono ?_
    rintro e w' ⟨he, n, hw⟩
    exact ⟨he, N + n, by rw [hw, RG]⟩
  · intro x y z s N h1 h2 h3 hs
    refine (Su.median_int d _ rfl blk off cap x y z w.heap.size 0 s _ (HX hH0 hne) h1 h2 h3 hne (IK hS0) (by omega)).mono ?_
    rintro e w' ⟨he, n, hw⟩
    exact ⟨he, N + n, by rw [hw, RG]⟩
theorem Su.choosePivot_int (blk off cap a b : Nat) (d : Array Int) (w : World) (hH : Holds AJ w blk off d) (hblk : blk < w.heap.size) (hab : a < b) (hb : b ≤ d.size) (hsz : d.size < 4611686018427387904) :
    Calls Tryz.prog 62 #[.slice (some ⟨blk, off, none⟩) d.size cap, .int .i64 a, .int .i64 b] w fun e w' =>
      e = .returned (.tuple #[.int .i64 (choosePivot ltInt d a b).1, .int .i64 (hintCode (choosePivot ltInt d a b).2)]) ∧ ∃ n os, w' = grow (Sort.ahead w n) os := by
  obtain ⟨Wc, hW0, cS, hG, MA, MD⟩ := QW blk off cap d w hH hblk hsz
  clear hH
  rw [choosePivot_eq]
  -- the three places under names of their own
  obtain ⟨I, hI⟩ : ∃ I : Nat, I = a + (b - a) / 4 * 1 := ⟨_, rfl⟩
  obtain ⟨J, hJ⟩ : ∃ J : Nat, J = a + (b - a) / 4 * 2 := ⟨_, rfl⟩
  obtain ⟨K, hK⟩ : ∃ K : Nat, K = a + (b - a) / 4 * 3 := ⟨_, rfl⟩
  have eI : ((a : Int) + ((b : Int) - (a : Int)) / 4) = (I : Int) := by omega
  have eJ : ((a : Int) + ((b : Int) - (a : Int)) / 4 * 2) = (J : Int) := by omega
  have eK : ((a : Int) + ((b : Int) - (a : Int)) / 4 * 3) = (K : Int) := by omega
  by_cases h8 : b - a ≥ 8
  · by_cases h50 : b - a ≥ 50
    · -- THE NINTHER
      obtain ⟨i1, s1, h1⟩ : ∃ i1 s1, medianAdjacent ltInt d I 0 = (i1, s1) := ⟨_, _, rfl⟩
      obtain ⟨j1, s2, h2⟩ : ∃ j1 s2, medianAdjacent ltInt d J s1 = (j1, s2) := ⟨_, _, rfl⟩
      obtain ⟨k1, s3, h3⟩ : ∃ k1 s3, medianAdjacent ltInt d K s2 = (k1, s3) := ⟨_, _, rfl⟩
      obtain ⟨p, s, h4⟩ : ∃ p s, median ltInt d i1 j1 k1 s3 = (p, s) := ⟨_, _, rfl⟩
      have hraw : rawPivot ltInt d a b = (p, s) := by simp only [rawPivot, if_pos h8, if_pos h50, ← hI, ← hJ, ← hK, h1, h2, h3, h4]
      have m1 := medianAdjacent_mem ltInt d I 0; rw [h1] at m1
      have m2 := medianAdjacent_mem ltInt d J s1; rw [h2] at m2
      have m3 := medianAdjacent_mem ltInt d K s2; rw [h3] at m3
      have n1 := medianAdjacent_count ltInt d I 0; rw [h1] at n1
      have n2 := medianAdjacent_count ltInt d J s1; rw [h2] at n2
      have n3 := medianAdjacent_count ltInt d K s2; rw [h3] at n3
      simp only [] at m1 m2 m3 n1 n2 n3
      have c1 : Calls Tryz.prog 98 #[.slice (some ⟨blk, off, none⟩) d.size cap, .int .i64 (I : Int), .pointer (some ⟨w.heap.size, 0, none⟩)] (Wc 0 0) fun e w' => e = .returned (.int .i64 (i1 : Int)) ∧ ∃ N', w' = Wc N' s1 := by
        have h := MA I 0 0 (by omega) (by omega) (by omega); rw [h1] at h; exact h
      have c2 : ∀ N, Calls Tryz.prog 98 #[.slice (some ⟨blk, off, none⟩) d.size cap, .int .i64 (J : Int), .pointer (some ⟨w.heap.size, 0, none⟩)] (Wc N s1) fun e w' => e = .returned (.int .i64 (j1 : Int)) ∧ ∃ N', w' = Wc N' s2 := fun N => by
        have h := MA J s1 N (by omega) (by omega) (by omega); rw [h2] at h; exact h
      have c3 : ∀ N, Calls Tryz.prog 98 #[.slice (some ⟨blk, off, none⟩) d.size cap, .int .i64 (K : Int), .pointer (some ⟨w.heap.size, 0, none⟩)] (Wc N s2) fun e w' => e = .returned (.int .i64 (k1 : Int)) ∧ ∃ N', w' = Wc N' s3 := fun N => by
        have h := MA K s2 N (by omega) (by omega) (by omega); rw [h3] at h; exact h
      have c4 : ∀ N, Calls Tryz.prog 99 #[.slice (some ⟨blk, off, none⟩) d.size cap, .int .i64 (i1 : Int), .int .i64 (j1 : Int), .int .i64 (k1 : Int), .pointer (some ⟨w.heap.size, 0, none⟩)] (Wc N s3) fun e w' => e = .returned (.int .i64 (p : Int)) ∧ ∃ N', w' = Wc N' s := fun N => by
        have h := MD i1 j1 k1 s3 N (by omega) (by omega) (by omega) (by omega); rw [h4] at h; exact h
      -- the pivot, the count, the hint's number under names of their own
      rw [hraw]
      obtain ⟨Hc, hHc⟩ : ∃ Hc : Int, Hc = hintCode (hintOf s) := ⟨_, rfl⟩
      have hh0 : s = 0 → Hc = 1 := fun h => by rw [hHc, h]; rfl
      have hh12 : s = 12 → Hc = 2 := fun h => by rw [hHc, h]; rfl
      have hhx : s ≠ 0 → s ≠ 12 → Hc = 0 := fun h1 h2 => by rw [hHc]; unfold hintOf; rw [if_neg h1, if_neg h2]; rfl
      show Calls Tryz.prog 62 _ w fun e w' => e = .returned (.tuple #[.int .i64 (p : Int), .int .i64 (hintCode (hintOf s))]) ∧ ∃ n os, w' = grow (Sort.ahead w n) os
      rw [← hHc]
      clear hHc hraw
      clear h1 h2 h3 h4 MA MD hI hJ hK m1 m2 m3
      go_enter Tryz.func62, Tryz.ntmps62
      go_wp2_with (first
        | (go_at_call_has 98 (Value.int .i64 (I : Int)); refine c1.mono ?_; rintro e w' ⟨rfl, N1, rfl⟩)
        | (go_at_call_has 98 (Value.int .i64 (J : Int)); refine (c2 _).mono ?_; rintro e w' ⟨rfl, N2, rfl⟩)
        | (go_at_call_has 98 (Value.int .i64 (K : Int)); refine (c3 _).mono ?_; rintro e w' ⟨rfl, N3, rfl⟩)
        | (go_at_call 99; refine (c4 _).mono ?_; rintro e w' ⟨rfl, N4, rfl⟩))
      -- 'switch swaps'
      all_goals
        go_ret2
        refine ⟨?_, _, hG _ _⟩
        first
          | (have e0 : (s : Int) = 0 := GT (by assumption)
             rw [hh0 (by omega)]; rfl)
          | (have e1 : (s : Int) = 12 := GT (by assumption)
             rw [hh12 (by omega)]; rfl)
          | (have e0 : (s : Int) ≠ 0 := GU (by assumption)
             have e1 : (s : Int) ≠ 12 := GU (by assumption)
             rw [hhx (by omega) (by omega)]; rfl)
          | (rw [hh0 (by omega)]; rfl)
    · -- THE MEDIAN OF THREE
      obtain ⟨p, s, h4⟩ : ∃ p s, median ltInt d I J K 0 = (p, s) := ⟨_, _, rfl⟩
      have hraw : rawPivot ltInt d a b = (p, s) := by simp only [rawPivot, if_pos h8, if_neg h50, ← hI, ← hJ, ← hK, h4]
      have c4 : Calls Tryz.prog 99 #[.slice (some ⟨blk, off, none⟩) d.size cap, .int .i64 (I : Int), .int .i64 (J : Int), .int .i64 (K : Int), .pointer (some ⟨w.heap.size, 0, none⟩)] (Wc 0 0) fun e w' => e = .returned (.int .i64 (p : Int)) ∧ ∃ N', w' = Wc N' s := by
        have h := MD I J K 0 0 (by omega) (by omega) (by omega) (by omega); rw [h4] at h; exact h
      -- the pivot, the count, the hint's number under names of their own
      rw [hraw]
      obtain ⟨Hc, hHc⟩ : ∃ Hc : Int, Hc = hintCode (hintOf s) := ⟨_, rfl⟩
      have hh0 : s = 0 → Hc = 1 := fun h => by rw [hHc, h]; rfl
      have hh12 : s = 12 → Hc = 2 := fun h => by rw [hHc, h]; rfl
      have hhx : s ≠ 0 → s ≠ 12 → Hc = 0 := fun h1 h2 => by rw [hHc]; unfold hintOf; rw [if_neg h1, if_neg h2]; rfl
      show Calls Tryz.prog 62 _ w fun e w' => e = .returned (.tuple #[.int .i64 (p : Int), .int .i64 (hintCode (hintOf s))]) ∧ ∃ n os, w' = grow (Sort.ahead w n) os
      rw [← hHc]
      clear hHc hraw
      clear h4 MA MD hI hJ hK
      go_enter Tryz.func62, Tryz.ntmps62
      go_wp2_with (first | (go_at_call 99; refine c4.mono ?_; rintro e w' ⟨rfl, N4, rfl⟩))
      -- 'switch swaps'
      all_goals
        go_ret2
        refine ⟨?_, _, hG _ _⟩
        first
          | (have e0 : (s : Int) = 0 := GT (by assumption)
             rw [hh0 (by omega)]; rfl)
          | (have e1 : (s : Int) = 12 := GT (by assumption)
             rw [hh12 (by omega)]; rfl)
          | (have e0 : (s : Int) ≠ 0 := GU (by assumption)
             have e1 : (s : Int) ≠ 12 := GU (by assumption)
             rw [hhx (by omega) (by omega)]; rfl)
          | (rw [hh0 (by omega)]; rfl)
  · -- FEWER THAN EIGHT: the middle; nothing is counted
    obtain ⟨p, hp⟩ : ∃ p : Nat, p = J := ⟨_, rfl⟩
    obtain ⟨s, hs⟩ : ∃ s : Nat, s = 0 := ⟨_, rfl⟩
    have hraw : rawPivot ltInt d a b = (p, s) := by simp only [rawPivot, if_neg h8, ← hJ, hp, hs]
    -- the pivot, the count, the hint's number under names of their own
    rw [hraw]
    obtain ⟨Hc, hHc⟩ : ∃ Hc : Int, Hc = hintCode (hintOf s) := ⟨_, rfl⟩
    have hh0 : s = 0 → Hc = 1 := fun h => by rw [hHc, h]; rfl
    have hh12 : s = 12 → Hc = 2 := fun h => by rw [hHc, h]; rfl
    have hhx : s ≠ 0 → s ≠ 12 → Hc = 0 := fun h1 h2 => by rw [hHc]; unfold hintOf; rw [if_neg h1, if_neg h2]; rfl
    show Calls Tryz.prog 62 _ w fun e w' => e = .returned (.tuple #[.int .i64 (p : Int), .int .i64 (hintCode (hintOf s))]) ∧ ∃ n os, w' = grow (Sort.ahead w n) os
    rw [← hHc]
    clear hHc hraw
    subst hp
    clear MA MD hI hJ hK
    have hW0' : w.alloc (.cells #[.int .i64 0] 3) = Wc 0 s := by rw [hs]; exact hW0
    clear hW0
    go_enter Tryz.func62, Tryz.ntmps62
    go_wp2
    -- 'switch swaps'
    all_goals
      go_ret2
      refine ⟨?_, _, hG _ _⟩
      first
        | (have e0 : (s : Int) = 0 := GT (by assumption)
           rw [hh0 (by omega)]; rfl)
        | (have e1 : (s : Int) = 12 := GT (by assumption)
           rw [hh12 (by omega)]; rfl)
        | (have e0 : (s : Int) ≠ 0 := GU (by assumption)
           have e1 : (s : Int) ≠ 12 := GU (by assumption)
           rw [hhx (by omega) (by omega)]; rfl)
        | (rw [hh0 (by omega)]; rfl)
end Go.Proofs.YtkgikodiecmakaaGreatDoor
namespace Go.Proofs.YtkgikodiecmakaaGreatDoor
open Go.Sort Go.RowKit Go.Lib
open Go.RowKit Go.Sort
theorem DT {α : Type} [Inhabited α] (enc : α → Value) (w : World) (blk off : Nat) (dk : Array α) (n i j : Nat) (hi : i < dk.size) (hj : j < dk.size) :
    ((((putRow enc w blk off dk).drewN n).setCell ⟨blk, off + i, none⟩ (enc dk[j]!)).setCell ⟨blk, off + j, none⟩ (enc dk[i]!)).drew = (putRow enc w blk off (swp dk i j)).drewN (n + 1) := by
  rw [← putRow_swp enc w blk off dk i j hi hj]
  rfl
section
variable {α : Type} [Inhabited α]
theorem PO (p : α → Bool) (d : Array α) (j i : Nat) (h : i ≤ j) (hp : p d[i]! = true) : scanUp p d j i = scanUp p d j (i + 1) := by
  rw [scanUp, if_pos (by simp [h, hp])]
theorem GY (p : α → Bool) (d : Array α) (j i : Nat) (h : ¬ i ≤ j ∨ p d[i]! = false) : scanUp p d j i = i := by
  rw [scanUp, if_neg (by rcases h with h | h <;> simp [h])]
theorem LL (p : α → Bool) (d : Array α) (i j : Nat) (h : i ≤ j) (h0 : 0 < j) (hp : p d[j]! = true) : scanDown p d i j = scanDown p d i (j - 1) := by
  obtain ⟨k, rfl⟩ : ∃ k, j = k + 1 := ⟨j - 1, by omega⟩
  rw [scanDown, if_pos (by simp [h, hp])]
  rfl
theorem DE (p : α → Bool) (d : Array α) (i j : Nat) (h : ¬ i ≤ j ∨ p d[j]! = false) : scanDown p d i j = j := by
  cases j with
  | zero => rfl
  | succ k => rw [scanDown, if_neg (by rcases h with h | h <;> simp [h])]
variable (lt : α → α → Bool)
theorem NZ (a i j : Nat) (dk : Array α) {i2 j2 : Nat} (hi2 : i2 = scanUp (fun x => !lt dk[a]! x) dk j i) (hj2 : j2 = scanDown (fun x => lt dk[a]! x) dk i2 j) (h : j2 < i2) : partEqLoop lt a i j dk = (i2, dk) := by
  subst hi2; subst hj2
  rw [partEqLoop_eq, if_pos h]
theorem partEq_go (a i j : Nat) (dk : Array α) {i2 j2 : Nat} (hi2 : i2 = scanUp (fun x => !lt dk[a]! x) dk j i) (hj2 : j2 = scanDown (fun x => lt dk[a]! x) dk i2 j) (h : ¬ i2 > j2) : partEqLoop lt a i j dk = partEqLoop lt a (i2 + 1) (j2 - 1) (swp dk i2 j2) := by
  subst hi2; subst hj2
  rw [partEqLoop_eq, if_neg h]
theorem scans_lt (a i j : Nat) (dk : Array α) (h0 : 0 < i) {i2 j2 : Nat} (hi2 : i2 = scanUp (fun x => !lt dk[a]! x) dk j i) (hj2 : j2 = scanDown (fun x => lt dk[a]! x) dk i2 j) (h : i2 ≤ j2) : i2 < j2 := by
  subst hi2; subst hj2
  obtain ⟨u1, _, _, u4⟩ := scanUp_spec (fun x => !lt dk[a]! x) dk j _ i rfl
  obtain ⟨v1, _, _, v4⟩ := scanDown_spec (fun x => lt dk[a]! x) dk (scanUp (fun x => !lt dk[a]! x) dk j i) j
  rcases Nat.lt_or_ge (scanUp (fun x => !lt dk[a]! x) dk j i) (scanDown (fun x => lt dk[a]! x) dk (scanUp (fun x => !lt dk[a]! x) dk j i) j) with h' | h'
  · exact h'
  · have e : scanDown (fun x => lt dk[a]! x) dk (scanUp (fun x => !lt dk[a]! x) dk j i) j = scanUp (fun x => !lt dk[a]! x) dk j i := by omega
    have f1 := u4 (by omega)
    have f2 := v4 h (by omega)
    rw [e] at f2
    simp only [f2] at f1
    cases f1
end
theorem Su.partitionEqual_int (blk off cap a b pivot : Nat) (d : Array Int) (w : World) (hH : Holds AJ w blk off d) (hap : a ≤ pivot) (hpb : pivot < b) (hb : b ≤ d.size) (hsz : d.size < 4611686018427387904) :
    Calls Tryz.prog 66 #[.slice (some ⟨blk, off, none⟩) d.size cap, .int .i64 a, .int .i64 b, .int .i64 pivot] w fun e w' =>
      e = .returned (.int .i64 (Sort.partitionEqual Sort.ltInt d a b pivot).1) ∧ ∃ n, w' = (putRow AJ w blk off (Sort.partitionEqual Sort.ltInt d a b pivot).2).drewN n := by
  have hla : a < d.size := by omega
  have hlp : pivot < d.size := by omega
  -- THE ROW's CONTENTS UNDER A NAME OF THEIR OWN: with 'pivot < d.size' at hand the walk's simp turns 'd[pivot]!' into 'd[pivot]', and a fact spelt the other way no longer strikes
  obtain ⟨G, hG⟩ : ∃ G : Nat → Int, ∀ j, G j = d[j]! := ⟨fun j => d[j]!, fun _ => rfl⟩
  have ca : w.cell? ⟨blk, off + a, none⟩ = some (.int .u32 (G a)) := by rw [hG]; exact (hH a hla).1
  have fa := (hH a hla).2
  have cp : w.cell? ⟨blk, off + pivot, none⟩ = some (.int .u32 (G pivot)) := by rw [hG]; exact (hH pivot hlp).1
  have fp := (hH pivot hlp).2
  obtain ⟨v', hy'⟩ := cell?_setCell_some (w := w) (p := ⟨blk, off + a, none⟩) (x := .int .u32 (G pivot)) (q := ⟨blk, off + pivot, none⟩) cp
  have AG : Hid (∀ j, G j = d[j]!) := hG
  have AH : Hid (Holds AJ w blk off d) := hH
  clear hG hH
  go_enter Tryz.func66, Tryz.ntmps66
  go_wp2
  go_region
  go_wp2
  -- THE 'for {'
  go_loopw [9, 10] (fun vi vj wr => ∃ (i j n : Nat) (dk : Array Int), vi = .int .i64 i ∧ vj = .int .i64 j ∧ a < i ∧ i ≤ j + 1 ∧ j < b ∧ dk.size = d.size ∧ wr = (putRow AJ w blk off dk).drewN n ∧
      Sort.partEqLoop Sort.ltInt a i j dk = Sort.partEqLoop Sort.ltInt a (a + 1) (b - 1) (Sort.swp d a pivot))
    (fun vi vj _ => (intOf vj).toNat + 1 - (intOf vi).toNat)
  case atStart =>
    refine ⟨a + 1, b - 1, 1, Sort.swp d a pivot, by go_num, by go_num, by omega, by omega, by omega, size_swp _ _ _, ?_, rfl⟩
    have e := DT AJ w blk off d 0 a pivot hla hlp
    rw [putRow_self _ w blk off d AH.out] at e
    rw [AG.out a, AG.out pivot]
    exact e
  case round =>
    obtain ⟨i, j, n, dk, rfl, rfl, hai, hij, hjb, hs, hw, heq⟩ := hrel
    clear ca fa cp fp hy' v' AG
    rename World => W1
    have hHk : Holds AJ W1 blk off dk := by
      rw [hw]
      exact holds_putRow AJ w blk off d dk AH.out hs
    obtain ⟨Gk, hG⟩ : ∃ Gk : Nat → Int, ∀ t, Gk t = dk[t]! := ⟨fun t => dk[t]!, fun _ => rfl⟩
    have hc : ∀ t, t < d.size → W1.cell? ⟨blk, off + t, none⟩ = some (.int .u32 (Gk t)) := fun t ht => by rw [hG]; exact (hHk t (by omega)).1
    have hf : ∀ t, t < d.size → W1.frozen? ⟨blk, off + t, none⟩ = false := fun t ht => (hHk t (by omega)).2
    have AG : Hid (∀ t, Gk t = dk[t]!) := hG
    have AW : Hid (W1 = (putRow AJ w blk off dk).drewN n) := hw
    have AE : Hid (Sort.partEqLoop Sort.ltInt a i j dk = Sort.partEqLoop Sort.ltInt a (a + 1) (b - 1) (Sort.swp d a pivot)) := heq
    clear hG hw heq hHk
    go_wp2
    -- THE UPWARD SCAN
    go_loopw [9] (fun vi w1 => ∃ (i' n1 : Nat), vi = .int .i64 i' ∧ i ≤ i' ∧ i' ≤ j + 1 ∧ w1 = W1.drewN n1 ∧
        Hid (Sort.scanUp (fun x => !Sort.ltInt dk[a]! x) dk j i' = Sort.scanUp (fun x => !Sort.ltInt dk[a]! x) dk j i))
      (fun vi _ => j + 1 - (intOf vi).toNat)
    case atStart => exact ⟨i, 0, rfl, Nat.le_refl _, hij, rfl, rfl⟩
    case round =>
      obtain ⟨i', n1, rfl, hii, hij', hw1, hsc⟩ := hrel
      -- THE ROUND's WORLD STAYS A VARIABLE (as 'W1.drewN n1' the walk's simp would merge the draws, and the quiet law's end would not fit)
      have hcw : ∀ t, t < d.size → wr.cell? ⟨blk, off + t, none⟩ = some (.int .u32 (Gk t)) := fun t ht => by rw [hw1]; exact hc t ht
      have HW1 : Hid (wr = W1.drewN n1) := hw1
      clear hw1
      by_cases hle : i' ≤ j
      · go_wp2_with fail
        go_big_quiet (first | (go_at_call 65; refine Calls.quiet_of_same (Su.cmp_Less_int _ _ _)))
        go_wp2
        · -- it goes on: i++
          have ht : (!Sort.ltInt (Gk a) (Gk i')) = true := by assumption
          go_roundw
          case rel => exact ⟨i' + 1, n1 + nq, by go_num, by omega, by omega, by rw [HW1.out, World.drewN_drewN], (PO (fun x => !Sort.ltInt dk[a]! x) dk j i' hle (by rw [← AG.out a, ← AG.out i']; exact ht)).symm.trans hsc.out⟩
          case measure => simp [intOf]; omega
        · -- it stops: the test has failed
          have ht : (!Sort.ltInt (Gk a) (Gk i')) = false := by assumption
          have hi2 : Hid (i' = Sort.scanUp (fun x => !Sort.ltInt dk[a]! x) dk j i) := (GY (fun x => !Sort.ltInt dk[a]! x) dk j i' (Or.inr (by rw [← AG.out a, ← AG.out i']; exact ht))).symm.trans hsc.out
          clear ht
          -- THE DOWNWARD SCAN
          have hw2 : wr.drewN nq = W1.drewN (n1 + nq) := by rw [HW1.out, World.drewN_drewN]
          clear hcw HW1 hsc
          go_loopw [10] (fun vj w2 => ∃ (j' n2 : Nat), vj = .int .i64 j' ∧ j' ≤ j ∧ i' ≤ j' + 1 ∧ w2 = W1.drewN n2 ∧
              Hid (Sort.scanDown (fun x => Sort.ltInt dk[a]! x) dk i' j' = Sort.scanDown (fun x => Sort.ltInt dk[a]! x) dk i' j))
            (fun vj _ => (intOf vj).toNat)
          case atStart => exact ⟨j, n1 + nq, rfl, Nat.le_refl _, hij', hw2, rfl⟩
          case round =>
            clear hw2
            obtain ⟨j', n2, rfl, hjj, hij2, hw2, hsd⟩ := hrel
            have hcw : ∀ t, t < d.size → wr.cell? ⟨blk, off + t, none⟩ = some (.int .u32 (Gk t)) := fun t ht => by rw [hw2]; exact hc t ht
            have HW2 : Hid (wr = W1.drewN n2) := hw2
            clear hw2
            by_cases hle2 : i' ≤ j'
            · go_wp2_with fail
              go_big_quiet (first | (go_at_call 65; refine Calls.quiet_of_same (Su.cmp_Less_int _ _ _)))
              go_wp2
              · -- it goes on: j--
                have ht : Sort.ltInt (Gk a) (Gk j') = true := by assumption
                go_roundw
                case rel => exact ⟨j' - 1, n2 + nq, by go_num, by omega, by omega, by rw [HW2.out, World.drewN_drewN], (LL (fun x => Sort.ltInt dk[a]! x) dk i' j' hle2 (by omega) (by rw [← AG.out a, ← AG.out j']; exact ht)).symm.trans hsd.out⟩
                case measure => simp [intOf]; omega
              · -- it stops: the test has failed
                have ht : Sort.ltInt (Gk a) (Gk j') = false := by assumption
                have hj2 : Hid (j' = Sort.scanDown (fun x => Sort.ltInt dk[a]! x) dk i' j) := (DE (fun x => Sort.ltInt dk[a]! x) dk i' j' (Or.inr (by rw [← AG.out a, ← AG.out j']; exact ht))).symm.trans hsd.out
                clear hcw hsd ht
                -- BEHIND BOTH SCANS
                have hw3 : wr.drewN nq = W1.drewN (n2 + nq) := by rw [HW2.out, World.drewN_drewN]
                generalize wr.drewN nq = W3 at hw3 ⊢
                have hc3 : ∀ t, t < d.size → W3.cell? ⟨blk, off + t, none⟩ = some (.int .u32 (Gk t)) := fun t ht => by rw [hw3]; exact hc t ht
                have hf3 : ∀ t, t < d.size → W3.frozen? ⟨blk, off + t, none⟩ = false := fun t ht => by rw [hw3]; exact hf t ht
                have HW3 : Hid (W3 = W1.drewN (n2 + nq)) := hw3
                clear hw3
                -- the exchange; i++; j--
                obtain ⟨v3, hy3⟩ := cell?_setCell_some (w := W3) (p := ⟨blk, off + i', none⟩) (x := .int .u32 (Gk j')) (q := ⟨blk, off + j', none⟩) (hc3 j' (by omega))
                have hlt3 := scans_lt Sort.ltInt a i j dk (by omega) hi2.out hj2.out hle2
                go_wp2
                go_region
                all_goals go_wp2
                all_goals go_roundw
                case rel =>
                  refine ⟨i' + 1, j' - 1, n + (n2 + nq) + 1, Sort.swp dk i' j', by go_num, by go_num, by omega, by omega, by omega, by rw [size_swp]; exact hs, ?_, ?_⟩
                  · rw [HW3.out, AW.out, World.drewN_drewN, AG.out i', AG.out j']
                    exact DT AJ w blk off dk _ i' j' (by omega) (by omega)
                  · rw [← AE.out]; exact (partEq_go Sort.ltInt a i j dk hi2.out hj2.out (by omega)).symm
                case measure => simp [intOf]; omega
            · go_wp2_with fail
              go_big_quiet (first | (go_at_call 65; refine Calls.quiet_of_same (Su.cmp_Less_int _ _ _)))
              -- it stops: i > j
              have hj2 : Hid (j' = Sort.scanDown (fun x => Sort.ltInt dk[a]! x) dk i' j) := (DE (fun x => Sort.ltInt dk[a]! x) dk i' j' (Or.inl hle2)).symm.trans hsd.out
              clear hcw hsd
              -- BEHIND BOTH SCANS
              have hw3 : wr.drewN nq = W1.drewN (n2 + nq) := by rw [HW2.out, World.drewN_drewN]
              generalize wr.drewN nq = W3 at hw3 ⊢
              have hc3 : ∀ t, t < d.size → W3.cell? ⟨blk, off + t, none⟩ = some (.int .u32 (Gk t)) := fun t ht => by rw [hw3]; exact hc t ht
              have hf3 : ∀ t, t < d.size → W3.frozen? ⟨blk, off + t, none⟩ = false := fun t ht => by rw [hw3]; exact hf t ht
              have HW3 : Hid (W3 = W1.drewN (n2 + nq)) := hw3
              clear hw3
              -- i > j: break; return i
              go_wp2
              go_ret
              have e := NZ Sort.ltInt a i j dk hi2.out hj2.out (by omega)
              refine ⟨?_, n + (n2 + nq), ?_⟩
              · unfold Sort.partitionEqual; rw [← AE.out, e]; rfl
              · unfold Sort.partitionEqual; rw [← AE.out, e, HW3.out, AW.out, World.drewN_drewN]
      · go_wp2_with fail
        go_big_quiet (first | (go_at_call 65; refine Calls.quiet_of_same (Su.cmp_Less_int _ _ _)))
        go_wp2
        -- it stops: i > j
        have hi2 : Hid (i' = Sort.scanUp (fun x => !Sort.ltInt dk[a]! x) dk j i) := (GY (fun x => !Sort.ltInt dk[a]! x) dk j i' (Or.inl hle)).symm.trans hsc.out
        -- THE DOWNWARD SCAN
        have hw2 : wr.drewN nq = W1.drewN (n1 + nq) := by rw [HW1.out, World.drewN_drewN]
        clear hcw HW1 hsc
        go_loopw [10] (fun vj w2 => ∃ (j' n2 : Nat), vj = .int .i64 j' ∧ j' ≤ j ∧ i' ≤ j' + 1 ∧ w2 = W1.drewN n2 ∧
            Hid (Sort.scanDown (fun x => Sort.ltInt dk[a]! x) dk i' j' = Sort.scanDown (fun x => Sort.ltInt dk[a]! x) dk i' j))
          (fun vj _ => (intOf vj).toNat)
        case atStart => exact ⟨j, n1 + nq, rfl, Nat.le_refl _, hij', hw2, rfl⟩
        case round =>
          clear hw2
          obtain ⟨j', n2, rfl, hjj, hij2, hw2, hsd⟩ := hrel
          have hcw : ∀ t, t < d.size → wr.cell? ⟨blk, off + t, none⟩ = some (.int .u32 (Gk t)) := fun t ht => by rw [hw2]; exact hc t ht
          have HW2 : Hid (wr = W1.drewN n2) := hw2
          clear hw2
          by_cases hle2 : i' ≤ j'
          · exfalso; omega      -- the upward scan has run past j, and j' ≤ j
          · go_wp2_with fail
            go_big_quiet (first | (go_at_call 65; refine Calls.quiet_of_same (Su.cmp_Less_int _ _ _)))
            -- it stops: i > j
            have hj2 : Hid (j' = Sort.scanDown (fun x => Sort.ltInt dk[a]! x) dk i' j) := (DE (fun x => Sort.ltInt dk[a]! x) dk i' j' (Or.inl hle2)).symm.trans hsd.out
            clear hcw hsd
            -- BEHIND BOTH SCANS
            have hw3 : wr.drewN nq = W1.drewN (n2 + nq) := by rw [HW2.out, World.drewN_drewN]
            generalize wr.drewN nq = W3 at hw3 ⊢
            have hc3 : ∀ t, t < d.size → W3.cell? ⟨blk, off + t, none⟩ = some (.int .u32 (Gk t)) := fun t ht => by rw [hw3]; exact hc t ht
            have hf3 : ∀ t, t < d.size → W3.frozen? ⟨blk, off + t, none⟩ = false := fun t ht => by rw [hw3]; exact hf t ht
            have HW3 : Hid (W3 = W1.drewN (n2 + nq)) := hw3
            clear hw3
            -- i > j: break; return i
            go_wp2
            go_ret
            have e := NZ Sort.ltInt a i j dk hi2.out hj2.out (by omega)
            refine ⟨?_, n + (n2 + nq), ?_⟩
            · unfold Sort.partitionEqual; rw [← AE.out, e]; rfl
            · unfold Sort.partitionEqual; rw [← AE.out, e, HW3.out, AW.out, World.drewN_drewN]
theorem Su.partitionEqualOrdered_int (blk off cap a b pivot : Nat) (d : Array Int) (w : World) (hH : Holds AJ w blk off d) (hap : a ≤ pivot) (hpb : pivot < b) (hb : b ≤ d.size) (hsz : d.size < 4611686018427387904) :
    Calls Tryz.prog 66 #[.slice (some ⟨blk, off, none⟩) d.size cap, .int .i64 a, .int .i64 b, .int .i64 pivot] w fun e w' =>
      e = .returned (.int .i64 (Sort.partitionEqual Sort.ltInt d a b pivot).1) ∧ ∃ n, w' = putRow AJ (Sort.ahead w n) blk off (Sort.partitionEqual Sort.ltInt d a b pivot).2 :=
  (Su.partitionEqual_int blk off cap a b pivot d w hH hap hpb hb hsz).mono fun _ _ ⟨he, n, hw⟩ => ⟨he, n, hw⟩
end Go.Proofs.YtkgikodiecmakaaGreatDoor
namespace Go.Proofs.YtkgikodiecmakaaGreatDoor
open Go.Sort Go.RowKit Go.Lib
open Go.RowKit Go.Sort
theorem Hid.mk' {p : Prop} (h : p) : Hid p := h
section
variable {α : Type} [Inhabited α] (lt : α → α → Bool)
theorem TD (a i j : Nat) (dk : Array α) {i2 j2 : Nat} (hi2 : i2 = scanUp (fun x => lt x dk[a]!) dk j i) (hj2 : j2 = scanDown (fun x => !lt x dk[a]!) dk i2 j) (h : j2 < i2) : partLoop lt a i j dk = (j2, dk) := by
  subst hi2; subst hj2
  rw [partLoop_eq, if_pos h]
theorem part_go (a i j : Nat) (dk : Array α) {i2 j2 : Nat} (hi2 : i2 = scanUp (fun x => lt x dk[a]!) dk j i) (hj2 : j2 = scanDown (fun x => !lt x dk[a]!) dk i2 j) (h : ¬ i2 > j2) : partLoop lt a i j dk = partLoop lt a (i2 + 1) (j2 - 1) (swp dk i2 j2) := by
  subst hi2; subst hj2
  rw [partLoop_eq, if_neg h]
theorem LY (a i j : Nat) (dk : Array α) (h0 : 0 < i) {i2 j2 : Nat} (hi2 : i2 = scanUp (fun x => lt x dk[a]!) dk j i) (hj2 : j2 = scanDown (fun x => !lt x dk[a]!) dk i2 j) (h : i2 ≤ j2) : i2 < j2 := by
  subst hi2; subst hj2
  obtain ⟨u1, _, _, u4⟩ := scanUp_spec (fun x => lt x dk[a]!) dk j _ i rfl
  obtain ⟨v1, _, _, v4⟩ := scanDown_spec (fun x => !lt x dk[a]!) dk (scanUp (fun x => lt x dk[a]!) dk j i) j
  rcases Nat.lt_or_ge (scanUp (fun x => lt x dk[a]!) dk j i) (scanDown (fun x => !lt x dk[a]!) dk (scanUp (fun x => lt x dk[a]!) dk j i) j) with h' | h'
  · exact h'
  · have e : scanDown (fun x => !lt x dk[a]!) dk (scanUp (fun x => lt x dk[a]!) dk j i) j = scanUp (fun x => lt x dk[a]!) dk j i := by omega
    have f1 := u4 (by omega)
    have f2 := v4 h (by omega)
    rw [e] at f2
    simp only [f1] at f2
    cases f2
theorem JW (d : Array α) (a b pivot : Nat) {i j : Nat} {dk : Array α} {i2 j2 : Nat} (hi : i = a + 1) (hj : j = b - 1) (hdk : dk = swp d a pivot) (hi2 : i2 = scanUp (fun x => lt x dk[a]!) dk j i) (hj2 : j2 = scanDown (fun x => !lt x dk[a]!) dk i2 j) (h : j2 < i2) :
    partition lt d a b pivot = (j2, true, swp dk j2 a) := by
  subst hi; subst hj; subst hdk; subst hi2; subst hj2
  unfold partition
  simp only []
  rw [if_pos h]
theorem UU (d : Array α) (a b pivot : Nat) {i j : Nat} {dk : Array α} {i2 j2 : Nat} (hi : i = a + 1) (hj : j = b - 1) (hdk : dk = swp d a pivot) (hi2 : i2 = scanUp (fun x => lt x dk[a]!) dk j i) (hj2 : j2 = scanDown (fun x => !lt x dk[a]!) dk i2 j) (h : ¬ i2 > j2) :
    partition lt d a b pivot = ((partLoop lt a (i2 + 1) (j2 - 1) (swp dk i2 j2)).1, false, swp (partLoop lt a (i2 + 1) (j2 - 1) (swp dk i2 j2)).2 (partLoop lt a (i2 + 1) (j2 - 1) (swp dk i2 j2)).1 a) := by
  subst hi; subst hj; subst hdk; subst hi2; subst hj2
  unfold partition
  simp only []
  rw [if_neg h]
end
theorem Su.partition_int (blk off cap a b pivot : Nat) (d : Array Int) (w : World) (hH : Holds AJ w blk off d) (hap : a ≤ pivot) (hpb : pivot < b) (hb : b ≤ d.size) (hsz : d.size < 4611686018427387904) :
    Calls Tryz.prog 67 #[.slice (some ⟨blk, off, none⟩) d.size cap, .int .i64 a, .int .i64 b, .int .i64 pivot] w fun e w' =>
      e = .returned (.tuple #[.int .i64 (Sort.partition Sort.ltInt d a b pivot).1, .bool (Sort.partition Sort.ltInt d a b pivot).2.1]) ∧ ∃ n, w' = (putRow AJ w blk off (Sort.partition Sort.ltInt d a b pivot).2.2).drewN n := by
  have hla : a < d.size := by omega
  have hlp : pivot < d.size := by omega
  obtain ⟨G, hG⟩ : ∃ G : Nat → Int, ∀ j, G j = d[j]! := ⟨fun j => d[j]!, fun _ => rfl⟩
  have ca : w.cell? ⟨blk, off + a, none⟩ = some (.int .u32 (G a)) := by rw [hG]; exact (hH a hla).1
  have fa := (hH a hla).2
  have cp : w.cell? ⟨blk, off + pivot, none⟩ = some (.int .u32 (G pivot)) := by rw [hG]; exact (hH pivot hlp).1
  have fp := (hH pivot hlp).2
  obtain ⟨v', hy'⟩ := cell?_setCell_some (w := w) (p := ⟨blk, off + a, none⟩) (x := .int .u32 (G pivot)) (q := ⟨blk, off + pivot, none⟩) cp
  have hw : ((w.setCell ⟨blk, off + a, none⟩ (.int .u32 (G pivot))).setCell ⟨blk, off + pivot, none⟩ (.int .u32 (G a))).drew = (putRow AJ w blk off (Sort.swp d a pivot)).drewN 1 := by
    have e := DT AJ w blk off d 0 a pivot hla hlp
    rw [putRow_self _ w blk off d hH] at e
    rw [hG a, hG pivot]
    exact e
  have AH : Hid (Holds AJ w blk off d) := hH
  have HW0 := Hid.mk' hw
  clear hG hH hw
  go_enter Tryz.func67, Tryz.ntmps67
  go_wp2
  go_region
  go_wp2
  -- THE FIRST ROUND's STATE UNDER THE NAMES THAT EVERY ROUND USES
  clear ca fa cp fp hy' v'
  have hw := HW0.out
  clear HW0
  generalize ((w.setCell ⟨blk, off + a, none⟩ (.int .u32 (G pivot))).setCell ⟨blk, off + pivot, none⟩ (.int .u32 (G a))).drew = W1 at hw ⊢
  obtain ⟨dk, hdk⟩ : ∃ dk, dk = Sort.swp d a pivot := ⟨_, rfl⟩
  obtain ⟨n, hn⟩ : ∃ n : Nat, n = 1 := ⟨_, rfl⟩
  rw [← hdk, ← hn] at hw
  clear hn
  have hs : dk.size = d.size := by rw [hdk, size_swp]
  have e1 : ((a : Int) + 1) = ((a + 1 : Nat) : Int) := by omega
  have e2 : ((b : Int) - 1) = ((b - 1 : Nat) : Int) := by omega
  rw [e1, e2]
  clear e1 e2
  obtain ⟨i, hi⟩ : ∃ i, i = a + 1 := ⟨_, rfl⟩
  obtain ⟨j, hj⟩ : ∃ j, j = b - 1 := ⟨_, rfl⟩
  rw [← hi, ← hj]
  have hai : a < i := by omega
  have hij : i ≤ j + 1 := by omega
  have hjb : j < b := by omega
  -- (the walk takes every hypothesis for a rule: 'j = b - 1' would write j out again, and the test's guard 'i' ≤ j' would not be known)
  have HI := Hid.mk' hi
  have HJ := Hid.mk' hj
  have HDK := Hid.mk' hdk
  clear hi hj hdk
  have hHk : Holds AJ W1 blk off dk := by
    rw [hw]
    exact holds_putRow AJ w blk off d dk AH.out hs
  obtain ⟨Gk, hG⟩ : ∃ Gk : Nat → Int, ∀ t, Gk t = dk[t]! := ⟨fun t => dk[t]!, fun _ => rfl⟩
  have hc : ∀ t, t < d.size → W1.cell? ⟨blk, off + t, none⟩ = some (.int .u32 (Gk t)) := fun t ht => by rw [hG]; exact (hHk t (by omega)).1
  have hf : ∀ t, t < d.size → W1.frozen? ⟨blk, off + t, none⟩ = false := fun t ht => (hHk t (by omega)).2
  have AG : Hid (∀ t, Gk t = dk[t]!) := hG
  have AW : Hid (W1 = (putRow AJ w blk off dk).drewN n) := hw
  clear hG hw hHk
  -- THE UPWARD SCAN
  go_loopw [10] (fun vi w1 => ∃ (i' n1 : Nat), vi = .int .i64 i' ∧ i ≤ i' ∧ i' ≤ j + 1 ∧ w1 = W1.drewN n1 ∧
      Hid (Sort.scanUp (fun x => Sort.ltInt x dk[a]!) dk j i' = Sort.scanUp (fun x => Sort.ltInt x dk[a]!) dk j i))
    (fun vi _ => j + 1 - (intOf vi).toNat)
  case atStart => exact ⟨i, 0, rfl, Nat.le_refl _, hij, rfl, rfl⟩
  case round =>
    obtain ⟨i', n1, rfl, hii, hij', hw1, hsc⟩ := hrel
    have hcw : ∀ t, t < d.size → wr.cell? ⟨blk, off + t, none⟩ = some (.int .u32 (Gk t)) := fun t ht => by rw [hw1]; exact hc t ht
    have HW1 : Hid (wr = W1.drewN n1) := hw1
    clear hw1
    by_cases hle : i' ≤ j
    · go_wp2_with fail
      go_big_quiet (first | (go_at_call 65; refine Calls.quiet_of_same (Su.cmp_Less_int _ _ _)))
      go_wp2
      · -- it goes on: i++
        have ht : Sort.ltInt (Gk i') (Gk a) = true := by assumption
        go_roundw
        case rel => exact ⟨i' + 1, n1 + nq, by go_num, by omega, by omega, by rw [HW1.out, World.drewN_drewN], (PO (fun x => Sort.ltInt x dk[a]!) dk j i' hle (by rw [← AG.out a, ← AG.out i']; exact ht)).symm.trans hsc.out⟩
        case measure => simp [intOf]; omega
      · -- it stops: the test has failed
        have ht : Sort.ltInt (Gk i') (Gk a) = false := by assumption
        have hi2 : Hid (i' = Sort.scanUp (fun x => Sort.ltInt x dk[a]!) dk j i) := (GY (fun x => Sort.ltInt x dk[a]!) dk j i' (Or.inr (by rw [← AG.out a, ← AG.out i']; exact ht))).symm.trans hsc.out
        clear ht
        -- THE DOWNWARD SCAN
        have hw2 : wr.drewN nq = W1.drewN (n1 + nq) := by rw [HW1.out, World.drewN_drewN]
        clear hcw HW1 hsc
        go_loopw [11] (fun vj w2 => ∃ (j' n2 : Nat), vj = .int .i64 j' ∧ j' ≤ j ∧ i' ≤ j' + 1 ∧ w2 = W1.drewN n2 ∧
            Hid (Sort.scanDown (fun x => !Sort.ltInt x dk[a]!) dk i' j' = Sort.scanDown (fun x => !Sort.ltInt x dk[a]!) dk i' j))
          (fun vj _ => (intOf vj).toNat)
        case atStart => exact ⟨j, n1 + nq, rfl, Nat.le_refl _, hij', hw2, rfl⟩
        case round =>
          clear hw2
          obtain ⟨j', n2, rfl, hjj, hij2, hw2, hsd⟩ := hrel
          have hcw : ∀ t, t < d.size → wr.cell? ⟨blk, off + t, none⟩ = some (.int .u32 (Gk t)) := fun t ht => by rw [hw2]; exact hc t ht
          have HW2 : Hid (wr = W1.drewN n2) := hw2
          clear hw2
          by_cases hle2 : i' ≤ j'
          · go_wp2_with fail
            go_big_quiet (first | (go_at_call 65; refine Calls.quiet_of_same (Su.cmp_Less_int _ _ _)))
            go_wp2
            · -- it goes on: j--
              have ht : (!Sort.ltInt (Gk j') (Gk a)) = true := by assumption
              go_roundw
              case rel => exact ⟨j' - 1, n2 + nq, by go_num, by omega, by omega, by rw [HW2.out, World.drewN_drewN], (LL (fun x => !Sort.ltInt x dk[a]!) dk i' j' hle2 (by omega) (by rw [← AG.out a, ← AG.out j']; exact ht)).symm.trans hsd.out⟩
              case measure => simp [intOf]; omega
            · -- it stops: the test has failed
              have ht : (!Sort.ltInt (Gk j') (Gk a)) = false := by assumption
              have hj2 : Hid (j' = Sort.scanDown (fun x => !Sort.ltInt x dk[a]!) dk i' j) := (DE (fun x => !Sort.ltInt x dk[a]!) dk i' j' (Or.inr (by rw [← AG.out a, ← AG.out j']; exact ht))).symm.trans hsd.out
              clear hcw hsd ht
              -- BEHIND BOTH SCANS
              have hw3 : wr.drewN nq = W1.drewN (n2 + nq) := by rw [HW2.out, World.drewN_drewN]
              generalize wr.drewN nq = W3 at hw3 ⊢
              have hc3 : ∀ t, t < d.size → W3.cell? ⟨blk, off + t, none⟩ = some (.int .u32 (Gk t)) := fun t ht => by rw [hw3]; exact hc t ht
              have hf3 : ∀ t, t < d.size → W3.frozen? ⟨blk, off + t, none⟩ = false := fun t ht => by rw [hw3]; exact hf t ht
              have HW3 : Hid (W3 = W1.drewN (n2 + nq)) := hw3
              clear hw3
              -- the exchange; i++; j--
              obtain ⟨v3, hy3⟩ := cell?_setCell_some (w := W3) (p := ⟨blk, off + i', none⟩) (x := .int .u32 (Gk j')) (q := ⟨blk, off + j', none⟩) (hc3 j' (by omega))
              have hlt3 := LY Sort.ltInt a i j dk (by omega) hi2.out hj2.out hle2
              go_wp2
              go_region
              all_goals go_wp2
              -- THE 'for {'
              obtain ⟨R, hR⟩ : ∃ R, R = Sort.partLoop Sort.ltInt a (i' + 1) (j' - 1) (Sort.swp dk i' j') := ⟨_, rfl⟩
              have HP : Hid (Sort.partition Sort.ltInt d a b pivot = (R.1, false, Sort.swp R.2 R.1 a)) := by rw [hR]; exact UU Sort.ltInt d a b pivot HI.out HJ.out HDK.out hi2.out hj2.out (by omega)
              have hw0 : ((W3.setCell ⟨blk, off + i', none⟩ (.int .u32 (Gk j'))).setCell ⟨blk, off + j', none⟩ (.int .u32 (Gk i'))).drew = (putRow AJ w blk off (Sort.swp dk i' j')).drewN (n + (n2 + nq) + 1) := by
                rw [HW3.out, AW.out, World.drewN_drewN, AG.out i', AG.out j']
                exact DT AJ w blk off dk _ i' j' (by omega) (by omega)
              have HR : Hid (R = Sort.partLoop Sort.ltInt a (i' + 1) (j' - 1) (Sort.swp dk i' j')) := hR
              clear hR hc hf hc3 hf3 hy3 HW3 AW AG hi2 hj2
              go_loopw [10, 11] (fun vi vj wr => ∃ (i j n : Nat) (dk : Array Int), vi = .int .i64 i ∧ vj = .int .i64 j ∧ a < i ∧ i ≤ j + 1 ∧ j < b ∧ dk.size = d.size ∧ wr = (putRow AJ w blk off dk).drewN n ∧
                  Sort.partLoop Sort.ltInt a i j dk = R)
                (fun vi vj _ => (intOf vj).toNat + 1 - (intOf vi).toNat)
              case atStart => exact ⟨i' + 1, j' - 1, _, Sort.swp dk i' j', by go_num, by go_num, by omega, by omega, by omega, by rw [size_swp]; exact hs, hw0, HR.out.symm⟩
              case round =>
                clear hw0 HR
                obtain ⟨i, j, n, dk, rfl, rfl, hai, hij, hjb, hs, hw, heq⟩ := hrel
                rename World => W1
                have AE : Hid (Sort.partLoop Sort.ltInt a i j dk = R) := heq
                clear heq
                have hHk : Holds AJ W1 blk off dk := by
                  rw [hw]
                  exact holds_putRow AJ w blk off d dk AH.out hs
                obtain ⟨Gk, hG⟩ : ∃ Gk : Nat → Int, ∀ t, Gk t = dk[t]! := ⟨fun t => dk[t]!, fun _ => rfl⟩
                have hc : ∀ t, t < d.size → W1.cell? ⟨blk, off + t, none⟩ = some (.int .u32 (Gk t)) := fun t ht => by rw [hG]; exact (hHk t (by omega)).1
                have hf : ∀ t, t < d.size → W1.frozen? ⟨blk, off + t, none⟩ = false := fun t ht => (hHk t (by omega)).2
                have AG : Hid (∀ t, Gk t = dk[t]!) := hG
                have AW : Hid (W1 = (putRow AJ w blk off dk).drewN n) := hw
                clear hG hw hHk
                go_wp2
                -- THE UPWARD SCAN
                go_loopw [10] (fun vi w1 => ∃ (i' n1 : Nat), vi = .int .i64 i' ∧ i ≤ i' ∧ i' ≤ j + 1 ∧ w1 = W1.drewN n1 ∧
                    Hid (Sort.scanUp (fun x => Sort.ltInt x dk[a]!) dk j i' = Sort.scanUp (fun x => Sort.ltInt x dk[a]!) dk j i))
                  (fun vi _ => j + 1 - (intOf vi).toNat)
                case atStart => exact ⟨i, 0, rfl, Nat.le_refl _, hij, rfl, rfl⟩
                case round =>
                  obtain ⟨i', n1, rfl, hii, hij', hw1, hsc⟩ := hrel
                  have hcw : ∀ t, t < d.size → wr.cell? ⟨blk, off + t, none⟩ = some (.int .u32 (Gk t)) := fun t ht => by rw [hw1]; exact hc t ht
                  have HW1 : Hid (wr = W1.drewN n1) := hw1
                  clear hw1
                  by_cases hle : i' ≤ j
                  · go_wp2_with fail
                    go_big_quiet (first | (go_at_call 65; refine Calls.quiet_of_same (Su.cmp_Less_int _ _ _)))
                    go_wp2
                    · -- it goes on: i++
                      have ht : Sort.ltInt (Gk i') (Gk a) = true := by assumption
                      go_roundw
                      case rel => exact ⟨i' + 1, n1 + nq, by go_num, by omega, by omega, by rw [HW1.out, World.drewN_drewN], (PO (fun x => Sort.ltInt x dk[a]!) dk j i' hle (by rw [← AG.out a, ← AG.out i']; exact ht)).symm.trans hsc.out⟩
                      case measure => simp [intOf]; omega
                    · -- it stops: the test has failed
                      have ht : Sort.ltInt (Gk i') (Gk a) = false := by assumption
                      have hi2 : Hid (i' = Sort.scanUp (fun x => Sort.ltInt x dk[a]!) dk j i) := (GY (fun x => Sort.ltInt x dk[a]!) dk j i' (Or.inr (by rw [← AG.out a, ← AG.out i']; exact ht))).symm.trans hsc.out
                      clear ht
                      -- THE DOWNWARD SCAN
                      have hw2 : wr.drewN nq = W1.drewN (n1 + nq) := by rw [HW1.out, World.drewN_drewN]
                      clear hcw HW1 hsc
                      go_loopw [11] (fun vj w2 => ∃ (j' n2 : Nat), vj = .int .i64 j' ∧ j' ≤ j ∧ i' ≤ j' + 1 ∧ w2 = W1.drewN n2 ∧
                          Hid (Sort.scanDown (fun x => !Sort.ltInt x dk[a]!) dk i' j' = Sort.scanDown (fun x => !Sort.ltInt x dk[a]!) dk i' j))
                        (fun vj _ => (intOf vj).toNat)
                      case atStart => exact ⟨j, n1 + nq, rfl, Nat.le_refl _, hij', hw2, rfl⟩
                      case round =>
                        clear hw2
                        obtain ⟨j', n2, rfl, hjj, hij2, hw2, hsd⟩ := hrel
                        have hcw : ∀ t, t < d.size → wr.cell? ⟨blk, off + t, none⟩ = some (.int .u32 (Gk t)) := fun t ht => by rw [hw2]; exact hc t ht
                        have HW2 : Hid (wr = W1.drewN n2) := hw2
                        clear hw2
                        by_cases hle2 : i' ≤ j'
                        · go_wp2_with fail
                          go_big_quiet (first | (go_at_call 65; refine Calls.quiet_of_same (Su.cmp_Less_int _ _ _)))
                          go_wp2
                          · -- it goes on: j--
                            have ht : (!Sort.ltInt (Gk j') (Gk a)) = true := by assumption
                            go_roundw
                            case rel => exact ⟨j' - 1, n2 + nq, by go_num, by omega, by omega, by rw [HW2.out, World.drewN_drewN], (LL (fun x => !Sort.ltInt x dk[a]!) dk i' j' hle2 (by omega) (by rw [← AG.out a, ← AG.out j']; exact ht)).symm.trans hsd.out⟩
                            case measure => simp [intOf]; omega
                          · -- it stops: the test has failed
                            have ht : (!Sort.ltInt (Gk j') (Gk a)) = false := by assumption
                            have hj2 : Hid (j' = Sort.scanDown (fun x => !Sort.ltInt x dk[a]!) dk i' j) := (DE (fun x => !Sort.ltInt x dk[a]!) dk i' j' (Or.inr (by rw [← AG.out a, ← AG.out j']; exact ht))).symm.trans hsd.out
                            clear hcw hsd ht
                            -- BEHIND BOTH SCANS
                            have hw3 : wr.drewN nq = W1.drewN (n2 + nq) := by rw [HW2.out, World.drewN_drewN]
                            generalize wr.drewN nq = W3 at hw3 ⊢
                            have hc3 : ∀ t, t < d.size → W3.cell? ⟨blk, off + t, none⟩ = some (.int .u32 (Gk t)) := fun t ht => by rw [hw3]; exact hc t ht
                            have hf3 : ∀ t, t < d.size → W3.frozen? ⟨blk, off + t, none⟩ = false := fun t ht => by rw [hw3]; exact hf t ht
                            have HW3 : Hid (W3 = W1.drewN (n2 + nq)) := hw3
                            clear hw3
                            -- the exchange; i++; j--
                            obtain ⟨v3, hy3⟩ := cell?_setCell_some (w := W3) (p := ⟨blk, off + i', none⟩) (x := .int .u32 (Gk j')) (q := ⟨blk, off + j', none⟩) (hc3 j' (by omega))
                            have hlt3 := LY Sort.ltInt a i j dk (by omega) hi2.out hj2.out hle2
                            go_wp2
                            go_region
                            all_goals go_wp2
                            all_goals go_roundw
                            case rel =>
                              refine ⟨i' + 1, j' - 1, n + (n2 + nq) + 1, Sort.swp dk i' j', by go_num, by go_num, by omega, by omega, by omega, by rw [size_swp]; exact hs, ?_, ?_⟩
                              · rw [HW3.out, AW.out, World.drewN_drewN, AG.out i', AG.out j']
                                exact DT AJ w blk off dk _ i' j' (by omega) (by omega)
                              · exact (part_go Sort.ltInt a i j dk hi2.out hj2.out (by omega)).symm.trans AE.out
                            case measure => simp [intOf]; omega
                        · go_wp2_with fail
                          go_big_quiet (first | (go_at_call 65; refine Calls.quiet_of_same (Su.cmp_Less_int _ _ _)))
                          -- it stops: i > j
                          have hj2 : Hid (j' = Sort.scanDown (fun x => !Sort.ltInt x dk[a]!) dk i' j) := (DE (fun x => !Sort.ltInt x dk[a]!) dk i' j' (Or.inl hle2)).symm.trans hsd.out
                          clear hcw hsd
                          -- BEHIND BOTH SCANS
                          have hw3 : wr.drewN nq = W1.drewN (n2 + nq) := by rw [HW2.out, World.drewN_drewN]
                          generalize wr.drewN nq = W3 at hw3 ⊢
                          have hc3 : ∀ t, t < d.size → W3.cell? ⟨blk, off + t, none⟩ = some (.int .u32 (Gk t)) := fun t ht => by rw [hw3]; exact hc t ht
                          have hf3 : ∀ t, t < d.size → W3.frozen? ⟨blk, off + t, none⟩ = false := fun t ht => by rw [hw3]; exact hf t ht
                          have HW3 : Hid (W3 = W1.drewN (n2 + nq)) := hw3
                          clear hw3
                          -- i > j: 'data[j], data[a] = data[a], data[j]'; return j
                          obtain ⟨v3, hy3⟩ := cell?_setCell_some (w := W3) (p := ⟨blk, off + j', none⟩) (x := .int .u32 (Gk a)) (q := ⟨blk, off + a, none⟩) (hc3 a (by omega))
                          have hlj : j' < d.size := by omega
                          go_wp2
                          go_region
                          all_goals go_wp2
                          all_goals go_ret2
                          have e : Sort.partition Sort.ltInt d a b pivot = (j', false, Sort.swp dk j' a) := by
                            have e0 := (TD Sort.ltInt a i j dk hi2.out hj2.out (by omega)).symm.trans AE.out
                            rw [HP.out, ← e0]
                          refine ⟨?_, n + (n2 + nq) + 1, ?_⟩
                          · rw [e]; rfl
                          · rw [e, HW3.out, AW.out, World.drewN_drewN, AG.out a, AG.out j']
                            exact DT AJ w blk off dk _ j' a (by omega) (by omega)
                  · go_wp2_with fail
                    go_big_quiet (first | (go_at_call 65; refine Calls.quiet_of_same (Su.cmp_Less_int _ _ _)))
                    go_wp2
                    -- it stops: i > j
                    have hi2 : Hid (i' = Sort.scanUp (fun x => Sort.ltInt x dk[a]!) dk j i) := (GY (fun x => Sort.ltInt x dk[a]!) dk j i' (Or.inl hle)).symm.trans hsc.out
                    -- THE DOWNWARD SCAN
                    have hw2 : wr.drewN nq = W1.drewN (n1 + nq) := by rw [HW1.out, World.drewN_drewN]
                    clear hcw HW1 hsc
                    go_loopw [11] (fun vj w2 => ∃ (j' n2 : Nat), vj = .int .i64 j' ∧ j' ≤ j ∧ i' ≤ j' + 1 ∧ w2 = W1.drewN n2 ∧
                        Hid (Sort.scanDown (fun x => !Sort.ltInt x dk[a]!) dk i' j' = Sort.scanDown (fun x => !Sort.ltInt x dk[a]!) dk i' j))
                      (fun vj _ => (intOf vj).toNat)
                    case atStart => exact ⟨j, n1 + nq, rfl, Nat.le_refl _, hij', hw2, rfl⟩
                    case round =>
                      clear hw2
                      obtain ⟨j', n2, rfl, hjj, hij2, hw2, hsd⟩ := hrel
                      have hcw : ∀ t, t < d.size → wr.cell? ⟨blk, off + t, none⟩ = some (.int .u32 (Gk t)) := fun t ht => by rw [hw2]; exact hc t ht
                      have HW2 : Hid (wr = W1.drewN n2) := hw2
                      clear hw2
                      by_cases hle2 : i' ≤ j'
                      · exfalso; omega      -- the upward scan has run past j, and j' ≤ j
                      · go_wp2_with fail
                        go_big_quiet (first | (go_at_call 65; refine Calls.quiet_of_same (Su.cmp_Less_int _ _ _)))
                        -- it stops: i > j
                        have hj2 : Hid (j' = Sort.scanDown (fun x => !Sort.ltInt x dk[a]!) dk i' j) := (DE (fun x => !Sort.ltInt x dk[a]!) dk i' j' (Or.inl hle2)).symm.trans hsd.out
                        clear hcw hsd
                        -- BEHIND BOTH SCANS
                        have hw3 : wr.drewN nq = W1.drewN (n2 + nq) := by rw [HW2.out, World.drewN_drewN]
                        generalize wr.drewN nq = W3 at hw3 ⊢
                        have hc3 : ∀ t, t < d.size → W3.cell? ⟨blk, off + t, none⟩ = some (.int .u32 (Gk t)) := fun t ht => by rw [hw3]; exact hc t ht
                        have hf3 : ∀ t, t < d.size → W3.frozen? ⟨blk, off + t, none⟩ = false := fun t ht => by rw [hw3]; exact hf t ht
                        have HW3 : Hid (W3 = W1.drewN (n2 + nq)) := hw3
                        clear hw3
                        -- i > j: 'data[j], data[a] = data[a], data[j]'; return j
                        obtain ⟨v3, hy3⟩ := cell?_setCell_some (w := W3) (p := ⟨blk, off + j', none⟩) (x := .int .u32 (Gk a)) (q := ⟨blk, off + a, none⟩) (hc3 a (by omega))
                        have hlj : j' < d.size := by omega
                        go_wp2
                        go_region
                        all_goals go_wp2
                        all_goals go_ret2
                        have e : Sort.partition Sort.ltInt d a b pivot = (j', false, Sort.swp dk j' a) := by
                          have e0 := (TD Sort.ltInt a i j dk hi2.out hj2.out (by omega)).symm.trans AE.out
                          rw [HP.out, ← e0]
                        refine ⟨?_, n + (n2 + nq) + 1, ?_⟩
                        · rw [e]; rfl
                        · rw [e, HW3.out, AW.out, World.drewN_drewN, AG.out a, AG.out j']
                          exact DT AJ w blk off dk _ j' a (by omega) (by omega)
          · go_wp2_with fail
            go_big_quiet (first | (go_at_call 65; refine Calls.quiet_of_same (Su.cmp_Less_int _ _ _)))
            -- it stops: i > j
            have hj2 : Hid (j' = Sort.scanDown (fun x => !Sort.ltInt x dk[a]!) dk i' j) := (DE (fun x => !Sort.ltInt x dk[a]!) dk i' j' (Or.inl hle2)).symm.trans hsd.out
            clear hcw hsd
            -- BEHIND BOTH SCANS
            have hw3 : wr.drewN nq = W1.drewN (n2 + nq) := by rw [HW2.out, World.drewN_drewN]
            generalize wr.drewN nq = W3 at hw3 ⊢
            have hc3 : ∀ t, t < d.size → W3.cell? ⟨blk, off + t, none⟩ = some (.int .u32 (Gk t)) := fun t ht => by rw [hw3]; exact hc t ht
            have hf3 : ∀ t, t < d.size → W3.frozen? ⟨blk, off + t, none⟩ = false := fun t ht => by rw [hw3]; exact hf t ht
            have HW3 : Hid (W3 = W1.drewN (n2 + nq)) := hw3
            clear hw3
            -- i > j: 'data[j], data[a] = data[a], data[j]'; return j
            obtain ⟨v3, hy3⟩ := cell?_setCell_some (w := W3) (p := ⟨blk, off + j', none⟩) (x := .int .u32 (Gk a)) (q := ⟨blk, off + a, none⟩) (hc3 a (by omega))
            have hlj : j' < d.size := by omega
            go_wp2
            go_region
            all_goals go_wp2
            all_goals go_ret2
            have e : Sort.partition Sort.ltInt d a b pivot = (j', true, Sort.swp dk j' a) := JW Sort.ltInt d a b pivot HI.out HJ.out HDK.out hi2.out hj2.out (by omega)
            refine ⟨?_, n + (n2 + nq) + 1, ?_⟩
            · rw [e]; rfl
            · rw [e, HW3.out, AW.out, World.drewN_drewN, AG.out a, AG.out j']
              exact DT AJ w blk off dk _ j' a (by omega) (by omega)
    · go_wp2_with fail
      go_big_quiet (first | (go_at_call 65; refine Calls.quiet_of_same (Su.cmp_Less_int _ _ _)))
      go_wp2
      -- it stops: i > j
      have hi2 : Hid (i' = Sort.scanUp (fun x => Sort.ltInt x dk[a]!) dk j i) := (GY (fun x => Sort.ltInt x dk[a]!) dk j i' (Or.inl hle)).symm.trans hsc.out
      -- THE DOWNWARD SCAN
      have hw2 : wr.drewN nq = W1.drewN (n1 + nq) := by rw [HW1.out, World.drewN_drewN]
      clear hcw HW1 hsc
      go_loopw [11] (fun vj w2 => ∃ (j' n2 : Nat), vj = .int .i64 j' ∧ j' ≤ j ∧ i' ≤ j' + 1 ∧ w2 = W1.drewN n2 ∧
          Hid (Sort.scanDown (fun x => !Sort.ltInt x dk[a]!) dk i' j' = Sort.scanDown (fun x => !Sort.ltInt x dk[a]!) dk i' j))
        (fun vj _ => (intOf vj).toNat)
      case atStart => exact ⟨j, n1 + nq, rfl, Nat.le_refl _, hij', hw2, rfl⟩
      case round =>
        clear hw2
        obtain ⟨j', n2, rfl, hjj, hij2, hw2, hsd⟩ := hrel
        have hcw : ∀ t, t < d.size → wr.cell? ⟨blk, off + t, none⟩ = some (.int .u32 (Gk t)) := fun t ht => by rw [hw2]; exact hc t ht
        have HW2 : Hid (wr = W1.drewN n2) := hw2
        clear hw2
        by_cases hle2 : i' ≤ j'
        · exfalso; omega      -- the upward scan has run past j, and j' ≤ j
        · go_wp2_with fail
          go_big_quiet (first | (go_at_call 65; refine Calls.quiet_of_same (Su.cmp_Less_int _ _ _)))
          -- it stops: i > j
          have hj2 : Hid (j' = Sort.scanDown (fun x => !Sort.ltInt x dk[a]!) dk i' j) := (DE (fun x => !Sort.ltInt x dk[a]!) dk i' j' (Or.inl hle2)).symm.trans hsd.out
          clear hcw hsd
          -- BEHIND BOTH SCANS
          have hw3 : wr.drewN nq = W1.drewN (n2 + nq) := by rw [HW2.out, World.drewN_drewN]
          generalize wr.drewN nq = W3 at hw3 ⊢
          have hc3 : ∀ t, t < d.size → W3.cell? ⟨blk, off + t, none⟩ = some (.int .u32 (Gk t)) := fun t ht => by rw [hw3]; exact hc t ht
          have hf3 : ∀ t, t < d.size → W3.frozen? ⟨blk, off + t, none⟩ = false := fun t ht => by rw [hw3]; exact hf t ht
          have HW3 : Hid (W3 = W1.drewN (n2 + nq)) := hw3
          clear hw3
          -- i > j: 'data[j], data[a] = data[a], data[j]'; return j
          obtain ⟨v3, hy3⟩ := cell?_setCell_some (w := W3) (p := ⟨blk, off + j', none⟩) (x := .int .u32 (Gk a)) (q := ⟨blk, off + a, none⟩) (hc3 a (by omega))
          have hlj : j' < d.size := by omega
          go_wp2
          go_region
          all_goals go_wp2
          all_goals go_ret2
          have e : Sort.partition Sort.ltInt d a b pivot = (j', true, Sort.swp dk j' a) := JW Sort.ltInt d a b pivot HI.out HJ.out HDK.out hi2.out hj2.out (by omega)
          refine ⟨?_, n + (n2 + nq) + 1, ?_⟩
          · rw [e]; rfl
          · rw [e, HW3.out, AW.out, World.drewN_drewN, AG.out a, AG.out j']
            exact DT AJ w blk off dk _ j' a (by omega) (by omega)
theorem Su.partitionOrdered_int (blk off cap a b pivot : Nat) (d : Array Int) (w : World) (hH : Holds AJ w blk off d) (hap : a ≤ pivot) (hpb : pivot < b) (hb : b ≤ d.size) (hsz : d.size < 4611686018427387904) :
    Calls Tryz.prog 67 #[.slice (some ⟨blk, off, none⟩) d.size cap, .int .i64 a, .int .i64 b, .int .i64 pivot] w fun e w' =>
      e = .returned (.tuple #[.int .i64 (Sort.partition Sort.ltInt d a b pivot).1, .bool (Sort.partition Sort.ltInt d a b pivot).2.1]) ∧ ∃ n, w' = putRow AJ (Sort.ahead w n) blk off (Sort.partition Sort.ltInt d a b pivot).2.2 :=
  (Su.partition_int blk off cap a b pivot d w hH hap hpb hb hsz).mono fun _ _ ⟨he, n, hw⟩ => ⟨he, n, hw⟩
end Go.Proofs.YtkgikodiecmakaaGreatDoor
