/- Layer 8: a setting that a stream of modes says; for all bytes and settings; no condition · Layer 8: whether a setting may be: all flags, one by one (a range over a function); for all settings; no condition · Layer 27: a session, and what is asked of it; the plain answer, and its parts. No condition. -/
import Derived.Test.YtdplnedpbkpgpaaGreatDoorSsD
import Derived.Test.YtdplnedpbkpgpaaGreatDoorSsF
import Derived.RangeFuncNested
import Derived.RangeFuncBound
import Derived.RangeFuncCalls
import Derived.RangeFuncLeaves
import Derived.Shelf.Abstract
import Derived.Shelf.RegionOpen
import Derived.WalkKit
import Derived.OwnWalkIn
import Derived.TacticsInMore
import Derived.LoopNIn
import Derived.LoopIn
import Derived.Test.YtdplnedpbkpgpaaGreatDoorReqI
namespace Go.Proofs.YtdplnedpbkpgpaaGreatDoor
set_option linter.all false
set_option maxRecDepth 100000
open Go.RowKit

def orD (a b : Int) : Int := IntKind.u32.wrap (((BitVec.ofInt IntKind.u32.bits a ||| BitVec.ofInt IntKind.u32.bits b).toNat : Nat) : Int)
def shD (a k : Int) : Int := IntKind.u32.wrap (IntKind.u32.wrap a * 2 ^ min (Int.toNat k) IntKind.u32.bits)
/-- The number that four bytes are. -/
def argD (a0 a1 a2 a3 : Int) : Int := orD (orD (orD (shD a0 24) (shD a1 16)) (shD a2 8)) (IntKind.u32.wrap a3)
theorem argument_any (A : Option Addr) (c n : Nat) (a0 a1 a2 a3 : Int) (r : List Int) (hn : (a0 :: a1 :: a2 :: a3 :: r).length = n) (w : World) (hr : RdX cu8 w A (a0 :: a1 :: a2 :: a3 :: r)) : Calls Tryz.prog 136 #[.slice A n c] w fun e w' => e = .returned (.int .u32 (argD a0 a1 a2 a3)) ∧ Only [] w w' := by
  obtain ⟨ab, ao, hA, hab, hc⟩ := hr (by simp)
  subst hA
  have hl : 4 ≤ n := by rw [← hn]; simp
  refine Hs.enter Tryz.func136 [] [ab] [outB cu8 ab ao (a0 :: a1 :: a2 :: a3 :: r)] [.c (.v (.slice (some ⟨ab, ao, none⟩) n c))] (Mem.out w ab ao _ hr (by simp)) (by kernel_rfl) (by kernel_rfl) ?_
  refine Hs.run0 300 (fun _ => by kernel_rfl) ?_
  refine Hs.any [0] (by kernel_rfl) ?_
  refine Hs.run0 300 (fun _ => by kernel_rfl) ?_
  refine Hs.takeIdx (rd := [0]) 1 elemU8 (b := ab) (off := ao) (c := c) (len := n) (i := 0) (by omega) (by kernel_rfl) ?_
  refine Hs.takeOut (E' := 5) (rd := [0]) 2 0 cu8_len (ab := ab) (ao := ao) (i := 0) (c := 0) (l := a0 :: a1 :: a2 :: a3 :: r) (x := a0) (.int .u8 a0) (by kernel_rfl) (by kernel_rfl) (by kernel_rfl) rfl rfl (by kernel_rfl) ?_
  refine Hs.takeIdx (rd := [0]) 6 elemU8 (b := ab) (off := ao) (c := c) (len := n) (i := 1) (by omega) (by kernel_rfl) ?_
  refine Hs.takeOut (E' := 5) (rd := [0]) 7 0 cu8_len (ab := ab) (ao := ao) (i := 1) (c := 0) (l := a0 :: a1 :: a2 :: a3 :: r) (x := a1) (.int .u8 a1) (by kernel_rfl) (by kernel_rfl) (by kernel_rfl) rfl rfl (by kernel_rfl) ?_
  refine Hs.takeIdx (rd := [0]) 12 elemU8 (b := ab) (off := ao) (c := c) (len := n) (i := 2) (by omega) (by kernel_rfl) ?_
  refine Hs.takeOut (E' := 5) (rd := [0]) 13 0 cu8_len (ab := ab) (ao := ao) (i := 2) (c := 0) (l := a0 :: a1 :: a2 :: a3 :: r) (x := a2) (.int .u8 a2) (by kernel_rfl) (by kernel_rfl) (by kernel_rfl) rfl rfl (by kernel_rfl) ?_
  refine Hs.takeIdx (rd := [0]) 18 elemU8 (b := ab) (off := ao) (c := c) (len := n) (i := 3) (by omega) (by kernel_rfl) ?_
  refine Hs.takeOut (E' := 5) (rd := [0]) 19 0 cu8_len (ab := ab) (ao := ao) (i := 3) (c := 0) (l := a0 :: a1 :: a2 :: a3 :: r) (x := a3) (.int .u8 a3) (by kernel_rfl) (by kernel_rfl) (by kernel_rfl) rfl rfl (by kernel_rfl) ?_
  refine Hs.run0 300 (fun _ => by kernel_rfl) ?_
  exact Hs.ret (v := .int .u32 (argD a0 a1 a2 a3)) Tryz.func136 (by kernel_rfl) fun w' H => ⟨rfl, H.only⟩
def zeroT : TM := ⟨fun _ => 0, 0, 0, 0, 0, 0⟩
/-- A setting with one mode. -/
def modeD (t : TM) (op n : Int) : TM × Int := if op ≤ 18 then (if n > 255 then (zeroT, 5) else ({ t with ch := fun i => if i = op.toNat then IntKind.u8.wrap n else t.ch i }, 0)) else if op == 128 then ({ t with inn := n }, 0) else if op == 129 then ({ t with out := n }, 0) else (t.set op (n != 0), 0)
theorem c18 {n : Int} (h1 : 1 ≤ n) (h2 : n ≤ 18) : n = 1 ∨ n = 2 ∨ n = 3 ∨ n = 4 ∨ n = 5 ∨ n = 6 ∨ n = 7 ∨ n = 8 ∨ n = 9 ∨ n = 10 ∨ n = 11 ∨ n = 12 ∨ n = 13 ∨ n = 14 ∨ n = 15 ∨ n = 16 ∨ n = 17 ∨ n = 18 := by omega
theorem TM.eta (t : TM) : (⟨t.ch, t.fl, t.inn, t.out, t.mn, t.tm⟩ : TM) = t := rfl
set_option maxHeartbeats 4000000 in
theorem mode_any (t : TM) (op n : Int) (h1 : 1 ≤ op) (w : World) : Calls Tryz.prog 135 #[t.val, .int .i64 op, .int .u32 n] w fun e w' => e = .returned (.tuple #[(modeD t op n).1.val, .int .i64 (modeD t op n).2]) ∧ Only [] w w' := by
  unfold modeD
  by_cases h2 : op ≤ 18
  · rw [if_pos h2]
    rcases c18 h1 h2 with rfl | rfl | rfl | rfl | rfl | rfl | rfl | rfl | rfl | rfl | rfl | rfl | rfl | rfl | rfl | rfl | rfl | rfl
    · refine Hs.enter Tryz.func135 [] [] [] [.g t.sc, .c (.v (.int .i64 1)), .c (.v (.int .u32 n))] (Mem.start0 w) (by kernel_rfl) (by kernel_rfl) ?_
      refine Hs.run2 300 (fun _ => by kernel_rfl) fun b0 b1 => ?_
      refine Hs.condT (by kernel_rfl) ?_
      refine Hs.run0 300 (fun _ => by kernel_rfl) ?_
      refine Hs.condP (n > 255) (by kernel_rfl) (fun h3 => ?_) (fun h3 => ?_)
      · rw [if_pos h3]
        refine Hs.run0 300 (fun _ => by kernel_rfl) ?_
        exact Hs.ret (v := .tuple #[zeroT.val, .int .i64 5]) Tryz.func135 (by kernel_rfl) fun w' H => ⟨rfl, H.only⟩
      · rw [if_neg h3]
        refine Hs.run0 300 (fun _ => by kernel_rfl) ?_
        exact Hs.ret (v := .tuple #[TM.val { t with ch := fun i => if i = 1 then IntKind.u8.wrap n else t.ch i }, .int .i64 0]) Tryz.func135 (by kernel_rfl) fun w' H => ⟨rfl, H.only⟩
    · refine Hs.enter Tryz.func135 [] [] [] [.g t.sc, .c (.v (.int .i64 2)), .c (.v (.int .u32 n))] (Mem.start0 w) (by kernel_rfl) (by kernel_rfl) ?_
      refine Hs.run2 300 (fun _ => by kernel_rfl) fun b0 b1 => ?_
      refine Hs.condT (by kernel_rfl) ?_
      refine Hs.run0 300 (fun _ => by kernel_rfl) ?_
      refine Hs.condP (n > 255) (by kernel_rfl) (fun h3 => ?_) (fun h3 => ?_)
      · rw [if_pos h3]
        refine Hs.run0 300 (fun _ => by kernel_rfl) ?_
        exact Hs.ret (v := .tuple #[zeroT.val, .int .i64 5]) Tryz.func135 (by kernel_rfl) fun w' H => ⟨rfl, H.only⟩
      · rw [if_neg h3]
        refine Hs.run0 300 (fun _ => by kernel_rfl) ?_
        exact Hs.ret (v := .tuple #[TM.val { t with ch := fun i => if i = 2 then IntKind.u8.wrap n else t.ch i }, .int .i64 0]) Tryz.func135 (by kernel_rfl) fun w' H => ⟨rfl, H.only⟩
    · refine Hs.enter Tryz.func135 [] [] [] [.g t.sc, .c (.v (.int .i64 3)), .c (.v (.int .u32 n))] (Mem.start0 w) (by kernel_rfl) (by kernel_rfl) ?_
      refine Hs.run2 300 (fun _ => by kernel_rfl) fun b0 b1 => ?_
      refine Hs.condT (by kernel_rfl) ?_
      refine Hs.run0 300 (fun _ => by kernel_rfl) ?_
      refine Hs.condP (n > 255) (by kernel_rfl) (fun h3 => ?_) (fun h3 => ?_)
      · rw [if_pos h3]
        refine Hs.run0 300 (fun _ => by kernel_rfl) ?_
        exact Hs.ret (v := .tuple #[zeroT.val, .int .i64 5]) Tryz.func135 (by kernel_rfl) fun w' H => ⟨rfl, H.only⟩
      · rw [if_neg h3]
        refine Hs.run0 300 (fun _ => by kernel_rfl) ?_
        exact Hs.ret (v := .tuple #[TM.val { t with ch := fun i => if i = 3 then IntKind.u8.wrap n else t.ch i }, .int .i64 0]) Tryz.func135 (by kernel_rfl) fun w' H => ⟨rfl, H.only⟩
    · refine Hs.enter Tryz.func135 [] [] [] [.g t.sc, .c (.v (.int .i64 4)), .c (.v (.int .u32 n))] (Mem.start0 w) (by kernel_rfl) (by kernel_rfl) ?_
      refine Hs.run2 300 (fun _ => by kernel_rfl) fun b0 b1 => ?_
      refine Hs.condT (by kernel_rfl) ?_
      refine Hs.run0 300 (fun _ => by kernel_rfl) ?_
      refine Hs.condP (n > 255) (by kernel_rfl) (fun h3 => ?_) (fun h3 => ?_)
      · rw [if_pos h3]
        refine Hs.run0 300 (fun _ => by kernel_rfl) ?_
        exact Hs.ret (v := .tuple #[zeroT.val, .int .i64 5]) Tryz.func135 (by kernel_rfl) fun w' H => ⟨rfl, H.only⟩
      · rw [if_neg h3]
        refine Hs.run0 300 (fun _ => by kernel_rfl) ?_
        exact Hs.ret (v := .tuple #[TM.val { t with ch := fun i => if i = 4 then IntKind.u8.wrap n else t.ch i }, .int .i64 0]) Tryz.func135 (by kernel_rfl) fun w' H => ⟨rfl, H.only⟩
    · refine Hs.enter Tryz.func135 [] [] [] [.g t.sc, .c (.v (.int .i64 5)), .c (.v (.int .u32 n))] (Mem.start0 w) (by kernel_rfl) (by kernel_rfl) ?_
      refine Hs.run2 300 (fun _ => by kernel_rfl) fun b0 b1 => ?_
      refine Hs.condT (by kernel_rfl) ?_
      refine Hs.run0 300 (fun _ => by kernel_rfl) ?_
      refine Hs.condP (n > 255) (by kernel_rfl) (fun h3 => ?_) (fun h3 => ?_)
      · rw [if_pos h3]
        refine Hs.run0 300 (fun _ => by kernel_rfl) ?_
        exact Hs.ret (v := .tuple #[zeroT.val, .int .i64 5]) Tryz.func135 (by kernel_rfl) fun w' H => ⟨rfl, H.only⟩
      · rw [if_neg h3]
        refine Hs.run0 300 (fun _ => by kernel_rfl) ?_
        exact Hs.ret (v := .tuple #[TM.val { t with ch := fun i => if i = 5 then IntKind.u8.wrap n else t.ch i }, .int .i64 0]) Tryz.func135 (by kernel_rfl) fun w' H => ⟨rfl, H.only⟩
    · refine Hs.enter Tryz.func135 [] [] [] [.g t.sc, .c (.v (.int .i64 6)), .c (.v (.int .u32 n))] (Mem.start0 w) (by kernel_rfl) (by kernel_rfl) ?_
      refine Hs.run2 300 (fun _ => by kernel_rfl) fun b0 b1 => ?_
      refine Hs.condT (by kernel_rfl) ?_
      refine Hs.run0 300 (fun _ => by kernel_rfl) ?_
      refine Hs.condP (n > 255) (by kernel_rfl) (fun h3 => ?_) (fun h3 => ?_)
      · rw [if_pos h3]
        refine Hs.run0 300 (fun _ => by kernel_rfl) ?_
        exact Hs.ret (v := .tuple #[zeroT.val, .int .i64 5]) Tryz.func135 (by kernel_rfl) fun w' H => ⟨rfl, H.only⟩
      · rw [if_neg h3]
        refine Hs.run0 300 (fun _ => by kernel_rfl) ?_
        exact Hs.ret (v := .tuple #[TM.val { t with ch := fun i => if i = 6 then IntKind.u8.wrap n else t.ch i }, .int .i64 0]) Tryz.func135 (by kernel_rfl) fun w' H => ⟨rfl, H.only⟩
    · refine Hs.enter Tryz.func135 [] [] [] [.g t.sc, .c (.v (.int .i64 7)), .c (.v (.int .u32 n))] (Mem.start0 w) (by kernel_rfl) (by kernel_rfl) ?_
      refine Hs.run2 300 (fun _ => by kernel_rfl) fun b0 b1 => ?_
      refine Hs.condT (by kernel_rfl) ?_
      refine Hs.run0 300 (fun _ => by kernel_rfl) ?_
      refine Hs.condP (n > 255) (by kernel_rfl) (fun h3 => ?_) (fun h3 => ?_)
      · rw [if_pos h3]
        refine Hs.run0 300 (fun _ => by kernel_rfl) ?_
        exact Hs.ret (v := .tuple #[zeroT.val, .int .i64 5]) Tryz.func135 (by kernel_rfl) fun w' H => ⟨rfl, H.only⟩
      · rw [if_neg h3]
        refine Hs.run0 300 (fun _ => by kernel_rfl) ?_
        exact Hs.ret (v := .tuple #[TM.val { t with ch := fun i => if i = 7 then IntKind.u8.wrap n else t.ch i }, .int .i64 0]) Tryz.func135 (by kernel_rfl) fun w' H => ⟨rfl, H.only⟩
    · refine Hs.enter Tryz.func135 [] [] [] [.g t.sc, .c (.v (.int .i64 8)), .c (.v (.int .u32 n))] (Mem.start0 w) (by kernel_rfl) (by kernel_rfl) ?_
      refine Hs.run2 300 (fun _ => by kernel_rfl) fun b0 b1 => ?_
      refine Hs.condT (by kernel_rfl) ?_
      refine Hs.run0 300 (fun _ => by kernel_rfl) ?_
      refine Hs.condP (n > 255) (by kernel_rfl) (fun h3 => ?_) (fun h3 => ?_)
      · rw [if_pos h3]
        refine Hs.run0 300 (fun _ => by kernel_rfl) ?_
        exact Hs.ret (v := .tuple #[zeroT.val, .int .i64 5]) Tryz.func135 (by kernel_rfl) fun w' H => ⟨rfl, H.only⟩
      · rw [if_neg h3]
        refine Hs.run0 300 (fun _ => by kernel_rfl) ?_
        exact Hs.ret (v := .tuple #[TM.val { t with ch := fun i => if i = 8 then IntKind.u8.wrap n else t.ch i }, .int .i64 0]) Tryz.func135 (by kernel_rfl) fun w' H => ⟨rfl, H.only⟩
    · refine Hs.enter Tryz.func135 [] [] [] [.g t.sc, .c (.v (.int .i64 9)), .c (.v (.int .u32 n))] (Mem.start0 w) (by kernel_rfl) (by kernel_rfl) ?_
      refine Hs.run2 300 (fun _ => by kernel_rfl) fun b0 b1 => ?_
      refine Hs.condT (by kernel_rfl) ?_
      refine Hs.run0 300 (fun _ => by kernel_rfl) ?_
      refine Hs.condP (n > 255) (by kernel_rfl) (fun h3 => ?_) (fun h3 => ?_)
      · rw [if_pos h3]
        refine Hs.run0 300 (fun _ => by kernel_rfl) ?_
        exact Hs.ret (v := .tuple #[zeroT.val, .int .i64 5]) Tryz.func135 (by kernel_rfl) fun w' H => ⟨rfl, H.only⟩
      · rw [if_neg h3]
        refine Hs.run0 300 (fun _ => by kernel_rfl) ?_
        exact Hs.ret (v := .tuple #[TM.val { t with ch := fun i => if i = 9 then IntKind.u8.wrap n else t.ch i }, .int .i64 0]) Tryz.func135 (by kernel_rfl) fun w' H => ⟨rfl, H.only⟩
    · refine Hs.enter Tryz.func135 [] [] [] [.g t.sc, .c (.v (.int .i64 10)), .c (.v (.int .u32 n))] (Mem.start0 w) (by kernel_rfl) (by kernel_rfl) ?_
      refine Hs.run2 300 (fun _ => by kernel_rfl) fun b0 b1 => ?_
      refine Hs.condT (by kernel_rfl) ?_
      refine Hs.run0 300 (fun _ => by kernel_rfl) ?_
      refine Hs.condP (n > 255) (by kernel_rfl) (fun h3 => ?_) (fun h3 => ?_)
      · rw [if_pos h3]
        refine Hs.run0 300 (fun _ => by kernel_rfl) ?_
        exact Hs.ret (v := .tuple #[zeroT.val, .int .i64 5]) Tryz.func135 (by kernel_rfl) fun w' H => ⟨rfl, H.only⟩
      · rw [if_neg h3]
        refine Hs.run0 300 (fun _ => by kernel_rfl) ?_
        exact Hs.ret (v := .tuple #[TM.val { t with ch := fun i => if i = 10 then IntKind.u8.wrap n else t.ch i }, .int .i64 0]) Tryz.func135 (by kernel_rfl) fun w' H => ⟨rfl, H.only⟩
    · refine Hs.enter Tryz.func135 [] [] [] [.g t.sc, .c (.v (.int .i64 11)), .c (.v (.int .u32 n))] (Mem.start0 w) (by kernel_rfl) (by kernel_rfl) ?_
      refine Hs.run2 300 (fun _ => by kernel_rfl) fun b0 b1 => ?_
      refine Hs.condT (by kernel_rfl) ?_
      refine Hs.run0 300 (fun _ => by kernel_rfl) ?_
      refine Hs.condP (n > 255) (by kernel_rfl) (fun h3 => ?_) (fun h3 => ?_)
      · rw [if_pos h3]
        refine Hs.run0 300 (fun _ => by kernel_rfl) ?_
        exact Hs.ret (v := .tuple #[zeroT.val, .int .i64 5]) Tryz.func135 (by kernel_rfl) fun w' H => ⟨rfl, H.only⟩
      · rw [if_neg h3]
        refine Hs.run0 300 (fun _ => by kernel_rfl) ?_
        exact Hs.ret (v := .tuple #[TM.val { t with ch := fun i => if i = 11 then IntKind.u8.wrap n else t.ch i }, .int .i64 0]) Tryz.func135 (by kernel_rfl) fun w' H => ⟨rfl, H.only⟩
    · refine Hs.enter Tryz.func135 [] [] [] [.g t.sc, .c (.v (.int .i64 12)), .c (.v (.int .u32 n))] (Mem.start0 w) (by kernel_rfl) (by kernel_rfl) ?_
      refine Hs.run2 300 (fun _ => by kernel_rfl) fun b0 b1 => ?_
      refine Hs.condT (by kernel_rfl) ?_
      refine Hs.run0 300 (fun _ => by kernel_rfl) ?_
      refine Hs.condP (n > 255) (by kernel_rfl) (fun h3 => ?_) (fun h3 => ?_)
      · rw [if_pos h3]
        refine Hs.run0 300 (fun _ => by kernel_rfl) ?_
        exact Hs.ret (v := .tuple #[zeroT.val, .int .i64 5]) Tryz.func135 (by kernel_rfl) fun w' H => ⟨rfl, H.only⟩
      · rw [if_neg h3]
        refine Hs.run0 300 (fun _ => by kernel_rfl) ?_
        exact Hs.ret (v := .tuple #[TM.val { t with ch := fun i => if i = 12 then IntKind.u8.wrap n else t.ch i }, .int .i64 0]) Tryz.func135 (by kernel_rfl) fun w' H => ⟨rfl, H.only⟩
    · refine Hs.enter Tryz.func135 [] [] [] [.g t.sc, .c (.v (.int .i64 13)), .c (.v (.int .u32 n))] (Mem.start0 w) (by kernel_rfl) (by kernel_rfl) ?_
      refine Hs.run2 300 (fun _ => by kernel_rfl) fun b0 b1 => ?_
      refine Hs.condT (by kernel_rfl) ?_
      refine Hs.run0 300 (fun _ => by kernel_rfl) ?_
      refine Hs.condP (n > 255) (by kernel_rfl) (fun h3 => ?_) (fun h3 => ?_)
      · rw [if_pos h3]
        refine Hs.run0 300 (fun _ => by kernel_rfl) ?_
        exact Hs.ret (v := .tuple #[zeroT.val, .int .i64 5]) Tryz.func135 (by kernel_rfl) fun w' H => ⟨rfl, H.only⟩
      · rw [if_neg h3]
        refine Hs.run0 300 (fun _ => by kernel_rfl) ?_
        exact Hs.ret (v := .tuple #[TM.val { t with ch := fun i => if i = 13 then IntKind.u8.wrap n else t.ch i }, .int .i64 0]) Tryz.func135 (by kernel_rfl) fun w' H => ⟨rfl, H.only⟩
    · refine Hs.enter Tryz.func135 [] [] [] [.g t.sc, .c (.v (.int .i64 14)), .c (.v (.int .u32 n))] (Mem.start0 w) (by kernel_rfl) (by kernel_rfl) ?_
      refine Hs.run2 300 (fun _ => by kernel_rfl) fun b0 b1 => ?_
      refine Hs.condT (by kernel_rfl) ?_
      refine Hs.run0 300 (fun _ => by kernel_rfl) ?_
      refine Hs.condP (n > 255) (by kernel_rfl) (fun h3 => ?_) (fun h3 => ?_)
      · rw [if_pos h3]
        refine Hs.run0 300 (fun _ => by kernel_rfl) ?_
        exact Hs.ret (v := .tuple #[zeroT.val, .int .i64 5]) Tryz.func135 (by kernel_rfl) fun w' H => ⟨rfl, H.only⟩
      · rw [if_neg h3]
        refine Hs.run0 300 (fun _ => by kernel_rfl) ?_
        exact Hs.ret (v := .tuple #[TM.val { t with ch := fun i => if i = 14 then IntKind.u8.wrap n else t.ch i }, .int .i64 0]) Tryz.func135 (by kernel_rfl) fun w' H => ⟨rfl, H.only⟩
    · refine Hs.enter Tryz.func135 [] [] [] [.g t.sc, .c (.v (.int .i64 15)), .c (.v (.int .u32 n))] (Mem.start0 w) (by kernel_rfl) (by kernel_rfl) ?_
      refine Hs.run2 300 (fun _ => by kernel_rfl) fun b0 b1 => ?_
      refine Hs.condT (by kernel_rfl) ?_
      refine Hs.run0 300 (fun _ => by kernel_rfl) ?_
      refine Hs.condP (n > 255) (by kernel_rfl) (fun h3 => ?_) (fun h3 => ?_)
      · rw [if_pos h3]
        refine Hs.run0 300 (fun _ => by kernel_rfl) ?_
        exact Hs.ret (v := .tuple #[zeroT.val, .int .i64 5]) Tryz.func135 (by kernel_rfl) fun w' H => ⟨rfl, H.only⟩
      · rw [if_neg h3]
        refine Hs.run0 300 (fun _ => by kernel_rfl) ?_
        exact Hs.ret (v := .tuple #[TM.val { t with ch := fun i => if i = 15 then IntKind.u8.wrap n else t.ch i }, .int .i64 0]) Tryz.func135 (by kernel_rfl) fun w' H => ⟨rfl, H.only⟩
    · refine Hs.enter Tryz.func135 [] [] [] [.g t.sc, .c (.v (.int .i64 16)), .c (.v (.int .u32 n))] (Mem.start0 w) (by kernel_rfl) (by kernel_rfl) ?_
      refine Hs.run2 300 (fun _ => by kernel_rfl) fun b0 b1 => ?_
      refine Hs.condT (by kernel_rfl) ?_
      refine Hs.run0 300 (fun _ => by kernel_rfl) ?_
      refine Hs.condP (n > 255) (by kernel_rfl) (fun h3 => ?_) (fun h3 => ?_)
      · rw [if_pos h3]
        refine Hs.run0 300 (fun _ => by kernel_rfl) ?_
        exact Hs.ret (v := .tuple #[zeroT.val, .int .i64 5]) Tryz.func135 (by kernel_rfl) fun w' H => ⟨rfl, H.only⟩
      · rw [if_neg h3]
        refine Hs.run0 300 (fun _ => by kernel_rfl) ?_
        exact Hs.ret (v := .tuple #[TM.val { t with ch := fun i => if i = 16 then IntKind.u8.wrap n else t.ch i }, .int .i64 0]) Tryz.func135 (by kernel_rfl) fun w' H => ⟨rfl, H.only⟩
    · refine Hs.enter Tryz.func135 [] [] [] [.g t.sc, .c (.v (.int .i64 17)), .c (.v (.int .u32 n))] (Mem.start0 w) (by kernel_rfl) (by kernel_rfl) ?_
      refine Hs.run2 300 (fun _ => by kernel_rfl) fun b0 b1 => ?_
      refine Hs.condT (by kernel_rfl) ?_
      refine Hs.run0 300 (fun _ => by kernel_rfl) ?_
      refine Hs.condP (n > 255) (by kernel_rfl) (fun h3 => ?_) (fun h3 => ?_)
      · rw [if_pos h3]
        refine Hs.run0 300 (fun _ => by kernel_rfl) ?_
        exact Hs.ret (v := .tuple #[zeroT.val, .int .i64 5]) Tryz.func135 (by kernel_rfl) fun w' H => ⟨rfl, H.only⟩
      · rw [if_neg h3]
        refine Hs.run0 300 (fun _ => by kernel_rfl) ?_
        exact Hs.ret (v := .tuple #[TM.val { t with ch := fun i => if i = 17 then IntKind.u8.wrap n else t.ch i }, .int .i64 0]) Tryz.func135 (by kernel_rfl) fun w' H => ⟨rfl, H.only⟩
    · refine Hs.enter Tryz.func135 [] [] [] [.g t.sc, .c (.v (.int .i64 18)), .c (.v (.int .u32 n))] (Mem.start0 w) (by kernel_rfl) (by kernel_rfl) ?_
      refine Hs.run2 300 (fun _ => by kernel_rfl) fun b0 b1 => ?_
      refine Hs.condT (by kernel_rfl) ?_
      refine Hs.run0 300 (fun _ => by kernel_rfl) ?_
      refine Hs.condP (n > 255) (by kernel_rfl) (fun h3 => ?_) (fun h3 => ?_)
      · rw [if_pos h3]
        refine Hs.run0 300 (fun _ => by kernel_rfl) ?_
        exact Hs.ret (v := .tuple #[zeroT.val, .int .i64 5]) Tryz.func135 (by kernel_rfl) fun w' H => ⟨rfl, H.only⟩
      · rw [if_neg h3]
        refine Hs.run0 300 (fun _ => by kernel_rfl) ?_
        exact Hs.ret (v := .tuple #[TM.val { t with ch := fun i => if i = 18 then IntKind.u8.wrap n else t.ch i }, .int .i64 0]) Tryz.func135 (by kernel_rfl) fun w' H => ⟨rfl, H.only⟩
  rw [if_neg h2]
  refine Hs.enter Tryz.func135 [] [] [] [.g t.sc, .c (.v (.int .i64 op)), .c (.v (.int .u32 n))] (Mem.start0 w) (by kernel_rfl) (by kernel_rfl) ?_
  refine Hs.run2 300 (fun _ => by kernel_rfl) fun b0 b1 => ?_
  refine Hs.condP (op ≤ 18) (by kernel_rfl) (fun h => absurd h h2) (fun _ => ?_)
  refine Hs.run0 300 (fun _ => by kernel_rfl) ?_
  refine Hs.cond (op == 128) (by kernel_rfl) (fun h3 => ?_) (fun h3 => ?_)
  · rw [if_pos h3]
    refine Hs.run0 300 (fun _ => by kernel_rfl) ?_
    exact Hs.ret (v := .tuple #[TM.val { t with inn := n }, .int .i64 0]) Tryz.func135 (by kernel_rfl) fun w' H => ⟨rfl, H.only⟩
  rw [if_neg (by rw [h3]; decide)]
  refine Hs.run0 300 (fun _ => by kernel_rfl) ?_
  refine Hs.cond (op == 129) (by kernel_rfl) (fun h4 => ?_) (fun h4 => ?_)
  · rw [if_pos h4]
    refine Hs.run0 300 (fun _ => by kernel_rfl) ?_
    exact Hs.ret (v := .tuple #[TM.val { t with out := n }, .int .i64 0]) Tryz.func135 (by kernel_rfl) fun w' H => ⟨rfl, H.only⟩
  rw [if_neg (by rw [h4]; decide)]
  refine Hs.run0 300 (fun _ => by kernel_rfl) ?_
  refine Hs.callV (fun w' H => set_any t op (n != 0) w') (by kernel_rfl) ?_
  refine Hs.run0 300 (fun _ => by kernel_rfl) ?_
  exact Hs.ret (v := .tuple #[(t.set op (n != 0)).val, .int .i64 0]) Tryz.func135 (by kernel_rfl) fun w' H => ⟨rfl, H.only⟩
/-- A setting with what a stream of modes says. -/
def modesD (t : TM) : List Int → TM × Int
  | [] => (t, 0)
  | op :: a :: b :: c :: d :: r => if op = 0 ∨ 160 ≤ op then (t, 0) else if (modeD t op (argD a b c d)).2 ≠ 0 then (zeroT, (modeD t op (argD a b c d)).2) else modesD (modeD t op (argD a b c d)).1 r
  | op :: _ => if op = 0 ∨ 160 ≤ op then (t, 0) else (zeroT, 3)
theorem modesD_short {t : TM} {op : Int} {r : List Int} (h : r.length < 4) : modesD t (op :: r) = if op = 0 ∨ 160 ≤ op then (t, 0) else (zeroT, 3) := by
  match r, h with
  | [], _ => rfl
  | [_], _ => rfl
  | [_, _], _ => rfl
  | [_, _, _], _ => rfl
set_option maxHeartbeats 4000000 in
theorem mdecode_any (t : TM) (A : Option Addr) (c : Nat) (l : List Int) (w : World) (hr : RdU w A c l) (hb : ∀ x ∈ l, 0 ≤ x ∧ x < 256) : Calls Tryz.prog 93 #[.slice A l.length c, t.val] w fun e w' => e = .returned (.tuple #[(modesD t l).1.val, .int .i64 (modesD t l).2]) ∧ Only [] w w' := by
  obtain ⟨T, hT⟩ : ∃ T, T = modesD t l := ⟨_, rfl⟩
  rw [← hT]
  have J : ∀ (q : Nat) (r : List Int), r.length ≤ q → ∀ (t1 : TM) (A1 : Option Addr) (c1 n1 : Nat), r.length = n1 → RdU w A1 c1 r → (∀ x ∈ r, 0 ≤ x ∧ x < 256) → T = modesD t1 r → ∀ (b0 b1 : Nat) (u : Nat → Value), Hs Tryz.prog 93 (fun e w' => e = .returned (.tuple #[T.1.val, .int .i64 T.2]) ∧ Only [] w w') (Tryz.f93).ntmps w [] [b0, b1] ⟨.no, loopAt Tryz.f93 0, pins [(0, .c (.v (.slice A1 n1 c1))), (3, .c (.p 0 0)), (4, .c (.p 1 0)), (5, .c (.v (.int .i64 0)))] (.vals u), [.b true 28 t1.sc, .b true 28 zeroT.sc]⟩ := by
    intro q
    induction q with
    | zero =>
      intro r hq t1 A1 c1 n1 hn1 hr1 hb1 hT1 b0 b1 u
      have h0 : r = [] := List.length_eq_zero_iff.1 (by omega)
      subst h0
      subst hn1
      rw [show modesD t1 [] = (t1, 0) from rfl] at hT1
      clear hT
      subst hT1
      refine Hs.run0 300 (fun _ => by kernel_rfl) ?_
      refine Hs.condF (by kernel_rfl) ?_
      refine Hs.run0 300 (fun _ => by kernel_rfl) ?_
      exact Hs.ret (v := .tuple #[t1.val, .int .i64 0]) Tryz.func93 (by kernel_rfl) fun w' H => ⟨rfl, H.only⟩
    | succ q ih =>
      intro r hq t1 A1 c1 n1 hn1 hr1 hb1 hT1 b0 b1 u
      cases r with
      | nil =>
        subst hn1
        rw [show modesD t1 [] = (t1, 0) from rfl] at hT1
        clear hT
        subst hT1
        refine Hs.run0 300 (fun _ => by kernel_rfl) ?_
        refine Hs.condF (by kernel_rfl) ?_
        refine Hs.run0 300 (fun _ => by kernel_rfl) ?_
        exact Hs.ret (v := .tuple #[t1.val, .int .i64 0]) Tryz.func93 (by kernel_rfl) fun w' H => ⟨rfl, H.only⟩
      | cons op r =>
        have hop := hb1 op List.mem_cons_self
        obtain ⟨ab, ao, hA, _, _⟩ := hr1.1 (by simp)
        subst hA
        have hn0 : 0 < n1 := by rw [← hn1]; simp
        have hw : IntKind.i64.wrap op = op := IntWalk.i64_in _ (by omega)
        refine Hs.run0 300 (fun _ => by kernel_rfl) ?_
        refine Hs.condP ((n1 : Int) > 0) (by kernel_rfl) (fun _ => ?_) (fun h => by omega)
        refine Hs.run0 300 (fun _ => by kernel_rfl) ?_
        refine Hs.idx (b := ab) (off := ao) (len := n1) (c := c1) (i := 0) elemU8 hn0 (by kernel_rfl) ?_
        refine Hs.run0 300 (fun _ => by kernel_rfl) ?_
        refine Hs.ldc (E' := 5) (b := ab) (off := ao + 0 * 1) (.int .u8 op) (by kernel_rfl) (fun w' H => u8_cell (hr1.1.only H.only) rfl) (by kernel_rfl) ?_
        refine Hs.run0 1 (fun _ => by kernel_rfl) ?_
        refine Hs.slot 14 (.c (.v (.int .i64 op))) rfl ((by kernel_rfl : _ = Value.int .i64 (IntKind.i64.wrap op)).trans (by rw [hw]; rfl)) ?_
        refine Hs.run0 300 (fun _ => by kernel_rfl) ?_
        have out : (op = 0 ∨ 160 ≤ op) → T = (t1, 0) := fun h => by
          rw [hT1]
          by_cases h4 : r.length < 4
          · rw [modesD_short h4, if_pos h]
          · match r, h4 with
            | _ :: _ :: _ :: _ :: _, _ => unfold modesD; rw [if_pos h]
            | [], h4 => exact absurd (by simp) h4
            | [_], h4 => exact absurd (by simp) h4
            | [_, _], h4 => exact absurd (by simp) h4
            | [_, _, _], h4 => exact absurd (by simp) h4
        refine Hs.bool 17 (op == 0) (by kernel_rfl) (fun h1 => ?_) (fun h1 => ?_)
        · have e := out (.inl (by simpa using h1))
          clear hT hT1 out
          subst e
          refine Hs.rung0 [2] 300 (fun _ => by kernel_rfl) ?_
          refine Hs.condT (by kernel_rfl) ?_
          refine Hs.run0 300 (fun _ => by kernel_rfl) ?_
          exact Hs.ret (v := .tuple #[t1.val, .int .i64 0]) Tryz.func93 (by kernel_rfl) fun w' H => ⟨rfl, H.only⟩
        replace h1 : ¬ op = 0 := by simpa using h1
        refine Hs.rung0 [2] 300 (fun _ => by kernel_rfl) ?_
        refine Hs.condP (op ≥ 160) (by kernel_rfl) (fun h2 => ?_) (fun h2 => ?_)
        · have e := out (.inr h2)
          clear hT hT1 out
          subst e
          refine Hs.run0 300 (fun _ => by kernel_rfl) ?_
          exact Hs.ret (v := .tuple #[t1.val, .int .i64 0]) Tryz.func93 (by kernel_rfl) fun w' H => ⟨rfl, H.only⟩
        have hno : ¬ (op = 0 ∨ 160 ≤ op) := fun h => h.elim h1 h2
        clear out
        refine Hs.run0 300 (fun _ => by kernel_rfl) ?_
        refine Hs.condP ((n1 : Int) < 5) (by kernel_rfl) (fun h3 => ?_) (fun h3 => ?_)
        · have e : T = (zeroT, 3) := by
            rw [hT1, modesD_short (by rw [List.length_cons] at hn1; omega), if_neg hno]
          clear hT hT1
          subst e
          refine Hs.run0 300 (fun _ => by kernel_rfl) ?_
          exact Hs.ret (v := .tuple #[zeroT.val, .int .i64 3]) Tryz.func93 (by kernel_rfl) fun w' H => ⟨rfl, H.only⟩
        match r, hn1, hr1, hb1, hq, hT1 with
        | [], hn1, _, _, _, _ => rw [List.length_cons, List.length_nil] at hn1; omega
        | [_], hn1, _, _, _, _ => simp at hn1; omega
        | [_, _], hn1, _, _, _, _ => simp at hn1; omega
        | [_, _, _], hn1, _, _, _, _ => simp at hn1; omega
        | a :: b :: c :: d :: r, hn1, hr1, hb1, hq, hT1 =>
        rw [show modesD t1 (op :: a :: b :: c :: d :: r) = if op = 0 ∨ 160 ≤ op then (t1, 0) else if (modeD t1 op (argD a b c d)).2 ≠ 0 then (zeroT, (modeD t1 op (argD a b c d)).2) else modesD (modeD t1 op (argD a b c d)).1 r from rfl, if_neg hno] at hT1
        refine Hs.run0 300 (fun _ => by kernel_rfl) ?_
        refine Hs.any [0, 1009] (by kernel_rfl) ?_
        refine Hs.run0 300 (fun _ => by kernel_rfl) ?_
        have hlen : 5 ≤ n1 := by omega
        have hcl : n1 ≤ c1 := by rw [← hn1]; exact hr1.2.1
        refine Hs.lo elemU8 (A := some ⟨ab, ao, none⟩) (len := n1) (cap := c1) (i := 1) (by omega) (by kernel_rfl) ?_
        refine Hs.run0 300 (fun _ => by kernel_rfl) ?_
        refine Hs.callV (fun w' H => argument_any (loA 1 (some ⟨ab, ao, none⟩) 1 c1) (c1 - 1) (n1 - 1) a b c d r (by rw [List.length_cons] at hn1; omega) w' ((rdX_lo (i := 1) cu8_len hr1.1 (by simp) (by rw [hn1]; exact hcl)).only H.only)) (by kernel_rfl) ?_
        refine Hs.run0 300 (fun _ => by kernel_rfl) ?_
        refine Hs.callV (fun w' H => mode_any t1 op (argD a b c d) (by omega) w') (by kernel_rfl) ?_
        generalize modeD t1 op (argD a b c d) = z at hT1 ⊢
        obtain ⟨t2, e2⟩ := z
        replace hT1 : T = if e2 ≠ 0 then (zeroT, e2) else modesD t2 r := hT1
        refine Hs.run0 300 (fun _ => by kernel_rfl) ?_
        refine Hs.branch2 8 9 (by kernel_rfl) ?_ ?_
        · refine Hs.run0 300 (fun _ => by kernel_rfl) ?_
          refine Hs.cond (e2 != 0) (by kernel_rfl) (fun h4 => ?_) (fun h4 => ?_)
          · rw [if_pos (by simpa using h4)] at hT1
            clear hT
            subst hT1
            refine Hs.run0 300 (fun _ => by kernel_rfl) ?_
            exact Hs.ret (v := .tuple #[zeroT.val, .int .i64 e2]) Tryz.func93 (by kernel_rfl) fun w' H => ⟨rfl, H.only⟩
          rw [if_neg (by simpa using h4)] at hT1
          refine Hs.run0 300 (fun _ => by kernel_rfl) ?_
          refine Hs.lo elemU8 (A := some ⟨ab, ao, none⟩) (len := n1) (cap := c1) (i := 5) (by omega) (by kernel_rfl) ?_
          refine Hs.run0 300 (fun _ => by kernel_rfl) ?_
          refine Hs.loop (by kernel_rfl) ?_
          have hr5 := rdX_lo (i := 5) cu8_len hr1.1 (by simp) (by rw [hn1]; exact hcl)
          exact Hs.goto (loopAt Tryz.f93 0) [0, 1] [.b true 28 t2.sc, .b true 28 zeroT.sc] [(0, .c (.v (.slice (loA 1 (some ⟨ab, ao, none⟩) 5 c1) (n1 - 5) (c1 - 5)))), (3, .c (.p 0 0)), (4, .c (.p 1 0)), (5, .c (.v (.int .i64 0)))] (by kernel_rfl) (by decide) (by kernel_rfl) (by kernel_rfl) (fun _ => (by kernel_rfl)) (fun u => ih r (by simp only [List.length_cons] at hq; omega) t2 _ _ _ (by simp only [List.length_cons] at hn1; omega) ⟨hr5, by simp only [List.length_cons] at hn1; omega, by have := hr1.2.2; omega⟩ (fun x hx => hb1 x (by simp [hx])) hT1 b0 b1 u)
        · refine Hs.run0 300 (fun _ => by kernel_rfl) ?_
          refine Hs.cond (e2 != 0) (by kernel_rfl) (fun h4 => ?_) (fun h4 => ?_)
          · rw [if_pos (by simpa using h4)] at hT1
            clear hT
            subst hT1
            refine Hs.run0 300 (fun _ => by kernel_rfl) ?_
            exact Hs.ret (v := .tuple #[zeroT.val, .int .i64 e2]) Tryz.func93 (by kernel_rfl) fun w' H => ⟨rfl, H.only⟩
          rw [if_neg (by simpa using h4)] at hT1
          refine Hs.run0 300 (fun _ => by kernel_rfl) ?_
          refine Hs.lo elemU8 (A := some ⟨ab, ao, none⟩) (len := n1) (cap := c1) (i := 5) (by omega) (by kernel_rfl) ?_
          refine Hs.run0 300 (fun _ => by kernel_rfl) ?_
          refine Hs.loop (by kernel_rfl) ?_
          have hr5 := rdX_lo (i := 5) cu8_len hr1.1 (by simp) (by rw [hn1]; exact hcl)
          exact Hs.goto (loopAt Tryz.f93 0) [0, 1] [.b true 28 t2.sc, .b true 28 zeroT.sc] [(0, .c (.v (.slice (loA 1 (some ⟨ab, ao, none⟩) 5 c1) (n1 - 5) (c1 - 5)))), (3, .c (.p 0 0)), (4, .c (.p 1 0)), (5, .c (.v (.int .i64 0)))] (by kernel_rfl) (by decide) (by kernel_rfl) (by kernel_rfl) (fun _ => (by kernel_rfl)) (fun u => ih r (by simp only [List.length_cons] at hq; omega) t2 _ _ _ (by simp only [List.length_cons] at hn1; omega) ⟨hr5, by simp only [List.length_cons] at hn1; omega, by have := hr1.2.2; omega⟩ (fun x hx => hb1 x (by simp [hx])) hT1 b0 b1 u)
  refine Hs.enter Tryz.func93 [] [] [] [.c (.v (.slice A l.length c)), .g t.sc] (Mem.start0 w) (by kernel_rfl) (by kernel_rfl) ?_
  refine Hs.run2 300 (fun _ => by kernel_rfl) fun b0 b1 => ?_
  refine Hs.loop (by kernel_rfl) ?_
  exact Hs.goto (loopAt Tryz.f93 0) [0, 1] [.b true 28 t.sc, .b true 28 zeroT.sc] [(0, .c (.v (.slice A l.length c))), (3, .c (.p 0 0)), (4, .c (.p 1 0)), (5, .c (.v (.int .i64 0)))] (by kernel_rfl) (by decide) (by kernel_rfl) (by kernel_rfl) (fun _ => (by kernel_rfl)) (fun u => J l.length l (Nat.le_refl _) t A c l.length rfl hr hb hT b0 b1 u)
end Go.Proofs.YtdplnedpbkpgpaaGreatDoor

namespace Go.Proofs.YtdplnedpbkpgpaaGreatDoor
open Go.RowKit Go.Shelf
set_option linter.all false
attribute [local go_sem] Oper.semAt_some

set_option maxHeartbeats 1000000 in
theorem bit_in (F : Fence) (n : Nat) (hF : F.fn 45) (hro : F.round = none) (op : Int) (h1 : 30 ≤ op) (h2 : op ≤ 93) (w : World) : CallsIn F n Tryz.prog 45 #[.int .i64 op] w fun e w' => e = .returned (.int .u64 (bitI op)) ∧ w' = w := by
  have e2 : IntKind.u64.wrap (2 ^ (op - 30).toNat) = bitI op := by
    unfold bitI
    have h3 : (2 : Int) ^ (op - 30).toNat = ((2 ^ (op - 30).toNat : Nat) : Int) := (Int.natCast_pow 2 _).symm
    have h6 : (op - 30).toNat < 64 := by omega
    have h4 : 2 ^ (op - 30).toNat < 2 ^ 64 := Nat.pow_lt_pow_right (by decide) h6
    rw [h3]
    generalize 2 ^ (op - 30).toNat = q at h4
    have h7 : q < 18446744073709551616 := h4
    have h5 : (q : Int) < 18446744073709551616 := by omega
    show ((q : Int) % (18446744073709551616 : Int)) = _
    exact Int.emod_eq_of_lt (Int.natCast_nonneg q) h5
  refine callsIn_of_wp Tryz.func45 rfl hF ?_ hro
  simp only [Tryz.ntmps45, List.size_toArray, List.length_cons, List.length_nil, Nat.reduceAdd, Nat.reduceSub, Array.replicate_succ, Array.replicate_zero, List.push_toArray, List.append_toArray, List.nil_append, List.cons_append]
  gi_wp2
  go_ret
  exact ⟨rfl, rfl⟩
theorem flagsF_any (w : World) : Calls Tryz.prog 44 #[] w fun e w' => e = .returned (.func (.func 69) #[] #[]) ∧ Only [] w w' := by
  refine Hs.enter Tryz.func44 [] [] [] [] (Mem.start0 w) (by kernel_rfl) (by kernel_rfl) ?_
  refine Hs.run0 300 (fun _ => by kernel_rfl) ?_
  exact Hs.ret (v := .func (.func 69) #[] #[]) Tryz.func44 (by kernel_rfl) fun w' H => ⟨rfl, H.only⟩
/-- Numbers of flags. -/
abbrev FI := { x : Int // 30 ≤ x ∧ x ≤ 93 }
def mkF (x : Int) : FI := if h : 30 ≤ x ∧ x ≤ 93 then ⟨x, h⟩ else ⟨30, by decide⟩
theorem mkF_val {x : Int} (h : 30 ≤ x ∧ x ≤ 93) : (mkF x).1 = x := by unfold mkF; rw [dif_pos h]
def rng (lo : Int) (n : Nat) : List FI := (List.range n).map fun j => mkF (lo + (j : Nat))
theorem rng_succ (lo : Int) (n : Nat) : rng lo (n + 1) = rng lo n ++ [mkF (lo + (n : Nat))] := by simp [rng, List.range_succ]
theorem rng_len (lo : Int) (n : Nat) : (rng lo n).length = n := by simp [rng]
def upG : Nat → List FI
  | 0 => []
  | 1 => rng 30 13
  | 2 => rng 30 13 ++ rng 50 13
  | 3 => rng 30 13 ++ rng 50 13 ++ rng 70 6
  | 4 => rng 30 13 ++ rng 50 13 ++ rng 70 6 ++ rng 90 4
  | _ => []
theorem upG_1 : upG 1 = upG 0 ++ rng 30 13 := by simp [upG]
theorem upG_2 : upG 2 = upG 1 ++ rng 50 13 := by simp [upG]
theorem upG_3 : upG 3 = upG 2 ++ rng 70 6 := by simp [upG]
theorem upG_4 : upG 4 = upG 3 ++ rng 90 4 := by simp [upG]
/-- All flags, in their order. -/
def flagL : List FI := upG 4
/-- Cells beside the block B stay. -/
def KpB (B : Nat) (W W' : World) : Prop := W.heap.size ≤ W'.heap.size ∧ ∀ (a : Addr) (v : Value), a.block ≠ B → W.cell? a = some v → W'.cell? a = some v
theorem KpB.trans {B : Nat} {W W' W'' : World} (h : KpB B W W') (h' : KpB B W' W'') : KpB B W W'' := ⟨Nat.le_trans h.1 h'.1, fun a v hb hc => h'.2 a v hb (h.2 a v hb hc)⟩
theorem only_grown {w w' : World} (h : Only [] w w') : w.grownBy w' none := ⟨h.os, h.tape, h.output, h.size, fun k hk _ => h.block k hk (by simp)⟩
set_option maxRecDepth 100000 in
set_option maxHeartbeats 4000000 in
/-- The flags' iterator: all of them, in order. -/
theorem flags_stops (n B : Nat) (hn : 1 ≤ n) (w : World) (hB : B < w.heap.size) : SeqStopsK Fence.wide n Tryz.prog 69 #[] (fun x : FI => #[Value.int .i64 x.1]) (KpB B) (fun xs => xs = flagL) (fun _ => True) 36 w := fun l J Jx W hW hJ _ hY h0 => by
  refine callsIn_of_wp Tryz.func69 rfl trivial ?_ rfl
  simp only [Tryz.ntmps69, List.size_toArray, List.length_cons, List.length_nil, Nat.reduceAdd, Nat.reduceSub, Array.replicate_succ, Array.replicate_zero, List.push_toArray, List.append_toArray, List.nil_append, List.cons_append]
  gi_wp2_with (refine ⟨trivial, ?_⟩; gi_at_call 70; refine (callsIn_wide.2 (groups_any _)).mono ?_; rintro e w1 ⟨rfl, hO⟩)
  have hJ0 : J [] w1 := hJ [] W w1 none h0 (only_grown hO) (fun r e => by cases e)
  have hsz : W.heap.size ≤ w1.heap.size := hO.size
  have hB1 : B < W.heap.size := Nat.lt_of_lt_of_le hB hW.size
  gi_loopw [6] (fun p wr => ∃ k : Nat, k ≤ 4 ∧ p = .int .i64 (k : Nat) ∧ J (upG k) wr ∧ W.heap.size ≤ wr.heap.size)
    (fun p _ => 4 - (intOf p).toNat)
  case atStart => exact ⟨0, by omega, rfl, hJ0, hsz⟩
  case round =>
    obtain ⟨k, hk, rfl, hJs, hsw⟩ := hrel
    obtain ⟨wo, rfl⟩ : ∃ wo : World, wo = wr := ⟨_, rfl⟩
    have hk5 : k = 0 ∨ k = 1 ∨ k = 2 ∨ k = 3 ∨ k = 4 := by omega
    rcases hk5 with rfl | rfl | rfl | rfl | rfl
    · gi_wp2
      have hix : ∀ w, (Instr.index 164 (.agg #[.int .i64 30, .int .i64 42, .int .i64 50, .int .i64 62, .int .i64 70, .int .i64 75, .int .i64 90, .int .i64 93]) (.int .i64 0)).run Tryz.prog w = .ok (.agg #[.int .i64 30, .int .i64 42]) w := fun w => by kernel_rfl
      rw [hix]
      gi_wp2
      gi_loopw [4] (fun p wr2 => ∃ j : Nat, j ≤ 13 ∧ p = .int .i64 (30 + (j : Nat)) ∧ J (upG 0 ++ rng 30 j) wr2 ∧ wr2.cell? ⟨wo.heap.size, 1, none⟩ = some (.int .i64 42) ∧ wo.heap.size ≤ wr2.heap.size)
        (fun p _ => 13 - (intOf p - 30).toNat)
      case atStart =>
        exact ⟨0, by omega, by simp, by
          rw [show upG 0 ++ rng 30 0 = upG 0 by simp [rng]]
          exact hJ _ wo _ none hJs (World.grownBy_alloc wo _ none) (fun r e => by cases e), (Blk.new wo 163 [.int .i64 30, .int .i64 42]).cell 1, by simp⟩
      case round =>
        obtain ⟨j, hj, rfl, hJ2, hc2, hs2⟩ := hrel
        by_cases hlt : j < 13
        · obtain ⟨fn, tmps, assign, body, hy, hR⟩ := hY _ (mkF (30 + (j : Nat))) _ hJ2 (by rw [List.length_append, rng_len]; show 0 + j < 36; omega)
          have hmk : (mkF (30 + (j : Nat))).1 = 30 + (j : Nat) := mkF_val ⟨by omega, by omega⟩
          rw [hmk] at hy
          gi_wp2
          refine hR.mono ?_
          rintro e W3 (⟨rfl, hJ3, hk3⟩ | ⟨rfl, hJx3⟩)
          · gi_wp2
            go_roundw
            case rel => exact ⟨j + 1, by omega, by simp; omega, by rw [rng_succ, ← List.append_assoc]; exact hJ3, hk3.2 ⟨wo.heap.size, 1, none⟩ _ (by show wo.heap.size ≠ B; omega) hc2, Nat.le_trans hs2 hk3.1⟩
            case measure => simp [intOf]; omega
          · gi_wp2
            refine bodyPost_ret (results_none rfl _ _ _) rfl ?_
            exact ⟨⟨_, rfl⟩, .inr ⟨_, trivial, hJx3⟩⟩
        · obtain rfl : j = 13 := by omega
          gi_wp2
          go_roundw
          case rel => exact ⟨1, by omega, by simp, by rw [upG_1]; exact hJ2, Nat.le_trans hsw hs2⟩
          case measure => simp [intOf]
    · gi_wp2
      have hix : ∀ w, (Instr.index 164 (.agg #[.int .i64 30, .int .i64 42, .int .i64 50, .int .i64 62, .int .i64 70, .int .i64 75, .int .i64 90, .int .i64 93]) (.int .i64 1)).run Tryz.prog w = .ok (.agg #[.int .i64 50, .int .i64 62]) w := fun w => by kernel_rfl
      rw [hix]
      gi_wp2
      gi_loopw [4] (fun p wr2 => ∃ j : Nat, j ≤ 13 ∧ p = .int .i64 (50 + (j : Nat)) ∧ J (upG 1 ++ rng 50 j) wr2 ∧ wr2.cell? ⟨wo.heap.size, 1, none⟩ = some (.int .i64 62) ∧ wo.heap.size ≤ wr2.heap.size)
        (fun p _ => 13 - (intOf p - 50).toNat)
      case atStart =>
        exact ⟨0, by omega, by simp, by
          rw [show upG 1 ++ rng 50 0 = upG 1 by simp [rng]]
          exact hJ _ wo _ none hJs (World.grownBy_alloc wo _ none) (fun r e => by cases e), (Blk.new wo 163 [.int .i64 50, .int .i64 62]).cell 1, by simp⟩
      case round =>
        obtain ⟨j, hj, rfl, hJ2, hc2, hs2⟩ := hrel
        by_cases hlt : j < 13
        · obtain ⟨fn, tmps, assign, body, hy, hR⟩ := hY _ (mkF (50 + (j : Nat))) _ hJ2 (by rw [List.length_append, rng_len]; show 13 + j < 36; omega)
          have hmk : (mkF (50 + (j : Nat))).1 = 50 + (j : Nat) := mkF_val ⟨by omega, by omega⟩
          rw [hmk] at hy
          gi_wp2
          refine hR.mono ?_
          rintro e W3 (⟨rfl, hJ3, hk3⟩ | ⟨rfl, hJx3⟩)
          · gi_wp2
            go_roundw
            case rel => exact ⟨j + 1, by omega, by simp; omega, by rw [rng_succ, ← List.append_assoc]; exact hJ3, hk3.2 ⟨wo.heap.size, 1, none⟩ _ (by show wo.heap.size ≠ B; omega) hc2, Nat.le_trans hs2 hk3.1⟩
            case measure => simp [intOf]; omega
          · gi_wp2
            refine bodyPost_ret (results_none rfl _ _ _) rfl ?_
            exact ⟨⟨_, rfl⟩, .inr ⟨_, trivial, hJx3⟩⟩
        · obtain rfl : j = 13 := by omega
          gi_wp2
          go_roundw
          case rel => exact ⟨2, by omega, by simp, by rw [upG_2]; exact hJ2, Nat.le_trans hsw hs2⟩
          case measure => simp [intOf]
    · gi_wp2
      have hix : ∀ w, (Instr.index 164 (.agg #[.int .i64 30, .int .i64 42, .int .i64 50, .int .i64 62, .int .i64 70, .int .i64 75, .int .i64 90, .int .i64 93]) (.int .i64 2)).run Tryz.prog w = .ok (.agg #[.int .i64 70, .int .i64 75]) w := fun w => by kernel_rfl
      rw [hix]
      gi_wp2
      gi_loopw [4] (fun p wr2 => ∃ j : Nat, j ≤ 6 ∧ p = .int .i64 (70 + (j : Nat)) ∧ J (upG 2 ++ rng 70 j) wr2 ∧ wr2.cell? ⟨wo.heap.size, 1, none⟩ = some (.int .i64 75) ∧ wo.heap.size ≤ wr2.heap.size)
        (fun p _ => 6 - (intOf p - 70).toNat)
      case atStart =>
        exact ⟨0, by omega, by simp, by
          rw [show upG 2 ++ rng 70 0 = upG 2 by simp [rng]]
          exact hJ _ wo _ none hJs (World.grownBy_alloc wo _ none) (fun r e => by cases e), (Blk.new wo 163 [.int .i64 70, .int .i64 75]).cell 1, by simp⟩
      case round =>
        obtain ⟨j, hj, rfl, hJ2, hc2, hs2⟩ := hrel
        by_cases hlt : j < 6
        · obtain ⟨fn, tmps, assign, body, hy, hR⟩ := hY _ (mkF (70 + (j : Nat))) _ hJ2 (by rw [List.length_append, rng_len]; show 26 + j < 36; omega)
          have hmk : (mkF (70 + (j : Nat))).1 = 70 + (j : Nat) := mkF_val ⟨by omega, by omega⟩
          rw [hmk] at hy
          gi_wp2
          refine hR.mono ?_
          rintro e W3 (⟨rfl, hJ3, hk3⟩ | ⟨rfl, hJx3⟩)
          · gi_wp2
            go_roundw
            case rel => exact ⟨j + 1, by omega, by simp; omega, by rw [rng_succ, ← List.append_assoc]; exact hJ3, hk3.2 ⟨wo.heap.size, 1, none⟩ _ (by show wo.heap.size ≠ B; omega) hc2, Nat.le_trans hs2 hk3.1⟩
            case measure => simp [intOf]; omega
          · gi_wp2
            refine bodyPost_ret (results_none rfl _ _ _) rfl ?_
            exact ⟨⟨_, rfl⟩, .inr ⟨_, trivial, hJx3⟩⟩
        · obtain rfl : j = 6 := by omega
          gi_wp2
          go_roundw
          case rel => exact ⟨3, by omega, by simp, by rw [upG_3]; exact hJ2, Nat.le_trans hsw hs2⟩
          case measure => simp [intOf]
    · gi_wp2
      have hix : ∀ w, (Instr.index 164 (.agg #[.int .i64 30, .int .i64 42, .int .i64 50, .int .i64 62, .int .i64 70, .int .i64 75, .int .i64 90, .int .i64 93]) (.int .i64 3)).run Tryz.prog w = .ok (.agg #[.int .i64 90, .int .i64 93]) w := fun w => by kernel_rfl
      rw [hix]
      gi_wp2
      gi_loopw [4] (fun p wr2 => ∃ j : Nat, j ≤ 4 ∧ p = .int .i64 (90 + (j : Nat)) ∧ J (upG 3 ++ rng 90 j) wr2 ∧ wr2.cell? ⟨wo.heap.size, 1, none⟩ = some (.int .i64 93) ∧ wo.heap.size ≤ wr2.heap.size)
        (fun p _ => 4 - (intOf p - 90).toNat)
      case atStart =>
        exact ⟨0, by omega, by simp, by
          rw [show upG 3 ++ rng 90 0 = upG 3 by simp [rng]]
          exact hJ _ wo _ none hJs (World.grownBy_alloc wo _ none) (fun r e => by cases e), (Blk.new wo 163 [.int .i64 90, .int .i64 93]).cell 1, by simp⟩
      case round =>
        obtain ⟨j, hj, rfl, hJ2, hc2, hs2⟩ := hrel
        by_cases hlt : j < 4
        · obtain ⟨fn, tmps, assign, body, hy, hR⟩ := hY _ (mkF (90 + (j : Nat))) _ hJ2 (by rw [List.length_append, rng_len]; show 32 + j < 36; omega)
          have hmk : (mkF (90 + (j : Nat))).1 = 90 + (j : Nat) := mkF_val ⟨by omega, by omega⟩
          rw [hmk] at hy
          gi_wp2
          refine hR.mono ?_
          rintro e W3 (⟨rfl, hJ3, hk3⟩ | ⟨rfl, hJx3⟩)
          · gi_wp2
            go_roundw
            case rel => exact ⟨j + 1, by omega, by simp; omega, by rw [rng_succ, ← List.append_assoc]; exact hJ3, hk3.2 ⟨wo.heap.size, 1, none⟩ _ (by show wo.heap.size ≠ B; omega) hc2, Nat.le_trans hs2 hk3.1⟩
            case measure => simp [intOf]; omega
          · gi_wp2
            refine bodyPost_ret (results_none rfl _ _ _) rfl ?_
            exact ⟨⟨_, rfl⟩, .inr ⟨_, trivial, hJx3⟩⟩
        · obtain rfl : j = 4 := by omega
          gi_wp2
          go_roundw
          case rel => exact ⟨4, by omega, by simp, by rw [upG_4]; exact hJ2, Nat.le_trans hsw hs2⟩
          case measure => simp [intOf]
    · gi_wp2
      go_end0
      exact ⟨⟨_, rfl⟩, .inl ⟨_, rfl, hJs⟩⟩
def clrI (r op : Int) : Int := bits BinOp.andNot IntKind.u64 r (bitI op)
def restF (fl : Int) (pre : List FI) : Int := pre.foldl (fun r x => clrI r x.1) fl
theorem restF_snoc (fl : Int) (pre : List FI) (x : FI) : restF fl (pre ++ [x]) = clrI (restF fl pre) x.1 := by simp [restF]
def rightB (t : TM) : Bool := restF t.fl flagL == 0 && (t.ch 0 == 0 && (decide (t.mn ≥ 0) && (decide (t.mn ≤ 255) && (decide (t.tm ≥ 0) && decide (t.tm ≤ 255)))))
set_option maxRecDepth 100000 in
set_option maxHeartbeats 4000000 in
theorem right_any (t : TM) (w : World) : Calls Tryz.prog 23 #[t.val] w fun e w' => e = .returned (.bool (rightB t)) ∧ Below w.heap.size w w' := by
  unfold TM.val
  refine (callsIn_wide (n := 3)).1 ?_
  refine callsIn_of_wp_marks Tryz.func23 rfl trivial ?_ rfl
  simp only [Tryz.ntmps23, List.size_toArray, List.length_cons, List.length_nil, Nat.reduceAdd, Nat.reduceSub, Array.replicate_succ, Array.replicate_zero, List.push_toArray, List.append_toArray, List.nil_append, List.cons_append]
  gi_wp2_with (refine ⟨trivial, ?_⟩; gi_at_call 44; refine (callsIn_wide.2 (flagsF_any _)).mono ?_; rintro e w1 ⟨rfl, hO⟩)
  have b0 := (Blk.new w 28 (#[.int .u8 (t.ch 0), .int .u8 (t.ch 1), .int .u8 (t.ch 2), .int .u8 (t.ch 3), .int .u8 (t.ch 4), .int .u8 (t.ch 5), .int .u8 (t.ch 6), .int .u8 (t.ch 7), .int .u8 (t.ch 8), .int .u8 (t.ch 9), .int .u8 (t.ch 10), .int .u8 (t.ch 11), .int .u8 (t.ch 12), .int .u8 (t.ch 13), .int .u8 (t.ch 14), .int .u8 (t.ch 15), .int .u8 (t.ch 16), .int .u8 (t.ch 17), .int .u8 (t.ch 18), .int .u64 t.fl, .int .u32 t.inn, .int .u32 t.out, .int .i64 t.mn, .int .i64 t.tm] : Array Value).toList).alloc (.cells #[.int .u64 t.fl] 26)
  have b1 := Blk.new (w.alloc (.cells #[.int .u8 (t.ch 0), .int .u8 (t.ch 1), .int .u8 (t.ch 2), .int .u8 (t.ch 3), .int .u8 (t.ch 4), .int .u8 (t.ch 5), .int .u8 (t.ch 6), .int .u8 (t.ch 7), .int .u8 (t.ch 8), .int .u8 (t.ch 9), .int .u8 (t.ch 10), .int .u8 (t.ch 11), .int .u8 (t.ch 12), .int .u8 (t.ch 13), .int .u8 (t.ch 14), .int .u8 (t.ch 15), .int .u8 (t.ch 16), .int .u8 (t.ch 17), .int .u8 (t.ch 18), .int .u64 t.fl, .int .u32 t.inn, .int .u32 t.out, .int .i64 t.mn, .int .i64 t.tm] 28)) 26 [.int .u64 t.fl]
  have hs1 : (w.alloc (.cells #[.int .u8 (t.ch 0), .int .u8 (t.ch 1), .int .u8 (t.ch 2), .int .u8 (t.ch 3), .int .u8 (t.ch 4), .int .u8 (t.ch 5), .int .u8 (t.ch 6), .int .u8 (t.ch 7), .int .u8 (t.ch 8), .int .u8 (t.ch 9), .int .u8 (t.ch 10), .int .u8 (t.ch 11), .int .u8 (t.ch 12), .int .u8 (t.ch 13), .int .u8 (t.ch 14), .int .u8 (t.ch 15), .int .u8 (t.ch 16), .int .u8 (t.ch 17), .int .u8 (t.ch 18), .int .u64 t.fl, .int .u32 t.inn, .int .u32 t.out, .int .i64 t.mn, .int .i64 t.tm] 28)).heap.size = w.heap.size + 1 := by simp
  rw [hs1] at b1
  have hB0 : Below w.heap.size w ((w.alloc (.cells #[.int .u8 (t.ch 0), .int .u8 (t.ch 1), .int .u8 (t.ch 2), .int .u8 (t.ch 3), .int .u8 (t.ch 4), .int .u8 (t.ch 5), .int .u8 (t.ch 6), .int .u8 (t.ch 7), .int .u8 (t.ch 8), .int .u8 (t.ch 9), .int .u8 (t.ch 10), .int .u8 (t.ch 11), .int .u8 (t.ch 12), .int .u8 (t.ch 13), .int .u8 (t.ch 14), .int .u8 (t.ch 15), .int .u8 (t.ch 16), .int .u8 (t.ch 17), .int .u8 (t.ch 18), .int .u64 t.fl, .int .u32 t.inn, .int .u32 t.out, .int .i64 t.mn, .int .i64 t.tm] 28)).alloc (.cells #[.int .u64 t.fl] 26)) := ((Below.refl _ w).alloc (Nat.le_refl _) _).alloc (by simp) _
  have hB1 : Below w.heap.size w w1 := hB0.trans (hO.below (by simp; omega) (by simp))
  have hz : w.heap.size + 2 ≤ w1.heap.size := Nat.le_trans (by simp) hO.size
  replace b0 := b0.only hO (by simp)
  replace b1 := b1.only hO (by simp)
  refine wpIn_rangeFunc_ownF rfl (by omega) (gf := 69) (lb := #[]) rfl trivial (enters_of Tryz.func69 (by kernel_rfl) rfl)
    (flags_stops _ (w.heap.size + 1) (by omega) w1 (by omega)) KpB.trans (fun W l o o' hl ho hc _ => ⟨by simp, fun a v hb hv => cell_kept hv (grownBy_putObj' W l o') (fun r e => by cases e; exact ⟨o, ho, hc⟩)⟩) (Below.refl _ _) (fun _ => rfl)
    (fun pre W => ((∀ i v, (TM.cells t)[i]? = some v → W.cell? ⟨w.heap.size, i, none⟩ = some v) ∧ W.cell? ⟨w.heap.size + 1, 0, none⟩ = some (.int .u64 (restF t.fl pre)) ∧ W.frozen? ⟨w.heap.size + 1, 0, none⟩ = false) ∧ Below w.heap.size w W)
    (fun _ _ _ => False)
    (OwnFrom.and (Own.from (fun s A B row hs hg hr => ⟨fun i v hv => cell_kept (hs.1 i v hv) hg hr, cell_kept hs.2.1 hg hr, (frozen_kept hs.2.1 hg hr).trans hs.2.2⟩) _) (ownFrom_below (Nat.le_refl _) (by omega)))
    (fun _ _ _ _ _ hs _ _ => hs)
    ⟨⟨fun i v hv => by rw [b0.cell]; exact hv, b1.cell 0, b1.frozen 0⟩, hB1⟩
    (fun x => { tmps := #[(.agg #[.int .u8 (t.ch 0), .int .u8 (t.ch 1), .int .u8 (t.ch 2), .int .u8 (t.ch 3), .int .u8 (t.ch 4), .int .u8 (t.ch 5), .int .u8 (t.ch 6), .int .u8 (t.ch 7), .int .u8 (t.ch 8), .int .u8 (t.ch 9), .int .u8 (t.ch 10), .int .u8 (t.ch 11), .int .u8 (t.ch 12), .int .u8 (t.ch 13), .int .u8 (t.ch 14), .int .u8 (t.ch 15), .int .u8 (t.ch 16), .int .u8 (t.ch 17), .int .u8 (t.ch 18), .int .u64 t.fl, .int .u32 t.inn, .int .u32 t.out, .int .i64 t.mn, .int .i64 t.tm]), .pointer (some ⟨w.heap.size, 0, none⟩), .bool false, .pointer (some ⟨w.heap.size + 1, 0, none⟩), .int .i64 x.1, .pointer (some ⟨w.heap.size, 19, none⟩), .int .u64 t.fl, .func (.func 69) #[] #[], .int .i64 x.1, undef, undef, undef, undef, undef, undef, undef, undef, undef, undef, undef, undef, undef, undef, undef, undef, undef, undef, undef, undef, undef, undef, undef, undef, undef, undef, undef, undef, undef, undef, undef, undef], defers := [] }) ?assign ?body ?done ?stop
  case assign =>
    intro l x W K hK
    gi_wp2
    exact hK
  case body =>
    rintro l pre x W ⟨⟨hbx, hc, hf⟩, hB⟩ _
    have hd : 1 ≤ 3 - 1 - 1 := by omega
    have hmx : Tryz.prog.follows .mixedOrders = true := by kernel_rfl
    gi_wp2
    gi_region_with_o (refine ⟨trivial, ?_⟩; gi_at_call 45; refine (CallsIn.inRound l (bit_in Fence.wide _ trivial rfl x.1 x.2.1 x.2.2 _)).mono ?_; rintro e w' ⟨rfl, rfl⟩)
    all_goals gi_wp2
    all_goals (try go_bits)
    all_goals
      refine ⟨(KeepsOthers.setCell _ _ _).trans (KeepsOthers.drew _), ⟨by simp, fun a v hb hv => by rw [World.cell?_drew, World.cell?_setCell_other (h := fun e => hb (by rw [← e]))]; exact hv⟩, ⟨⟨fun i v hv => ?_, ?_, ?_⟩, ?_⟩⟩
      · rw [World.cell?_drew, World.cell?_setCell_other (h := fun e => by have := congrArg Addr.block e; simp at this)]; exact hbx i v hv
      · rw [World.cell?_drew, World.cell?_setCell_same (h := hc), restF_snoc]; rfl
      · rw [World.frozen?_drew, World.frozen?_setCell]; exact hf
      · exact hB.trans (((Below.refl _ _).setCell (by show w.heap.size ≤ w.heap.size + 1; omega) _).drew)
  case done =>
    rintro D ys W hD rfl ⟨⟨hbx, hc, hf⟩, hB⟩ hK
    have c0 : W.cell? ⟨w.heap.size, 0, none⟩ = some (.int .u8 (t.ch 0)) := hbx 0 _ rfl
    have c22 : W.cell? ⟨w.heap.size, 22, none⟩ = some (.int .i64 t.mn) := hbx 22 _ rfl
    have c23 : W.cell? ⟨w.heap.size, 23, none⟩ = some (.int .i64 t.tm) := hbx 23 _ rfl
    gi_wp2
    all_goals
      refine ⟨by simp, .inl ⟨_, _, rfl, run_takeDeferred hK, ?_⟩⟩
      refine ⟨_, results_tmp rfl _ _ _, ?_, hB.trans (belowK_b (w := w) (Nat.le_refl _) W D _ _ (by omega) hK rfl rfl)⟩
      refine congrArg Ending.returned ?_
      simp_all [rightB]
      try omega
  case stop =>
    rintro D c pre W _ _ h _
    exact h.elim
end Go.Proofs.YtdplnedpbkpgpaaGreatDoor

namespace Go.Proofs.YtdplnedpbkpgpaaGreatDoor
set_option linter.all false
set_option maxRecDepth 100000
open Go.RowKit

def tDef : TM := ⟨fun k => [0, 3, 28, 127, 21, 4, 255, 255, 17, 19, 26, 255, 18, 23, 22, 255, 255, 255, 15].getD k 0, 2305848510591797568, 38400, 38400, 1, 0⟩
/-- A session. -/
structure SS where
  pty : Bool
  term : ByteArray
  c0 : Int
  c1 : Int
  c2 : Int
  c3 : Int
  t : TM
  env : List VR
  st : Bool
def SS.val (s : SS) (A : Option Addr) (cap : Nat) : Value := .agg (#[.bool s.pty, .string s.term, .int .u32 s.c0, .int .u32 s.c1, .int .u32 s.c2, .int .u32 s.c3, .int .u8 (s.t.ch 0), .int .u8 (s.t.ch 1), .int .u8 (s.t.ch 2), .int .u8 (s.t.ch 3), .int .u8 (s.t.ch 4), .int .u8 (s.t.ch 5), .int .u8 (s.t.ch 6), .int .u8 (s.t.ch 7), .int .u8 (s.t.ch 8), .int .u8 (s.t.ch 9), .int .u8 (s.t.ch 10), .int .u8 (s.t.ch 11), .int .u8 (s.t.ch 12), .int .u8 (s.t.ch 13), .int .u8 (s.t.ch 14), .int .u8 (s.t.ch 15), .int .u8 (s.t.ch 16), .int .u8 (s.t.ch 17), .int .u8 (s.t.ch 18), .int .u64 s.t.fl, .int .u32 s.t.inn, .int .u32 s.t.out, .int .i64 s.t.mn, .int .i64 s.t.tm, .slice A s.env.length cap, .bool s.st])
def SS.sc (s : SS) (A : Option Addr) (cap : Nat) : List SC := [.v (.bool s.pty), .v (.string s.term), .v (.int .u32 s.c0), .v (.int .u32 s.c1), .v (.int .u32 s.c2), .v (.int .u32 s.c3), .v (.int .u8 (s.t.ch 0)), .v (.int .u8 (s.t.ch 1)), .v (.int .u8 (s.t.ch 2)), .v (.int .u8 (s.t.ch 3)), .v (.int .u8 (s.t.ch 4)), .v (.int .u8 (s.t.ch 5)), .v (.int .u8 (s.t.ch 6)), .v (.int .u8 (s.t.ch 7)), .v (.int .u8 (s.t.ch 8)), .v (.int .u8 (s.t.ch 9)), .v (.int .u8 (s.t.ch 10)), .v (.int .u8 (s.t.ch 11)), .v (.int .u8 (s.t.ch 12)), .v (.int .u8 (s.t.ch 13)), .v (.int .u8 (s.t.ch 14)), .v (.int .u8 (s.t.ch 15)), .v (.int .u8 (s.t.ch 16)), .v (.int .u8 (s.t.ch 17)), .v (.int .u8 (s.t.ch 18)), .v (.int .u64 s.t.fl), .v (.int .u32 s.t.inn), .v (.int .u32 s.t.out), .v (.int .i64 s.t.mn), .v (.int .i64 s.t.tm), .v (.slice A s.env.length cap), .v (.bool s.st)]
/-- What comes of a request. -/
structure AC where
  ok : Bool
  what : Int
  prog : Int
  sig : Int
  c0 : Int
  c1 : Int
  c2 : Int
  c3 : Int
def AC.val (a : AC) : Value := .agg #[.bool a.ok, .int .i64 a.what, .int .i64 a.prog, .int .i64 a.sig, .int .u32 a.c0, .int .u32 a.c1, .int .u32 a.c2, .int .u32 a.c3]
def noA : AC := ⟨false, 0, 0, 0, 0, 0, 0, 0⟩
def okA : AC := ⟨true, 0, 0, 0, 0, 0, 0, 0⟩
def shellS : ByteArray := ⟨#[115, 104, 101, 108, 108]⟩
def cutS (s : ByteArray) : ByteArray := ⟨(Lib.cut s.data.toList [32]).1.toArray⟩
def startS (s : SS) (nm : ByteArray) (ps : List PR) : SS × AC := if s.st then (s, noA) else if findB nm ps then ({ s with st := true }, ⟨true, 1, findN nm ps, 0, 0, 0, 0, 0⟩) else (s, noA)
def varI (nm : ByteArray) (l : List VR) : Int := idxS nm (l.map VR.n) 0
def ptyM (s : SS) (m : RQ) : SS × AC := if s.pty then (s, noA) else if s.st then (s, noA) else if (modesD tDef m.modes).2 ≠ 0 then (s, noA) else if rightB (modesD tDef m.modes).1 then ({ s with pty := true, term := m.text, c0 := m.cols, c1 := m.rows, c2 := m.width, c3 := m.height, t := (modesD tDef m.modes).1 }, okA) else (s, noA)
def envM (s : SS) (m : RQ) : SS × AC := if s.st then (s, noA) else if varI m.text s.env ≥ 0 then ({ s with env := s.env.set (varI m.text s.env).toNat ⟨((s.env.map VR.n)[(varI m.text s.env).toNat]?).getD ⟨#[]⟩, m.value⟩ }, okA) else if (s.env.length : Int) ≥ 16 then (s, noA) else ({ s with env := s.env ++ [⟨m.text, m.value⟩] }, okA)
def sizeM (s : SS) (m : RQ) : SS × AC := if s.pty then (if s.st then ({ s with c0 := m.cols, c1 := m.rows, c2 := m.width, c3 := m.height }, ⟨true, 2, 0, 0, m.cols, m.rows, m.width, m.height⟩) else ({ s with c0 := m.cols, c1 := m.rows, c2 := m.width, c3 := m.height }, okA)) else (s, noA)
def sigM (s : SS) (m : RQ) : SS × AC := if s.st then (if numB m.text then (if wireS (numS m.text) then (s, ⟨true, 3, 0, numS m.text, 0, 0, 0, 0⟩) else (s, noA)) else (s, noA)) else (s, noA)
/-- What is asked and what is to be done. -/
def kindM (s : SS) (m : RQ) (ps : List PR) : Nat → SS × AC
  | 1 => ptyM s m
  | 2 => envM s m
  | 3 => startS s shellS ps
  | 4 => startS s (cutS m.text) ps
  | 5 => startS s m.text ps
  | 6 => sizeM s m
  | 8 => sigM s m
  | _ => (s, noA)
def askM (s : SS) (m : RQ) (E : Int) (ps : List PR) : SS × AC := if E ≠ 0 then (s, noA) else kindM s m ps m.kind.toNat
theorem decK_kind {k : Nat} {l : List Int} {m : RQ} (h1 : 1 ≤ k) (h2 : k ≤ 10) (h : DecK k l m 0) : m.kind = (k : Int) := by
  unfold DecK at h
  split at h
  · rename_i hn
    exact absurd h.1.symm hn
  · obtain ⟨fs, hf, h⟩ := h
    split at h
    · rw [h.2]
      have e : ∀ (m0 : RQ) (k : Nat) (fs : List FD), (putR m0 k fs).kind = m0.kind := by
        intro m0 k fs
        unfold putR
        split <;> rfl
      rw [e]
      rfl
    · rename_i hn
      exact absurd h.1.symm hn
theorem decR_kind27 {nm : ByteArray} {l : List Int} {m : RQ} (h : DecR nm l m 0) : ∃ k : Nat, 1 ≤ k ∧ k ≤ 10 ∧ m.kind = (k : Int) := by
  unfold DecR at h
  split at h
  · exact absurd h.1 (by decide)
  · rename_i k hk
    obtain ⟨h1, h2, _⟩ := kindL_range hk
    exact ⟨k, h1, h2, decK_kind h1 h2 h⟩
def kindsV : Value := .agg #[.func (.func 51) #[] #[], .func (.func 52) #[] #[], .func (.func 53) #[] #[], .func (.func 54) #[] #[], .func (.func 55) #[] #[], .func (.func 56) #[] #[], .func (.func 57) #[] #[], .func (.func 51) #[] #[], .func (.func 58) #[] #[], .func (.func 51) #[] #[], .func (.func 51) #[] #[]]
theorem kinds_any27 (w : World) : Calls Tryz.prog 29 #[] w fun e w' => e = .returned kindsV ∧ Only [] w w' := by
  refine Hs.enter Tryz.func29 [] [] [] [] (Mem.start0 w) (by kernel_rfl) (by kernel_rfl) ?_
  refine Hs.run1 300 (fun _ => by kernel_rfl) fun b0 => ?_
  exact Hs.ret (v := kindsV) Tryz.func29 (by kernel_rfl) fun w' H => ⟨rfl, H.only⟩
theorem default_any27 (w : World) : Calls Tryz.prog 94 #[] w fun e w' => e = .returned tDef.val ∧ Only [] w w' := by
  refine Hs.enter Tryz.func94 [] [] [] [] (Mem.start0 w) (by kernel_rfl) (by kernel_rfl) ?_
  refine Hs.runK [45] 1200 2 Tryz.func94 rfl (by kernel_rfl) (fun ν => by kernel_rfl) (fun ν => by kernel_rfl) fun ν hν => ?_
  exact Hs.ret (v := tDef.val) Tryz.func94 (by kernel_rfl) fun w' H => ⟨rfl, H.only⟩
end Go.Proofs.YtdplnedpbkpgpaaGreatDoor
