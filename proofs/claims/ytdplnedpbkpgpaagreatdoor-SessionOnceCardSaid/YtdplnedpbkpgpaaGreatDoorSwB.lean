/- Layer 8: a setting that a stream of modes says; for all bytes and settings; no condition · Layer 4: the rules of all kinds; no condition · Layer 1: Write; for all fields (of a number that the laws ask), no condition · Layer 1's own examples: they hold; no condition · append(s, x...) for slices of texts: s of the call's own, x whatever reads as a list; no condition · append(s, x...) for slices of integers: s of the call's own, x whatever reads as a list; no condition · The document's answer for layer 1: Copy; no condition but the sizes that can be · Layer 4: words, lengths, the first error, texts and flags as fields; no condition · Layer 4: the getters; no condition but the sizes that can be. -/
import Derived.Test.YtdplnedpbkpgpaaGreatDoorSwA
import Derived.Test.YtdplnedpbkpgpaaGreatDoorEngAL
import Derived.Test.YtdplnedpbkpgpaaGreatDoorOctQ
import Derived.Laws.EntriesVeiled
import Derived.Laws.Tables
import Derived.Test.YtdplnedpbkpgpaaGreatDoorOctR
import Derived.Deep.OwnRows
import Derived.Lib.SmallJoins
import Derived.Laws.IdiomStrings
import Derived.Test.YtdplnedpbkpgpaaGreatDoorHeldB
namespace Go.Proofs.YtdplnedpbkpgpaaGreatDoor
set_option linter.all false
set_option maxRecDepth 100000
open Go.RowKit

def orD (a b : Int) : Int := IntKind.u32.wrap (((BitVec.ofInt IntKind.u32.bits a ||| BitVec.ofInt IntKind.u32.bits b).toNat : Nat) : Int)
def shD (a k : Int) : Int := IntKind.u32.wrap (IntKind.u32.wrap a * 2 ^ min (Int.toNat k) IntKind.u32.bits)
/-- The number that four bytes are. -/
def argD (a0 a1 a2 a3 : Int) : Int := orD (orD (orD (shD a0 24) (shD a1 16)) (shD a2 8)) (IntKind.u32.wrap a3)
theorem argument_any (A : Option Addr) (c n : Nat) (a0 a1 a2 a3 : Int) (r : List Int) (hn : (a0 :: a1 :: a2 :: a3 :: r).length = n) (w : World) (hr : RdX cu8 w A (a0 :: a1 :: a2 :: a3 :: r)) : Calls Tryz.prog 136 #[.slice A n c] w fun e w' => e = .returned (.int .u32 (argD a0 a1 a2 a3)) ∧ Only [] w w' := by
  obtain ⟨ab, ao, hA, hab, hc⟩ := hr (by simp)
  subst hA
  have hl : 4 ≤ n := by rw [← hn]; simp
  refine Hs.enter Tryz.func136 [] [ab] [outB cu8 ab ao (a0 :: a1 :: a2 :: a3 :: r)] [.c (.v (.slice (some ⟨ab, ao, none⟩) n c))] (Mem.out w ab ao _ hr (by simp)) (by kernel_rfl) (by kernel_rfl) ?_
  refine Hs.run0 300 (fun _ => by kernel_rfl) ?_
  refine Hs.any [0] (by kernel_rfl) ?_
  refine Hs.run0 300 (fun _ => by kernel_rfl) ?_
  refine Hs.takeIdx (rd := [0]) 1 elemU8 (b := ab) (off := ao) (c := c) (len := n) (i := 0) (by omega) (by kernel_rfl) ?_
  refine Hs.takeOut (E' := 5) (rd := [0]) 2 0 cu8_len (ab := ab) (ao := ao) (i := 0) (c := 0) (l := a0 :: a1 :: a2 :: a3 :: r) (x := a0) (.int .u8 a0) (by kernel_rfl) (by kernel_rfl) (by kernel_rfl) rfl rfl (by kernel_rfl) ?_
  refine Hs.takeIdx (rd := [0]) 6 elemU8 (b := ab) (off := ao) (c := c) (len := n) (i := 1) (by omega) (by kernel_rfl) ?_
  refine Hs.takeOut (E' := 5) (rd := [0]) 7 0 cu8_len (ab := ab) (ao := ao) (i := 1) (c := 0) (l := a0 :: a1 :: a2 :: a3 :: r) (x := a1) (.int .u8 a1) (by kernel_rfl) (by kernel_rfl) (by kernel_rfl) rfl rfl (by kernel_rfl) ?_
  refine Hs.takeIdx (rd := [0]) 12 elemU8 (b := ab) (off := ao) (c := c) (len := n) (i := 2) (by omega) (by kernel_rfl) ?_
  refine Hs.takeOut (E' := 5) (rd := [0]) 13 0 cu8_len (ab := ab) (ao := ao) (i := 2) (c := 0) (l := a0 :: a1 :: a2 :: a3 :: r) (x := a2) (.int .u8 a2) (by kernel_rfl) (by kernel_rfl) (by kernel_rfl) rfl rfl (by kernel_rfl) ?_
  refine Hs.takeIdx (rd := [0]) 18 elemU8 (b := ab) (off := ao) (c := c) (len := n) (i := 3) (by omega) (by kernel_rfl) ?_
  refine Hs.takeOut (E' := 5) (rd := [0]) 19 0 cu8_len (ab := ab) (ao := ao) (i := 3) (c := 0) (l := a0 :: a1 :: a2 :: a3 :: r) (x := a3) (.int .u8 a3) (by kernel_rfl) (by kernel_rfl) (by kernel_rfl) rfl rfl (by kernel_rfl) ?_
  refine Hs.run0 300 (fun _ => by kernel_rfl) ?_
  exact Hs.ret (v := .int .u32 (argD a0 a1 a2 a3)) Tryz.func136 (by kernel_rfl) fun w' H => ⟨rfl, H.only⟩
def zeroT : TM := ⟨fun _ => 0, 0, 0, 0, 0, 0⟩
/-- A setting with one mode. -/
def modeD (t : TM) (op n : Int) : TM × Int := if op ≤ 18 then (if n > 255 then (zeroT, 5) else ({ t with ch := fun i => if i = op.toNat then IntKind.u8.wrap n else t.ch i }, 0)) else if op == 128 then ({ t with inn := n }, 0) else if op == 129 then ({ t with out := n }, 0) else (t.set op (n != 0), 0)
theorem c18 {n : Int} (h1 : 1 ≤ n) (h2 : n ≤ 18) : n = 1 ∨ n = 2 ∨ n = 3 ∨ n = 4 ∨ n = 5 ∨ n = 6 ∨ n = 7 ∨ n = 8 ∨ n = 9 ∨ n = 10 ∨ n = 11 ∨ n = 12 ∨ n = 13 ∨ n = 14 ∨ n = 15 ∨ n = 16 ∨ n = 17 ∨ n = 18 := by omega
theorem TM.eta (t : TM) : (⟨t.ch, t.fl, t.inn, t.out, t.mn, t.tm⟩ : TM) = t := rfl
set_option maxHeartbeats 4000000 in
theorem mode_any (t : TM) (op n : Int) (h1 : 1 ≤ op) (w : World) : Calls Tryz.prog 135 #[t.val, .int .i64 op, .int .u32 n] w fun e w' => e = .returned (.tuple #[(modeD t op n).1.val, .int .i64 (modeD t op n).2]) ∧ Only [] w w' := by
  unfold modeD
  by_cases h2 : op ≤ 18
  · rw [if_pos h2]
    rcases c18 h1 h2 with rfl | rfl | rfl | rfl | rfl | rfl | rfl | rfl | rfl | rfl | rfl | rfl | rfl | rfl | rfl | rfl | rfl | rfl
    · refine Hs.enter Tryz.func135 [] [] [] [.g t.sc, .c (.v (.int .i64 1)), .c (.v (.int .u32 n))] (Mem.start0 w) (by kernel_rfl) (by kernel_rfl) ?_
      refine Hs.run2 300 (fun _ => by kernel_rfl) fun b0 b1 => ?_
      refine Hs.condT (by kernel_rfl) ?_
      refine Hs.run0 300 (fun _ => by kernel_rfl) ?_
      refine Hs.condP (n > 255) (by kernel_rfl) (fun h3 => ?_) (fun h3 => ?_)
      · rw [if_pos h3]
        refine Hs.run0 300 (fun _ => by kernel_rfl) ?_
        exact Hs.ret (v := .tuple #[zeroT.val, .int .i64 5]) Tryz.func135 (by kernel_rfl) fun w' H => ⟨rfl, H.only⟩
      · rw [if_neg h3]
        refine Hs.run0 300 (fun _ => by kernel_rfl) ?_
        exact Hs.ret (v := .tuple #[TM.val { t with ch := fun i => if i = 1 then IntKind.u8.wrap n else t.ch i }, .int .i64 0]) Tryz.func135 (by kernel_rfl) fun w' H => ⟨rfl, H.only⟩
    · refine Hs.enter Tryz.func135 [] [] [] [.g t.sc, .c (.v (.int .i64 2)), .c (.v (.int .u32 n))] (Mem.start0 w) (by kernel_rfl) (by kernel_rfl) ?_
      refine Hs.run2 300 (fun _ => by kernel_rfl) fun b0 b1 => ?_
      refine Hs.condT (by kernel_rfl) ?_
      refine Hs.run0 300 (fun _ => by kernel_rfl) ?_
      refine Hs.condP (n > 255) (by kernel_rfl) (fun h3 => ?_) (fun h3 => ?_)
      · rw [if_pos h3]
        refine Hs.run0 300 (fun _ => by kernel_rfl) ?_
        exact Hs.ret (v := .tuple #[zeroT.val, .int .i64 5]) Tryz.func135 (by kernel_rfl) fun w' H => ⟨rfl, H.only⟩
      · rw [if_neg h3]
        refine Hs.run0 300 (fun _ => by kernel_rfl) ?_
        exact Hs.ret (v := .tuple #[TM.val { t with ch := fun i => if i = 2 then IntKind.u8.wrap n else t.ch i }, .int .i64 0]) Tryz.func135 (by kernel_rfl) fun w' H => ⟨rfl, H.only⟩
    · refine Hs.enter Tryz.func135 [] [] [] [.g t.sc, .c (.v (.int .i64 3)), .c (.v (.int .u32 n))] (Mem.start0 w) (by kernel_rfl) (by kernel_rfl) ?_
      refine Hs.run2 300 (fun _ => by kernel_rfl) fun b0 b1 => ?_
      refine Hs.condT (by kernel_rfl) ?_
      refine Hs.run0 300 (fun _ => by kernel_rfl) ?_
      refine Hs.condP (n > 255) (by kernel_rfl) (fun h3 => ?_) (fun h3 => ?_)
      · rw [if_pos h3]
        refine Hs.run0 300 (fun _ => by kernel_rfl) ?_
        exact Hs.ret (v := .tuple #[zeroT.val, .int .i64 5]) Tryz.func135 (by kernel_rfl) fun w' H => ⟨rfl, H.only⟩
      · rw [if_neg h3]
        refine Hs.run0 300 (fun _ => by kernel_rfl) ?_
        exact Hs.ret (v := .tuple #[TM.val { t with ch := fun i => if i = 3 then IntKind.u8.wrap n else t.ch i }, .int .i64 0]) Tryz.func135 (by kernel_rfl) fun w' H => ⟨rfl, H.only⟩
    · refine Hs.enter Tryz.func135 [] [] [] [.g t.sc, .c (.v (.int .i64 4)), .c (.v (.int .u32 n))] (Mem.start0 w) (by kernel_rfl) (by kernel_rfl) ?_
      refine Hs.run2 300 (fun _ => by kernel_rfl) fun b0 b1 => ?_
      refine Hs.condT (by kernel_rfl) ?_
      refine Hs.run0 300 (fun _ => by kernel_rfl) ?_
      refine Hs.condP (n > 255) (by kernel_rfl) (fun h3 => ?_) (fun h3 => ?_)
      · rw [if_pos h3]
        refine Hs.run0 300 (fun _ => by kernel_rfl) ?_
        exact Hs.ret (v := .tuple #[zeroT.val, .int .i64 5]) Tryz.func135 (by kernel_rfl) fun w' H => ⟨rfl, H.only⟩
      · rw [if_neg h3]
        refine Hs.run0 300 (fun _ => by kernel_rfl) ?_
        exact Hs.ret (v := .tuple #[TM.val { t with ch := fun i => if i = 4 then IntKind.u8.wrap n else t.ch i }, .int .i64 0]) Tryz.func135 (by kernel_rfl) fun w' H => ⟨rfl, H.only⟩
    · refine Hs.enter Tryz.func135 [] [] [] [.g t.sc, .c (.v (.int .i64 5)), .c (.v (.int .u32 n))] (Mem.start0 w) (by kernel_rfl) (by kernel_rfl) ?_
      refine Hs.run2 300 (fun _ => by kernel_rfl) fun b0 b1 => ?_
      refine Hs.condT (by kernel_rfl) ?_
      refine Hs.run0 300 (fun _ => by kernel_rfl) ?_
      refine Hs.condP (n > 255) (by kernel_rfl) (fun h3 => ?_) (fun h3 => ?_)
      · rw [if_pos h3]
        refine Hs.run0 300 (fun _ => by kernel_rfl) ?_
        exact Hs.ret (v := .tuple #[zeroT.val, .int .i64 5]) Tryz.func135 (by kernel_rfl) fun w' H => ⟨rfl, H.only⟩
      · rw [if_neg h3]
        refine Hs.run0 300 (fun _ => by kernel_rfl) ?_
        exact Hs.ret (v := .tuple #[TM.val { t with ch := fun i => if i = 5 then IntKind.u8.wrap n else t.ch i }, .int .i64 0]) Tryz.func135 (by kernel_rfl) fun w' H => ⟨rfl, H.only⟩
    · refine Hs.enter Tryz.func135 [] [] [] [.g t.sc, .c (.v (.int .i64 6)), .c (.v (.int .u32 n))] (Mem.start0 w) (by kernel_rfl) (by kernel_rfl) ?_
      refine Hs.run2 300 (fun _ => by kernel_rfl) fun b0 b1 => ?_
      refine Hs.condT (by kernel_rfl) ?_
      refine Hs.run0 300 (fun _ => by kernel_rfl) ?_
      refine Hs.condP (n > 255) (by kernel_rfl) (fun h3 => ?_) (fun h3 => ?_)
      · rw [if_pos h3]
        refine Hs.run0 300 (fun _ => by kernel_rfl) ?_
        exact Hs.ret (v := .tuple #[zeroT.val, .int .i64 5]) Tryz.func135 (by kernel_rfl) fun w' H => ⟨rfl, H.only⟩
      · rw [if_neg h3]
        refine Hs.run0 300 (fun _ => by kernel_rfl) ?_
        exact Hs.ret (v := .tuple #[TM.val { t with ch := fun i => if i = 6 then IntKind.u8.wrap n else t.ch i }, .int .i64 0]) Tryz.func135 (by kernel_rfl) fun w' H => ⟨rfl, H.only⟩
    · refine Hs.enter Tryz.func135 [] [] [] [.g t.sc, .c (.v (.int .i64 7)), .c (.v (.int .u32 n))] (Mem.start0 w) (by kernel_rfl) (by kernel_rfl) ?_
      refine Hs.run2 300 (fun _ => by kernel_rfl) fun b0 b1 => ?_
      refine Hs.condT (by kernel_rfl) ?_
      refine Hs.run0 300 (fun _ => by kernel_rfl) ?_
      refine Hs.condP (n > 255) (by kernel_rfl) (fun h3 => ?_) (fun h3 => ?_)
      · rw [if_pos h3]
        refine Hs.run0 300 (fun _ => by kernel_rfl) ?_
        exact Hs.ret (v := .tuple #[zeroT.val, .int .i64 5]) Tryz.func135 (by kernel_rfl) fun w' H => ⟨rfl, H.only⟩
      · rw [if_neg h3]
        refine Hs.run0 300 (fun _ => by kernel_rfl) ?_
        exact Hs.ret (v := .tuple #[TM.val { t with ch := fun i => if i = 7 then IntKind.u8.wrap n else t.ch i }, .int .i64 0]) Tryz.func135 (by kernel_rfl) fun w' H => ⟨rfl, H.only⟩
    · refine Hs.enter Tryz.func135 [] [] [] [.g t.sc, .c (.v (.int .i64 8)), .c (.v (.int .u32 n))] (Mem.start0 w) (by kernel_rfl) (by kernel_rfl) ?_
      refine Hs.run2 300 (fun _ => by kernel_rfl) fun b0 b1 => ?_
      refine Hs.condT (by kernel_rfl) ?_
      refine Hs.run0 300 (fun _ => by kernel_rfl) ?_
      refine Hs.condP (n > 255) (by kernel_rfl) (fun h3 => ?_) (fun h3 => ?_)
      · rw [if_pos h3]
        refine Hs.run0 300 (fun _ => by kernel_rfl) ?_
        exact Hs.ret (v := .tuple #[zeroT.val, .int .i64 5]) Tryz.func135 (by kernel_rfl) fun w' H => ⟨rfl, H.only⟩
      · rw [if_neg h3]
        refine Hs.run0 300 (fun _ => by kernel_rfl) ?_
        exact Hs.ret (v := .tuple #[TM.val { t with ch := fun i => if i = 8 then IntKind.u8.wrap n else t.ch i }, .int .i64 0]) Tryz.func135 (by kernel_rfl) fun w' H => ⟨rfl, H.only⟩
    · refine Hs.enter Tryz.func135 [] [] [] [.g t.sc, .c (.v (.int .i64 9)), .c (.v (.int .u32 n))] (Mem.start0 w) (by kernel_rfl) (by kernel_rfl) ?_
      refine Hs.run2 300 (fun _ => by kernel_rfl) fun b0 b1 => ?_
      refine Hs.condT (by kernel_rfl) ?_
      refine Hs.run0 300 (fun _ => by kernel_rfl) ?_
      refine Hs.condP (n > 255) (by kernel_rfl) (fun h3 => ?_) (fun h3 => ?_)
      · rw [if_pos h3]
        refine Hs.run0 300 (fun _ => by kernel_rfl) ?_
        exact Hs.ret (v := .tuple #[zeroT.val, .int .i64 5]) Tryz.func135 (by kernel_rfl) fun w' H => ⟨rfl, H.only⟩
      · rw [if_neg h3]
        refine Hs.run0 300 (fun _ => by kernel_rfl) ?_
        exact Hs.ret (v := .tuple #[TM.val { t with ch := fun i => if i = 9 then IntKind.u8.wrap n else t.ch i }, .int .i64 0]) Tryz.func135 (by kernel_rfl) fun w' H => ⟨rfl, H.only⟩
    · refine Hs.enter Tryz.func135 [] [] [] [.g t.sc, .c (.v (.int .i64 10)), .c (.v (.int .u32 n))] (Mem.start0 w) (by kernel_rfl) (by kernel_rfl) ?_
      refine Hs.run2 300 (fun _ => by kernel_rfl) fun b0 b1 => ?_
      refine Hs.condT (by kernel_rfl) ?_
      refine Hs.run0 300 (fun _ => by kernel_rfl) ?_
      refine Hs.condP (n > 255) (by kernel_rfl) (fun h3 => ?_) (fun h3 => ?_)
      · rw [if_pos h3]
        refine Hs.run0 300 (fun _ => by kernel_rfl) ?_
        exact Hs.ret (v := .tuple #[zeroT.val, .int .i64 5]) Tryz.func135 (by kernel_rfl) fun w' H => ⟨rfl, H.only⟩
      · rw [if_neg h3]
        refine Hs.run0 300 (fun _ => by kernel_rfl) ?_
        exact Hs.ret (v := .tuple #[TM.val { t with ch := fun i => if i = 10 then IntKind.u8.wrap n else t.ch i }, .int .i64 0]) Tryz.func135 (by kernel_rfl) fun w' H => ⟨rfl, H.only⟩
    · refine Hs.enter Tryz.func135 [] [] [] [.g t.sc, .c (.v (.int .i64 11)), .c (.v (.int .u32 n))] (Mem.start0 w) (by kernel_rfl) (by kernel_rfl) ?_
      refine Hs.run2 300 (fun _ => by kernel_rfl) fun b0 b1 => ?_
      refine Hs.condT (by kernel_rfl) ?_
      refine Hs.run0 300 (fun _ => by kernel_rfl) ?_
      refine Hs.condP (n > 255) (by kernel_rfl) (fun h3 => ?_) (fun h3 => ?_)
      · rw [if_pos h3]
        refine Hs.run0 300 (fun _ => by kernel_rfl) ?_
        exact Hs.ret (v := .tuple #[zeroT.val, .int .i64 5]) Tryz.func135 (by kernel_rfl) fun w' H => ⟨rfl, H.only⟩
      · rw [if_neg h3]
        refine Hs.run0 300 (fun _ => by kernel_rfl) ?_
        exact Hs.ret (v := .tuple #[TM.val { t with ch := fun i => if i = 11 then IntKind.u8.wrap n else t.ch i }, .int .i64 0]) Tryz.func135 (by kernel_rfl) fun w' H => ⟨rfl, H.only⟩
    · refine Hs.enter Tryz.func135 [] [] [] [.g t.sc, .c (.v (.int .i64 12)), .c (.v (.int .u32 n))] (Mem.start0 w) (by kernel_rfl) (by kernel_rfl) ?_
      refine Hs.run2 300 (fun _ => by kernel_rfl) fun b0 b1 => ?_
      refine Hs.condT (by kernel_rfl) ?_
      refine Hs.run0 300 (fun _ => by kernel_rfl) ?_
      refine Hs.condP (n > 255) (by kernel_rfl) (fun h3 => ?_) (fun h3 => ?_)
      · rw [if_pos h3]
        refine Hs.run0 300 (fun _ => by kernel_rfl) ?_
        exact Hs.ret (v := .tuple #[zeroT.val, .int .i64 5]) Tryz.func135 (by kernel_rfl) fun w' H => ⟨rfl, H.only⟩
      · rw [if_neg h3]
        refine Hs.run0 300 (fun _ => by kernel_rfl) ?_
        exact Hs.ret (v := .tuple #[TM.val { t with ch := fun i => if i = 12 then IntKind.u8.wrap n else t.ch i }, .int .i64 0]) Tryz.func135 (by kernel_rfl) fun w' H => ⟨rfl, H.only⟩
    · refine Hs.enter Tryz.func135 [] [] [] [.g t.sc, .c (.v (.int .i64 13)), .c (.v (.int .u32 n))] (Mem.start0 w) (by kernel_rfl) (by kernel_rfl) ?_
      refine Hs.run2 300 (fun _ => by kernel_rfl) fun b0 b1 => ?_
      refine Hs.condT (by kernel_rfl) ?_
      refine Hs.run0 300 (fun _ => by kernel_rfl) ?_
      refine Hs.condP (n > 255) (by kernel_rfl) (fun h3 => ?_) (fun h3 => ?_)
      · rw [if_pos h3]
        refine Hs.run0 300 (fun _ => by kernel_rfl) ?_
        exact Hs.ret (v := .tuple #[zeroT.val, .int .i64 5]) Tryz.func135 (by kernel_rfl) fun w' H => ⟨rfl, H.only⟩
      · rw [if_neg h3]
        refine Hs.run0 300 (fun _ => by kernel_rfl) ?_
        exact Hs.ret (v := .tuple #[TM.val { t with ch := fun i => if i = 13 then IntKind.u8.wrap n else t.ch i }, .int .i64 0]) Tryz.func135 (by kernel_rfl) fun w' H => ⟨rfl, H.only⟩
    · refine Hs.enter Tryz.func135 [] [] [] [.g t.sc, .c (.v (.int .i64 14)), .c (.v (.int .u32 n))] (Mem.start0 w) (by kernel_rfl) (by kernel_rfl) ?_
      refine Hs.run2 300 (fun _ => by kernel_rfl) fun b0 b1 => ?_
      refine Hs.condT (by kernel_rfl) ?_
      refine Hs.run0 300 (fun _ => by kernel_rfl) ?_
      refine Hs.condP (n > 255) (by kernel_rfl) (fun h3 => ?_) (fun h3 => ?_)
      · rw [if_pos h3]
        refine Hs.run0 300 (fun _ => by kernel_rfl) ?_
        exact Hs.ret (v := .tuple #[zeroT.val, .int .i64 5]) Tryz.func135 (by kernel_rfl) fun w' H => ⟨rfl, H.only⟩
      · rw [if_neg h3]
        refine Hs.run0 300 (fun _ => by kernel_rfl) ?_
        exact Hs.ret (v := .tuple #[TM.val { t with ch := fun i => if i = 14 then IntKind.u8.wrap n else t.ch i }, .int .i64 0]) Tryz.func135 (by kernel_rfl) fun w' H => ⟨rfl, H.only⟩
    · refine Hs.enter Tryz.func135 [] [] [] [.g t.sc, .c (.v (.int .i64 15)), .c (.v (.int .u32 n))] (Mem.start0 w) (by kernel_rfl) (by kernel_rfl) ?_
      refine Hs.run2 300 (fun _ => by kernel_rfl) fun b0 b1 => ?_
      refine Hs.condT (by kernel_rfl) ?_
      refine Hs.run0 300 (fun _ => by kernel_rfl) ?_
      refine Hs.condP (n > 255) (by kernel_rfl) (fun h3 => ?_) (fun h3 => ?_)
      · rw [if_pos h3]
        refine Hs.run0 300 (fun _ => by kernel_rfl) ?_
        exact Hs.ret (v := .tuple #[zeroT.val, .int .i64 5]) Tryz.func135 (by kernel_rfl) fun w' H => ⟨rfl, H.only⟩
      · rw [if_neg h3]
        refine Hs.run0 300 (fun _ => by kernel_rfl) ?_
        exact Hs.ret (v := .tuple #[TM.val { t with ch := fun i => if i = 15 then IntKind.u8.wrap n else t.ch i }, .int .i64 0]) Tryz.func135 (by kernel_rfl) fun w' H => ⟨rfl, H.only⟩
    · refine Hs.enter Tryz.func135 [] [] [] [.g t.sc, .c (.v (.int .i64 16)), .c (.v (.int .u32 n))] (Mem.start0 w) (by kernel_rfl) (by kernel_rfl) ?_
      refine Hs.run2 300 (fun _ => by kernel_rfl) fun b0 b1 => ?_
      refine Hs.condT (by kernel_rfl) ?_
      refine Hs.run0 300 (fun _ => by kernel_rfl) ?_
      refine Hs.condP (n > 255) (by kernel_rfl) (fun h3 => ?_) (fun h3 => ?_)
      · rw [if_pos h3]
        refine Hs.run0 300 (fun _ => by kernel_rfl) ?_
        exact Hs.ret (v := .tuple #[zeroT.val, .int .i64 5]) Tryz.func135 (by kernel_rfl) fun w' H => ⟨rfl, H.only⟩
      · rw [if_neg h3]
        refine Hs.run0 300 (fun _ => by kernel_rfl) ?_
        exact Hs.ret (v := .tuple #[TM.val { t with ch := fun i => if i = 16 then IntKind.u8.wrap n else t.ch i }, .int .i64 0]) Tryz.func135 (by kernel_rfl) fun w' H => ⟨rfl, H.only⟩
    · refine Hs.enter Tryz.func135 [] [] [] [.g t.sc, .c (.v (.int .i64 17)), .c (.v (.int .u32 n))] (Mem.start0 w) (by kernel_rfl) (by kernel_rfl) ?_
      refine Hs.run2 300 (fun _ => by kernel_rfl) fun b0 b1 => ?_
      refine Hs.condT (by kernel_rfl) ?_
      refine Hs.run0 300 (fun _ => by kernel_rfl) ?_
      refine Hs.condP (n > 255) (by kernel_rfl) (fun h3 => ?_) (fun h3 => ?_)
      · rw [if_pos h3]
        refine Hs.run0 300 (fun _ => by kernel_rfl) ?_
        exact Hs.ret (v := .tuple #[zeroT.val, .int .i64 5]) Tryz.func135 (by kernel_rfl) fun w' H => ⟨rfl, H.only⟩
      · rw [if_neg h3]
        refine Hs.run0 300 (fun _ => by kernel_rfl) ?_
        exact Hs.ret (v := .tuple #[TM.val { t with ch := fun i => if i = 17 then IntKind.u8.wrap n else t.ch i }, .int .i64 0]) Tryz.func135 (by kernel_rfl) fun w' H => ⟨rfl, H.only⟩
    · refine Hs.enter Tryz.func135 [] [] [] [.g t.sc, .c (.v (.int .i64 18)), .c (.v (.int .u32 n))] (Mem.start0 w) (by kernel_rfl) (by kernel_rfl) ?_
      refine Hs.run2 300 (fun _ => by kernel_rfl) fun b0 b1 => ?_
      refine Hs.condT (by kernel_rfl) ?_
      refine Hs.run0 300 (fun _ => by kernel_rfl) ?_
      refine Hs.condP (n > 255) (by kernel_rfl) (fun h3 => ?_) (fun h3 => ?_)
      · rw [if_pos h3]
        refine Hs.run0 300 (fun _ => by kernel_rfl) ?_
        exact Hs.ret (v := .tuple #[zeroT.val, .int .i64 5]) Tryz.func135 (by kernel_rfl) fun w' H => ⟨rfl, H.only⟩
      · rw [if_neg h3]
        refine Hs.run0 300 (fun _ => by kernel_rfl) ?_
        exact Hs.ret (v := .tuple #[TM.val { t with ch := fun i => if i = 18 then IntKind.u8.wrap n else t.ch i }, .int .i64 0]) Tryz.func135 (by kernel_rfl) fun w' H => ⟨rfl, H.only⟩
  rw [if_neg h2]
  refine Hs.enter Tryz.func135 [] [] [] [.g t.sc, .c (.v (.int .i64 op)), .c (.v (.int .u32 n))] (Mem.start0 w) (by kernel_rfl) (by kernel_rfl) ?_
  refine Hs.run2 300 (fun _ => by kernel_rfl) fun b0 b1 => ?_
  refine Hs.condP (op ≤ 18) (by kernel_rfl) (fun h => absurd h h2) (fun _ => ?_)
  refine Hs.run0 300 (fun _ => by kernel_rfl) ?_
  refine Hs.cond (op == 128) (by kernel_rfl) (fun h3 => ?_) (fun h3 => ?_)
  · rw [if_pos h3]
    refine Hs.run0 300 (fun _ => by kernel_rfl) ?_
    exact Hs.ret (v := .tuple #[TM.val { t with inn := n }, .int .i64 0]) Tryz.func135 (by kernel_rfl) fun w' H => ⟨rfl, H.only⟩
  rw [if_neg (by rw [h3]; decide)]
  refine Hs.run0 300 (fun _ => by kernel_rfl) ?_
  refine Hs.cond (op == 129) (by kernel_rfl) (fun h4 => ?_) (fun h4 => ?_)
  · rw [if_pos h4]
    refine Hs.run0 300 (fun _ => by kernel_rfl) ?_
    exact Hs.ret (v := .tuple #[TM.val { t with out := n }, .int .i64 0]) Tryz.func135 (by kernel_rfl) fun w' H => ⟨rfl, H.only⟩
  rw [if_neg (by rw [h4]; decide)]
  refine Hs.run0 300 (fun _ => by kernel_rfl) ?_
  refine Hs.callV (fun w' H => set_any t op (n != 0) w') (by kernel_rfl) ?_
  refine Hs.run0 300 (fun _ => by kernel_rfl) ?_
  exact Hs.ret (v := .tuple #[(t.set op (n != 0)).val, .int .i64 0]) Tryz.func135 (by kernel_rfl) fun w' H => ⟨rfl, H.only⟩
/-- A setting with what a stream of modes says. -/
def modesD (t : TM) : List Int → TM × Int
  | [] => (t, 0)
  | op :: a :: b :: c :: d :: r => if op = 0 ∨ 160 ≤ op then (t, 0) else if (modeD t op (argD a b c d)).2 ≠ 0 then (zeroT, (modeD t op (argD a b c d)).2) else modesD (modeD t op (argD a b c d)).1 r
  | op :: _ => if op = 0 ∨ 160 ≤ op then (t, 0) else (zeroT, 3)
theorem modesD_short {t : TM} {op : Int} {r : List Int} (h : r.length < 4) : modesD t (op :: r) = if op = 0 ∨ 160 ≤ op then (t, 0) else (zeroT, 3) := by
  match r, h with
  | [], _ => rfl
  | [_], _ => rfl
  | [_, _], _ => rfl
  | [_, _, _], _ => rfl
set_option maxHeartbeats 4000000 in
theorem mdecode_any (t : TM) (A : Option Addr) (c : Nat) (l : List Int) (w : World) (hr : RdU w A c l) (hb : ∀ x ∈ l, 0 ≤ x ∧ x < 256) : Calls Tryz.prog 93 #[.slice A l.length c, t.val] w fun e w' => e = .returned (.tuple #[(modesD t l).1.val, .int .i64 (modesD t l).2]) ∧ Only [] w w' := by
  obtain ⟨T, hT⟩ : ∃ T, T = modesD t l := ⟨_, rfl⟩
  rw [← hT]
  have J : ∀ (q : Nat) (r : List Int), r.length ≤ q → ∀ (t1 : TM) (A1 : Option Addr) (c1 n1 : Nat), r.length = n1 → RdU w A1 c1 r → (∀ x ∈ r, 0 ≤ x ∧ x < 256) → T = modesD t1 r → ∀ (b0 b1 : Nat) (u : Nat → Value), Hs Tryz.prog 93 (fun e w' => e = .returned (.tuple #[T.1.val, .int .i64 T.2]) ∧ Only [] w w') (Tryz.f93).ntmps w [] [b0, b1] ⟨.no, loopAt Tryz.f93 0, pins [(0, .c (.v (.slice A1 n1 c1))), (3, .c (.p 0 0)), (4, .c (.p 1 0)), (5, .c (.v (.int .i64 0)))] (.vals u), [.b true 28 t1.sc, .b true 28 zeroT.sc]⟩ := by
    intro q
    induction q with
    | zero =>
      intro r hq t1 A1 c1 n1 hn1 hr1 hb1 hT1 b0 b1 u
      have h0 : r = [] := List.length_eq_zero_iff.1 (by omega)
      subst h0
      subst hn1
      rw [show modesD t1 [] = (t1, 0) from rfl] at hT1
      clear hT
      subst hT1
      refine Hs.run0 300 (fun _ => by kernel_rfl) ?_
      refine Hs.condF (by kernel_rfl) ?_
      refine Hs.run0 300 (fun _ => by kernel_rfl) ?_
      exact Hs.ret (v := .tuple #[t1.val, .int .i64 0]) Tryz.func93 (by kernel_rfl) fun w' H => ⟨rfl, H.only⟩
    | succ q ih =>
      intro r hq t1 A1 c1 n1 hn1 hr1 hb1 hT1 b0 b1 u
      cases r with
      | nil =>
        subst hn1
        rw [show modesD t1 [] = (t1, 0) from rfl] at hT1
        clear hT
        subst hT1
        refine Hs.run0 300 (fun _ => by kernel_rfl) ?_
        refine Hs.condF (by kernel_rfl) ?_
        refine Hs.run0 300 (fun _ => by kernel_rfl) ?_
        exact Hs.ret (v := .tuple #[t1.val, .int .i64 0]) Tryz.func93 (by kernel_rfl) fun w' H => ⟨rfl, H.only⟩
      | cons op r =>
        have hop := hb1 op List.mem_cons_self
        obtain ⟨ab, ao, hA, _, _⟩ := hr1.1 (by simp)
        subst hA
        have hn0 : 0 < n1 := by rw [← hn1]; simp
        have hw : IntKind.i64.wrap op = op := IntWalk.i64_in _ (by omega)
        refine Hs.run0 300 (fun _ => by kernel_rfl) ?_
        refine Hs.condP ((n1 : Int) > 0) (by kernel_rfl) (fun _ => ?_) (fun h => by omega)
        refine Hs.run0 300 (fun _ => by kernel_rfl) ?_
        refine Hs.idx (b := ab) (off := ao) (len := n1) (c := c1) (i := 0) elemU8 hn0 (by kernel_rfl) ?_
        refine Hs.run0 300 (fun _ => by kernel_rfl) ?_
        refine Hs.ldc (E' := 5) (b := ab) (off := ao + 0 * 1) (.int .u8 op) (by kernel_rfl) (fun w' H => u8_cell (hr1.1.only H.only) rfl) (by kernel_rfl) ?_
        refine Hs.run0 1 (fun _ => by kernel_rfl) ?_
        refine Hs.slot 14 (.c (.v (.int .i64 op))) rfl ((by kernel_rfl : _ = Value.int .i64 (IntKind.i64.wrap op)).trans (by rw [hw]; rfl)) ?_
        refine Hs.run0 300 (fun _ => by kernel_rfl) ?_
        have out : (op = 0 ∨ 160 ≤ op) → T = (t1, 0) := fun h => by
          rw [hT1]
          by_cases h4 : r.length < 4
          · rw [modesD_short h4, if_pos h]
          · match r, h4 with
            | _ :: _ :: _ :: _ :: _, _ => unfold modesD; rw [if_pos h]
            | [], h4 => exact absurd (by simp) h4
            | [_], h4 => exact absurd (by simp) h4
            | [_, _], h4 => exact absurd (by simp) h4
            | [_, _, _], h4 => exact absurd (by simp) h4
        refine Hs.bool 17 (op == 0) (by kernel_rfl) (fun h1 => ?_) (fun h1 => ?_)
        · have e := out (.inl (by simpa using h1))
          clear hT hT1 out
          subst e
          refine Hs.rung0 [2] 300 (fun _ => by kernel_rfl) ?_
          refine Hs.condT (by kernel_rfl) ?_
          refine Hs.run0 300 (fun _ => by kernel_rfl) ?_
          exact Hs.ret (v := .tuple #[t1.val, .int .i64 0]) Tryz.func93 (by kernel_rfl) fun w' H => ⟨rfl, H.only⟩
        replace h1 : ¬ op = 0 := by simpa using h1
        refine Hs.rung0 [2] 300 (fun _ => by kernel_rfl) ?_
        refine Hs.condP (op ≥ 160) (by kernel_rfl) (fun h2 => ?_) (fun h2 => ?_)
        · have e := out (.inr h2)
          clear hT hT1 out
          subst e
          refine Hs.run0 300 (fun _ => by kernel_rfl) ?_
          exact Hs.ret (v := .tuple #[t1.val, .int .i64 0]) Tryz.func93 (by kernel_rfl) fun w' H => ⟨rfl, H.only⟩
        have hno : ¬ (op = 0 ∨ 160 ≤ op) := fun h => h.elim h1 h2
        clear out
        refine Hs.run0 300 (fun _ => by kernel_rfl) ?_
        refine Hs.condP ((n1 : Int) < 5) (by kernel_rfl) (fun h3 => ?_) (fun h3 => ?_)
        · have e : T = (zeroT, 3) := by
            rw [hT1, modesD_short (by rw [List.length_cons] at hn1; omega), if_neg hno]
          clear hT hT1
          subst e
          refine Hs.run0 300 (fun _ => by kernel_rfl) ?_
          exact Hs.ret (v := .tuple #[zeroT.val, .int .i64 3]) Tryz.func93 (by kernel_rfl) fun w' H => ⟨rfl, H.only⟩
        match r, hn1, hr1, hb1, hq, hT1 with
        | [], hn1, _, _, _, _ => rw [List.length_cons, List.length_nil] at hn1; omega
        | [_], hn1, _, _, _, _ => simp at hn1; omega
        | [_, _], hn1, _, _, _, _ => simp at hn1; omega
        | [_, _, _], hn1, _, _, _, _ => simp at hn1; omega
        | a :: b :: c :: d :: r, hn1, hr1, hb1, hq, hT1 =>
        rw [show modesD t1 (op :: a :: b :: c :: d :: r) = if op = 0 ∨ 160 ≤ op then (t1, 0) else if (modeD t1 op (argD a b c d)).2 ≠ 0 then (zeroT, (modeD t1 op (argD a b c d)).2) else modesD (modeD t1 op (argD a b c d)).1 r from rfl, if_neg hno] at hT1
        refine Hs.run0 300 (fun _ => by kernel_rfl) ?_
        refine Hs.any [0, 1009] (by kernel_rfl) ?_
        refine Hs.run0 300 (fun _ => by kernel_rfl) ?_
        have hlen : 5 ≤ n1 := by omega
        have hcl : n1 ≤ c1 := by rw [← hn1]; exact hr1.2.1
        refine Hs.lo elemU8 (A := some ⟨ab, ao, none⟩) (len := n1) (cap := c1) (i := 1) (by omega) (by kernel_rfl) ?_
        refine Hs.run0 300 (fun _ => by kernel_rfl) ?_
        refine Hs.callV (fun w' H => argument_any (loA 1 (some ⟨ab, ao, none⟩) 1 c1) (c1 - 1) (n1 - 1) a b c d r (by rw [List.length_cons] at hn1; omega) w' ((rdX_lo (i := 1) cu8_len hr1.1 (by simp) (by rw [hn1]; exact hcl)).only H.only)) (by kernel_rfl) ?_
        refine Hs.run0 300 (fun _ => by kernel_rfl) ?_
        refine Hs.callV (fun w' H => mode_any t1 op (argD a b c d) (by omega) w') (by kernel_rfl) ?_
        generalize modeD t1 op (argD a b c d) = z at hT1 ⊢
        obtain ⟨t2, e2⟩ := z
        replace hT1 : T = if e2 ≠ 0 then (zeroT, e2) else modesD t2 r := hT1
        refine Hs.run0 300 (fun _ => by kernel_rfl) ?_
        refine Hs.branch2 8 9 (by kernel_rfl) ?_ ?_
        · refine Hs.run0 300 (fun _ => by kernel_rfl) ?_
          refine Hs.cond (e2 != 0) (by kernel_rfl) (fun h4 => ?_) (fun h4 => ?_)
          · rw [if_pos (by simpa using h4)] at hT1
            clear hT
            subst hT1
            refine Hs.run0 300 (fun _ => by kernel_rfl) ?_
            exact Hs.ret (v := .tuple #[zeroT.val, .int .i64 e2]) Tryz.func93 (by kernel_rfl) fun w' H => ⟨rfl, H.only⟩
          rw [if_neg (by simpa using h4)] at hT1
          refine Hs.run0 300 (fun _ => by kernel_rfl) ?_
          refine Hs.lo elemU8 (A := some ⟨ab, ao, none⟩) (len := n1) (cap := c1) (i := 5) (by omega) (by kernel_rfl) ?_
          refine Hs.run0 300 (fun _ => by kernel_rfl) ?_
          refine Hs.loop (by kernel_rfl) ?_
          have hr5 := rdX_lo (i := 5) cu8_len hr1.1 (by simp) (by rw [hn1]; exact hcl)
          exact Hs.goto (loopAt Tryz.f93 0) [0, 1] [.b true 28 t2.sc, .b true 28 zeroT.sc] [(0, .c (.v (.slice (loA 1 (some ⟨ab, ao, none⟩) 5 c1) (n1 - 5) (c1 - 5)))), (3, .c (.p 0 0)), (4, .c (.p 1 0)), (5, .c (.v (.int .i64 0)))] (by kernel_rfl) (by decide) (by kernel_rfl) (by kernel_rfl) (fun _ => (by kernel_rfl)) (fun u => ih r (by simp only [List.length_cons] at hq; omega) t2 _ _ _ (by simp only [List.length_cons] at hn1; omega) ⟨hr5, by simp only [List.length_cons] at hn1; omega, by have := hr1.2.2; omega⟩ (fun x hx => hb1 x (by simp [hx])) hT1 b0 b1 u)
        · refine Hs.run0 300 (fun _ => by kernel_rfl) ?_
          refine Hs.cond (e2 != 0) (by kernel_rfl) (fun h4 => ?_) (fun h4 => ?_)
          · rw [if_pos (by simpa using h4)] at hT1
            clear hT
            subst hT1
            refine Hs.run0 300 (fun _ => by kernel_rfl) ?_
            exact Hs.ret (v := .tuple #[zeroT.val, .int .i64 e2]) Tryz.func93 (by kernel_rfl) fun w' H => ⟨rfl, H.only⟩
          rw [if_neg (by simpa using h4)] at hT1
          refine Hs.run0 300 (fun _ => by kernel_rfl) ?_
          refine Hs.lo elemU8 (A := some ⟨ab, ao, none⟩) (len := n1) (cap := c1) (i := 5) (by omega) (by kernel_rfl) ?_
          refine Hs.run0 300 (fun _ => by kernel_rfl) ?_
          refine Hs.loop (by kernel_rfl) ?_
          have hr5 := rdX_lo (i := 5) cu8_len hr1.1 (by simp) (by rw [hn1]; exact hcl)
          exact Hs.goto (loopAt Tryz.f93 0) [0, 1] [.b true 28 t2.sc, .b true 28 zeroT.sc] [(0, .c (.v (.slice (loA 1 (some ⟨ab, ao, none⟩) 5 c1) (n1 - 5) (c1 - 5)))), (3, .c (.p 0 0)), (4, .c (.p 1 0)), (5, .c (.v (.int .i64 0)))] (by kernel_rfl) (by decide) (by kernel_rfl) (by kernel_rfl) (fun _ => (by kernel_rfl)) (fun u => ih r (by simp only [List.length_cons] at hq; omega) t2 _ _ _ (by simp only [List.length_cons] at hn1; omega) ⟨hr5, by simp only [List.length_cons] at hn1; omega, by have := hr1.2.2; omega⟩ (fun x hx => hb1 x (by simp [hx])) hT1 b0 b1 u)
  refine Hs.enter Tryz.func93 [] [] [] [.c (.v (.slice A l.length c)), .g t.sc] (Mem.start0 w) (by kernel_rfl) (by kernel_rfl) ?_
  refine Hs.run2 300 (fun _ => by kernel_rfl) fun b0 b1 => ?_
  refine Hs.loop (by kernel_rfl) ?_
  exact Hs.goto (loopAt Tryz.f93 0) [0, 1] [.b true 28 t.sc, .b true 28 zeroT.sc] [(0, .c (.v (.slice A l.length c))), (3, .c (.p 0 0)), (4, .c (.p 1 0)), (5, .c (.v (.int .i64 0)))] (by kernel_rfl) (by decide) (by kernel_rfl) (by kernel_rfl) (fun _ => (by kernel_rfl)) (fun u => J l.length l (Nat.le_refl _) t A c l.length rfl hr hb hT b0 b1 u)
end Go.Proofs.YtdplnedpbkpgpaaGreatDoor

namespace Go.Proofs.YtdplnedpbkpgpaaGreatDoor
set_option linter.all false
open Go.RowKit

/-- A literal that is built, its cells named. -/
theorem wpList_built {P : Program} {ops : Array Oper} {rest : List Oper} {o : Oper} {a : Act} {w : World} {Q : Exit → Act → World → Prop} (d : Tmp) (hd : o.dst = some d) (hg : o.guard = none) (t : TypeId) (parts : Array (Nat × Operand)) (ho : o.op = .build t parts)
    (cells : Array Value) (hf : P.built t (parts.map fun (i, x) => (i, a.eval x)).toList = some cells)
    (h : wpList P ops Q rest (a.put (some d) (.agg cells)) w) : wpList P ops Q (o :: rest) a w := by
  refine wpList_build hg t parts ho (by rw [hf]; rfl) ?_
  rw [hf, hd]
  exact h
/-- Which of the kinds' blocks. -/
def kidx : Nat → Nat
  | 1 => 1
  | 2 => 2
  | 4 => 3
  | 5 => 4
  | 6 => 5
  | 7 => 6
  | 8 => 7
  | 9 => 8
  | 10 => 9
  | _ => 0
def kaddr (q k : Nat) : Option Addr := match kidx k with
  | 0 => none
  | i + 1 => some ⟨q + (i + 1), 0, none⟩
/-- What gets. -/
def rget : Nat → FuncId
  | 1 => 71
  | 2 => 74
  | 3 => 77
  | 4 => 80
  | 5 => 80
  | 6 => 84
  | 7 => 86
  | 8 => 80
  | 9 => 88
  | _ => 90
/-- What puts. -/
def rput : Nat → FuncId
  | 1 => 72
  | 2 => 75
  | 3 => 78
  | 4 => 81
  | 5 => 81
  | 6 => 85
  | 7 => 87
  | 8 => 81
  | 9 => 89
  | _ => 91
/-- What asks. -/
def rask : Nat → FuncId
  | 1 => 73
  | 2 => 76
  | 3 => 79
  | 4 => 82
  | 5 => 83
  | 6 => 79
  | 7 => 79
  | 8 => 83
  | 9 => 79
  | _ => 92
def rfn (f : FuncId) : Value := .func (Fn.func f) #[] #[]
/-- A rule's cells. -/
def rcells (q k : Nat) : List Value := [.string (rname k), .slice (kaddr q k) (rkinds k).length (rkinds k).length, rfn (rget k), rfn (rput k), rfn (rask k)]
def rcellsA (q k : Nat) : Array Value := (rcells q k).toArray
def zcells : List Value := [.string ⟨#[]⟩, .slice none 0 0, .nilFunc, .nilFunc, .nilFunc]
/-- The rules' cells, their kinds from block q + 1 on. -/
def rtab (q : Nat) : Array Value := (zcells ++ (rcells q 1 ++ (rcells q 2 ++ (rcells q 3 ++ (rcells q 4 ++ (rcells q 5 ++ (rcells q 6 ++ (rcells q 7 ++ (rcells q 8 ++ (rcells q 9 ++ rcells q 10)))))))))).toArray
def ztab : Array Value := (zcells ++ (zcells ++ (zcells ++ (zcells ++ (zcells ++ (zcells ++ (zcells ++ (zcells ++ (zcells ++ (zcells ++ zcells)))))))))).toArray
def rworld (w : World) : World := ((((((((((w.alloc (.cells ztab 133)).alloc (.cells #[.int .i64 4, .int .i64 3, .int .i64 3, .int .i64 3, .int .i64 3, .int .i64 4] 3)).alloc (.cells #[.int .i64 4, .int .i64 4] 3)).alloc (.cells #[.int .i64 4] 3)).alloc (.cells #[.int .i64 4] 3)).alloc (.cells #[.int .i64 3, .int .i64 3, .int .i64 3, .int .i64 3] 3)).alloc (.cells #[.int .i64 2] 3)).alloc (.cells #[.int .i64 4] 3)).alloc (.cells #[.int .i64 3] 3)).alloc (.cells #[.int .i64 4, .int .i64 2, .int .i64 4, .int .i64 4] 3))
theorem rworld_size (w : World) : (rworld w).heap.size = w.heap.size + 10 := by unfold rworld; simp
theorem rworld_tab (w : World) : Blk (rworld w) w.heap.size 133 ztab.toList := (((((((((Blk.new w 133 ztab.toList).alloc _).alloc _).alloc _).alloc _).alloc _).alloc _).alloc _).alloc _).alloc _
theorem rworld_only (w : World) : Only [] w (rworld w) := ((((((((((Only.refl [] w).alloc _).alloc _).alloc _).alloc _).alloc _).alloc _).alloc _).alloc _).alloc _).alloc _
theorem rworld_1 (w : World) : Blk (rworld w) (w.heap.size + 1) 3 [.int .i64 4, .int .i64 3, .int .i64 3, .int .i64 3, .int .i64 3, .int .i64 4] := by
  have h := Blk.new (w.alloc (.cells ztab 133)) 3 [.int .i64 4, .int .i64 3, .int .i64 3, .int .i64 3, .int .i64 3, .int .i64 4]
  rw [show (w.alloc (.cells ztab 133)).heap.size = w.heap.size + 1 by simp] at h
  exact ((((((((h).alloc _).alloc _).alloc _).alloc _).alloc _).alloc _).alloc _).alloc _
theorem rworld_2 (w : World) : Blk (rworld w) (w.heap.size + 2) 3 [.int .i64 4, .int .i64 4] := by
  have h := Blk.new ((w.alloc (.cells ztab 133)).alloc (.cells #[.int .i64 4, .int .i64 3, .int .i64 3, .int .i64 3, .int .i64 3, .int .i64 4] 3)) 3 [.int .i64 4, .int .i64 4]
  rw [show ((w.alloc (.cells ztab 133)).alloc (.cells #[.int .i64 4, .int .i64 3, .int .i64 3, .int .i64 3, .int .i64 3, .int .i64 4] 3)).heap.size = w.heap.size + 2 by simp] at h
  exact (((((((h).alloc _).alloc _).alloc _).alloc _).alloc _).alloc _).alloc _
theorem rworld_4 (w : World) : Blk (rworld w) (w.heap.size + 3) 3 [.int .i64 4] := by
  have h := Blk.new (((w.alloc (.cells ztab 133)).alloc (.cells #[.int .i64 4, .int .i64 3, .int .i64 3, .int .i64 3, .int .i64 3, .int .i64 4] 3)).alloc (.cells #[.int .i64 4, .int .i64 4] 3)) 3 [.int .i64 4]
  rw [show (((w.alloc (.cells ztab 133)).alloc (.cells #[.int .i64 4, .int .i64 3, .int .i64 3, .int .i64 3, .int .i64 3, .int .i64 4] 3)).alloc (.cells #[.int .i64 4, .int .i64 4] 3)).heap.size = w.heap.size + 3 by simp] at h
  exact ((((((h).alloc _).alloc _).alloc _).alloc _).alloc _).alloc _
theorem rworld_5 (w : World) : Blk (rworld w) (w.heap.size + 4) 3 [.int .i64 4] := by
  have h := Blk.new ((((w.alloc (.cells ztab 133)).alloc (.cells #[.int .i64 4, .int .i64 3, .int .i64 3, .int .i64 3, .int .i64 3, .int .i64 4] 3)).alloc (.cells #[.int .i64 4, .int .i64 4] 3)).alloc (.cells #[.int .i64 4] 3)) 3 [.int .i64 4]
  rw [show ((((w.alloc (.cells ztab 133)).alloc (.cells #[.int .i64 4, .int .i64 3, .int .i64 3, .int .i64 3, .int .i64 3, .int .i64 4] 3)).alloc (.cells #[.int .i64 4, .int .i64 4] 3)).alloc (.cells #[.int .i64 4] 3)).heap.size = w.heap.size + 4 by simp] at h
  exact (((((h).alloc _).alloc _).alloc _).alloc _).alloc _
theorem rworld_6 (w : World) : Blk (rworld w) (w.heap.size + 5) 3 [.int .i64 3, .int .i64 3, .int .i64 3, .int .i64 3] := by
  have h := Blk.new (((((w.alloc (.cells ztab 133)).alloc (.cells #[.int .i64 4, .int .i64 3, .int .i64 3, .int .i64 3, .int .i64 3, .int .i64 4] 3)).alloc (.cells #[.int .i64 4, .int .i64 4] 3)).alloc (.cells #[.int .i64 4] 3)).alloc (.cells #[.int .i64 4] 3)) 3 [.int .i64 3, .int .i64 3, .int .i64 3, .int .i64 3]
  rw [show (((((w.alloc (.cells ztab 133)).alloc (.cells #[.int .i64 4, .int .i64 3, .int .i64 3, .int .i64 3, .int .i64 3, .int .i64 4] 3)).alloc (.cells #[.int .i64 4, .int .i64 4] 3)).alloc (.cells #[.int .i64 4] 3)).alloc (.cells #[.int .i64 4] 3)).heap.size = w.heap.size + 5 by simp] at h
  exact ((((h).alloc _).alloc _).alloc _).alloc _
theorem rworld_7 (w : World) : Blk (rworld w) (w.heap.size + 6) 3 [.int .i64 2] := by
  have h := Blk.new ((((((w.alloc (.cells ztab 133)).alloc (.cells #[.int .i64 4, .int .i64 3, .int .i64 3, .int .i64 3, .int .i64 3, .int .i64 4] 3)).alloc (.cells #[.int .i64 4, .int .i64 4] 3)).alloc (.cells #[.int .i64 4] 3)).alloc (.cells #[.int .i64 4] 3)).alloc (.cells #[.int .i64 3, .int .i64 3, .int .i64 3, .int .i64 3] 3)) 3 [.int .i64 2]
  rw [show ((((((w.alloc (.cells ztab 133)).alloc (.cells #[.int .i64 4, .int .i64 3, .int .i64 3, .int .i64 3, .int .i64 3, .int .i64 4] 3)).alloc (.cells #[.int .i64 4, .int .i64 4] 3)).alloc (.cells #[.int .i64 4] 3)).alloc (.cells #[.int .i64 4] 3)).alloc (.cells #[.int .i64 3, .int .i64 3, .int .i64 3, .int .i64 3] 3)).heap.size = w.heap.size + 6 by simp] at h
  exact (((h).alloc _).alloc _).alloc _
theorem rworld_8 (w : World) : Blk (rworld w) (w.heap.size + 7) 3 [.int .i64 4] := by
  have h := Blk.new (((((((w.alloc (.cells ztab 133)).alloc (.cells #[.int .i64 4, .int .i64 3, .int .i64 3, .int .i64 3, .int .i64 3, .int .i64 4] 3)).alloc (.cells #[.int .i64 4, .int .i64 4] 3)).alloc (.cells #[.int .i64 4] 3)).alloc (.cells #[.int .i64 4] 3)).alloc (.cells #[.int .i64 3, .int .i64 3, .int .i64 3, .int .i64 3] 3)).alloc (.cells #[.int .i64 2] 3)) 3 [.int .i64 4]
  rw [show (((((((w.alloc (.cells ztab 133)).alloc (.cells #[.int .i64 4, .int .i64 3, .int .i64 3, .int .i64 3, .int .i64 3, .int .i64 4] 3)).alloc (.cells #[.int .i64 4, .int .i64 4] 3)).alloc (.cells #[.int .i64 4] 3)).alloc (.cells #[.int .i64 4] 3)).alloc (.cells #[.int .i64 3, .int .i64 3, .int .i64 3, .int .i64 3] 3)).alloc (.cells #[.int .i64 2] 3)).heap.size = w.heap.size + 7 by simp] at h
  exact ((h).alloc _).alloc _
theorem rworld_9 (w : World) : Blk (rworld w) (w.heap.size + 8) 3 [.int .i64 3] := by
  have h := Blk.new ((((((((w.alloc (.cells ztab 133)).alloc (.cells #[.int .i64 4, .int .i64 3, .int .i64 3, .int .i64 3, .int .i64 3, .int .i64 4] 3)).alloc (.cells #[.int .i64 4, .int .i64 4] 3)).alloc (.cells #[.int .i64 4] 3)).alloc (.cells #[.int .i64 4] 3)).alloc (.cells #[.int .i64 3, .int .i64 3, .int .i64 3, .int .i64 3] 3)).alloc (.cells #[.int .i64 2] 3)).alloc (.cells #[.int .i64 4] 3)) 3 [.int .i64 3]
  rw [show ((((((((w.alloc (.cells ztab 133)).alloc (.cells #[.int .i64 4, .int .i64 3, .int .i64 3, .int .i64 3, .int .i64 3, .int .i64 4] 3)).alloc (.cells #[.int .i64 4, .int .i64 4] 3)).alloc (.cells #[.int .i64 4] 3)).alloc (.cells #[.int .i64 4] 3)).alloc (.cells #[.int .i64 3, .int .i64 3, .int .i64 3, .int .i64 3] 3)).alloc (.cells #[.int .i64 2] 3)).alloc (.cells #[.int .i64 4] 3)).heap.size = w.heap.size + 8 by simp] at h
  exact (h).alloc _
theorem rworld_10 (w : World) : Blk (rworld w) (w.heap.size + 9) 3 [.int .i64 4, .int .i64 2, .int .i64 4, .int .i64 4] := by
  have h := Blk.new (((((((((w.alloc (.cells ztab 133)).alloc (.cells #[.int .i64 4, .int .i64 3, .int .i64 3, .int .i64 3, .int .i64 3, .int .i64 4] 3)).alloc (.cells #[.int .i64 4, .int .i64 4] 3)).alloc (.cells #[.int .i64 4] 3)).alloc (.cells #[.int .i64 4] 3)).alloc (.cells #[.int .i64 3, .int .i64 3, .int .i64 3, .int .i64 3] 3)).alloc (.cells #[.int .i64 2] 3)).alloc (.cells #[.int .i64 4] 3)).alloc (.cells #[.int .i64 3] 3)) 3 [.int .i64 4, .int .i64 2, .int .i64 4, .int .i64 4]
  rw [show (((((((((w.alloc (.cells ztab 133)).alloc (.cells #[.int .i64 4, .int .i64 3, .int .i64 3, .int .i64 3, .int .i64 3, .int .i64 4] 3)).alloc (.cells #[.int .i64 4, .int .i64 4] 3)).alloc (.cells #[.int .i64 4] 3)).alloc (.cells #[.int .i64 4] 3)).alloc (.cells #[.int .i64 3, .int .i64 3, .int .i64 3, .int .i64 3] 3)).alloc (.cells #[.int .i64 2] 3)).alloc (.cells #[.int .i64 4] 3)).alloc (.cells #[.int .i64 3] 3)).heap.size = w.heap.size + 9 by simp] at h
  exact h
theorem rdI_blk {w : World} {g : Nat} {t : TypeId} {ks : List Int} (h : Blk w g t (ks.map (.int .i64))) : RdI w (some ⟨g, 0, none⟩) ks := fun _ => ⟨g, 0, rfl, h.lt, fun i v hi => by
  have : w.cell? ⟨g, 0 + i, none⟩ = (ks.map (Value.int .i64))[0 + i]? := h.cell _
  rw [this, Nat.zero_add, List.getElem?_map, hi]
  rfl⟩
theorem rworld_kinds (w : World) (k : Nat) (h1 : 1 ≤ k) (h2 : k ≤ 10) : RdI (rworld w) (kaddr w.heap.size k) (rkinds k) := by
  rcases k10 h1 h2 with rfl | rfl | rfl | rfl | rfl | rfl | rfl | rfl | rfl | rfl
  · exact rdI_blk (rworld_1 w)
  · exact rdI_blk (rworld_2 w)
  · exact RdG.nil
  · exact rdI_blk (rworld_4 w)
  · exact rdI_blk (rworld_5 w)
  · exact rdI_blk (rworld_6 w)
  · exact rdI_blk (rworld_7 w)
  · exact rdI_blk (rworld_8 w)
  · exact rdI_blk (rworld_9 w)
  · exact rdI_blk (rworld_10 w)
set_option maxRecDepth 100000 in
set_option maxHeartbeats 3200000 in
theorem rules_any (w : World) : Calls Tryz.prog 49 #[] w fun e w' => e = .returned (.agg (rtab w.heap.size)) ∧ Only [] w w' ∧ w'.heap.size = w.heap.size + 10 ∧ ∀ k, 1 ≤ k → k ≤ 10 → RdI w' (kaddr w.heap.size k) (rkinds k) := by
  have hz : (rworld w).heap[w.heap.size]? = some (.cells ztab 133 (0, 0)) := rworld_tab w
  have hfin : Only [] w ((rworld w).setRow w.heap.size (rtab w.heap.size)) ∧ ((rworld w).setRow w.heap.size (rtab w.heap.size)).heap.size = w.heap.size + 10 ∧ ∀ k, 1 ≤ k → k ≤ 10 → RdI ((rworld w).setRow w.heap.size (rtab w.heap.size)) (kaddr w.heap.size k) (rkinds k) := by
    refine ⟨(rworld_only w).trans (only_setRow _ _ _) (by simp), by rw [setRow_size, rworld_size], fun k h1 h2 => ?_⟩
    refine RdG.onlyL (rworld_kinds w k h1 h2) (only_setRow _ _ _) (fun a ha h0 => ?_)
    unfold kaddr at ha
    split at ha
    · cases ha
    · injection ha with ha
      rw [← ha]
      simp
  have hbl : Blk ((rworld w).setRow w.heap.size (rtab w.heap.size)) w.heap.size 133 (rtab w.heap.size).toList := blk_setRow (rworld_tab w) (rtab w.heap.size).toList
  replace hfin := hide hfin
  replace hbl := hide hbl
  unfold rworld at hz
  replace hz := hide hz
  go_enter Tryz.func49, Tryz.ntmps49
  go_wp2_with (first | (refine wpList_built 2 rfl rfl 114 _ rfl (rcellsA w.heap.size 1) (by kernel_rfl) ?_) | (refine wpList_built 4 rfl rfl 114 _ rfl (rcellsA w.heap.size 2) (by kernel_rfl) ?_) | (refine wpList_built 5 rfl rfl 114 _ rfl (rcellsA w.heap.size 3) (by kernel_rfl) ?_) | (refine wpList_built 7 rfl rfl 114 _ rfl (rcellsA w.heap.size 4) (by kernel_rfl) ?_) | (refine wpList_built 9 rfl rfl 114 _ rfl (rcellsA w.heap.size 5) (by kernel_rfl) ?_) | (refine wpList_built 11 rfl rfl 114 _ rfl (rcellsA w.heap.size 6) (by kernel_rfl) ?_) | (refine wpList_built 13 rfl rfl 114 _ rfl (rcellsA w.heap.size 7) (by kernel_rfl) ?_) | (refine wpList_built 15 rfl rfl 114 _ rfl (rcellsA w.heap.size 8) (by kernel_rfl) ?_) | (refine wpList_built 17 rfl rfl 114 _ rfl (rcellsA w.heap.size 9) (by kernel_rfl) ?_) | (refine wpList_built 19 rfl rfl 114 _ rfl (rcellsA w.heap.size 10) (by kernel_rfl) ?_) | (refine wpList_built 20 rfl rfl 133 _ rfl (rtab w.heap.size) (by kernel_rfl) ?_) | (refine wpList_store_row rfl 133 (.tmp 0) (.tmp 20) rfl w.heap.size (rtab w.heap.size) rfl rfl 133 ztab hz.out (by kernel_rfl) (by kernel_rfl) (by kernel_rfl) ?_))
  (try simp only [Exit.inBlock, Exit.then])
  refine bodyPost_ret (results_cell_row rfl _ _ w.heap.size 133 (rtab w.heap.size) (0, 0) _ (by rfl) hbl.out Tryz.underlying133 rfl (by kernel_rfl)) (by rfl) ⟨rfl, hfin.out⟩
end Go.Proofs.YtdplnedpbkpgpaaGreatDoor

namespace Go.Proofs.YtdplnedpbkpgpaaGreatDoor
set_option linter.all false
open Go.RowKit

/-- Fields that are read. -/
structure RdF (w : World) (A : Option Addr) (fs : List FD) : Prop where
  cells : 0 < fs.length → ∃ b off, A = some ⟨b, off, none⟩ ∧ b < w.heap.size ∧ ∀ i f, fs[i]? = some f →
    w.cell? ⟨b, off + i * 4, none⟩ = some (.int .i64 f.kind) ∧ w.cell? ⟨b, off + i * 4 + 1, none⟩ = some (.int .u32 f.n) ∧ w.cell? ⟨b, off + i * 4 + 2, none⟩ = some (.slice f.tA f.text.length f.tc) ∧ w.cell? ⟨b, off + i * 4 + 3, none⟩ = some (.slice f.lA f.list.length f.lc)
  ok : ∀ f ∈ fs, f.ok w ∧ 0 ≤ f.n ∧ f.n ≤ 4294967295
theorem RdF.only {w w' : World} {A : Option Addr} {fs : List FD} (h : RdF w A fs) (hb : Only [] w w') : RdF w' A fs := by
  refine ⟨fun h0 => ?_, fun f hf => ⟨(h.ok f hf).1.only hb, (h.ok f hf).2⟩⟩
  obtain ⟨b, off, rfl, hlt, hc⟩ := h.cells h0
  refine ⟨b, off, rfl, Nat.lt_of_lt_of_le hlt hb.size, fun i f hi => ?_⟩
  obtain ⟨c0, c1, c2, c3⟩ := hc i f hi
  exact ⟨cellL hb hlt (by simp) c0, cellL hb hlt (by simp) c1, cellL hb hlt (by simp) c2, cellL hb hlt (by simp) c3⟩

def ints (l : List Int) : List Value := l.map (.int .i64)
theorem intInfo : (Tryz.prog.info? 3).map (fun i => (i.zero, i.size, i.bytes)) = some (some (.int .i64 0), 1, 8) := by kernel_rfl
theorem make_ints (k : Nat) (hk : k ≤ 1000) (W : World) : (Instr.makeSlice 109 (.int .i64 (k : Int)) (.int .i64 (k : Int))).run Tryz.prog W = .ok (.slice (some ⟨W.heap.size, 0, none⟩) k k) (W.alloc (.cells (ints (List.replicate k 0)).toArray 3)) := by
  have h := run_make_row' (P := Tryz.prog) 109 3 (.int .i64 0) 8 Tryz.underlying109 intInfo rfl .i64 .i64 k (by omega) (by omega) W
  have e : madeCells #[.int .i64 0] k = (ints (List.replicate k 0)).toArray := by
    apply Array.ext
    · simp [madeCells, ints]
    · intro i h1 h2
      simp [madeCells, ints, Nat.mod_one]
  rw [e] at h
  exact h
theorem take_set {cs : List Int} {k : Nat} (x : Int) (h : k < cs.length) : (cs.set k x).take (k + 1) = cs.take k ++ [x] := by
  rw [List.take_add_one, List.getElem?_set_self h, List.take_set_of_le (Nat.le_refl _)]
  rfl

def WritePost (w : World) (res : Int × List Int) : Ending → World → Prop := fun E w' =>
  Only [] w w' ∧ ∃ v, E = .returned (.tuple #[v, .int .i64 res.1]) ∧ OwnB w' w.heap.size v res.2
theorem writePost_none (w w' : World) (e : Int) (h : Only [] w w') : WritePost w (e, []) (.returned (.tuple #[.slice none 0 0, .int .i64 e])) w' := ⟨h, _, rfl, ownB_nil _ _⟩

/-- Where Write's loop stands: k fields are written, as acc. -/
structure WL (w wr : World) (q : Nat) (fs : List FD) (res : Int × List Int) (k : Nat) (v : Value) (acc : List Int) : Prop where
  res : res = writeFrom ((fs.drop k).map FD.pf) acc
  own : WrV wr (q + 1) (q + 2) v acc
  few : acc.length ≤ 33792
  tab : Blk wr q 158 tab.toList
  only : Only [] w wr
  low : w.heap.size ≤ q

set_option maxRecDepth 100000 in
set_option maxHeartbeats 3200000 in
theorem write_any (w : World) (A : Option Addr) (fs : List FD) (c : Nat) (h : RdF w A fs) (hn1 : fs.length ≤ 1000) :
    Calls Tryz.prog 42 #[.slice A fs.length c] w (WritePost w (writeP (fs.map FD.pf))) := by
  obtain ⟨n, hn⟩ : ∃ n, n = fs.length := ⟨_, rfl⟩
  rw [← hn] at hn1 ⊢
  obtain ⟨res, hres⟩ : ∃ res, writeP (fs.map FD.pf) = res := ⟨_, rfl⟩
  rw [hres]
  replace hres := hide hres
  replace hn := hide hn
  have hmk := make_ints n hn1
  go_enter Tryz.func42, Tryz.ntmps42
  go_wp2_with fail
  go_loopw [17] (fun i wr => ∃ (k : Nat) (cs : List Int), k ≤ n ∧ i = .int .i64 k ∧ cs.length = n ∧ cs.take k = (fs.take k).map (·.kind) ∧ Blk wr w.heap.size 3 (ints cs) ∧ Only [] w wr) (fun i _ => n - (intOf i).toNat)
  case atStart => exact ⟨0, List.replicate n 0, by omega, rfl, by simp, rfl, Blk.new w _ _, (Only.refl _ _).alloc _⟩
  case round =>
    obtain ⟨wo, rfl⟩ : ∃ wo : World, wo = wr := ⟨_, rfl⟩
    obtain ⟨k, cs, hk, rfl, hcs, htk, B, O⟩ := hrel
    by_cases hlt : k < n
    · obtain ⟨f, hf⟩ : ∃ f, fs[k]? = some f := ⟨_, List.getElem?_eq_getElem (by have := hn.out; omega)⟩
      obtain ⟨b, off, rfl, hb, hc⟩ := (h.only O).cells (by have := hn.out; omega)
      obtain ⟨c0, c1, c2, c3⟩ := hc k f hf
      have hq := B.lt
      have hqk : wo.cell? ⟨w.heap.size, k, none⟩ = some (.int .i64 (cs.getD k 0)) := by
        rw [B.cell k]
        simp [ints, List.getElem?_eq_getElem (show k < cs.length by omega)]
      have hfk := B.frozen k
      obtain ⟨kd, nn, tA, tc, tx, lA, lc, ls⟩ := f
      dsimp only at c0 c1 c2 c3
      replace htk := hide htk
      replace hcs := hide hcs
      replace hf := hide hf
      clear hc
      go_wp2_with fail
      go_roundw
      case rel =>
        refine ⟨k + 1, cs.set k kd, by omega, by go_num, by rw [List.length_set]; exact hcs.out, ?_, ?_, ?_⟩
        · rw [take_set _ (by rw [hcs.out]; exact hlt), htk.out, take_snocG hf.out, List.map_append]
          rfl
        · have := (B.set_ k (.int .i64 kd)).alloc (.cells #[.int .i64 kd, .int .u32 nn, .slice tA tx.length tc, .slice lA ls.length lc] 123)
          rw [ints, List.map_set]
          exact this
        · exact (O.setCell (p := ⟨w.heap.size, k, none⟩) (.inr (Nat.le_refl _)) _).alloc _
      case measure => simp [intOf]; omega
    · obtain rfl : k = n := by omega
      have hks : cs = (fs.map FD.pf).map (·.kind) := by
        rw [List.take_of_length_le (by omega), List.take_of_length_le (by have := hn.out; omega)] at htk
        rw [htk]
        simp [FD.pf]
      have RW := row_any (some ⟨w.heap.size, 0, none⟩) cs k wo (fun _ => ⟨w.heap.size, 0, rfl, B.lt, fun i x hx => by
        rw [Nat.zero_add, B.cell i]
        simp [ints, hx]⟩) (by unfold maxLen; omega)
      rw [hcs] at RW
      have hB := B.lt
      replace hks := hide hks
      replace hcs := hide hcs
      clear htk
      by_cases hr : rowOk cs = true
      · rw [hr] at RW
        have hres1 : res = writeFrom (fs.map FD.pf) [] := by
          rw [← hres.out]
          unfold writeP
          rw [← hks.out, if_pos hr]
        replace hr := hide hr
        replace hres1 := hide hres1
        go_wp2_with fail
        go_call RW as e w1 ⟨rfl, rfl⟩
        clear RW
        go_wp2_with fail
        go_call (sorts_any wo) as e w1 ⟨rfl, P1⟩
        have hz := heap_alloc_new w1 (.cells (Array.replicate 21 Value.nilFunc) 158)
        go_wp2_with (refine wpList_store_row rfl 158 (.tmp 7) (.tmp 31) rfl w1.heap.size tab rfl rfl 158 (Array.replicate 21 Value.nilFunc) hz (by kernel_rfl) (by kernel_rfl) (by kernel_rfl) ?_)
        have z1 := P1.size
        go_loopw [36] (fun i wr => ∃ (kk : Nat) (v : Value) (acc : List Int), kk ≤ k ∧ i = .int .i64 kk ∧ WL w wr w1.heap.size fs res kk v acc) (fun i _ => k - (intOf i).toNat)
        case atStart =>
          have Z := blk_setRow (Blk.new w1 158 (List.replicate 21 Value.nilFunc)) tab.toList
          have O2 : Only [] w1 ((w1.alloc (.cells (Array.replicate 21 Value.nilFunc) 158)).setRow w1.heap.size tab) := ((Only.refl [] w1).alloc _).trans (only_setRow _ _ _) (by simp)
          have O3 := O2.alloc (.cells #[.slice none 0 0] 162)
          have hs2 : ((w1.alloc (.cells (Array.replicate 21 Value.nilFunc) 158)).setRow w1.heap.size tab).heap.size = w1.heap.size + 1 := by simp
          have B3 := Blk.new ((w1.alloc (.cells (Array.replicate 21 Value.nilFunc) 158)).setRow w1.heap.size tab) 162 [.slice none 0 0]
          rw [hs2] at B3
          have O4 := (O.trans P1 (by simp)).trans O3 (by simp)
          have zo := O.size
          refine ⟨0, .slice none 0 0, [], by omega, rfl, ⟨by simpa using hres1.out, ⟨B3, ownB_nil _ _, by omega, by simp⟩, by simp, Blk.alloc Z _, O4, by omega⟩⟩
        case round =>
          clear hz P1
          obtain ⟨wb, rfl⟩ : ∃ wb : World, wb = wo := ⟨_, rfl⟩
          obtain ⟨wo, rfl⟩ : ∃ wo : World, wo = wr := ⟨_, rfl⟩
          obtain ⟨kk, v, acc, hkk, rfl, H⟩ := hrel
          obtain ⟨q, hq⟩ : ∃ q, q = w1.heap.size := ⟨_, rfl⟩
          rw [← hq] at H ⊢
          replace hq := hide hq
          by_cases hlt2 : kk < k
          · obtain ⟨f, hf⟩ : ∃ f, fs[kk]? = some f := ⟨_, List.getElem?_eq_getElem (by have := hn.out; omega)⟩
            have hfm : f ∈ fs := List.mem_of_getElem? hf
            obtain ⟨b, off, rfl, hb, hc⟩ := (h.only H.only).cells (by have := hn.out; omega)
            obtain ⟨e0, e1, e2, e3⟩ := hc kk f hf
            obtain ⟨fok, fn1⟩ := (h.only H.only).ok f hfm
            obtain ⟨x1, x6⟩ := rowOk_at (i := kk) (k := f.kind) hr.out (by rw [hks.out]; simp [hf, FD.pf])
            have fold := (h.ok f hfm).1
            have hqlow := H.low
            have hob := H.own.own.block
            have ffar : f.far (q + 1) v := ⟨fun a ha h0 => ⟨by have := fold.tlt a ha h0; omega, fun hv => by have h1 := fold.tlt a ha h0; have h2 := hob _ hv; omega⟩, fun a ha h0 => ⟨by have := fold.llt a ha h0; omega, fun hv => by have h1 := fold.llt a ha h0; have h2 := hob _ hv; omega⟩⟩
            have hdrop : fs.drop kk = f :: fs.drop (kk + 1) := by
              have hki : kk < fs.length := by have := hn.out; omega
              rw [List.drop_eq_getElem_cons hki]
              congr 1
              rw [List.getElem?_eq_getElem hki] at hf
              injection hf
            have hres2 := H.res
            rw [hdrop, List.map_cons] at hres2
            unfold writeFrom at hres2
            obtain ⟨j, hj⟩ := Int.eq_ofNat_of_zero_le (show 0 ≤ f.kind by omega)
            obtain ⟨F, G, hF, hG, hcF, hcG, hCF, hCG⟩ := kindW_any j (by omega) (by omega)
            have ctF : wo.cell? ⟨q, j * 3, none⟩ = some (.func (Fn.func F) #[] #[]) := by
              rw [H.tab.cell]
              simpa using hF
            have ctG : wo.cell? ⟨q, j * 3 + 1, none⟩ = some (.func (Fn.func G) #[] #[]) := by
              rw [H.tab.cell]
              simpa using hG
            have hj7 : j < 7 := by omega
            obtain ⟨w5, hw5⟩ : ∃ w5, w5 = wo.alloc (.cells #[.int .i64 f.kind, .int .u32 f.n, .slice f.tA f.text.length f.tc, .slice f.lA f.list.length f.lc] 123) := ⟨_, rfl⟩
            have P5 : Only [] wo w5 := by rw [hw5]; exact (Only.refl _ _).alloc _
            have K5 : Blk w5 wo.heap.size 123 f.cells := by rw [hw5]; exact Blk.new wo _ _
            have CF := hCF w5.drew f hj (fok.only P5.drew)
            have hCG' : ∀ w6, Only [] w5 w6 → faultP f.pf = 0 → Calls Tryz.prog G #[.pointer (some ⟨q + 1, 0, none⟩), f.val] w6 (WPost w6 (q + 1) (q + 2) v (acc ++ bytesP f.pf)) := fun w6 P6 h0 =>
              hCG w6 f (q + 1) (q + 2) v acc hj ((fok.only P5).only P6) h0 ffar fn1 ((H.own.only P5 (by simp) (by simp)).only P6 (by simp) (by simp)) H.few
            have c0 : w5.cell? ⟨wo.heap.size, 0, none⟩ = some (.int .i64 f.kind) := K5.cell 0
            have c1 : w5.cell? ⟨wo.heap.size, 1, none⟩ = some (.int .u32 f.n) := K5.cell 1
            have c2 : w5.cell? ⟨wo.heap.size, 2, none⟩ = some (.slice f.tA f.text.length f.tc) := K5.cell 2
            have c3 : w5.cell? ⟨wo.heap.size, 3, none⟩ = some (.slice f.lA f.list.length f.lc) := K5.cell 3
            have hql := H.tab.lt
            have ctF5 : w5.cell? ⟨q, j * 3, none⟩ = some (.func (Fn.func F) #[] #[]) := cellL P5 hql (by simp) ctF
            rw [hj] at e0 hw5 c0
            unfold FD.val at CF
            rw [hj] at CF
            have hI : (fun w' : World => w'.cell? ⟨wo.heap.size, 0, none⟩ = some (.int .i64 (j : Int)) ∧ w'.cell? ⟨wo.heap.size, 1, none⟩ = some (.int .u32 f.n) ∧ w'.cell? ⟨wo.heap.size, 2, none⟩ = some (.slice f.tA f.text.length f.tc) ∧ w'.cell? ⟨wo.heap.size, 3, none⟩ = some (.slice f.lA f.list.length f.lc) ∧ w'.cell? ⟨q, j * 3, none⟩ = some (.func (Fn.func F) #[] #[])) { w5 with drawn := w5.drawn + 1 } := ⟨c0, c1, c2, c3, ctF5⟩
            replace hj := hide hj
            replace hCG' := hide hCG'
            replace hres2 := hide hres2
            replace hdrop := hide hdrop
            replace hf := hide hf
            clear hc hF hG hCF hCG
            go_wp2_with fail
            rw [← hw5]
            replace hw5 := hide hw5
            refine wp_region_E (fun w' : World => w'.cell? ⟨wo.heap.size, 0, none⟩ = some (.int .i64 (j : Int)) ∧ w'.cell? ⟨wo.heap.size, 1, none⟩ = some (.int .u32 f.n) ∧ w'.cell? ⟨wo.heap.size, 2, none⟩ = some (.slice f.tA f.text.length f.tc) ∧ w'.cell? ⟨wo.heap.size, 3, none⟩ = some (.slice f.lA f.list.length f.lc) ∧ w'.cell? ⟨q, j * 3, none⟩ = some (.func (Fn.func F) #[] #[])) [6, 7] (by kernel_rfl) ?_
            refine wpAnyE_take 0 (v := (.pointer (some ⟨wo.heap.size, 0, none⟩))) rfl (by kernel_rfl) (fun _ _ _ h => h) hI (fun w' hw' => Or.inl ⟨by rfl, Or.inl (by obtain ⟨i0, i1, i2, i3, i4⟩ := hw'; go_simp)⟩) ?_
            refine wpAnyE_take 1 (v := (.int .i64 (j : Int))) rfl (by kernel_rfl) (fun _ _ _ h => h) hI (fun w' hw' => Or.inl ⟨by rfl, Or.inl (by obtain ⟨i0, i1, i2, i3, i4⟩ := hw'; go_simp)⟩) ?_
            refine wpAnyE_take 2 (v := (.pointer (some ⟨q, j * 3, none⟩))) rfl (by kernel_rfl) (fun _ _ _ h => h) hI (fun w' hw' => Or.inl ⟨by rfl, Or.inl (by obtain ⟨i0, i1, i2, i3, i4⟩ := hw'; go_simp; try (intro h7; exact absurd h7 (by omega)))⟩) ?_
            refine wpAnyE_take 3 (v := (.pointer (some ⟨q, j * 3, none⟩))) rfl (by kernel_rfl) (fun _ _ _ h => h) hI (fun w' hw' => Or.inl ⟨by rfl, Or.inl (by obtain ⟨i0, i1, i2, i3, i4⟩ := hw'; go_simp)⟩) ?_
            refine wpAnyE_take 4 (v := (.func (Fn.func F) #[] #[])) rfl (by kernel_rfl) (fun _ _ _ h => h) hI (fun w' hw' => Or.inl ⟨by rfl, Or.inl (by obtain ⟨i0, i1, i2, i3, i4⟩ := hw'; go_simp)⟩) ?_
            refine wpAnyE_take 5 (v := (.agg #[.int .i64 (j : Int), .int .u32 f.n, .slice f.tA f.text.length f.tc, .slice f.lA f.list.length f.lc])) rfl (by kernel_rfl) (fun _ _ _ h => h) hI (fun w' hw' => Or.inl ⟨by rfl, Or.inl (by obtain ⟨i0, i1, i2, i3, i4⟩ := hw'; go_simp)⟩) ?_
            refine wpAnyE_tail 6 [] [6, 7] rfl (by kernel_rfl) (by decide) hI ?_
            simp only [List.drop_succ_cons, List.drop_zero]
            refine wpListI_zero ?_
            go_wp2_with fail
            go_call CF as e w6 ⟨rfl, P6⟩
            have ctG6 : w6.cell? ⟨q, j * 3 + 1, none⟩ = some (.func (Fn.func G) #[] #[]) := cellL (P5.drew.trans P6 (by simp)) hql (by simp) ctG
            have K6 := (K5.drew).only P6 (by simp)
            have d0 : w6.cell? ⟨wo.heap.size, 0, none⟩ = some (.int .i64 (j : Int)) := by rw [← hj.out]; exact K6.cell 0
            have d1 : w6.cell? ⟨wo.heap.size, 1, none⟩ = some (.int .u32 f.n) := K6.cell 1
            have d2 : w6.cell? ⟨wo.heap.size, 2, none⟩ = some (.slice f.tA f.text.length f.tc) := K6.cell 2
            have d3 : w6.cell? ⟨wo.heap.size, 3, none⟩ = some (.slice f.lA f.list.length f.lc) := K6.cell 3
            have O6 : Only [] w w6 := H.only.trans (P5.drew.trans P6 (by simp)) (by simp)
            by_cases hE : faultP f.pf = 0
            · have hCG2 := hCG'.out w6.drew (((Only.refl [] w5).drew.trans P6 (by simp)).drew) hE
              have hres3 : res = if 33792 < (acc ++ bytesP f.pf).length then (6, []) else writeFrom ((fs.drop (kk + 1)).map FD.pf) (acc ++ bytesP f.pf) := by
                rw [hres2.out, if_neg (by simp [hE])]
              rw [hE]
              unfold FD.val at hCG2
              rw [hj.out] at hCG2
              have hE2 : ((0 : Int) != 0) = false := rfl
              obtain ⟨acc2, hacc⟩ : ∃ acc2, acc ++ bytesP f.pf = acc2 := ⟨_, rfl⟩
              rw [hacc] at hCG2 hres3
              replace hres3 := hide hres3
              have hI2 : (fun w' : World => w'.cell? ⟨wo.heap.size, 0, none⟩ = some (.int .i64 (j : Int)) ∧ w'.cell? ⟨wo.heap.size, 1, none⟩ = some (.int .u32 f.n) ∧ w'.cell? ⟨wo.heap.size, 2, none⟩ = some (.slice f.tA f.text.length f.tc) ∧ w'.cell? ⟨wo.heap.size, 3, none⟩ = some (.slice f.lA f.list.length f.lc) ∧ w'.cell? ⟨q, j * 3 + 1, none⟩ = some (.func (Fn.func G) #[] #[])) { w6 with drawn := w6.drawn + 1 } := ⟨d0, d1, d2, d3, ctG6⟩
              clear hres2 hCG' hacc
              go_wp2_with fail
              refine wp_region_E (fun w' : World => w'.cell? ⟨wo.heap.size, 0, none⟩ = some (.int .i64 (j : Int)) ∧ w'.cell? ⟨wo.heap.size, 1, none⟩ = some (.int .u32 f.n) ∧ w'.cell? ⟨wo.heap.size, 2, none⟩ = some (.slice f.tA f.text.length f.tc) ∧ w'.cell? ⟨wo.heap.size, 3, none⟩ = some (.slice f.lA f.list.length f.lc) ∧ w'.cell? ⟨q, j * 3 + 1, none⟩ = some (.func (Fn.func G) #[] #[])) [7] (by kernel_rfl) ?_
              refine wpAnyE_take 0 (v := (.pointer (some ⟨wo.heap.size, 0, none⟩))) rfl (by kernel_rfl) (fun _ _ _ h => h) hI2 (fun w' hw' => Or.inl ⟨by rfl, Or.inl (by obtain ⟨i0, i1, i2, i3, i4⟩ := hw'; go_simp; try (intro h7; exact absurd h7 (by omega)))⟩) ?_
              refine wpAnyE_take 1 (v := (.int .i64 (j : Int))) rfl (by kernel_rfl) (fun _ _ _ h => h) hI2 (fun w' hw' => Or.inl ⟨by rfl, Or.inl (by obtain ⟨i0, i1, i2, i3, i4⟩ := hw'; go_simp; try (intro h7; exact absurd h7 (by omega)))⟩) ?_
              refine wpAnyE_take 2 (v := (.pointer (some ⟨q, j * 3, none⟩))) rfl (by kernel_rfl) (fun _ _ _ h => h) hI2 (fun w' hw' => Or.inl ⟨by rfl, Or.inl (by obtain ⟨i0, i1, i2, i3, i4⟩ := hw'; go_simp; try (intro h7; exact absurd h7 (by omega)))⟩) ?_
              refine wpAnyE_take 3 (v := (.pointer (some ⟨q, j * 3 + 1, none⟩))) rfl (by kernel_rfl) (fun _ _ _ h => h) hI2 (fun w' hw' => Or.inl ⟨by rfl, Or.inl (by obtain ⟨i0, i1, i2, i3, i4⟩ := hw'; go_simp; try (intro h7; exact absurd h7 (by omega)))⟩) ?_
              refine wpAnyE_take 4 (v := (.func (Fn.func G) #[] #[])) rfl (by kernel_rfl) (fun _ _ _ h => h) hI2 (fun w' hw' => Or.inl ⟨by rfl, Or.inl (by obtain ⟨i0, i1, i2, i3, i4⟩ := hw'; go_simp; try (intro h7; exact absurd h7 (by omega)))⟩) ?_
              refine wpAnyE_take 5 (v := (.pointer (some ⟨q + 1, 0, none⟩))) rfl (by kernel_rfl) (fun _ _ _ h => h) hI2 (fun w' hw' => Or.inl ⟨by rfl, Or.inl (by obtain ⟨i0, i1, i2, i3, i4⟩ := hw'; go_simp; try (intro h7; exact absurd h7 (by omega)))⟩) ?_
              refine wpAnyE_take 6 (v := (.agg #[.int .i64 (j : Int), .int .u32 f.n, .slice f.tA f.text.length f.tc, .slice f.lA f.list.length f.lc])) rfl (by kernel_rfl) (fun _ _ _ h => h) hI2 (fun w' hw' => Or.inl ⟨by rfl, Or.inl (by obtain ⟨i0, i1, i2, i3, i4⟩ := hw'; go_simp; try (intro h7; exact absurd h7 (by omega)))⟩) ?_
              refine wpAnyE_tail 7 [] [7] rfl (by kernel_rfl) (by decide) hI2 ?_
              simp only [List.drop_succ_cons, List.drop_zero]
              refine wpListI_zero ?_
              go_wp2_with fail
              go_call hCG2 as e w7 ⟨rfl, v7, R7, M7⟩
              obtain ⟨A9, k9, rfl, G9, q9, m9, a9⟩ := R7.own.rd
              have O7 : Only [] w w7 := (O6.drew).trans M7.1 (fun x hx => by
                right
                rcases List.mem_cons.1 hx with rfl | hx
                · omega
                · have := hob x (by simpa using hx); omega)
              have B7 : Blk w7 q 158 tab.toList := (((H.tab.only P5 (by simp)).drew.only P6 (by simp)).drew).only M7.1 (fun hm => by
                rcases List.mem_cons.1 hm with hm | hm
                · omega
                · have := hob q (by simpa using hm); omega)
              have g0 : w7.cell? ⟨q + 1, 0, none⟩ = some (.slice A9 acc2.length k9) := R7.blk.cell 0
              obtain ⟨LL, hLL⟩ : ∃ LL, acc2.length = LL := ⟨_, rfl⟩
              rw [hLL] at g0 q9
              by_cases hbig : 33792 < LL
              · have hfin : res = (6, []) := by rw [hres3.out, if_pos (by omega)]
                have hb3 : (33792 : Int) < (LL : Int) := by omega
                replace hfin := hide hfin
                replace hLL := hide hLL
                clear hres3
                go_wp2_with fail
                go_ret2
                rw [hfin.out]
                exact writePost_none _ _ _ O7
              · have hfin : res = writeFrom ((fs.drop (kk + 1)).map FD.pf) acc2 := by rw [hres3.out, if_neg (by omega)]
                have hb3 : ¬ (33792 : Int) < (LL : Int) := by omega
                replace hfin := hide hfin
                replace hLL := hide hLL
                clear hres3
                go_wp2_with fail
                go_roundw
                case rel => exact ⟨kk + 1, _, acc2, by omega, by go_num, ⟨hfin.out, R7, by rw [hLL.out]; omega, B7, O7, hqlow⟩⟩
                case measure => simp [intOf]; omega
            · have hE2 : (faultP f.pf != 0) = true := by simpa using hE
              have hfin : res = (faultP f.pf, []) := by rw [hres2.out, if_pos hE]
              replace hfin := hide hfin
              clear hres2 hCG'
              go_wp2_with fail
              go_ret2
              rw [hfin.out]
              exact writePost_none _ _ _ O6
          · have hkk3 : kk = k := by omega
            subst hkk3
            have hres2 := H.res
            rw [List.drop_eq_nil_of_le (by have := hn.out; omega)] at hres2
            have hres3 : res = (0, acc) := hres2
            replace hres3 := hide hres3
            clear hres2
            obtain ⟨A9, k9, rfl, G9, q9, m9, a9⟩ := H.own.own.rd
            have g0 : wo.cell? ⟨q + 1, 0, none⟩ = some (.slice A9 acc.length k9) := H.own.blk.cell 0
            have hqlow := H.low
            go_wp2_with fail
            go_ret2
            rw [hres3.out]
            exact ⟨H.only, _, rfl, H.own.own.mono (by omega)⟩
      · have hr' : rowOk cs = false := by simpa using hr
        rw [hr'] at RW
        have hres1 : res = (2, []) := by
          rw [← hres.out]
          unfold writeP
          rw [← hks.out, if_neg hr]
        clear hr hr'
        replace hres1 := hide hres1
        go_wp2_with fail
        go_call RW as e w1 ⟨rfl, rfl⟩
        go_wp2_with fail
        go_ret2
        rw [hres1.out]
        exact writePost_none _ _ _ O
end Go.Proofs.YtdplnedpbkpgpaaGreatDoor

namespace Go.Proofs.YtdplnedpbkpgpaaGreatDoor
set_option linter.all false
open Go.RowKit

theorem fcells_at : ∀ (fs : List FD) (i : Nat) (f : FD) (j : Nat), fs[i]? = some f → j < 4 → (fcells fs)[i * 4 + j]? = f.cells[j]?
  | [], i, f, j, h, _ => by simp at h
  | g :: fs, 0, f, j, h, hj => by
    simp at h
    subst h
    unfold fcells
    rw [List.flatMap_cons, Nat.zero_mul, Nat.zero_add, List.getElem?_append_left (by simpa [FD.cells] using hj)]
  | g :: fs, i + 1, f, j, h, hj => by
    simp at h
    have := fcells_at fs i f j h hj
    unfold fcells at this ⊢
    rw [List.flatMap_cons, List.getElem?_append_right (by simp [FD.cells]; omega), ← this]
    congr 1
    simp [FD.cells]
    omega
/-- Fields in a row of a block. -/
theorem rdF_of {w : World} {b off : Nat} {fs : List FD} (hb : b < w.heap.size) (hc : ∀ j u, (fcells fs)[j]? = some u → w.cell? ⟨b, off + j, none⟩ = some u) (ok : ∀ f ∈ fs, f.ok w ∧ 0 ≤ f.n ∧ f.n ≤ 4294967295) : RdF w (some ⟨b, off, none⟩) fs := by
  refine ⟨fun _ => ⟨b, off, rfl, hb, fun i f hi => ?_⟩, ok⟩
  have h := fun j hj => fcells_at fs i f j hi hj
  have h0 := h 0 (by decide); have h1 := h 1 (by decide); have h2 := h 2 (by decide); have h3 := h 3 (by decide)
  refine ⟨hc _ _ h0, ?_, ?_, ?_⟩
  · rw [Nat.add_assoc]; exact hc _ _ h1
  · rw [Nat.add_assoc]; exact hc _ _ h2
  · rw [Nat.add_assoc]; exact hc _ _ h3
theorem rdF_new (w : World) (fs : List FD) (cs : Array Value) (h : cs = (fcells fs).toArray) (ok : ∀ f ∈ fs, f.ok w ∧ 0 ≤ f.n ∧ f.n ≤ 4294967295) : RdF (w.alloc (.cells cs 123)) (some ⟨w.heap.size, 0, none⟩) fs :=
  rdF_of (by simp) (fun j u hj => by rw [h, Nat.zero_add, World.cell?_alloc_mark]; simpa using hj) (fun f hf => ⟨(ok f hf).1.only ((Only.refl _ _).alloc _), (ok f hf).2⟩)
theorem OwnF.rdF {w : World} {base : Nat} {A : Option Addr} {n cap : Nat} {fs : List FD} (h : OwnF w base (.slice A n cap) fs) (ok : ∀ f ∈ fs, f.ok w ∧ 0 ≤ f.n ∧ f.n ≤ 4294967295) : RdF w A fs := by
  obtain ⟨A', cap', e, _, _, hc⟩ := h.form
  injection e with e1 e2 e3
  subst e1
  by_cases h0 : 0 < fs.length
  · obtain ⟨b, rfl, _, hb, hcell⟩ := hc h0
    exact rdF_of hb (fun j u hj => by rw [Nat.zero_add]; exact hcell j u hj) ok
  · exact ⟨fun h => absurd h h0, ok⟩
theorem rd_mark (w : World) (cs : Array Value) (fr : Nat × Nat) (l : List Int) (h : cs = (u8s l).toArray) : Rd (w.alloc (.cells cs 5 fr)) (some ⟨w.heap.size, 0, none⟩) l := fun _ => ⟨w.heap.size, 0, rfl, by simp, fun i v hi => by
  rw [h, World.cell?_alloc_mark]
  simp [u8s, hi]⟩
theorem rdI_new (w : World) (cs : Array Value) (l : List Int) (h : cs = (ints l).toArray) : RdI (w.alloc (.cells cs 3)) (some ⟨w.heap.size, 0, none⟩) l := fun _ => ⟨w.heap.size, 0, rfl, by simp, fun i v hi => by
  rw [h, World.cell?_alloc_mark]
  simp [ints, hi]⟩
theorem rdS_new (w : World) (cs : Array Value) (l : List ByteArray) (t : TypeId) (h : cs = (l.map Value.string).toArray) : RdS (w.alloc (.cells cs t)) (some ⟨w.heap.size, 0, none⟩) l := fun _ => ⟨w.heap.size, 0, rfl, by simp, fun i v hi => by
  rw [h, World.cell?_alloc_mark]
  simp [hi]⟩

theorem exA : writeP [⟨2, 1, [], []⟩, ⟨3, 258, [], []⟩, ⟨4, 0, [97, 98], []⟩] = (0, [1, 0, 0, 1, 2, 0, 0, 0, 2, 97, 98]) := by decide +kernel
theorem exB : writeP [⟨5, 0, [], [⟨#[97]⟩, ⟨#[98]⟩]⟩] = (0, [0, 0, 0, 3, 97, 44, 98]) := by decide +kernel
theorem exC : readP [2] [7] = (0, [⟨2, 1, [], []⟩]) := by rfl
theorem exD : readP [4] [0, 0, 0, 5, 97] = (3, []) := by rfl
end Go.Proofs.YtdplnedpbkpgpaaGreatDoor

namespace Go.Proofs.YtdplnedpbkpgpaaGreatDoor
set_option linter.all false
open Go.RowKit

theorem strInfos : (Tryz.prog.info? 9).map (fun i => (i.zero, i.size, i.bytes)) = some (some (.string ByteArray.empty), 1, 16) := by kernel_rfl
def strs' (l : List ByteArray) : List Value := l.map Value.string
/-- A slice of texts of the call's own, in a block from base on. -/
def OwnS (w : World) (base : Nat) (v : Value) (l : List ByteArray) : Prop := w.ownsRow base 9 1 v l.length (strs' l)
theorem ownS_nil (w : World) (base : Nat) : OwnS w base (.slice none 0 0) [] := World.ownsRow_nil w base _ _
theorem OwnS.far {w w' : World} {base : Nat} {v : Value} {l : List ByteArray} {L : List Nat} (h : OwnS w base v l) (hb : Only L w w') (hL : ∀ x ∈ L, some x ≠ v.ownBlock) : OwnS w' base v l := by
  refine ⟨h.1, ?_⟩
  rcases h.2 with h | ⟨g, cap, cur, e, hg, hh, r⟩
  · exact .inl h
  · exact .inr ⟨g, cap, cur, e, hg, (hb.block g (Array.getElem?_eq_some_iff.1 hh).1 (fun hm => hL g hm (by rw [e]; rfl))).trans hh, r⟩
theorem OwnS.block {w : World} {base : Nat} {v : Value} {l : List ByteArray} (h : OwnS w base v l) : ∀ k, v.ownBlock = some k → base ≤ k ∧ k < w.heap.size := World.ownsRow.lt h
theorem OwnS.rd {w : World} {base : Nat} {v : Value} {l : List ByteArray} (h : OwnS w base v l) : ∃ A cap, v = .slice A l.length cap ∧ RdS w A l ∧ l.length ≤ cap ∧ cap ≤ maxLen ∧ (∀ a, A = some a → base ≤ a.block) := by
  rcases h.2 with ⟨e, hn⟩ | ⟨g, cap, cur, e, hg, hh, hc, hm, hs, ht⟩
  · refine ⟨none, 0, by rw [e, hn], ?_, by omega, by simp [maxLen], by simp⟩
    obtain rfl := List.eq_nil_of_length_eq_zero hn
    exact RdG.nil
  · refine ⟨some ⟨g, 0, none⟩, cap, e, fun _ => ⟨g, 0, rfl, (Array.getElem?_eq_some_iff.1 hh).1, fun i v hi => ?_⟩, hc, hm, fun a ha => by simp at ha; subst ha; exact hg⟩
    subst e
    have := World.ownsRow.cells h (g := g) rfl i (.string v) (by simp [strs', hi])
    simpa [Addr.add_lit] using this
theorem ownS_new (w : World) : OwnS (w.alloc (.cells #[] 9)) w.heap.size (.slice (some ⟨w.heap.size, 0, none⟩) 0 0) [] := by
  refine ⟨by simp [strs'], .inr ⟨w.heap.size, 0, #[], rfl, Nat.le_refl _, heap_alloc_new w (.cells #[] 9), by simp, by simp [maxLen], by simp, by simp [strs']⟩⟩

theorem run_appS {w : World} (ty : TypeId) (base : Nat) (v : Value) (l : List ByteArray) (hown : OwnS w base v l) (A : Option Addr) (c : Nat) (m : List ByteArray) (hr : RdS w A m)
    (hlen : l.length + m.length ≤ 8796093022208) (hbase : base ≤ w.heap.size) :
    ∃ v' w', (Builtin.append_ #[121, 121] ty #[v, .slice A m.length c]).run Tryz.prog w = .ok v' w' ∧ OwnS w' base v' (l ++ m) ∧ Only v.ownBlock.toList w w' := by
  obtain ⟨i0, hi, hz0, hz1, hz2⟩ := info_parts strInfos
  have hu := Tryz.underlying121
  by_cases h0 : 0 < m.length
  · obtain ⟨b, off, rfl, hb, hc⟩ := hr h0
    have hn : ∀ j u, (strs' m)[j]? = some u → w.cell? ((⟨b, off, none⟩ : Addr).add j) = some u := by
      intro j u hj
      unfold strs' at hj
      rw [List.getElem?_map] at hj
      obtain ⟨s, hs, rfl⟩ := Option.map_eq_some_iff.1 hj
      rw [Addr.add_lit]
      exact hc j s hs
    have h1c : ∀ u ∈ strs' m, u.oneCell' = true := by
      intro u hu
      unfold strs' at hu
      obtain ⟨s, _, rfl⟩ := List.mem_map.1 hu
      rfl
    obtain ⟨v', w', e, h1, h2, h3⟩ := run_append_own (P := Tryz.prog) w base 121 ty 9 i0 _ 1 16 hu hi hz0 hz1 hz2 rfl (by decide) v l.length (strs' l) hown ⟨b, off, none⟩ m.length c (strs' m) (by simp [strs']) hn h1c (by simp only [maxLen]; omega) (by omega) hbase
    exact ⟨v', w', e, by show World.ownsRow _ _ _ _ _ _ _; simpa [strs'] using h1, only_of_grown h2⟩
  · have e0 : m = [] := List.eq_nil_of_length_eq_zero (by omega)
    subst e0
    refine ⟨v, w, ?_, by rw [List.append_nil]; exact hown, Only.refl _ _⟩
    have hf : ∀ w' : World, (Builtin.firstCells 1 0 (.slice A 0 c)).run Tryz.prog w' = .ok #[] w' := by
      intro w'
      cases A <;> simp [Builtin.firstCells, loadCells, loadCellsFrom]
    rcases hown.2 with ⟨rfl, hn⟩ | ⟨g, cap, cur, rfl, _, _, hnc, _⟩
    · cases A <;> simp [Builtin.append_, run_underlying hu, sizeOf, typeInfo, hi, hz1, Builtin.lenOf, hf]
    · cases A <;> simp [Builtin.append_, run_underlying hu, sizeOf, typeInfo, hi, hz1, Builtin.lenOf, hf, hnc, storeCells]

theorem wpList_appS {w : World} {ops : Array Oper} {rest : List Oper} {o : Oper} {a : Act} {Q : Exit → Act → World → Prop} (hgd : o.guard = none) (s x : Operand)
    (ho : o.op = .call { callee := .builtin .append, args := #[s, x], argTypes := #[121, 121] })
    (base : Nat) (v : Value) (l : List ByteArray) (hs : a.eval s = v) (hown : OwnS w base v l) (A : Option Addr) (c : Nat) (m : List ByteArray) (k : Nat) (hk : m.length = k) (hx : a.eval x = .slice A k c) (hr : RdS w A m)
    (hlen : l.length + m.length ≤ 8796093022208) (hbase : base ≤ w.heap.size)
    (h : ∀ v' w', Hid (OwnS w' base v' (l ++ m)) → Only v.ownBlock.toList w w' → wpList Tryz.prog ops Q rest (a.put o.dst v') w') : wpList Tryz.prog ops Q (o :: rest) a w := by
  subst hk
  refine wpList_plain hgd fun K hK => ?_
  obtain ⟨v', w', hrun, h1, h2⟩ := run_appS o.type base v l hown A c m hr hlen hbase
  unfold Oper.wp execOp
  simp only [ho, resolve, invoke, builtin, Sem.run_bind, Sem.run_pure, Result.andThen_ok, List.map_toArray, List.map_cons, List.map_nil, hs, hx, hrun]
  exact hK _ _ (h v' w' h1 h2)
end Go.Proofs.YtdplnedpbkpgpaaGreatDoor

namespace Go.Proofs.YtdplnedpbkpgpaaGreatDoor
set_option linter.all false
open Go.RowKit

theorem intInfos2 : (Tryz.prog.info? 3).map (fun i => (i.zero, i.size, i.bytes)) = some (some (.int .i64 0), 1, 8) := by kernel_rfl
/-- A slice of integers of the call's own, in a block from base on. -/
def OwnI (w : World) (base : Nat) (v : Value) (l : List Int) : Prop := w.ownsRow base 3 1 v l.length (ints l)
theorem ownI_nil (w : World) (base : Nat) : OwnI w base (.slice none 0 0) [] := World.ownsRow_nil w base _ _
theorem OwnI.far {w w' : World} {base : Nat} {v : Value} {l : List Int} {L : List Nat} (h : OwnI w base v l) (hb : Only L w w') (hL : ∀ x ∈ L, some x ≠ v.ownBlock) : OwnI w' base v l := by
  refine ⟨h.1, ?_⟩
  rcases h.2 with h | ⟨g, cap, cur, e, hg, hh, r⟩
  · exact .inl h
  · exact .inr ⟨g, cap, cur, e, hg, (hb.block g (Array.getElem?_eq_some_iff.1 hh).1 (fun hm => hL g hm (by rw [e]; rfl))).trans hh, r⟩
theorem OwnI.block {w : World} {base : Nat} {v : Value} {l : List Int} (h : OwnI w base v l) : ∀ k, v.ownBlock = some k → base ≤ k ∧ k < w.heap.size := World.ownsRow.lt h
theorem OwnI.rd {w : World} {base : Nat} {v : Value} {l : List Int} (h : OwnI w base v l) : ∃ A cap, v = .slice A l.length cap ∧ RdI w A l ∧ l.length ≤ cap ∧ cap ≤ maxLen ∧ (∀ a, A = some a → base ≤ a.block) := by
  rcases h.2 with ⟨e, hn⟩ | ⟨g, cap, cur, e, hg, hh, hc, hm, hs, ht⟩
  · refine ⟨none, 0, by rw [e, hn], ?_, by omega, by simp [maxLen], by simp⟩
    obtain rfl := List.eq_nil_of_length_eq_zero hn
    exact RdG.nil
  · refine ⟨some ⟨g, 0, none⟩, cap, e, fun _ => ⟨g, 0, rfl, (Array.getElem?_eq_some_iff.1 hh).1, fun i v hi => ?_⟩, hc, hm, fun a ha => by simp at ha; subst ha; exact hg⟩
    subst e
    have := World.ownsRow.cells h (g := g) rfl i (.int .i64 v) (by simp [ints, hi])
    simpa [Addr.add_lit] using this
theorem ownI_new (w : World) : OwnI (w.alloc (.cells #[] 3)) w.heap.size (.slice (some ⟨w.heap.size, 0, none⟩) 0 0) [] := by
  refine ⟨by simp [ints], .inr ⟨w.heap.size, 0, #[], rfl, Nat.le_refl _, heap_alloc_new w (.cells #[] 3), by simp, by simp [maxLen], by simp, by simp [ints]⟩⟩

theorem run_appI {w : World} (ty : TypeId) (base : Nat) (v : Value) (l : List Int) (hown : OwnI w base v l) (A : Option Addr) (c : Nat) (m : List Int) (hr : RdI w A m)
    (hlen : l.length + m.length ≤ 8796093022208) (hbase : base ≤ w.heap.size) :
    ∃ v' w', (Builtin.append_ #[109, 109] ty #[v, .slice A m.length c]).run Tryz.prog w = .ok v' w' ∧ OwnI w' base v' (l ++ m) ∧ Only v.ownBlock.toList w w' := by
  obtain ⟨i0, hi, hz0, hz1, hz2⟩ := info_parts intInfos2
  have hu := Tryz.underlying109
  by_cases h0 : 0 < m.length
  · obtain ⟨b, off, rfl, hb, hc⟩ := hr h0
    have hn : ∀ j u, (ints m)[j]? = some u → w.cell? ((⟨b, off, none⟩ : Addr).add j) = some u := by
      intro j u hj
      unfold ints at hj
      rw [List.getElem?_map] at hj
      obtain ⟨s, hs, rfl⟩ := Option.map_eq_some_iff.1 hj
      rw [Addr.add_lit]
      exact hc j s hs
    have h1c : ∀ u ∈ ints m, u.oneCell' = true := by
      intro u hu
      unfold ints at hu
      obtain ⟨s, _, rfl⟩ := List.mem_map.1 hu
      rfl
    obtain ⟨v', w', e, h1, h2, h3⟩ := run_append_own (P := Tryz.prog) w base 109 ty 3 i0 _ 1 8 hu hi hz0 hz1 hz2 rfl (by decide) v l.length (ints l) hown ⟨b, off, none⟩ m.length c (ints m) (by simp [ints]) hn h1c (by simp only [maxLen]; omega) (by omega) hbase
    exact ⟨v', w', e, by show World.ownsRow _ _ _ _ _ _ _; simpa [ints] using h1, only_of_grown h2⟩
  · have e0 : m = [] := List.eq_nil_of_length_eq_zero (by omega)
    subst e0
    refine ⟨v, w, ?_, by rw [List.append_nil]; exact hown, Only.refl _ _⟩
    have hf : ∀ w' : World, (Builtin.firstCells 1 0 (.slice A 0 c)).run Tryz.prog w' = .ok #[] w' := by
      intro w'
      cases A <;> simp [Builtin.firstCells, loadCells, loadCellsFrom]
    rcases hown.2 with ⟨rfl, hn⟩ | ⟨g, cap, cur, rfl, _, _, hnc, _⟩
    · cases A <;> simp [Builtin.append_, run_underlying hu, sizeOf, typeInfo, hi, hz1, Builtin.lenOf, hf]
    · cases A <;> simp [Builtin.append_, run_underlying hu, sizeOf, typeInfo, hi, hz1, Builtin.lenOf, hf, hnc, storeCells]

theorem wpList_appI {w : World} {ops : Array Oper} {rest : List Oper} {o : Oper} {a : Act} {Q : Exit → Act → World → Prop} (hgd : o.guard = none) (s x : Operand)
    (ho : o.op = .call { callee := .builtin .append, args := #[s, x], argTypes := #[109, 109] })
    (base : Nat) (v : Value) (l : List Int) (hs : a.eval s = v) (hown : OwnI w base v l) (A : Option Addr) (c : Nat) (m : List Int) (k : Nat) (hk : m.length = k) (hx : a.eval x = .slice A k c) (hr : RdI w A m)
    (hlen : l.length + m.length ≤ 8796093022208) (hbase : base ≤ w.heap.size)
    (h : ∀ v' w', Hid (OwnI w' base v' (l ++ m)) → Only v.ownBlock.toList w w' → wpList Tryz.prog ops Q rest (a.put o.dst v') w') : wpList Tryz.prog ops Q (o :: rest) a w := by
  subst hk
  refine wpList_plain hgd fun K hK => ?_
  obtain ⟨v', w', hrun, h1, h2⟩ := run_appI o.type base v l hown A c m hr hlen hbase
  unfold Oper.wp execOp
  simp only [ho, resolve, invoke, builtin, Sem.run_bind, Sem.run_pure, Result.andThen_ok, List.map_toArray, List.map_cons, List.map_nil, hs, hx, hrun]
  exact hK _ _ (h v' w' h1 h2)
end Go.Proofs.YtdplnedpbkpgpaaGreatDoor

namespace Go.Proofs.YtdplnedpbkpgpaaGreatDoor
set_option linter.all false
open Go.RowKit

/-- The field's memory is not the row's. -/
def FD.off (f : FD) (v : Value) : Prop := (∀ a, f.tA = some a → 0 < f.text.length → v.ownBlock ≠ some a.block) ∧ (∀ a, f.lA = some a → 0 < f.list.length → v.ownBlock ≠ some a.block)
theorem mine_snoc {wo w13 w14 : World} {base k' : Nat} {A' : Option Addr} {v : Value} {gs : List FD} {g : FD} (X : Only [] wo w13) (P : Only v.ownBlock.toList w13 w14) (G : Where2 v (.slice A' (gs.length + 1) k') w13.heap.size)
    (hv : ∀ x, v.ownBlock = some x → base ≤ x ∧ x < wo.heap.size) (hm : ∀ f ∈ gs, FD.mine wo f base ∧ f.off v) (mg : FD.mine w13 g wo.heap.size) (hb : base ≤ wo.heap.size) :
    ∀ f ∈ gs ++ [g], FD.mine w14 f base ∧ f.off (.slice A' (gs.length + 1) k') := by
  have z := X.size
  have hnw : ∀ x, some x = (Value.slice A' (gs.length + 1) k').ownBlock → some x = v.ownBlock ∨ w13.heap.size ≤ x := by
    intro x hx
    rcases G with e | e
    · left; rw [e] at hx; exact hx
    · right; rw [e] at hx; injection hx with hx; omega
  intro f hf
  rw [List.mem_append] at hf
  rcases hf with hf | hf
  · obtain ⟨m1, fr⟩ := hm f hf
    have t1 := m1.ok.tlt
    have t2 := m1.ok.llt
    refine ⟨(m1.only X).off P (fun a ha h0 hx => fr.1 a ha h0 (by simpa using hx)) (fun a ha h0 hx => fr.2 a ha h0 (by simpa using hx)), fun a ha h0 hx => ?_, fun a ha h0 hx => ?_⟩
    · rcases hnw _ hx.symm with h | h
      · exact fr.1 a ha h0 h.symm
      · have := t1 a ha h0; omega
    · rcases hnw _ hx.symm with h | h
      · exact fr.2 a ha h0 h.symm
      · have := t2 a ha h0; omega
  · simp at hf
    subst hf
    have t1 := mg.ok.tlt
    have t2 := mg.ok.llt
    refine ⟨(mg.off P (fun a ha h0 hx => ?_) (fun a ha h0 hx => ?_)).mono hb, fun a ha h0 hx => ?_, fun a ha h0 hx => ?_⟩
    · have h1 := mg.new.1 a ha
      have h2 := hv _ (by simpa using hx)
      omega
    · have h1 := mg.new.2 a ha
      have h2 := hv _ (by simpa using hx)
      omega
    · have h1 := mg.new.1 a ha
      rcases hnw _ hx.symm with h | h
      · have h2 := hv _ h.symm; omega
      · have := t1 a ha h0; omega
    · have h1 := mg.new.2 a ha
      rcases hnw _ hx.symm with h | h
      · have h2 := hv _ h.symm; omega
      · have := t2 a ha h0; omega

/-- A field whose text and names are new. -/
theorem mine_new {w8 w11 w13 : World} {q B k8 k11 : Nat} {A8 A11 : Option Addr} {kd nn : Int} {tx : List Int} {ls : List ByteArray} (V8 : OwnB w8 (q + 1) (.slice A8 tx.length k8) tx) (V11 : OwnS w11 w8.heap.size (.slice A11 ls.length k11) ls)
    (Y8 : Only [q] w8 w13) (Y11 : Only [q] w11 w13) (hq : q < w8.heap.size) (hB : B ≤ q) (hs : ∀ s ∈ ls, s.size ≤ maxLen) : FD.mine w13 ⟨kd, nn, A8, k8, tx, A11, k11, ls⟩ B := by
  obtain ⟨A, k, e, R8, q8, m8, a8⟩ := V8.rd
  injection e with e1 _ e3
  subst e1; subst e3
  obtain ⟨A', k', e', R11, q11, m11, a11⟩ := V11.rd
  injection e' with e1 _ e3
  subst e1; subst e3
  have S8 := OwnB.soft V8
  refine ⟨⟨RdG.onlyL (mk := .int .u8) R8 Y8 (fun a ha _ => by have := a8 a ha; simp; omega), RdG.onlyL (mk := .string) R11 Y11 (fun a ha _ => by have := a11 a ha; simp; omega), q8, m8, q11, m11, hs⟩, ⟨fun a ha => by have := a8 a ha; omega, fun a ha => by have := a11 a ha; omega⟩, fun a ha i hi => ?_⟩
  have hlt := RdG.lt (mk := .int .u8) R8 (show 0 < tx.length by have : i < tx.length := hi; omega) a ha
  refine (World.frozen?_of_block (w := w8) ?_).trans (S8 a ha i hi)
  rw [block_add]
  exact Y8.block _ hlt (by have := a8 a ha; simp; omega)

/-- Sizes that can be. -/
def Fits (f : FD) : Prop := f.text.length ≤ 140737488355328 ∧ f.list.length ≤ 8796093022208

end Go.Proofs.YtdplnedpbkpgpaaGreatDoor

namespace Go.Proofs.YtdplnedpbkpgpaaGreatDoor
set_option linter.all false
open Go.RowKit

set_option maxRecDepth 100000 in
set_option maxHeartbeats 1600000 in
theorem rword_any (s : ByteArray) (least : Nat) (w : World) (hs : s.size ≤ maxLen) : Calls Tryz.prog 130 #[.string s, .int .i64 (least : Int)] w fun e w' => e = .returned (.int .i64 (wordE s least)) ∧ w = w' := by
  unfold maxLen at hs
  obtain ⟨R, hR⟩ : ∃ R, R = wordE s least := ⟨_, rfl⟩
  rw [← hR]
  unfold wordE at hR
  by_cases h1 : s.size < least
  · have hR0 : R = 4 := by rw [hR]; unfold wordOk; rw [decide_eq_false (show ¬ least ≤ s.size by omega)]; rfl
    have i1 : (s.size : Int) < (least : Int) := by omega
    clear hR
    replace hR0 := hide hR0
    go_enter Tryz.func130, Tryz.ntmps130
    go_wp2
    go_ret
    exact ⟨ret_int hR0.out.symm, rfl⟩
  have i1 : ¬ (s.size : Int) < (least : Int) := by omega
  by_cases h2 : 64 < s.size
  · have hR0 : R = 4 := by rw [hR]; unfold wordOk; rw [decide_eq_false (show ¬ s.size ≤ 64 by omega)]; simp
    have i2 : (64 : Int) < (s.size : Int) := by omega
    clear hR
    replace hR0 := hide hR0
    go_enter Tryz.func130, Tryz.ntmps130
    go_wp2
    go_ret
    exact ⟨ret_int hR0.out.symm, rfl⟩
  have i2 : ¬ (64 : Int) < (s.size : Int) := by omega
  have hR1 : R = if s.data.toList.all wSign then 0 else 4 := by rw [hR]; unfold wordOk; rw [decide_eq_true (show least ≤ s.size by omega), decide_eq_true (show s.size ≤ 64 by omega)]; rfl
  clear hR
  obtain ⟨n, hn⟩ : ∃ n, s.size = n := ⟨_, rfl⟩
  replace hR1 := hide hR1
  replace hn := hide hn
  go_enter Tryz.func130, Tryz.ntmps130
  go_wp2
  go_loop [17] (fun i => ∃ k : Nat, k ≤ s.size ∧ i = .int .i64 k ∧ Hid ((s.data.toList.take k).all wSign = true)) (fun i => s.size - (intOf i).toNat)
  case atStart => exact ⟨0, by omega, rfl, hide rfl⟩
  case round =>
    obtain ⟨k, hk, rfl, hg⟩ := hrel
    by_cases hlt : k < s.size
    · have hts := hide (take_snocS s k hlt)
      by_cases hc : wSign s[k] = true
      · have hcc := hide hc
        unfold wSign at hc
        simp only [Bool.and_eq_true, decide_eq_true_eq] at hc
        obtain ⟨q1, q2⟩ := hc
        go_wp2
        go_round
        case rel => exact ⟨k + 1, by omega, by go_num, hide (by rw [hts.out, List.all_append, hg.out]; simp [hcc.out])⟩
        case measure => simp [intOf]; omega
      · have hf : R = 4 := by
          rw [hR1.out, if_neg]
          intro h
          have := List.all_eq_true.1 h s[k] (by
            have : s[k] = s.data.toList[k]'(by simpa using hlt) := rfl
            rw [this]; exact List.getElem_mem _)
          exact hc this
        have hq : s[k].toNat < 33 ∨ 126 < s[k].toNat := by
          unfold wSign at hc
          simp at hc
          omega
        clear hR1 hc
        replace hf := hide hf
        by_cases q1 : s[k].toNat < 33
        · clear hq
          go_wp2
          go_ret
          exact ⟨ret_int hf.out.symm, rfl⟩
        · have q2 : 126 < s[k].toNat := by omega
          clear hq
          go_wp2
          go_ret
          exact ⟨ret_int hf.out.symm, rfl⟩
    · obtain rfl : k = s.size := by omega
      have hf : R = 0 := by
        rw [hR1.out, if_pos]
        have := hg.out
        rw [List.take_of_length_le (by simp)] at this
        exact this
      replace hf := hide hf
      go_wp2
      go_ret
      exact ⟨ret_int hf.out.symm, rfl⟩
theorem rlong_any (n : Nat) (w : World) : Calls Tryz.prog 131 #[.int .i64 (n : Int)] w fun e w' => e = .returned (.int .i64 (longE n)) ∧ w = w' := by
  by_cases h : 1024 < n
  · have h1 : longE n = 6 := if_pos h
    rw [h1]
    have i1 : (1024 : Int) < (n : Int) := by omega
    clear h1
    go_enter Tryz.func131, Tryz.ntmps131
    go_wp2
    go_ret
    exact ⟨rfl, rfl⟩
  · have h1 : longE n = 0 := if_neg h
    rw [h1]
    have i1 : ¬ (1024 : Int) < (n : Int) := by omega
    clear h1
    go_enter Tryz.func131, Tryz.ntmps131
    go_wp2
    go_ret
    exact ⟨rfl, rfl⟩
set_option maxRecDepth 100000 in
set_option maxHeartbeats 1600000 in
theorem firstE_take (l : List Int) (k : Nat) (h : ∀ x ∈ l.take k, x = 0) : firstE l = firstE (l.drop k) := by
  induction k generalizing l with
  | zero => rfl
  | succ k ih =>
    cases l with
    | nil => rfl
    | cons a l =>
      have ha : a = 0 := h a (by simp)
      show (if a ≠ 0 then a else firstE l) = firstE (l.drop k)
      rw [if_neg (by simpa using ha)]
      exact ih l (fun x hx => h x (by simp [hx]))
theorem rfirst_any (A : Option Addr) (l : List Int) (c : Nat) (w : World) (h : RdI w A l) (hl : l.length ≤ maxLen) : Calls Tryz.prog 129 #[.slice A l.length c] w fun e w' => e = .returned (.int .i64 (firstE l)) ∧ w = w' := by
  unfold maxLen at hl
  obtain ⟨R, hR⟩ : ∃ R, R = firstE l := ⟨_, rfl⟩
  rw [← hR]
  obtain ⟨n, hn⟩ : ∃ n, l.length = n := ⟨_, rfl⟩
  rw [hn] at hl ⊢
  replace hn := hide hn
  replace hR := hide hR
  go_enter Tryz.func129, Tryz.ntmps129
  go_wp2
  go_loop [7] (fun i => ∃ k : Nat, k ≤ n ∧ i = .int .i64 k ∧ Hid (∀ x ∈ l.take k, x = 0)) (fun i => n - (intOf i).toNat)
  case atStart => exact ⟨0, by omega, rfl, hide (fun x hx => by simp at hx)⟩
  case round =>
    obtain ⟨k, hk, rfl, hg⟩ := hrel
    by_cases hlt : k < n
    · obtain ⟨b, off, x, rfl, hb, hx, cx⟩ := RdG.at h k (by have := hn.out; omega)
      by_cases hz : x = 0
      · subst hz
        have hg2 : ∀ y ∈ l.take (k + 1), y = 0 := by
          intro y hy
          rw [List.take_succ, hx] at hy
          rcases List.mem_append.1 hy with hy | hy
          · exact hg.out y hy
          · simpa using hy
        replace hg2 := hide hg2
        replace hx := hide hx
        go_wp2
        go_round
        case rel => exact ⟨k + 1, by omega, by go_num, hg2⟩
        case measure => simp [intOf]; omega
      · have hzb : (x != 0) = true := by simpa using hz
        have hf : R = x := by
          rw [hR.out, firstE_take l k hg.out]
          have hd : l.drop k = x :: l.drop (k + 1) := by
            rw [List.drop_eq_getElem_cons (by have := hn.out; omega)]
            congr 1
            rw [List.getElem?_eq_getElem (by have := hn.out; omega)] at hx
            exact Option.some.inj hx
          rw [hd]
          exact if_pos hz
        replace hf := hide hf
        replace hx := hide hx
        clear hz
        go_wp2
        go_ret
        exact ⟨ret_int hf.out.symm, rfl⟩
    · obtain rfl : k = n := by omega
      have hf : R = 0 := by
        rw [hR.out, firstE_take l k hg.out, List.drop_of_length_le (by have := hn.out; omega)]
        rfl
      replace hf := hide hf
      go_wp2
      go_ret
      exact ⟨ret_int hf.out.symm, rfl⟩
/-- A field in new memory. -/
def FldPost (w : World) (p : PF) : Ending → World → Prop := fun e w' => Only [] w w' ∧ ∃ f : FD, e = .returned f.val ∧ f.pf = p ∧ f.new w.heap.size ∧ f.ok w' ∧ U32 f.n
set_option maxRecDepth 100000 in
set_option maxHeartbeats 1600000 in
theorem rtext_any (s : ByteArray) (w : World) (hs : s.size ≤ 140737488355328) : Calls Tryz.prog 132 #[.string s] w (FldPost w { pT s with kind := 0 }) := by
  obtain ⟨w1, hw1⟩ : ∃ w1, w1 = w.alloc (.cells #[.int .i64 0, .int .u32 0, .slice none 0 0, .slice none 0 0] 123) := ⟨_, rfl⟩
  have P1 : Only [] w w1 := by rw [hw1]; exact (Only.refl _ _).alloc _
  have K1 : Blk w1 w.heap.size 123 [.int .i64 0, .int .u32 0, .slice none 0 0, .slice none 0 0] := by rw [hw1]; exact Blk.new w _ _
  have hs1 : w1.heap.size = w.heap.size + 1 := by rw [hw1]; simp
  obtain ⟨cc, w3, hcv, hcc, hcm, P3, RS, hs3⟩ := run_conv_bytes w1 s.data.toList
  have hul : s.data.toList.length = s.size := by simp
  rw [hul] at hcv hcc hcm
  have heta : (⟨s.data.toList.toArray⟩ : ByteArray) = s := Go.Joins.bytes_eta s
  rw [heta] at hcv
  have K3 := K1.only P3 (by simp)
  have g0 : w3.cell? ⟨w.heap.size, 0, none⟩ = some (.int .i64 0) := K3.cell 0
  have g1 : w3.cell? ⟨w.heap.size, 1, none⟩ = some (.int .u32 0) := K3.cell 1
  have g2 : w3.cell? ⟨w.heap.size, 2, none⟩ = some (.slice none 0 0) := K3.cell 2
  have g3 : w3.cell? ⟨w.heap.size, 3, none⟩ = some (.slice none 0 0) := K3.cell 3
  have f0 := K3.frozen 0
  have f1 := K3.frozen 1
  have f2 := K3.frozen 2
  have f3 := K3.frozen 3
  rw [hw1] at hcv
  have hcc2 : (sOf s).length ≤ cc := by rw [sOf_len]; exact hcc
  have hcm2 : cc ≤ maxLen := hcm (by unfold maxLen; omega)
  rw [hs1] at RS
  rw [show (w.alloc (.cells #[.int .i64 0, .int .u32 0, .slice none 0 0, .slice none 0 0] 123)).heap.size = w.heap.size + 1 by simp] at hcv
  obtain ⟨n, hn⟩ : ∃ n, s.size = n := ⟨_, rfl⟩
  rw [hn] at hcv
  replace hcc := hide hcc
  replace hul := hide hul
  replace hn := hide hn
  replace hs1 := hide hs1
  replace hw1 := hide hw1
  replace heta := hide heta
  clear K1 hcm
  go_enter Tryz.func132, Tryz.ntmps132
  go_wp2
  (try simp only [Exit.inBlock, Exit.then])
  have Y4 := W4.only w3 w.heap.size (.int .i64 0) (.int .u32 0) (.slice (some ⟨w.heap.size + 1, 0, none⟩) n cc) (.slice none 0 0)
  refine ret_field (g := w.heap.size) rfl (by rfl) (by rfl) (W4.blk K3 (.int .i64 0) (.int .u32 0) (.slice (some ⟨w.heap.size + 1, 0, none⟩) n cc) (.slice none 0 0)) ?_
  refine ⟨(P1.trans P3 (by simp)).trans Y4 (fun x hx => .inr (by simp at hx; omega)), ⟨0, 0, some ⟨w.heap.size + 1, 0, none⟩, cc, sOf s, none, 0, []⟩, ?_, rfl, ⟨fun a ha => by injection ha with ha; subst ha; exact Nat.le_succ _, fun a ha => by simp at ha⟩, ⟨?_, RdG.nil, hcc2, hcm2, by simp, by simp, by simp⟩, Int.le_refl 0, show (0 : Int) ≤ 4294967295 by decide⟩
  · unfold FD.val
    dsimp only
    rw [sOf_len, hn.out]
    rfl
  · exact RdG.onlyL (mk := .int .u8) RS Y4 (fun a ha _ => by injection ha with ha; subst ha; simp)
set_option maxRecDepth 100000 in
set_option maxHeartbeats 1600000 in
theorem rflag_any (b : Bool) (w : World) : Calls Tryz.prog 134 #[.bool b] w (FldPost w { pB b with kind := 0 }) := by
  cases b with
  | true =>
    go_enter Tryz.func134, Tryz.ntmps134
    go_wp2
    (try simp only [Exit.inBlock, Exit.then])
    refine ret_field (g := w.heap.size) rfl (by rfl) (by rfl) (Blk.new w 123 [.int .i64 0, .int .u32 1, .slice none 0 0, .slice none 0 0]) ?_
    exact ⟨(Only.refl _ _).alloc _, ⟨0, 1, none, 0, [], none, 0, []⟩, rfl, rfl, FD.new.plain _ _ _, FD.ok.plain _ _ _, by decide, by decide⟩
  | false =>
    go_enter Tryz.func134, Tryz.ntmps134
    go_wp2
    (try simp only [Exit.inBlock, Exit.then])
    refine ret_field (g := w.heap.size) rfl (by rfl) (by rfl) (Blk.new w 123 [.int .i64 0, .int .u32 0, .slice none 0 0, .slice none 0 0]) ?_
    exact ⟨(Only.refl _ _).alloc _, ⟨0, 0, none, 0, [], none, 0, []⟩, rfl, rfl, FD.new.plain _ _ _, FD.ok.plain _ _ _, by decide, by decide⟩
/-- Fields in a new slice. -/
theorem ownF_lit (w : World) (fs : List FD) (n : Nat) (hn : fs.length = n) (h1 : n ≤ 1000) (cs : Array Value) (h : cs = (fcells fs).toArray) : OwnF (w.alloc (.cells cs 123)) w.heap.size (.slice (some ⟨w.heap.size, 0, none⟩) n n) fs := by
  subst h
  subst hn
  exact ⟨by rw [fcells_length], .inr ⟨w.heap.size, fs.length, (fcells fs).toArray, rfl, Nat.le_refl _, heap_alloc_new w (.cells (fcells fs).toArray 123), Nat.le_refl _, by unfold maxLen; omega, by simp [fcells_length], by rw [← fcells_length]; simp⟩⟩
/-- What a getter hands on: fields in a slice of their own, their kinds not yet set. -/
def GetsPost (w : World) (ps : List PF) : Ending → World → Prop := fun e w' => Only [] w w' ∧ ∃ (v : Value) (fs : List FD), e = .returned v ∧ OwnF w' w.heap.size v fs ∧ fs.map FD.pf = ps.map (fun p => { p with kind := 0 }) ∧ (∀ f ∈ fs, FD.ok w' f ∧ f.off v) ∧ ∀ f ∈ fs, U32 f.n
theorem off_new {w : World} {f : FD} (h : f.ok w) (n c : Nat) : f.off (.slice (some ⟨w.heap.size, 0, none⟩) n c) :=
  ⟨fun a ha h0 hx => by have := h.tlt a ha h0; have hx2 : w.heap.size = a.block := Option.some.inj hx; omega, fun a ha h0 hx => by have := h.llt a ha h0; have hx2 : w.heap.size = a.block := Option.some.inj hx; omega⟩
theorem plain_off (k n : Int) (v : Value) : FD.off ⟨k, n, none, 0, [], none, 0, []⟩ v := ⟨fun a ha => by simp at ha, fun a ha => by simp at ha⟩
end Go.Proofs.YtdplnedpbkpgpaaGreatDoor

namespace Go.Proofs.YtdplnedpbkpgpaaGreatDoor
set_option linter.all false
open Go.RowKit

section
variable (m : RQ) (g : Nat) (w : World)
set_option maxRecDepth 100000 in
set_option maxHeartbeats 1600000 in
theorem getNoneR_any (hg : Blk w g 119 m.cells) : Calls Tryz.prog 77 #[.pointer (some ⟨g, 0, none⟩)] w (GetsPost w (partsR m 3)) := by
  go_enter Tryz.func77, Tryz.ntmps77
  go_wp2
  go_ret
  exact ⟨Only.refl _ _, _, [], rfl, ownF_nil _ _, rfl, fun f hf => by simp at hf, fun f hf => by simp at hf⟩
set_option maxRecDepth 100000 in
set_option maxHeartbeats 1600000 in
theorem getTextR_any (hg : Blk w g 119 m.cells) (hs : m.text.size ≤ 140737488355328) : Calls Tryz.prog 80 #[.pointer (some ⟨g, 0, none⟩)] w (GetsPost w (partsR m 4)) := by
  have c1 : w.cell? ⟨g, 1, none⟩ = some (.string m.text) := hg.cell 1
  have hlt := hg.lt
  have TX := rtext_any m.text w hs
  go_enter Tryz.func80, Tryz.ntmps80
  go_wp2_with fail
  go_call TX as e w1 ⟨P1, f, rfl, hp, hnew, okf, hn⟩
  have V := ownF_lit w1 [f] 1 rfl (by decide) f.cells.toArray (by simp [fcells])
  have P2 : Only [] w1 (w1.alloc (.cells f.cells.toArray 123)) := (Only.refl _ _).alloc _
  have z1 := P1.size
  unfold FD.val
  go_wp2_with fail
  go_ret
  refine ⟨P1.trans P2 (by simp), _, [f], rfl, V.mono z1, ?_, fun x hx => ?_, fun x hx => ?_⟩
  · rw [List.map_cons, hp]; rfl
  · rw [List.mem_singleton] at hx; subst hx; exact ⟨okf.only P2, off_new okf 1 1⟩
  · rw [List.mem_singleton] at hx; subst hx; exact hn
set_option maxRecDepth 100000 in
set_option maxHeartbeats 1600000 in
theorem getOnR_any (hg : Blk w g 119 m.cells)  : Calls Tryz.prog 86 #[.pointer (some ⟨g, 0, none⟩)] w (GetsPost w (partsR m 7)) := by
  have c9 : w.cell? ⟨g, 9, none⟩ = some (.bool m.on) := hg.cell 9
  have hlt := hg.lt
  have TX := rflag_any m.on w
  go_enter Tryz.func86, Tryz.ntmps86
  go_wp2_with fail
  go_call TX as e w1 ⟨P1, f, rfl, hp, hnew, okf, hn⟩
  have V := ownF_lit w1 [f] 1 rfl (by decide) f.cells.toArray (by simp [fcells])
  have P2 : Only [] w1 (w1.alloc (.cells f.cells.toArray 123)) := (Only.refl _ _).alloc _
  have z1 := P1.size
  unfold FD.val
  go_wp2_with fail
  go_ret
  refine ⟨P1.trans P2 (by simp), _, [f], rfl, V.mono z1, ?_, fun x hx => ?_, fun x hx => ?_⟩
  · rw [List.map_cons, hp]; rfl
  · rw [List.mem_singleton] at hx; subst hx; exact ⟨okf.only P2, off_new okf 1 1⟩
  · rw [List.mem_singleton] at hx; subst hx; exact hn
set_option maxRecDepth 100000 in
set_option maxHeartbeats 1600000 in
theorem getCodeR_any (hg : Blk w g 119 m.cells) (hn : U32 m.code) : Calls Tryz.prog 88 #[.pointer (some ⟨g, 0, none⟩)] w (GetsPost w (partsR m 9)) := by
  have c10 : w.cell? ⟨g, 10, none⟩ = some (.int .u32 m.code) := hg.cell 10
  have hlt := hg.lt
  have V := ownF_lit w [⟨0, m.code, none, 0, [], none, 0, []⟩] 1 rfl (by decide) #[.int .i64 0, .int .u32 m.code, .slice none 0 0, .slice none 0 0] (by simp [fcells, FD.cells])
  go_enter Tryz.func88, Tryz.ntmps88
  go_wp2
  go_ret
  refine ⟨(Only.refl _ _).alloc _, _, _, rfl, V, rfl, fun x hx => ?_, fun x hx => ?_⟩
  · rw [List.mem_singleton] at hx; subst hx; exact ⟨FD.ok.plain _ _ _, plain_off _ _ _⟩
  · rw [List.mem_singleton] at hx; subst hx; exact hn
set_option maxRecDepth 100000 in
set_option maxHeartbeats 1600000 in
theorem getSizeR_any (hg : Blk w g 119 m.cells) (hn : RNums m) : Calls Tryz.prog 84 #[.pointer (some ⟨g, 0, none⟩)] w (GetsPost w (partsR m 6)) := by
  have hlt := hg.lt
  have V := ownF_lit w.drew [⟨0, m.cols, none, 0, [], none, 0, []⟩, ⟨0, m.rows, none, 0, [], none, 0, []⟩, ⟨0, m.width, none, 0, [], none, 0, []⟩, ⟨0, m.height, none, 0, [], none, 0, []⟩] 4 rfl (by decide) #[.int .i64 0, .int .u32 m.cols, .slice none 0 0, .slice none 0 0, .int .i64 0, .int .u32 m.rows, .slice none 0 0, .slice none 0 0, .int .i64 0, .int .u32 m.width, .slice none 0 0, .slice none 0 0, .int .i64 0, .int .u32 m.height, .slice none 0 0, .slice none 0 0] (by simp [fcells, FD.cells])
  go_enter Tryz.func84, Tryz.ntmps84
  go_wp2_with fail
  have hI : (fun w' : World => Blk w' g 119 m.cells) { w with drawn := w.drawn + 1 } := hg
  refine wp_region_E (fun w' : World => Blk w' g 119 m.cells) [] (by kernel_rfl) ?_
  refine wpAnyE_take 0 (v := (.pointer (some ⟨g, 0, none⟩))) rfl (by kernel_rfl) (fun _ _ _ h => h) hI (fun w' hw' => Or.inl ⟨by kernel_rfl, Or.inl (by go_simp)⟩) ?_
  refine wpAnyE_take 1 (v := (.pointer (some ⟨g, 0, none⟩))) rfl (by kernel_rfl) (fun _ _ _ h => h) hI (fun w' hw' => Or.inl ⟨by kernel_rfl, Or.inl (by go_simp)⟩) ?_
  refine wpAnyE_take 2 (v := (.pointer (some ⟨g, 0, none⟩))) rfl (by kernel_rfl) (fun _ _ _ h => h) hI (fun w' hw' => Or.inl ⟨by kernel_rfl, Or.inl (by go_simp)⟩) ?_
  refine wpAnyE_take 3 (v := (.pointer (some ⟨g, 4, none⟩))) rfl (by kernel_rfl) (fun _ _ _ h => h) hI (fun w' hw' => Or.inl ⟨by kernel_rfl, Or.inl (by go_simp)⟩) ?_
  refine wpAnyE_take 4 (v := (.pointer (some ⟨g, 4, none⟩))) rfl (by kernel_rfl) (fun _ _ _ h => h) hI (fun w' hw' => Or.inl ⟨by kernel_rfl, Or.inl (by go_simp)⟩) ?_
  refine wpAnyE_take 5 (v := (.int .u32 m.cols)) rfl (by kernel_rfl) (fun _ _ _ h => h) hI (fun w' hw' => Or.inl ⟨by kernel_rfl, Or.inl (by have y0 : w'.cell? ⟨g, 4, none⟩ = some (.int .u32 m.cols) := hw'.cell 4; go_simp)⟩) ?_
  refine wpAnyE_take 6 (v := (.agg #[.int .i64 0, .int .u32 m.cols, .slice none 0 0, .slice none 0 0])) rfl (by kernel_rfl) (fun _ _ _ h => h) hI (fun w' hw' => Or.inl ⟨by kernel_rfl, Or.inl (by go_simp)⟩) ?_
  refine wpAnyE_take 7 (v := (.pointer (some ⟨g, 0, none⟩))) rfl (by kernel_rfl) (fun _ _ _ h => h) hI (fun w' hw' => Or.inl ⟨by kernel_rfl, Or.inl (by go_simp)⟩) ?_
  refine wpAnyE_take 8 (v := (.pointer (some ⟨g, 0, none⟩))) rfl (by kernel_rfl) (fun _ _ _ h => h) hI (fun w' hw' => Or.inl ⟨by kernel_rfl, Or.inl (by go_simp)⟩) ?_
  refine wpAnyE_take 9 (v := (.pointer (some ⟨g, 0, none⟩))) rfl (by kernel_rfl) (fun _ _ _ h => h) hI (fun w' hw' => Or.inl ⟨by kernel_rfl, Or.inl (by go_simp)⟩) ?_
  refine wpAnyE_take 10 (v := (.pointer (some ⟨g, 4, none⟩))) rfl (by kernel_rfl) (fun _ _ _ h => h) hI (fun w' hw' => Or.inl ⟨by kernel_rfl, Or.inl (by go_simp)⟩) ?_
  refine wpAnyE_take 11 (v := (.pointer (some ⟨g, 5, none⟩))) rfl (by kernel_rfl) (fun _ _ _ h => h) hI (fun w' hw' => Or.inl ⟨by kernel_rfl, Or.inl (by go_simp)⟩) ?_
  refine wpAnyE_take 12 (v := (.int .u32 m.rows)) rfl (by kernel_rfl) (fun _ _ _ h => h) hI (fun w' hw' => Or.inl ⟨by kernel_rfl, Or.inl (by have y0 : w'.cell? ⟨g, 5, none⟩ = some (.int .u32 m.rows) := hw'.cell 5; go_simp)⟩) ?_
  refine wpAnyE_take 13 (v := (.agg #[.int .i64 0, .int .u32 m.rows, .slice none 0 0, .slice none 0 0])) rfl (by kernel_rfl) (fun _ _ _ h => h) hI (fun w' hw' => Or.inl ⟨by kernel_rfl, Or.inl (by go_simp)⟩) ?_
  refine wpAnyE_take 14 (v := (.pointer (some ⟨g, 0, none⟩))) rfl (by kernel_rfl) (fun _ _ _ h => h) hI (fun w' hw' => Or.inl ⟨by kernel_rfl, Or.inl (by go_simp)⟩) ?_
  refine wpAnyE_take 15 (v := (.pointer (some ⟨g, 0, none⟩))) rfl (by kernel_rfl) (fun _ _ _ h => h) hI (fun w' hw' => Or.inl ⟨by kernel_rfl, Or.inl (by go_simp)⟩) ?_
  refine wpAnyE_take 16 (v := (.pointer (some ⟨g, 0, none⟩))) rfl (by kernel_rfl) (fun _ _ _ h => h) hI (fun w' hw' => Or.inl ⟨by kernel_rfl, Or.inl (by go_simp)⟩) ?_
  refine wpAnyE_take 17 (v := (.pointer (some ⟨g, 4, none⟩))) rfl (by kernel_rfl) (fun _ _ _ h => h) hI (fun w' hw' => Or.inl ⟨by kernel_rfl, Or.inl (by go_simp)⟩) ?_
  refine wpAnyE_take 18 (v := (.pointer (some ⟨g, 6, none⟩))) rfl (by kernel_rfl) (fun _ _ _ h => h) hI (fun w' hw' => Or.inl ⟨by kernel_rfl, Or.inl (by go_simp)⟩) ?_
  refine wpAnyE_take 19 (v := (.int .u32 m.width)) rfl (by kernel_rfl) (fun _ _ _ h => h) hI (fun w' hw' => Or.inl ⟨by kernel_rfl, Or.inl (by have y0 : w'.cell? ⟨g, 6, none⟩ = some (.int .u32 m.width) := hw'.cell 6; go_simp)⟩) ?_
  refine wpAnyE_take 20 (v := (.agg #[.int .i64 0, .int .u32 m.width, .slice none 0 0, .slice none 0 0])) rfl (by kernel_rfl) (fun _ _ _ h => h) hI (fun w' hw' => Or.inl ⟨by kernel_rfl, Or.inl (by go_simp)⟩) ?_
  refine wpAnyE_take 21 (v := (.pointer (some ⟨g, 0, none⟩))) rfl (by kernel_rfl) (fun _ _ _ h => h) hI (fun w' hw' => Or.inl ⟨by kernel_rfl, Or.inl (by go_simp)⟩) ?_
  refine wpAnyE_take 22 (v := (.pointer (some ⟨g, 0, none⟩))) rfl (by kernel_rfl) (fun _ _ _ h => h) hI (fun w' hw' => Or.inl ⟨by kernel_rfl, Or.inl (by go_simp)⟩) ?_
  refine wpAnyE_take 23 (v := (.pointer (some ⟨g, 0, none⟩))) rfl (by kernel_rfl) (fun _ _ _ h => h) hI (fun w' hw' => Or.inl ⟨by kernel_rfl, Or.inl (by go_simp)⟩) ?_
  refine wpAnyE_take 24 (v := (.pointer (some ⟨g, 4, none⟩))) rfl (by kernel_rfl) (fun _ _ _ h => h) hI (fun w' hw' => Or.inl ⟨by kernel_rfl, Or.inl (by go_simp)⟩) ?_
  refine wpAnyE_take 25 (v := (.pointer (some ⟨g, 7, none⟩))) rfl (by kernel_rfl) (fun _ _ _ h => h) hI (fun w' hw' => Or.inl ⟨by kernel_rfl, Or.inl (by go_simp)⟩) ?_
  refine wpAnyE_take 26 (v := (.int .u32 m.height)) rfl (by kernel_rfl) (fun _ _ _ h => h) hI (fun w' hw' => Or.inl ⟨by kernel_rfl, Or.inl (by have y0 : w'.cell? ⟨g, 7, none⟩ = some (.int .u32 m.height) := hw'.cell 7; go_simp)⟩) ?_
  refine wpAnyE_take 27 (v := (.agg #[.int .i64 0, .int .u32 m.height, .slice none 0 0, .slice none 0 0])) rfl (by kernel_rfl) (fun _ _ _ h => h) hI (fun w' hw' => Or.inl ⟨by kernel_rfl, Or.inl (by go_simp)⟩) ?_
  refine wpAnyE_one 28 rfl (by kernel_rfl) hI (fun K hK => ?_)
  rw [if_pos (by kernel_rfl)]
  go_simp
  refine hK _ _ ?_
  clear hK K
  have hI2 : (fun w' : World => Blk w' g 119 m.cells) (w.drew.alloc (.cells #[.int .i64 0, .int .u32 m.cols, .slice none 0 0, .slice none 0 0, .int .i64 0, .int .u32 m.rows, .slice none 0 0, .slice none 0 0, .int .i64 0, .int .u32 m.width, .slice none 0 0, .slice none 0 0, .int .i64 0, .int .u32 m.height, .slice none 0 0, .slice none 0 0] 123)) := hg.alloc _
  refine wpAnyE_take 29 (v := (.slice (some ⟨w.heap.size, 0, none⟩) 4 4)) rfl (by kernel_rfl) (fun _ _ _ h => h) hI2 (fun w' hw' => Or.inl ⟨by kernel_rfl, Or.inl (by go_simp)⟩) ?_
  refine wpAnyE_end (by kernel_rfl) hI2 ?_
  clear hI hI2
  simp only [Exit.then]
  go_wp2_with fail
  go_ret
  refine ⟨((Only.refl _ _).drew).alloc _, _, _, rfl, V, rfl, fun x hx => ?_, fun x hx => ?_⟩
  · simp only [List.mem_cons, List.not_mem_nil, or_false] at hx
    rcases hx with rfl | rfl | rfl | rfl <;> exact ⟨FD.ok.plain _ _ _, plain_off _ _ _⟩
  · obtain ⟨n1, n2, n3, n4, _⟩ := hn
    simp only [List.mem_cons, List.not_mem_nil, or_false] at hx
    rcases hx with rfl | rfl | rfl | rfl
    · exact n1
    · exact n2
    · exact n3
    · exact n4
set_option maxRecDepth 100000 in
set_option maxHeartbeats 1600000 in
theorem getEnvR_any (hg : Blk w g 119 m.cells) (hs : m.text.size ≤ 140737488355328) (hv : m.value.size ≤ 140737488355328) : Calls Tryz.prog 74 #[.pointer (some ⟨g, 0, none⟩)] w (GetsPost w (partsR m 2)) := by
  have hlt := hg.lt
  go_enter Tryz.func74, Tryz.ntmps74
  go_wp2_with fail
  have hI : (fun w' : World => Blk w' g 119 m.cells) { w with drawn := w.drawn + 1 } := hg
  refine wp_region_E (fun w' : World => Blk w' g 119 m.cells) [] (by kernel_rfl) ?_
  refine wpAnyE_take 0 (v := (.pointer (some ⟨g, 0, none⟩))) rfl (by kernel_rfl) (fun _ _ _ h => h) hI (fun w' hw' => Or.inl ⟨by kernel_rfl, Or.inl (by go_simp)⟩) ?_
  refine wpAnyE_take 1 (v := (.pointer (some ⟨g, 0, none⟩))) rfl (by kernel_rfl) (fun _ _ _ h => h) hI (fun w' hw' => Or.inl ⟨by kernel_rfl, Or.inl (by go_simp)⟩) ?_
  refine wpAnyE_take 2 (v := (.pointer (some ⟨g, 0, none⟩))) rfl (by kernel_rfl) (fun _ _ _ h => h) hI (fun w' hw' => Or.inl ⟨by kernel_rfl, Or.inl (by go_simp)⟩) ?_
  refine wpAnyE_take 3 (v := (.pointer (some ⟨g, 1, none⟩))) rfl (by kernel_rfl) (fun _ _ _ h => h) hI (fun w' hw' => Or.inl ⟨by kernel_rfl, Or.inl (by go_simp)⟩) ?_
  refine wpAnyE_take 4 (v := (.string m.text)) rfl (by kernel_rfl) (fun _ _ _ h => h) hI (fun w' hw' => Or.inl ⟨by kernel_rfl, Or.inl (by have y0 : w'.cell? ⟨g, 1, none⟩ = some (.string m.text) := hw'.cell 1; go_simp)⟩) ?_
  refine wpAnyE_take 6 (v := (.pointer (some ⟨g, 0, none⟩))) rfl (by kernel_rfl) (fun _ _ _ h => h) hI (fun w' hw' => Or.inl ⟨by kernel_rfl, Or.inl (by go_simp)⟩) ?_
  refine wpAnyE_take 7 (v := (.pointer (some ⟨g, 0, none⟩))) rfl (by kernel_rfl) (fun _ _ _ h => h) hI (fun w' hw' => Or.inl ⟨by kernel_rfl, Or.inl (by go_simp)⟩) ?_
  refine wpAnyE_take 8 (v := (.pointer (some ⟨g, 0, none⟩))) rfl (by kernel_rfl) (fun _ _ _ h => h) hI (fun w' hw' => Or.inl ⟨by kernel_rfl, Or.inl (by go_simp)⟩) ?_
  refine wpAnyE_take 9 (v := (.pointer (some ⟨g, 2, none⟩))) rfl (by kernel_rfl) (fun _ _ _ h => h) hI (fun w' hw' => Or.inl ⟨by kernel_rfl, Or.inl (by go_simp)⟩) ?_
  refine wpAnyE_take 10 (v := (.string m.value)) rfl (by kernel_rfl) (fun _ _ _ h => h) hI (fun w' hw' => Or.inl ⟨by kernel_rfl, Or.inl (by have y0 : w'.cell? ⟨g, 2, none⟩ = some (.string m.value) := hw'.cell 2; go_simp)⟩) ?_
  have P0 : Only [] w w.drew := (Only.refl _ _).drew
  have T0 := rtext_any m.text w.drew hs
  refine wpAnyE_one 5 rfl (by kernel_rfl) hI (fun K hK => ?_)
  rw [if_pos (by kernel_rfl)]
  go_simp
  go_call T0 as e w1 ⟨Q1, f1, rfl, hp1, hnew1, ok1, hn1⟩
  clear T0
  have P1 : Only [] w w1 := P0.trans Q1 (by simp)
  have hI1 : (fun w' : World => Blk w' g 119 m.cells) w1 := hg.only P1 (by simp)
  refine hK _ _ ?_
  clear hK K
  unfold FD.val
  have T1 := rtext_any m.value w1 hv
  refine wpAnyE_one 11 rfl (by kernel_rfl) hI1 (fun K hK => ?_)
  rw [if_pos (by kernel_rfl)]
  go_simp
  go_call T1 as e w2 ⟨Q2, f2, rfl, hp2, hnew2, ok2, hn2⟩
  clear T1
  have P2 : Only [] w w2 := P1.trans Q2 (by simp)
  have hI2 : (fun w' : World => Blk w' g 119 m.cells) w2 := hg.only P2 (by simp)
  have ok1 := ok1.only Q2
  refine hK _ _ ?_
  clear hK K
  unfold FD.val
  have V := ownF_lit w2 [f1, f2] 2 rfl (by decide) #[.int .i64 f1.kind, .int .u32 f1.n, .slice f1.tA f1.text.length f1.tc, .slice f1.lA f1.list.length f1.lc, .int .i64 f2.kind, .int .u32 f2.n, .slice f2.tA f2.text.length f2.tc, .slice f2.lA f2.list.length f2.lc] (by simp [fcells, FD.cells])
  refine wpAnyE_one 12 rfl (by kernel_rfl) hI2 (fun K hK => ?_)
  rw [if_pos (by kernel_rfl)]
  go_simp
  refine hK _ _ ?_
  clear hK K
  have PL : Only [] w2 (w2.alloc (.cells #[.int .i64 f1.kind, .int .u32 f1.n, .slice f1.tA f1.text.length f1.tc, .slice f1.lA f1.list.length f1.lc, .int .i64 f2.kind, .int .u32 f2.n, .slice f2.tA f2.text.length f2.tc, .slice f2.lA f2.list.length f2.lc] 123)) := (Only.refl _ _).alloc _
  have hIL : (fun w' : World => Blk w' g 119 m.cells) (w2.alloc (.cells #[.int .i64 f1.kind, .int .u32 f1.n, .slice f1.tA f1.text.length f1.tc, .slice f1.lA f1.list.length f1.lc, .int .i64 f2.kind, .int .u32 f2.n, .slice f2.tA f2.text.length f2.tc, .slice f2.lA f2.list.length f2.lc] 123)) := hI2.alloc _
  refine wpAnyE_take 13 (v := (.slice (some ⟨w2.heap.size, 0, none⟩) 2 2)) rfl (by kernel_rfl) (fun _ _ _ h => h) hIL (fun w' hw' => Or.inl ⟨by kernel_rfl, Or.inl (by go_simp)⟩) ?_
  refine wpAnyE_end (by kernel_rfl) hIL ?_
  simp only [Exit.then]
  go_wp2_with fail
  go_ret
  refine ⟨P2.trans PL (by simp), _, _, rfl, V.mono P2.size, ?_, fun x hx => ?_, fun x hx => ?_⟩
  · simp only [List.map_cons, List.map_nil, hp1, hp2]; rfl
  · simp only [List.mem_cons, List.not_mem_nil, or_false] at hx
    rcases hx with rfl | rfl
    · exact ⟨ok1.only PL, off_new ok1 _ _⟩
    · exact ⟨ok2.only PL, off_new ok2 _ _⟩
  · simp only [List.mem_cons, List.not_mem_nil, or_false] at hx
    rcases hx with rfl | rfl
    · exact hn1
    · exact hn2
set_option maxRecDepth 100000 in
set_option maxHeartbeats 1600000 in
theorem getDeathR_any (hg : Blk w g 119 m.cells) (hs : m.text.size ≤ 140737488355328) (hv : m.value.size ≤ 140737488355328) (hl : m.lang.size ≤ 140737488355328) : Calls Tryz.prog 90 #[.pointer (some ⟨g, 0, none⟩)] w (GetsPost w (partsR m 10)) := by
  have hlt := hg.lt
  go_enter Tryz.func90, Tryz.ntmps90
  go_wp2_with fail
  have hI : (fun w' : World => Blk w' g 119 m.cells) { w with drawn := w.drawn + 1 } := hg
  refine wp_region_E (fun w' : World => Blk w' g 119 m.cells) [] (by kernel_rfl) ?_
  refine wpAnyE_take 0 (v := (.pointer (some ⟨g, 0, none⟩))) rfl (by kernel_rfl) (fun _ _ _ h => h) hI (fun w' hw' => Or.inl ⟨by kernel_rfl, Or.inl (by go_simp)⟩) ?_
  refine wpAnyE_take 1 (v := (.pointer (some ⟨g, 0, none⟩))) rfl (by kernel_rfl) (fun _ _ _ h => h) hI (fun w' hw' => Or.inl ⟨by kernel_rfl, Or.inl (by go_simp)⟩) ?_
  refine wpAnyE_take 2 (v := (.pointer (some ⟨g, 0, none⟩))) rfl (by kernel_rfl) (fun _ _ _ h => h) hI (fun w' hw' => Or.inl ⟨by kernel_rfl, Or.inl (by go_simp)⟩) ?_
  refine wpAnyE_take 3 (v := (.pointer (some ⟨g, 1, none⟩))) rfl (by kernel_rfl) (fun _ _ _ h => h) hI (fun w' hw' => Or.inl ⟨by kernel_rfl, Or.inl (by go_simp)⟩) ?_
  refine wpAnyE_take 4 (v := (.string m.text)) rfl (by kernel_rfl) (fun _ _ _ h => h) hI (fun w' hw' => Or.inl ⟨by kernel_rfl, Or.inl (by have y0 : w'.cell? ⟨g, 1, none⟩ = some (.string m.text) := hw'.cell 1; go_simp)⟩) ?_
  refine wpAnyE_take 6 (v := (.pointer (some ⟨g, 0, none⟩))) rfl (by kernel_rfl) (fun _ _ _ h => h) hI (fun w' hw' => Or.inl ⟨by kernel_rfl, Or.inl (by go_simp)⟩) ?_
  refine wpAnyE_take 7 (v := (.pointer (some ⟨g, 0, none⟩))) rfl (by kernel_rfl) (fun _ _ _ h => h) hI (fun w' hw' => Or.inl ⟨by kernel_rfl, Or.inl (by go_simp)⟩) ?_
  refine wpAnyE_take 8 (v := (.pointer (some ⟨g, 0, none⟩))) rfl (by kernel_rfl) (fun _ _ _ h => h) hI (fun w' hw' => Or.inl ⟨by kernel_rfl, Or.inl (by go_simp)⟩) ?_
  refine wpAnyE_take 9 (v := (.pointer (some ⟨g, 9, none⟩))) rfl (by kernel_rfl) (fun _ _ _ h => h) hI (fun w' hw' => Or.inl ⟨by kernel_rfl, Or.inl (by go_simp)⟩) ?_
  refine wpAnyE_take 10 (v := (.bool m.on)) rfl (by kernel_rfl) (fun _ _ _ h => h) hI (fun w' hw' => Or.inl ⟨by kernel_rfl, Or.inl (by have y0 : w'.cell? ⟨g, 9, none⟩ = some (.bool m.on) := hw'.cell 9; go_simp)⟩) ?_
  refine wpAnyE_take 12 (v := (.pointer (some ⟨g, 0, none⟩))) rfl (by kernel_rfl) (fun _ _ _ h => h) hI (fun w' hw' => Or.inl ⟨by kernel_rfl, Or.inl (by go_simp)⟩) ?_
  refine wpAnyE_take 13 (v := (.pointer (some ⟨g, 0, none⟩))) rfl (by kernel_rfl) (fun _ _ _ h => h) hI (fun w' hw' => Or.inl ⟨by kernel_rfl, Or.inl (by go_simp)⟩) ?_
  refine wpAnyE_take 14 (v := (.pointer (some ⟨g, 0, none⟩))) rfl (by kernel_rfl) (fun _ _ _ h => h) hI (fun w' hw' => Or.inl ⟨by kernel_rfl, Or.inl (by go_simp)⟩) ?_
  refine wpAnyE_take 15 (v := (.pointer (some ⟨g, 2, none⟩))) rfl (by kernel_rfl) (fun _ _ _ h => h) hI (fun w' hw' => Or.inl ⟨by kernel_rfl, Or.inl (by go_simp)⟩) ?_
  refine wpAnyE_take 16 (v := (.string m.value)) rfl (by kernel_rfl) (fun _ _ _ h => h) hI (fun w' hw' => Or.inl ⟨by kernel_rfl, Or.inl (by have y0 : w'.cell? ⟨g, 2, none⟩ = some (.string m.value) := hw'.cell 2; go_simp)⟩) ?_
  refine wpAnyE_take 18 (v := (.pointer (some ⟨g, 0, none⟩))) rfl (by kernel_rfl) (fun _ _ _ h => h) hI (fun w' hw' => Or.inl ⟨by kernel_rfl, Or.inl (by go_simp)⟩) ?_
  refine wpAnyE_take 19 (v := (.pointer (some ⟨g, 0, none⟩))) rfl (by kernel_rfl) (fun _ _ _ h => h) hI (fun w' hw' => Or.inl ⟨by kernel_rfl, Or.inl (by go_simp)⟩) ?_
  refine wpAnyE_take 20 (v := (.pointer (some ⟨g, 0, none⟩))) rfl (by kernel_rfl) (fun _ _ _ h => h) hI (fun w' hw' => Or.inl ⟨by kernel_rfl, Or.inl (by go_simp)⟩) ?_
  refine wpAnyE_take 21 (v := (.pointer (some ⟨g, 3, none⟩))) rfl (by kernel_rfl) (fun _ _ _ h => h) hI (fun w' hw' => Or.inl ⟨by kernel_rfl, Or.inl (by go_simp)⟩) ?_
  refine wpAnyE_take 22 (v := (.string m.lang)) rfl (by kernel_rfl) (fun _ _ _ h => h) hI (fun w' hw' => Or.inl ⟨by kernel_rfl, Or.inl (by have y0 : w'.cell? ⟨g, 3, none⟩ = some (.string m.lang) := hw'.cell 3; go_simp)⟩) ?_
  have P0 : Only [] w w.drew := (Only.refl _ _).drew
  have T0 := rtext_any m.text w.drew hs
  refine wpAnyE_one 5 rfl (by kernel_rfl) hI (fun K hK => ?_)
  rw [if_pos (by kernel_rfl)]
  go_simp
  go_call T0 as e w1 ⟨Q1, f1, rfl, hp1, hnew1, ok1, hn1⟩
  clear T0
  have P1 : Only [] w w1 := P0.trans Q1 (by simp)
  have hI1 : (fun w' : World => Blk w' g 119 m.cells) w1 := hg.only P1 (by simp)
  refine hK _ _ ?_
  clear hK K
  unfold FD.val
  have T1 := rflag_any m.on w1
  refine wpAnyE_one 11 rfl (by kernel_rfl) hI1 (fun K hK => ?_)
  rw [if_pos (by kernel_rfl)]
  go_simp
  go_call T1 as e w2 ⟨Q2, f2, rfl, hp2, hnew2, ok2, hn2⟩
  clear T1
  have P2 : Only [] w w2 := P1.trans Q2 (by simp)
  have hI2 : (fun w' : World => Blk w' g 119 m.cells) w2 := hg.only P2 (by simp)
  have ok1 := ok1.only Q2
  refine hK _ _ ?_
  clear hK K
  unfold FD.val
  have T2 := rtext_any m.value w2 hv
  refine wpAnyE_one 17 rfl (by kernel_rfl) hI2 (fun K hK => ?_)
  rw [if_pos (by kernel_rfl)]
  go_simp
  go_call T2 as e w3 ⟨Q3, f3, rfl, hp3, hnew3, ok3, hn3⟩
  clear T2
  have P3 : Only [] w w3 := P2.trans Q3 (by simp)
  have hI3 : (fun w' : World => Blk w' g 119 m.cells) w3 := hg.only P3 (by simp)
  have ok1 := ok1.only Q3
  have ok2 := ok2.only Q3
  refine hK _ _ ?_
  clear hK K
  unfold FD.val
  have T3 := rtext_any m.lang w3 hl
  refine wpAnyE_one 23 rfl (by kernel_rfl) hI3 (fun K hK => ?_)
  rw [if_pos (by kernel_rfl)]
  go_simp
  go_call T3 as e w4 ⟨Q4, f4, rfl, hp4, hnew4, ok4, hn4⟩
  clear T3
  have P4 : Only [] w w4 := P3.trans Q4 (by simp)
  have hI4 : (fun w' : World => Blk w' g 119 m.cells) w4 := hg.only P4 (by simp)
  have ok1 := ok1.only Q4
  have ok2 := ok2.only Q4
  have ok3 := ok3.only Q4
  refine hK _ _ ?_
  clear hK K
  unfold FD.val
  have V := ownF_lit w4 [f1, f2, f3, f4] 4 rfl (by decide) #[.int .i64 f1.kind, .int .u32 f1.n, .slice f1.tA f1.text.length f1.tc, .slice f1.lA f1.list.length f1.lc, .int .i64 f2.kind, .int .u32 f2.n, .slice f2.tA f2.text.length f2.tc, .slice f2.lA f2.list.length f2.lc, .int .i64 f3.kind, .int .u32 f3.n, .slice f3.tA f3.text.length f3.tc, .slice f3.lA f3.list.length f3.lc, .int .i64 f4.kind, .int .u32 f4.n, .slice f4.tA f4.text.length f4.tc, .slice f4.lA f4.list.length f4.lc] (by simp [fcells, FD.cells])
  refine wpAnyE_one 24 rfl (by kernel_rfl) hI4 (fun K hK => ?_)
  rw [if_pos (by kernel_rfl)]
  go_simp
  refine hK _ _ ?_
  clear hK K
  have PL : Only [] w4 (w4.alloc (.cells #[.int .i64 f1.kind, .int .u32 f1.n, .slice f1.tA f1.text.length f1.tc, .slice f1.lA f1.list.length f1.lc, .int .i64 f2.kind, .int .u32 f2.n, .slice f2.tA f2.text.length f2.tc, .slice f2.lA f2.list.length f2.lc, .int .i64 f3.kind, .int .u32 f3.n, .slice f3.tA f3.text.length f3.tc, .slice f3.lA f3.list.length f3.lc, .int .i64 f4.kind, .int .u32 f4.n, .slice f4.tA f4.text.length f4.tc, .slice f4.lA f4.list.length f4.lc] 123)) := (Only.refl _ _).alloc _
  have hIL : (fun w' : World => Blk w' g 119 m.cells) (w4.alloc (.cells #[.int .i64 f1.kind, .int .u32 f1.n, .slice f1.tA f1.text.length f1.tc, .slice f1.lA f1.list.length f1.lc, .int .i64 f2.kind, .int .u32 f2.n, .slice f2.tA f2.text.length f2.tc, .slice f2.lA f2.list.length f2.lc, .int .i64 f3.kind, .int .u32 f3.n, .slice f3.tA f3.text.length f3.tc, .slice f3.lA f3.list.length f3.lc, .int .i64 f4.kind, .int .u32 f4.n, .slice f4.tA f4.text.length f4.tc, .slice f4.lA f4.list.length f4.lc] 123)) := hI4.alloc _
  refine wpAnyE_take 25 (v := (.slice (some ⟨w4.heap.size, 0, none⟩) 4 4)) rfl (by kernel_rfl) (fun _ _ _ h => h) hIL (fun w' hw' => Or.inl ⟨by kernel_rfl, Or.inl (by go_simp)⟩) ?_
  refine wpAnyE_end (by kernel_rfl) hIL ?_
  simp only [Exit.then]
  go_wp2_with fail
  go_ret
  refine ⟨P4.trans PL (by simp), _, _, rfl, V.mono P4.size, ?_, fun x hx => ?_, fun x hx => ?_⟩
  · simp only [List.map_cons, List.map_nil, hp1, hp2, hp3, hp4]; rfl
  · simp only [List.mem_cons, List.not_mem_nil, or_false] at hx
    rcases hx with rfl | rfl | rfl | rfl
    · exact ⟨ok1.only PL, off_new ok1 _ _⟩
    · exact ⟨ok2.only PL, off_new ok2 _ _⟩
    · exact ⟨ok3.only PL, off_new ok3 _ _⟩
    · exact ⟨ok4.only PL, off_new ok4 _ _⟩
  · simp only [List.mem_cons, List.not_mem_nil, or_false] at hx
    rcases hx with rfl | rfl | rfl | rfl
    · exact hn1
    · exact hn2
    · exact hn3
    · exact hn4
end
end Go.Proofs.YtdplnedpbkpgpaaGreatDoor
