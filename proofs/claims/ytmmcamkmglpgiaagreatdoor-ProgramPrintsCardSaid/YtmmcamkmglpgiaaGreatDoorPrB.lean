/- Layer 19: a text read back from how it is written; for all texts; no condition but their length. -/
import Derived.Test.YtmmcamkmglpgiaaGreatDoorPrA
import Derived.Test.YtmmcamkmglpgiaaGreatDoorEngAC
import Derived.Test.YtmmcamkmglpgiaaGreatDoorEngK
namespace Go.Proofs.YtmmcamkmglpgiaaGreatDoor
open Go.RowKit
set_option linter.all false
set_option maxRecDepth 100000
theorem strL_data (l : List UInt8) : (strL l).data.toList = l := rfl
theorem strL_nil : strL [] = ⟨#[]⟩ := rfl
theorem strL_of (s : ByteArray) : s = strL s.data.toList := by cases s; rfl
theorem strL_inj {a b : List UInt8} (h : strL a = strL b) : a = b := by have := congrArg (fun s : ByteArray => s.data.toList) h; exact this
theorem str_cmp (a b : List UInt8) : ((strL a).toList == (strL b).toList) = (a == b) := by
  rw [ByteArray.toList_eq, ByteArray.toList_eq]; rfl
theorem str_cmp0 (a : List UInt8) : ((strL a).toList == (⟨#[]⟩ : ByteArray).toList) = a.isEmpty := by
  rw [show (⟨#[]⟩ : ByteArray) = strL [] from rfl, str_cmp]; cases a <;> rfl
section
variable {f : FR} {R : Ending → World → Prop} {n : Nat} {w0 : World} {L : List Nat} {β : List Nat} {m : SM}
theorem Hs.sIdx (l : List UInt8) (i : Nat) (c : UInt8) (hi : l[i]? = some c) (hs : semOf n β m = some (valS (Instr.index 9 (.string (strL l)) (.int .i64 (i : Int))))) (k : Hs Tryz.prog f R n w0 L β (m.put (dstOf m) (.c (.v (.int .u8 c.toNat))) m.hp)) : Hs Tryz.prog f R n w0 L β m := by
  refine Hs.opV (.c (.v (.int .u8 c.toNat))) hs rfl (fun w H => ?_) k
  have hu : Tryz.prog.underlying 9 = some .string := by kernel_rfl
  have hg : (strL l)[i]? = some c := by
    have h1 := (List.getElem?_eq_some_iff.1 hi)
    obtain ⟨h1, h2⟩ := h1
    have h3 : i < (strL l).size := h1
    rw [getElem?_pos (strL l) i h3]
    exact congrArg some h2
  simp only [Instr.index, asIntOf, Sem.run_bind, Sem.run_pure, Result.andThen_ok, run_underlying hu w]
  rw [if_pos (Int.natCast_nonneg i)]
  simp only [Int.toNat_natCast, hg]
  rfl
theorem Hs.sCut (l : List UInt8) (i : Nat) (hi : i ≤ l.length) (hs : semOf n β m = some (valS (Instr.sliceAt 9 (.string (strL l)) (some (.int .i64 (i : Int))) none none))) (k : Hs Tryz.prog f R n w0 L β (m.put (dstOf m) (.c (.v (.string (strL (l.drop i))))) m.hp)) : Hs Tryz.prog f R n w0 L β m := by
  refine Hs.opV (.c (.v (.string (strL (l.drop i))))) hs rfl (fun w H => ?_) k
  have hu : Tryz.prog.underlying 9 = some .string := by kernel_rfl
  rw [run_sliceAt_string (h := hu)]
  exact run_cut2 l i hi w
end
def withinB (n lo hi : Int) : Bool := decide (lo ≤ n) && decide (n ≤ hi)
theorem within_any (n lo hi : Int) (w : World) : Calls Tryz.prog 18 #[.int .i64 n, .int .i64 lo, .int .i64 hi] w fun e w' => e = .returned (.bool (withinB n lo hi)) ∧ Only [] w w' := by
  refine Hs.enter Tryz.func18 [] [] [] [.c (.v (.int .i64 n)), .c (.v (.int .i64 lo)), .c (.v (.int .i64 hi))] (Mem.start0 w) (by kernel_rfl) (by kernel_rfl) ?_
  refine Hs.run0 300 (fun _ => by kernel_rfl) ?_
  refine Hs.bool 10 (decide (lo ≤ n)) (by kernel_rfl) (fun h => ?_) (fun h => ?_)
  · refine Hs.rung0 [3] 300 (fun _ => by kernel_rfl) ?_
    exact Hs.ret (v := .bool (decide (n ≤ hi))) Tryz.func18 (by kernel_rfl) fun w' H => ⟨by simp [withinB, of_decide_eq_true h], H.only⟩
  · refine Hs.rung0 [3] 300 (fun _ => by kernel_rfl) ?_
    exact Hs.ret (v := .bool false) Tryz.func18 (by kernel_rfl) fun w' H => ⟨by simp [withinB, of_decide_eq_false h], H.only⟩
def itselfI (c : Int) : Bool := decide (32 < c) && (decide (c ≤ 126) && decide (c ≠ 92))
def itselfB (c : UInt8) : Bool := itselfI c.toNat
theorem itself_any (c : Int) (w : World) : Calls Tryz.prog 79 #[.int .u8 c] w fun e w' => e = .returned (.bool (itselfI c)) ∧ Only [] w w' := by
  refine Hs.enter Tryz.func79 [] [] [] [.c (.v (.int .u8 c))] (Mem.start0 w) (by kernel_rfl) (by kernel_rfl) ?_
  refine Hs.run0 300 (fun _ => by kernel_rfl) ?_
  refine Hs.bool 5 (decide ((32 : Int) < c)) (by kernel_rfl) (fun h => ?_) (fun h => ?_)
  · refine Hs.rung0 [2] 300 (fun _ => by kernel_rfl) ?_
    refine Hs.bool 9 (decide (c ≤ 126)) (by kernel_rfl) (fun h2 => ?_) (fun h2 => ?_)
    · refine Hs.rung0 [2, 6] 300 (fun _ => by kernel_rfl) ?_
      refine Hs.slot 2 (.c (.v (.bool (decide (c ≠ 92))))) rfl ((by kernel_rfl : _ = Value.bool (!(decide (c = 92)))).trans (by simp [SV.den, SC.den])) ?_
      exact Hs.ret (v := .bool (decide (c ≠ 92))) Tryz.func79 (by kernel_rfl) fun w' H => ⟨by simp [itselfI, of_decide_eq_true h, of_decide_eq_true h2], H.only⟩
    · refine Hs.rung0 [2, 6] 300 (fun _ => by kernel_rfl) ?_
      exact Hs.ret (v := .bool false) Tryz.func79 (by kernel_rfl) fun w' H => ⟨by simp [itselfI, of_decide_eq_true h, of_decide_eq_false h2], H.only⟩
  · refine Hs.rung0 [2] 300 (fun _ => by kernel_rfl) ?_
    refine Hs.rung0 [2, 6] 300 (fun _ => by kernel_rfl) ?_
    exact Hs.ret (v := .bool false) Tryz.func79 (by kernel_rfl) fun w' H => ⟨by simp [itselfI, of_decide_eq_false h], H.only⟩
def badR (c : Int) : Bool := decide (c ≤ 32) || decide (c > 126)
theorem parse1_any (c : Int) (w : World) : Calls Tryz.prog 36 #[.int .i32 c] w fun e w' => e = .returned (.bool (badR c)) ∧ Only [] w w' := by
  refine Hs.enter Tryz.func36 [] [] [] [.c (.v (.int .i32 c))] (Mem.start0 w) (by kernel_rfl) (by kernel_rfl) ?_
  refine Hs.run0 300 (fun _ => by kernel_rfl) ?_
  refine Hs.bool 5 (decide (c ≤ 32)) (by kernel_rfl) (fun h => ?_) (fun h => ?_)
  · refine Hs.rung0 [2] 300 (fun _ => by kernel_rfl) ?_
    exact Hs.ret (v := .bool true) Tryz.func36 (by kernel_rfl) fun w' H => ⟨by simp [badR, of_decide_eq_true h], H.only⟩
  · refine Hs.rung0 [2] 300 (fun _ => by kernel_rfl) ?_
    exact Hs.ret (v := .bool (decide (c > 126))) Tryz.func36 (by kernel_rfl) fun w' H => ⟨by simp [badR, of_decide_eq_false h], H.only⟩
def hexL : List UInt8 := [48, 49, 50, 51, 52, 53, 54, 55, 56, 57, 97, 98, 99, 100, 101, 102]
def digI (c : Int) : Int := Lib.indexByte hexL c.toNat.toUInt8
theorem digit_any (c : Int) (w : World) : Calls Tryz.prog 87 #[.int .u8 c] w fun e w' => e = .returned (.int .i64 (digI c)) ∧ Only [] w w' := by
  refine Hs.enter Tryz.func87 [] [] [] [.c (.v (.int .u8 c))] (Mem.start0 w) (by kernel_rfl) (by kernel_rfl) ?_
  refine Hs.run0 300 (fun _ => by kernel_rfl) ?_
  refine Hs.callV (v := .int .i64 (digI c)) (fun w' H => (Tryz.strings_IndexByte (strL hexL) c w').mono ?_) (by kernel_rfl) ?_
  · rintro e w2 ⟨rfl, rfl⟩
    exact ⟨rfl, Only.refl _ _⟩
  refine Hs.run0 300 (fun _ => by kernel_rfl) ?_
  exact Hs.ret (v := .int .i64 (digI c)) Tryz.func87 (by kernel_rfl) fun w' H => ⟨rfl, H.only⟩
end Go.Proofs.YtmmcamkmglpgiaaGreatDoor
